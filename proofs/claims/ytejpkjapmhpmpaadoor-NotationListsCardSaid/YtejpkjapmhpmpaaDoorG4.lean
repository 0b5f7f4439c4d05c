/- Rules and walks, joined from 2 texts: the first of them says: A small curve that a statement makes. No condition. -/
import Derived.Test.YtejpkjapmhpmpaaDoorG3
/- A small curve that a statement makes. No condition. -/
set_option maxRecDepth 4000
set_option linter.unusedSimpArgs false
set_option linter.unusedVariables false
namespace Go.Proofs.YtejpkjapmhpmpaaDoor
open Go Go.RowKit Go.Proofs.YtejpkjapmhpmpaaDoor.K Go.Proofs.YtejpkjapmhpmpaaDoor.M

set_option maxHeartbeats 4000000 in
theorem KCurve_C {R : Ro} {b : Nat} {a : Option Addr} {cp : Nat} {xs : List Int} {c : Nat} (w0 : World) (ha : RS R 1 encI a xs) {most : Nat} (hmo : 1 ≤ most ∧ most ≤ 20) : FnAt Tryd.prog 10 [.pointer (some ⟨b, 0, none⟩), .int .i64 (most : Int)] w0 R (srcE b a cp xs c) (fun v R' e' N => ∃ (f : Option Addr) (fc cn : Nat) (cv : Cv), v = .agg #[.slice f cv.vals.length fc, .int .i64 cv.per, .int .i64 cv.inc] ∧ RS R' 1 encI f cv.vals ∧ SmallC cv ∧ cv.vals.length ≤ fc ∧ e' = srcE b a cp xs cn ∧ N = []) := by
 intro F
 have hm0 := mod_range (nth xs c) (show (1 : Int) ≤ (most : Int) by omega)
 obtain ⟨n, hn⟩ := Int.eq_ofNat_of_zero_le (show 0 ≤ 1 + mod (nth xs c) (most : Int) by omega)
 have hn20 : 1 ≤ n ∧ n ≤ 20 := by omega
 refine fE 77 Tryd.func10 ?_
 refine zQ (zG ?_)
 refine zA fun b4 => ?_
 refine zN (zU (zQ (zG (zR 2 rfl ?_))))
 refine WL.callAt 1 en12 rfl rfl qD (CallOp.mkT rfl rfl rfl rfl) rfl (N_C w0 ha (by constructor <;> omega) _) ?_
 rintro _ _ _ _ - ⟨rfl, rfl, rfl, rfl⟩
 refine yA ?_
 rw [hn]
 refine zR 1 rfl (zN (zU (zQ (zG (zR 3 rfl ?_)))))
 refine WL.callAt 1 en12 rfl rfl qD (CallOp.mkT rfl rfl rfl rfl) rfl (N_C w0 ha (by constructor <;> split <;> omega) _) ?_
 rintro _ _ _ _ - ⟨rfl, rfl, rfl, rfl⟩
 have hm1 := mod_range (nth xs (c + 1)) (show (1 : Int) ≤ (if (4 : Int) < (n : Int) then 4 else (n : Int)) by split <;> omega)
 obtain ⟨P, hP⟩ := Int.eq_ofNat_of_zero_le (show 0 ≤ 1 + mod (nth xs (c + 1)) (if (4 : Int) < (n : Int) then 4 else (n : Int)) by omega)
 have hP4 : 1 ≤ P ∧ P ≤ 4 ∧ P ≤ n := by generalize mod (nth xs (c + 1)) (if (4 : Int) < (n : Int) then 4 else (n : Int)) = q at hm1 hP; split at hm1 <;> omega
 refine yA ?_
 rw [hP]
 -- build
 refine WG.y rfl rfl qD (Yl.build (parts := [(1, .tmp 17)]) tab_ok rfl rfl rfl rfl (fun _ => rfl) rfl rfl) ?_
 refine zA fun b6 => ?_
 first | refine WL.efN rfl rfl (Ef.store0 0 tab_ok rfl rfl rfl rfl rfl rfl rfl rfl ?_) | refine WL.efN rfl rfl (Ef.store0 1 tab_ok rfl rfl rfl rfl rfl rfl rfl rfl ?_) | refine WL.efN rfl rfl (Ef.store0 2 tab_ok rfl rfl rfl rfl rfl rfl rfl rfl ?_) | refine WL.efN rfl rfl (Ef.store0 3 tab_ok rfl rfl rfl rfl rfl rfl rfl rfl ?_) | refine WL.efN rfl rfl (Ef.store0 4 tab_ok rfl rfl rfl rfl rfl rfl rfl rfl ?_) | refine WL.efN rfl rfl (Ef.store0 5 tab_ok rfl rfl rfl rfl rfl rfl rfl rfl ?_) | refine WL.efN rfl rfl (Ef.store0 6 tab_ok rfl rfl rfl rfl rfl rfl rfl rfl ?_)
 refine zN (zU (zQ (zG (zR 1 rfl ?_))))
 refine WL.ef rfl rfl qD (Ef.buildSliceD (enc := encI) (parts := [.const (.int .i64 0), .const (.int .i64 0), .const (.int .i64 0), .const (.int .i64 3)]) [_, _, _, _] tab_ok rfl rfl rfl rfl rfl rfl rfl rfl qD qD (fun a20 => ?_))
 refine WL.callAt 3 en33 rfl rfl qD (CallOp.mkT rfl rfl rfl rfl) rfl (PickM_C (j := 0) w0 ([0, 0, 0, 3] : List Int) rfl qD qD ha rfl) ?_
 rintro _ _ _ _ - ⟨rfl, rfl, rfl, rfl⟩
 obtain ⟨v0, hv0⟩ : ∃ v, nth ([0, 0, 0, 3] : List Int) (mod (nth xs (c + 1 + 1)) ((4 : Nat) : Int)).toNat = v := ⟨_, rfl⟩
 have hv03 : 0 ≤ v0 ∧ v0 ≤ 3 := by
  have hm2 := mod_range (nth xs (c + 1 + 1)) (show (1 : Int) ≤ ((4 : Nat) : Int) by decide)
  rw [← hv0]
  exact nth_in (by decide) (by simp only [List.length_cons, List.length_nil]; omega)
 rw [hv0]
 refine zR 1 rfl (zN (zU (zQ ?_)))
 refine W.nil 3 1 qD ?_
 refine zQ (zG (zR 1 rfl (zN (zU (zB ?_)))))
 refine W.loopK (β := Nat × Option Addr × Nat) (fun (i, a8, c8) => i ≤ n) (fun (i, a8, c8) => [(7, true, .int .i64 ((upV xs (c + 3) v0) i)), (8, true, .int .i64 (i : Int))]) [0, 4, 5, 6] [_, _, _, _] [] _ rfl (fun (i, a8, c8) => [(0, .sl 3 1 a8 c8 ((fvals (upV xs (c + 3) v0) i).map encI)), (2, .blk b6 [.slice a8 (fvals (upV xs (c + 3) v0) i).length c8, .int .i64 (P : Int), .int .i64 0]), (4, srcE b a cp xs (c + 3 + i))]) (fun (i, a8, c8) => n - i) ((0, none, 0)) (Nat.zero_le _) ⟨rfl, rfl, rfl, rfl, rfl, rfl, rfl⟩ qS ?_
 intro st hst
 obtain ⟨i, a8, c8⟩ := st
 dsimp only [zipE, setAll, List.cons_append, List.nil_append, List.set_cons_zero, List.set_cons_succ] at hst ⊢
 have hUb := upV_bound xs (c + 3) v0 i
 have hUl := fvals_len (upV xs (c + 3) v0) i
 refine zQ (zQ (zG (zR 3 rfl (zN (zU ?_)))))
 refine W.condD rfl (fun hc0 => ?_) (fun hc0 => ?_)
 ·try dsimp only at hc0
  have hil : i < n := by omega
  have hpk : 0 ≤ nth ([0, 0, 1, 2, 5, 9] : List Int) (mod (nth xs (c + 3 + i)) ((6 : Nat) : Int)).toNat ∧ nth ([0, 0, 1, 2, 5, 9] : List Int) (mod (nth xs (c + 3 + i)) ((6 : Nat) : Int)).toNat ≤ 9 := by
   have hm2 := mod_range (nth xs (c + 3 + i)) (show (1 : Int) ≤ ((6 : Nat) : Int) by decide)
   exact nth_in (by decide) (by simp only [List.length_cons, List.length_nil]; omega)
  refine zK (zU (zQ (zB (zQ (zG (zR 1 rfl ?_))))))
  refine' WG.y rfl rfl qD (Yl.load1 tab_ok rfl rfl rfl (fun _ => rfl) ?r1 rfl ?h1) ?_
  case r1 => apply Rd.add; (first | exact Rd.blk 0 rfl | exact Rd.blk 1 rfl | exact Rd.blk 2 rfl | exact Rd.blk 3 rfl | exact Rd.blk 4 rfl | exact Rd.blk 5 rfl | exact Rd.blk 6 rfl)
  case h1 => rfl
  refine zR 1 rfl ?_
  refine WL.ef rfl rfl qD (Ef.buildSliceD (enc := encI) (parts := [.tmp 29]) [_] tab_ok rfl rfl rfl rfl rfl rfl rfl rfl qD qD (fun a30 => ?_))
  first | refine WL.ef rfl rfl (by decide) (Ef.appendD 1 0 tab_ok rfl rfl rfl rfl rfl rfl rfl rfl rfl rfl rfl (fun _ _ => rfl) (by simp only [List.length_cons, List.length_nil]; omega) (by simp only [List.length_cons, List.length_nil]; omega) (fun a31 c31 ha31 => ?_)) | refine WL.ef rfl rfl (by decide) (Ef.appendD 2 0 tab_ok rfl rfl rfl rfl rfl rfl rfl rfl rfl rfl rfl (fun _ _ => rfl) (by simp only [List.length_cons, List.length_nil]; omega) (by simp only [List.length_cons, List.length_nil]; omega) (fun a31 c31 ha31 => ?_)) | refine WL.ef rfl rfl (by decide) (Ef.appendD 3 0 tab_ok rfl rfl rfl rfl rfl rfl rfl rfl rfl rfl rfl (fun _ _ => rfl) (by simp only [List.length_cons, List.length_nil]; omega) (by simp only [List.length_cons, List.length_nil]; omega) (fun a31 c31 ha31 => ?_)) | refine WL.ef rfl rfl (by decide) (Ef.appendD 4 0 tab_ok rfl rfl rfl rfl rfl rfl rfl rfl rfl rfl rfl (fun _ _ => rfl) (by simp only [List.length_cons, List.length_nil]; omega) (by simp only [List.length_cons, List.length_nil]; omega) (fun a31 c31 ha31 => ?_)) | refine WL.ef rfl rfl (by decide) (Ef.appendD 5 0 tab_ok rfl rfl rfl rfl rfl rfl rfl rfl rfl rfl rfl (fun _ _ => rfl) (by simp only [List.length_cons, List.length_nil]; omega) (by simp only [List.length_cons, List.length_nil]; omega) (fun a31 c31 ha31 => ?_)) | refine WL.ef rfl rfl (by decide) (Ef.appendD 6 0 tab_ok rfl rfl rfl rfl rfl rfl rfl rfl rfl rfl rfl (fun _ _ => rfl) (by simp only [List.length_cons, List.length_nil]; omega) (by simp only [List.length_cons, List.length_nil]; omega) (fun a31 c31 ha31 => ?_)) | refine WL.ef rfl rfl (by decide) (Ef.appendR 0 tab_ok rfl rfl rfl rfl rfl rfl rfl rfl rfl rfl (by assumption) (fun _ _ => rfl) (by (try dsimp only); omega) (by omega) (fun a31 c31 ha31 => ?_)) | refine WL.ef rfl rfl (by decide) (Ef.appendR 1 tab_ok rfl rfl rfl rfl rfl rfl rfl rfl rfl rfl (by assumption) (fun _ _ => rfl) (by (try dsimp only); omega) (by omega) (fun a31 c31 ha31 => ?_)) | refine WL.ef rfl rfl (by decide) (Ef.appendR 2 tab_ok rfl rfl rfl rfl rfl rfl rfl rfl rfl rfl (by assumption) (fun _ _ => rfl) (by (try dsimp only); omega) (by omega) (fun a31 c31 ha31 => ?_)) | refine WL.ef rfl rfl (by decide) (Ef.appendR 3 tab_ok rfl rfl rfl rfl rfl rfl rfl rfl rfl rfl (by assumption) (fun _ _ => rfl) (by (try dsimp only); omega) (by omega) (fun a31 c31 ha31 => ?_)) | refine WL.ef rfl rfl (by decide) (Ef.appendR 4 tab_ok rfl rfl rfl rfl rfl rfl rfl rfl rfl rfl (by assumption) (fun _ _ => rfl) (by (try dsimp only); omega) (by omega) (fun a31 c31 ha31 => ?_)) | refine WL.ef rfl rfl (by decide) (Ef.appendR 5 tab_ok rfl rfl rfl rfl rfl rfl rfl rfl rfl rfl (by assumption) (fun _ _ => rfl) (by (try dsimp only); omega) (by omega) (fun a31 c31 ha31 => ?_)) | refine WL.ef rfl rfl (by decide) (Ef.appendR 6 tab_ok rfl rfl rfl rfl rfl rfl rfl rfl rfl rfl (by assumption) (fun _ _ => rfl) (by (try dsimp only); omega) (by omega) (fun a31 c31 ha31 => ?_))
  refine zR 1 rfl ?_
  first | refine WL.efN rfl rfl (Ef.store 0 tab_ok rfl rfl rfl rfl rfl rfl rfl rfl ?_) | refine WL.efN rfl rfl (Ef.store 1 tab_ok rfl rfl rfl rfl rfl rfl rfl rfl ?_) | refine WL.efN rfl rfl (Ef.store 2 tab_ok rfl rfl rfl rfl rfl rfl rfl rfl ?_) | refine WL.efN rfl rfl (Ef.store 3 tab_ok rfl rfl rfl rfl rfl rfl rfl rfl ?_) | refine WL.efN rfl rfl (Ef.store 4 tab_ok rfl rfl rfl rfl rfl rfl rfl rfl ?_) | refine WL.efN rfl rfl (Ef.store 5 tab_ok rfl rfl rfl rfl rfl rfl rfl rfl ?_) | refine WL.efN rfl rfl (Ef.store 6 tab_ok rfl rfl rfl rfl rfl rfl rfl rfl ?_)
  refine zN (zU (zG (zR 2 rfl ?_)))
  refine WL.ef rfl rfl qD (Ef.buildSliceD (enc := encI) (parts := [.const (.int .i64 0), .const (.int .i64 0), .const (.int .i64 1), .const (.int .i64 2), .const (.int .i64 5), .const (.int .i64 9)]) [_, _, _, _, _, _] tab_ok rfl rfl rfl rfl rfl rfl rfl rfl qD qD (fun a35 => ?_))
  refine WL.callAt 6 en33 rfl rfl qD (CallOp.mkT rfl rfl rfl rfl) rfl (PickM_C (j := 0) w0 ([0, 0, 1, 2, 5, 9] : List Int) rfl qD qD ha rfl) ?_
  rintro _ _ _ _ - ⟨rfl, rfl, rfl, rfl⟩
  refine yA ?_
  refine zR 1 rfl (zN (zL (zU (zG (zR 1 rfl ?_)))))
  refine yA ?_
  refine zR 1 rfl (zN ?_)
  refine WE.again ((i + 1, a31, c31)) (by dsimp only; omega) (by (try dsimp only); omega) ⟨rfl, rfl, rfl, rfl, rfl, rfl, rfl⟩ (RLe.refl _) (by dsimp only [setAll, List.set_cons_zero, List.set_cons_succ]; rw [fvals_snoc, List.length_append]; exact qS)
 ·try dsimp only at hc0
  obtain hin : i = n := by omega
  rw [hin] at hUb hUl ⊢
  have hVl : (fvals (upV xs (c + 3) v0) n).length = n := hUl
  have hx1 : nth (fvals (upV xs (c + 3) v0) n) ((n : Int) - 1).toNat = (upV xs (c + 3) v0) (n - 1) := by rw [show ((n : Int) - 1).toNat = n - 1 by omega, fvals_nth _ (by omega)]
  have hx2 : nth (fvals (upV xs (c + 3) v0) n) ((n : Int) - (P : Int)).toNat = (upV xs (c + 3) v0) (n - P) := by rw [show ((n : Int) - (P : Int)).toNat = n - P by omega, fvals_nth _ (by omega)]
  have hgap := upV_gap xs (c + 3) v0 (n - P) (P - 1)
  rw [show n - P + (P - 1) = n - 1 by omega] at hgap
  have hmo2 := upV_mono xs (c + 3) v0 (show n - P ≤ n - 1 by omega)
  have hb1 := upV_bound xs (c + 3) v0 (n - 1)
  have hb2 := upV_bound xs (c + 3) v0 (n - P)
  have hpi : 0 ≤ nth ([0, 0, 1, 3, 4, 8] : List Int) (mod (nth xs (c + 3 + n)) ((6 : Nat) : Int)).toNat ∧ nth ([0, 0, 1, 3, 4, 8] : List Int) (mod (nth xs (c + 3 + n)) ((6 : Nat) : Int)).toNat ≤ 8 := by
   have hm2 := mod_range (nth xs (c + 3 + n)) (show (1 : Int) ≤ ((6 : Nat) : Int) by decide)
   exact nth_in (by decide) (by simp only [List.length_cons, List.length_nil]; omega)
  refine zX ?_
  refine wx (wx (zY (zU ?_)))
  refine W.seqCut (β := Int) (fun I => 0 ≤ I ∧ (upV xs (c + 3) v0) (n - 1) - (upV xs (c + 3) v0) (n - P) ≤ I ∧ I ≤ 50) (fun I => [(0, true, .pointer (some ⟨b, 0, none⟩)), (4, true, .pointer (some ⟨b4, 0, none⟩)), (6, true, .pointer (some ⟨b6, 0, none⟩))]) (fun _ => R) (fun I => .sl 3 1 a8 c8 ((fvals (upV xs (c + 3) v0) n).map encI) :: .blk b6 [.slice a8 (fvals (upV xs (c + 3) v0) n).length c8, .int .i64 (P : Int), .int .i64 I] :: .blk b4 [.slice none 0 0, .int .i64 0, .int .i64 0] :: srcE b a cp xs (c + 3 + n + 1) :: F) ?_ ?_
  ·
   intro I hst
   obtain ⟨hI0, hI1, hI2⟩ := hst
   refine zQ (zQ (zG (zR 1 rfl ?_)))
   refine WL.callAt 3 en12 rfl rfl qD (CallOp.mkT rfl rfl rfl rfl) rfl (N_C w0 ha (by constructor <;> omega) _) ?_
   rintro _ _ _ _ - ⟨rfl, rfl, rfl, rfl⟩
   refine zN (zU (zB (zQ (zG (zR 2 rfl (zN (zU ?_)))))))
   refine W.condE rfl (fun hc1 => ?_) (fun hc1 => ?_)
   ·try dsimp only at hc1
    refine zG (zR 1 rfl ?_)
    refine' WG.y rfl rfl qD (Yl.load1 tab_ok rfl rfl rfl (fun _ => rfl) ?r2 rfl ?h2) ?_
    case r2 => apply Rd.add; (first | exact Rd.blk 0 rfl | exact Rd.blk 1 rfl | exact Rd.blk 2 rfl | exact Rd.blk 3 rfl | exact Rd.blk 4 rfl | exact Rd.blk 5 rfl | exact Rd.blk 6 rfl)
    case h2 => rfl
    refine WL.ef rfl rfl qD (Ef.buildSliceD (enc := encI) (parts := [.const (.int .i64 4611686018427387904)]) [_] tab_ok rfl rfl rfl rfl rfl rfl rfl rfl qD qD (fun a64 => ?_))
    first | refine WL.ef rfl rfl (by decide) (Ef.appendD 1 0 tab_ok rfl rfl rfl rfl rfl rfl rfl rfl rfl rfl rfl (fun _ _ => rfl) (by simp only [List.length_cons, List.length_nil]; omega) (by simp only [List.length_cons, List.length_nil]; omega) (fun a65 c65 ha65 => ?_)) | refine WL.ef rfl rfl (by decide) (Ef.appendD 2 0 tab_ok rfl rfl rfl rfl rfl rfl rfl rfl rfl rfl rfl (fun _ _ => rfl) (by simp only [List.length_cons, List.length_nil]; omega) (by simp only [List.length_cons, List.length_nil]; omega) (fun a65 c65 ha65 => ?_)) | refine WL.ef rfl rfl (by decide) (Ef.appendD 3 0 tab_ok rfl rfl rfl rfl rfl rfl rfl rfl rfl rfl rfl (fun _ _ => rfl) (by simp only [List.length_cons, List.length_nil]; omega) (by simp only [List.length_cons, List.length_nil]; omega) (fun a65 c65 ha65 => ?_)) | refine WL.ef rfl rfl (by decide) (Ef.appendD 4 0 tab_ok rfl rfl rfl rfl rfl rfl rfl rfl rfl rfl rfl (fun _ _ => rfl) (by simp only [List.length_cons, List.length_nil]; omega) (by simp only [List.length_cons, List.length_nil]; omega) (fun a65 c65 ha65 => ?_)) | refine WL.ef rfl rfl (by decide) (Ef.appendD 5 0 tab_ok rfl rfl rfl rfl rfl rfl rfl rfl rfl rfl rfl (fun _ _ => rfl) (by simp only [List.length_cons, List.length_nil]; omega) (by simp only [List.length_cons, List.length_nil]; omega) (fun a65 c65 ha65 => ?_)) | refine WL.ef rfl rfl (by decide) (Ef.appendD 6 0 tab_ok rfl rfl rfl rfl rfl rfl rfl rfl rfl rfl rfl (fun _ _ => rfl) (by simp only [List.length_cons, List.length_nil]; omega) (by simp only [List.length_cons, List.length_nil]; omega) (fun a65 c65 ha65 => ?_)) | refine WL.ef rfl rfl (by decide) (Ef.appendR 0 tab_ok rfl rfl rfl rfl rfl rfl rfl rfl rfl rfl (by assumption) (fun _ _ => rfl) (by (try dsimp only); omega) (by omega) (fun a65 c65 ha65 => ?_)) | refine WL.ef rfl rfl (by decide) (Ef.appendR 1 tab_ok rfl rfl rfl rfl rfl rfl rfl rfl rfl rfl (by assumption) (fun _ _ => rfl) (by (try dsimp only); omega) (by omega) (fun a65 c65 ha65 => ?_)) | refine WL.ef rfl rfl (by decide) (Ef.appendR 2 tab_ok rfl rfl rfl rfl rfl rfl rfl rfl rfl rfl (by assumption) (fun _ _ => rfl) (by (try dsimp only); omega) (by omega) (fun a65 c65 ha65 => ?_)) | refine WL.ef rfl rfl (by decide) (Ef.appendR 3 tab_ok rfl rfl rfl rfl rfl rfl rfl rfl rfl rfl (by assumption) (fun _ _ => rfl) (by (try dsimp only); omega) (by omega) (fun a65 c65 ha65 => ?_)) | refine WL.ef rfl rfl (by decide) (Ef.appendR 4 tab_ok rfl rfl rfl rfl rfl rfl rfl rfl rfl rfl (by assumption) (fun _ _ => rfl) (by (try dsimp only); omega) (by omega) (fun a65 c65 ha65 => ?_)) | refine WL.ef rfl rfl (by decide) (Ef.appendR 5 tab_ok rfl rfl rfl rfl rfl rfl rfl rfl rfl rfl (by assumption) (fun _ _ => rfl) (by (try dsimp only); omega) (by omega) (fun a65 c65 ha65 => ?_)) | refine WL.ef rfl rfl (by decide) (Ef.appendR 6 tab_ok rfl rfl rfl rfl rfl rfl rfl rfl rfl rfl (by assumption) (fun _ _ => rfl) (by (try dsimp only); omega) (by omega) (fun a65 c65 ha65 => ?_))
    -- build
    refine WG.y rfl rfl qD (Yl.build (parts := [(0, .tmp 65), (1, .const (.int .i64 1))]) tab_ok rfl rfl rfl rfl (fun _ => rfl) rfl rfl) ?_
    first | refine WL.efN rfl rfl (Ef.store0 0 tab_ok rfl rfl rfl rfl rfl rfl rfl rfl ?_) | refine WL.efN rfl rfl (Ef.store0 1 tab_ok rfl rfl rfl rfl rfl rfl rfl rfl ?_) | refine WL.efN rfl rfl (Ef.store0 2 tab_ok rfl rfl rfl rfl rfl rfl rfl rfl ?_) | refine WL.efN rfl rfl (Ef.store0 3 tab_ok rfl rfl rfl rfl rfl rfl rfl rfl ?_) | refine WL.efN rfl rfl (Ef.store0 4 tab_ok rfl rfl rfl rfl rfl rfl rfl rfl ?_) | refine WL.efN rfl rfl (Ef.store0 5 tab_ok rfl rfl rfl rfl rfl rfl rfl rfl ?_) | refine WL.efN rfl rfl (Ef.store0 6 tab_ok rfl rfl rfl rfl rfl rfl rfl rfl ?_)
    refine WL.cap 1 rfl ?_
    intro hcp
    rw [List.length_map] at hcp
    refine WL.freeze (enc := encI) (xs := (fvals (upV xs (c + 3) v0) n) ++ [4611686018427387904]) 1 rfl ?_
    intro R1 hR1 hfz
    have hsm := small_inf (F := (upV xs (c + 3) v0)) (n := n) (by omega) (by have := upV_bound xs (c + 3) v0 0; omega) (fun t => (upV_step xs (c + 3) v0 t).1) (fun t ht => by have := upV_bound xs (c + 3) v0 t; omega)
    refine zN (zL (zU (zQ (zG ?_))))
    refine' WG.y rfl rfl qD (Yl.load1 tab_ok rfl rfl rfl (fun _ => rfl) ?r3 rfl ?h3) ?_
    case r3 => (first | exact Rd.blk 0 rfl | exact Rd.blk 1 rfl | exact Rd.blk 2 rfl | exact Rd.blk 3 rfl | exact Rd.blk 4 rfl | exact Rd.blk 5 rfl | exact Rd.blk 6 rfl)
    case h3 => rfl
    first | refine WL.efN rfl rfl (Ef.store0 0 tab_ok rfl rfl rfl rfl rfl rfl rfl rfl ?_) | refine WL.efN rfl rfl (Ef.store0 1 tab_ok rfl rfl rfl rfl rfl rfl rfl rfl ?_) | refine WL.efN rfl rfl (Ef.store0 2 tab_ok rfl rfl rfl rfl rfl rfl rfl rfl ?_) | refine WL.efN rfl rfl (Ef.store0 3 tab_ok rfl rfl rfl rfl rfl rfl rfl rfl ?_) | refine WL.efN rfl rfl (Ef.store0 4 tab_ok rfl rfl rfl rfl rfl rfl rfl rfl ?_) | refine WL.efN rfl rfl (Ef.store0 5 tab_ok rfl rfl rfl rfl rfl rfl rfl rfl ?_) | refine WL.efN rfl rfl (Ef.store0 6 tab_ok rfl rfl rfl rfl rfl rfl rfl rfl ?_)
    refine zN (zU (zT ?_))
    refine WE.retFS (E' := srcE b a cp xs (c + 3 + n + 1 + 1) :: F) qS tab_ok [_] rfl ⟨⟨_, _, _, rfl, rfl, rfl, qB, rfl⟩, trivial⟩ ((by first | exact hR1 | exact hR1.trans hRL)) ?_
    exact ⟨_, [], rfl, _, _, _, ⟨(fvals (upV xs (c + 3) v0) n) ++ [4611686018427387904], 1, 0⟩, rfl, hfz, hsm, hcp, rfl, rfl⟩
   ·try dsimp only at hc1
    refine zQ (zG (zR 2 rfl (zN (zU ?_))))
    refine W.condE rfl (fun hc2 => ?_) (fun hc2 => ?_)
    ·try dsimp only at hc2
     refine W.cap 0 rfl ?_
     intro hcp
     rw [List.length_map] at hcp
     refine W.freeze (enc := encI) (xs := (fvals (upV xs (c + 3) v0) n)) 0 rfl ?_
     intro R1 hR1 hfz
     have hsm := small_fin (F := (upV xs (c + 3) v0)) (n := n) (P := (P : Int)) (I := I) hn20 (by omega) (by omega) (by have := upV_bound xs (c + 3) v0 0; omega) (fun t => (upV_step xs (c + 3) v0 t).1) (fun t ht => by have := upV_bound xs (c + 3) v0 t; omega) (by rw [Int.toNat_natCast]; omega)
     have ha1 := ha.mono hR1
     have hmm1 := mod_range (nth xs (c + 3 + n + 1 + 1)) (show (1 : Int) ≤ 4 by decide)
     have hmm2 := mod_range (nth xs (c + 3 + n + 1 + 1 + 1)) (show (1 : Int) ≤ 2 by decide)
     have hfb : finB (⟨(fvals (upV xs (c + 3) v0) n), (P : Int), I⟩ : Cv) = true := by
      unfold finB
      have := upV_bound xs (c + 3) v0 (n - 1)
      dsimp only
      rw [fvals_len, fvals_nth _ (by omega), bne_iff_ne]
      unfold INF; omega
     have hv200 : ∀ x ∈ (⟨(fvals (upV xs (c + 3) v0) n), (P : Int), I⟩ : Cv).vals, x ≤ 200 := all_of_nth (fun j hj => by
      have hj2 : j < n := by rw [hVl] at hj; exact hj
      have := upV_bound xs (c + 3) v0 j
      show nth (fvals (upV xs (c + 3) v0) n) j ≤ 200
      rw [fvals_nth _ hj2]; omega)
     refine W.regionH _ (ES := []) mixed ?_
     refine tP 1 ?_
     refine tP 3 ?_
     refine WA.br2 (i := 0) (j := 2) qK ?_ ?_
     ·
      refine' WS.yl rfl rfl rfl qD (Yl.load1 tab_ok rfl rfl rfl (fun _ => rfl) ?r4 rfl ?h4) qS qR ?_
      case r4 => (first | exact Rd.blk 0 rfl | exact Rd.blk 1 rfl | exact Rd.blk 2 rfl | exact Rd.blk 3 rfl | exact Rd.blk 4 rfl | exact Rd.blk 5 rfl | exact Rd.blk 6 rfl)
      case h4 => rfl
      refine WA.callAt 2 2 rfl qK en12 rfl rfl qD (CallOp.mkT rfl rfl rfl rfl) rfl (N_C w0 ha1 (by constructor <;> omega) _) ?_
      rintro _ _ _ _ - ⟨rfl, rfl, rfl, rfl⟩
      refine ⟨RLe.refl _, qS, ?_⟩
      refine WA.callAt 2 4 rfl qK en12 rfl rfl qD (CallOp.mkT rfl rfl rfl rfl) rfl (N_C w0 ha1 (by constructor <;> omega) _) ?_
      rintro _ _ _ _ - ⟨rfl, rfl, rfl, rfl⟩
      refine ⟨RLe.refl _, qS, ?_⟩
      refine tA 5 ?_
      refine WA.callG 6 rfl qK en34 rfl (by first | rfl | decide) rfl qD (CallOp.mkT rfl rfl rfl rfl) (LongerV_C (c := (⟨(fvals (upV xs (c + 3) v0) n), (P : Int), I⟩ : Cv)) hsm hfb (by show (fvals (upV xs (c + 3) v0) n).length ≤ 20; omega) (by show (P : Int) ≤ 4; omega) (by show I ≤ 50; omega) hv200 hfz qO qO w0 _) ?_
      rintro _ RL EL hRL ⟨fl, flc, cl, rfl, hfl, hsl, hfl2, hcl, hsubL⟩
      refine ⟨hRL, List.nil_sublist _, ?_⟩
      refine WA.subE hsubL ?_
      first | refine WA.effN 7 rfl qK rfl rfl (Ef.store0 0 tab_ok rfl rfl rfl rfl rfl rfl rfl rfl ?_) | refine WA.effN 7 rfl qK rfl rfl (Ef.store0 1 tab_ok rfl rfl rfl rfl rfl rfl rfl rfl ?_) | refine WA.effN 7 rfl qK rfl rfl (Ef.store0 2 tab_ok rfl rfl rfl rfl rfl rfl rfl rfl ?_) | refine WA.effN 7 rfl qK rfl rfl (Ef.store0 3 tab_ok rfl rfl rfl rfl rfl rfl rfl rfl ?_) | refine WA.effN 7 rfl qK rfl rfl (Ef.store0 4 tab_ok rfl rfl rfl rfl rfl rfl rfl rfl ?_) | refine WA.effN 7 rfl qK rfl rfl (Ef.store0 5 tab_ok rfl rfl rfl rfl rfl rfl rfl rfl ?_) | refine WA.effN 7 rfl qK rfl rfl (Ef.store0 6 tab_ok rfl rfl rfl rfl rfl rfl rfl rfl ?_)
      refine ⟨qR, qS, ?_⟩
      refine WA.done qK ?_
      refine zL (zU (zQ (zG ?_)))
      refine' WG.y rfl rfl qD (Yl.load1 tab_ok rfl rfl rfl (fun _ => rfl) ?r5 rfl ?h5) ?_
      case r5 => (first | exact Rd.blk 0 rfl | exact Rd.blk 1 rfl | exact Rd.blk 2 rfl | exact Rd.blk 3 rfl | exact Rd.blk 4 rfl | exact Rd.blk 5 rfl | exact Rd.blk 6 rfl)
      case h5 => rfl
      first | refine WL.efN rfl rfl (Ef.store0 0 tab_ok rfl rfl rfl rfl rfl rfl rfl rfl ?_) | refine WL.efN rfl rfl (Ef.store0 1 tab_ok rfl rfl rfl rfl rfl rfl rfl rfl ?_) | refine WL.efN rfl rfl (Ef.store0 2 tab_ok rfl rfl rfl rfl rfl rfl rfl rfl ?_) | refine WL.efN rfl rfl (Ef.store0 3 tab_ok rfl rfl rfl rfl rfl rfl rfl rfl ?_) | refine WL.efN rfl rfl (Ef.store0 4 tab_ok rfl rfl rfl rfl rfl rfl rfl rfl ?_) | refine WL.efN rfl rfl (Ef.store0 5 tab_ok rfl rfl rfl rfl rfl rfl rfl rfl ?_) | refine WL.efN rfl rfl (Ef.store0 6 tab_ok rfl rfl rfl rfl rfl rfl rfl rfl ?_)
      refine zN (zU (zT ?_))
      refine WE.retFS (E' := srcE b a cp xs (c + 3 + n + 1 + 1 + 1 + 1) :: F) qS tab_ok [_] rfl ⟨⟨_, _, _, rfl, rfl, rfl, qB, rfl⟩, trivial⟩ ((by first | exact hR1 | exact hR1.trans hRL)) ?_
      exact ⟨_, [], rfl, fl, flc, _, cl, rfl, hfl, hsl, hcl, rfl, rfl⟩
     ·
      refine WS.callAt 2 rfl en12 rfl rfl qD (CallOp.mkT rfl rfl rfl rfl) rfl (N_C w0 ha1 (by constructor <;> omega) _) ?_
      rintro _ _ _ _ - ⟨rfl, rfl, rfl, rfl⟩
      refine ⟨qR, qS, ?_⟩
      refine WA.br2 (i := 0) (j := 4) qK ?_ ?_
      ·
       refine' WS.yl rfl rfl rfl qD (Yl.load1 tab_ok rfl rfl rfl (fun _ => rfl) ?r6 rfl ?h6) qS qR ?_
       case r6 => (first | exact Rd.blk 0 rfl | exact Rd.blk 1 rfl | exact Rd.blk 2 rfl | exact Rd.blk 3 rfl | exact Rd.blk 4 rfl | exact Rd.blk 5 rfl | exact Rd.blk 6 rfl)
       case h6 => rfl
       refine WA.callAt 2 4 rfl qK en12 rfl rfl qD (CallOp.mkT rfl rfl rfl rfl) rfl (N_C w0 ha1 (by constructor <;> omega) _) ?_
       rintro _ _ _ _ - ⟨rfl, rfl, rfl, rfl⟩
       refine ⟨RLe.refl _, qS, ?_⟩
       refine tA 5 ?_
       refine WA.callG 6 rfl qK en34 rfl (by first | rfl | decide) rfl qD (CallOp.mkT rfl rfl rfl rfl) (LongerV_C (c := (⟨(fvals (upV xs (c + 3) v0) n), (P : Int), I⟩ : Cv)) hsm hfb (by show (fvals (upV xs (c + 3) v0) n).length ≤ 20; omega) (by show (P : Int) ≤ 4; omega) (by show I ≤ 50; omega) hv200 hfz qO qO w0 _) ?_
       rintro _ RL EL hRL ⟨fl, flc, cl, rfl, hfl, hsl, hfl2, hcl, hsubL⟩
       refine ⟨hRL, List.nil_sublist _, ?_⟩
       refine WA.subE hsubL ?_
       first | refine WA.effN 7 rfl qK rfl rfl (Ef.store0 0 tab_ok rfl rfl rfl rfl rfl rfl rfl rfl ?_) | refine WA.effN 7 rfl qK rfl rfl (Ef.store0 1 tab_ok rfl rfl rfl rfl rfl rfl rfl rfl ?_) | refine WA.effN 7 rfl qK rfl rfl (Ef.store0 2 tab_ok rfl rfl rfl rfl rfl rfl rfl rfl ?_) | refine WA.effN 7 rfl qK rfl rfl (Ef.store0 3 tab_ok rfl rfl rfl rfl rfl rfl rfl rfl ?_) | refine WA.effN 7 rfl qK rfl rfl (Ef.store0 4 tab_ok rfl rfl rfl rfl rfl rfl rfl rfl ?_) | refine WA.effN 7 rfl qK rfl rfl (Ef.store0 5 tab_ok rfl rfl rfl rfl rfl rfl rfl rfl ?_) | refine WA.effN 7 rfl qK rfl rfl (Ef.store0 6 tab_ok rfl rfl rfl rfl rfl rfl rfl rfl ?_)
       refine ⟨qR, qS, ?_⟩
       refine WA.done qK ?_
       refine zL (zU (zQ (zG ?_)))
       refine' WG.y rfl rfl qD (Yl.load1 tab_ok rfl rfl rfl (fun _ => rfl) ?r7 rfl ?h7) ?_
       case r7 => (first | exact Rd.blk 0 rfl | exact Rd.blk 1 rfl | exact Rd.blk 2 rfl | exact Rd.blk 3 rfl | exact Rd.blk 4 rfl | exact Rd.blk 5 rfl | exact Rd.blk 6 rfl)
       case h7 => rfl
       first | refine WL.efN rfl rfl (Ef.store0 0 tab_ok rfl rfl rfl rfl rfl rfl rfl rfl ?_) | refine WL.efN rfl rfl (Ef.store0 1 tab_ok rfl rfl rfl rfl rfl rfl rfl rfl ?_) | refine WL.efN rfl rfl (Ef.store0 2 tab_ok rfl rfl rfl rfl rfl rfl rfl rfl ?_) | refine WL.efN rfl rfl (Ef.store0 3 tab_ok rfl rfl rfl rfl rfl rfl rfl rfl ?_) | refine WL.efN rfl rfl (Ef.store0 4 tab_ok rfl rfl rfl rfl rfl rfl rfl rfl ?_) | refine WL.efN rfl rfl (Ef.store0 5 tab_ok rfl rfl rfl rfl rfl rfl rfl rfl ?_) | refine WL.efN rfl rfl (Ef.store0 6 tab_ok rfl rfl rfl rfl rfl rfl rfl rfl ?_)
       refine zN (zU (zT ?_))
       refine WE.retFS (E' := srcE b a cp xs (c + 3 + n + 1 + 1 + 1 + 1) :: F) qS tab_ok [_] rfl ⟨⟨_, _, _, rfl, rfl, rfl, qB, rfl⟩, trivial⟩ ((by first | exact hR1 | exact hR1.trans hRL)) ?_
       exact ⟨_, [], rfl, fl, flc, _, cl, rfl, hfl, hsl, hcl, rfl, rfl⟩
      ·
       refine WS.callAt 2 rfl en12 rfl rfl qD (CallOp.mkT rfl rfl rfl rfl) rfl (N_C w0 ha1 (by constructor <;> omega) _) ?_
       rintro _ _ _ _ - ⟨rfl, rfl, rfl, rfl⟩
       refine ⟨qR, qS, ?_⟩
       refine tA 5 ?_
       refine' WA.yl 0 rfl qK rfl rfl qD (Yl.load1 tab_ok rfl rfl rfl (fun _ => rfl) ?r8 rfl ?h8) qS qR ?_
       case r8 => (first | exact Rd.blk 0 rfl | exact Rd.blk 1 rfl | exact Rd.blk 2 rfl | exact Rd.blk 3 rfl | exact Rd.blk 4 rfl | exact Rd.blk 5 rfl | exact Rd.blk 6 rfl)
       case h8 => rfl
       refine WA.callG 6 rfl qK en34 rfl (by first | rfl | decide) rfl qD (CallOp.mkT rfl rfl rfl rfl) (LongerV_C (c := (⟨(fvals (upV xs (c + 3) v0) n), (P : Int), I⟩ : Cv)) hsm hfb (by show (fvals (upV xs (c + 3) v0) n).length ≤ 20; omega) (by show (P : Int) ≤ 4; omega) (by show I ≤ 50; omega) hv200 hfz qO qO w0 _) ?_
       rintro _ RL EL hRL ⟨fl, flc, cl, rfl, hfl, hsl, hfl2, hcl, hsubL⟩
       refine ⟨hRL, List.nil_sublist _, ?_⟩
       refine WA.subE hsubL ?_
       first | refine WA.effN 7 rfl qK rfl rfl (Ef.store0 0 tab_ok rfl rfl rfl rfl rfl rfl rfl rfl ?_) | refine WA.effN 7 rfl qK rfl rfl (Ef.store0 1 tab_ok rfl rfl rfl rfl rfl rfl rfl rfl ?_) | refine WA.effN 7 rfl qK rfl rfl (Ef.store0 2 tab_ok rfl rfl rfl rfl rfl rfl rfl rfl ?_) | refine WA.effN 7 rfl qK rfl rfl (Ef.store0 3 tab_ok rfl rfl rfl rfl rfl rfl rfl rfl ?_) | refine WA.effN 7 rfl qK rfl rfl (Ef.store0 4 tab_ok rfl rfl rfl rfl rfl rfl rfl rfl ?_) | refine WA.effN 7 rfl qK rfl rfl (Ef.store0 5 tab_ok rfl rfl rfl rfl rfl rfl rfl rfl ?_) | refine WA.effN 7 rfl qK rfl rfl (Ef.store0 6 tab_ok rfl rfl rfl rfl rfl rfl rfl rfl ?_)
       refine ⟨qR, qS, ?_⟩
       refine WA.done qK ?_
       refine zL (zU (zQ (zG ?_)))
       refine' WG.y rfl rfl qD (Yl.load1 tab_ok rfl rfl rfl (fun _ => rfl) ?r9 rfl ?h9) ?_
       case r9 => (first | exact Rd.blk 0 rfl | exact Rd.blk 1 rfl | exact Rd.blk 2 rfl | exact Rd.blk 3 rfl | exact Rd.blk 4 rfl | exact Rd.blk 5 rfl | exact Rd.blk 6 rfl)
       case h9 => rfl
       first | refine WL.efN rfl rfl (Ef.store0 0 tab_ok rfl rfl rfl rfl rfl rfl rfl rfl ?_) | refine WL.efN rfl rfl (Ef.store0 1 tab_ok rfl rfl rfl rfl rfl rfl rfl rfl ?_) | refine WL.efN rfl rfl (Ef.store0 2 tab_ok rfl rfl rfl rfl rfl rfl rfl rfl ?_) | refine WL.efN rfl rfl (Ef.store0 3 tab_ok rfl rfl rfl rfl rfl rfl rfl rfl ?_) | refine WL.efN rfl rfl (Ef.store0 4 tab_ok rfl rfl rfl rfl rfl rfl rfl rfl ?_) | refine WL.efN rfl rfl (Ef.store0 5 tab_ok rfl rfl rfl rfl rfl rfl rfl rfl ?_) | refine WL.efN rfl rfl (Ef.store0 6 tab_ok rfl rfl rfl rfl rfl rfl rfl rfl ?_)
       refine zN (zU (zT ?_))
       refine WE.retFS (E' := srcE b a cp xs (c + 3 + n + 1 + 1 + 1 + 1) :: F) qS tab_ok [_] rfl ⟨⟨_, _, _, rfl, rfl, rfl, qB, rfl⟩, trivial⟩ ((by first | exact hR1 | exact hR1.trans hRL)) ?_
       exact ⟨_, [], rfl, fl, flc, _, cl, rfl, hfl, hsl, hcl, rfl, rfl⟩
    ·try dsimp only at hc2
     refine W.cap 0 rfl ?_
     intro hcp
     rw [List.length_map] at hcp
     refine W.freeze (enc := encI) (xs := (fvals (upV xs (c + 3) v0) n)) 0 rfl ?_
     intro R1 hR1 hfz
     have hsm := small_fin (F := (upV xs (c + 3) v0)) (n := n) (P := (P : Int)) (I := I) hn20 (by omega) (by omega) (by have := upV_bound xs (c + 3) v0 0; omega) (fun t => (upV_step xs (c + 3) v0 t).1) (fun t ht => by have := upV_bound xs (c + 3) v0 t; omega) (by rw [Int.toNat_natCast]; omega)
     refine zK (zL (zU (zQ (zG ?_))))
     refine' WG.y rfl rfl qD (Yl.load1 tab_ok rfl rfl rfl (fun _ => rfl) ?r10 rfl ?h10) ?_
     case r10 => (first | exact Rd.blk 0 rfl | exact Rd.blk 1 rfl | exact Rd.blk 2 rfl | exact Rd.blk 3 rfl | exact Rd.blk 4 rfl | exact Rd.blk 5 rfl | exact Rd.blk 6 rfl)
     case h10 => rfl
     first | refine WL.efN rfl rfl (Ef.store0 0 tab_ok rfl rfl rfl rfl rfl rfl rfl rfl ?_) | refine WL.efN rfl rfl (Ef.store0 1 tab_ok rfl rfl rfl rfl rfl rfl rfl rfl ?_) | refine WL.efN rfl rfl (Ef.store0 2 tab_ok rfl rfl rfl rfl rfl rfl rfl rfl ?_) | refine WL.efN rfl rfl (Ef.store0 3 tab_ok rfl rfl rfl rfl rfl rfl rfl rfl ?_) | refine WL.efN rfl rfl (Ef.store0 4 tab_ok rfl rfl rfl rfl rfl rfl rfl rfl ?_) | refine WL.efN rfl rfl (Ef.store0 5 tab_ok rfl rfl rfl rfl rfl rfl rfl rfl ?_) | refine WL.efN rfl rfl (Ef.store0 6 tab_ok rfl rfl rfl rfl rfl rfl rfl rfl ?_)
     refine zN (zU (zT ?_))
     refine WE.retFS (E' := srcE b a cp xs (c + 3 + n + 1 + 1) :: F) qS tab_ok [_] rfl ⟨⟨_, _, _, rfl, rfl, rfl, qB, rfl⟩, trivial⟩ ((by first | exact hR1 | exact hR1.trans hRL)) ?_
     exact ⟨_, [], rfl, a8, c8, _, (⟨(fvals (upV xs (c + 3) v0) n), (P : Int), I⟩ : Cv), rfl, hfz, hsm, hcp, rfl, rfl⟩
  ·
   refine W.regionH _ (ES := [.sl 3 1 a8 c8 ((fvals (upV xs (c + 3) v0) n).map encI)]) mixed ?_
   refine tP 0 ?_
   refine tP 2 ?_
   refine tS 3 ?_
   refine tP 6 ?_
   refine tP 8 ?_
   refine tP 9 ?_
   refine tP 15 ?_
   refine WA.br4 (i := 1) (j := 7) (k := 10) (l := 16) qK ?_ ?_ ?_ ?_
   ·
    refine' WS.yl rfl rfl rfl qD (Yl.load1 tab_ok rfl rfl rfl (fun _ => rfl) ?r11 rfl ?h11) qS qR ?_
    case r11 => apply Rd.add; (first | exact Rd.blk 0 rfl | exact Rd.blk 1 rfl | exact Rd.blk 2 rfl | exact Rd.blk 3 rfl | exact Rd.blk 4 rfl | exact Rd.blk 5 rfl | exact Rd.blk 6 rfl)
    case h11 => rfl
    refine WA.take 4 rfl qK qK qK rfl rfl qD (Yl.index tab_ok rfl rfl rfl rfl rfl rfl (fun _ => rfl) qA qH) qS qR ?_
    refine' WA.take 5 rfl qK qK qK rfl rfl qD (Yl.load1 tab_ok rfl rfl rfl (fun _ => rfl) ?r12 rfl ?h12) qS qR ?_
    case r12 => (first | (apply RS.rdD; assumption; ((try dsimp only) <;> omega)) | exact Rd.slD 0 rfl qX | exact Rd.slD 1 rfl qX | exact Rd.slD 2 rfl qX | exact Rd.slD 3 rfl qX | exact Rd.slD 4 rfl qX | exact Rd.slD 5 rfl qX | exact Rd.slD 6 rfl qX)
    case h12 => rfl
    refine WA.br3 (i := 7) (j := 10) (k := 16) qK ?_ ?_ ?_
    ·
     refine' WS.yl rfl rfl rfl qD (Yl.load1 tab_ok rfl rfl rfl (fun _ => rfl) ?r13 rfl ?h13) qS qR ?_
     case r13 => apply Rd.add; (first | exact Rd.blk 0 rfl | exact Rd.blk 1 rfl | exact Rd.blk 2 rfl | exact Rd.blk 3 rfl | exact Rd.blk 4 rfl | exact Rd.blk 5 rfl | exact Rd.blk 6 rfl)
     case h13 => rfl
     refine WA.br2 (i := 10) (j := 16) qK ?_ ?_
     ·
      refine' WS.yl rfl rfl rfl qD (Yl.load1 tab_ok rfl rfl rfl (fun _ => rfl) ?r14 rfl ?h14) qS qR ?_
      case r14 => apply Rd.add; (first | exact Rd.blk 0 rfl | exact Rd.blk 1 rfl | exact Rd.blk 2 rfl | exact Rd.blk 3 rfl | exact Rd.blk 4 rfl | exact Rd.blk 5 rfl | exact Rd.blk 6 rfl)
      case h14 => rfl
      refine tS 11 ?_
      refine WA.take 12 rfl qK qK qK rfl rfl qD (Yl.index tab_ok rfl rfl rfl rfl rfl rfl (fun _ => rfl) qA qH) qS qR ?_
      refine' WA.take 13 rfl qK qK qK rfl rfl qD (Yl.load1 tab_ok rfl rfl rfl (fun _ => rfl) ?r15 rfl ?h15) qS qR ?_
      case r15 => (first | (apply RS.rdD; assumption; ((try dsimp only) <;> omega)) | exact Rd.slD 0 rfl qX | exact Rd.slD 1 rfl qX | exact Rd.slD 2 rfl qX | exact Rd.slD 3 rfl qX | exact Rd.slD 4 rfl qX | exact Rd.slD 5 rfl qX | exact Rd.slD 6 rfl qX)
      case h15 => rfl
      refine tS 14 ?_
      refine WA.eff 16 rfl qK rfl rfl qD (Ef.buildSliceD (enc := encI) (parts := [.const (.int .i64 0), .const (.int .i64 0), .const (.int .i64 1), .const (.int .i64 3), .const (.int .i64 4), .const (.int .i64 8)]) [_, _, _, _, _, _] tab_ok rfl rfl rfl rfl rfl rfl rfl rfl qD qD (fun a54 => ?_))
      refine ⟨qR, qS, ?_⟩
      refine WA.callAt 5 17 rfl qK en33 rfl rfl qD (CallOp.mkT rfl rfl rfl rfl) rfl (PickM_C (j := 0) w0 ([0, 0, 1, 3, 4, 8] : List Int) rfl qD qD ha rfl) ?_
      rintro _ _ _ _ - ⟨rfl, rfl, rfl, rfl⟩
      refine ⟨RLe.refl _, qS, ?_⟩
      refine tA 18 ?_
      refine tP 19 ?_
      first | refine WA.effN 20 rfl qK rfl rfl (Ef.store 0 tab_ok rfl rfl rfl rfl rfl rfl rfl rfl ?_) | refine WA.effN 20 rfl qK rfl rfl (Ef.store 1 tab_ok rfl rfl rfl rfl rfl rfl rfl rfl ?_) | refine WA.effN 20 rfl qK rfl rfl (Ef.store 2 tab_ok rfl rfl rfl rfl rfl rfl rfl rfl ?_) | refine WA.effN 20 rfl qK rfl rfl (Ef.store 3 tab_ok rfl rfl rfl rfl rfl rfl rfl rfl ?_) | refine WA.effN 20 rfl qK rfl rfl (Ef.store 4 tab_ok rfl rfl rfl rfl rfl rfl rfl rfl ?_) | refine WA.effN 20 rfl qK rfl rfl (Ef.store 5 tab_ok rfl rfl rfl rfl rfl rfl rfl rfl ?_) | refine WA.effN 20 rfl qK rfl rfl (Ef.store 6 tab_ok rfl rfl rfl rfl rfl rfl rfl rfl ?_)
      refine ⟨qR, qS, ?_⟩
      refine WA.done qK ?_
      refine WE.cut (nth (fvals (upV xs (c + 3) v0) n) ((n : Int) - 1).toNat - nth (fvals (upV xs (c + 3) v0) n) ((n : Int) - (P : Int)).toNat + nth ([0, 0, 1, 3, 4, 8] : List Int) (mod (nth xs (c + 3 + n)) ((6 : Nat) : Int)).toNat) ⟨by omega, by omega, by omega⟩ ⟨rfl, rfl, rfl, rfl⟩ (RLe.refl _) qS
     ·
      refine WS.eff rfl rfl rfl qD (Ef.buildSliceD (enc := encI) (parts := [.const (.int .i64 0), .const (.int .i64 0), .const (.int .i64 1), .const (.int .i64 3), .const (.int .i64 4), .const (.int .i64 8)]) [_, _, _, _, _, _] tab_ok rfl rfl rfl rfl rfl rfl rfl rfl qD qD (fun a54 => ?_))
      refine ⟨qR, qS, ?_⟩
      refine WA.br2 (i := 10) (j := 17) qK ?_ ?_
      ·
       refine' WS.yl rfl rfl rfl qD (Yl.load1 tab_ok rfl rfl rfl (fun _ => rfl) ?r16 rfl ?h16) qS qR ?_
       case r16 => apply Rd.add; (first | exact Rd.blk 0 rfl | exact Rd.blk 1 rfl | exact Rd.blk 2 rfl | exact Rd.blk 3 rfl | exact Rd.blk 4 rfl | exact Rd.blk 5 rfl | exact Rd.blk 6 rfl)
       case h16 => rfl
       refine tS 11 ?_
       refine WA.take 12 rfl qK qK qK rfl rfl qD (Yl.index tab_ok rfl rfl rfl rfl rfl rfl (fun _ => rfl) qA qH) qS qR ?_
       refine' WA.take 13 rfl qK qK qK rfl rfl qD (Yl.load1 tab_ok rfl rfl rfl (fun _ => rfl) ?r17 rfl ?h17) qS qR ?_
       case r17 => (first | (apply RS.rdD; assumption; ((try dsimp only) <;> omega)) | exact Rd.slD 0 rfl qX | exact Rd.slD 1 rfl qX | exact Rd.slD 2 rfl qX | exact Rd.slD 3 rfl qX | exact Rd.slD 4 rfl qX | exact Rd.slD 5 rfl qX | exact Rd.slD 6 rfl qX)
       case h17 => rfl
       refine tS 14 ?_
       refine WA.callAt 5 17 rfl qK en33 rfl rfl qD (CallOp.mkT rfl rfl rfl rfl) rfl (PickM_C (j := 0) w0 ([0, 0, 1, 3, 4, 8] : List Int) rfl qD qD ha rfl) ?_
       rintro _ _ _ _ - ⟨rfl, rfl, rfl, rfl⟩
       refine ⟨RLe.refl _, qS, ?_⟩
       refine tA 18 ?_
       refine tP 19 ?_
       first | refine WA.effN 20 rfl qK rfl rfl (Ef.store 0 tab_ok rfl rfl rfl rfl rfl rfl rfl rfl ?_) | refine WA.effN 20 rfl qK rfl rfl (Ef.store 1 tab_ok rfl rfl rfl rfl rfl rfl rfl rfl ?_) | refine WA.effN 20 rfl qK rfl rfl (Ef.store 2 tab_ok rfl rfl rfl rfl rfl rfl rfl rfl ?_) | refine WA.effN 20 rfl qK rfl rfl (Ef.store 3 tab_ok rfl rfl rfl rfl rfl rfl rfl rfl ?_) | refine WA.effN 20 rfl qK rfl rfl (Ef.store 4 tab_ok rfl rfl rfl rfl rfl rfl rfl rfl ?_) | refine WA.effN 20 rfl qK rfl rfl (Ef.store 5 tab_ok rfl rfl rfl rfl rfl rfl rfl rfl ?_) | refine WA.effN 20 rfl qK rfl rfl (Ef.store 6 tab_ok rfl rfl rfl rfl rfl rfl rfl rfl ?_)
       refine ⟨qR, qS, ?_⟩
       refine WA.done qK ?_
       refine WE.cut (nth (fvals (upV xs (c + 3) v0) n) ((n : Int) - 1).toNat - nth (fvals (upV xs (c + 3) v0) n) ((n : Int) - (P : Int)).toNat + nth ([0, 0, 1, 3, 4, 8] : List Int) (mod (nth xs (c + 3 + n)) ((6 : Nat) : Int)).toNat) ⟨by omega, by omega, by omega⟩ ⟨rfl, rfl, rfl, rfl⟩ (RLe.refl _) qS
      ·
       refine WS.callAt 5 rfl en33 rfl rfl qD (CallOp.mkT rfl rfl rfl rfl) rfl (PickM_C (j := 0) w0 ([0, 0, 1, 3, 4, 8] : List Int) rfl qD qD ha rfl) ?_
       rintro _ _ _ _ - ⟨rfl, rfl, rfl, rfl⟩
       refine ⟨qR, qS, ?_⟩
       refine' WA.yl 10 rfl qK rfl rfl qD (Yl.load1 tab_ok rfl rfl rfl (fun _ => rfl) ?r18 rfl ?h18) qS qR ?_
       case r18 => apply Rd.add; (first | exact Rd.blk 0 rfl | exact Rd.blk 1 rfl | exact Rd.blk 2 rfl | exact Rd.blk 3 rfl | exact Rd.blk 4 rfl | exact Rd.blk 5 rfl | exact Rd.blk 6 rfl)
       case h18 => rfl
       refine tS 11 ?_
       refine WA.take 12 rfl qK qK qK rfl rfl qD (Yl.index tab_ok rfl rfl rfl rfl rfl rfl (fun _ => rfl) qA qH) qS qR ?_
       refine' WA.take 13 rfl qK qK qK rfl rfl qD (Yl.load1 tab_ok rfl rfl rfl (fun _ => rfl) ?r19 rfl ?h19) qS qR ?_
       case r19 => (first | (apply RS.rdD; assumption; ((try dsimp only) <;> omega)) | exact Rd.slD 0 rfl qX | exact Rd.slD 1 rfl qX | exact Rd.slD 2 rfl qX | exact Rd.slD 3 rfl qX | exact Rd.slD 4 rfl qX | exact Rd.slD 5 rfl qX | exact Rd.slD 6 rfl qX)
       case h19 => rfl
       refine tS 14 ?_
       refine tA 18 ?_
       refine tP 19 ?_
       first | refine WA.effN 20 rfl qK rfl rfl (Ef.store 0 tab_ok rfl rfl rfl rfl rfl rfl rfl rfl ?_) | refine WA.effN 20 rfl qK rfl rfl (Ef.store 1 tab_ok rfl rfl rfl rfl rfl rfl rfl rfl ?_) | refine WA.effN 20 rfl qK rfl rfl (Ef.store 2 tab_ok rfl rfl rfl rfl rfl rfl rfl rfl ?_) | refine WA.effN 20 rfl qK rfl rfl (Ef.store 3 tab_ok rfl rfl rfl rfl rfl rfl rfl rfl ?_) | refine WA.effN 20 rfl qK rfl rfl (Ef.store 4 tab_ok rfl rfl rfl rfl rfl rfl rfl rfl ?_) | refine WA.effN 20 rfl qK rfl rfl (Ef.store 5 tab_ok rfl rfl rfl rfl rfl rfl rfl rfl ?_) | refine WA.effN 20 rfl qK rfl rfl (Ef.store 6 tab_ok rfl rfl rfl rfl rfl rfl rfl rfl ?_)
       refine ⟨qR, qS, ?_⟩
       refine WA.done qK ?_
       refine WE.cut (nth (fvals (upV xs (c + 3) v0) n) ((n : Int) - 1).toNat - nth (fvals (upV xs (c + 3) v0) n) ((n : Int) - (P : Int)).toNat + nth ([0, 0, 1, 3, 4, 8] : List Int) (mod (nth xs (c + 3 + n)) ((6 : Nat) : Int)).toNat) ⟨by omega, by omega, by omega⟩ ⟨rfl, rfl, rfl, rfl⟩ (RLe.refl _) qS
    ·
     refine' WS.yl rfl rfl rfl qD (Yl.load1 tab_ok rfl rfl rfl (fun _ => rfl) ?r20 rfl ?h20) qS qR ?_
     case r20 => apply Rd.add; (first | exact Rd.blk 0 rfl | exact Rd.blk 1 rfl | exact Rd.blk 2 rfl | exact Rd.blk 3 rfl | exact Rd.blk 4 rfl | exact Rd.blk 5 rfl | exact Rd.blk 6 rfl)
     case h20 => rfl
     refine tS 11 ?_
     refine WA.br2 (i := 7) (j := 16) qK ?_ ?_
     ·
      refine' WS.yl rfl rfl rfl qD (Yl.load1 tab_ok rfl rfl rfl (fun _ => rfl) ?r21 rfl ?h21) qS qR ?_
      case r21 => apply Rd.add; (first | exact Rd.blk 0 rfl | exact Rd.blk 1 rfl | exact Rd.blk 2 rfl | exact Rd.blk 3 rfl | exact Rd.blk 4 rfl | exact Rd.blk 5 rfl | exact Rd.blk 6 rfl)
      case h21 => rfl
      refine WA.take 12 rfl qK qK qK rfl rfl qD (Yl.index tab_ok rfl rfl rfl rfl rfl rfl (fun _ => rfl) qA qH) qS qR ?_
      refine' WA.take 13 rfl qK qK qK rfl rfl qD (Yl.load1 tab_ok rfl rfl rfl (fun _ => rfl) ?r22 rfl ?h22) qS qR ?_
      case r22 => (first | (apply RS.rdD; assumption; ((try dsimp only) <;> omega)) | exact Rd.slD 0 rfl qX | exact Rd.slD 1 rfl qX | exact Rd.slD 2 rfl qX | exact Rd.slD 3 rfl qX | exact Rd.slD 4 rfl qX | exact Rd.slD 5 rfl qX | exact Rd.slD 6 rfl qX)
      case h22 => rfl
      refine tS 14 ?_
      refine WA.eff 16 rfl qK rfl rfl qD (Ef.buildSliceD (enc := encI) (parts := [.const (.int .i64 0), .const (.int .i64 0), .const (.int .i64 1), .const (.int .i64 3), .const (.int .i64 4), .const (.int .i64 8)]) [_, _, _, _, _, _] tab_ok rfl rfl rfl rfl rfl rfl rfl rfl qD qD (fun a54 => ?_))
      refine ⟨qR, qS, ?_⟩
      refine WA.callAt 5 17 rfl qK en33 rfl rfl qD (CallOp.mkT rfl rfl rfl rfl) rfl (PickM_C (j := 0) w0 ([0, 0, 1, 3, 4, 8] : List Int) rfl qD qD ha rfl) ?_
      rintro _ _ _ _ - ⟨rfl, rfl, rfl, rfl⟩
      refine ⟨RLe.refl _, qS, ?_⟩
      refine tA 18 ?_
      refine tP 19 ?_
      first | refine WA.effN 20 rfl qK rfl rfl (Ef.store 0 tab_ok rfl rfl rfl rfl rfl rfl rfl rfl ?_) | refine WA.effN 20 rfl qK rfl rfl (Ef.store 1 tab_ok rfl rfl rfl rfl rfl rfl rfl rfl ?_) | refine WA.effN 20 rfl qK rfl rfl (Ef.store 2 tab_ok rfl rfl rfl rfl rfl rfl rfl rfl ?_) | refine WA.effN 20 rfl qK rfl rfl (Ef.store 3 tab_ok rfl rfl rfl rfl rfl rfl rfl rfl ?_) | refine WA.effN 20 rfl qK rfl rfl (Ef.store 4 tab_ok rfl rfl rfl rfl rfl rfl rfl rfl ?_) | refine WA.effN 20 rfl qK rfl rfl (Ef.store 5 tab_ok rfl rfl rfl rfl rfl rfl rfl rfl ?_) | refine WA.effN 20 rfl qK rfl rfl (Ef.store 6 tab_ok rfl rfl rfl rfl rfl rfl rfl rfl ?_)
      refine ⟨qR, qS, ?_⟩
      refine WA.done qK ?_
      refine WE.cut (nth (fvals (upV xs (c + 3) v0) n) ((n : Int) - 1).toNat - nth (fvals (upV xs (c + 3) v0) n) ((n : Int) - (P : Int)).toNat + nth ([0, 0, 1, 3, 4, 8] : List Int) (mod (nth xs (c + 3 + n)) ((6 : Nat) : Int)).toNat) ⟨by omega, by omega, by omega⟩ ⟨rfl, rfl, rfl, rfl⟩ (RLe.refl _) qS
     ·
      refine WS.eff rfl rfl rfl qD (Ef.buildSliceD (enc := encI) (parts := [.const (.int .i64 0), .const (.int .i64 0), .const (.int .i64 1), .const (.int .i64 3), .const (.int .i64 4), .const (.int .i64 8)]) [_, _, _, _, _, _] tab_ok rfl rfl rfl rfl rfl rfl rfl rfl qD qD (fun a54 => ?_))
      refine ⟨qR, qS, ?_⟩
      refine WA.br2 (i := 7) (j := 17) qK ?_ ?_
      ·
       refine' WS.yl rfl rfl rfl qD (Yl.load1 tab_ok rfl rfl rfl (fun _ => rfl) ?r23 rfl ?h23) qS qR ?_
       case r23 => apply Rd.add; (first | exact Rd.blk 0 rfl | exact Rd.blk 1 rfl | exact Rd.blk 2 rfl | exact Rd.blk 3 rfl | exact Rd.blk 4 rfl | exact Rd.blk 5 rfl | exact Rd.blk 6 rfl)
       case h23 => rfl
       refine WA.take 12 rfl qK qK qK rfl rfl qD (Yl.index tab_ok rfl rfl rfl rfl rfl rfl (fun _ => rfl) qA qH) qS qR ?_
       refine' WA.take 13 rfl qK qK qK rfl rfl qD (Yl.load1 tab_ok rfl rfl rfl (fun _ => rfl) ?r24 rfl ?h24) qS qR ?_
       case r24 => (first | (apply RS.rdD; assumption; ((try dsimp only) <;> omega)) | exact Rd.slD 0 rfl qX | exact Rd.slD 1 rfl qX | exact Rd.slD 2 rfl qX | exact Rd.slD 3 rfl qX | exact Rd.slD 4 rfl qX | exact Rd.slD 5 rfl qX | exact Rd.slD 6 rfl qX)
       case h24 => rfl
       refine tS 14 ?_
       refine WA.callAt 5 17 rfl qK en33 rfl rfl qD (CallOp.mkT rfl rfl rfl rfl) rfl (PickM_C (j := 0) w0 ([0, 0, 1, 3, 4, 8] : List Int) rfl qD qD ha rfl) ?_
       rintro _ _ _ _ - ⟨rfl, rfl, rfl, rfl⟩
       refine ⟨RLe.refl _, qS, ?_⟩
       refine tA 18 ?_
       refine tP 19 ?_
       first | refine WA.effN 20 rfl qK rfl rfl (Ef.store 0 tab_ok rfl rfl rfl rfl rfl rfl rfl rfl ?_) | refine WA.effN 20 rfl qK rfl rfl (Ef.store 1 tab_ok rfl rfl rfl rfl rfl rfl rfl rfl ?_) | refine WA.effN 20 rfl qK rfl rfl (Ef.store 2 tab_ok rfl rfl rfl rfl rfl rfl rfl rfl ?_) | refine WA.effN 20 rfl qK rfl rfl (Ef.store 3 tab_ok rfl rfl rfl rfl rfl rfl rfl rfl ?_) | refine WA.effN 20 rfl qK rfl rfl (Ef.store 4 tab_ok rfl rfl rfl rfl rfl rfl rfl rfl ?_) | refine WA.effN 20 rfl qK rfl rfl (Ef.store 5 tab_ok rfl rfl rfl rfl rfl rfl rfl rfl ?_) | refine WA.effN 20 rfl qK rfl rfl (Ef.store 6 tab_ok rfl rfl rfl rfl rfl rfl rfl rfl ?_)
       refine ⟨qR, qS, ?_⟩
       refine WA.done qK ?_
       refine WE.cut (nth (fvals (upV xs (c + 3) v0) n) ((n : Int) - 1).toNat - nth (fvals (upV xs (c + 3) v0) n) ((n : Int) - (P : Int)).toNat + nth ([0, 0, 1, 3, 4, 8] : List Int) (mod (nth xs (c + 3 + n)) ((6 : Nat) : Int)).toNat) ⟨by omega, by omega, by omega⟩ ⟨rfl, rfl, rfl, rfl⟩ (RLe.refl _) qS
      ·
       refine WS.callAt 5 rfl en33 rfl rfl qD (CallOp.mkT rfl rfl rfl rfl) rfl (PickM_C (j := 0) w0 ([0, 0, 1, 3, 4, 8] : List Int) rfl qD qD ha rfl) ?_
       rintro _ _ _ _ - ⟨rfl, rfl, rfl, rfl⟩
       refine ⟨qR, qS, ?_⟩
       refine' WA.yl 7 rfl qK rfl rfl qD (Yl.load1 tab_ok rfl rfl rfl (fun _ => rfl) ?r25 rfl ?h25) qS qR ?_
       case r25 => apply Rd.add; (first | exact Rd.blk 0 rfl | exact Rd.blk 1 rfl | exact Rd.blk 2 rfl | exact Rd.blk 3 rfl | exact Rd.blk 4 rfl | exact Rd.blk 5 rfl | exact Rd.blk 6 rfl)
       case h25 => rfl
       refine WA.take 12 rfl qK qK qK rfl rfl qD (Yl.index tab_ok rfl rfl rfl rfl rfl rfl (fun _ => rfl) qA qH) qS qR ?_
       refine' WA.take 13 rfl qK qK qK rfl rfl qD (Yl.load1 tab_ok rfl rfl rfl (fun _ => rfl) ?r26 rfl ?h26) qS qR ?_
       case r26 => (first | (apply RS.rdD; assumption; ((try dsimp only) <;> omega)) | exact Rd.slD 0 rfl qX | exact Rd.slD 1 rfl qX | exact Rd.slD 2 rfl qX | exact Rd.slD 3 rfl qX | exact Rd.slD 4 rfl qX | exact Rd.slD 5 rfl qX | exact Rd.slD 6 rfl qX)
       case h26 => rfl
       refine tS 14 ?_
       refine tA 18 ?_
       refine tP 19 ?_
       first | refine WA.effN 20 rfl qK rfl rfl (Ef.store 0 tab_ok rfl rfl rfl rfl rfl rfl rfl rfl ?_) | refine WA.effN 20 rfl qK rfl rfl (Ef.store 1 tab_ok rfl rfl rfl rfl rfl rfl rfl rfl ?_) | refine WA.effN 20 rfl qK rfl rfl (Ef.store 2 tab_ok rfl rfl rfl rfl rfl rfl rfl rfl ?_) | refine WA.effN 20 rfl qK rfl rfl (Ef.store 3 tab_ok rfl rfl rfl rfl rfl rfl rfl rfl ?_) | refine WA.effN 20 rfl qK rfl rfl (Ef.store 4 tab_ok rfl rfl rfl rfl rfl rfl rfl rfl ?_) | refine WA.effN 20 rfl qK rfl rfl (Ef.store 5 tab_ok rfl rfl rfl rfl rfl rfl rfl rfl ?_) | refine WA.effN 20 rfl qK rfl rfl (Ef.store 6 tab_ok rfl rfl rfl rfl rfl rfl rfl rfl ?_)
       refine ⟨qR, qS, ?_⟩
       refine WA.done qK ?_
       refine WE.cut (nth (fvals (upV xs (c + 3) v0) n) ((n : Int) - 1).toNat - nth (fvals (upV xs (c + 3) v0) n) ((n : Int) - (P : Int)).toNat + nth ([0, 0, 1, 3, 4, 8] : List Int) (mod (nth xs (c + 3 + n)) ((6 : Nat) : Int)).toNat) ⟨by omega, by omega, by omega⟩ ⟨rfl, rfl, rfl, rfl⟩ (RLe.refl _) qS
    ·
     refine WS.eff rfl rfl rfl qD (Ef.buildSliceD (enc := encI) (parts := [.const (.int .i64 0), .const (.int .i64 0), .const (.int .i64 1), .const (.int .i64 3), .const (.int .i64 4), .const (.int .i64 8)]) [_, _, _, _, _, _] tab_ok rfl rfl rfl rfl rfl rfl rfl rfl qD qD (fun a54 => ?_))
     refine ⟨qR, qS, ?_⟩
     refine WA.br3 (i := 7) (j := 10) (k := 17) qK ?_ ?_ ?_
     ·
      refine' WS.yl rfl rfl rfl qD (Yl.load1 tab_ok rfl rfl rfl (fun _ => rfl) ?r27 rfl ?h27) qS qR ?_
      case r27 => apply Rd.add; (first | exact Rd.blk 0 rfl | exact Rd.blk 1 rfl | exact Rd.blk 2 rfl | exact Rd.blk 3 rfl | exact Rd.blk 4 rfl | exact Rd.blk 5 rfl | exact Rd.blk 6 rfl)
      case h27 => rfl
      refine WA.br2 (i := 10) (j := 17) qK ?_ ?_
      ·
       refine' WS.yl rfl rfl rfl qD (Yl.load1 tab_ok rfl rfl rfl (fun _ => rfl) ?r28 rfl ?h28) qS qR ?_
       case r28 => apply Rd.add; (first | exact Rd.blk 0 rfl | exact Rd.blk 1 rfl | exact Rd.blk 2 rfl | exact Rd.blk 3 rfl | exact Rd.blk 4 rfl | exact Rd.blk 5 rfl | exact Rd.blk 6 rfl)
       case h28 => rfl
       refine tS 11 ?_
       refine WA.take 12 rfl qK qK qK rfl rfl qD (Yl.index tab_ok rfl rfl rfl rfl rfl rfl (fun _ => rfl) qA qH) qS qR ?_
       refine' WA.take 13 rfl qK qK qK rfl rfl qD (Yl.load1 tab_ok rfl rfl rfl (fun _ => rfl) ?r29 rfl ?h29) qS qR ?_
       case r29 => (first | (apply RS.rdD; assumption; ((try dsimp only) <;> omega)) | exact Rd.slD 0 rfl qX | exact Rd.slD 1 rfl qX | exact Rd.slD 2 rfl qX | exact Rd.slD 3 rfl qX | exact Rd.slD 4 rfl qX | exact Rd.slD 5 rfl qX | exact Rd.slD 6 rfl qX)
       case h29 => rfl
       refine tS 14 ?_
       refine WA.callAt 5 17 rfl qK en33 rfl rfl qD (CallOp.mkT rfl rfl rfl rfl) rfl (PickM_C (j := 0) w0 ([0, 0, 1, 3, 4, 8] : List Int) rfl qD qD ha rfl) ?_
       rintro _ _ _ _ - ⟨rfl, rfl, rfl, rfl⟩
       refine ⟨RLe.refl _, qS, ?_⟩
       refine tA 18 ?_
       refine tP 19 ?_
       first | refine WA.effN 20 rfl qK rfl rfl (Ef.store 0 tab_ok rfl rfl rfl rfl rfl rfl rfl rfl ?_) | refine WA.effN 20 rfl qK rfl rfl (Ef.store 1 tab_ok rfl rfl rfl rfl rfl rfl rfl rfl ?_) | refine WA.effN 20 rfl qK rfl rfl (Ef.store 2 tab_ok rfl rfl rfl rfl rfl rfl rfl rfl ?_) | refine WA.effN 20 rfl qK rfl rfl (Ef.store 3 tab_ok rfl rfl rfl rfl rfl rfl rfl rfl ?_) | refine WA.effN 20 rfl qK rfl rfl (Ef.store 4 tab_ok rfl rfl rfl rfl rfl rfl rfl rfl ?_) | refine WA.effN 20 rfl qK rfl rfl (Ef.store 5 tab_ok rfl rfl rfl rfl rfl rfl rfl rfl ?_) | refine WA.effN 20 rfl qK rfl rfl (Ef.store 6 tab_ok rfl rfl rfl rfl rfl rfl rfl rfl ?_)
       refine ⟨qR, qS, ?_⟩
       refine WA.done qK ?_
       refine WE.cut (nth (fvals (upV xs (c + 3) v0) n) ((n : Int) - 1).toNat - nth (fvals (upV xs (c + 3) v0) n) ((n : Int) - (P : Int)).toNat + nth ([0, 0, 1, 3, 4, 8] : List Int) (mod (nth xs (c + 3 + n)) ((6 : Nat) : Int)).toNat) ⟨by omega, by omega, by omega⟩ ⟨rfl, rfl, rfl, rfl⟩ (RLe.refl _) qS
      ·
       refine WS.callAt 5 rfl en33 rfl rfl qD (CallOp.mkT rfl rfl rfl rfl) rfl (PickM_C (j := 0) w0 ([0, 0, 1, 3, 4, 8] : List Int) rfl qD qD ha rfl) ?_
       rintro _ _ _ _ - ⟨rfl, rfl, rfl, rfl⟩
       refine ⟨qR, qS, ?_⟩
       refine' WA.yl 10 rfl qK rfl rfl qD (Yl.load1 tab_ok rfl rfl rfl (fun _ => rfl) ?r30 rfl ?h30) qS qR ?_
       case r30 => apply Rd.add; (first | exact Rd.blk 0 rfl | exact Rd.blk 1 rfl | exact Rd.blk 2 rfl | exact Rd.blk 3 rfl | exact Rd.blk 4 rfl | exact Rd.blk 5 rfl | exact Rd.blk 6 rfl)
       case h30 => rfl
       refine tS 11 ?_
       refine WA.take 12 rfl qK qK qK rfl rfl qD (Yl.index tab_ok rfl rfl rfl rfl rfl rfl (fun _ => rfl) qA qH) qS qR ?_
       refine' WA.take 13 rfl qK qK qK rfl rfl qD (Yl.load1 tab_ok rfl rfl rfl (fun _ => rfl) ?r31 rfl ?h31) qS qR ?_
       case r31 => (first | (apply RS.rdD; assumption; ((try dsimp only) <;> omega)) | exact Rd.slD 0 rfl qX | exact Rd.slD 1 rfl qX | exact Rd.slD 2 rfl qX | exact Rd.slD 3 rfl qX | exact Rd.slD 4 rfl qX | exact Rd.slD 5 rfl qX | exact Rd.slD 6 rfl qX)
       case h31 => rfl
       refine tS 14 ?_
       refine tA 18 ?_
       refine tP 19 ?_
       first | refine WA.effN 20 rfl qK rfl rfl (Ef.store 0 tab_ok rfl rfl rfl rfl rfl rfl rfl rfl ?_) | refine WA.effN 20 rfl qK rfl rfl (Ef.store 1 tab_ok rfl rfl rfl rfl rfl rfl rfl rfl ?_) | refine WA.effN 20 rfl qK rfl rfl (Ef.store 2 tab_ok rfl rfl rfl rfl rfl rfl rfl rfl ?_) | refine WA.effN 20 rfl qK rfl rfl (Ef.store 3 tab_ok rfl rfl rfl rfl rfl rfl rfl rfl ?_) | refine WA.effN 20 rfl qK rfl rfl (Ef.store 4 tab_ok rfl rfl rfl rfl rfl rfl rfl rfl ?_) | refine WA.effN 20 rfl qK rfl rfl (Ef.store 5 tab_ok rfl rfl rfl rfl rfl rfl rfl rfl ?_) | refine WA.effN 20 rfl qK rfl rfl (Ef.store 6 tab_ok rfl rfl rfl rfl rfl rfl rfl rfl ?_)
       refine ⟨qR, qS, ?_⟩
       refine WA.done qK ?_
       refine WE.cut (nth (fvals (upV xs (c + 3) v0) n) ((n : Int) - 1).toNat - nth (fvals (upV xs (c + 3) v0) n) ((n : Int) - (P : Int)).toNat + nth ([0, 0, 1, 3, 4, 8] : List Int) (mod (nth xs (c + 3 + n)) ((6 : Nat) : Int)).toNat) ⟨by omega, by omega, by omega⟩ ⟨rfl, rfl, rfl, rfl⟩ (RLe.refl _) qS
     ·
      refine' WS.yl rfl rfl rfl qD (Yl.load1 tab_ok rfl rfl rfl (fun _ => rfl) ?r32 rfl ?h32) qS qR ?_
      case r32 => apply Rd.add; (first | exact Rd.blk 0 rfl | exact Rd.blk 1 rfl | exact Rd.blk 2 rfl | exact Rd.blk 3 rfl | exact Rd.blk 4 rfl | exact Rd.blk 5 rfl | exact Rd.blk 6 rfl)
      case h32 => rfl
      refine tS 11 ?_
      refine WA.br2 (i := 7) (j := 17) qK ?_ ?_
      ·
       refine' WS.yl rfl rfl rfl qD (Yl.load1 tab_ok rfl rfl rfl (fun _ => rfl) ?r33 rfl ?h33) qS qR ?_
       case r33 => apply Rd.add; (first | exact Rd.blk 0 rfl | exact Rd.blk 1 rfl | exact Rd.blk 2 rfl | exact Rd.blk 3 rfl | exact Rd.blk 4 rfl | exact Rd.blk 5 rfl | exact Rd.blk 6 rfl)
       case h33 => rfl
       refine WA.take 12 rfl qK qK qK rfl rfl qD (Yl.index tab_ok rfl rfl rfl rfl rfl rfl (fun _ => rfl) qA qH) qS qR ?_
       refine' WA.take 13 rfl qK qK qK rfl rfl qD (Yl.load1 tab_ok rfl rfl rfl (fun _ => rfl) ?r34 rfl ?h34) qS qR ?_
       case r34 => (first | (apply RS.rdD; assumption; ((try dsimp only) <;> omega)) | exact Rd.slD 0 rfl qX | exact Rd.slD 1 rfl qX | exact Rd.slD 2 rfl qX | exact Rd.slD 3 rfl qX | exact Rd.slD 4 rfl qX | exact Rd.slD 5 rfl qX | exact Rd.slD 6 rfl qX)
       case h34 => rfl
       refine tS 14 ?_
       refine WA.callAt 5 17 rfl qK en33 rfl rfl qD (CallOp.mkT rfl rfl rfl rfl) rfl (PickM_C (j := 0) w0 ([0, 0, 1, 3, 4, 8] : List Int) rfl qD qD ha rfl) ?_
       rintro _ _ _ _ - ⟨rfl, rfl, rfl, rfl⟩
       refine ⟨RLe.refl _, qS, ?_⟩
       refine tA 18 ?_
       refine tP 19 ?_
       first | refine WA.effN 20 rfl qK rfl rfl (Ef.store 0 tab_ok rfl rfl rfl rfl rfl rfl rfl rfl ?_) | refine WA.effN 20 rfl qK rfl rfl (Ef.store 1 tab_ok rfl rfl rfl rfl rfl rfl rfl rfl ?_) | refine WA.effN 20 rfl qK rfl rfl (Ef.store 2 tab_ok rfl rfl rfl rfl rfl rfl rfl rfl ?_) | refine WA.effN 20 rfl qK rfl rfl (Ef.store 3 tab_ok rfl rfl rfl rfl rfl rfl rfl rfl ?_) | refine WA.effN 20 rfl qK rfl rfl (Ef.store 4 tab_ok rfl rfl rfl rfl rfl rfl rfl rfl ?_) | refine WA.effN 20 rfl qK rfl rfl (Ef.store 5 tab_ok rfl rfl rfl rfl rfl rfl rfl rfl ?_) | refine WA.effN 20 rfl qK rfl rfl (Ef.store 6 tab_ok rfl rfl rfl rfl rfl rfl rfl rfl ?_)
       refine ⟨qR, qS, ?_⟩
       refine WA.done qK ?_
       refine WE.cut (nth (fvals (upV xs (c + 3) v0) n) ((n : Int) - 1).toNat - nth (fvals (upV xs (c + 3) v0) n) ((n : Int) - (P : Int)).toNat + nth ([0, 0, 1, 3, 4, 8] : List Int) (mod (nth xs (c + 3 + n)) ((6 : Nat) : Int)).toNat) ⟨by omega, by omega, by omega⟩ ⟨rfl, rfl, rfl, rfl⟩ (RLe.refl _) qS
      ·
       refine WS.callAt 5 rfl en33 rfl rfl qD (CallOp.mkT rfl rfl rfl rfl) rfl (PickM_C (j := 0) w0 ([0, 0, 1, 3, 4, 8] : List Int) rfl qD qD ha rfl) ?_
       rintro _ _ _ _ - ⟨rfl, rfl, rfl, rfl⟩
       refine ⟨qR, qS, ?_⟩
       refine' WA.yl 7 rfl qK rfl rfl qD (Yl.load1 tab_ok rfl rfl rfl (fun _ => rfl) ?r35 rfl ?h35) qS qR ?_
       case r35 => apply Rd.add; (first | exact Rd.blk 0 rfl | exact Rd.blk 1 rfl | exact Rd.blk 2 rfl | exact Rd.blk 3 rfl | exact Rd.blk 4 rfl | exact Rd.blk 5 rfl | exact Rd.blk 6 rfl)
       case h35 => rfl
       refine WA.take 12 rfl qK qK qK rfl rfl qD (Yl.index tab_ok rfl rfl rfl rfl rfl rfl (fun _ => rfl) qA qH) qS qR ?_
       refine' WA.take 13 rfl qK qK qK rfl rfl qD (Yl.load1 tab_ok rfl rfl rfl (fun _ => rfl) ?r36 rfl ?h36) qS qR ?_
       case r36 => (first | (apply RS.rdD; assumption; ((try dsimp only) <;> omega)) | exact Rd.slD 0 rfl qX | exact Rd.slD 1 rfl qX | exact Rd.slD 2 rfl qX | exact Rd.slD 3 rfl qX | exact Rd.slD 4 rfl qX | exact Rd.slD 5 rfl qX | exact Rd.slD 6 rfl qX)
       case h36 => rfl
       refine tS 14 ?_
       refine tA 18 ?_
       refine tP 19 ?_
       first | refine WA.effN 20 rfl qK rfl rfl (Ef.store 0 tab_ok rfl rfl rfl rfl rfl rfl rfl rfl ?_) | refine WA.effN 20 rfl qK rfl rfl (Ef.store 1 tab_ok rfl rfl rfl rfl rfl rfl rfl rfl ?_) | refine WA.effN 20 rfl qK rfl rfl (Ef.store 2 tab_ok rfl rfl rfl rfl rfl rfl rfl rfl ?_) | refine WA.effN 20 rfl qK rfl rfl (Ef.store 3 tab_ok rfl rfl rfl rfl rfl rfl rfl rfl ?_) | refine WA.effN 20 rfl qK rfl rfl (Ef.store 4 tab_ok rfl rfl rfl rfl rfl rfl rfl rfl ?_) | refine WA.effN 20 rfl qK rfl rfl (Ef.store 5 tab_ok rfl rfl rfl rfl rfl rfl rfl rfl ?_) | refine WA.effN 20 rfl qK rfl rfl (Ef.store 6 tab_ok rfl rfl rfl rfl rfl rfl rfl rfl ?_)
       refine ⟨qR, qS, ?_⟩
       refine WA.done qK ?_
       refine WE.cut (nth (fvals (upV xs (c + 3) v0) n) ((n : Int) - 1).toNat - nth (fvals (upV xs (c + 3) v0) n) ((n : Int) - (P : Int)).toNat + nth ([0, 0, 1, 3, 4, 8] : List Int) (mod (nth xs (c + 3 + n)) ((6 : Nat) : Int)).toNat) ⟨by omega, by omega, by omega⟩ ⟨rfl, rfl, rfl, rfl⟩ (RLe.refl _) qS
     ·
      refine WS.callAt 5 rfl en33 rfl rfl qD (CallOp.mkT rfl rfl rfl rfl) rfl (PickM_C (j := 0) w0 ([0, 0, 1, 3, 4, 8] : List Int) rfl qD qD ha rfl) ?_
      rintro _ _ _ _ - ⟨rfl, rfl, rfl, rfl⟩
      refine ⟨qR, qS, ?_⟩
      refine WA.br2 (i := 7) (j := 10) qK ?_ ?_
      ·
       refine' WS.yl rfl rfl rfl qD (Yl.load1 tab_ok rfl rfl rfl (fun _ => rfl) ?r37 rfl ?h37) qS qR ?_
       case r37 => apply Rd.add; (first | exact Rd.blk 0 rfl | exact Rd.blk 1 rfl | exact Rd.blk 2 rfl | exact Rd.blk 3 rfl | exact Rd.blk 4 rfl | exact Rd.blk 5 rfl | exact Rd.blk 6 rfl)
       case h37 => rfl
       refine' WA.yl 10 rfl qK rfl rfl qD (Yl.load1 tab_ok rfl rfl rfl (fun _ => rfl) ?r38 rfl ?h38) qS qR ?_
       case r38 => apply Rd.add; (first | exact Rd.blk 0 rfl | exact Rd.blk 1 rfl | exact Rd.blk 2 rfl | exact Rd.blk 3 rfl | exact Rd.blk 4 rfl | exact Rd.blk 5 rfl | exact Rd.blk 6 rfl)
       case h38 => rfl
       refine tS 11 ?_
       refine WA.take 12 rfl qK qK qK rfl rfl qD (Yl.index tab_ok rfl rfl rfl rfl rfl rfl (fun _ => rfl) qA qH) qS qR ?_
       refine' WA.take 13 rfl qK qK qK rfl rfl qD (Yl.load1 tab_ok rfl rfl rfl (fun _ => rfl) ?r39 rfl ?h39) qS qR ?_
       case r39 => (first | (apply RS.rdD; assumption; ((try dsimp only) <;> omega)) | exact Rd.slD 0 rfl qX | exact Rd.slD 1 rfl qX | exact Rd.slD 2 rfl qX | exact Rd.slD 3 rfl qX | exact Rd.slD 4 rfl qX | exact Rd.slD 5 rfl qX | exact Rd.slD 6 rfl qX)
       case h39 => rfl
       refine tS 14 ?_
       refine tA 18 ?_
       refine tP 19 ?_
       first | refine WA.effN 20 rfl qK rfl rfl (Ef.store 0 tab_ok rfl rfl rfl rfl rfl rfl rfl rfl ?_) | refine WA.effN 20 rfl qK rfl rfl (Ef.store 1 tab_ok rfl rfl rfl rfl rfl rfl rfl rfl ?_) | refine WA.effN 20 rfl qK rfl rfl (Ef.store 2 tab_ok rfl rfl rfl rfl rfl rfl rfl rfl ?_) | refine WA.effN 20 rfl qK rfl rfl (Ef.store 3 tab_ok rfl rfl rfl rfl rfl rfl rfl rfl ?_) | refine WA.effN 20 rfl qK rfl rfl (Ef.store 4 tab_ok rfl rfl rfl rfl rfl rfl rfl rfl ?_) | refine WA.effN 20 rfl qK rfl rfl (Ef.store 5 tab_ok rfl rfl rfl rfl rfl rfl rfl rfl ?_) | refine WA.effN 20 rfl qK rfl rfl (Ef.store 6 tab_ok rfl rfl rfl rfl rfl rfl rfl rfl ?_)
       refine ⟨qR, qS, ?_⟩
       refine WA.done qK ?_
       refine WE.cut (nth (fvals (upV xs (c + 3) v0) n) ((n : Int) - 1).toNat - nth (fvals (upV xs (c + 3) v0) n) ((n : Int) - (P : Int)).toNat + nth ([0, 0, 1, 3, 4, 8] : List Int) (mod (nth xs (c + 3 + n)) ((6 : Nat) : Int)).toNat) ⟨by omega, by omega, by omega⟩ ⟨rfl, rfl, rfl, rfl⟩ (RLe.refl _) qS
      ·
       refine' WS.yl rfl rfl rfl qD (Yl.load1 tab_ok rfl rfl rfl (fun _ => rfl) ?r40 rfl ?h40) qS qR ?_
       case r40 => apply Rd.add; (first | exact Rd.blk 0 rfl | exact Rd.blk 1 rfl | exact Rd.blk 2 rfl | exact Rd.blk 3 rfl | exact Rd.blk 4 rfl | exact Rd.blk 5 rfl | exact Rd.blk 6 rfl)
       case h40 => rfl
       refine tS 11 ?_
       refine' WA.yl 7 rfl qK rfl rfl qD (Yl.load1 tab_ok rfl rfl rfl (fun _ => rfl) ?r41 rfl ?h41) qS qR ?_
       case r41 => apply Rd.add; (first | exact Rd.blk 0 rfl | exact Rd.blk 1 rfl | exact Rd.blk 2 rfl | exact Rd.blk 3 rfl | exact Rd.blk 4 rfl | exact Rd.blk 5 rfl | exact Rd.blk 6 rfl)
       case h41 => rfl
       refine WA.take 12 rfl qK qK qK rfl rfl qD (Yl.index tab_ok rfl rfl rfl rfl rfl rfl (fun _ => rfl) qA qH) qS qR ?_
       refine' WA.take 13 rfl qK qK qK rfl rfl qD (Yl.load1 tab_ok rfl rfl rfl (fun _ => rfl) ?r42 rfl ?h42) qS qR ?_
       case r42 => (first | (apply RS.rdD; assumption; ((try dsimp only) <;> omega)) | exact Rd.slD 0 rfl qX | exact Rd.slD 1 rfl qX | exact Rd.slD 2 rfl qX | exact Rd.slD 3 rfl qX | exact Rd.slD 4 rfl qX | exact Rd.slD 5 rfl qX | exact Rd.slD 6 rfl qX)
       case h42 => rfl
       refine tS 14 ?_
       refine tA 18 ?_
       refine tP 19 ?_
       first | refine WA.effN 20 rfl qK rfl rfl (Ef.store 0 tab_ok rfl rfl rfl rfl rfl rfl rfl rfl ?_) | refine WA.effN 20 rfl qK rfl rfl (Ef.store 1 tab_ok rfl rfl rfl rfl rfl rfl rfl rfl ?_) | refine WA.effN 20 rfl qK rfl rfl (Ef.store 2 tab_ok rfl rfl rfl rfl rfl rfl rfl rfl ?_) | refine WA.effN 20 rfl qK rfl rfl (Ef.store 3 tab_ok rfl rfl rfl rfl rfl rfl rfl rfl ?_) | refine WA.effN 20 rfl qK rfl rfl (Ef.store 4 tab_ok rfl rfl rfl rfl rfl rfl rfl rfl ?_) | refine WA.effN 20 rfl qK rfl rfl (Ef.store 5 tab_ok rfl rfl rfl rfl rfl rfl rfl rfl ?_) | refine WA.effN 20 rfl qK rfl rfl (Ef.store 6 tab_ok rfl rfl rfl rfl rfl rfl rfl rfl ?_)
       refine ⟨qR, qS, ?_⟩
       refine WA.done qK ?_
       refine WE.cut (nth (fvals (upV xs (c + 3) v0) n) ((n : Int) - 1).toNat - nth (fvals (upV xs (c + 3) v0) n) ((n : Int) - (P : Int)).toNat + nth ([0, 0, 1, 3, 4, 8] : List Int) (mod (nth xs (c + 3 + n)) ((6 : Nat) : Int)).toNat) ⟨by omega, by omega, by omega⟩ ⟨rfl, rfl, rfl, rfl⟩ (RLe.refl _) qS
   ·
    refine' WS.yl rfl rfl rfl qD (Yl.load1 tab_ok rfl rfl rfl (fun _ => rfl) ?r43 rfl ?h43) qS qR ?_
    case r43 => apply Rd.add; (first | exact Rd.blk 0 rfl | exact Rd.blk 1 rfl | exact Rd.blk 2 rfl | exact Rd.blk 3 rfl | exact Rd.blk 4 rfl | exact Rd.blk 5 rfl | exact Rd.blk 6 rfl)
    case h43 => rfl
    refine WA.br3 (i := 1) (j := 10) (k := 16) qK ?_ ?_ ?_
    ·
     refine' WS.yl rfl rfl rfl qD (Yl.load1 tab_ok rfl rfl rfl (fun _ => rfl) ?r44 rfl ?h44) qS qR ?_
     case r44 => apply Rd.add; (first | exact Rd.blk 0 rfl | exact Rd.blk 1 rfl | exact Rd.blk 2 rfl | exact Rd.blk 3 rfl | exact Rd.blk 4 rfl | exact Rd.blk 5 rfl | exact Rd.blk 6 rfl)
     case h44 => rfl
     refine WA.take 4 rfl qK qK qK rfl rfl qD (Yl.index tab_ok rfl rfl rfl rfl rfl rfl (fun _ => rfl) qA qH) qS qR ?_
     refine' WA.take 5 rfl qK qK qK rfl rfl qD (Yl.load1 tab_ok rfl rfl rfl (fun _ => rfl) ?r45 rfl ?h45) qS qR ?_
     case r45 => (first | (apply RS.rdD; assumption; ((try dsimp only) <;> omega)) | exact Rd.slD 0 rfl qX | exact Rd.slD 1 rfl qX | exact Rd.slD 2 rfl qX | exact Rd.slD 3 rfl qX | exact Rd.slD 4 rfl qX | exact Rd.slD 5 rfl qX | exact Rd.slD 6 rfl qX)
     case h45 => rfl
     refine WA.br2 (i := 10) (j := 16) qK ?_ ?_
     ·
      refine' WS.yl rfl rfl rfl qD (Yl.load1 tab_ok rfl rfl rfl (fun _ => rfl) ?r46 rfl ?h46) qS qR ?_
      case r46 => apply Rd.add; (first | exact Rd.blk 0 rfl | exact Rd.blk 1 rfl | exact Rd.blk 2 rfl | exact Rd.blk 3 rfl | exact Rd.blk 4 rfl | exact Rd.blk 5 rfl | exact Rd.blk 6 rfl)
      case h46 => rfl
      refine tS 11 ?_
      refine WA.take 12 rfl qK qK qK rfl rfl qD (Yl.index tab_ok rfl rfl rfl rfl rfl rfl (fun _ => rfl) qA qH) qS qR ?_
      refine' WA.take 13 rfl qK qK qK rfl rfl qD (Yl.load1 tab_ok rfl rfl rfl (fun _ => rfl) ?r47 rfl ?h47) qS qR ?_
      case r47 => (first | (apply RS.rdD; assumption; ((try dsimp only) <;> omega)) | exact Rd.slD 0 rfl qX | exact Rd.slD 1 rfl qX | exact Rd.slD 2 rfl qX | exact Rd.slD 3 rfl qX | exact Rd.slD 4 rfl qX | exact Rd.slD 5 rfl qX | exact Rd.slD 6 rfl qX)
      case h47 => rfl
      refine tS 14 ?_
      refine WA.eff 16 rfl qK rfl rfl qD (Ef.buildSliceD (enc := encI) (parts := [.const (.int .i64 0), .const (.int .i64 0), .const (.int .i64 1), .const (.int .i64 3), .const (.int .i64 4), .const (.int .i64 8)]) [_, _, _, _, _, _] tab_ok rfl rfl rfl rfl rfl rfl rfl rfl qD qD (fun a54 => ?_))
      refine ⟨qR, qS, ?_⟩
      refine WA.callAt 5 17 rfl qK en33 rfl rfl qD (CallOp.mkT rfl rfl rfl rfl) rfl (PickM_C (j := 0) w0 ([0, 0, 1, 3, 4, 8] : List Int) rfl qD qD ha rfl) ?_
      rintro _ _ _ _ - ⟨rfl, rfl, rfl, rfl⟩
      refine ⟨RLe.refl _, qS, ?_⟩
      refine tA 18 ?_
      refine tP 19 ?_
      first | refine WA.effN 20 rfl qK rfl rfl (Ef.store 0 tab_ok rfl rfl rfl rfl rfl rfl rfl rfl ?_) | refine WA.effN 20 rfl qK rfl rfl (Ef.store 1 tab_ok rfl rfl rfl rfl rfl rfl rfl rfl ?_) | refine WA.effN 20 rfl qK rfl rfl (Ef.store 2 tab_ok rfl rfl rfl rfl rfl rfl rfl rfl ?_) | refine WA.effN 20 rfl qK rfl rfl (Ef.store 3 tab_ok rfl rfl rfl rfl rfl rfl rfl rfl ?_) | refine WA.effN 20 rfl qK rfl rfl (Ef.store 4 tab_ok rfl rfl rfl rfl rfl rfl rfl rfl ?_) | refine WA.effN 20 rfl qK rfl rfl (Ef.store 5 tab_ok rfl rfl rfl rfl rfl rfl rfl rfl ?_) | refine WA.effN 20 rfl qK rfl rfl (Ef.store 6 tab_ok rfl rfl rfl rfl rfl rfl rfl rfl ?_)
      refine ⟨qR, qS, ?_⟩
      refine WA.done qK ?_
      refine WE.cut (nth (fvals (upV xs (c + 3) v0) n) ((n : Int) - 1).toNat - nth (fvals (upV xs (c + 3) v0) n) ((n : Int) - (P : Int)).toNat + nth ([0, 0, 1, 3, 4, 8] : List Int) (mod (nth xs (c + 3 + n)) ((6 : Nat) : Int)).toNat) ⟨by omega, by omega, by omega⟩ ⟨rfl, rfl, rfl, rfl⟩ (RLe.refl _) qS
     ·
      refine WS.eff rfl rfl rfl qD (Ef.buildSliceD (enc := encI) (parts := [.const (.int .i64 0), .const (.int .i64 0), .const (.int .i64 1), .const (.int .i64 3), .const (.int .i64 4), .const (.int .i64 8)]) [_, _, _, _, _, _] tab_ok rfl rfl rfl rfl rfl rfl rfl rfl qD qD (fun a54 => ?_))
      refine ⟨qR, qS, ?_⟩
      refine WA.br2 (i := 10) (j := 17) qK ?_ ?_
      ·
       refine' WS.yl rfl rfl rfl qD (Yl.load1 tab_ok rfl rfl rfl (fun _ => rfl) ?r48 rfl ?h48) qS qR ?_
       case r48 => apply Rd.add; (first | exact Rd.blk 0 rfl | exact Rd.blk 1 rfl | exact Rd.blk 2 rfl | exact Rd.blk 3 rfl | exact Rd.blk 4 rfl | exact Rd.blk 5 rfl | exact Rd.blk 6 rfl)
       case h48 => rfl
       refine tS 11 ?_
       refine WA.take 12 rfl qK qK qK rfl rfl qD (Yl.index tab_ok rfl rfl rfl rfl rfl rfl (fun _ => rfl) qA qH) qS qR ?_
       refine' WA.take 13 rfl qK qK qK rfl rfl qD (Yl.load1 tab_ok rfl rfl rfl (fun _ => rfl) ?r49 rfl ?h49) qS qR ?_
       case r49 => (first | (apply RS.rdD; assumption; ((try dsimp only) <;> omega)) | exact Rd.slD 0 rfl qX | exact Rd.slD 1 rfl qX | exact Rd.slD 2 rfl qX | exact Rd.slD 3 rfl qX | exact Rd.slD 4 rfl qX | exact Rd.slD 5 rfl qX | exact Rd.slD 6 rfl qX)
       case h49 => rfl
       refine tS 14 ?_
       refine WA.callAt 5 17 rfl qK en33 rfl rfl qD (CallOp.mkT rfl rfl rfl rfl) rfl (PickM_C (j := 0) w0 ([0, 0, 1, 3, 4, 8] : List Int) rfl qD qD ha rfl) ?_
       rintro _ _ _ _ - ⟨rfl, rfl, rfl, rfl⟩
       refine ⟨RLe.refl _, qS, ?_⟩
       refine tA 18 ?_
       refine tP 19 ?_
       first | refine WA.effN 20 rfl qK rfl rfl (Ef.store 0 tab_ok rfl rfl rfl rfl rfl rfl rfl rfl ?_) | refine WA.effN 20 rfl qK rfl rfl (Ef.store 1 tab_ok rfl rfl rfl rfl rfl rfl rfl rfl ?_) | refine WA.effN 20 rfl qK rfl rfl (Ef.store 2 tab_ok rfl rfl rfl rfl rfl rfl rfl rfl ?_) | refine WA.effN 20 rfl qK rfl rfl (Ef.store 3 tab_ok rfl rfl rfl rfl rfl rfl rfl rfl ?_) | refine WA.effN 20 rfl qK rfl rfl (Ef.store 4 tab_ok rfl rfl rfl rfl rfl rfl rfl rfl ?_) | refine WA.effN 20 rfl qK rfl rfl (Ef.store 5 tab_ok rfl rfl rfl rfl rfl rfl rfl rfl ?_) | refine WA.effN 20 rfl qK rfl rfl (Ef.store 6 tab_ok rfl rfl rfl rfl rfl rfl rfl rfl ?_)
       refine ⟨qR, qS, ?_⟩
       refine WA.done qK ?_
       refine WE.cut (nth (fvals (upV xs (c + 3) v0) n) ((n : Int) - 1).toNat - nth (fvals (upV xs (c + 3) v0) n) ((n : Int) - (P : Int)).toNat + nth ([0, 0, 1, 3, 4, 8] : List Int) (mod (nth xs (c + 3 + n)) ((6 : Nat) : Int)).toNat) ⟨by omega, by omega, by omega⟩ ⟨rfl, rfl, rfl, rfl⟩ (RLe.refl _) qS
      ·
       refine WS.callAt 5 rfl en33 rfl rfl qD (CallOp.mkT rfl rfl rfl rfl) rfl (PickM_C (j := 0) w0 ([0, 0, 1, 3, 4, 8] : List Int) rfl qD qD ha rfl) ?_
       rintro _ _ _ _ - ⟨rfl, rfl, rfl, rfl⟩
       refine ⟨qR, qS, ?_⟩
       refine' WA.yl 10 rfl qK rfl rfl qD (Yl.load1 tab_ok rfl rfl rfl (fun _ => rfl) ?r50 rfl ?h50) qS qR ?_
       case r50 => apply Rd.add; (first | exact Rd.blk 0 rfl | exact Rd.blk 1 rfl | exact Rd.blk 2 rfl | exact Rd.blk 3 rfl | exact Rd.blk 4 rfl | exact Rd.blk 5 rfl | exact Rd.blk 6 rfl)
       case h50 => rfl
       refine tS 11 ?_
       refine WA.take 12 rfl qK qK qK rfl rfl qD (Yl.index tab_ok rfl rfl rfl rfl rfl rfl (fun _ => rfl) qA qH) qS qR ?_
       refine' WA.take 13 rfl qK qK qK rfl rfl qD (Yl.load1 tab_ok rfl rfl rfl (fun _ => rfl) ?r51 rfl ?h51) qS qR ?_
       case r51 => (first | (apply RS.rdD; assumption; ((try dsimp only) <;> omega)) | exact Rd.slD 0 rfl qX | exact Rd.slD 1 rfl qX | exact Rd.slD 2 rfl qX | exact Rd.slD 3 rfl qX | exact Rd.slD 4 rfl qX | exact Rd.slD 5 rfl qX | exact Rd.slD 6 rfl qX)
       case h51 => rfl
       refine tS 14 ?_
       refine tA 18 ?_
       refine tP 19 ?_
       first | refine WA.effN 20 rfl qK rfl rfl (Ef.store 0 tab_ok rfl rfl rfl rfl rfl rfl rfl rfl ?_) | refine WA.effN 20 rfl qK rfl rfl (Ef.store 1 tab_ok rfl rfl rfl rfl rfl rfl rfl rfl ?_) | refine WA.effN 20 rfl qK rfl rfl (Ef.store 2 tab_ok rfl rfl rfl rfl rfl rfl rfl rfl ?_) | refine WA.effN 20 rfl qK rfl rfl (Ef.store 3 tab_ok rfl rfl rfl rfl rfl rfl rfl rfl ?_) | refine WA.effN 20 rfl qK rfl rfl (Ef.store 4 tab_ok rfl rfl rfl rfl rfl rfl rfl rfl ?_) | refine WA.effN 20 rfl qK rfl rfl (Ef.store 5 tab_ok rfl rfl rfl rfl rfl rfl rfl rfl ?_) | refine WA.effN 20 rfl qK rfl rfl (Ef.store 6 tab_ok rfl rfl rfl rfl rfl rfl rfl rfl ?_)
       refine ⟨qR, qS, ?_⟩
       refine WA.done qK ?_
       refine WE.cut (nth (fvals (upV xs (c + 3) v0) n) ((n : Int) - 1).toNat - nth (fvals (upV xs (c + 3) v0) n) ((n : Int) - (P : Int)).toNat + nth ([0, 0, 1, 3, 4, 8] : List Int) (mod (nth xs (c + 3 + n)) ((6 : Nat) : Int)).toNat) ⟨by omega, by omega, by omega⟩ ⟨rfl, rfl, rfl, rfl⟩ (RLe.refl _) qS
    ·
     refine' WS.yl rfl rfl rfl qD (Yl.load1 tab_ok rfl rfl rfl (fun _ => rfl) ?r52 rfl ?h52) qS qR ?_
     case r52 => apply Rd.add; (first | exact Rd.blk 0 rfl | exact Rd.blk 1 rfl | exact Rd.blk 2 rfl | exact Rd.blk 3 rfl | exact Rd.blk 4 rfl | exact Rd.blk 5 rfl | exact Rd.blk 6 rfl)
     case h52 => rfl
     refine tS 11 ?_
     refine WA.take 12 rfl qK qK qK rfl rfl qD (Yl.index tab_ok rfl rfl rfl rfl rfl rfl (fun _ => rfl) qA qH) qS qR ?_
     refine' WA.take 13 rfl qK qK qK rfl rfl qD (Yl.load1 tab_ok rfl rfl rfl (fun _ => rfl) ?r53 rfl ?h53) qS qR ?_
     case r53 => (first | (apply RS.rdD; assumption; ((try dsimp only) <;> omega)) | exact Rd.slD 0 rfl qX | exact Rd.slD 1 rfl qX | exact Rd.slD 2 rfl qX | exact Rd.slD 3 rfl qX | exact Rd.slD 4 rfl qX | exact Rd.slD 5 rfl qX | exact Rd.slD 6 rfl qX)
     case h53 => rfl
     refine WA.br2 (i := 1) (j := 16) qK ?_ ?_
     ·
      refine' WS.yl rfl rfl rfl qD (Yl.load1 tab_ok rfl rfl rfl (fun _ => rfl) ?r54 rfl ?h54) qS qR ?_
      case r54 => apply Rd.add; (first | exact Rd.blk 0 rfl | exact Rd.blk 1 rfl | exact Rd.blk 2 rfl | exact Rd.blk 3 rfl | exact Rd.blk 4 rfl | exact Rd.blk 5 rfl | exact Rd.blk 6 rfl)
      case h54 => rfl
      refine WA.take 4 rfl qK qK qK rfl rfl qD (Yl.index tab_ok rfl rfl rfl rfl rfl rfl (fun _ => rfl) qA qH) qS qR ?_
      refine' WA.take 5 rfl qK qK qK rfl rfl qD (Yl.load1 tab_ok rfl rfl rfl (fun _ => rfl) ?r55 rfl ?h55) qS qR ?_
      case r55 => (first | (apply RS.rdD; assumption; ((try dsimp only) <;> omega)) | exact Rd.slD 0 rfl qX | exact Rd.slD 1 rfl qX | exact Rd.slD 2 rfl qX | exact Rd.slD 3 rfl qX | exact Rd.slD 4 rfl qX | exact Rd.slD 5 rfl qX | exact Rd.slD 6 rfl qX)
      case h55 => rfl
      refine tS 14 ?_
      refine WA.eff 16 rfl qK rfl rfl qD (Ef.buildSliceD (enc := encI) (parts := [.const (.int .i64 0), .const (.int .i64 0), .const (.int .i64 1), .const (.int .i64 3), .const (.int .i64 4), .const (.int .i64 8)]) [_, _, _, _, _, _] tab_ok rfl rfl rfl rfl rfl rfl rfl rfl qD qD (fun a54 => ?_))
      refine ⟨qR, qS, ?_⟩
      refine WA.callAt 5 17 rfl qK en33 rfl rfl qD (CallOp.mkT rfl rfl rfl rfl) rfl (PickM_C (j := 0) w0 ([0, 0, 1, 3, 4, 8] : List Int) rfl qD qD ha rfl) ?_
      rintro _ _ _ _ - ⟨rfl, rfl, rfl, rfl⟩
      refine ⟨RLe.refl _, qS, ?_⟩
      refine tA 18 ?_
      refine tP 19 ?_
      first | refine WA.effN 20 rfl qK rfl rfl (Ef.store 0 tab_ok rfl rfl rfl rfl rfl rfl rfl rfl ?_) | refine WA.effN 20 rfl qK rfl rfl (Ef.store 1 tab_ok rfl rfl rfl rfl rfl rfl rfl rfl ?_) | refine WA.effN 20 rfl qK rfl rfl (Ef.store 2 tab_ok rfl rfl rfl rfl rfl rfl rfl rfl ?_) | refine WA.effN 20 rfl qK rfl rfl (Ef.store 3 tab_ok rfl rfl rfl rfl rfl rfl rfl rfl ?_) | refine WA.effN 20 rfl qK rfl rfl (Ef.store 4 tab_ok rfl rfl rfl rfl rfl rfl rfl rfl ?_) | refine WA.effN 20 rfl qK rfl rfl (Ef.store 5 tab_ok rfl rfl rfl rfl rfl rfl rfl rfl ?_) | refine WA.effN 20 rfl qK rfl rfl (Ef.store 6 tab_ok rfl rfl rfl rfl rfl rfl rfl rfl ?_)
      refine ⟨qR, qS, ?_⟩
      refine WA.done qK ?_
      refine WE.cut (nth (fvals (upV xs (c + 3) v0) n) ((n : Int) - 1).toNat - nth (fvals (upV xs (c + 3) v0) n) ((n : Int) - (P : Int)).toNat + nth ([0, 0, 1, 3, 4, 8] : List Int) (mod (nth xs (c + 3 + n)) ((6 : Nat) : Int)).toNat) ⟨by omega, by omega, by omega⟩ ⟨rfl, rfl, rfl, rfl⟩ (RLe.refl _) qS
     ·
      refine WS.eff rfl rfl rfl qD (Ef.buildSliceD (enc := encI) (parts := [.const (.int .i64 0), .const (.int .i64 0), .const (.int .i64 1), .const (.int .i64 3), .const (.int .i64 4), .const (.int .i64 8)]) [_, _, _, _, _, _] tab_ok rfl rfl rfl rfl rfl rfl rfl rfl qD qD (fun a54 => ?_))
      refine ⟨qR, qS, ?_⟩
      refine WA.br2 (i := 1) (j := 17) qK ?_ ?_
      ·
       refine' WS.yl rfl rfl rfl qD (Yl.load1 tab_ok rfl rfl rfl (fun _ => rfl) ?r56 rfl ?h56) qS qR ?_
       case r56 => apply Rd.add; (first | exact Rd.blk 0 rfl | exact Rd.blk 1 rfl | exact Rd.blk 2 rfl | exact Rd.blk 3 rfl | exact Rd.blk 4 rfl | exact Rd.blk 5 rfl | exact Rd.blk 6 rfl)
       case h56 => rfl
       refine WA.take 4 rfl qK qK qK rfl rfl qD (Yl.index tab_ok rfl rfl rfl rfl rfl rfl (fun _ => rfl) qA qH) qS qR ?_
       refine' WA.take 5 rfl qK qK qK rfl rfl qD (Yl.load1 tab_ok rfl rfl rfl (fun _ => rfl) ?r57 rfl ?h57) qS qR ?_
       case r57 => (first | (apply RS.rdD; assumption; ((try dsimp only) <;> omega)) | exact Rd.slD 0 rfl qX | exact Rd.slD 1 rfl qX | exact Rd.slD 2 rfl qX | exact Rd.slD 3 rfl qX | exact Rd.slD 4 rfl qX | exact Rd.slD 5 rfl qX | exact Rd.slD 6 rfl qX)
       case h57 => rfl
       refine tS 14 ?_
       refine WA.callAt 5 17 rfl qK en33 rfl rfl qD (CallOp.mkT rfl rfl rfl rfl) rfl (PickM_C (j := 0) w0 ([0, 0, 1, 3, 4, 8] : List Int) rfl qD qD ha rfl) ?_
       rintro _ _ _ _ - ⟨rfl, rfl, rfl, rfl⟩
       refine ⟨RLe.refl _, qS, ?_⟩
       refine tA 18 ?_
       refine tP 19 ?_
       first | refine WA.effN 20 rfl qK rfl rfl (Ef.store 0 tab_ok rfl rfl rfl rfl rfl rfl rfl rfl ?_) | refine WA.effN 20 rfl qK rfl rfl (Ef.store 1 tab_ok rfl rfl rfl rfl rfl rfl rfl rfl ?_) | refine WA.effN 20 rfl qK rfl rfl (Ef.store 2 tab_ok rfl rfl rfl rfl rfl rfl rfl rfl ?_) | refine WA.effN 20 rfl qK rfl rfl (Ef.store 3 tab_ok rfl rfl rfl rfl rfl rfl rfl rfl ?_) | refine WA.effN 20 rfl qK rfl rfl (Ef.store 4 tab_ok rfl rfl rfl rfl rfl rfl rfl rfl ?_) | refine WA.effN 20 rfl qK rfl rfl (Ef.store 5 tab_ok rfl rfl rfl rfl rfl rfl rfl rfl ?_) | refine WA.effN 20 rfl qK rfl rfl (Ef.store 6 tab_ok rfl rfl rfl rfl rfl rfl rfl rfl ?_)
       refine ⟨qR, qS, ?_⟩
       refine WA.done qK ?_
       refine WE.cut (nth (fvals (upV xs (c + 3) v0) n) ((n : Int) - 1).toNat - nth (fvals (upV xs (c + 3) v0) n) ((n : Int) - (P : Int)).toNat + nth ([0, 0, 1, 3, 4, 8] : List Int) (mod (nth xs (c + 3 + n)) ((6 : Nat) : Int)).toNat) ⟨by omega, by omega, by omega⟩ ⟨rfl, rfl, rfl, rfl⟩ (RLe.refl _) qS
      ·
       refine WS.callAt 5 rfl en33 rfl rfl qD (CallOp.mkT rfl rfl rfl rfl) rfl (PickM_C (j := 0) w0 ([0, 0, 1, 3, 4, 8] : List Int) rfl qD qD ha rfl) ?_
       rintro _ _ _ _ - ⟨rfl, rfl, rfl, rfl⟩
       refine ⟨qR, qS, ?_⟩
       refine' WA.yl 1 rfl qK rfl rfl qD (Yl.load1 tab_ok rfl rfl rfl (fun _ => rfl) ?r58 rfl ?h58) qS qR ?_
       case r58 => apply Rd.add; (first | exact Rd.blk 0 rfl | exact Rd.blk 1 rfl | exact Rd.blk 2 rfl | exact Rd.blk 3 rfl | exact Rd.blk 4 rfl | exact Rd.blk 5 rfl | exact Rd.blk 6 rfl)
       case h58 => rfl
       refine WA.take 4 rfl qK qK qK rfl rfl qD (Yl.index tab_ok rfl rfl rfl rfl rfl rfl (fun _ => rfl) qA qH) qS qR ?_
       refine' WA.take 5 rfl qK qK qK rfl rfl qD (Yl.load1 tab_ok rfl rfl rfl (fun _ => rfl) ?r59 rfl ?h59) qS qR ?_
       case r59 => (first | (apply RS.rdD; assumption; ((try dsimp only) <;> omega)) | exact Rd.slD 0 rfl qX | exact Rd.slD 1 rfl qX | exact Rd.slD 2 rfl qX | exact Rd.slD 3 rfl qX | exact Rd.slD 4 rfl qX | exact Rd.slD 5 rfl qX | exact Rd.slD 6 rfl qX)
       case h59 => rfl
       refine tS 14 ?_
       refine tA 18 ?_
       refine tP 19 ?_
       first | refine WA.effN 20 rfl qK rfl rfl (Ef.store 0 tab_ok rfl rfl rfl rfl rfl rfl rfl rfl ?_) | refine WA.effN 20 rfl qK rfl rfl (Ef.store 1 tab_ok rfl rfl rfl rfl rfl rfl rfl rfl ?_) | refine WA.effN 20 rfl qK rfl rfl (Ef.store 2 tab_ok rfl rfl rfl rfl rfl rfl rfl rfl ?_) | refine WA.effN 20 rfl qK rfl rfl (Ef.store 3 tab_ok rfl rfl rfl rfl rfl rfl rfl rfl ?_) | refine WA.effN 20 rfl qK rfl rfl (Ef.store 4 tab_ok rfl rfl rfl rfl rfl rfl rfl rfl ?_) | refine WA.effN 20 rfl qK rfl rfl (Ef.store 5 tab_ok rfl rfl rfl rfl rfl rfl rfl rfl ?_) | refine WA.effN 20 rfl qK rfl rfl (Ef.store 6 tab_ok rfl rfl rfl rfl rfl rfl rfl rfl ?_)
       refine ⟨qR, qS, ?_⟩
       refine WA.done qK ?_
       refine WE.cut (nth (fvals (upV xs (c + 3) v0) n) ((n : Int) - 1).toNat - nth (fvals (upV xs (c + 3) v0) n) ((n : Int) - (P : Int)).toNat + nth ([0, 0, 1, 3, 4, 8] : List Int) (mod (nth xs (c + 3 + n)) ((6 : Nat) : Int)).toNat) ⟨by omega, by omega, by omega⟩ ⟨rfl, rfl, rfl, rfl⟩ (RLe.refl _) qS
    ·
     refine WS.eff rfl rfl rfl qD (Ef.buildSliceD (enc := encI) (parts := [.const (.int .i64 0), .const (.int .i64 0), .const (.int .i64 1), .const (.int .i64 3), .const (.int .i64 4), .const (.int .i64 8)]) [_, _, _, _, _, _] tab_ok rfl rfl rfl rfl rfl rfl rfl rfl qD qD (fun a54 => ?_))
     refine ⟨qR, qS, ?_⟩
     refine WA.br3 (i := 1) (j := 10) (k := 17) qK ?_ ?_ ?_
     ·
      refine' WS.yl rfl rfl rfl qD (Yl.load1 tab_ok rfl rfl rfl (fun _ => rfl) ?r60 rfl ?h60) qS qR ?_
      case r60 => apply Rd.add; (first | exact Rd.blk 0 rfl | exact Rd.blk 1 rfl | exact Rd.blk 2 rfl | exact Rd.blk 3 rfl | exact Rd.blk 4 rfl | exact Rd.blk 5 rfl | exact Rd.blk 6 rfl)
      case h60 => rfl
      refine WA.take 4 rfl qK qK qK rfl rfl qD (Yl.index tab_ok rfl rfl rfl rfl rfl rfl (fun _ => rfl) qA qH) qS qR ?_
      refine' WA.take 5 rfl qK qK qK rfl rfl qD (Yl.load1 tab_ok rfl rfl rfl (fun _ => rfl) ?r61 rfl ?h61) qS qR ?_
      case r61 => (first | (apply RS.rdD; assumption; ((try dsimp only) <;> omega)) | exact Rd.slD 0 rfl qX | exact Rd.slD 1 rfl qX | exact Rd.slD 2 rfl qX | exact Rd.slD 3 rfl qX | exact Rd.slD 4 rfl qX | exact Rd.slD 5 rfl qX | exact Rd.slD 6 rfl qX)
      case h61 => rfl
      refine WA.br2 (i := 10) (j := 17) qK ?_ ?_
      ·
       refine' WS.yl rfl rfl rfl qD (Yl.load1 tab_ok rfl rfl rfl (fun _ => rfl) ?r62 rfl ?h62) qS qR ?_
       case r62 => apply Rd.add; (first | exact Rd.blk 0 rfl | exact Rd.blk 1 rfl | exact Rd.blk 2 rfl | exact Rd.blk 3 rfl | exact Rd.blk 4 rfl | exact Rd.blk 5 rfl | exact Rd.blk 6 rfl)
       case h62 => rfl
       refine tS 11 ?_
       refine WA.take 12 rfl qK qK qK rfl rfl qD (Yl.index tab_ok rfl rfl rfl rfl rfl rfl (fun _ => rfl) qA qH) qS qR ?_
       refine' WA.take 13 rfl qK qK qK rfl rfl qD (Yl.load1 tab_ok rfl rfl rfl (fun _ => rfl) ?r63 rfl ?h63) qS qR ?_
       case r63 => (first | (apply RS.rdD; assumption; ((try dsimp only) <;> omega)) | exact Rd.slD 0 rfl qX | exact Rd.slD 1 rfl qX | exact Rd.slD 2 rfl qX | exact Rd.slD 3 rfl qX | exact Rd.slD 4 rfl qX | exact Rd.slD 5 rfl qX | exact Rd.slD 6 rfl qX)
       case h63 => rfl
       refine tS 14 ?_
       refine WA.callAt 5 17 rfl qK en33 rfl rfl qD (CallOp.mkT rfl rfl rfl rfl) rfl (PickM_C (j := 0) w0 ([0, 0, 1, 3, 4, 8] : List Int) rfl qD qD ha rfl) ?_
       rintro _ _ _ _ - ⟨rfl, rfl, rfl, rfl⟩
       refine ⟨RLe.refl _, qS, ?_⟩
       refine tA 18 ?_
       refine tP 19 ?_
       first | refine WA.effN 20 rfl qK rfl rfl (Ef.store 0 tab_ok rfl rfl rfl rfl rfl rfl rfl rfl ?_) | refine WA.effN 20 rfl qK rfl rfl (Ef.store 1 tab_ok rfl rfl rfl rfl rfl rfl rfl rfl ?_) | refine WA.effN 20 rfl qK rfl rfl (Ef.store 2 tab_ok rfl rfl rfl rfl rfl rfl rfl rfl ?_) | refine WA.effN 20 rfl qK rfl rfl (Ef.store 3 tab_ok rfl rfl rfl rfl rfl rfl rfl rfl ?_) | refine WA.effN 20 rfl qK rfl rfl (Ef.store 4 tab_ok rfl rfl rfl rfl rfl rfl rfl rfl ?_) | refine WA.effN 20 rfl qK rfl rfl (Ef.store 5 tab_ok rfl rfl rfl rfl rfl rfl rfl rfl ?_) | refine WA.effN 20 rfl qK rfl rfl (Ef.store 6 tab_ok rfl rfl rfl rfl rfl rfl rfl rfl ?_)
       refine ⟨qR, qS, ?_⟩
       refine WA.done qK ?_
       refine WE.cut (nth (fvals (upV xs (c + 3) v0) n) ((n : Int) - 1).toNat - nth (fvals (upV xs (c + 3) v0) n) ((n : Int) - (P : Int)).toNat + nth ([0, 0, 1, 3, 4, 8] : List Int) (mod (nth xs (c + 3 + n)) ((6 : Nat) : Int)).toNat) ⟨by omega, by omega, by omega⟩ ⟨rfl, rfl, rfl, rfl⟩ (RLe.refl _) qS
      ·
       refine WS.callAt 5 rfl en33 rfl rfl qD (CallOp.mkT rfl rfl rfl rfl) rfl (PickM_C (j := 0) w0 ([0, 0, 1, 3, 4, 8] : List Int) rfl qD qD ha rfl) ?_
       rintro _ _ _ _ - ⟨rfl, rfl, rfl, rfl⟩
       refine ⟨qR, qS, ?_⟩
       refine' WA.yl 10 rfl qK rfl rfl qD (Yl.load1 tab_ok rfl rfl rfl (fun _ => rfl) ?r64 rfl ?h64) qS qR ?_
       case r64 => apply Rd.add; (first | exact Rd.blk 0 rfl | exact Rd.blk 1 rfl | exact Rd.blk 2 rfl | exact Rd.blk 3 rfl | exact Rd.blk 4 rfl | exact Rd.blk 5 rfl | exact Rd.blk 6 rfl)
       case h64 => rfl
       refine tS 11 ?_
       refine WA.take 12 rfl qK qK qK rfl rfl qD (Yl.index tab_ok rfl rfl rfl rfl rfl rfl (fun _ => rfl) qA qH) qS qR ?_
       refine' WA.take 13 rfl qK qK qK rfl rfl qD (Yl.load1 tab_ok rfl rfl rfl (fun _ => rfl) ?r65 rfl ?h65) qS qR ?_
       case r65 => (first | (apply RS.rdD; assumption; ((try dsimp only) <;> omega)) | exact Rd.slD 0 rfl qX | exact Rd.slD 1 rfl qX | exact Rd.slD 2 rfl qX | exact Rd.slD 3 rfl qX | exact Rd.slD 4 rfl qX | exact Rd.slD 5 rfl qX | exact Rd.slD 6 rfl qX)
       case h65 => rfl
       refine tS 14 ?_
       refine tA 18 ?_
       refine tP 19 ?_
       first | refine WA.effN 20 rfl qK rfl rfl (Ef.store 0 tab_ok rfl rfl rfl rfl rfl rfl rfl rfl ?_) | refine WA.effN 20 rfl qK rfl rfl (Ef.store 1 tab_ok rfl rfl rfl rfl rfl rfl rfl rfl ?_) | refine WA.effN 20 rfl qK rfl rfl (Ef.store 2 tab_ok rfl rfl rfl rfl rfl rfl rfl rfl ?_) | refine WA.effN 20 rfl qK rfl rfl (Ef.store 3 tab_ok rfl rfl rfl rfl rfl rfl rfl rfl ?_) | refine WA.effN 20 rfl qK rfl rfl (Ef.store 4 tab_ok rfl rfl rfl rfl rfl rfl rfl rfl ?_) | refine WA.effN 20 rfl qK rfl rfl (Ef.store 5 tab_ok rfl rfl rfl rfl rfl rfl rfl rfl ?_) | refine WA.effN 20 rfl qK rfl rfl (Ef.store 6 tab_ok rfl rfl rfl rfl rfl rfl rfl rfl ?_)
       refine ⟨qR, qS, ?_⟩
       refine WA.done qK ?_
       refine WE.cut (nth (fvals (upV xs (c + 3) v0) n) ((n : Int) - 1).toNat - nth (fvals (upV xs (c + 3) v0) n) ((n : Int) - (P : Int)).toNat + nth ([0, 0, 1, 3, 4, 8] : List Int) (mod (nth xs (c + 3 + n)) ((6 : Nat) : Int)).toNat) ⟨by omega, by omega, by omega⟩ ⟨rfl, rfl, rfl, rfl⟩ (RLe.refl _) qS
     ·
      refine' WS.yl rfl rfl rfl qD (Yl.load1 tab_ok rfl rfl rfl (fun _ => rfl) ?r66 rfl ?h66) qS qR ?_
      case r66 => apply Rd.add; (first | exact Rd.blk 0 rfl | exact Rd.blk 1 rfl | exact Rd.blk 2 rfl | exact Rd.blk 3 rfl | exact Rd.blk 4 rfl | exact Rd.blk 5 rfl | exact Rd.blk 6 rfl)
      case h66 => rfl
      refine tS 11 ?_
      refine WA.take 12 rfl qK qK qK rfl rfl qD (Yl.index tab_ok rfl rfl rfl rfl rfl rfl (fun _ => rfl) qA qH) qS qR ?_
      refine' WA.take 13 rfl qK qK qK rfl rfl qD (Yl.load1 tab_ok rfl rfl rfl (fun _ => rfl) ?r67 rfl ?h67) qS qR ?_
      case r67 => (first | (apply RS.rdD; assumption; ((try dsimp only) <;> omega)) | exact Rd.slD 0 rfl qX | exact Rd.slD 1 rfl qX | exact Rd.slD 2 rfl qX | exact Rd.slD 3 rfl qX | exact Rd.slD 4 rfl qX | exact Rd.slD 5 rfl qX | exact Rd.slD 6 rfl qX)
      case h67 => rfl
      refine WA.br2 (i := 1) (j := 17) qK ?_ ?_
      ·
       refine' WS.yl rfl rfl rfl qD (Yl.load1 tab_ok rfl rfl rfl (fun _ => rfl) ?r68 rfl ?h68) qS qR ?_
       case r68 => apply Rd.add; (first | exact Rd.blk 0 rfl | exact Rd.blk 1 rfl | exact Rd.blk 2 rfl | exact Rd.blk 3 rfl | exact Rd.blk 4 rfl | exact Rd.blk 5 rfl | exact Rd.blk 6 rfl)
       case h68 => rfl
       refine WA.take 4 rfl qK qK qK rfl rfl qD (Yl.index tab_ok rfl rfl rfl rfl rfl rfl (fun _ => rfl) qA qH) qS qR ?_
       refine' WA.take 5 rfl qK qK qK rfl rfl qD (Yl.load1 tab_ok rfl rfl rfl (fun _ => rfl) ?r69 rfl ?h69) qS qR ?_
       case r69 => (first | (apply RS.rdD; assumption; ((try dsimp only) <;> omega)) | exact Rd.slD 0 rfl qX | exact Rd.slD 1 rfl qX | exact Rd.slD 2 rfl qX | exact Rd.slD 3 rfl qX | exact Rd.slD 4 rfl qX | exact Rd.slD 5 rfl qX | exact Rd.slD 6 rfl qX)
       case h69 => rfl
       refine tS 14 ?_
       refine WA.callAt 5 17 rfl qK en33 rfl rfl qD (CallOp.mkT rfl rfl rfl rfl) rfl (PickM_C (j := 0) w0 ([0, 0, 1, 3, 4, 8] : List Int) rfl qD qD ha rfl) ?_
       rintro _ _ _ _ - ⟨rfl, rfl, rfl, rfl⟩
       refine ⟨RLe.refl _, qS, ?_⟩
       refine tA 18 ?_
       refine tP 19 ?_
       first | refine WA.effN 20 rfl qK rfl rfl (Ef.store 0 tab_ok rfl rfl rfl rfl rfl rfl rfl rfl ?_) | refine WA.effN 20 rfl qK rfl rfl (Ef.store 1 tab_ok rfl rfl rfl rfl rfl rfl rfl rfl ?_) | refine WA.effN 20 rfl qK rfl rfl (Ef.store 2 tab_ok rfl rfl rfl rfl rfl rfl rfl rfl ?_) | refine WA.effN 20 rfl qK rfl rfl (Ef.store 3 tab_ok rfl rfl rfl rfl rfl rfl rfl rfl ?_) | refine WA.effN 20 rfl qK rfl rfl (Ef.store 4 tab_ok rfl rfl rfl rfl rfl rfl rfl rfl ?_) | refine WA.effN 20 rfl qK rfl rfl (Ef.store 5 tab_ok rfl rfl rfl rfl rfl rfl rfl rfl ?_) | refine WA.effN 20 rfl qK rfl rfl (Ef.store 6 tab_ok rfl rfl rfl rfl rfl rfl rfl rfl ?_)
       refine ⟨qR, qS, ?_⟩
       refine WA.done qK ?_
       refine WE.cut (nth (fvals (upV xs (c + 3) v0) n) ((n : Int) - 1).toNat - nth (fvals (upV xs (c + 3) v0) n) ((n : Int) - (P : Int)).toNat + nth ([0, 0, 1, 3, 4, 8] : List Int) (mod (nth xs (c + 3 + n)) ((6 : Nat) : Int)).toNat) ⟨by omega, by omega, by omega⟩ ⟨rfl, rfl, rfl, rfl⟩ (RLe.refl _) qS
      ·
       refine WS.callAt 5 rfl en33 rfl rfl qD (CallOp.mkT rfl rfl rfl rfl) rfl (PickM_C (j := 0) w0 ([0, 0, 1, 3, 4, 8] : List Int) rfl qD qD ha rfl) ?_
       rintro _ _ _ _ - ⟨rfl, rfl, rfl, rfl⟩
       refine ⟨qR, qS, ?_⟩
       refine' WA.yl 1 rfl qK rfl rfl qD (Yl.load1 tab_ok rfl rfl rfl (fun _ => rfl) ?r70 rfl ?h70) qS qR ?_
       case r70 => apply Rd.add; (first | exact Rd.blk 0 rfl | exact Rd.blk 1 rfl | exact Rd.blk 2 rfl | exact Rd.blk 3 rfl | exact Rd.blk 4 rfl | exact Rd.blk 5 rfl | exact Rd.blk 6 rfl)
       case h70 => rfl
       refine WA.take 4 rfl qK qK qK rfl rfl qD (Yl.index tab_ok rfl rfl rfl rfl rfl rfl (fun _ => rfl) qA qH) qS qR ?_
       refine' WA.take 5 rfl qK qK qK rfl rfl qD (Yl.load1 tab_ok rfl rfl rfl (fun _ => rfl) ?r71 rfl ?h71) qS qR ?_
       case r71 => (first | (apply RS.rdD; assumption; ((try dsimp only) <;> omega)) | exact Rd.slD 0 rfl qX | exact Rd.slD 1 rfl qX | exact Rd.slD 2 rfl qX | exact Rd.slD 3 rfl qX | exact Rd.slD 4 rfl qX | exact Rd.slD 5 rfl qX | exact Rd.slD 6 rfl qX)
       case h71 => rfl
       refine tS 14 ?_
       refine tA 18 ?_
       refine tP 19 ?_
       first | refine WA.effN 20 rfl qK rfl rfl (Ef.store 0 tab_ok rfl rfl rfl rfl rfl rfl rfl rfl ?_) | refine WA.effN 20 rfl qK rfl rfl (Ef.store 1 tab_ok rfl rfl rfl rfl rfl rfl rfl rfl ?_) | refine WA.effN 20 rfl qK rfl rfl (Ef.store 2 tab_ok rfl rfl rfl rfl rfl rfl rfl rfl ?_) | refine WA.effN 20 rfl qK rfl rfl (Ef.store 3 tab_ok rfl rfl rfl rfl rfl rfl rfl rfl ?_) | refine WA.effN 20 rfl qK rfl rfl (Ef.store 4 tab_ok rfl rfl rfl rfl rfl rfl rfl rfl ?_) | refine WA.effN 20 rfl qK rfl rfl (Ef.store 5 tab_ok rfl rfl rfl rfl rfl rfl rfl rfl ?_) | refine WA.effN 20 rfl qK rfl rfl (Ef.store 6 tab_ok rfl rfl rfl rfl rfl rfl rfl rfl ?_)
       refine ⟨qR, qS, ?_⟩
       refine WA.done qK ?_
       refine WE.cut (nth (fvals (upV xs (c + 3) v0) n) ((n : Int) - 1).toNat - nth (fvals (upV xs (c + 3) v0) n) ((n : Int) - (P : Int)).toNat + nth ([0, 0, 1, 3, 4, 8] : List Int) (mod (nth xs (c + 3 + n)) ((6 : Nat) : Int)).toNat) ⟨by omega, by omega, by omega⟩ ⟨rfl, rfl, rfl, rfl⟩ (RLe.refl _) qS
     ·
      refine WS.callAt 5 rfl en33 rfl rfl qD (CallOp.mkT rfl rfl rfl rfl) rfl (PickM_C (j := 0) w0 ([0, 0, 1, 3, 4, 8] : List Int) rfl qD qD ha rfl) ?_
      rintro _ _ _ _ - ⟨rfl, rfl, rfl, rfl⟩
      refine ⟨qR, qS, ?_⟩
      refine WA.br2 (i := 1) (j := 10) qK ?_ ?_
      ·
       refine' WS.yl rfl rfl rfl qD (Yl.load1 tab_ok rfl rfl rfl (fun _ => rfl) ?r72 rfl ?h72) qS qR ?_
       case r72 => apply Rd.add; (first | exact Rd.blk 0 rfl | exact Rd.blk 1 rfl | exact Rd.blk 2 rfl | exact Rd.blk 3 rfl | exact Rd.blk 4 rfl | exact Rd.blk 5 rfl | exact Rd.blk 6 rfl)
       case h72 => rfl
       refine WA.take 4 rfl qK qK qK rfl rfl qD (Yl.index tab_ok rfl rfl rfl rfl rfl rfl (fun _ => rfl) qA qH) qS qR ?_
       refine' WA.take 5 rfl qK qK qK rfl rfl qD (Yl.load1 tab_ok rfl rfl rfl (fun _ => rfl) ?r73 rfl ?h73) qS qR ?_
       case r73 => (first | (apply RS.rdD; assumption; ((try dsimp only) <;> omega)) | exact Rd.slD 0 rfl qX | exact Rd.slD 1 rfl qX | exact Rd.slD 2 rfl qX | exact Rd.slD 3 rfl qX | exact Rd.slD 4 rfl qX | exact Rd.slD 5 rfl qX | exact Rd.slD 6 rfl qX)
       case h73 => rfl
       refine' WA.yl 10 rfl qK rfl rfl qD (Yl.load1 tab_ok rfl rfl rfl (fun _ => rfl) ?r74 rfl ?h74) qS qR ?_
       case r74 => apply Rd.add; (first | exact Rd.blk 0 rfl | exact Rd.blk 1 rfl | exact Rd.blk 2 rfl | exact Rd.blk 3 rfl | exact Rd.blk 4 rfl | exact Rd.blk 5 rfl | exact Rd.blk 6 rfl)
       case h74 => rfl
       refine tS 11 ?_
       refine WA.take 12 rfl qK qK qK rfl rfl qD (Yl.index tab_ok rfl rfl rfl rfl rfl rfl (fun _ => rfl) qA qH) qS qR ?_
       refine' WA.take 13 rfl qK qK qK rfl rfl qD (Yl.load1 tab_ok rfl rfl rfl (fun _ => rfl) ?r75 rfl ?h75) qS qR ?_
       case r75 => (first | (apply RS.rdD; assumption; ((try dsimp only) <;> omega)) | exact Rd.slD 0 rfl qX | exact Rd.slD 1 rfl qX | exact Rd.slD 2 rfl qX | exact Rd.slD 3 rfl qX | exact Rd.slD 4 rfl qX | exact Rd.slD 5 rfl qX | exact Rd.slD 6 rfl qX)
       case h75 => rfl
       refine tS 14 ?_
       refine tA 18 ?_
       refine tP 19 ?_
       first | refine WA.effN 20 rfl qK rfl rfl (Ef.store 0 tab_ok rfl rfl rfl rfl rfl rfl rfl rfl ?_) | refine WA.effN 20 rfl qK rfl rfl (Ef.store 1 tab_ok rfl rfl rfl rfl rfl rfl rfl rfl ?_) | refine WA.effN 20 rfl qK rfl rfl (Ef.store 2 tab_ok rfl rfl rfl rfl rfl rfl rfl rfl ?_) | refine WA.effN 20 rfl qK rfl rfl (Ef.store 3 tab_ok rfl rfl rfl rfl rfl rfl rfl rfl ?_) | refine WA.effN 20 rfl qK rfl rfl (Ef.store 4 tab_ok rfl rfl rfl rfl rfl rfl rfl rfl ?_) | refine WA.effN 20 rfl qK rfl rfl (Ef.store 5 tab_ok rfl rfl rfl rfl rfl rfl rfl rfl ?_) | refine WA.effN 20 rfl qK rfl rfl (Ef.store 6 tab_ok rfl rfl rfl rfl rfl rfl rfl rfl ?_)
       refine ⟨qR, qS, ?_⟩
       refine WA.done qK ?_
       refine WE.cut (nth (fvals (upV xs (c + 3) v0) n) ((n : Int) - 1).toNat - nth (fvals (upV xs (c + 3) v0) n) ((n : Int) - (P : Int)).toNat + nth ([0, 0, 1, 3, 4, 8] : List Int) (mod (nth xs (c + 3 + n)) ((6 : Nat) : Int)).toNat) ⟨by omega, by omega, by omega⟩ ⟨rfl, rfl, rfl, rfl⟩ (RLe.refl _) qS
      ·
       refine' WS.yl rfl rfl rfl qD (Yl.load1 tab_ok rfl rfl rfl (fun _ => rfl) ?r76 rfl ?h76) qS qR ?_
       case r76 => apply Rd.add; (first | exact Rd.blk 0 rfl | exact Rd.blk 1 rfl | exact Rd.blk 2 rfl | exact Rd.blk 3 rfl | exact Rd.blk 4 rfl | exact Rd.blk 5 rfl | exact Rd.blk 6 rfl)
       case h76 => rfl
       refine tS 11 ?_
       refine WA.take 12 rfl qK qK qK rfl rfl qD (Yl.index tab_ok rfl rfl rfl rfl rfl rfl (fun _ => rfl) qA qH) qS qR ?_
       refine' WA.take 13 rfl qK qK qK rfl rfl qD (Yl.load1 tab_ok rfl rfl rfl (fun _ => rfl) ?r77 rfl ?h77) qS qR ?_
       case r77 => (first | (apply RS.rdD; assumption; ((try dsimp only) <;> omega)) | exact Rd.slD 0 rfl qX | exact Rd.slD 1 rfl qX | exact Rd.slD 2 rfl qX | exact Rd.slD 3 rfl qX | exact Rd.slD 4 rfl qX | exact Rd.slD 5 rfl qX | exact Rd.slD 6 rfl qX)
       case h77 => rfl
       refine' WA.yl 1 rfl qK rfl rfl qD (Yl.load1 tab_ok rfl rfl rfl (fun _ => rfl) ?r78 rfl ?h78) qS qR ?_
       case r78 => apply Rd.add; (first | exact Rd.blk 0 rfl | exact Rd.blk 1 rfl | exact Rd.blk 2 rfl | exact Rd.blk 3 rfl | exact Rd.blk 4 rfl | exact Rd.blk 5 rfl | exact Rd.blk 6 rfl)
       case h78 => rfl
       refine WA.take 4 rfl qK qK qK rfl rfl qD (Yl.index tab_ok rfl rfl rfl rfl rfl rfl (fun _ => rfl) qA qH) qS qR ?_
       refine' WA.take 5 rfl qK qK qK rfl rfl qD (Yl.load1 tab_ok rfl rfl rfl (fun _ => rfl) ?r79 rfl ?h79) qS qR ?_
       case r79 => (first | (apply RS.rdD; assumption; ((try dsimp only) <;> omega)) | exact Rd.slD 0 rfl qX | exact Rd.slD 1 rfl qX | exact Rd.slD 2 rfl qX | exact Rd.slD 3 rfl qX | exact Rd.slD 4 rfl qX | exact Rd.slD 5 rfl qX | exact Rd.slD 6 rfl qX)
       case h79 => rfl
       refine tS 14 ?_
       refine tA 18 ?_
       refine tP 19 ?_
       first | refine WA.effN 20 rfl qK rfl rfl (Ef.store 0 tab_ok rfl rfl rfl rfl rfl rfl rfl rfl ?_) | refine WA.effN 20 rfl qK rfl rfl (Ef.store 1 tab_ok rfl rfl rfl rfl rfl rfl rfl rfl ?_) | refine WA.effN 20 rfl qK rfl rfl (Ef.store 2 tab_ok rfl rfl rfl rfl rfl rfl rfl rfl ?_) | refine WA.effN 20 rfl qK rfl rfl (Ef.store 3 tab_ok rfl rfl rfl rfl rfl rfl rfl rfl ?_) | refine WA.effN 20 rfl qK rfl rfl (Ef.store 4 tab_ok rfl rfl rfl rfl rfl rfl rfl rfl ?_) | refine WA.effN 20 rfl qK rfl rfl (Ef.store 5 tab_ok rfl rfl rfl rfl rfl rfl rfl rfl ?_) | refine WA.effN 20 rfl qK rfl rfl (Ef.store 6 tab_ok rfl rfl rfl rfl rfl rfl rfl rfl ?_)
       refine ⟨qR, qS, ?_⟩
       refine WA.done qK ?_
       refine WE.cut (nth (fvals (upV xs (c + 3) v0) n) ((n : Int) - 1).toNat - nth (fvals (upV xs (c + 3) v0) n) ((n : Int) - (P : Int)).toNat + nth ([0, 0, 1, 3, 4, 8] : List Int) (mod (nth xs (c + 3 + n)) ((6 : Nat) : Int)).toNat) ⟨by omega, by omega, by omega⟩ ⟨rfl, rfl, rfl, rfl⟩ (RLe.refl _) qS
   ·
    refine' WS.yl rfl rfl rfl qD (Yl.load1 tab_ok rfl rfl rfl (fun _ => rfl) ?r80 rfl ?h80) qS qR ?_
    case r80 => apply Rd.add; (first | exact Rd.blk 0 rfl | exact Rd.blk 1 rfl | exact Rd.blk 2 rfl | exact Rd.blk 3 rfl | exact Rd.blk 4 rfl | exact Rd.blk 5 rfl | exact Rd.blk 6 rfl)
    case h80 => rfl
    refine tS 11 ?_
    refine WA.br3 (i := 1) (j := 7) (k := 16) qK ?_ ?_ ?_
    ·
     refine' WS.yl rfl rfl rfl qD (Yl.load1 tab_ok rfl rfl rfl (fun _ => rfl) ?r81 rfl ?h81) qS qR ?_
     case r81 => apply Rd.add; (first | exact Rd.blk 0 rfl | exact Rd.blk 1 rfl | exact Rd.blk 2 rfl | exact Rd.blk 3 rfl | exact Rd.blk 4 rfl | exact Rd.blk 5 rfl | exact Rd.blk 6 rfl)
     case h81 => rfl
     refine WA.take 4 rfl qK qK qK rfl rfl qD (Yl.index tab_ok rfl rfl rfl rfl rfl rfl (fun _ => rfl) qA qH) qS qR ?_
     refine' WA.take 5 rfl qK qK qK rfl rfl qD (Yl.load1 tab_ok rfl rfl rfl (fun _ => rfl) ?r82 rfl ?h82) qS qR ?_
     case r82 => (first | (apply RS.rdD; assumption; ((try dsimp only) <;> omega)) | exact Rd.slD 0 rfl qX | exact Rd.slD 1 rfl qX | exact Rd.slD 2 rfl qX | exact Rd.slD 3 rfl qX | exact Rd.slD 4 rfl qX | exact Rd.slD 5 rfl qX | exact Rd.slD 6 rfl qX)
     case h82 => rfl
     refine WA.br2 (i := 7) (j := 16) qK ?_ ?_
     ·
      refine' WS.yl rfl rfl rfl qD (Yl.load1 tab_ok rfl rfl rfl (fun _ => rfl) ?r83 rfl ?h83) qS qR ?_
      case r83 => apply Rd.add; (first | exact Rd.blk 0 rfl | exact Rd.blk 1 rfl | exact Rd.blk 2 rfl | exact Rd.blk 3 rfl | exact Rd.blk 4 rfl | exact Rd.blk 5 rfl | exact Rd.blk 6 rfl)
      case h83 => rfl
      refine WA.take 12 rfl qK qK qK rfl rfl qD (Yl.index tab_ok rfl rfl rfl rfl rfl rfl (fun _ => rfl) qA qH) qS qR ?_
      refine' WA.take 13 rfl qK qK qK rfl rfl qD (Yl.load1 tab_ok rfl rfl rfl (fun _ => rfl) ?r84 rfl ?h84) qS qR ?_
      case r84 => (first | (apply RS.rdD; assumption; ((try dsimp only) <;> omega)) | exact Rd.slD 0 rfl qX | exact Rd.slD 1 rfl qX | exact Rd.slD 2 rfl qX | exact Rd.slD 3 rfl qX | exact Rd.slD 4 rfl qX | exact Rd.slD 5 rfl qX | exact Rd.slD 6 rfl qX)
      case h84 => rfl
      refine tS 14 ?_
      refine WA.eff 16 rfl qK rfl rfl qD (Ef.buildSliceD (enc := encI) (parts := [.const (.int .i64 0), .const (.int .i64 0), .const (.int .i64 1), .const (.int .i64 3), .const (.int .i64 4), .const (.int .i64 8)]) [_, _, _, _, _, _] tab_ok rfl rfl rfl rfl rfl rfl rfl rfl qD qD (fun a54 => ?_))
      refine ⟨qR, qS, ?_⟩
      refine WA.callAt 5 17 rfl qK en33 rfl rfl qD (CallOp.mkT rfl rfl rfl rfl) rfl (PickM_C (j := 0) w0 ([0, 0, 1, 3, 4, 8] : List Int) rfl qD qD ha rfl) ?_
      rintro _ _ _ _ - ⟨rfl, rfl, rfl, rfl⟩
      refine ⟨RLe.refl _, qS, ?_⟩
      refine tA 18 ?_
      refine tP 19 ?_
      first | refine WA.effN 20 rfl qK rfl rfl (Ef.store 0 tab_ok rfl rfl rfl rfl rfl rfl rfl rfl ?_) | refine WA.effN 20 rfl qK rfl rfl (Ef.store 1 tab_ok rfl rfl rfl rfl rfl rfl rfl rfl ?_) | refine WA.effN 20 rfl qK rfl rfl (Ef.store 2 tab_ok rfl rfl rfl rfl rfl rfl rfl rfl ?_) | refine WA.effN 20 rfl qK rfl rfl (Ef.store 3 tab_ok rfl rfl rfl rfl rfl rfl rfl rfl ?_) | refine WA.effN 20 rfl qK rfl rfl (Ef.store 4 tab_ok rfl rfl rfl rfl rfl rfl rfl rfl ?_) | refine WA.effN 20 rfl qK rfl rfl (Ef.store 5 tab_ok rfl rfl rfl rfl rfl rfl rfl rfl ?_) | refine WA.effN 20 rfl qK rfl rfl (Ef.store 6 tab_ok rfl rfl rfl rfl rfl rfl rfl rfl ?_)
      refine ⟨qR, qS, ?_⟩
      refine WA.done qK ?_
      refine WE.cut (nth (fvals (upV xs (c + 3) v0) n) ((n : Int) - 1).toNat - nth (fvals (upV xs (c + 3) v0) n) ((n : Int) - (P : Int)).toNat + nth ([0, 0, 1, 3, 4, 8] : List Int) (mod (nth xs (c + 3 + n)) ((6 : Nat) : Int)).toNat) ⟨by omega, by omega, by omega⟩ ⟨rfl, rfl, rfl, rfl⟩ (RLe.refl _) qS
     ·
      refine WS.eff rfl rfl rfl qD (Ef.buildSliceD (enc := encI) (parts := [.const (.int .i64 0), .const (.int .i64 0), .const (.int .i64 1), .const (.int .i64 3), .const (.int .i64 4), .const (.int .i64 8)]) [_, _, _, _, _, _] tab_ok rfl rfl rfl rfl rfl rfl rfl rfl qD qD (fun a54 => ?_))
      refine ⟨qR, qS, ?_⟩
      refine WA.br2 (i := 7) (j := 17) qK ?_ ?_
      ·
       refine' WS.yl rfl rfl rfl qD (Yl.load1 tab_ok rfl rfl rfl (fun _ => rfl) ?r85 rfl ?h85) qS qR ?_
       case r85 => apply Rd.add; (first | exact Rd.blk 0 rfl | exact Rd.blk 1 rfl | exact Rd.blk 2 rfl | exact Rd.blk 3 rfl | exact Rd.blk 4 rfl | exact Rd.blk 5 rfl | exact Rd.blk 6 rfl)
       case h85 => rfl
       refine WA.take 12 rfl qK qK qK rfl rfl qD (Yl.index tab_ok rfl rfl rfl rfl rfl rfl (fun _ => rfl) qA qH) qS qR ?_
       refine' WA.take 13 rfl qK qK qK rfl rfl qD (Yl.load1 tab_ok rfl rfl rfl (fun _ => rfl) ?r86 rfl ?h86) qS qR ?_
       case r86 => (first | (apply RS.rdD; assumption; ((try dsimp only) <;> omega)) | exact Rd.slD 0 rfl qX | exact Rd.slD 1 rfl qX | exact Rd.slD 2 rfl qX | exact Rd.slD 3 rfl qX | exact Rd.slD 4 rfl qX | exact Rd.slD 5 rfl qX | exact Rd.slD 6 rfl qX)
       case h86 => rfl
       refine tS 14 ?_
       refine WA.callAt 5 17 rfl qK en33 rfl rfl qD (CallOp.mkT rfl rfl rfl rfl) rfl (PickM_C (j := 0) w0 ([0, 0, 1, 3, 4, 8] : List Int) rfl qD qD ha rfl) ?_
       rintro _ _ _ _ - ⟨rfl, rfl, rfl, rfl⟩
       refine ⟨RLe.refl _, qS, ?_⟩
       refine tA 18 ?_
       refine tP 19 ?_
       first | refine WA.effN 20 rfl qK rfl rfl (Ef.store 0 tab_ok rfl rfl rfl rfl rfl rfl rfl rfl ?_) | refine WA.effN 20 rfl qK rfl rfl (Ef.store 1 tab_ok rfl rfl rfl rfl rfl rfl rfl rfl ?_) | refine WA.effN 20 rfl qK rfl rfl (Ef.store 2 tab_ok rfl rfl rfl rfl rfl rfl rfl rfl ?_) | refine WA.effN 20 rfl qK rfl rfl (Ef.store 3 tab_ok rfl rfl rfl rfl rfl rfl rfl rfl ?_) | refine WA.effN 20 rfl qK rfl rfl (Ef.store 4 tab_ok rfl rfl rfl rfl rfl rfl rfl rfl ?_) | refine WA.effN 20 rfl qK rfl rfl (Ef.store 5 tab_ok rfl rfl rfl rfl rfl rfl rfl rfl ?_) | refine WA.effN 20 rfl qK rfl rfl (Ef.store 6 tab_ok rfl rfl rfl rfl rfl rfl rfl rfl ?_)
       refine ⟨qR, qS, ?_⟩
       refine WA.done qK ?_
       refine WE.cut (nth (fvals (upV xs (c + 3) v0) n) ((n : Int) - 1).toNat - nth (fvals (upV xs (c + 3) v0) n) ((n : Int) - (P : Int)).toNat + nth ([0, 0, 1, 3, 4, 8] : List Int) (mod (nth xs (c + 3 + n)) ((6 : Nat) : Int)).toNat) ⟨by omega, by omega, by omega⟩ ⟨rfl, rfl, rfl, rfl⟩ (RLe.refl _) qS
      ·
       refine WS.callAt 5 rfl en33 rfl rfl qD (CallOp.mkT rfl rfl rfl rfl) rfl (PickM_C (j := 0) w0 ([0, 0, 1, 3, 4, 8] : List Int) rfl qD qD ha rfl) ?_
       rintro _ _ _ _ - ⟨rfl, rfl, rfl, rfl⟩
       refine ⟨qR, qS, ?_⟩
       refine' WA.yl 7 rfl qK rfl rfl qD (Yl.load1 tab_ok rfl rfl rfl (fun _ => rfl) ?r87 rfl ?h87) qS qR ?_
       case r87 => apply Rd.add; (first | exact Rd.blk 0 rfl | exact Rd.blk 1 rfl | exact Rd.blk 2 rfl | exact Rd.blk 3 rfl | exact Rd.blk 4 rfl | exact Rd.blk 5 rfl | exact Rd.blk 6 rfl)
       case h87 => rfl
       refine WA.take 12 rfl qK qK qK rfl rfl qD (Yl.index tab_ok rfl rfl rfl rfl rfl rfl (fun _ => rfl) qA qH) qS qR ?_
       refine' WA.take 13 rfl qK qK qK rfl rfl qD (Yl.load1 tab_ok rfl rfl rfl (fun _ => rfl) ?r88 rfl ?h88) qS qR ?_
       case r88 => (first | (apply RS.rdD; assumption; ((try dsimp only) <;> omega)) | exact Rd.slD 0 rfl qX | exact Rd.slD 1 rfl qX | exact Rd.slD 2 rfl qX | exact Rd.slD 3 rfl qX | exact Rd.slD 4 rfl qX | exact Rd.slD 5 rfl qX | exact Rd.slD 6 rfl qX)
       case h88 => rfl
       refine tS 14 ?_
       refine tA 18 ?_
       refine tP 19 ?_
       first | refine WA.effN 20 rfl qK rfl rfl (Ef.store 0 tab_ok rfl rfl rfl rfl rfl rfl rfl rfl ?_) | refine WA.effN 20 rfl qK rfl rfl (Ef.store 1 tab_ok rfl rfl rfl rfl rfl rfl rfl rfl ?_) | refine WA.effN 20 rfl qK rfl rfl (Ef.store 2 tab_ok rfl rfl rfl rfl rfl rfl rfl rfl ?_) | refine WA.effN 20 rfl qK rfl rfl (Ef.store 3 tab_ok rfl rfl rfl rfl rfl rfl rfl rfl ?_) | refine WA.effN 20 rfl qK rfl rfl (Ef.store 4 tab_ok rfl rfl rfl rfl rfl rfl rfl rfl ?_) | refine WA.effN 20 rfl qK rfl rfl (Ef.store 5 tab_ok rfl rfl rfl rfl rfl rfl rfl rfl ?_) | refine WA.effN 20 rfl qK rfl rfl (Ef.store 6 tab_ok rfl rfl rfl rfl rfl rfl rfl rfl ?_)
       refine ⟨qR, qS, ?_⟩
       refine WA.done qK ?_
       refine WE.cut (nth (fvals (upV xs (c + 3) v0) n) ((n : Int) - 1).toNat - nth (fvals (upV xs (c + 3) v0) n) ((n : Int) - (P : Int)).toNat + nth ([0, 0, 1, 3, 4, 8] : List Int) (mod (nth xs (c + 3 + n)) ((6 : Nat) : Int)).toNat) ⟨by omega, by omega, by omega⟩ ⟨rfl, rfl, rfl, rfl⟩ (RLe.refl _) qS
    ·
     refine' WS.yl rfl rfl rfl qD (Yl.load1 tab_ok rfl rfl rfl (fun _ => rfl) ?r89 rfl ?h89) qS qR ?_
     case r89 => apply Rd.add; (first | exact Rd.blk 0 rfl | exact Rd.blk 1 rfl | exact Rd.blk 2 rfl | exact Rd.blk 3 rfl | exact Rd.blk 4 rfl | exact Rd.blk 5 rfl | exact Rd.blk 6 rfl)
     case h89 => rfl
     refine WA.take 12 rfl qK qK qK rfl rfl qD (Yl.index tab_ok rfl rfl rfl rfl rfl rfl (fun _ => rfl) qA qH) qS qR ?_
     refine' WA.take 13 rfl qK qK qK rfl rfl qD (Yl.load1 tab_ok rfl rfl rfl (fun _ => rfl) ?r90 rfl ?h90) qS qR ?_
     case r90 => (first | (apply RS.rdD; assumption; ((try dsimp only) <;> omega)) | exact Rd.slD 0 rfl qX | exact Rd.slD 1 rfl qX | exact Rd.slD 2 rfl qX | exact Rd.slD 3 rfl qX | exact Rd.slD 4 rfl qX | exact Rd.slD 5 rfl qX | exact Rd.slD 6 rfl qX)
     case h90 => rfl
     refine WA.br2 (i := 1) (j := 16) qK ?_ ?_
     ·
      refine' WS.yl rfl rfl rfl qD (Yl.load1 tab_ok rfl rfl rfl (fun _ => rfl) ?r91 rfl ?h91) qS qR ?_
      case r91 => apply Rd.add; (first | exact Rd.blk 0 rfl | exact Rd.blk 1 rfl | exact Rd.blk 2 rfl | exact Rd.blk 3 rfl | exact Rd.blk 4 rfl | exact Rd.blk 5 rfl | exact Rd.blk 6 rfl)
      case h91 => rfl
      refine WA.take 4 rfl qK qK qK rfl rfl qD (Yl.index tab_ok rfl rfl rfl rfl rfl rfl (fun _ => rfl) qA qH) qS qR ?_
      refine' WA.take 5 rfl qK qK qK rfl rfl qD (Yl.load1 tab_ok rfl rfl rfl (fun _ => rfl) ?r92 rfl ?h92) qS qR ?_
      case r92 => (first | (apply RS.rdD; assumption; ((try dsimp only) <;> omega)) | exact Rd.slD 0 rfl qX | exact Rd.slD 1 rfl qX | exact Rd.slD 2 rfl qX | exact Rd.slD 3 rfl qX | exact Rd.slD 4 rfl qX | exact Rd.slD 5 rfl qX | exact Rd.slD 6 rfl qX)
      case h92 => rfl
      refine tS 14 ?_
      refine WA.eff 16 rfl qK rfl rfl qD (Ef.buildSliceD (enc := encI) (parts := [.const (.int .i64 0), .const (.int .i64 0), .const (.int .i64 1), .const (.int .i64 3), .const (.int .i64 4), .const (.int .i64 8)]) [_, _, _, _, _, _] tab_ok rfl rfl rfl rfl rfl rfl rfl rfl qD qD (fun a54 => ?_))
      refine ⟨qR, qS, ?_⟩
      refine WA.callAt 5 17 rfl qK en33 rfl rfl qD (CallOp.mkT rfl rfl rfl rfl) rfl (PickM_C (j := 0) w0 ([0, 0, 1, 3, 4, 8] : List Int) rfl qD qD ha rfl) ?_
      rintro _ _ _ _ - ⟨rfl, rfl, rfl, rfl⟩
      refine ⟨RLe.refl _, qS, ?_⟩
      refine tA 18 ?_
      refine tP 19 ?_
      first | refine WA.effN 20 rfl qK rfl rfl (Ef.store 0 tab_ok rfl rfl rfl rfl rfl rfl rfl rfl ?_) | refine WA.effN 20 rfl qK rfl rfl (Ef.store 1 tab_ok rfl rfl rfl rfl rfl rfl rfl rfl ?_) | refine WA.effN 20 rfl qK rfl rfl (Ef.store 2 tab_ok rfl rfl rfl rfl rfl rfl rfl rfl ?_) | refine WA.effN 20 rfl qK rfl rfl (Ef.store 3 tab_ok rfl rfl rfl rfl rfl rfl rfl rfl ?_) | refine WA.effN 20 rfl qK rfl rfl (Ef.store 4 tab_ok rfl rfl rfl rfl rfl rfl rfl rfl ?_) | refine WA.effN 20 rfl qK rfl rfl (Ef.store 5 tab_ok rfl rfl rfl rfl rfl rfl rfl rfl ?_) | refine WA.effN 20 rfl qK rfl rfl (Ef.store 6 tab_ok rfl rfl rfl rfl rfl rfl rfl rfl ?_)
      refine ⟨qR, qS, ?_⟩
      refine WA.done qK ?_
      refine WE.cut (nth (fvals (upV xs (c + 3) v0) n) ((n : Int) - 1).toNat - nth (fvals (upV xs (c + 3) v0) n) ((n : Int) - (P : Int)).toNat + nth ([0, 0, 1, 3, 4, 8] : List Int) (mod (nth xs (c + 3 + n)) ((6 : Nat) : Int)).toNat) ⟨by omega, by omega, by omega⟩ ⟨rfl, rfl, rfl, rfl⟩ (RLe.refl _) qS
     ·
      refine WS.eff rfl rfl rfl qD (Ef.buildSliceD (enc := encI) (parts := [.const (.int .i64 0), .const (.int .i64 0), .const (.int .i64 1), .const (.int .i64 3), .const (.int .i64 4), .const (.int .i64 8)]) [_, _, _, _, _, _] tab_ok rfl rfl rfl rfl rfl rfl rfl rfl qD qD (fun a54 => ?_))
      refine ⟨qR, qS, ?_⟩
      refine WA.br2 (i := 1) (j := 17) qK ?_ ?_
      ·
       refine' WS.yl rfl rfl rfl qD (Yl.load1 tab_ok rfl rfl rfl (fun _ => rfl) ?r93 rfl ?h93) qS qR ?_
       case r93 => apply Rd.add; (first | exact Rd.blk 0 rfl | exact Rd.blk 1 rfl | exact Rd.blk 2 rfl | exact Rd.blk 3 rfl | exact Rd.blk 4 rfl | exact Rd.blk 5 rfl | exact Rd.blk 6 rfl)
       case h93 => rfl
       refine WA.take 4 rfl qK qK qK rfl rfl qD (Yl.index tab_ok rfl rfl rfl rfl rfl rfl (fun _ => rfl) qA qH) qS qR ?_
       refine' WA.take 5 rfl qK qK qK rfl rfl qD (Yl.load1 tab_ok rfl rfl rfl (fun _ => rfl) ?r94 rfl ?h94) qS qR ?_
       case r94 => (first | (apply RS.rdD; assumption; ((try dsimp only) <;> omega)) | exact Rd.slD 0 rfl qX | exact Rd.slD 1 rfl qX | exact Rd.slD 2 rfl qX | exact Rd.slD 3 rfl qX | exact Rd.slD 4 rfl qX | exact Rd.slD 5 rfl qX | exact Rd.slD 6 rfl qX)
       case h94 => rfl
       refine tS 14 ?_
       refine WA.callAt 5 17 rfl qK en33 rfl rfl qD (CallOp.mkT rfl rfl rfl rfl) rfl (PickM_C (j := 0) w0 ([0, 0, 1, 3, 4, 8] : List Int) rfl qD qD ha rfl) ?_
       rintro _ _ _ _ - ⟨rfl, rfl, rfl, rfl⟩
       refine ⟨RLe.refl _, qS, ?_⟩
       refine tA 18 ?_
       refine tP 19 ?_
       first | refine WA.effN 20 rfl qK rfl rfl (Ef.store 0 tab_ok rfl rfl rfl rfl rfl rfl rfl rfl ?_) | refine WA.effN 20 rfl qK rfl rfl (Ef.store 1 tab_ok rfl rfl rfl rfl rfl rfl rfl rfl ?_) | refine WA.effN 20 rfl qK rfl rfl (Ef.store 2 tab_ok rfl rfl rfl rfl rfl rfl rfl rfl ?_) | refine WA.effN 20 rfl qK rfl rfl (Ef.store 3 tab_ok rfl rfl rfl rfl rfl rfl rfl rfl ?_) | refine WA.effN 20 rfl qK rfl rfl (Ef.store 4 tab_ok rfl rfl rfl rfl rfl rfl rfl rfl ?_) | refine WA.effN 20 rfl qK rfl rfl (Ef.store 5 tab_ok rfl rfl rfl rfl rfl rfl rfl rfl ?_) | refine WA.effN 20 rfl qK rfl rfl (Ef.store 6 tab_ok rfl rfl rfl rfl rfl rfl rfl rfl ?_)
       refine ⟨qR, qS, ?_⟩
       refine WA.done qK ?_
       refine WE.cut (nth (fvals (upV xs (c + 3) v0) n) ((n : Int) - 1).toNat - nth (fvals (upV xs (c + 3) v0) n) ((n : Int) - (P : Int)).toNat + nth ([0, 0, 1, 3, 4, 8] : List Int) (mod (nth xs (c + 3 + n)) ((6 : Nat) : Int)).toNat) ⟨by omega, by omega, by omega⟩ ⟨rfl, rfl, rfl, rfl⟩ (RLe.refl _) qS
      ·
       refine WS.callAt 5 rfl en33 rfl rfl qD (CallOp.mkT rfl rfl rfl rfl) rfl (PickM_C (j := 0) w0 ([0, 0, 1, 3, 4, 8] : List Int) rfl qD qD ha rfl) ?_
       rintro _ _ _ _ - ⟨rfl, rfl, rfl, rfl⟩
       refine ⟨qR, qS, ?_⟩
       refine' WA.yl 1 rfl qK rfl rfl qD (Yl.load1 tab_ok rfl rfl rfl (fun _ => rfl) ?r95 rfl ?h95) qS qR ?_
       case r95 => apply Rd.add; (first | exact Rd.blk 0 rfl | exact Rd.blk 1 rfl | exact Rd.blk 2 rfl | exact Rd.blk 3 rfl | exact Rd.blk 4 rfl | exact Rd.blk 5 rfl | exact Rd.blk 6 rfl)
       case h95 => rfl
       refine WA.take 4 rfl qK qK qK rfl rfl qD (Yl.index tab_ok rfl rfl rfl rfl rfl rfl (fun _ => rfl) qA qH) qS qR ?_
       refine' WA.take 5 rfl qK qK qK rfl rfl qD (Yl.load1 tab_ok rfl rfl rfl (fun _ => rfl) ?r96 rfl ?h96) qS qR ?_
       case r96 => (first | (apply RS.rdD; assumption; ((try dsimp only) <;> omega)) | exact Rd.slD 0 rfl qX | exact Rd.slD 1 rfl qX | exact Rd.slD 2 rfl qX | exact Rd.slD 3 rfl qX | exact Rd.slD 4 rfl qX | exact Rd.slD 5 rfl qX | exact Rd.slD 6 rfl qX)
       case h96 => rfl
       refine tS 14 ?_
       refine tA 18 ?_
       refine tP 19 ?_
       first | refine WA.effN 20 rfl qK rfl rfl (Ef.store 0 tab_ok rfl rfl rfl rfl rfl rfl rfl rfl ?_) | refine WA.effN 20 rfl qK rfl rfl (Ef.store 1 tab_ok rfl rfl rfl rfl rfl rfl rfl rfl ?_) | refine WA.effN 20 rfl qK rfl rfl (Ef.store 2 tab_ok rfl rfl rfl rfl rfl rfl rfl rfl ?_) | refine WA.effN 20 rfl qK rfl rfl (Ef.store 3 tab_ok rfl rfl rfl rfl rfl rfl rfl rfl ?_) | refine WA.effN 20 rfl qK rfl rfl (Ef.store 4 tab_ok rfl rfl rfl rfl rfl rfl rfl rfl ?_) | refine WA.effN 20 rfl qK rfl rfl (Ef.store 5 tab_ok rfl rfl rfl rfl rfl rfl rfl rfl ?_) | refine WA.effN 20 rfl qK rfl rfl (Ef.store 6 tab_ok rfl rfl rfl rfl rfl rfl rfl rfl ?_)
       refine ⟨qR, qS, ?_⟩
       refine WA.done qK ?_
       refine WE.cut (nth (fvals (upV xs (c + 3) v0) n) ((n : Int) - 1).toNat - nth (fvals (upV xs (c + 3) v0) n) ((n : Int) - (P : Int)).toNat + nth ([0, 0, 1, 3, 4, 8] : List Int) (mod (nth xs (c + 3 + n)) ((6 : Nat) : Int)).toNat) ⟨by omega, by omega, by omega⟩ ⟨rfl, rfl, rfl, rfl⟩ (RLe.refl _) qS
    ·
     refine WS.eff rfl rfl rfl qD (Ef.buildSliceD (enc := encI) (parts := [.const (.int .i64 0), .const (.int .i64 0), .const (.int .i64 1), .const (.int .i64 3), .const (.int .i64 4), .const (.int .i64 8)]) [_, _, _, _, _, _] tab_ok rfl rfl rfl rfl rfl rfl rfl rfl qD qD (fun a54 => ?_))
     refine ⟨qR, qS, ?_⟩
     refine WA.br3 (i := 1) (j := 7) (k := 17) qK ?_ ?_ ?_
     ·
      refine' WS.yl rfl rfl rfl qD (Yl.load1 tab_ok rfl rfl rfl (fun _ => rfl) ?r97 rfl ?h97) qS qR ?_
      case r97 => apply Rd.add; (first | exact Rd.blk 0 rfl | exact Rd.blk 1 rfl | exact Rd.blk 2 rfl | exact Rd.blk 3 rfl | exact Rd.blk 4 rfl | exact Rd.blk 5 rfl | exact Rd.blk 6 rfl)
      case h97 => rfl
      refine WA.take 4 rfl qK qK qK rfl rfl qD (Yl.index tab_ok rfl rfl rfl rfl rfl rfl (fun _ => rfl) qA qH) qS qR ?_
      refine' WA.take 5 rfl qK qK qK rfl rfl qD (Yl.load1 tab_ok rfl rfl rfl (fun _ => rfl) ?r98 rfl ?h98) qS qR ?_
      case r98 => (first | (apply RS.rdD; assumption; ((try dsimp only) <;> omega)) | exact Rd.slD 0 rfl qX | exact Rd.slD 1 rfl qX | exact Rd.slD 2 rfl qX | exact Rd.slD 3 rfl qX | exact Rd.slD 4 rfl qX | exact Rd.slD 5 rfl qX | exact Rd.slD 6 rfl qX)
      case h98 => rfl
      refine WA.br2 (i := 7) (j := 17) qK ?_ ?_
      ·
       refine' WS.yl rfl rfl rfl qD (Yl.load1 tab_ok rfl rfl rfl (fun _ => rfl) ?r99 rfl ?h99) qS qR ?_
       case r99 => apply Rd.add; (first | exact Rd.blk 0 rfl | exact Rd.blk 1 rfl | exact Rd.blk 2 rfl | exact Rd.blk 3 rfl | exact Rd.blk 4 rfl | exact Rd.blk 5 rfl | exact Rd.blk 6 rfl)
       case h99 => rfl
       refine WA.take 12 rfl qK qK qK rfl rfl qD (Yl.index tab_ok rfl rfl rfl rfl rfl rfl (fun _ => rfl) qA qH) qS qR ?_
       refine' WA.take 13 rfl qK qK qK rfl rfl qD (Yl.load1 tab_ok rfl rfl rfl (fun _ => rfl) ?r100 rfl ?h100) qS qR ?_
       case r100 => (first | (apply RS.rdD; assumption; ((try dsimp only) <;> omega)) | exact Rd.slD 0 rfl qX | exact Rd.slD 1 rfl qX | exact Rd.slD 2 rfl qX | exact Rd.slD 3 rfl qX | exact Rd.slD 4 rfl qX | exact Rd.slD 5 rfl qX | exact Rd.slD 6 rfl qX)
       case h100 => rfl
       refine tS 14 ?_
       refine WA.callAt 5 17 rfl qK en33 rfl rfl qD (CallOp.mkT rfl rfl rfl rfl) rfl (PickM_C (j := 0) w0 ([0, 0, 1, 3, 4, 8] : List Int) rfl qD qD ha rfl) ?_
       rintro _ _ _ _ - ⟨rfl, rfl, rfl, rfl⟩
       refine ⟨RLe.refl _, qS, ?_⟩
       refine tA 18 ?_
       refine tP 19 ?_
       first | refine WA.effN 20 rfl qK rfl rfl (Ef.store 0 tab_ok rfl rfl rfl rfl rfl rfl rfl rfl ?_) | refine WA.effN 20 rfl qK rfl rfl (Ef.store 1 tab_ok rfl rfl rfl rfl rfl rfl rfl rfl ?_) | refine WA.effN 20 rfl qK rfl rfl (Ef.store 2 tab_ok rfl rfl rfl rfl rfl rfl rfl rfl ?_) | refine WA.effN 20 rfl qK rfl rfl (Ef.store 3 tab_ok rfl rfl rfl rfl rfl rfl rfl rfl ?_) | refine WA.effN 20 rfl qK rfl rfl (Ef.store 4 tab_ok rfl rfl rfl rfl rfl rfl rfl rfl ?_) | refine WA.effN 20 rfl qK rfl rfl (Ef.store 5 tab_ok rfl rfl rfl rfl rfl rfl rfl rfl ?_) | refine WA.effN 20 rfl qK rfl rfl (Ef.store 6 tab_ok rfl rfl rfl rfl rfl rfl rfl rfl ?_)
       refine ⟨qR, qS, ?_⟩
       refine WA.done qK ?_
       refine WE.cut (nth (fvals (upV xs (c + 3) v0) n) ((n : Int) - 1).toNat - nth (fvals (upV xs (c + 3) v0) n) ((n : Int) - (P : Int)).toNat + nth ([0, 0, 1, 3, 4, 8] : List Int) (mod (nth xs (c + 3 + n)) ((6 : Nat) : Int)).toNat) ⟨by omega, by omega, by omega⟩ ⟨rfl, rfl, rfl, rfl⟩ (RLe.refl _) qS
      ·
       refine WS.callAt 5 rfl en33 rfl rfl qD (CallOp.mkT rfl rfl rfl rfl) rfl (PickM_C (j := 0) w0 ([0, 0, 1, 3, 4, 8] : List Int) rfl qD qD ha rfl) ?_
       rintro _ _ _ _ - ⟨rfl, rfl, rfl, rfl⟩
       refine ⟨qR, qS, ?_⟩
       refine' WA.yl 7 rfl qK rfl rfl qD (Yl.load1 tab_ok rfl rfl rfl (fun _ => rfl) ?r101 rfl ?h101) qS qR ?_
       case r101 => apply Rd.add; (first | exact Rd.blk 0 rfl | exact Rd.blk 1 rfl | exact Rd.blk 2 rfl | exact Rd.blk 3 rfl | exact Rd.blk 4 rfl | exact Rd.blk 5 rfl | exact Rd.blk 6 rfl)
       case h101 => rfl
       refine WA.take 12 rfl qK qK qK rfl rfl qD (Yl.index tab_ok rfl rfl rfl rfl rfl rfl (fun _ => rfl) qA qH) qS qR ?_
       refine' WA.take 13 rfl qK qK qK rfl rfl qD (Yl.load1 tab_ok rfl rfl rfl (fun _ => rfl) ?r102 rfl ?h102) qS qR ?_
       case r102 => (first | (apply RS.rdD; assumption; ((try dsimp only) <;> omega)) | exact Rd.slD 0 rfl qX | exact Rd.slD 1 rfl qX | exact Rd.slD 2 rfl qX | exact Rd.slD 3 rfl qX | exact Rd.slD 4 rfl qX | exact Rd.slD 5 rfl qX | exact Rd.slD 6 rfl qX)
       case h102 => rfl
       refine tS 14 ?_
       refine tA 18 ?_
       refine tP 19 ?_
       first | refine WA.effN 20 rfl qK rfl rfl (Ef.store 0 tab_ok rfl rfl rfl rfl rfl rfl rfl rfl ?_) | refine WA.effN 20 rfl qK rfl rfl (Ef.store 1 tab_ok rfl rfl rfl rfl rfl rfl rfl rfl ?_) | refine WA.effN 20 rfl qK rfl rfl (Ef.store 2 tab_ok rfl rfl rfl rfl rfl rfl rfl rfl ?_) | refine WA.effN 20 rfl qK rfl rfl (Ef.store 3 tab_ok rfl rfl rfl rfl rfl rfl rfl rfl ?_) | refine WA.effN 20 rfl qK rfl rfl (Ef.store 4 tab_ok rfl rfl rfl rfl rfl rfl rfl rfl ?_) | refine WA.effN 20 rfl qK rfl rfl (Ef.store 5 tab_ok rfl rfl rfl rfl rfl rfl rfl rfl ?_) | refine WA.effN 20 rfl qK rfl rfl (Ef.store 6 tab_ok rfl rfl rfl rfl rfl rfl rfl rfl ?_)
       refine ⟨qR, qS, ?_⟩
       refine WA.done qK ?_
       refine WE.cut (nth (fvals (upV xs (c + 3) v0) n) ((n : Int) - 1).toNat - nth (fvals (upV xs (c + 3) v0) n) ((n : Int) - (P : Int)).toNat + nth ([0, 0, 1, 3, 4, 8] : List Int) (mod (nth xs (c + 3 + n)) ((6 : Nat) : Int)).toNat) ⟨by omega, by omega, by omega⟩ ⟨rfl, rfl, rfl, rfl⟩ (RLe.refl _) qS
     ·
      refine' WS.yl rfl rfl rfl qD (Yl.load1 tab_ok rfl rfl rfl (fun _ => rfl) ?r103 rfl ?h103) qS qR ?_
      case r103 => apply Rd.add; (first | exact Rd.blk 0 rfl | exact Rd.blk 1 rfl | exact Rd.blk 2 rfl | exact Rd.blk 3 rfl | exact Rd.blk 4 rfl | exact Rd.blk 5 rfl | exact Rd.blk 6 rfl)
      case h103 => rfl
      refine WA.take 12 rfl qK qK qK rfl rfl qD (Yl.index tab_ok rfl rfl rfl rfl rfl rfl (fun _ => rfl) qA qH) qS qR ?_
      refine' WA.take 13 rfl qK qK qK rfl rfl qD (Yl.load1 tab_ok rfl rfl rfl (fun _ => rfl) ?r104 rfl ?h104) qS qR ?_
      case r104 => (first | (apply RS.rdD; assumption; ((try dsimp only) <;> omega)) | exact Rd.slD 0 rfl qX | exact Rd.slD 1 rfl qX | exact Rd.slD 2 rfl qX | exact Rd.slD 3 rfl qX | exact Rd.slD 4 rfl qX | exact Rd.slD 5 rfl qX | exact Rd.slD 6 rfl qX)
      case h104 => rfl
      refine WA.br2 (i := 1) (j := 17) qK ?_ ?_
      ·
       refine' WS.yl rfl rfl rfl qD (Yl.load1 tab_ok rfl rfl rfl (fun _ => rfl) ?r105 rfl ?h105) qS qR ?_
       case r105 => apply Rd.add; (first | exact Rd.blk 0 rfl | exact Rd.blk 1 rfl | exact Rd.blk 2 rfl | exact Rd.blk 3 rfl | exact Rd.blk 4 rfl | exact Rd.blk 5 rfl | exact Rd.blk 6 rfl)
       case h105 => rfl
       refine WA.take 4 rfl qK qK qK rfl rfl qD (Yl.index tab_ok rfl rfl rfl rfl rfl rfl (fun _ => rfl) qA qH) qS qR ?_
       refine' WA.take 5 rfl qK qK qK rfl rfl qD (Yl.load1 tab_ok rfl rfl rfl (fun _ => rfl) ?r106 rfl ?h106) qS qR ?_
       case r106 => (first | (apply RS.rdD; assumption; ((try dsimp only) <;> omega)) | exact Rd.slD 0 rfl qX | exact Rd.slD 1 rfl qX | exact Rd.slD 2 rfl qX | exact Rd.slD 3 rfl qX | exact Rd.slD 4 rfl qX | exact Rd.slD 5 rfl qX | exact Rd.slD 6 rfl qX)
       case h106 => rfl
       refine tS 14 ?_
       refine WA.callAt 5 17 rfl qK en33 rfl rfl qD (CallOp.mkT rfl rfl rfl rfl) rfl (PickM_C (j := 0) w0 ([0, 0, 1, 3, 4, 8] : List Int) rfl qD qD ha rfl) ?_
       rintro _ _ _ _ - ⟨rfl, rfl, rfl, rfl⟩
       refine ⟨RLe.refl _, qS, ?_⟩
       refine tA 18 ?_
       refine tP 19 ?_
       first | refine WA.effN 20 rfl qK rfl rfl (Ef.store 0 tab_ok rfl rfl rfl rfl rfl rfl rfl rfl ?_) | refine WA.effN 20 rfl qK rfl rfl (Ef.store 1 tab_ok rfl rfl rfl rfl rfl rfl rfl rfl ?_) | refine WA.effN 20 rfl qK rfl rfl (Ef.store 2 tab_ok rfl rfl rfl rfl rfl rfl rfl rfl ?_) | refine WA.effN 20 rfl qK rfl rfl (Ef.store 3 tab_ok rfl rfl rfl rfl rfl rfl rfl rfl ?_) | refine WA.effN 20 rfl qK rfl rfl (Ef.store 4 tab_ok rfl rfl rfl rfl rfl rfl rfl rfl ?_) | refine WA.effN 20 rfl qK rfl rfl (Ef.store 5 tab_ok rfl rfl rfl rfl rfl rfl rfl rfl ?_) | refine WA.effN 20 rfl qK rfl rfl (Ef.store 6 tab_ok rfl rfl rfl rfl rfl rfl rfl rfl ?_)
       refine ⟨qR, qS, ?_⟩
       refine WA.done qK ?_
       refine WE.cut (nth (fvals (upV xs (c + 3) v0) n) ((n : Int) - 1).toNat - nth (fvals (upV xs (c + 3) v0) n) ((n : Int) - (P : Int)).toNat + nth ([0, 0, 1, 3, 4, 8] : List Int) (mod (nth xs (c + 3 + n)) ((6 : Nat) : Int)).toNat) ⟨by omega, by omega, by omega⟩ ⟨rfl, rfl, rfl, rfl⟩ (RLe.refl _) qS
      ·
       refine WS.callAt 5 rfl en33 rfl rfl qD (CallOp.mkT rfl rfl rfl rfl) rfl (PickM_C (j := 0) w0 ([0, 0, 1, 3, 4, 8] : List Int) rfl qD qD ha rfl) ?_
       rintro _ _ _ _ - ⟨rfl, rfl, rfl, rfl⟩
       refine ⟨qR, qS, ?_⟩
       refine' WA.yl 1 rfl qK rfl rfl qD (Yl.load1 tab_ok rfl rfl rfl (fun _ => rfl) ?r107 rfl ?h107) qS qR ?_
       case r107 => apply Rd.add; (first | exact Rd.blk 0 rfl | exact Rd.blk 1 rfl | exact Rd.blk 2 rfl | exact Rd.blk 3 rfl | exact Rd.blk 4 rfl | exact Rd.blk 5 rfl | exact Rd.blk 6 rfl)
       case h107 => rfl
       refine WA.take 4 rfl qK qK qK rfl rfl qD (Yl.index tab_ok rfl rfl rfl rfl rfl rfl (fun _ => rfl) qA qH) qS qR ?_
       refine' WA.take 5 rfl qK qK qK rfl rfl qD (Yl.load1 tab_ok rfl rfl rfl (fun _ => rfl) ?r108 rfl ?h108) qS qR ?_
       case r108 => (first | (apply RS.rdD; assumption; ((try dsimp only) <;> omega)) | exact Rd.slD 0 rfl qX | exact Rd.slD 1 rfl qX | exact Rd.slD 2 rfl qX | exact Rd.slD 3 rfl qX | exact Rd.slD 4 rfl qX | exact Rd.slD 5 rfl qX | exact Rd.slD 6 rfl qX)
       case h108 => rfl
       refine tS 14 ?_
       refine tA 18 ?_
       refine tP 19 ?_
       first | refine WA.effN 20 rfl qK rfl rfl (Ef.store 0 tab_ok rfl rfl rfl rfl rfl rfl rfl rfl ?_) | refine WA.effN 20 rfl qK rfl rfl (Ef.store 1 tab_ok rfl rfl rfl rfl rfl rfl rfl rfl ?_) | refine WA.effN 20 rfl qK rfl rfl (Ef.store 2 tab_ok rfl rfl rfl rfl rfl rfl rfl rfl ?_) | refine WA.effN 20 rfl qK rfl rfl (Ef.store 3 tab_ok rfl rfl rfl rfl rfl rfl rfl rfl ?_) | refine WA.effN 20 rfl qK rfl rfl (Ef.store 4 tab_ok rfl rfl rfl rfl rfl rfl rfl rfl ?_) | refine WA.effN 20 rfl qK rfl rfl (Ef.store 5 tab_ok rfl rfl rfl rfl rfl rfl rfl rfl ?_) | refine WA.effN 20 rfl qK rfl rfl (Ef.store 6 tab_ok rfl rfl rfl rfl rfl rfl rfl rfl ?_)
       refine ⟨qR, qS, ?_⟩
       refine WA.done qK ?_
       refine WE.cut (nth (fvals (upV xs (c + 3) v0) n) ((n : Int) - 1).toNat - nth (fvals (upV xs (c + 3) v0) n) ((n : Int) - (P : Int)).toNat + nth ([0, 0, 1, 3, 4, 8] : List Int) (mod (nth xs (c + 3 + n)) ((6 : Nat) : Int)).toNat) ⟨by omega, by omega, by omega⟩ ⟨rfl, rfl, rfl, rfl⟩ (RLe.refl _) qS
     ·
      refine WS.callAt 5 rfl en33 rfl rfl qD (CallOp.mkT rfl rfl rfl rfl) rfl (PickM_C (j := 0) w0 ([0, 0, 1, 3, 4, 8] : List Int) rfl qD qD ha rfl) ?_
      rintro _ _ _ _ - ⟨rfl, rfl, rfl, rfl⟩
      refine ⟨qR, qS, ?_⟩
      refine WA.br2 (i := 1) (j := 7) qK ?_ ?_
      ·
       refine' WS.yl rfl rfl rfl qD (Yl.load1 tab_ok rfl rfl rfl (fun _ => rfl) ?r109 rfl ?h109) qS qR ?_
       case r109 => apply Rd.add; (first | exact Rd.blk 0 rfl | exact Rd.blk 1 rfl | exact Rd.blk 2 rfl | exact Rd.blk 3 rfl | exact Rd.blk 4 rfl | exact Rd.blk 5 rfl | exact Rd.blk 6 rfl)
       case h109 => rfl
       refine WA.take 4 rfl qK qK qK rfl rfl qD (Yl.index tab_ok rfl rfl rfl rfl rfl rfl (fun _ => rfl) qA qH) qS qR ?_
       refine' WA.take 5 rfl qK qK qK rfl rfl qD (Yl.load1 tab_ok rfl rfl rfl (fun _ => rfl) ?r110 rfl ?h110) qS qR ?_
       case r110 => (first | (apply RS.rdD; assumption; ((try dsimp only) <;> omega)) | exact Rd.slD 0 rfl qX | exact Rd.slD 1 rfl qX | exact Rd.slD 2 rfl qX | exact Rd.slD 3 rfl qX | exact Rd.slD 4 rfl qX | exact Rd.slD 5 rfl qX | exact Rd.slD 6 rfl qX)
       case h110 => rfl
       refine' WA.yl 7 rfl qK rfl rfl qD (Yl.load1 tab_ok rfl rfl rfl (fun _ => rfl) ?r111 rfl ?h111) qS qR ?_
       case r111 => apply Rd.add; (first | exact Rd.blk 0 rfl | exact Rd.blk 1 rfl | exact Rd.blk 2 rfl | exact Rd.blk 3 rfl | exact Rd.blk 4 rfl | exact Rd.blk 5 rfl | exact Rd.blk 6 rfl)
       case h111 => rfl
       refine WA.take 12 rfl qK qK qK rfl rfl qD (Yl.index tab_ok rfl rfl rfl rfl rfl rfl (fun _ => rfl) qA qH) qS qR ?_
       refine' WA.take 13 rfl qK qK qK rfl rfl qD (Yl.load1 tab_ok rfl rfl rfl (fun _ => rfl) ?r112 rfl ?h112) qS qR ?_
       case r112 => (first | (apply RS.rdD; assumption; ((try dsimp only) <;> omega)) | exact Rd.slD 0 rfl qX | exact Rd.slD 1 rfl qX | exact Rd.slD 2 rfl qX | exact Rd.slD 3 rfl qX | exact Rd.slD 4 rfl qX | exact Rd.slD 5 rfl qX | exact Rd.slD 6 rfl qX)
       case h112 => rfl
       refine tS 14 ?_
       refine tA 18 ?_
       refine tP 19 ?_
       first | refine WA.effN 20 rfl qK rfl rfl (Ef.store 0 tab_ok rfl rfl rfl rfl rfl rfl rfl rfl ?_) | refine WA.effN 20 rfl qK rfl rfl (Ef.store 1 tab_ok rfl rfl rfl rfl rfl rfl rfl rfl ?_) | refine WA.effN 20 rfl qK rfl rfl (Ef.store 2 tab_ok rfl rfl rfl rfl rfl rfl rfl rfl ?_) | refine WA.effN 20 rfl qK rfl rfl (Ef.store 3 tab_ok rfl rfl rfl rfl rfl rfl rfl rfl ?_) | refine WA.effN 20 rfl qK rfl rfl (Ef.store 4 tab_ok rfl rfl rfl rfl rfl rfl rfl rfl ?_) | refine WA.effN 20 rfl qK rfl rfl (Ef.store 5 tab_ok rfl rfl rfl rfl rfl rfl rfl rfl ?_) | refine WA.effN 20 rfl qK rfl rfl (Ef.store 6 tab_ok rfl rfl rfl rfl rfl rfl rfl rfl ?_)
       refine ⟨qR, qS, ?_⟩
       refine WA.done qK ?_
       refine WE.cut (nth (fvals (upV xs (c + 3) v0) n) ((n : Int) - 1).toNat - nth (fvals (upV xs (c + 3) v0) n) ((n : Int) - (P : Int)).toNat + nth ([0, 0, 1, 3, 4, 8] : List Int) (mod (nth xs (c + 3 + n)) ((6 : Nat) : Int)).toNat) ⟨by omega, by omega, by omega⟩ ⟨rfl, rfl, rfl, rfl⟩ (RLe.refl _) qS
      ·
       refine' WS.yl rfl rfl rfl qD (Yl.load1 tab_ok rfl rfl rfl (fun _ => rfl) ?r113 rfl ?h113) qS qR ?_
       case r113 => apply Rd.add; (first | exact Rd.blk 0 rfl | exact Rd.blk 1 rfl | exact Rd.blk 2 rfl | exact Rd.blk 3 rfl | exact Rd.blk 4 rfl | exact Rd.blk 5 rfl | exact Rd.blk 6 rfl)
       case h113 => rfl
       refine WA.take 12 rfl qK qK qK rfl rfl qD (Yl.index tab_ok rfl rfl rfl rfl rfl rfl (fun _ => rfl) qA qH) qS qR ?_
       refine' WA.take 13 rfl qK qK qK rfl rfl qD (Yl.load1 tab_ok rfl rfl rfl (fun _ => rfl) ?r114 rfl ?h114) qS qR ?_
       case r114 => (first | (apply RS.rdD; assumption; ((try dsimp only) <;> omega)) | exact Rd.slD 0 rfl qX | exact Rd.slD 1 rfl qX | exact Rd.slD 2 rfl qX | exact Rd.slD 3 rfl qX | exact Rd.slD 4 rfl qX | exact Rd.slD 5 rfl qX | exact Rd.slD 6 rfl qX)
       case h114 => rfl
       refine' WA.yl 1 rfl qK rfl rfl qD (Yl.load1 tab_ok rfl rfl rfl (fun _ => rfl) ?r115 rfl ?h115) qS qR ?_
       case r115 => apply Rd.add; (first | exact Rd.blk 0 rfl | exact Rd.blk 1 rfl | exact Rd.blk 2 rfl | exact Rd.blk 3 rfl | exact Rd.blk 4 rfl | exact Rd.blk 5 rfl | exact Rd.blk 6 rfl)
       case h115 => rfl
       refine WA.take 4 rfl qK qK qK rfl rfl qD (Yl.index tab_ok rfl rfl rfl rfl rfl rfl (fun _ => rfl) qA qH) qS qR ?_
       refine' WA.take 5 rfl qK qK qK rfl rfl qD (Yl.load1 tab_ok rfl rfl rfl (fun _ => rfl) ?r116 rfl ?h116) qS qR ?_
       case r116 => (first | (apply RS.rdD; assumption; ((try dsimp only) <;> omega)) | exact Rd.slD 0 rfl qX | exact Rd.slD 1 rfl qX | exact Rd.slD 2 rfl qX | exact Rd.slD 3 rfl qX | exact Rd.slD 4 rfl qX | exact Rd.slD 5 rfl qX | exact Rd.slD 6 rfl qX)
       case h116 => rfl
       refine tS 14 ?_
       refine tA 18 ?_
       refine tP 19 ?_
       first | refine WA.effN 20 rfl qK rfl rfl (Ef.store 0 tab_ok rfl rfl rfl rfl rfl rfl rfl rfl ?_) | refine WA.effN 20 rfl qK rfl rfl (Ef.store 1 tab_ok rfl rfl rfl rfl rfl rfl rfl rfl ?_) | refine WA.effN 20 rfl qK rfl rfl (Ef.store 2 tab_ok rfl rfl rfl rfl rfl rfl rfl rfl ?_) | refine WA.effN 20 rfl qK rfl rfl (Ef.store 3 tab_ok rfl rfl rfl rfl rfl rfl rfl rfl ?_) | refine WA.effN 20 rfl qK rfl rfl (Ef.store 4 tab_ok rfl rfl rfl rfl rfl rfl rfl rfl ?_) | refine WA.effN 20 rfl qK rfl rfl (Ef.store 5 tab_ok rfl rfl rfl rfl rfl rfl rfl rfl ?_) | refine WA.effN 20 rfl qK rfl rfl (Ef.store 6 tab_ok rfl rfl rfl rfl rfl rfl rfl rfl ?_)
       refine ⟨qR, qS, ?_⟩
       refine WA.done qK ?_
       refine WE.cut (nth (fvals (upV xs (c + 3) v0) n) ((n : Int) - 1).toNat - nth (fvals (upV xs (c + 3) v0) n) ((n : Int) - (P : Int)).toNat + nth ([0, 0, 1, 3, 4, 8] : List Int) (mod (nth xs (c + 3 + n)) ((6 : Nat) : Int)).toNat) ⟨by omega, by omega, by omega⟩ ⟨rfl, rfl, rfl, rfl⟩ (RLe.refl _) qS
   ·
    refine WS.eff rfl rfl rfl qD (Ef.buildSliceD (enc := encI) (parts := [.const (.int .i64 0), .const (.int .i64 0), .const (.int .i64 1), .const (.int .i64 3), .const (.int .i64 4), .const (.int .i64 8)]) [_, _, _, _, _, _] tab_ok rfl rfl rfl rfl rfl rfl rfl rfl qD qD (fun a54 => ?_))
    refine ⟨qR, qS, ?_⟩
    refine WA.br4 (i := 1) (j := 7) (k := 10) (l := 17) qK ?_ ?_ ?_ ?_
    ·
     refine' WS.yl rfl rfl rfl qD (Yl.load1 tab_ok rfl rfl rfl (fun _ => rfl) ?r117 rfl ?h117) qS qR ?_
     case r117 => apply Rd.add; (first | exact Rd.blk 0 rfl | exact Rd.blk 1 rfl | exact Rd.blk 2 rfl | exact Rd.blk 3 rfl | exact Rd.blk 4 rfl | exact Rd.blk 5 rfl | exact Rd.blk 6 rfl)
     case h117 => rfl
     refine WA.take 4 rfl qK qK qK rfl rfl qD (Yl.index tab_ok rfl rfl rfl rfl rfl rfl (fun _ => rfl) qA qH) qS qR ?_
     refine' WA.take 5 rfl qK qK qK rfl rfl qD (Yl.load1 tab_ok rfl rfl rfl (fun _ => rfl) ?r118 rfl ?h118) qS qR ?_
     case r118 => (first | (apply RS.rdD; assumption; ((try dsimp only) <;> omega)) | exact Rd.slD 0 rfl qX | exact Rd.slD 1 rfl qX | exact Rd.slD 2 rfl qX | exact Rd.slD 3 rfl qX | exact Rd.slD 4 rfl qX | exact Rd.slD 5 rfl qX | exact Rd.slD 6 rfl qX)
     case h118 => rfl
     refine WA.br3 (i := 7) (j := 10) (k := 17) qK ?_ ?_ ?_
     ·
      refine' WS.yl rfl rfl rfl qD (Yl.load1 tab_ok rfl rfl rfl (fun _ => rfl) ?r119 rfl ?h119) qS qR ?_
      case r119 => apply Rd.add; (first | exact Rd.blk 0 rfl | exact Rd.blk 1 rfl | exact Rd.blk 2 rfl | exact Rd.blk 3 rfl | exact Rd.blk 4 rfl | exact Rd.blk 5 rfl | exact Rd.blk 6 rfl)
      case h119 => rfl
      refine WA.br2 (i := 10) (j := 17) qK ?_ ?_
      ·
       refine' WS.yl rfl rfl rfl qD (Yl.load1 tab_ok rfl rfl rfl (fun _ => rfl) ?r120 rfl ?h120) qS qR ?_
       case r120 => apply Rd.add; (first | exact Rd.blk 0 rfl | exact Rd.blk 1 rfl | exact Rd.blk 2 rfl | exact Rd.blk 3 rfl | exact Rd.blk 4 rfl | exact Rd.blk 5 rfl | exact Rd.blk 6 rfl)
       case h120 => rfl
       refine tS 11 ?_
       refine WA.take 12 rfl qK qK qK rfl rfl qD (Yl.index tab_ok rfl rfl rfl rfl rfl rfl (fun _ => rfl) qA qH) qS qR ?_
       refine' WA.take 13 rfl qK qK qK rfl rfl qD (Yl.load1 tab_ok rfl rfl rfl (fun _ => rfl) ?r121 rfl ?h121) qS qR ?_
       case r121 => (first | (apply RS.rdD; assumption; ((try dsimp only) <;> omega)) | exact Rd.slD 0 rfl qX | exact Rd.slD 1 rfl qX | exact Rd.slD 2 rfl qX | exact Rd.slD 3 rfl qX | exact Rd.slD 4 rfl qX | exact Rd.slD 5 rfl qX | exact Rd.slD 6 rfl qX)
       case h121 => rfl
       refine tS 14 ?_
       refine WA.callAt 5 17 rfl qK en33 rfl rfl qD (CallOp.mkT rfl rfl rfl rfl) rfl (PickM_C (j := 0) w0 ([0, 0, 1, 3, 4, 8] : List Int) rfl qD qD ha rfl) ?_
       rintro _ _ _ _ - ⟨rfl, rfl, rfl, rfl⟩
       refine ⟨RLe.refl _, qS, ?_⟩
       refine tA 18 ?_
       refine tP 19 ?_
       first | refine WA.effN 20 rfl qK rfl rfl (Ef.store 0 tab_ok rfl rfl rfl rfl rfl rfl rfl rfl ?_) | refine WA.effN 20 rfl qK rfl rfl (Ef.store 1 tab_ok rfl rfl rfl rfl rfl rfl rfl rfl ?_) | refine WA.effN 20 rfl qK rfl rfl (Ef.store 2 tab_ok rfl rfl rfl rfl rfl rfl rfl rfl ?_) | refine WA.effN 20 rfl qK rfl rfl (Ef.store 3 tab_ok rfl rfl rfl rfl rfl rfl rfl rfl ?_) | refine WA.effN 20 rfl qK rfl rfl (Ef.store 4 tab_ok rfl rfl rfl rfl rfl rfl rfl rfl ?_) | refine WA.effN 20 rfl qK rfl rfl (Ef.store 5 tab_ok rfl rfl rfl rfl rfl rfl rfl rfl ?_) | refine WA.effN 20 rfl qK rfl rfl (Ef.store 6 tab_ok rfl rfl rfl rfl rfl rfl rfl rfl ?_)
       refine ⟨qR, qS, ?_⟩
       refine WA.done qK ?_
       refine WE.cut (nth (fvals (upV xs (c + 3) v0) n) ((n : Int) - 1).toNat - nth (fvals (upV xs (c + 3) v0) n) ((n : Int) - (P : Int)).toNat + nth ([0, 0, 1, 3, 4, 8] : List Int) (mod (nth xs (c + 3 + n)) ((6 : Nat) : Int)).toNat) ⟨by omega, by omega, by omega⟩ ⟨rfl, rfl, rfl, rfl⟩ (RLe.refl _) qS
      ·
       refine WS.callAt 5 rfl en33 rfl rfl qD (CallOp.mkT rfl rfl rfl rfl) rfl (PickM_C (j := 0) w0 ([0, 0, 1, 3, 4, 8] : List Int) rfl qD qD ha rfl) ?_
       rintro _ _ _ _ - ⟨rfl, rfl, rfl, rfl⟩
       refine ⟨qR, qS, ?_⟩
       refine' WA.yl 10 rfl qK rfl rfl qD (Yl.load1 tab_ok rfl rfl rfl (fun _ => rfl) ?r122 rfl ?h122) qS qR ?_
       case r122 => apply Rd.add; (first | exact Rd.blk 0 rfl | exact Rd.blk 1 rfl | exact Rd.blk 2 rfl | exact Rd.blk 3 rfl | exact Rd.blk 4 rfl | exact Rd.blk 5 rfl | exact Rd.blk 6 rfl)
       case h122 => rfl
       refine tS 11 ?_
       refine WA.take 12 rfl qK qK qK rfl rfl qD (Yl.index tab_ok rfl rfl rfl rfl rfl rfl (fun _ => rfl) qA qH) qS qR ?_
       refine' WA.take 13 rfl qK qK qK rfl rfl qD (Yl.load1 tab_ok rfl rfl rfl (fun _ => rfl) ?r123 rfl ?h123) qS qR ?_
       case r123 => (first | (apply RS.rdD; assumption; ((try dsimp only) <;> omega)) | exact Rd.slD 0 rfl qX | exact Rd.slD 1 rfl qX | exact Rd.slD 2 rfl qX | exact Rd.slD 3 rfl qX | exact Rd.slD 4 rfl qX | exact Rd.slD 5 rfl qX | exact Rd.slD 6 rfl qX)
       case h123 => rfl
       refine tS 14 ?_
       refine tA 18 ?_
       refine tP 19 ?_
       first | refine WA.effN 20 rfl qK rfl rfl (Ef.store 0 tab_ok rfl rfl rfl rfl rfl rfl rfl rfl ?_) | refine WA.effN 20 rfl qK rfl rfl (Ef.store 1 tab_ok rfl rfl rfl rfl rfl rfl rfl rfl ?_) | refine WA.effN 20 rfl qK rfl rfl (Ef.store 2 tab_ok rfl rfl rfl rfl rfl rfl rfl rfl ?_) | refine WA.effN 20 rfl qK rfl rfl (Ef.store 3 tab_ok rfl rfl rfl rfl rfl rfl rfl rfl ?_) | refine WA.effN 20 rfl qK rfl rfl (Ef.store 4 tab_ok rfl rfl rfl rfl rfl rfl rfl rfl ?_) | refine WA.effN 20 rfl qK rfl rfl (Ef.store 5 tab_ok rfl rfl rfl rfl rfl rfl rfl rfl ?_) | refine WA.effN 20 rfl qK rfl rfl (Ef.store 6 tab_ok rfl rfl rfl rfl rfl rfl rfl rfl ?_)
       refine ⟨qR, qS, ?_⟩
       refine WA.done qK ?_
       refine WE.cut (nth (fvals (upV xs (c + 3) v0) n) ((n : Int) - 1).toNat - nth (fvals (upV xs (c + 3) v0) n) ((n : Int) - (P : Int)).toNat + nth ([0, 0, 1, 3, 4, 8] : List Int) (mod (nth xs (c + 3 + n)) ((6 : Nat) : Int)).toNat) ⟨by omega, by omega, by omega⟩ ⟨rfl, rfl, rfl, rfl⟩ (RLe.refl _) qS
     ·
      refine' WS.yl rfl rfl rfl qD (Yl.load1 tab_ok rfl rfl rfl (fun _ => rfl) ?r124 rfl ?h124) qS qR ?_
      case r124 => apply Rd.add; (first | exact Rd.blk 0 rfl | exact Rd.blk 1 rfl | exact Rd.blk 2 rfl | exact Rd.blk 3 rfl | exact Rd.blk 4 rfl | exact Rd.blk 5 rfl | exact Rd.blk 6 rfl)
      case h124 => rfl
      refine tS 11 ?_
      refine WA.br2 (i := 7) (j := 17) qK ?_ ?_
      ·
       refine' WS.yl rfl rfl rfl qD (Yl.load1 tab_ok rfl rfl rfl (fun _ => rfl) ?r125 rfl ?h125) qS qR ?_
       case r125 => apply Rd.add; (first | exact Rd.blk 0 rfl | exact Rd.blk 1 rfl | exact Rd.blk 2 rfl | exact Rd.blk 3 rfl | exact Rd.blk 4 rfl | exact Rd.blk 5 rfl | exact Rd.blk 6 rfl)
       case h125 => rfl
       refine WA.take 12 rfl qK qK qK rfl rfl qD (Yl.index tab_ok rfl rfl rfl rfl rfl rfl (fun _ => rfl) qA qH) qS qR ?_
       refine' WA.take 13 rfl qK qK qK rfl rfl qD (Yl.load1 tab_ok rfl rfl rfl (fun _ => rfl) ?r126 rfl ?h126) qS qR ?_
       case r126 => (first | (apply RS.rdD; assumption; ((try dsimp only) <;> omega)) | exact Rd.slD 0 rfl qX | exact Rd.slD 1 rfl qX | exact Rd.slD 2 rfl qX | exact Rd.slD 3 rfl qX | exact Rd.slD 4 rfl qX | exact Rd.slD 5 rfl qX | exact Rd.slD 6 rfl qX)
       case h126 => rfl
       refine tS 14 ?_
       refine WA.callAt 5 17 rfl qK en33 rfl rfl qD (CallOp.mkT rfl rfl rfl rfl) rfl (PickM_C (j := 0) w0 ([0, 0, 1, 3, 4, 8] : List Int) rfl qD qD ha rfl) ?_
       rintro _ _ _ _ - ⟨rfl, rfl, rfl, rfl⟩
       refine ⟨RLe.refl _, qS, ?_⟩
       refine tA 18 ?_
       refine tP 19 ?_
       first | refine WA.effN 20 rfl qK rfl rfl (Ef.store 0 tab_ok rfl rfl rfl rfl rfl rfl rfl rfl ?_) | refine WA.effN 20 rfl qK rfl rfl (Ef.store 1 tab_ok rfl rfl rfl rfl rfl rfl rfl rfl ?_) | refine WA.effN 20 rfl qK rfl rfl (Ef.store 2 tab_ok rfl rfl rfl rfl rfl rfl rfl rfl ?_) | refine WA.effN 20 rfl qK rfl rfl (Ef.store 3 tab_ok rfl rfl rfl rfl rfl rfl rfl rfl ?_) | refine WA.effN 20 rfl qK rfl rfl (Ef.store 4 tab_ok rfl rfl rfl rfl rfl rfl rfl rfl ?_) | refine WA.effN 20 rfl qK rfl rfl (Ef.store 5 tab_ok rfl rfl rfl rfl rfl rfl rfl rfl ?_) | refine WA.effN 20 rfl qK rfl rfl (Ef.store 6 tab_ok rfl rfl rfl rfl rfl rfl rfl rfl ?_)
       refine ⟨qR, qS, ?_⟩
       refine WA.done qK ?_
       refine WE.cut (nth (fvals (upV xs (c + 3) v0) n) ((n : Int) - 1).toNat - nth (fvals (upV xs (c + 3) v0) n) ((n : Int) - (P : Int)).toNat + nth ([0, 0, 1, 3, 4, 8] : List Int) (mod (nth xs (c + 3 + n)) ((6 : Nat) : Int)).toNat) ⟨by omega, by omega, by omega⟩ ⟨rfl, rfl, rfl, rfl⟩ (RLe.refl _) qS
      ·
       refine WS.callAt 5 rfl en33 rfl rfl qD (CallOp.mkT rfl rfl rfl rfl) rfl (PickM_C (j := 0) w0 ([0, 0, 1, 3, 4, 8] : List Int) rfl qD qD ha rfl) ?_
       rintro _ _ _ _ - ⟨rfl, rfl, rfl, rfl⟩
       refine ⟨qR, qS, ?_⟩
       refine' WA.yl 7 rfl qK rfl rfl qD (Yl.load1 tab_ok rfl rfl rfl (fun _ => rfl) ?r127 rfl ?h127) qS qR ?_
       case r127 => apply Rd.add; (first | exact Rd.blk 0 rfl | exact Rd.blk 1 rfl | exact Rd.blk 2 rfl | exact Rd.blk 3 rfl | exact Rd.blk 4 rfl | exact Rd.blk 5 rfl | exact Rd.blk 6 rfl)
       case h127 => rfl
       refine WA.take 12 rfl qK qK qK rfl rfl qD (Yl.index tab_ok rfl rfl rfl rfl rfl rfl (fun _ => rfl) qA qH) qS qR ?_
       refine' WA.take 13 rfl qK qK qK rfl rfl qD (Yl.load1 tab_ok rfl rfl rfl (fun _ => rfl) ?r128 rfl ?h128) qS qR ?_
       case r128 => (first | (apply RS.rdD; assumption; ((try dsimp only) <;> omega)) | exact Rd.slD 0 rfl qX | exact Rd.slD 1 rfl qX | exact Rd.slD 2 rfl qX | exact Rd.slD 3 rfl qX | exact Rd.slD 4 rfl qX | exact Rd.slD 5 rfl qX | exact Rd.slD 6 rfl qX)
       case h128 => rfl
       refine tS 14 ?_
       refine tA 18 ?_
       refine tP 19 ?_
       first | refine WA.effN 20 rfl qK rfl rfl (Ef.store 0 tab_ok rfl rfl rfl rfl rfl rfl rfl rfl ?_) | refine WA.effN 20 rfl qK rfl rfl (Ef.store 1 tab_ok rfl rfl rfl rfl rfl rfl rfl rfl ?_) | refine WA.effN 20 rfl qK rfl rfl (Ef.store 2 tab_ok rfl rfl rfl rfl rfl rfl rfl rfl ?_) | refine WA.effN 20 rfl qK rfl rfl (Ef.store 3 tab_ok rfl rfl rfl rfl rfl rfl rfl rfl ?_) | refine WA.effN 20 rfl qK rfl rfl (Ef.store 4 tab_ok rfl rfl rfl rfl rfl rfl rfl rfl ?_) | refine WA.effN 20 rfl qK rfl rfl (Ef.store 5 tab_ok rfl rfl rfl rfl rfl rfl rfl rfl ?_) | refine WA.effN 20 rfl qK rfl rfl (Ef.store 6 tab_ok rfl rfl rfl rfl rfl rfl rfl rfl ?_)
       refine ⟨qR, qS, ?_⟩
       refine WA.done qK ?_
       refine WE.cut (nth (fvals (upV xs (c + 3) v0) n) ((n : Int) - 1).toNat - nth (fvals (upV xs (c + 3) v0) n) ((n : Int) - (P : Int)).toNat + nth ([0, 0, 1, 3, 4, 8] : List Int) (mod (nth xs (c + 3 + n)) ((6 : Nat) : Int)).toNat) ⟨by omega, by omega, by omega⟩ ⟨rfl, rfl, rfl, rfl⟩ (RLe.refl _) qS
     ·
      refine WS.callAt 5 rfl en33 rfl rfl qD (CallOp.mkT rfl rfl rfl rfl) rfl (PickM_C (j := 0) w0 ([0, 0, 1, 3, 4, 8] : List Int) rfl qD qD ha rfl) ?_
      rintro _ _ _ _ - ⟨rfl, rfl, rfl, rfl⟩
      refine ⟨qR, qS, ?_⟩
      refine WA.br2 (i := 7) (j := 10) qK ?_ ?_
      ·
       refine' WS.yl rfl rfl rfl qD (Yl.load1 tab_ok rfl rfl rfl (fun _ => rfl) ?r129 rfl ?h129) qS qR ?_
       case r129 => apply Rd.add; (first | exact Rd.blk 0 rfl | exact Rd.blk 1 rfl | exact Rd.blk 2 rfl | exact Rd.blk 3 rfl | exact Rd.blk 4 rfl | exact Rd.blk 5 rfl | exact Rd.blk 6 rfl)
       case h129 => rfl
       refine' WA.yl 10 rfl qK rfl rfl qD (Yl.load1 tab_ok rfl rfl rfl (fun _ => rfl) ?r130 rfl ?h130) qS qR ?_
       case r130 => apply Rd.add; (first | exact Rd.blk 0 rfl | exact Rd.blk 1 rfl | exact Rd.blk 2 rfl | exact Rd.blk 3 rfl | exact Rd.blk 4 rfl | exact Rd.blk 5 rfl | exact Rd.blk 6 rfl)
       case h130 => rfl
       refine tS 11 ?_
       refine WA.take 12 rfl qK qK qK rfl rfl qD (Yl.index tab_ok rfl rfl rfl rfl rfl rfl (fun _ => rfl) qA qH) qS qR ?_
       refine' WA.take 13 rfl qK qK qK rfl rfl qD (Yl.load1 tab_ok rfl rfl rfl (fun _ => rfl) ?r131 rfl ?h131) qS qR ?_
       case r131 => (first | (apply RS.rdD; assumption; ((try dsimp only) <;> omega)) | exact Rd.slD 0 rfl qX | exact Rd.slD 1 rfl qX | exact Rd.slD 2 rfl qX | exact Rd.slD 3 rfl qX | exact Rd.slD 4 rfl qX | exact Rd.slD 5 rfl qX | exact Rd.slD 6 rfl qX)
       case h131 => rfl
       refine tS 14 ?_
       refine tA 18 ?_
       refine tP 19 ?_
       first | refine WA.effN 20 rfl qK rfl rfl (Ef.store 0 tab_ok rfl rfl rfl rfl rfl rfl rfl rfl ?_) | refine WA.effN 20 rfl qK rfl rfl (Ef.store 1 tab_ok rfl rfl rfl rfl rfl rfl rfl rfl ?_) | refine WA.effN 20 rfl qK rfl rfl (Ef.store 2 tab_ok rfl rfl rfl rfl rfl rfl rfl rfl ?_) | refine WA.effN 20 rfl qK rfl rfl (Ef.store 3 tab_ok rfl rfl rfl rfl rfl rfl rfl rfl ?_) | refine WA.effN 20 rfl qK rfl rfl (Ef.store 4 tab_ok rfl rfl rfl rfl rfl rfl rfl rfl ?_) | refine WA.effN 20 rfl qK rfl rfl (Ef.store 5 tab_ok rfl rfl rfl rfl rfl rfl rfl rfl ?_) | refine WA.effN 20 rfl qK rfl rfl (Ef.store 6 tab_ok rfl rfl rfl rfl rfl rfl rfl rfl ?_)
       refine ⟨qR, qS, ?_⟩
       refine WA.done qK ?_
       refine WE.cut (nth (fvals (upV xs (c + 3) v0) n) ((n : Int) - 1).toNat - nth (fvals (upV xs (c + 3) v0) n) ((n : Int) - (P : Int)).toNat + nth ([0, 0, 1, 3, 4, 8] : List Int) (mod (nth xs (c + 3 + n)) ((6 : Nat) : Int)).toNat) ⟨by omega, by omega, by omega⟩ ⟨rfl, rfl, rfl, rfl⟩ (RLe.refl _) qS
      ·
       refine' WS.yl rfl rfl rfl qD (Yl.load1 tab_ok rfl rfl rfl (fun _ => rfl) ?r132 rfl ?h132) qS qR ?_
       case r132 => apply Rd.add; (first | exact Rd.blk 0 rfl | exact Rd.blk 1 rfl | exact Rd.blk 2 rfl | exact Rd.blk 3 rfl | exact Rd.blk 4 rfl | exact Rd.blk 5 rfl | exact Rd.blk 6 rfl)
       case h132 => rfl
       refine tS 11 ?_
       refine' WA.yl 7 rfl qK rfl rfl qD (Yl.load1 tab_ok rfl rfl rfl (fun _ => rfl) ?r133 rfl ?h133) qS qR ?_
       case r133 => apply Rd.add; (first | exact Rd.blk 0 rfl | exact Rd.blk 1 rfl | exact Rd.blk 2 rfl | exact Rd.blk 3 rfl | exact Rd.blk 4 rfl | exact Rd.blk 5 rfl | exact Rd.blk 6 rfl)
       case h133 => rfl
       refine WA.take 12 rfl qK qK qK rfl rfl qD (Yl.index tab_ok rfl rfl rfl rfl rfl rfl (fun _ => rfl) qA qH) qS qR ?_
       refine' WA.take 13 rfl qK qK qK rfl rfl qD (Yl.load1 tab_ok rfl rfl rfl (fun _ => rfl) ?r134 rfl ?h134) qS qR ?_
       case r134 => (first | (apply RS.rdD; assumption; ((try dsimp only) <;> omega)) | exact Rd.slD 0 rfl qX | exact Rd.slD 1 rfl qX | exact Rd.slD 2 rfl qX | exact Rd.slD 3 rfl qX | exact Rd.slD 4 rfl qX | exact Rd.slD 5 rfl qX | exact Rd.slD 6 rfl qX)
       case h134 => rfl
       refine tS 14 ?_
       refine tA 18 ?_
       refine tP 19 ?_
       first | refine WA.effN 20 rfl qK rfl rfl (Ef.store 0 tab_ok rfl rfl rfl rfl rfl rfl rfl rfl ?_) | refine WA.effN 20 rfl qK rfl rfl (Ef.store 1 tab_ok rfl rfl rfl rfl rfl rfl rfl rfl ?_) | refine WA.effN 20 rfl qK rfl rfl (Ef.store 2 tab_ok rfl rfl rfl rfl rfl rfl rfl rfl ?_) | refine WA.effN 20 rfl qK rfl rfl (Ef.store 3 tab_ok rfl rfl rfl rfl rfl rfl rfl rfl ?_) | refine WA.effN 20 rfl qK rfl rfl (Ef.store 4 tab_ok rfl rfl rfl rfl rfl rfl rfl rfl ?_) | refine WA.effN 20 rfl qK rfl rfl (Ef.store 5 tab_ok rfl rfl rfl rfl rfl rfl rfl rfl ?_) | refine WA.effN 20 rfl qK rfl rfl (Ef.store 6 tab_ok rfl rfl rfl rfl rfl rfl rfl rfl ?_)
       refine ⟨qR, qS, ?_⟩
       refine WA.done qK ?_
       refine WE.cut (nth (fvals (upV xs (c + 3) v0) n) ((n : Int) - 1).toNat - nth (fvals (upV xs (c + 3) v0) n) ((n : Int) - (P : Int)).toNat + nth ([0, 0, 1, 3, 4, 8] : List Int) (mod (nth xs (c + 3 + n)) ((6 : Nat) : Int)).toNat) ⟨by omega, by omega, by omega⟩ ⟨rfl, rfl, rfl, rfl⟩ (RLe.refl _) qS
    ·
     refine' WS.yl rfl rfl rfl qD (Yl.load1 tab_ok rfl rfl rfl (fun _ => rfl) ?r135 rfl ?h135) qS qR ?_
     case r135 => apply Rd.add; (first | exact Rd.blk 0 rfl | exact Rd.blk 1 rfl | exact Rd.blk 2 rfl | exact Rd.blk 3 rfl | exact Rd.blk 4 rfl | exact Rd.blk 5 rfl | exact Rd.blk 6 rfl)
     case h135 => rfl
     refine WA.br3 (i := 1) (j := 10) (k := 17) qK ?_ ?_ ?_
     ·
      refine' WS.yl rfl rfl rfl qD (Yl.load1 tab_ok rfl rfl rfl (fun _ => rfl) ?r136 rfl ?h136) qS qR ?_
      case r136 => apply Rd.add; (first | exact Rd.blk 0 rfl | exact Rd.blk 1 rfl | exact Rd.blk 2 rfl | exact Rd.blk 3 rfl | exact Rd.blk 4 rfl | exact Rd.blk 5 rfl | exact Rd.blk 6 rfl)
      case h136 => rfl
      refine WA.take 4 rfl qK qK qK rfl rfl qD (Yl.index tab_ok rfl rfl rfl rfl rfl rfl (fun _ => rfl) qA qH) qS qR ?_
      refine' WA.take 5 rfl qK qK qK rfl rfl qD (Yl.load1 tab_ok rfl rfl rfl (fun _ => rfl) ?r137 rfl ?h137) qS qR ?_
      case r137 => (first | (apply RS.rdD; assumption; ((try dsimp only) <;> omega)) | exact Rd.slD 0 rfl qX | exact Rd.slD 1 rfl qX | exact Rd.slD 2 rfl qX | exact Rd.slD 3 rfl qX | exact Rd.slD 4 rfl qX | exact Rd.slD 5 rfl qX | exact Rd.slD 6 rfl qX)
      case h137 => rfl
      refine WA.br2 (i := 10) (j := 17) qK ?_ ?_
      ·
       refine' WS.yl rfl rfl rfl qD (Yl.load1 tab_ok rfl rfl rfl (fun _ => rfl) ?r138 rfl ?h138) qS qR ?_
       case r138 => apply Rd.add; (first | exact Rd.blk 0 rfl | exact Rd.blk 1 rfl | exact Rd.blk 2 rfl | exact Rd.blk 3 rfl | exact Rd.blk 4 rfl | exact Rd.blk 5 rfl | exact Rd.blk 6 rfl)
       case h138 => rfl
       refine tS 11 ?_
       refine WA.take 12 rfl qK qK qK rfl rfl qD (Yl.index tab_ok rfl rfl rfl rfl rfl rfl (fun _ => rfl) qA qH) qS qR ?_
       refine' WA.take 13 rfl qK qK qK rfl rfl qD (Yl.load1 tab_ok rfl rfl rfl (fun _ => rfl) ?r139 rfl ?h139) qS qR ?_
       case r139 => (first | (apply RS.rdD; assumption; ((try dsimp only) <;> omega)) | exact Rd.slD 0 rfl qX | exact Rd.slD 1 rfl qX | exact Rd.slD 2 rfl qX | exact Rd.slD 3 rfl qX | exact Rd.slD 4 rfl qX | exact Rd.slD 5 rfl qX | exact Rd.slD 6 rfl qX)
       case h139 => rfl
       refine tS 14 ?_
       refine WA.callAt 5 17 rfl qK en33 rfl rfl qD (CallOp.mkT rfl rfl rfl rfl) rfl (PickM_C (j := 0) w0 ([0, 0, 1, 3, 4, 8] : List Int) rfl qD qD ha rfl) ?_
       rintro _ _ _ _ - ⟨rfl, rfl, rfl, rfl⟩
       refine ⟨RLe.refl _, qS, ?_⟩
       refine tA 18 ?_
       refine tP 19 ?_
       first | refine WA.effN 20 rfl qK rfl rfl (Ef.store 0 tab_ok rfl rfl rfl rfl rfl rfl rfl rfl ?_) | refine WA.effN 20 rfl qK rfl rfl (Ef.store 1 tab_ok rfl rfl rfl rfl rfl rfl rfl rfl ?_) | refine WA.effN 20 rfl qK rfl rfl (Ef.store 2 tab_ok rfl rfl rfl rfl rfl rfl rfl rfl ?_) | refine WA.effN 20 rfl qK rfl rfl (Ef.store 3 tab_ok rfl rfl rfl rfl rfl rfl rfl rfl ?_) | refine WA.effN 20 rfl qK rfl rfl (Ef.store 4 tab_ok rfl rfl rfl rfl rfl rfl rfl rfl ?_) | refine WA.effN 20 rfl qK rfl rfl (Ef.store 5 tab_ok rfl rfl rfl rfl rfl rfl rfl rfl ?_) | refine WA.effN 20 rfl qK rfl rfl (Ef.store 6 tab_ok rfl rfl rfl rfl rfl rfl rfl rfl ?_)
       refine ⟨qR, qS, ?_⟩
       refine WA.done qK ?_
       refine WE.cut (nth (fvals (upV xs (c + 3) v0) n) ((n : Int) - 1).toNat - nth (fvals (upV xs (c + 3) v0) n) ((n : Int) - (P : Int)).toNat + nth ([0, 0, 1, 3, 4, 8] : List Int) (mod (nth xs (c + 3 + n)) ((6 : Nat) : Int)).toNat) ⟨by omega, by omega, by omega⟩ ⟨rfl, rfl, rfl, rfl⟩ (RLe.refl _) qS
      ·
       refine WS.callAt 5 rfl en33 rfl rfl qD (CallOp.mkT rfl rfl rfl rfl) rfl (PickM_C (j := 0) w0 ([0, 0, 1, 3, 4, 8] : List Int) rfl qD qD ha rfl) ?_
       rintro _ _ _ _ - ⟨rfl, rfl, rfl, rfl⟩
       refine ⟨qR, qS, ?_⟩
       refine' WA.yl 10 rfl qK rfl rfl qD (Yl.load1 tab_ok rfl rfl rfl (fun _ => rfl) ?r140 rfl ?h140) qS qR ?_
       case r140 => apply Rd.add; (first | exact Rd.blk 0 rfl | exact Rd.blk 1 rfl | exact Rd.blk 2 rfl | exact Rd.blk 3 rfl | exact Rd.blk 4 rfl | exact Rd.blk 5 rfl | exact Rd.blk 6 rfl)
       case h140 => rfl
       refine tS 11 ?_
       refine WA.take 12 rfl qK qK qK rfl rfl qD (Yl.index tab_ok rfl rfl rfl rfl rfl rfl (fun _ => rfl) qA qH) qS qR ?_
       refine' WA.take 13 rfl qK qK qK rfl rfl qD (Yl.load1 tab_ok rfl rfl rfl (fun _ => rfl) ?r141 rfl ?h141) qS qR ?_
       case r141 => (first | (apply RS.rdD; assumption; ((try dsimp only) <;> omega)) | exact Rd.slD 0 rfl qX | exact Rd.slD 1 rfl qX | exact Rd.slD 2 rfl qX | exact Rd.slD 3 rfl qX | exact Rd.slD 4 rfl qX | exact Rd.slD 5 rfl qX | exact Rd.slD 6 rfl qX)
       case h141 => rfl
       refine tS 14 ?_
       refine tA 18 ?_
       refine tP 19 ?_
       first | refine WA.effN 20 rfl qK rfl rfl (Ef.store 0 tab_ok rfl rfl rfl rfl rfl rfl rfl rfl ?_) | refine WA.effN 20 rfl qK rfl rfl (Ef.store 1 tab_ok rfl rfl rfl rfl rfl rfl rfl rfl ?_) | refine WA.effN 20 rfl qK rfl rfl (Ef.store 2 tab_ok rfl rfl rfl rfl rfl rfl rfl rfl ?_) | refine WA.effN 20 rfl qK rfl rfl (Ef.store 3 tab_ok rfl rfl rfl rfl rfl rfl rfl rfl ?_) | refine WA.effN 20 rfl qK rfl rfl (Ef.store 4 tab_ok rfl rfl rfl rfl rfl rfl rfl rfl ?_) | refine WA.effN 20 rfl qK rfl rfl (Ef.store 5 tab_ok rfl rfl rfl rfl rfl rfl rfl rfl ?_) | refine WA.effN 20 rfl qK rfl rfl (Ef.store 6 tab_ok rfl rfl rfl rfl rfl rfl rfl rfl ?_)
       refine ⟨qR, qS, ?_⟩
       refine WA.done qK ?_
       refine WE.cut (nth (fvals (upV xs (c + 3) v0) n) ((n : Int) - 1).toNat - nth (fvals (upV xs (c + 3) v0) n) ((n : Int) - (P : Int)).toNat + nth ([0, 0, 1, 3, 4, 8] : List Int) (mod (nth xs (c + 3 + n)) ((6 : Nat) : Int)).toNat) ⟨by omega, by omega, by omega⟩ ⟨rfl, rfl, rfl, rfl⟩ (RLe.refl _) qS
     ·
      refine' WS.yl rfl rfl rfl qD (Yl.load1 tab_ok rfl rfl rfl (fun _ => rfl) ?r142 rfl ?h142) qS qR ?_
      case r142 => apply Rd.add; (first | exact Rd.blk 0 rfl | exact Rd.blk 1 rfl | exact Rd.blk 2 rfl | exact Rd.blk 3 rfl | exact Rd.blk 4 rfl | exact Rd.blk 5 rfl | exact Rd.blk 6 rfl)
      case h142 => rfl
      refine tS 11 ?_
      refine WA.take 12 rfl qK qK qK rfl rfl qD (Yl.index tab_ok rfl rfl rfl rfl rfl rfl (fun _ => rfl) qA qH) qS qR ?_
      refine' WA.take 13 rfl qK qK qK rfl rfl qD (Yl.load1 tab_ok rfl rfl rfl (fun _ => rfl) ?r143 rfl ?h143) qS qR ?_
      case r143 => (first | (apply RS.rdD; assumption; ((try dsimp only) <;> omega)) | exact Rd.slD 0 rfl qX | exact Rd.slD 1 rfl qX | exact Rd.slD 2 rfl qX | exact Rd.slD 3 rfl qX | exact Rd.slD 4 rfl qX | exact Rd.slD 5 rfl qX | exact Rd.slD 6 rfl qX)
      case h143 => rfl
      refine WA.br2 (i := 1) (j := 17) qK ?_ ?_
      ·
       refine' WS.yl rfl rfl rfl qD (Yl.load1 tab_ok rfl rfl rfl (fun _ => rfl) ?r144 rfl ?h144) qS qR ?_
       case r144 => apply Rd.add; (first | exact Rd.blk 0 rfl | exact Rd.blk 1 rfl | exact Rd.blk 2 rfl | exact Rd.blk 3 rfl | exact Rd.blk 4 rfl | exact Rd.blk 5 rfl | exact Rd.blk 6 rfl)
       case h144 => rfl
       refine WA.take 4 rfl qK qK qK rfl rfl qD (Yl.index tab_ok rfl rfl rfl rfl rfl rfl (fun _ => rfl) qA qH) qS qR ?_
       refine' WA.take 5 rfl qK qK qK rfl rfl qD (Yl.load1 tab_ok rfl rfl rfl (fun _ => rfl) ?r145 rfl ?h145) qS qR ?_
       case r145 => (first | (apply RS.rdD; assumption; ((try dsimp only) <;> omega)) | exact Rd.slD 0 rfl qX | exact Rd.slD 1 rfl qX | exact Rd.slD 2 rfl qX | exact Rd.slD 3 rfl qX | exact Rd.slD 4 rfl qX | exact Rd.slD 5 rfl qX | exact Rd.slD 6 rfl qX)
       case h145 => rfl
       refine tS 14 ?_
       refine WA.callAt 5 17 rfl qK en33 rfl rfl qD (CallOp.mkT rfl rfl rfl rfl) rfl (PickM_C (j := 0) w0 ([0, 0, 1, 3, 4, 8] : List Int) rfl qD qD ha rfl) ?_
       rintro _ _ _ _ - ⟨rfl, rfl, rfl, rfl⟩
       refine ⟨RLe.refl _, qS, ?_⟩
       refine tA 18 ?_
       refine tP 19 ?_
       first | refine WA.effN 20 rfl qK rfl rfl (Ef.store 0 tab_ok rfl rfl rfl rfl rfl rfl rfl rfl ?_) | refine WA.effN 20 rfl qK rfl rfl (Ef.store 1 tab_ok rfl rfl rfl rfl rfl rfl rfl rfl ?_) | refine WA.effN 20 rfl qK rfl rfl (Ef.store 2 tab_ok rfl rfl rfl rfl rfl rfl rfl rfl ?_) | refine WA.effN 20 rfl qK rfl rfl (Ef.store 3 tab_ok rfl rfl rfl rfl rfl rfl rfl rfl ?_) | refine WA.effN 20 rfl qK rfl rfl (Ef.store 4 tab_ok rfl rfl rfl rfl rfl rfl rfl rfl ?_) | refine WA.effN 20 rfl qK rfl rfl (Ef.store 5 tab_ok rfl rfl rfl rfl rfl rfl rfl rfl ?_) | refine WA.effN 20 rfl qK rfl rfl (Ef.store 6 tab_ok rfl rfl rfl rfl rfl rfl rfl rfl ?_)
       refine ⟨qR, qS, ?_⟩
       refine WA.done qK ?_
       refine WE.cut (nth (fvals (upV xs (c + 3) v0) n) ((n : Int) - 1).toNat - nth (fvals (upV xs (c + 3) v0) n) ((n : Int) - (P : Int)).toNat + nth ([0, 0, 1, 3, 4, 8] : List Int) (mod (nth xs (c + 3 + n)) ((6 : Nat) : Int)).toNat) ⟨by omega, by omega, by omega⟩ ⟨rfl, rfl, rfl, rfl⟩ (RLe.refl _) qS
      ·
       refine WS.callAt 5 rfl en33 rfl rfl qD (CallOp.mkT rfl rfl rfl rfl) rfl (PickM_C (j := 0) w0 ([0, 0, 1, 3, 4, 8] : List Int) rfl qD qD ha rfl) ?_
       rintro _ _ _ _ - ⟨rfl, rfl, rfl, rfl⟩
       refine ⟨qR, qS, ?_⟩
       refine' WA.yl 1 rfl qK rfl rfl qD (Yl.load1 tab_ok rfl rfl rfl (fun _ => rfl) ?r146 rfl ?h146) qS qR ?_
       case r146 => apply Rd.add; (first | exact Rd.blk 0 rfl | exact Rd.blk 1 rfl | exact Rd.blk 2 rfl | exact Rd.blk 3 rfl | exact Rd.blk 4 rfl | exact Rd.blk 5 rfl | exact Rd.blk 6 rfl)
       case h146 => rfl
       refine WA.take 4 rfl qK qK qK rfl rfl qD (Yl.index tab_ok rfl rfl rfl rfl rfl rfl (fun _ => rfl) qA qH) qS qR ?_
       refine' WA.take 5 rfl qK qK qK rfl rfl qD (Yl.load1 tab_ok rfl rfl rfl (fun _ => rfl) ?r147 rfl ?h147) qS qR ?_
       case r147 => (first | (apply RS.rdD; assumption; ((try dsimp only) <;> omega)) | exact Rd.slD 0 rfl qX | exact Rd.slD 1 rfl qX | exact Rd.slD 2 rfl qX | exact Rd.slD 3 rfl qX | exact Rd.slD 4 rfl qX | exact Rd.slD 5 rfl qX | exact Rd.slD 6 rfl qX)
       case h147 => rfl
       refine tS 14 ?_
       refine tA 18 ?_
       refine tP 19 ?_
       first | refine WA.effN 20 rfl qK rfl rfl (Ef.store 0 tab_ok rfl rfl rfl rfl rfl rfl rfl rfl ?_) | refine WA.effN 20 rfl qK rfl rfl (Ef.store 1 tab_ok rfl rfl rfl rfl rfl rfl rfl rfl ?_) | refine WA.effN 20 rfl qK rfl rfl (Ef.store 2 tab_ok rfl rfl rfl rfl rfl rfl rfl rfl ?_) | refine WA.effN 20 rfl qK rfl rfl (Ef.store 3 tab_ok rfl rfl rfl rfl rfl rfl rfl rfl ?_) | refine WA.effN 20 rfl qK rfl rfl (Ef.store 4 tab_ok rfl rfl rfl rfl rfl rfl rfl rfl ?_) | refine WA.effN 20 rfl qK rfl rfl (Ef.store 5 tab_ok rfl rfl rfl rfl rfl rfl rfl rfl ?_) | refine WA.effN 20 rfl qK rfl rfl (Ef.store 6 tab_ok rfl rfl rfl rfl rfl rfl rfl rfl ?_)
       refine ⟨qR, qS, ?_⟩
       refine WA.done qK ?_
       refine WE.cut (nth (fvals (upV xs (c + 3) v0) n) ((n : Int) - 1).toNat - nth (fvals (upV xs (c + 3) v0) n) ((n : Int) - (P : Int)).toNat + nth ([0, 0, 1, 3, 4, 8] : List Int) (mod (nth xs (c + 3 + n)) ((6 : Nat) : Int)).toNat) ⟨by omega, by omega, by omega⟩ ⟨rfl, rfl, rfl, rfl⟩ (RLe.refl _) qS
     ·
      refine WS.callAt 5 rfl en33 rfl rfl qD (CallOp.mkT rfl rfl rfl rfl) rfl (PickM_C (j := 0) w0 ([0, 0, 1, 3, 4, 8] : List Int) rfl qD qD ha rfl) ?_
      rintro _ _ _ _ - ⟨rfl, rfl, rfl, rfl⟩
      refine ⟨qR, qS, ?_⟩
      refine WA.br2 (i := 1) (j := 10) qK ?_ ?_
      ·
       refine' WS.yl rfl rfl rfl qD (Yl.load1 tab_ok rfl rfl rfl (fun _ => rfl) ?r148 rfl ?h148) qS qR ?_
       case r148 => apply Rd.add; (first | exact Rd.blk 0 rfl | exact Rd.blk 1 rfl | exact Rd.blk 2 rfl | exact Rd.blk 3 rfl | exact Rd.blk 4 rfl | exact Rd.blk 5 rfl | exact Rd.blk 6 rfl)
       case h148 => rfl
       refine WA.take 4 rfl qK qK qK rfl rfl qD (Yl.index tab_ok rfl rfl rfl rfl rfl rfl (fun _ => rfl) qA qH) qS qR ?_
       refine' WA.take 5 rfl qK qK qK rfl rfl qD (Yl.load1 tab_ok rfl rfl rfl (fun _ => rfl) ?r149 rfl ?h149) qS qR ?_
       case r149 => (first | (apply RS.rdD; assumption; ((try dsimp only) <;> omega)) | exact Rd.slD 0 rfl qX | exact Rd.slD 1 rfl qX | exact Rd.slD 2 rfl qX | exact Rd.slD 3 rfl qX | exact Rd.slD 4 rfl qX | exact Rd.slD 5 rfl qX | exact Rd.slD 6 rfl qX)
       case h149 => rfl
       refine' WA.yl 10 rfl qK rfl rfl qD (Yl.load1 tab_ok rfl rfl rfl (fun _ => rfl) ?r150 rfl ?h150) qS qR ?_
       case r150 => apply Rd.add; (first | exact Rd.blk 0 rfl | exact Rd.blk 1 rfl | exact Rd.blk 2 rfl | exact Rd.blk 3 rfl | exact Rd.blk 4 rfl | exact Rd.blk 5 rfl | exact Rd.blk 6 rfl)
       case h150 => rfl
       refine tS 11 ?_
       refine WA.take 12 rfl qK qK qK rfl rfl qD (Yl.index tab_ok rfl rfl rfl rfl rfl rfl (fun _ => rfl) qA qH) qS qR ?_
       refine' WA.take 13 rfl qK qK qK rfl rfl qD (Yl.load1 tab_ok rfl rfl rfl (fun _ => rfl) ?r151 rfl ?h151) qS qR ?_
       case r151 => (first | (apply RS.rdD; assumption; ((try dsimp only) <;> omega)) | exact Rd.slD 0 rfl qX | exact Rd.slD 1 rfl qX | exact Rd.slD 2 rfl qX | exact Rd.slD 3 rfl qX | exact Rd.slD 4 rfl qX | exact Rd.slD 5 rfl qX | exact Rd.slD 6 rfl qX)
       case h151 => rfl
       refine tS 14 ?_
       refine tA 18 ?_
       refine tP 19 ?_
       first | refine WA.effN 20 rfl qK rfl rfl (Ef.store 0 tab_ok rfl rfl rfl rfl rfl rfl rfl rfl ?_) | refine WA.effN 20 rfl qK rfl rfl (Ef.store 1 tab_ok rfl rfl rfl rfl rfl rfl rfl rfl ?_) | refine WA.effN 20 rfl qK rfl rfl (Ef.store 2 tab_ok rfl rfl rfl rfl rfl rfl rfl rfl ?_) | refine WA.effN 20 rfl qK rfl rfl (Ef.store 3 tab_ok rfl rfl rfl rfl rfl rfl rfl rfl ?_) | refine WA.effN 20 rfl qK rfl rfl (Ef.store 4 tab_ok rfl rfl rfl rfl rfl rfl rfl rfl ?_) | refine WA.effN 20 rfl qK rfl rfl (Ef.store 5 tab_ok rfl rfl rfl rfl rfl rfl rfl rfl ?_) | refine WA.effN 20 rfl qK rfl rfl (Ef.store 6 tab_ok rfl rfl rfl rfl rfl rfl rfl rfl ?_)
       refine ⟨qR, qS, ?_⟩
       refine WA.done qK ?_
       refine WE.cut (nth (fvals (upV xs (c + 3) v0) n) ((n : Int) - 1).toNat - nth (fvals (upV xs (c + 3) v0) n) ((n : Int) - (P : Int)).toNat + nth ([0, 0, 1, 3, 4, 8] : List Int) (mod (nth xs (c + 3 + n)) ((6 : Nat) : Int)).toNat) ⟨by omega, by omega, by omega⟩ ⟨rfl, rfl, rfl, rfl⟩ (RLe.refl _) qS
      ·
       refine' WS.yl rfl rfl rfl qD (Yl.load1 tab_ok rfl rfl rfl (fun _ => rfl) ?r152 rfl ?h152) qS qR ?_
       case r152 => apply Rd.add; (first | exact Rd.blk 0 rfl | exact Rd.blk 1 rfl | exact Rd.blk 2 rfl | exact Rd.blk 3 rfl | exact Rd.blk 4 rfl | exact Rd.blk 5 rfl | exact Rd.blk 6 rfl)
       case h152 => rfl
       refine tS 11 ?_
       refine WA.take 12 rfl qK qK qK rfl rfl qD (Yl.index tab_ok rfl rfl rfl rfl rfl rfl (fun _ => rfl) qA qH) qS qR ?_
       refine' WA.take 13 rfl qK qK qK rfl rfl qD (Yl.load1 tab_ok rfl rfl rfl (fun _ => rfl) ?r153 rfl ?h153) qS qR ?_
       case r153 => (first | (apply RS.rdD; assumption; ((try dsimp only) <;> omega)) | exact Rd.slD 0 rfl qX | exact Rd.slD 1 rfl qX | exact Rd.slD 2 rfl qX | exact Rd.slD 3 rfl qX | exact Rd.slD 4 rfl qX | exact Rd.slD 5 rfl qX | exact Rd.slD 6 rfl qX)
       case h153 => rfl
       refine' WA.yl 1 rfl qK rfl rfl qD (Yl.load1 tab_ok rfl rfl rfl (fun _ => rfl) ?r154 rfl ?h154) qS qR ?_
       case r154 => apply Rd.add; (first | exact Rd.blk 0 rfl | exact Rd.blk 1 rfl | exact Rd.blk 2 rfl | exact Rd.blk 3 rfl | exact Rd.blk 4 rfl | exact Rd.blk 5 rfl | exact Rd.blk 6 rfl)
       case h154 => rfl
       refine WA.take 4 rfl qK qK qK rfl rfl qD (Yl.index tab_ok rfl rfl rfl rfl rfl rfl (fun _ => rfl) qA qH) qS qR ?_
       refine' WA.take 5 rfl qK qK qK rfl rfl qD (Yl.load1 tab_ok rfl rfl rfl (fun _ => rfl) ?r155 rfl ?h155) qS qR ?_
       case r155 => (first | (apply RS.rdD; assumption; ((try dsimp only) <;> omega)) | exact Rd.slD 0 rfl qX | exact Rd.slD 1 rfl qX | exact Rd.slD 2 rfl qX | exact Rd.slD 3 rfl qX | exact Rd.slD 4 rfl qX | exact Rd.slD 5 rfl qX | exact Rd.slD 6 rfl qX)
       case h155 => rfl
       refine tS 14 ?_
       refine tA 18 ?_
       refine tP 19 ?_
       first | refine WA.effN 20 rfl qK rfl rfl (Ef.store 0 tab_ok rfl rfl rfl rfl rfl rfl rfl rfl ?_) | refine WA.effN 20 rfl qK rfl rfl (Ef.store 1 tab_ok rfl rfl rfl rfl rfl rfl rfl rfl ?_) | refine WA.effN 20 rfl qK rfl rfl (Ef.store 2 tab_ok rfl rfl rfl rfl rfl rfl rfl rfl ?_) | refine WA.effN 20 rfl qK rfl rfl (Ef.store 3 tab_ok rfl rfl rfl rfl rfl rfl rfl rfl ?_) | refine WA.effN 20 rfl qK rfl rfl (Ef.store 4 tab_ok rfl rfl rfl rfl rfl rfl rfl rfl ?_) | refine WA.effN 20 rfl qK rfl rfl (Ef.store 5 tab_ok rfl rfl rfl rfl rfl rfl rfl rfl ?_) | refine WA.effN 20 rfl qK rfl rfl (Ef.store 6 tab_ok rfl rfl rfl rfl rfl rfl rfl rfl ?_)
       refine ⟨qR, qS, ?_⟩
       refine WA.done qK ?_
       refine WE.cut (nth (fvals (upV xs (c + 3) v0) n) ((n : Int) - 1).toNat - nth (fvals (upV xs (c + 3) v0) n) ((n : Int) - (P : Int)).toNat + nth ([0, 0, 1, 3, 4, 8] : List Int) (mod (nth xs (c + 3 + n)) ((6 : Nat) : Int)).toNat) ⟨by omega, by omega, by omega⟩ ⟨rfl, rfl, rfl, rfl⟩ (RLe.refl _) qS
    ·
     refine' WS.yl rfl rfl rfl qD (Yl.load1 tab_ok rfl rfl rfl (fun _ => rfl) ?r156 rfl ?h156) qS qR ?_
     case r156 => apply Rd.add; (first | exact Rd.blk 0 rfl | exact Rd.blk 1 rfl | exact Rd.blk 2 rfl | exact Rd.blk 3 rfl | exact Rd.blk 4 rfl | exact Rd.blk 5 rfl | exact Rd.blk 6 rfl)
     case h156 => rfl
     refine tS 11 ?_
     refine WA.br3 (i := 1) (j := 7) (k := 17) qK ?_ ?_ ?_
     ·
      refine' WS.yl rfl rfl rfl qD (Yl.load1 tab_ok rfl rfl rfl (fun _ => rfl) ?r157 rfl ?h157) qS qR ?_
      case r157 => apply Rd.add; (first | exact Rd.blk 0 rfl | exact Rd.blk 1 rfl | exact Rd.blk 2 rfl | exact Rd.blk 3 rfl | exact Rd.blk 4 rfl | exact Rd.blk 5 rfl | exact Rd.blk 6 rfl)
      case h157 => rfl
      refine WA.take 4 rfl qK qK qK rfl rfl qD (Yl.index tab_ok rfl rfl rfl rfl rfl rfl (fun _ => rfl) qA qH) qS qR ?_
      refine' WA.take 5 rfl qK qK qK rfl rfl qD (Yl.load1 tab_ok rfl rfl rfl (fun _ => rfl) ?r158 rfl ?h158) qS qR ?_
      case r158 => (first | (apply RS.rdD; assumption; ((try dsimp only) <;> omega)) | exact Rd.slD 0 rfl qX | exact Rd.slD 1 rfl qX | exact Rd.slD 2 rfl qX | exact Rd.slD 3 rfl qX | exact Rd.slD 4 rfl qX | exact Rd.slD 5 rfl qX | exact Rd.slD 6 rfl qX)
      case h158 => rfl
      refine WA.br2 (i := 7) (j := 17) qK ?_ ?_
      ·
       refine' WS.yl rfl rfl rfl qD (Yl.load1 tab_ok rfl rfl rfl (fun _ => rfl) ?r159 rfl ?h159) qS qR ?_
       case r159 => apply Rd.add; (first | exact Rd.blk 0 rfl | exact Rd.blk 1 rfl | exact Rd.blk 2 rfl | exact Rd.blk 3 rfl | exact Rd.blk 4 rfl | exact Rd.blk 5 rfl | exact Rd.blk 6 rfl)
       case h159 => rfl
       refine WA.take 12 rfl qK qK qK rfl rfl qD (Yl.index tab_ok rfl rfl rfl rfl rfl rfl (fun _ => rfl) qA qH) qS qR ?_
       refine' WA.take 13 rfl qK qK qK rfl rfl qD (Yl.load1 tab_ok rfl rfl rfl (fun _ => rfl) ?r160 rfl ?h160) qS qR ?_
       case r160 => (first | (apply RS.rdD; assumption; ((try dsimp only) <;> omega)) | exact Rd.slD 0 rfl qX | exact Rd.slD 1 rfl qX | exact Rd.slD 2 rfl qX | exact Rd.slD 3 rfl qX | exact Rd.slD 4 rfl qX | exact Rd.slD 5 rfl qX | exact Rd.slD 6 rfl qX)
       case h160 => rfl
       refine tS 14 ?_
       refine WA.callAt 5 17 rfl qK en33 rfl rfl qD (CallOp.mkT rfl rfl rfl rfl) rfl (PickM_C (j := 0) w0 ([0, 0, 1, 3, 4, 8] : List Int) rfl qD qD ha rfl) ?_
       rintro _ _ _ _ - ⟨rfl, rfl, rfl, rfl⟩
       refine ⟨RLe.refl _, qS, ?_⟩
       refine tA 18 ?_
       refine tP 19 ?_
       first | refine WA.effN 20 rfl qK rfl rfl (Ef.store 0 tab_ok rfl rfl rfl rfl rfl rfl rfl rfl ?_) | refine WA.effN 20 rfl qK rfl rfl (Ef.store 1 tab_ok rfl rfl rfl rfl rfl rfl rfl rfl ?_) | refine WA.effN 20 rfl qK rfl rfl (Ef.store 2 tab_ok rfl rfl rfl rfl rfl rfl rfl rfl ?_) | refine WA.effN 20 rfl qK rfl rfl (Ef.store 3 tab_ok rfl rfl rfl rfl rfl rfl rfl rfl ?_) | refine WA.effN 20 rfl qK rfl rfl (Ef.store 4 tab_ok rfl rfl rfl rfl rfl rfl rfl rfl ?_) | refine WA.effN 20 rfl qK rfl rfl (Ef.store 5 tab_ok rfl rfl rfl rfl rfl rfl rfl rfl ?_) | refine WA.effN 20 rfl qK rfl rfl (Ef.store 6 tab_ok rfl rfl rfl rfl rfl rfl rfl rfl ?_)
       refine ⟨qR, qS, ?_⟩
       refine WA.done qK ?_
       refine WE.cut (nth (fvals (upV xs (c + 3) v0) n) ((n : Int) - 1).toNat - nth (fvals (upV xs (c + 3) v0) n) ((n : Int) - (P : Int)).toNat + nth ([0, 0, 1, 3, 4, 8] : List Int) (mod (nth xs (c + 3 + n)) ((6 : Nat) : Int)).toNat) ⟨by omega, by omega, by omega⟩ ⟨rfl, rfl, rfl, rfl⟩ (RLe.refl _) qS
      ·
       refine WS.callAt 5 rfl en33 rfl rfl qD (CallOp.mkT rfl rfl rfl rfl) rfl (PickM_C (j := 0) w0 ([0, 0, 1, 3, 4, 8] : List Int) rfl qD qD ha rfl) ?_
       rintro _ _ _ _ - ⟨rfl, rfl, rfl, rfl⟩
       refine ⟨qR, qS, ?_⟩
       refine' WA.yl 7 rfl qK rfl rfl qD (Yl.load1 tab_ok rfl rfl rfl (fun _ => rfl) ?r161 rfl ?h161) qS qR ?_
       case r161 => apply Rd.add; (first | exact Rd.blk 0 rfl | exact Rd.blk 1 rfl | exact Rd.blk 2 rfl | exact Rd.blk 3 rfl | exact Rd.blk 4 rfl | exact Rd.blk 5 rfl | exact Rd.blk 6 rfl)
       case h161 => rfl
       refine WA.take 12 rfl qK qK qK rfl rfl qD (Yl.index tab_ok rfl rfl rfl rfl rfl rfl (fun _ => rfl) qA qH) qS qR ?_
       refine' WA.take 13 rfl qK qK qK rfl rfl qD (Yl.load1 tab_ok rfl rfl rfl (fun _ => rfl) ?r162 rfl ?h162) qS qR ?_
       case r162 => (first | (apply RS.rdD; assumption; ((try dsimp only) <;> omega)) | exact Rd.slD 0 rfl qX | exact Rd.slD 1 rfl qX | exact Rd.slD 2 rfl qX | exact Rd.slD 3 rfl qX | exact Rd.slD 4 rfl qX | exact Rd.slD 5 rfl qX | exact Rd.slD 6 rfl qX)
       case h162 => rfl
       refine tS 14 ?_
       refine tA 18 ?_
       refine tP 19 ?_
       first | refine WA.effN 20 rfl qK rfl rfl (Ef.store 0 tab_ok rfl rfl rfl rfl rfl rfl rfl rfl ?_) | refine WA.effN 20 rfl qK rfl rfl (Ef.store 1 tab_ok rfl rfl rfl rfl rfl rfl rfl rfl ?_) | refine WA.effN 20 rfl qK rfl rfl (Ef.store 2 tab_ok rfl rfl rfl rfl rfl rfl rfl rfl ?_) | refine WA.effN 20 rfl qK rfl rfl (Ef.store 3 tab_ok rfl rfl rfl rfl rfl rfl rfl rfl ?_) | refine WA.effN 20 rfl qK rfl rfl (Ef.store 4 tab_ok rfl rfl rfl rfl rfl rfl rfl rfl ?_) | refine WA.effN 20 rfl qK rfl rfl (Ef.store 5 tab_ok rfl rfl rfl rfl rfl rfl rfl rfl ?_) | refine WA.effN 20 rfl qK rfl rfl (Ef.store 6 tab_ok rfl rfl rfl rfl rfl rfl rfl rfl ?_)
       refine ⟨qR, qS, ?_⟩
       refine WA.done qK ?_
       refine WE.cut (nth (fvals (upV xs (c + 3) v0) n) ((n : Int) - 1).toNat - nth (fvals (upV xs (c + 3) v0) n) ((n : Int) - (P : Int)).toNat + nth ([0, 0, 1, 3, 4, 8] : List Int) (mod (nth xs (c + 3 + n)) ((6 : Nat) : Int)).toNat) ⟨by omega, by omega, by omega⟩ ⟨rfl, rfl, rfl, rfl⟩ (RLe.refl _) qS
     ·
      refine' WS.yl rfl rfl rfl qD (Yl.load1 tab_ok rfl rfl rfl (fun _ => rfl) ?r163 rfl ?h163) qS qR ?_
      case r163 => apply Rd.add; (first | exact Rd.blk 0 rfl | exact Rd.blk 1 rfl | exact Rd.blk 2 rfl | exact Rd.blk 3 rfl | exact Rd.blk 4 rfl | exact Rd.blk 5 rfl | exact Rd.blk 6 rfl)
      case h163 => rfl
      refine WA.take 12 rfl qK qK qK rfl rfl qD (Yl.index tab_ok rfl rfl rfl rfl rfl rfl (fun _ => rfl) qA qH) qS qR ?_
      refine' WA.take 13 rfl qK qK qK rfl rfl qD (Yl.load1 tab_ok rfl rfl rfl (fun _ => rfl) ?r164 rfl ?h164) qS qR ?_
      case r164 => (first | (apply RS.rdD; assumption; ((try dsimp only) <;> omega)) | exact Rd.slD 0 rfl qX | exact Rd.slD 1 rfl qX | exact Rd.slD 2 rfl qX | exact Rd.slD 3 rfl qX | exact Rd.slD 4 rfl qX | exact Rd.slD 5 rfl qX | exact Rd.slD 6 rfl qX)
      case h164 => rfl
      refine WA.br2 (i := 1) (j := 17) qK ?_ ?_
      ·
       refine' WS.yl rfl rfl rfl qD (Yl.load1 tab_ok rfl rfl rfl (fun _ => rfl) ?r165 rfl ?h165) qS qR ?_
       case r165 => apply Rd.add; (first | exact Rd.blk 0 rfl | exact Rd.blk 1 rfl | exact Rd.blk 2 rfl | exact Rd.blk 3 rfl | exact Rd.blk 4 rfl | exact Rd.blk 5 rfl | exact Rd.blk 6 rfl)
       case h165 => rfl
       refine WA.take 4 rfl qK qK qK rfl rfl qD (Yl.index tab_ok rfl rfl rfl rfl rfl rfl (fun _ => rfl) qA qH) qS qR ?_
       refine' WA.take 5 rfl qK qK qK rfl rfl qD (Yl.load1 tab_ok rfl rfl rfl (fun _ => rfl) ?r166 rfl ?h166) qS qR ?_
       case r166 => (first | (apply RS.rdD; assumption; ((try dsimp only) <;> omega)) | exact Rd.slD 0 rfl qX | exact Rd.slD 1 rfl qX | exact Rd.slD 2 rfl qX | exact Rd.slD 3 rfl qX | exact Rd.slD 4 rfl qX | exact Rd.slD 5 rfl qX | exact Rd.slD 6 rfl qX)
       case h166 => rfl
       refine tS 14 ?_
       refine WA.callAt 5 17 rfl qK en33 rfl rfl qD (CallOp.mkT rfl rfl rfl rfl) rfl (PickM_C (j := 0) w0 ([0, 0, 1, 3, 4, 8] : List Int) rfl qD qD ha rfl) ?_
       rintro _ _ _ _ - ⟨rfl, rfl, rfl, rfl⟩
       refine ⟨RLe.refl _, qS, ?_⟩
       refine tA 18 ?_
       refine tP 19 ?_
       first | refine WA.effN 20 rfl qK rfl rfl (Ef.store 0 tab_ok rfl rfl rfl rfl rfl rfl rfl rfl ?_) | refine WA.effN 20 rfl qK rfl rfl (Ef.store 1 tab_ok rfl rfl rfl rfl rfl rfl rfl rfl ?_) | refine WA.effN 20 rfl qK rfl rfl (Ef.store 2 tab_ok rfl rfl rfl rfl rfl rfl rfl rfl ?_) | refine WA.effN 20 rfl qK rfl rfl (Ef.store 3 tab_ok rfl rfl rfl rfl rfl rfl rfl rfl ?_) | refine WA.effN 20 rfl qK rfl rfl (Ef.store 4 tab_ok rfl rfl rfl rfl rfl rfl rfl rfl ?_) | refine WA.effN 20 rfl qK rfl rfl (Ef.store 5 tab_ok rfl rfl rfl rfl rfl rfl rfl rfl ?_) | refine WA.effN 20 rfl qK rfl rfl (Ef.store 6 tab_ok rfl rfl rfl rfl rfl rfl rfl rfl ?_)
       refine ⟨qR, qS, ?_⟩
       refine WA.done qK ?_
       refine WE.cut (nth (fvals (upV xs (c + 3) v0) n) ((n : Int) - 1).toNat - nth (fvals (upV xs (c + 3) v0) n) ((n : Int) - (P : Int)).toNat + nth ([0, 0, 1, 3, 4, 8] : List Int) (mod (nth xs (c + 3 + n)) ((6 : Nat) : Int)).toNat) ⟨by omega, by omega, by omega⟩ ⟨rfl, rfl, rfl, rfl⟩ (RLe.refl _) qS
      ·
       refine WS.callAt 5 rfl en33 rfl rfl qD (CallOp.mkT rfl rfl rfl rfl) rfl (PickM_C (j := 0) w0 ([0, 0, 1, 3, 4, 8] : List Int) rfl qD qD ha rfl) ?_
       rintro _ _ _ _ - ⟨rfl, rfl, rfl, rfl⟩
       refine ⟨qR, qS, ?_⟩
       refine' WA.yl 1 rfl qK rfl rfl qD (Yl.load1 tab_ok rfl rfl rfl (fun _ => rfl) ?r167 rfl ?h167) qS qR ?_
       case r167 => apply Rd.add; (first | exact Rd.blk 0 rfl | exact Rd.blk 1 rfl | exact Rd.blk 2 rfl | exact Rd.blk 3 rfl | exact Rd.blk 4 rfl | exact Rd.blk 5 rfl | exact Rd.blk 6 rfl)
       case h167 => rfl
       refine WA.take 4 rfl qK qK qK rfl rfl qD (Yl.index tab_ok rfl rfl rfl rfl rfl rfl (fun _ => rfl) qA qH) qS qR ?_
       refine' WA.take 5 rfl qK qK qK rfl rfl qD (Yl.load1 tab_ok rfl rfl rfl (fun _ => rfl) ?r168 rfl ?h168) qS qR ?_
       case r168 => (first | (apply RS.rdD; assumption; ((try dsimp only) <;> omega)) | exact Rd.slD 0 rfl qX | exact Rd.slD 1 rfl qX | exact Rd.slD 2 rfl qX | exact Rd.slD 3 rfl qX | exact Rd.slD 4 rfl qX | exact Rd.slD 5 rfl qX | exact Rd.slD 6 rfl qX)
       case h168 => rfl
       refine tS 14 ?_
       refine tA 18 ?_
       refine tP 19 ?_
       first | refine WA.effN 20 rfl qK rfl rfl (Ef.store 0 tab_ok rfl rfl rfl rfl rfl rfl rfl rfl ?_) | refine WA.effN 20 rfl qK rfl rfl (Ef.store 1 tab_ok rfl rfl rfl rfl rfl rfl rfl rfl ?_) | refine WA.effN 20 rfl qK rfl rfl (Ef.store 2 tab_ok rfl rfl rfl rfl rfl rfl rfl rfl ?_) | refine WA.effN 20 rfl qK rfl rfl (Ef.store 3 tab_ok rfl rfl rfl rfl rfl rfl rfl rfl ?_) | refine WA.effN 20 rfl qK rfl rfl (Ef.store 4 tab_ok rfl rfl rfl rfl rfl rfl rfl rfl ?_) | refine WA.effN 20 rfl qK rfl rfl (Ef.store 5 tab_ok rfl rfl rfl rfl rfl rfl rfl rfl ?_) | refine WA.effN 20 rfl qK rfl rfl (Ef.store 6 tab_ok rfl rfl rfl rfl rfl rfl rfl rfl ?_)
       refine ⟨qR, qS, ?_⟩
       refine WA.done qK ?_
       refine WE.cut (nth (fvals (upV xs (c + 3) v0) n) ((n : Int) - 1).toNat - nth (fvals (upV xs (c + 3) v0) n) ((n : Int) - (P : Int)).toNat + nth ([0, 0, 1, 3, 4, 8] : List Int) (mod (nth xs (c + 3 + n)) ((6 : Nat) : Int)).toNat) ⟨by omega, by omega, by omega⟩ ⟨rfl, rfl, rfl, rfl⟩ (RLe.refl _) qS
     ·
      refine WS.callAt 5 rfl en33 rfl rfl qD (CallOp.mkT rfl rfl rfl rfl) rfl (PickM_C (j := 0) w0 ([0, 0, 1, 3, 4, 8] : List Int) rfl qD qD ha rfl) ?_
      rintro _ _ _ _ - ⟨rfl, rfl, rfl, rfl⟩
      refine ⟨qR, qS, ?_⟩
      refine WA.br2 (i := 1) (j := 7) qK ?_ ?_
      ·
       refine' WS.yl rfl rfl rfl qD (Yl.load1 tab_ok rfl rfl rfl (fun _ => rfl) ?r169 rfl ?h169) qS qR ?_
       case r169 => apply Rd.add; (first | exact Rd.blk 0 rfl | exact Rd.blk 1 rfl | exact Rd.blk 2 rfl | exact Rd.blk 3 rfl | exact Rd.blk 4 rfl | exact Rd.blk 5 rfl | exact Rd.blk 6 rfl)
       case h169 => rfl
       refine WA.take 4 rfl qK qK qK rfl rfl qD (Yl.index tab_ok rfl rfl rfl rfl rfl rfl (fun _ => rfl) qA qH) qS qR ?_
       refine' WA.take 5 rfl qK qK qK rfl rfl qD (Yl.load1 tab_ok rfl rfl rfl (fun _ => rfl) ?r170 rfl ?h170) qS qR ?_
       case r170 => (first | (apply RS.rdD; assumption; ((try dsimp only) <;> omega)) | exact Rd.slD 0 rfl qX | exact Rd.slD 1 rfl qX | exact Rd.slD 2 rfl qX | exact Rd.slD 3 rfl qX | exact Rd.slD 4 rfl qX | exact Rd.slD 5 rfl qX | exact Rd.slD 6 rfl qX)
       case h170 => rfl
       refine' WA.yl 7 rfl qK rfl rfl qD (Yl.load1 tab_ok rfl rfl rfl (fun _ => rfl) ?r171 rfl ?h171) qS qR ?_
       case r171 => apply Rd.add; (first | exact Rd.blk 0 rfl | exact Rd.blk 1 rfl | exact Rd.blk 2 rfl | exact Rd.blk 3 rfl | exact Rd.blk 4 rfl | exact Rd.blk 5 rfl | exact Rd.blk 6 rfl)
       case h171 => rfl
       refine WA.take 12 rfl qK qK qK rfl rfl qD (Yl.index tab_ok rfl rfl rfl rfl rfl rfl (fun _ => rfl) qA qH) qS qR ?_
       refine' WA.take 13 rfl qK qK qK rfl rfl qD (Yl.load1 tab_ok rfl rfl rfl (fun _ => rfl) ?r172 rfl ?h172) qS qR ?_
       case r172 => (first | (apply RS.rdD; assumption; ((try dsimp only) <;> omega)) | exact Rd.slD 0 rfl qX | exact Rd.slD 1 rfl qX | exact Rd.slD 2 rfl qX | exact Rd.slD 3 rfl qX | exact Rd.slD 4 rfl qX | exact Rd.slD 5 rfl qX | exact Rd.slD 6 rfl qX)
       case h172 => rfl
       refine tS 14 ?_
       refine tA 18 ?_
       refine tP 19 ?_
       first | refine WA.effN 20 rfl qK rfl rfl (Ef.store 0 tab_ok rfl rfl rfl rfl rfl rfl rfl rfl ?_) | refine WA.effN 20 rfl qK rfl rfl (Ef.store 1 tab_ok rfl rfl rfl rfl rfl rfl rfl rfl ?_) | refine WA.effN 20 rfl qK rfl rfl (Ef.store 2 tab_ok rfl rfl rfl rfl rfl rfl rfl rfl ?_) | refine WA.effN 20 rfl qK rfl rfl (Ef.store 3 tab_ok rfl rfl rfl rfl rfl rfl rfl rfl ?_) | refine WA.effN 20 rfl qK rfl rfl (Ef.store 4 tab_ok rfl rfl rfl rfl rfl rfl rfl rfl ?_) | refine WA.effN 20 rfl qK rfl rfl (Ef.store 5 tab_ok rfl rfl rfl rfl rfl rfl rfl rfl ?_) | refine WA.effN 20 rfl qK rfl rfl (Ef.store 6 tab_ok rfl rfl rfl rfl rfl rfl rfl rfl ?_)
       refine ⟨qR, qS, ?_⟩
       refine WA.done qK ?_
       refine WE.cut (nth (fvals (upV xs (c + 3) v0) n) ((n : Int) - 1).toNat - nth (fvals (upV xs (c + 3) v0) n) ((n : Int) - (P : Int)).toNat + nth ([0, 0, 1, 3, 4, 8] : List Int) (mod (nth xs (c + 3 + n)) ((6 : Nat) : Int)).toNat) ⟨by omega, by omega, by omega⟩ ⟨rfl, rfl, rfl, rfl⟩ (RLe.refl _) qS
      ·
       refine' WS.yl rfl rfl rfl qD (Yl.load1 tab_ok rfl rfl rfl (fun _ => rfl) ?r173 rfl ?h173) qS qR ?_
       case r173 => apply Rd.add; (first | exact Rd.blk 0 rfl | exact Rd.blk 1 rfl | exact Rd.blk 2 rfl | exact Rd.blk 3 rfl | exact Rd.blk 4 rfl | exact Rd.blk 5 rfl | exact Rd.blk 6 rfl)
       case h173 => rfl
       refine WA.take 12 rfl qK qK qK rfl rfl qD (Yl.index tab_ok rfl rfl rfl rfl rfl rfl (fun _ => rfl) qA qH) qS qR ?_
       refine' WA.take 13 rfl qK qK qK rfl rfl qD (Yl.load1 tab_ok rfl rfl rfl (fun _ => rfl) ?r174 rfl ?h174) qS qR ?_
       case r174 => (first | (apply RS.rdD; assumption; ((try dsimp only) <;> omega)) | exact Rd.slD 0 rfl qX | exact Rd.slD 1 rfl qX | exact Rd.slD 2 rfl qX | exact Rd.slD 3 rfl qX | exact Rd.slD 4 rfl qX | exact Rd.slD 5 rfl qX | exact Rd.slD 6 rfl qX)
       case h174 => rfl
       refine' WA.yl 1 rfl qK rfl rfl qD (Yl.load1 tab_ok rfl rfl rfl (fun _ => rfl) ?r175 rfl ?h175) qS qR ?_
       case r175 => apply Rd.add; (first | exact Rd.blk 0 rfl | exact Rd.blk 1 rfl | exact Rd.blk 2 rfl | exact Rd.blk 3 rfl | exact Rd.blk 4 rfl | exact Rd.blk 5 rfl | exact Rd.blk 6 rfl)
       case h175 => rfl
       refine WA.take 4 rfl qK qK qK rfl rfl qD (Yl.index tab_ok rfl rfl rfl rfl rfl rfl (fun _ => rfl) qA qH) qS qR ?_
       refine' WA.take 5 rfl qK qK qK rfl rfl qD (Yl.load1 tab_ok rfl rfl rfl (fun _ => rfl) ?r176 rfl ?h176) qS qR ?_
       case r176 => (first | (apply RS.rdD; assumption; ((try dsimp only) <;> omega)) | exact Rd.slD 0 rfl qX | exact Rd.slD 1 rfl qX | exact Rd.slD 2 rfl qX | exact Rd.slD 3 rfl qX | exact Rd.slD 4 rfl qX | exact Rd.slD 5 rfl qX | exact Rd.slD 6 rfl qX)
       case h176 => rfl
       refine tS 14 ?_
       refine tA 18 ?_
       refine tP 19 ?_
       first | refine WA.effN 20 rfl qK rfl rfl (Ef.store 0 tab_ok rfl rfl rfl rfl rfl rfl rfl rfl ?_) | refine WA.effN 20 rfl qK rfl rfl (Ef.store 1 tab_ok rfl rfl rfl rfl rfl rfl rfl rfl ?_) | refine WA.effN 20 rfl qK rfl rfl (Ef.store 2 tab_ok rfl rfl rfl rfl rfl rfl rfl rfl ?_) | refine WA.effN 20 rfl qK rfl rfl (Ef.store 3 tab_ok rfl rfl rfl rfl rfl rfl rfl rfl ?_) | refine WA.effN 20 rfl qK rfl rfl (Ef.store 4 tab_ok rfl rfl rfl rfl rfl rfl rfl rfl ?_) | refine WA.effN 20 rfl qK rfl rfl (Ef.store 5 tab_ok rfl rfl rfl rfl rfl rfl rfl rfl ?_) | refine WA.effN 20 rfl qK rfl rfl (Ef.store 6 tab_ok rfl rfl rfl rfl rfl rfl rfl rfl ?_)
       refine ⟨qR, qS, ?_⟩
       refine WA.done qK ?_
       refine WE.cut (nth (fvals (upV xs (c + 3) v0) n) ((n : Int) - 1).toNat - nth (fvals (upV xs (c + 3) v0) n) ((n : Int) - (P : Int)).toNat + nth ([0, 0, 1, 3, 4, 8] : List Int) (mod (nth xs (c + 3 + n)) ((6 : Nat) : Int)).toNat) ⟨by omega, by omega, by omega⟩ ⟨rfl, rfl, rfl, rfl⟩ (RLe.refl _) qS
    ·
     refine WS.callAt 5 rfl en33 rfl rfl qD (CallOp.mkT rfl rfl rfl rfl) rfl (PickM_C (j := 0) w0 ([0, 0, 1, 3, 4, 8] : List Int) rfl qD qD ha rfl) ?_
     rintro _ _ _ _ - ⟨rfl, rfl, rfl, rfl⟩
     refine ⟨qR, qS, ?_⟩
     refine WA.br3 (i := 1) (j := 7) (k := 10) qK ?_ ?_ ?_
     ·
      refine' WS.yl rfl rfl rfl qD (Yl.load1 tab_ok rfl rfl rfl (fun _ => rfl) ?r177 rfl ?h177) qS qR ?_
      case r177 => apply Rd.add; (first | exact Rd.blk 0 rfl | exact Rd.blk 1 rfl | exact Rd.blk 2 rfl | exact Rd.blk 3 rfl | exact Rd.blk 4 rfl | exact Rd.blk 5 rfl | exact Rd.blk 6 rfl)
      case h177 => rfl
      refine WA.take 4 rfl qK qK qK rfl rfl qD (Yl.index tab_ok rfl rfl rfl rfl rfl rfl (fun _ => rfl) qA qH) qS qR ?_
      refine' WA.take 5 rfl qK qK qK rfl rfl qD (Yl.load1 tab_ok rfl rfl rfl (fun _ => rfl) ?r178 rfl ?h178) qS qR ?_
      case r178 => (first | (apply RS.rdD; assumption; ((try dsimp only) <;> omega)) | exact Rd.slD 0 rfl qX | exact Rd.slD 1 rfl qX | exact Rd.slD 2 rfl qX | exact Rd.slD 3 rfl qX | exact Rd.slD 4 rfl qX | exact Rd.slD 5 rfl qX | exact Rd.slD 6 rfl qX)
      case h178 => rfl
      refine WA.br2 (i := 7) (j := 10) qK ?_ ?_
      ·
       refine' WS.yl rfl rfl rfl qD (Yl.load1 tab_ok rfl rfl rfl (fun _ => rfl) ?r179 rfl ?h179) qS qR ?_
       case r179 => apply Rd.add; (first | exact Rd.blk 0 rfl | exact Rd.blk 1 rfl | exact Rd.blk 2 rfl | exact Rd.blk 3 rfl | exact Rd.blk 4 rfl | exact Rd.blk 5 rfl | exact Rd.blk 6 rfl)
       case h179 => rfl
       refine' WA.yl 10 rfl qK rfl rfl qD (Yl.load1 tab_ok rfl rfl rfl (fun _ => rfl) ?r180 rfl ?h180) qS qR ?_
       case r180 => apply Rd.add; (first | exact Rd.blk 0 rfl | exact Rd.blk 1 rfl | exact Rd.blk 2 rfl | exact Rd.blk 3 rfl | exact Rd.blk 4 rfl | exact Rd.blk 5 rfl | exact Rd.blk 6 rfl)
       case h180 => rfl
       refine tS 11 ?_
       refine WA.take 12 rfl qK qK qK rfl rfl qD (Yl.index tab_ok rfl rfl rfl rfl rfl rfl (fun _ => rfl) qA qH) qS qR ?_
       refine' WA.take 13 rfl qK qK qK rfl rfl qD (Yl.load1 tab_ok rfl rfl rfl (fun _ => rfl) ?r181 rfl ?h181) qS qR ?_
       case r181 => (first | (apply RS.rdD; assumption; ((try dsimp only) <;> omega)) | exact Rd.slD 0 rfl qX | exact Rd.slD 1 rfl qX | exact Rd.slD 2 rfl qX | exact Rd.slD 3 rfl qX | exact Rd.slD 4 rfl qX | exact Rd.slD 5 rfl qX | exact Rd.slD 6 rfl qX)
       case h181 => rfl
       refine tS 14 ?_
       refine tA 18 ?_
       refine tP 19 ?_
       first | refine WA.effN 20 rfl qK rfl rfl (Ef.store 0 tab_ok rfl rfl rfl rfl rfl rfl rfl rfl ?_) | refine WA.effN 20 rfl qK rfl rfl (Ef.store 1 tab_ok rfl rfl rfl rfl rfl rfl rfl rfl ?_) | refine WA.effN 20 rfl qK rfl rfl (Ef.store 2 tab_ok rfl rfl rfl rfl rfl rfl rfl rfl ?_) | refine WA.effN 20 rfl qK rfl rfl (Ef.store 3 tab_ok rfl rfl rfl rfl rfl rfl rfl rfl ?_) | refine WA.effN 20 rfl qK rfl rfl (Ef.store 4 tab_ok rfl rfl rfl rfl rfl rfl rfl rfl ?_) | refine WA.effN 20 rfl qK rfl rfl (Ef.store 5 tab_ok rfl rfl rfl rfl rfl rfl rfl rfl ?_) | refine WA.effN 20 rfl qK rfl rfl (Ef.store 6 tab_ok rfl rfl rfl rfl rfl rfl rfl rfl ?_)
       refine ⟨qR, qS, ?_⟩
       refine WA.done qK ?_
       refine WE.cut (nth (fvals (upV xs (c + 3) v0) n) ((n : Int) - 1).toNat - nth (fvals (upV xs (c + 3) v0) n) ((n : Int) - (P : Int)).toNat + nth ([0, 0, 1, 3, 4, 8] : List Int) (mod (nth xs (c + 3 + n)) ((6 : Nat) : Int)).toNat) ⟨by omega, by omega, by omega⟩ ⟨rfl, rfl, rfl, rfl⟩ (RLe.refl _) qS
      ·
       refine' WS.yl rfl rfl rfl qD (Yl.load1 tab_ok rfl rfl rfl (fun _ => rfl) ?r182 rfl ?h182) qS qR ?_
       case r182 => apply Rd.add; (first | exact Rd.blk 0 rfl | exact Rd.blk 1 rfl | exact Rd.blk 2 rfl | exact Rd.blk 3 rfl | exact Rd.blk 4 rfl | exact Rd.blk 5 rfl | exact Rd.blk 6 rfl)
       case h182 => rfl
       refine tS 11 ?_
       refine' WA.yl 7 rfl qK rfl rfl qD (Yl.load1 tab_ok rfl rfl rfl (fun _ => rfl) ?r183 rfl ?h183) qS qR ?_
       case r183 => apply Rd.add; (first | exact Rd.blk 0 rfl | exact Rd.blk 1 rfl | exact Rd.blk 2 rfl | exact Rd.blk 3 rfl | exact Rd.blk 4 rfl | exact Rd.blk 5 rfl | exact Rd.blk 6 rfl)
       case h183 => rfl
       refine WA.take 12 rfl qK qK qK rfl rfl qD (Yl.index tab_ok rfl rfl rfl rfl rfl rfl (fun _ => rfl) qA qH) qS qR ?_
       refine' WA.take 13 rfl qK qK qK rfl rfl qD (Yl.load1 tab_ok rfl rfl rfl (fun _ => rfl) ?r184 rfl ?h184) qS qR ?_
       case r184 => (first | (apply RS.rdD; assumption; ((try dsimp only) <;> omega)) | exact Rd.slD 0 rfl qX | exact Rd.slD 1 rfl qX | exact Rd.slD 2 rfl qX | exact Rd.slD 3 rfl qX | exact Rd.slD 4 rfl qX | exact Rd.slD 5 rfl qX | exact Rd.slD 6 rfl qX)
       case h184 => rfl
       refine tS 14 ?_
       refine tA 18 ?_
       refine tP 19 ?_
       first | refine WA.effN 20 rfl qK rfl rfl (Ef.store 0 tab_ok rfl rfl rfl rfl rfl rfl rfl rfl ?_) | refine WA.effN 20 rfl qK rfl rfl (Ef.store 1 tab_ok rfl rfl rfl rfl rfl rfl rfl rfl ?_) | refine WA.effN 20 rfl qK rfl rfl (Ef.store 2 tab_ok rfl rfl rfl rfl rfl rfl rfl rfl ?_) | refine WA.effN 20 rfl qK rfl rfl (Ef.store 3 tab_ok rfl rfl rfl rfl rfl rfl rfl rfl ?_) | refine WA.effN 20 rfl qK rfl rfl (Ef.store 4 tab_ok rfl rfl rfl rfl rfl rfl rfl rfl ?_) | refine WA.effN 20 rfl qK rfl rfl (Ef.store 5 tab_ok rfl rfl rfl rfl rfl rfl rfl rfl ?_) | refine WA.effN 20 rfl qK rfl rfl (Ef.store 6 tab_ok rfl rfl rfl rfl rfl rfl rfl rfl ?_)
       refine ⟨qR, qS, ?_⟩
       refine WA.done qK ?_
       refine WE.cut (nth (fvals (upV xs (c + 3) v0) n) ((n : Int) - 1).toNat - nth (fvals (upV xs (c + 3) v0) n) ((n : Int) - (P : Int)).toNat + nth ([0, 0, 1, 3, 4, 8] : List Int) (mod (nth xs (c + 3 + n)) ((6 : Nat) : Int)).toNat) ⟨by omega, by omega, by omega⟩ ⟨rfl, rfl, rfl, rfl⟩ (RLe.refl _) qS
     ·
      refine' WS.yl rfl rfl rfl qD (Yl.load1 tab_ok rfl rfl rfl (fun _ => rfl) ?r185 rfl ?h185) qS qR ?_
      case r185 => apply Rd.add; (first | exact Rd.blk 0 rfl | exact Rd.blk 1 rfl | exact Rd.blk 2 rfl | exact Rd.blk 3 rfl | exact Rd.blk 4 rfl | exact Rd.blk 5 rfl | exact Rd.blk 6 rfl)
      case h185 => rfl
      refine WA.br2 (i := 1) (j := 10) qK ?_ ?_
      ·
       refine' WS.yl rfl rfl rfl qD (Yl.load1 tab_ok rfl rfl rfl (fun _ => rfl) ?r186 rfl ?h186) qS qR ?_
       case r186 => apply Rd.add; (first | exact Rd.blk 0 rfl | exact Rd.blk 1 rfl | exact Rd.blk 2 rfl | exact Rd.blk 3 rfl | exact Rd.blk 4 rfl | exact Rd.blk 5 rfl | exact Rd.blk 6 rfl)
       case h186 => rfl
       refine WA.take 4 rfl qK qK qK rfl rfl qD (Yl.index tab_ok rfl rfl rfl rfl rfl rfl (fun _ => rfl) qA qH) qS qR ?_
       refine' WA.take 5 rfl qK qK qK rfl rfl qD (Yl.load1 tab_ok rfl rfl rfl (fun _ => rfl) ?r187 rfl ?h187) qS qR ?_
       case r187 => (first | (apply RS.rdD; assumption; ((try dsimp only) <;> omega)) | exact Rd.slD 0 rfl qX | exact Rd.slD 1 rfl qX | exact Rd.slD 2 rfl qX | exact Rd.slD 3 rfl qX | exact Rd.slD 4 rfl qX | exact Rd.slD 5 rfl qX | exact Rd.slD 6 rfl qX)
       case h187 => rfl
       refine' WA.yl 10 rfl qK rfl rfl qD (Yl.load1 tab_ok rfl rfl rfl (fun _ => rfl) ?r188 rfl ?h188) qS qR ?_
       case r188 => apply Rd.add; (first | exact Rd.blk 0 rfl | exact Rd.blk 1 rfl | exact Rd.blk 2 rfl | exact Rd.blk 3 rfl | exact Rd.blk 4 rfl | exact Rd.blk 5 rfl | exact Rd.blk 6 rfl)
       case h188 => rfl
       refine tS 11 ?_
       refine WA.take 12 rfl qK qK qK rfl rfl qD (Yl.index tab_ok rfl rfl rfl rfl rfl rfl (fun _ => rfl) qA qH) qS qR ?_
       refine' WA.take 13 rfl qK qK qK rfl rfl qD (Yl.load1 tab_ok rfl rfl rfl (fun _ => rfl) ?r189 rfl ?h189) qS qR ?_
       case r189 => (first | (apply RS.rdD; assumption; ((try dsimp only) <;> omega)) | exact Rd.slD 0 rfl qX | exact Rd.slD 1 rfl qX | exact Rd.slD 2 rfl qX | exact Rd.slD 3 rfl qX | exact Rd.slD 4 rfl qX | exact Rd.slD 5 rfl qX | exact Rd.slD 6 rfl qX)
       case h189 => rfl
       refine tS 14 ?_
       refine tA 18 ?_
       refine tP 19 ?_
       first | refine WA.effN 20 rfl qK rfl rfl (Ef.store 0 tab_ok rfl rfl rfl rfl rfl rfl rfl rfl ?_) | refine WA.effN 20 rfl qK rfl rfl (Ef.store 1 tab_ok rfl rfl rfl rfl rfl rfl rfl rfl ?_) | refine WA.effN 20 rfl qK rfl rfl (Ef.store 2 tab_ok rfl rfl rfl rfl rfl rfl rfl rfl ?_) | refine WA.effN 20 rfl qK rfl rfl (Ef.store 3 tab_ok rfl rfl rfl rfl rfl rfl rfl rfl ?_) | refine WA.effN 20 rfl qK rfl rfl (Ef.store 4 tab_ok rfl rfl rfl rfl rfl rfl rfl rfl ?_) | refine WA.effN 20 rfl qK rfl rfl (Ef.store 5 tab_ok rfl rfl rfl rfl rfl rfl rfl rfl ?_) | refine WA.effN 20 rfl qK rfl rfl (Ef.store 6 tab_ok rfl rfl rfl rfl rfl rfl rfl rfl ?_)
       refine ⟨qR, qS, ?_⟩
       refine WA.done qK ?_
       refine WE.cut (nth (fvals (upV xs (c + 3) v0) n) ((n : Int) - 1).toNat - nth (fvals (upV xs (c + 3) v0) n) ((n : Int) - (P : Int)).toNat + nth ([0, 0, 1, 3, 4, 8] : List Int) (mod (nth xs (c + 3 + n)) ((6 : Nat) : Int)).toNat) ⟨by omega, by omega, by omega⟩ ⟨rfl, rfl, rfl, rfl⟩ (RLe.refl _) qS
      ·
       refine' WS.yl rfl rfl rfl qD (Yl.load1 tab_ok rfl rfl rfl (fun _ => rfl) ?r190 rfl ?h190) qS qR ?_
       case r190 => apply Rd.add; (first | exact Rd.blk 0 rfl | exact Rd.blk 1 rfl | exact Rd.blk 2 rfl | exact Rd.blk 3 rfl | exact Rd.blk 4 rfl | exact Rd.blk 5 rfl | exact Rd.blk 6 rfl)
       case h190 => rfl
       refine tS 11 ?_
       refine WA.take 12 rfl qK qK qK rfl rfl qD (Yl.index tab_ok rfl rfl rfl rfl rfl rfl (fun _ => rfl) qA qH) qS qR ?_
       refine' WA.take 13 rfl qK qK qK rfl rfl qD (Yl.load1 tab_ok rfl rfl rfl (fun _ => rfl) ?r191 rfl ?h191) qS qR ?_
       case r191 => (first | (apply RS.rdD; assumption; ((try dsimp only) <;> omega)) | exact Rd.slD 0 rfl qX | exact Rd.slD 1 rfl qX | exact Rd.slD 2 rfl qX | exact Rd.slD 3 rfl qX | exact Rd.slD 4 rfl qX | exact Rd.slD 5 rfl qX | exact Rd.slD 6 rfl qX)
       case h191 => rfl
       refine' WA.yl 1 rfl qK rfl rfl qD (Yl.load1 tab_ok rfl rfl rfl (fun _ => rfl) ?r192 rfl ?h192) qS qR ?_
       case r192 => apply Rd.add; (first | exact Rd.blk 0 rfl | exact Rd.blk 1 rfl | exact Rd.blk 2 rfl | exact Rd.blk 3 rfl | exact Rd.blk 4 rfl | exact Rd.blk 5 rfl | exact Rd.blk 6 rfl)
       case h192 => rfl
       refine WA.take 4 rfl qK qK qK rfl rfl qD (Yl.index tab_ok rfl rfl rfl rfl rfl rfl (fun _ => rfl) qA qH) qS qR ?_
       refine' WA.take 5 rfl qK qK qK rfl rfl qD (Yl.load1 tab_ok rfl rfl rfl (fun _ => rfl) ?r193 rfl ?h193) qS qR ?_
       case r193 => (first | (apply RS.rdD; assumption; ((try dsimp only) <;> omega)) | exact Rd.slD 0 rfl qX | exact Rd.slD 1 rfl qX | exact Rd.slD 2 rfl qX | exact Rd.slD 3 rfl qX | exact Rd.slD 4 rfl qX | exact Rd.slD 5 rfl qX | exact Rd.slD 6 rfl qX)
       case h193 => rfl
       refine tS 14 ?_
       refine tA 18 ?_
       refine tP 19 ?_
       first | refine WA.effN 20 rfl qK rfl rfl (Ef.store 0 tab_ok rfl rfl rfl rfl rfl rfl rfl rfl ?_) | refine WA.effN 20 rfl qK rfl rfl (Ef.store 1 tab_ok rfl rfl rfl rfl rfl rfl rfl rfl ?_) | refine WA.effN 20 rfl qK rfl rfl (Ef.store 2 tab_ok rfl rfl rfl rfl rfl rfl rfl rfl ?_) | refine WA.effN 20 rfl qK rfl rfl (Ef.store 3 tab_ok rfl rfl rfl rfl rfl rfl rfl rfl ?_) | refine WA.effN 20 rfl qK rfl rfl (Ef.store 4 tab_ok rfl rfl rfl rfl rfl rfl rfl rfl ?_) | refine WA.effN 20 rfl qK rfl rfl (Ef.store 5 tab_ok rfl rfl rfl rfl rfl rfl rfl rfl ?_) | refine WA.effN 20 rfl qK rfl rfl (Ef.store 6 tab_ok rfl rfl rfl rfl rfl rfl rfl rfl ?_)
       refine ⟨qR, qS, ?_⟩
       refine WA.done qK ?_
       refine WE.cut (nth (fvals (upV xs (c + 3) v0) n) ((n : Int) - 1).toNat - nth (fvals (upV xs (c + 3) v0) n) ((n : Int) - (P : Int)).toNat + nth ([0, 0, 1, 3, 4, 8] : List Int) (mod (nth xs (c + 3 + n)) ((6 : Nat) : Int)).toNat) ⟨by omega, by omega, by omega⟩ ⟨rfl, rfl, rfl, rfl⟩ (RLe.refl _) qS
     ·
      refine' WS.yl rfl rfl rfl qD (Yl.load1 tab_ok rfl rfl rfl (fun _ => rfl) ?r194 rfl ?h194) qS qR ?_
      case r194 => apply Rd.add; (first | exact Rd.blk 0 rfl | exact Rd.blk 1 rfl | exact Rd.blk 2 rfl | exact Rd.blk 3 rfl | exact Rd.blk 4 rfl | exact Rd.blk 5 rfl | exact Rd.blk 6 rfl)
      case h194 => rfl
      refine tS 11 ?_
      refine WA.br2 (i := 1) (j := 7) qK ?_ ?_
      ·
       refine' WS.yl rfl rfl rfl qD (Yl.load1 tab_ok rfl rfl rfl (fun _ => rfl) ?r195 rfl ?h195) qS qR ?_
       case r195 => apply Rd.add; (first | exact Rd.blk 0 rfl | exact Rd.blk 1 rfl | exact Rd.blk 2 rfl | exact Rd.blk 3 rfl | exact Rd.blk 4 rfl | exact Rd.blk 5 rfl | exact Rd.blk 6 rfl)
       case h195 => rfl
       refine WA.take 4 rfl qK qK qK rfl rfl qD (Yl.index tab_ok rfl rfl rfl rfl rfl rfl (fun _ => rfl) qA qH) qS qR ?_
       refine' WA.take 5 rfl qK qK qK rfl rfl qD (Yl.load1 tab_ok rfl rfl rfl (fun _ => rfl) ?r196 rfl ?h196) qS qR ?_
       case r196 => (first | (apply RS.rdD; assumption; ((try dsimp only) <;> omega)) | exact Rd.slD 0 rfl qX | exact Rd.slD 1 rfl qX | exact Rd.slD 2 rfl qX | exact Rd.slD 3 rfl qX | exact Rd.slD 4 rfl qX | exact Rd.slD 5 rfl qX | exact Rd.slD 6 rfl qX)
       case h196 => rfl
       refine' WA.yl 7 rfl qK rfl rfl qD (Yl.load1 tab_ok rfl rfl rfl (fun _ => rfl) ?r197 rfl ?h197) qS qR ?_
       case r197 => apply Rd.add; (first | exact Rd.blk 0 rfl | exact Rd.blk 1 rfl | exact Rd.blk 2 rfl | exact Rd.blk 3 rfl | exact Rd.blk 4 rfl | exact Rd.blk 5 rfl | exact Rd.blk 6 rfl)
       case h197 => rfl
       refine WA.take 12 rfl qK qK qK rfl rfl qD (Yl.index tab_ok rfl rfl rfl rfl rfl rfl (fun _ => rfl) qA qH) qS qR ?_
       refine' WA.take 13 rfl qK qK qK rfl rfl qD (Yl.load1 tab_ok rfl rfl rfl (fun _ => rfl) ?r198 rfl ?h198) qS qR ?_
       case r198 => (first | (apply RS.rdD; assumption; ((try dsimp only) <;> omega)) | exact Rd.slD 0 rfl qX | exact Rd.slD 1 rfl qX | exact Rd.slD 2 rfl qX | exact Rd.slD 3 rfl qX | exact Rd.slD 4 rfl qX | exact Rd.slD 5 rfl qX | exact Rd.slD 6 rfl qX)
       case h198 => rfl
       refine tS 14 ?_
       refine tA 18 ?_
       refine tP 19 ?_
       first | refine WA.effN 20 rfl qK rfl rfl (Ef.store 0 tab_ok rfl rfl rfl rfl rfl rfl rfl rfl ?_) | refine WA.effN 20 rfl qK rfl rfl (Ef.store 1 tab_ok rfl rfl rfl rfl rfl rfl rfl rfl ?_) | refine WA.effN 20 rfl qK rfl rfl (Ef.store 2 tab_ok rfl rfl rfl rfl rfl rfl rfl rfl ?_) | refine WA.effN 20 rfl qK rfl rfl (Ef.store 3 tab_ok rfl rfl rfl rfl rfl rfl rfl rfl ?_) | refine WA.effN 20 rfl qK rfl rfl (Ef.store 4 tab_ok rfl rfl rfl rfl rfl rfl rfl rfl ?_) | refine WA.effN 20 rfl qK rfl rfl (Ef.store 5 tab_ok rfl rfl rfl rfl rfl rfl rfl rfl ?_) | refine WA.effN 20 rfl qK rfl rfl (Ef.store 6 tab_ok rfl rfl rfl rfl rfl rfl rfl rfl ?_)
       refine ⟨qR, qS, ?_⟩
       refine WA.done qK ?_
       refine WE.cut (nth (fvals (upV xs (c + 3) v0) n) ((n : Int) - 1).toNat - nth (fvals (upV xs (c + 3) v0) n) ((n : Int) - (P : Int)).toNat + nth ([0, 0, 1, 3, 4, 8] : List Int) (mod (nth xs (c + 3 + n)) ((6 : Nat) : Int)).toNat) ⟨by omega, by omega, by omega⟩ ⟨rfl, rfl, rfl, rfl⟩ (RLe.refl _) qS
      ·
       refine' WS.yl rfl rfl rfl qD (Yl.load1 tab_ok rfl rfl rfl (fun _ => rfl) ?r199 rfl ?h199) qS qR ?_
       case r199 => apply Rd.add; (first | exact Rd.blk 0 rfl | exact Rd.blk 1 rfl | exact Rd.blk 2 rfl | exact Rd.blk 3 rfl | exact Rd.blk 4 rfl | exact Rd.blk 5 rfl | exact Rd.blk 6 rfl)
       case h199 => rfl
       refine WA.take 12 rfl qK qK qK rfl rfl qD (Yl.index tab_ok rfl rfl rfl rfl rfl rfl (fun _ => rfl) qA qH) qS qR ?_
       refine' WA.take 13 rfl qK qK qK rfl rfl qD (Yl.load1 tab_ok rfl rfl rfl (fun _ => rfl) ?r200 rfl ?h200) qS qR ?_
       case r200 => (first | (apply RS.rdD; assumption; ((try dsimp only) <;> omega)) | exact Rd.slD 0 rfl qX | exact Rd.slD 1 rfl qX | exact Rd.slD 2 rfl qX | exact Rd.slD 3 rfl qX | exact Rd.slD 4 rfl qX | exact Rd.slD 5 rfl qX | exact Rd.slD 6 rfl qX)
       case h200 => rfl
       refine' WA.yl 1 rfl qK rfl rfl qD (Yl.load1 tab_ok rfl rfl rfl (fun _ => rfl) ?r201 rfl ?h201) qS qR ?_
       case r201 => apply Rd.add; (first | exact Rd.blk 0 rfl | exact Rd.blk 1 rfl | exact Rd.blk 2 rfl | exact Rd.blk 3 rfl | exact Rd.blk 4 rfl | exact Rd.blk 5 rfl | exact Rd.blk 6 rfl)
       case h201 => rfl
       refine WA.take 4 rfl qK qK qK rfl rfl qD (Yl.index tab_ok rfl rfl rfl rfl rfl rfl (fun _ => rfl) qA qH) qS qR ?_
       refine' WA.take 5 rfl qK qK qK rfl rfl qD (Yl.load1 tab_ok rfl rfl rfl (fun _ => rfl) ?r202 rfl ?h202) qS qR ?_
       case r202 => (first | (apply RS.rdD; assumption; ((try dsimp only) <;> omega)) | exact Rd.slD 0 rfl qX | exact Rd.slD 1 rfl qX | exact Rd.slD 2 rfl qX | exact Rd.slD 3 rfl qX | exact Rd.slD 4 rfl qX | exact Rd.slD 5 rfl qX | exact Rd.slD 6 rfl qX)
       case h202 => rfl
       refine tS 14 ?_
       refine tA 18 ?_
       refine tP 19 ?_
       first | refine WA.effN 20 rfl qK rfl rfl (Ef.store 0 tab_ok rfl rfl rfl rfl rfl rfl rfl rfl ?_) | refine WA.effN 20 rfl qK rfl rfl (Ef.store 1 tab_ok rfl rfl rfl rfl rfl rfl rfl rfl ?_) | refine WA.effN 20 rfl qK rfl rfl (Ef.store 2 tab_ok rfl rfl rfl rfl rfl rfl rfl rfl ?_) | refine WA.effN 20 rfl qK rfl rfl (Ef.store 3 tab_ok rfl rfl rfl rfl rfl rfl rfl rfl ?_) | refine WA.effN 20 rfl qK rfl rfl (Ef.store 4 tab_ok rfl rfl rfl rfl rfl rfl rfl rfl ?_) | refine WA.effN 20 rfl qK rfl rfl (Ef.store 5 tab_ok rfl rfl rfl rfl rfl rfl rfl rfl ?_) | refine WA.effN 20 rfl qK rfl rfl (Ef.store 6 tab_ok rfl rfl rfl rfl rfl rfl rfl rfl ?_)
       refine ⟨qR, qS, ?_⟩
       refine WA.done qK ?_
       refine WE.cut (nth (fvals (upV xs (c + 3) v0) n) ((n : Int) - 1).toNat - nth (fvals (upV xs (c + 3) v0) n) ((n : Int) - (P : Int)).toNat + nth ([0, 0, 1, 3, 4, 8] : List Int) (mod (nth xs (c + 3 + n)) ((6 : Nat) : Int)).toNat) ⟨by omega, by omega, by omega⟩ ⟨rfl, rfl, rfl, rfl⟩ (RLe.refl _) qS



theorem SmallK_V {R : Ro} {a : Option Addr} {n fc : Nat} {p q : Int} : FnV Tryd.prog 14 [.agg #[.slice a n fc, .int .i64 p, .int .i64 q]] R (.bool (decide ((n : Int) ≤ 800))) := by
 refine Fn.toV (fun w0 E => ?_)
 refine fE 7 Tryd.func14 ?_
 refine zQ (zG ?_)
 refine zO fun b1 => ?_
 refine zR 1 rfl (zN (zU (zQ (zG (zR 1 rfl ?_)))))
 refine' WG.y rfl rfl qD (Yl.load1 tab_ok rfl rfl rfl (fun _ => rfl) ?r1 rfl ?h1) ?_
 case r1 => apply Rd.add; (first | exact Rd.blk 0 rfl | exact Rd.blk 1 rfl)
 case h1 => rfl
 refine zR 3 rfl (zN (zU (zT ?_)))
 refine sE (E := E) ?_
 refine WE.retF tab_ok [_] rfl ⟨rfl, trivial⟩ (RLe.refl _) ?_
 exact ⟨rfl, rfl⟩

theorem ValidA_V {R : Ro} {a : Option Addr} {c : Nat} {v : List Int} {per inc : Int} (ha : RS R 1 encI a v) : FnV Tryd.prog 31 [.agg #[.slice a v.length c, .int .i64 per, .int .i64 inc]] R (.bool (validB ⟨v, per, inc⟩)) := by
 have hla := ha.len
 refine Fn.toV (fun w0 E => ?_)
 refine fE 118 Tryd.func31 ?_
 refine zQ (zG ?_)
 refine zO fun b1 => ?_
 refine zR 1 rfl (zN (zU (zQ (zG (zR 1 rfl ?_)))))
 refine' WG.y rfl rfl qD (Yl.load1 tab_ok rfl rfl rfl (fun _ => rfl) ?r1 rfl ?h1) ?_
 case r1 => apply Rd.add; (first | exact Rd.blk 0 rfl | exact Rd.blk 1 rfl | exact Rd.blk 2 rfl)
 case h1 => rfl
 refine zR 2 rfl (zN (zU (zQ (zQ (zG (zR 3 rfl ?_))))))
 refine yP ?_
 refine yP ?_
 refine yO ?_
 refine zR 1 rfl ?_
 refine yP ?_
 refine' WG.y rfl rfl qD (Yl.loadG tab_ok rfl rfl rfl qE ?r2 rfl ?h2 ?g2) ?_
 case r2 => apply Rd.addC; (first | exact Rd.blkC 0 rfl | exact Rd.blkC 1 rfl | exact Rd.blkC 2 rfl)
 case h2 => rfl
 case g2 => first | exact fun _ => trivial | (intro hg; (try simp only [zk] at hg); (try dsimp only); omega)
 refine yP ?_
 refine yO ?_
 refine zR 1 rfl ?_
 refine yP ?_
 refine' WG.y rfl rfl qD (Yl.loadG tab_ok rfl rfl rfl qE ?r3 rfl ?h3 ?g3) ?_
 case r3 => apply Rd.addC; (first | exact Rd.blkC 0 rfl | exact Rd.blkC 1 rfl | exact Rd.blkC 2 rfl)
 case h3 => rfl
 case g3 => first | exact fun _ => trivial | (intro hg; (try simp only [zk] at hg); (try dsimp only); omega)
 refine yP ?_
 refine yO ?_
 refine zR 1 rfl ?_
 refine yP ?_
 refine' WG.y rfl rfl qD (Yl.loadG tab_ok rfl rfl rfl qE ?r4 rfl ?h4 ?g4) ?_
 case r4 => apply Rd.addC; (first | exact Rd.blkC 0 rfl | exact Rd.blkC 1 rfl | exact Rd.blkC 2 rfl)
 case h4 => rfl
 case g4 => first | exact fun _ => trivial | (intro hg; (try simp only [zk] at hg); (try dsimp only); omega)
 refine yP ?_
 refine yP ?_
 refine yO ?_
 refine zR 1 rfl ?_
 refine yP ?_
 refine' WG.y rfl rfl qD (Yl.loadG tab_ok rfl rfl rfl qE ?r5 rfl ?h5 ?g5) ?_
 case r5 => apply Rd.addC; (first | exact Rd.blkC 0 rfl | exact Rd.blkC 1 rfl | exact Rd.blkC 2 rfl)
 case h5 => rfl
 case g5 => first | exact fun _ => trivial | (intro hg; (try simp only [zk] at hg); (try dsimp only); omega)
 refine yP ?_
 refine yO ?_
 refine zR 1 rfl ?_
 refine yP ?_
 refine' WG.y rfl rfl qD (Yl.loadG tab_ok rfl rfl rfl qE ?r6 rfl ?h6 ?g6) ?_
 case r6 => apply Rd.addC; (first | exact Rd.blkC 0 rfl | exact Rd.blkC 1 rfl | exact Rd.blkC 2 rfl)
 case h6 => rfl
 case g6 => first | exact fun _ => trivial | (intro hg; (try simp only [zk] at hg); (try dsimp only); omega)
 refine yP ?_
 refine yO ?_
 refine zN (zU ?_)
 refine W.cond rfl (fun hc0 => ?_) (fun hc0 => ?_)
 ·try simp only [zk] at hc0
  have hno : validB ⟨v, per, inc⟩ = false := validB_false (fun h => by obtain ⟨⟨a1, a2, a3, a4, a5, a6, a7⟩, _⟩ := h; dsimp only at a1 a2 a3 a4 a5 a6 a7; unfold MAXV at a7; omega)
  refine zQ (zG (zR 1 rfl (zN (zU (zT (wt ?_))))))
  refine sE (E := E) ?_
  refine WE.retF tab_ok [_] rfl ⟨rfl, trivial⟩ (RLe.refl _) ?_
  exact ⟨by rw [hno]; rfl, rfl⟩
 ·try simp only [zk] at hc0
  have hall : 1 ≤ v.length ∧ v.length ≤ 400 ∧ 1 ≤ per ∧ per ≤ 120 ∧ per ≤ v.length ∧ 0 ≤ inc ∧ inc ≤ MAXV := by unfold MAXV; omega
  refine zK (zU (zQ (zQ (zG (zR 1 rfl (zN (zU (zB ?_))))))))
  refine W.loopK (β := Nat) (fun i => i ≤ v.length ∧ ∀ j, j < i → (nth v j = INF ∨ (0 ≤ nth v j ∧ nth v j ≤ MAXV)) ∧ (j = 0 ∨ nth v (j - 1) ≤ nth v j)) (fun i => [(4, true, .int .i64 (i : Int))]) [1, 3] [_, _] [] _ rfl (fun i => []) (fun i => v.length - i) (0) (⟨Nat.zero_le _, fun j hj => by omega⟩) ⟨rfl, rfl, rfl, rfl⟩ qS ?_
  intro i hst
  dsimp only [zipE, setAll, List.cons_append, List.nil_append, List.set_cons_zero, List.set_cons_succ] at hst ⊢
  
  refine zQ (zQ (zG (zR 3 rfl (zN (zU ?_)))))
  refine W.condD rfl (fun hc1 => ?_) (fun hc1 => ?_)
  ·try dsimp only at hc1
   have hil : i < v.length := by omega
   have e1 : 0 < i → ((i : Int) - 1).toNat = i - 1 := fun _ => by omega
   refine zK (zU (zQ (zB (zQ ?_))))
   refine W.regionQ _ mixed qK ?_
   refine zR 1 rfl ?_
   refine' WG.y rfl rfl qD (Yl.load1 tab_ok rfl rfl rfl (fun _ => rfl) ?r7 rfl ?h7) ?_
   case r7 => apply Rd.add; (first | exact Rd.blk 0 rfl | exact Rd.blk 1 rfl | exact Rd.blk 2 rfl)
   case h7 => rfl
   refine zR 1 rfl ?_
   refine WG.y rfl rfl qD (Yl.indexN tab_ok rfl rfl rfl rfl rfl rfl (fun _ => rfl) qN qH) ?_
   refine' WG.y rfl rfl qD (Yl.load1 tab_ok rfl rfl rfl (fun _ => rfl) ?r8 rfl ?h8) ?_
   case r8 => (first | (apply RS.rdD; assumption; ((try dsimp only) <;> omega)) | exact Rd.slD 0 rfl qX | exact Rd.slD 1 rfl qX | exact Rd.slD 2 rfl qX)
   case h8 => rfl
   refine zR 2 rfl ?_
   refine yP ?_
   refine' WG.y rfl rfl qD (Yl.loadG tab_ok rfl rfl rfl qE ?r9 rfl ?h9 ?g9) ?_
   case r9 => apply Rd.addC; (first | exact Rd.blkC 0 rfl | exact Rd.blkC 1 rfl | exact Rd.blkC 2 rfl)
   case h9 => rfl
   case g9 => first | exact fun _ => trivial | (intro hg; (try simp only [zk] at hg); (try dsimp only); omega)
   refine yP ?_
   refine WG.y rfl rfl (by decide) (Yl.indexN tab_ok rfl rfl rfl rfl rfl rfl qE (by intro hg; (try simp only [zk] at hg); (try dsimp only) <;> omega) (by intro hg; (try simp only [zk] at hg); first | exact qI)) ?_
   refine' WG.y rfl rfl qD (Yl.loadG tab_ok rfl rfl rfl qE ?r10 rfl ?h10 ?g10) ?_
   case r10 => (first | (apply RS.rdC; assumption) | exact Rd.slC 0 rfl | exact Rd.slC 1 rfl | exact Rd.slC 2 rfl)
   case h10 => rfl
   case g10 => first | exact fun _ => trivial | (intro hg; (try simp only [zk] at hg); (try dsimp only); omega)
   refine yP ?_
   refine yP ?_
   refine yP ?_
   refine' WG.y rfl rfl qD (Yl.loadG tab_ok rfl rfl rfl qE ?r11 rfl ?h11 ?g11) ?_
   case r11 => apply Rd.addC; (first | exact Rd.blkC 0 rfl | exact Rd.blkC 1 rfl | exact Rd.blkC 2 rfl)
   case h11 => rfl
   case g11 => first | exact fun _ => trivial | (intro hg; (try simp only [zk] at hg); (try dsimp only); omega)
   refine yP ?_
   refine WG.y rfl rfl (by decide) (Yl.indexN tab_ok rfl rfl rfl rfl rfl rfl qE (by intro hg; (try simp only [zk] at hg); (try dsimp only) <;> omega) (by intro hg; (try simp only [zk] at hg); first | exact qI)) ?_
   refine' WG.y rfl rfl qD (Yl.loadG tab_ok rfl rfl rfl qE ?r12 rfl ?h12 ?g12) ?_
   case r12 => (first | (apply RS.rdC; assumption) | exact Rd.slC 0 rfl | exact Rd.slC 1 rfl | exact Rd.slC 2 rfl)
   case h12 => rfl
   case g12 => first | exact fun _ => trivial | (intro hg; (try simp only [zk] at hg); (try dsimp only); omega)
   refine yP ?_
   refine yO ?_
   refine yN ?_
   refine zR 1 rfl ?_
   refine yP ?_
   refine yP ?_
   refine yP ?_
   refine yP ?_
   refine' WG.y rfl rfl qD (Yl.loadG tab_ok rfl rfl rfl qE ?r13 rfl ?h13 ?g13) ?_
   case r13 => apply Rd.addC; (first | exact Rd.blkC 0 rfl | exact Rd.blkC 1 rfl | exact Rd.blkC 2 rfl)
   case h13 => rfl
   case g13 => first | exact fun _ => trivial | (intro hg; (try simp only [zk] at hg); (try dsimp only); omega)
   refine yP ?_
   refine WG.y rfl rfl (by decide) (Yl.indexN tab_ok rfl rfl rfl rfl rfl rfl qE (by intro hg; (try simp only [zk] at hg); (try dsimp only) <;> omega) (by intro hg; (try simp only [zk] at hg); first | exact qI)) ?_
   refine' WG.y rfl rfl qD (Yl.loadG tab_ok rfl rfl rfl qE ?r14 rfl ?h14 ?g14) ?_
   case r14 => (first | (apply RS.rdC; assumption) | exact Rd.slC 0 rfl | exact Rd.slC 1 rfl | exact Rd.slC 2 rfl)
   case h14 => rfl
   case g14 => first | exact fun _ => trivial | (intro hg; (try simp only [zk] at hg); (try dsimp only); omega)
   refine yP ?_
   refine' WG.y rfl rfl qD (Yl.loadG tab_ok rfl rfl rfl qE ?r15 rfl ?h15 ?g15) ?_
   case r15 => apply Rd.addC; (first | exact Rd.blkC 0 rfl | exact Rd.blkC 1 rfl | exact Rd.blkC 2 rfl)
   case h15 => rfl
   case g15 => first | exact fun _ => trivial | (intro hg; (try simp only [zk] at hg); (try dsimp only); omega)
   refine yP ?_
   refine WG.y rfl rfl (by decide) (Yl.sub rfl rfl rfl qE (by intro hg; (try simp only [zk] at hg); constructor <;> (try dsimp only) <;> omega)) ?_
   refine WG.y rfl rfl (by decide) (Yl.index tab_ok rfl rfl rfl rfl rfl rfl qE (by intro hg; (try simp only [zk] at hg); constructor <;> (try dsimp only) <;> omega) (by intro hg; (try simp only [zk] at hg); first | exact qI)) ?_
   refine' WG.y rfl rfl qD (Yl.loadG tab_ok rfl rfl rfl qE ?r16 rfl ?h16 ?g16) ?_
   case r16 => (first | (apply RS.rdC; assumption) | exact Rd.slC 0 rfl | exact Rd.slC 1 rfl | exact Rd.slC 2 rfl)
   case h16 => rfl
   case g16 => first | exact fun _ => trivial | (intro hg; (try simp only [zk] at hg); (try dsimp only); omega)
   refine yP ?_
   refine yN ?_
   refine yO ?_
   refine zN (zU ?_)
   refine W.cond rfl (fun hc2 => ?_) (fun hc2 => ?_)
   ·try simp only [zk] at hc2
    have hno : validB ⟨v, per, inc⟩ = false := validB_false (fun h => by
     obtain ⟨_, h2, _⟩ := h
     have h2 := h2 i hil
     dsimp only at h2
     unfold INF MAXV at h2
     rcases hc2 with ⟨x1, x2⟩ | ⟨x1, x2⟩
     ·omega
     ·rw [e1 (by omega)] at x2; omega)
    refine zQ (zG (zR 1 rfl (zN (zU (zT (wb (wt (wt (wb (wt ?_))))))))))
    refine sE (E := E) ?_
    refine WE.retF tab_ok [_] rfl ⟨rfl, trivial⟩ (RLe.refl _) ?_
    exact ⟨by rw [hno]; rfl, rfl⟩
   ·try simp only [zk] at hc2
    have hy : (nth v i = INF ∨ (0 ≤ nth v i ∧ nth v i ≤ MAXV)) ∧ (i = 0 ∨ nth v (i - 1) ≤ nth v i) := by
     obtain ⟨x1, x2⟩ := hc2
     unfold INF MAXV
     refine ⟨by omega, ?_⟩
     by_cases h : i = 0
     ·exact .inl h
     ·have := x2 (by omega)
      rw [e1 (by omega)] at this
      right; omega
    refine zK (zL (zU (zG (zR 1 rfl ?_))))
    refine yA ?_
    refine zR 1 rfl (zN ?_)
    refine WE.again (i + 1) (⟨by omega, fun j hj => by
     by_cases e : j = i
     ·subst e; exact hy
     ·exact hst.2 j (by omega)⟩) (by (try dsimp only); omega) ⟨rfl, rfl, rfl, rfl⟩ (RLe.refl _) qS
  ·try dsimp only at hc1
   obtain rfl : i = v.length := by omega
   have hvn : ∀ j, j < v.length → 0 ≤ nth v j ∧ nth v j ≤ 4611686018427387904 := fun j hj => by
    have := (hst.2 j hj).1
    unfold INF MAXV at this
    omega
   have e2 : ((v.length : Int) - 1).toNat = v.length - 1 := by omega
   have e3 : ((v.length : Int) - per).toNat = v.length - per.toNat := by omega
   have hx1 := hvn (((v.length : Int) - 1).toNat) (by omega)
   have hx2 := hvn (((v.length : Int) - per).toNat) (by omega)
   have hx2b : nth v ((v.length : Int) - 1).toNat ≠ 4611686018427387904 → nth v ((v.length : Int) - per).toNat + inc ≤ 4611686018427387904 + 1073741824 := fun _ => by unfold MAXV at hall; omega
   refine zX ?_
   refine wx (wx (zY (zU (zQ (zQ (zG (zR 1 rfl ?_)))))))
   refine' WG.y rfl rfl qD (Yl.load1 tab_ok rfl rfl rfl (fun _ => rfl) ?r17 rfl ?h17) ?_
   case r17 => apply Rd.add; (first | exact Rd.blk 0 rfl | exact Rd.blk 1 rfl | exact Rd.blk 2 rfl)
   case h17 => rfl
   refine zR 1 rfl ?_
   refine yS ?_
   refine WG.y rfl rfl qD (Yl.index tab_ok rfl rfl rfl rfl rfl rfl (fun _ => rfl) qA qH) ?_
   refine' WG.y rfl rfl qD (Yl.load1 tab_ok rfl rfl rfl (fun _ => rfl) ?r18 rfl ?h18) ?_
   case r18 => exact RS.rdD ha qO
   case h18 => rfl
   refine zR 1 rfl (zN (zU ?_))
   refine W.condE rfl (fun hc3 => ?_) (fun hc3 => ?_)
   ·try dsimp only at hc3
    have hif : (if nth v (v.length - 1) = INF then per = 1 ∧ inc = 0 else nth v (v.length - 1) ≤ nth v (v.length - per.toNat) + inc) ↔ (per = 1 ∧ inc = 0) := by rw [if_pos (by rw [← e2]; exact hc3)]
    refine zQ (zG (zR 1 rfl ?_))
    refine' WG.y rfl rfl qD (Yl.load1 tab_ok rfl rfl rfl (fun _ => rfl) ?r19 rfl ?h19) ?_
    case r19 => apply Rd.add; (first | exact Rd.blk 0 rfl | exact Rd.blk 1 rfl | exact Rd.blk 2 rfl)
    case h19 => rfl
    refine zR 2 rfl ?_
    refine yP ?_
    refine' WG.y rfl rfl qD (Yl.loadG tab_ok rfl rfl rfl qE ?r20 rfl ?h20 ?g20) ?_
    case r20 => apply Rd.addC; (first | exact Rd.blkC 0 rfl | exact Rd.blkC 1 rfl | exact Rd.blkC 2 rfl)
    case h20 => rfl
    case g20 => first | exact fun _ => trivial | (intro hg; (try simp only [zk] at hg); (try dsimp only); omega)
    refine yP ?_
    refine yN ?_
    refine zR 1 rfl (zN (zU (zT (wt ?_))))
    refine sE (E := E) ?_
    refine WE.retF tab_ok [_] rfl ⟨rfl, trivial⟩ (RLe.refl _) ?_
    refine ⟨congrArg Value.bool ?_, rfl⟩
    rw [Bool.eq_iff_iff, validB_iff]
    dsimp only
    rw [hif]
    simp only [Bool.and_eq_true, beq_iff_eq]
    exact ⟨fun h => ⟨hall, fun j hj => hst.2 j hj, h⟩, fun h => h.2.2⟩
   ·try dsimp only at hc3
    have hif : (if nth v (v.length - 1) = INF then per = 1 ∧ inc = 0 else nth v (v.length - 1) ≤ nth v (v.length - per.toNat) + inc) ↔ (nth v (v.length - 1) ≤ nth v (v.length - per.toNat) + inc) := by rw [if_neg (by rw [← e2]; exact hc3)]
    refine zK (zU (zQ ?_))
    refine W.regionQ _ mixed qK ?_
    refine zR 1 rfl ?_
    refine' WG.y rfl rfl qD (Yl.load1 tab_ok rfl rfl rfl (fun _ => rfl) ?r21 rfl ?h21) ?_
    case r21 => apply Rd.add; (first | exact Rd.blk 0 rfl | exact Rd.blk 1 rfl | exact Rd.blk 2 rfl)
    case h21 => rfl
    refine zR 2 rfl ?_
    refine' WG.y rfl rfl qD (Yl.load1 tab_ok rfl rfl rfl (fun _ => rfl) ?r22 rfl ?h22) ?_
    case r22 => apply Rd.add; (first | exact Rd.blk 0 rfl | exact Rd.blk 1 rfl | exact Rd.blk 2 rfl)
    case h22 => rfl
    refine yS ?_
    refine WG.y rfl rfl qD (Yl.index tab_ok rfl rfl rfl rfl rfl rfl (fun _ => rfl) qA qH) ?_
    refine' WG.y rfl rfl qD (Yl.load1 tab_ok rfl rfl rfl (fun _ => rfl) ?r23 rfl ?h23) ?_
    case r23 => exact RS.rdD ha qO
    case h23 => rfl
    refine zR 1 rfl ?_
    refine' WG.y rfl rfl qD (Yl.load1 tab_ok rfl rfl rfl (fun _ => rfl) ?r24 rfl ?h24) ?_
    case r24 => apply Rd.add; (first | exact Rd.blk 0 rfl | exact Rd.blk 1 rfl | exact Rd.blk 2 rfl)
    case h24 => rfl
    refine yA ?_
    refine zR 1 rfl ?_
    refine' WG.y rfl rfl qD (Yl.load1 tab_ok rfl rfl rfl (fun _ => rfl) ?r25 rfl ?h25) ?_
    case r25 => apply Rd.add; (first | exact Rd.blk 0 rfl | exact Rd.blk 1 rfl | exact Rd.blk 2 rfl)
    case h25 => rfl
    refine zR 1 rfl ?_
    refine yS ?_
    refine WG.y rfl rfl qD (Yl.index tab_ok rfl rfl rfl rfl rfl rfl (fun _ => rfl) qA qH) ?_
    refine' WG.y rfl rfl qD (Yl.load1 tab_ok rfl rfl rfl (fun _ => rfl) ?r26 rfl ?h26) ?_
    case r26 => exact RS.rdD ha qO
    case h26 => rfl
    refine zR 2 rfl (zN (zU (zT ?_)))
    refine sE (E := E) ?_
    refine WE.retF tab_ok [_] rfl ⟨rfl, trivial⟩ (RLe.refl _) ?_
    refine ⟨congrArg Value.bool ?_, rfl⟩
    rw [Bool.eq_iff_iff, validB_iff]
    dsimp only
    rw [hif, e2, e3]
    simp only [decide_eq_true_eq]
    exact ⟨fun h => ⟨hall, fun j hj => hst.2 j hj, h⟩, fun h => h.2.2⟩

end Go.Proofs.YtejpkjapmhpmpaaDoor
