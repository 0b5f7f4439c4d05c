/- Rules and walks, joined from 23 texts: the first of them says: A small curve that a statement makes. No condition. -/
import Derived.Test.YthpblaoehlgpfaaGreatG4
import Derived.WideMake
/- A small curve that a statement makes. No condition. -/
set_option maxRecDepth 4000
set_option linter.unusedSimpArgs false
set_option linter.unusedVariables false
namespace Go.Proofs.YthpblaoehlgpfaaGreat
open Go Go.RowKit Go.Proofs.YthpblaoehlgpfaaGreat.K Go.Proofs.YthpblaoehlgpfaaGreat.M

set_option maxHeartbeats 4000000 in
theorem KCurve_C {R : Ro} {b : Nat} {a : Option Addr} {cp : Nat} {xs : List Int} {c : Nat} (w0 : World) (ha : RS R 1 encI a xs) {most : Nat} (hmo : 1 ≤ most ∧ most ≤ 20) : FnAt Tryz.prog 55 [.pointer (some ⟨b, 0, none⟩), .int .i64 (most : Int)] w0 R (srcE b a cp xs c) (fun v R' e' N => ∃ (f : Option Addr) (fc cn : Nat) (cv : Cv), v = .agg #[.slice f cv.vals.length fc, .int .i64 cv.per, .int .i64 cv.inc] ∧ RS R' 1 encI f cv.vals ∧ SmallC cv ∧ cv.vals.length ≤ fc ∧ e' = srcE b a cp xs cn ∧ N = []) := by
 intro F
 have hm0 := mod_range (nth xs c) (show (1 : Int) ≤ (most : Int) by omega)
 obtain ⟨n, hn⟩ := Int.eq_ofNat_of_zero_le (show 0 ≤ 1 + mod (nth xs c) (most : Int) by omega)
 have hn20 : 1 ≤ n ∧ n ≤ 20 := by omega
 refine fE 77 Tryz.func55 ?_
 refine zQ (zG ?_)
 refine zA fun b4 => ?_
 refine zN (zU (zQ (zG (zR 2 rfl ?_))))
 refine WL.callAt 1 en23 rfl rfl qD (CallOp.mkT rfl rfl rfl rfl) rfl (N_C w0 ha (by constructor <;> omega) _) ?_
 rintro _ _ _ _ - ⟨rfl, rfl, rfl, rfl⟩
 refine yA ?_
 rw [hn]
 refine zR 1 rfl (zN (zU (zQ (zG (zR 3 rfl ?_)))))
 refine WL.callAt 1 en23 rfl rfl qD (CallOp.mkT rfl rfl rfl rfl) rfl (N_C w0 ha (by constructor <;> split <;> omega) _) ?_
 rintro _ _ _ _ - ⟨rfl, rfl, rfl, rfl⟩
 have hm1 := mod_range (nth xs (c + 1)) (show (1 : Int) ≤ (if (4 : Int) < (n : Int) then 4 else (n : Int)) by split <;> omega)
 obtain ⟨P, hP⟩ := Int.eq_ofNat_of_zero_le (show 0 ≤ 1 + mod (nth xs (c + 1)) (if (4 : Int) < (n : Int) then 4 else (n : Int)) by omega)
 have hP4 : 1 ≤ P ∧ P ≤ 4 ∧ P ≤ n := by generalize mod (nth xs (c + 1)) (if (4 : Int) < (n : Int) then 4 else (n : Int)) = q at hm1 hP; split at hm1 <;> omega
 refine yA ?_
 rw [hP]
 -- build
 refine WG.y rfl rfl qD (Yl.build (parts := [(1, .tmp 17)]) tab_ok rfl rfl rfl rfl (fun _ => rfl) rfl rfl) ?_
 refine zA fun b6 => ?_
 refine zE 0 ?_
 refine zN (zU (zQ (zG (zR 1 rfl ?_))))
 refine WL.ef rfl rfl qD (Ef.buildSliceD (enc := encI) (parts := [.const (.int .i64 0), .const (.int .i64 0), .const (.int .i64 0), .const (.int .i64 3)]) [_, _, _, _] tab_ok rfl rfl rfl rfl rfl rfl rfl rfl qD qD (fun a20 => ?_))
 refine WL.callAt 3 en32 rfl rfl qD (CallOp.mkT rfl rfl rfl rfl) rfl (PickM_C (j := 0) w0 ([0, 0, 0, 3] : List Int) rfl qD qD ha rfl) ?_
 rintro _ _ _ _ - ⟨rfl, rfl, rfl, rfl⟩
 obtain ⟨v0, hv0⟩ : ∃ v, nth ([0, 0, 0, 3] : List Int) (mod (nth xs (c + 1 + 1)) ((4 : Nat) : Int)).toNat = v := ⟨_, rfl⟩
 have hv03 : 0 ≤ v0 ∧ v0 ≤ 3 := by
  have hm2 := mod_range (nth xs (c + 1 + 1)) (show (1 : Int) ≤ ((4 : Nat) : Int) by decide)
  rw [← hv0]
  exact nth_in (by decide) (by simp only [List.length_cons, List.length_nil]; omega)
 rw [hv0]
 refine zR 1 rfl (zN (zU (zQ ?_)))
 refine W.nil 3 1 qD ?_
 refine zQ (zG (zR 1 rfl (zN (zU (zB ?_)))))
 refine W.loopK (β := Nat × Option Addr × Nat) (fun (i, a8, c8) => i ≤ n) (fun (i, a8, c8) => [(7, true, .int .i64 ((upV xs (c + 3) v0) i)), (8, true, .int .i64 (i : Int))]) [0, 4, 5, 6] [_, _, _, _] [] _ rfl (fun (i, a8, c8) => [(0, .sl 3 1 a8 c8 ((fvals (upV xs (c + 3) v0) i).map encI)), (2, .blk b6 [.slice a8 (fvals (upV xs (c + 3) v0) i).length c8, .int .i64 (P : Int), .int .i64 0]), (4, srcE b a cp xs (c + 3 + i))]) (fun (i, a8, c8) => n - i) ((0, none, 0)) (Nat.zero_le _) ⟨rfl, rfl, rfl, rfl, rfl, rfl, rfl⟩ qS ?_
 intro st hst
 obtain ⟨i, a8, c8⟩ := st
 dsimp only [zipE, setAll, List.cons_append, List.nil_append, List.set_cons_zero, List.set_cons_succ] at hst ⊢
 have hUb := upV_bound xs (c + 3) v0 i
 have hUl := fvals_len (upV xs (c + 3) v0) i
 refine zQ (zQ (zG (zR 3 rfl (zN (zU ?_)))))
 refine W.condD rfl (fun hc0 => ?_) (fun hc0 => ?_)
 ·try dsimp only at hc0
  have hil : i < n := by omega
  have hpk : 0 ≤ nth ([0, 0, 1, 2, 5, 9] : List Int) (mod (nth xs (c + 3 + i)) ((6 : Nat) : Int)).toNat ∧ nth ([0, 0, 1, 2, 5, 9] : List Int) (mod (nth xs (c + 3 + i)) ((6 : Nat) : Int)).toNat ≤ 9 := by
   have hm2 := mod_range (nth xs (c + 3 + i)) (show (1 : Int) ≤ ((6 : Nat) : Int) by decide)
   exact nth_in (by decide) (by simp only [List.length_cons, List.length_nil]; omega)
  refine zK (zU (zQ (zB (zQ (zG (zR 1 rfl ?_))))))
  refine yL (Rd.add (Rd.blk 2 rfl) _) ?_
  refine zR 1 rfl ?_
  refine WL.ef rfl rfl qD (Ef.buildSliceD (enc := encI) (parts := [.tmp 29]) [_] tab_ok rfl rfl rfl rfl rfl rfl rfl rfl qD qD (fun a30 => ?_))
  refine WL.ef rfl rfl (by decide) (Ef.appendD 1 0 tab_ok rfl rfl rfl rfl rfl rfl rfl rfl rfl rfl rfl (fun _ _ => rfl) (by simp only [List.length_cons, List.length_nil]; omega) (by simp only [List.length_cons, List.length_nil]; omega) (fun a31 c31 ha31 => ?_))
  refine zR 1 rfl ?_
  refine zF 3 ?_
  refine zN (zU (zG (zR 2 rfl ?_)))
  refine WL.ef rfl rfl qD (Ef.buildSliceD (enc := encI) (parts := [.const (.int .i64 0), .const (.int .i64 0), .const (.int .i64 1), .const (.int .i64 2), .const (.int .i64 5), .const (.int .i64 9)]) [_, _, _, _, _, _] tab_ok rfl rfl rfl rfl rfl rfl rfl rfl qD qD (fun a35 => ?_))
  refine WL.callAt 6 en32 rfl rfl qD (CallOp.mkT rfl rfl rfl rfl) rfl (PickM_C (j := 0) w0 ([0, 0, 1, 2, 5, 9] : List Int) rfl qD qD ha rfl) ?_
  rintro _ _ _ _ - ⟨rfl, rfl, rfl, rfl⟩
  refine yA ?_
  refine zR 1 rfl (zN (zL (zU (zG (zR 1 rfl ?_)))))
  refine yA ?_
  refine zR 1 rfl (zN ?_)
  refine WE.again ((i + 1, a31, c31)) (by dsimp only; omega) (by (try dsimp only); omega) ⟨rfl, rfl, rfl, rfl, rfl, rfl, rfl⟩ (RLe.refl _) (by dsimp only [setAll, List.set_cons_zero, List.set_cons_succ]; rw [fvals_snoc, List.length_append]; exact qS)
 ·try dsimp only at hc0
  obtain hin : i = n := by omega
  rw [hin] at hUb hUl ⊢
  have hVl : (fvals (upV xs (c + 3) v0) n).length = n := hUl
  have hx1 : nth (fvals (upV xs (c + 3) v0) n) ((n : Int) - 1).toNat = (upV xs (c + 3) v0) (n - 1) := by rw [show ((n : Int) - 1).toNat = n - 1 by omega, fvals_nth _ (by omega)]
  have hx2 : nth (fvals (upV xs (c + 3) v0) n) ((n : Int) - (P : Int)).toNat = (upV xs (c + 3) v0) (n - P) := by rw [show ((n : Int) - (P : Int)).toNat = n - P by omega, fvals_nth _ (by omega)]
  have hgap := upV_gap xs (c + 3) v0 (n - P) (P - 1)
  rw [show n - P + (P - 1) = n - 1 by omega] at hgap
  have hmo2 := upV_mono xs (c + 3) v0 (show n - P ≤ n - 1 by omega)
  have hb1 := upV_bound xs (c + 3) v0 (n - 1)
  have hb2 := upV_bound xs (c + 3) v0 (n - P)
  have hpi : 0 ≤ nth ([0, 0, 1, 3, 4, 8] : List Int) (mod (nth xs (c + 3 + n)) ((6 : Nat) : Int)).toNat ∧ nth ([0, 0, 1, 3, 4, 8] : List Int) (mod (nth xs (c + 3 + n)) ((6 : Nat) : Int)).toNat ≤ 8 := by
   have hm2 := mod_range (nth xs (c + 3 + n)) (show (1 : Int) ≤ ((6 : Nat) : Int) by decide)
   exact nth_in (by decide) (by simp only [List.length_cons, List.length_nil]; omega)
  refine zX ?_
  refine wx (wx (zY (zU ?_)))
  refine W.seqCut (β := Int) (fun I => 0 ≤ I ∧ (upV xs (c + 3) v0) (n - 1) - (upV xs (c + 3) v0) (n - P) ≤ I ∧ I ≤ 50) (fun I => [(0, true, .pointer (some ⟨b, 0, none⟩)), (4, true, .pointer (some ⟨b4, 0, none⟩)), (6, true, .pointer (some ⟨b6, 0, none⟩))]) (fun _ => R) (fun I => .sl 3 1 a8 c8 ((fvals (upV xs (c + 3) v0) n).map encI) :: .blk b6 [.slice a8 (fvals (upV xs (c + 3) v0) n).length c8, .int .i64 (P : Int), .int .i64 I] :: .blk b4 [.slice none 0 0, .int .i64 0, .int .i64 0] :: srcE b a cp xs (c + 3 + n + 1) :: F) ?_ ?_
  ·
   intro I hst
   obtain ⟨hI0, hI1, hI2⟩ := hst
   refine zQ (zQ (zG (zR 1 rfl ?_)))
   refine WL.callAt 3 en23 rfl rfl qD (CallOp.mkT rfl rfl rfl rfl) rfl (N_C w0 ha (by constructor <;> omega) _) ?_
   rintro _ _ _ _ - ⟨rfl, rfl, rfl, rfl⟩
   refine zN (zU (zB (zQ (zG (zR 2 rfl (zN (zU ?_)))))))
   refine W.condE rfl (fun hc1 => ?_) (fun hc1 => ?_)
   ·try dsimp only at hc1
    refine zG (zR 1 rfl ?_)
    refine yL (Rd.add (Rd.blk 1 rfl) _) ?_
    refine WL.ef rfl rfl qD (Ef.buildSliceD (enc := encI) (parts := [.const (.int .i64 4611686018427387904)]) [_] tab_ok rfl rfl rfl rfl rfl rfl rfl rfl qD qD (fun a64 => ?_))
    refine WL.ef rfl rfl (by decide) (Ef.appendD 1 0 tab_ok rfl rfl rfl rfl rfl rfl rfl rfl rfl rfl rfl (fun _ _ => rfl) (by simp only [List.length_cons, List.length_nil]; omega) (by simp only [List.length_cons, List.length_nil]; omega) (fun a65 c65 ha65 => ?_))
    -- build
    refine WG.y rfl rfl qD (Yl.build (parts := [(0, .tmp 65), (1, .const (.int .i64 1))]) tab_ok rfl rfl rfl rfl (fun _ => rfl) rfl rfl) ?_
    refine zE 2 ?_
    refine WL.cap 1 rfl ?_
    intro hcp
    rw [List.length_map] at hcp
    refine WL.freeze (enc := encI) (xs := (fvals (upV xs (c + 3) v0) n) ++ [4611686018427387904]) 1 rfl ?_
    intro R1 hR1 hfz
    have hsm := small_inf (F := (upV xs (c + 3) v0)) (n := n) (by omega) (by have := upV_bound xs (c + 3) v0 0; omega) (fun t => (upV_step xs (c + 3) v0 t).1) (fun t ht => by have := upV_bound xs (c + 3) v0 t; omega)
    refine zN (zL (zU (zQ (zG ?_))))
    refine yL (Rd.blk 1 rfl) ?_
    refine zE 2 ?_
    refine zN (zU (zT ?_))
    refine WE.retFS (E' := srcE b a cp xs (c + 3 + n + 1 + 1) :: F) qS tab_ok [_] rfl ⟨⟨_, _, _, rfl, rfl, rfl, qB, rfl⟩, trivial⟩ ((by first | exact hR1 | exact hR1.trans hRL)) ?_
    exact ⟨_, [], rfl, _, _, _, ⟨(fvals (upV xs (c + 3) v0) n) ++ [4611686018427387904], 1, 0⟩, rfl, hfz, hsm, hcp, rfl, rfl⟩
   ·try dsimp only at hc1
    refine zQ (zG (zR 2 rfl (zN (zU ?_))))
    refine W.condE rfl (fun hc2 => ?_) (fun hc2 => ?_)
    ·try dsimp only at hc2
     refine W.cap 0 rfl ?_
     intro hcp
     rw [List.length_map] at hcp
     refine W.freeze (enc := encI) (xs := (fvals (upV xs (c + 3) v0) n)) 0 rfl ?_
     intro R1 hR1 hfz
     have hsm := small_fin (F := (upV xs (c + 3) v0)) (n := n) (P := (P : Int)) (I := I) hn20 (by omega) (by omega) (by have := upV_bound xs (c + 3) v0 0; omega) (fun t => (upV_step xs (c + 3) v0 t).1) (fun t ht => by have := upV_bound xs (c + 3) v0 t; omega) (by rw [Int.toNat_natCast]; omega)
     have ha1 := ha.mono hR1
     have hmm1 := mod_range (nth xs (c + 3 + n + 1 + 1)) (show (1 : Int) ≤ 4 by decide)
     have hmm2 := mod_range (nth xs (c + 3 + n + 1 + 1 + 1)) (show (1 : Int) ≤ 2 by decide)
     have hfb : finB (⟨(fvals (upV xs (c + 3) v0) n), (P : Int), I⟩ : Cv) = true := by
      unfold finB
      have := upV_bound xs (c + 3) v0 (n - 1)
      dsimp only
      rw [fvals_len, fvals_nth _ (by omega), bne_iff_ne]
      unfold INF; omega
     have hv200 : ∀ x ∈ (⟨(fvals (upV xs (c + 3) v0) n), (P : Int), I⟩ : Cv).vals, x ≤ 200 := all_of_nth (fun j hj => by
      have hj2 : j < n := by rw [hVl] at hj; exact hj
      have := upV_bound xs (c + 3) v0 j
      show nth (fvals (upV xs (c + 3) v0) n) j ≤ 200
      rw [fvals_nth _ hj2]; omega)
     refine W.regionH _ (ES := []) mixed ?_
     refine tP 1 ?_
     refine tP 3 ?_
     refine WA.br2 (i := 0) (j := 2) qK ?_ ?_
     ·
      refine sL (Rd.blk 0 rfl) ?_
      refine WA.callAt 2 2 rfl qK en23 rfl rfl qD (CallOp.mkT rfl rfl rfl rfl) rfl (N_C w0 ha1 (by constructor <;> omega) _) ?_
      rintro _ _ _ _ - ⟨rfl, rfl, rfl, rfl⟩
      refine ⟨RLe.refl _, qS, ?_⟩
      refine WA.callAt 2 4 rfl qK en23 rfl rfl qD (CallOp.mkT rfl rfl rfl rfl) rfl (N_C w0 ha1 (by constructor <;> omega) _) ?_
      rintro _ _ _ _ - ⟨rfl, rfl, rfl, rfl⟩
      refine ⟨RLe.refl _, qS, ?_⟩
      refine tA 5 ?_
      refine WA.callG 6 rfl qK en97 rfl (by first | rfl | decide) rfl qD (CallOp.mkT rfl rfl rfl rfl) (LongerV_C (c := (⟨(fvals (upV xs (c + 3) v0) n), (P : Int), I⟩ : Cv)) hsm hfb (by show (fvals (upV xs (c + 3) v0) n).length ≤ 20; omega) (by show (P : Int) ≤ 4; omega) (by show I ≤ 50; omega) hv200 hfz qO qO w0 _) ?_
      rintro _ RL EL hRL ⟨fl, flc, cl, rfl, hfl, hsl, hfl2, hcl, hsubL⟩
      refine ⟨hRL, List.nil_sublist _, ?_⟩
      refine WA.subE hsubL ?_
      refine zCE 7 0 ?_
      refine WA.done qK ?_
      refine zL (zU (zQ (zG ?_)))
      refine yL (Rd.blk 0 rfl) ?_
      refine zE 1 ?_
      refine zN (zU (zT ?_))
      refine WE.retFS (E' := srcE b a cp xs (c + 3 + n + 1 + 1 + 1 + 1) :: F) qS tab_ok [_] rfl ⟨⟨_, _, _, rfl, rfl, rfl, qB, rfl⟩, trivial⟩ ((by first | exact hR1 | exact hR1.trans hRL)) ?_
      exact ⟨_, [], rfl, fl, flc, _, cl, rfl, hfl, hsl, hcl, rfl, rfl⟩
     ·
      refine WS.callAt 2 rfl en23 rfl rfl qD (CallOp.mkT rfl rfl rfl rfl) rfl (N_C w0 ha1 (by constructor <;> omega) _) ?_
      rintro _ _ _ _ - ⟨rfl, rfl, rfl, rfl⟩
      refine ⟨qR, qS, ?_⟩
      refine WA.br2 (i := 0) (j := 4) qK ?_ ?_
      ·
       refine sL (Rd.blk 0 rfl) ?_
       refine WA.callAt 2 4 rfl qK en23 rfl rfl qD (CallOp.mkT rfl rfl rfl rfl) rfl (N_C w0 ha1 (by constructor <;> omega) _) ?_
       rintro _ _ _ _ - ⟨rfl, rfl, rfl, rfl⟩
       refine ⟨RLe.refl _, qS, ?_⟩
       refine tA 5 ?_
       refine WA.callG 6 rfl qK en97 rfl (by first | rfl | decide) rfl qD (CallOp.mkT rfl rfl rfl rfl) (LongerV_C (c := (⟨(fvals (upV xs (c + 3) v0) n), (P : Int), I⟩ : Cv)) hsm hfb (by show (fvals (upV xs (c + 3) v0) n).length ≤ 20; omega) (by show (P : Int) ≤ 4; omega) (by show I ≤ 50; omega) hv200 hfz qO qO w0 _) ?_
       rintro _ RL EL hRL ⟨fl, flc, cl, rfl, hfl, hsl, hfl2, hcl, hsubL⟩
       refine ⟨hRL, List.nil_sublist _, ?_⟩
       refine WA.subE hsubL ?_
       refine zCE 7 0 ?_
       refine WA.done qK ?_
       refine zL (zU (zQ (zG ?_)))
       refine yL (Rd.blk 0 rfl) ?_
       refine zE 1 ?_
       refine zN (zU (zT ?_))
       refine WE.retFS (E' := srcE b a cp xs (c + 3 + n + 1 + 1 + 1 + 1) :: F) qS tab_ok [_] rfl ⟨⟨_, _, _, rfl, rfl, rfl, qB, rfl⟩, trivial⟩ ((by first | exact hR1 | exact hR1.trans hRL)) ?_
       exact ⟨_, [], rfl, fl, flc, _, cl, rfl, hfl, hsl, hcl, rfl, rfl⟩
      ·
       refine WS.callAt 2 rfl en23 rfl rfl qD (CallOp.mkT rfl rfl rfl rfl) rfl (N_C w0 ha1 (by constructor <;> omega) _) ?_
       rintro _ _ _ _ - ⟨rfl, rfl, rfl, rfl⟩
       refine ⟨qR, qS, ?_⟩
       refine tA 5 ?_
       refine lL 0 (Rd.blk 0 rfl) ?_
       refine WA.callG 6 rfl qK en97 rfl (by first | rfl | decide) rfl qD (CallOp.mkT rfl rfl rfl rfl) (LongerV_C (c := (⟨(fvals (upV xs (c + 3) v0) n), (P : Int), I⟩ : Cv)) hsm hfb (by show (fvals (upV xs (c + 3) v0) n).length ≤ 20; omega) (by show (P : Int) ≤ 4; omega) (by show I ≤ 50; omega) hv200 hfz qO qO w0 _) ?_
       rintro _ RL EL hRL ⟨fl, flc, cl, rfl, hfl, hsl, hfl2, hcl, hsubL⟩
       refine ⟨hRL, List.nil_sublist _, ?_⟩
       refine WA.subE hsubL ?_
       refine zCE 7 0 ?_
       refine WA.done qK ?_
       refine zL (zU (zQ (zG ?_)))
       refine yL (Rd.blk 0 rfl) ?_
       refine zE 1 ?_
       refine zN (zU (zT ?_))
       refine WE.retFS (E' := srcE b a cp xs (c + 3 + n + 1 + 1 + 1 + 1) :: F) qS tab_ok [_] rfl ⟨⟨_, _, _, rfl, rfl, rfl, qB, rfl⟩, trivial⟩ ((by first | exact hR1 | exact hR1.trans hRL)) ?_
       exact ⟨_, [], rfl, fl, flc, _, cl, rfl, hfl, hsl, hcl, rfl, rfl⟩
    ·try dsimp only at hc2
     refine W.cap 0 rfl ?_
     intro hcp
     rw [List.length_map] at hcp
     refine W.freeze (enc := encI) (xs := (fvals (upV xs (c + 3) v0) n)) 0 rfl ?_
     intro R1 hR1 hfz
     have hsm := small_fin (F := (upV xs (c + 3) v0)) (n := n) (P := (P : Int)) (I := I) hn20 (by omega) (by omega) (by have := upV_bound xs (c + 3) v0 0; omega) (fun t => (upV_step xs (c + 3) v0 t).1) (fun t ht => by have := upV_bound xs (c + 3) v0 t; omega) (by rw [Int.toNat_natCast]; omega)
     refine zK (zL (zU (zQ (zG ?_))))
     refine yL (Rd.blk 0 rfl) ?_
     refine zE 1 ?_
     refine zN (zU (zT ?_))
     refine WE.retFS (E' := srcE b a cp xs (c + 3 + n + 1 + 1) :: F) qS tab_ok [_] rfl ⟨⟨_, _, _, rfl, rfl, rfl, qB, rfl⟩, trivial⟩ ((by first | exact hR1 | exact hR1.trans hRL)) ?_
     exact ⟨_, [], rfl, a8, c8, _, (⟨(fvals (upV xs (c + 3) v0) n), (P : Int), I⟩ : Cv), rfl, hfz, hsm, hcp, rfl, rfl⟩
  ·
   refine W.regionH _ (ES := [.sl 3 1 a8 c8 ((fvals (upV xs (c + 3) v0) n).map encI)]) mixed ?_
   refine tP 0 ?_
   refine tP 2 ?_
   refine tS 3 ?_
   refine tP 6 ?_
   refine tP 8 ?_
   refine tP 9 ?_
   refine tP 15 ?_
   refine WA.br4 (i := 1) (j := 7) (k := 10) (l := 16) qK ?_ ?_ ?_ ?_
   ·
    refine sL (Rd.add (Rd.blk 2 rfl) _) ?_
    refine WA.take 4 rfl qK qK qK rfl rfl qD (Yl.index tab_ok rfl rfl rfl rfl rfl rfl (fun _ => rfl) qA qH) qS qR ?_
    refine' WA.take 5 rfl qK qK qK rfl rfl qD (Yl.load1 tab_ok rfl rfl rfl (fun _ => rfl) ?r12 rfl ?h12) qS qR ?_
    case r12 => (exact Rd.slD 0 rfl qX)
    case h12 => rfl
    refine WA.br3 (i := 7) (j := 10) (k := 16) qK ?_ ?_ ?_
    ·
     refine sL (Rd.add (Rd.blk 2 rfl) _) ?_
     refine WA.br2 (i := 10) (j := 16) qK ?_ ?_
     ·
      refine sL (Rd.add (Rd.blk 2 rfl) _) ?_
      refine tS 11 ?_
      refine WA.take 12 rfl qK qK qK rfl rfl qD (Yl.index tab_ok rfl rfl rfl rfl rfl rfl (fun _ => rfl) qA qH) qS qR ?_
      refine' WA.take 13 rfl qK qK qK rfl rfl qD (Yl.load1 tab_ok rfl rfl rfl (fun _ => rfl) ?r15 rfl ?h15) qS qR ?_
      case r15 => (exact Rd.slD 0 rfl qX)
      case h15 => rfl
      refine tS 14 ?_
      refine WA.eff 16 rfl qK rfl rfl qD (Ef.buildSliceD (enc := encI) (parts := [.const (.int .i64 0), .const (.int .i64 0), .const (.int .i64 1), .const (.int .i64 3), .const (.int .i64 4), .const (.int .i64 8)]) [_, _, _, _, _, _] tab_ok rfl rfl rfl rfl rfl rfl rfl rfl qD qD (fun a54 => ?_))
      refine ⟨qR, qS, ?_⟩
      refine WA.callAt 5 17 rfl qK en32 rfl rfl qD (CallOp.mkT rfl rfl rfl rfl) rfl (PickM_C (j := 0) w0 ([0, 0, 1, 3, 4, 8] : List Int) rfl qD qD ha rfl) ?_
      rintro _ _ _ _ - ⟨rfl, rfl, rfl, rfl⟩
      refine ⟨RLe.refl _, qS, ?_⟩
      refine tA 18 ?_
      refine tP 19 ?_
      refine zCF 20 3 ?_
      refine WA.done qK ?_
      refine WE.cut (nth (fvals (upV xs (c + 3) v0) n) ((n : Int) - 1).toNat - nth (fvals (upV xs (c + 3) v0) n) ((n : Int) - (P : Int)).toNat + nth ([0, 0, 1, 3, 4, 8] : List Int) (mod (nth xs (c + 3 + n)) ((6 : Nat) : Int)).toNat) ⟨by omega, by omega, by omega⟩ ⟨rfl, rfl, rfl, rfl⟩ (RLe.refl _) qS
     ·
      refine WS.eff rfl rfl rfl qD (Ef.buildSliceD (enc := encI) (parts := [.const (.int .i64 0), .const (.int .i64 0), .const (.int .i64 1), .const (.int .i64 3), .const (.int .i64 4), .const (.int .i64 8)]) [_, _, _, _, _, _] tab_ok rfl rfl rfl rfl rfl rfl rfl rfl qD qD (fun a54 => ?_))
      refine ⟨qR, qS, ?_⟩
      refine WA.br2 (i := 10) (j := 17) qK ?_ ?_
      ·
       refine sL (Rd.add (Rd.blk 3 rfl) _) ?_
       refine tS 11 ?_
       refine WA.take 12 rfl qK qK qK rfl rfl qD (Yl.index tab_ok rfl rfl rfl rfl rfl rfl (fun _ => rfl) qA qH) qS qR ?_
       refine' WA.take 13 rfl qK qK qK rfl rfl qD (Yl.load1 tab_ok rfl rfl rfl (fun _ => rfl) ?r17 rfl ?h17) qS qR ?_
       case r17 => (exact Rd.slD 0 rfl qX)
       case h17 => rfl
       refine tS 14 ?_
       refine WA.callAt 5 17 rfl qK en32 rfl rfl qD (CallOp.mkT rfl rfl rfl rfl) rfl (PickM_C (j := 0) w0 ([0, 0, 1, 3, 4, 8] : List Int) rfl qD qD ha rfl) ?_
       rintro _ _ _ _ - ⟨rfl, rfl, rfl, rfl⟩
       refine ⟨RLe.refl _, qS, ?_⟩
       refine tA 18 ?_
       refine tP 19 ?_
       refine zCF 20 3 ?_
       refine WA.done qK ?_
       refine WE.cut (nth (fvals (upV xs (c + 3) v0) n) ((n : Int) - 1).toNat - nth (fvals (upV xs (c + 3) v0) n) ((n : Int) - (P : Int)).toNat + nth ([0, 0, 1, 3, 4, 8] : List Int) (mod (nth xs (c + 3 + n)) ((6 : Nat) : Int)).toNat) ⟨by omega, by omega, by omega⟩ ⟨rfl, rfl, rfl, rfl⟩ (RLe.refl _) qS
      ·
       refine WS.callAt 5 rfl en32 rfl rfl qD (CallOp.mkT rfl rfl rfl rfl) rfl (PickM_C (j := 0) w0 ([0, 0, 1, 3, 4, 8] : List Int) rfl qD qD ha rfl) ?_
       rintro _ _ _ _ - ⟨rfl, rfl, rfl, rfl⟩
       refine ⟨qR, qS, ?_⟩
       refine lL 10 (Rd.add (Rd.blk 3 rfl) _) ?_
       refine tS 11 ?_
       refine WA.take 12 rfl qK qK qK rfl rfl qD (Yl.index tab_ok rfl rfl rfl rfl rfl rfl (fun _ => rfl) qA qH) qS qR ?_
       refine' WA.take 13 rfl qK qK qK rfl rfl qD (Yl.load1 tab_ok rfl rfl rfl (fun _ => rfl) ?r19 rfl ?h19) qS qR ?_
       case r19 => (exact Rd.slD 0 rfl qX)
       case h19 => rfl
       refine tS 14 ?_
       refine tA 18 ?_
       refine tP 19 ?_
       refine zCF 20 3 ?_
       refine WA.done qK ?_
       refine WE.cut (nth (fvals (upV xs (c + 3) v0) n) ((n : Int) - 1).toNat - nth (fvals (upV xs (c + 3) v0) n) ((n : Int) - (P : Int)).toNat + nth ([0, 0, 1, 3, 4, 8] : List Int) (mod (nth xs (c + 3 + n)) ((6 : Nat) : Int)).toNat) ⟨by omega, by omega, by omega⟩ ⟨rfl, rfl, rfl, rfl⟩ (RLe.refl _) qS
    ·
     refine sL (Rd.add (Rd.blk 2 rfl) _) ?_
     refine tS 11 ?_
     refine WA.br2 (i := 7) (j := 16) qK ?_ ?_
     ·
      refine sL (Rd.add (Rd.blk 2 rfl) _) ?_
      refine WA.take 12 rfl qK qK qK rfl rfl qD (Yl.index tab_ok rfl rfl rfl rfl rfl rfl (fun _ => rfl) qA qH) qS qR ?_
      refine' WA.take 13 rfl qK qK qK rfl rfl qD (Yl.load1 tab_ok rfl rfl rfl (fun _ => rfl) ?r22 rfl ?h22) qS qR ?_
      case r22 => (exact Rd.slD 0 rfl qX)
      case h22 => rfl
      refine tS 14 ?_
      refine WA.eff 16 rfl qK rfl rfl qD (Ef.buildSliceD (enc := encI) (parts := [.const (.int .i64 0), .const (.int .i64 0), .const (.int .i64 1), .const (.int .i64 3), .const (.int .i64 4), .const (.int .i64 8)]) [_, _, _, _, _, _] tab_ok rfl rfl rfl rfl rfl rfl rfl rfl qD qD (fun a54 => ?_))
      refine ⟨qR, qS, ?_⟩
      refine WA.callAt 5 17 rfl qK en32 rfl rfl qD (CallOp.mkT rfl rfl rfl rfl) rfl (PickM_C (j := 0) w0 ([0, 0, 1, 3, 4, 8] : List Int) rfl qD qD ha rfl) ?_
      rintro _ _ _ _ - ⟨rfl, rfl, rfl, rfl⟩
      refine ⟨RLe.refl _, qS, ?_⟩
      refine tA 18 ?_
      refine tP 19 ?_
      refine zCF 20 3 ?_
      refine WA.done qK ?_
      refine WE.cut (nth (fvals (upV xs (c + 3) v0) n) ((n : Int) - 1).toNat - nth (fvals (upV xs (c + 3) v0) n) ((n : Int) - (P : Int)).toNat + nth ([0, 0, 1, 3, 4, 8] : List Int) (mod (nth xs (c + 3 + n)) ((6 : Nat) : Int)).toNat) ⟨by omega, by omega, by omega⟩ ⟨rfl, rfl, rfl, rfl⟩ (RLe.refl _) qS
     ·
      refine WS.eff rfl rfl rfl qD (Ef.buildSliceD (enc := encI) (parts := [.const (.int .i64 0), .const (.int .i64 0), .const (.int .i64 1), .const (.int .i64 3), .const (.int .i64 4), .const (.int .i64 8)]) [_, _, _, _, _, _] tab_ok rfl rfl rfl rfl rfl rfl rfl rfl qD qD (fun a54 => ?_))
      refine ⟨qR, qS, ?_⟩
      refine WA.br2 (i := 7) (j := 17) qK ?_ ?_
      ·
       refine sL (Rd.add (Rd.blk 3 rfl) _) ?_
       refine WA.take 12 rfl qK qK qK rfl rfl qD (Yl.index tab_ok rfl rfl rfl rfl rfl rfl (fun _ => rfl) qA qH) qS qR ?_
       refine' WA.take 13 rfl qK qK qK rfl rfl qD (Yl.load1 tab_ok rfl rfl rfl (fun _ => rfl) ?r24 rfl ?h24) qS qR ?_
       case r24 => (exact Rd.slD 0 rfl qX)
       case h24 => rfl
       refine tS 14 ?_
       refine WA.callAt 5 17 rfl qK en32 rfl rfl qD (CallOp.mkT rfl rfl rfl rfl) rfl (PickM_C (j := 0) w0 ([0, 0, 1, 3, 4, 8] : List Int) rfl qD qD ha rfl) ?_
       rintro _ _ _ _ - ⟨rfl, rfl, rfl, rfl⟩
       refine ⟨RLe.refl _, qS, ?_⟩
       refine tA 18 ?_
       refine tP 19 ?_
       refine zCF 20 3 ?_
       refine WA.done qK ?_
       refine WE.cut (nth (fvals (upV xs (c + 3) v0) n) ((n : Int) - 1).toNat - nth (fvals (upV xs (c + 3) v0) n) ((n : Int) - (P : Int)).toNat + nth ([0, 0, 1, 3, 4, 8] : List Int) (mod (nth xs (c + 3 + n)) ((6 : Nat) : Int)).toNat) ⟨by omega, by omega, by omega⟩ ⟨rfl, rfl, rfl, rfl⟩ (RLe.refl _) qS
      ·
       refine WS.callAt 5 rfl en32 rfl rfl qD (CallOp.mkT rfl rfl rfl rfl) rfl (PickM_C (j := 0) w0 ([0, 0, 1, 3, 4, 8] : List Int) rfl qD qD ha rfl) ?_
       rintro _ _ _ _ - ⟨rfl, rfl, rfl, rfl⟩
       refine ⟨qR, qS, ?_⟩
       refine lL 7 (Rd.add (Rd.blk 3 rfl) _) ?_
       refine WA.take 12 rfl qK qK qK rfl rfl qD (Yl.index tab_ok rfl rfl rfl rfl rfl rfl (fun _ => rfl) qA qH) qS qR ?_
       refine' WA.take 13 rfl qK qK qK rfl rfl qD (Yl.load1 tab_ok rfl rfl rfl (fun _ => rfl) ?r26 rfl ?h26) qS qR ?_
       case r26 => (exact Rd.slD 0 rfl qX)
       case h26 => rfl
       refine tS 14 ?_
       refine tA 18 ?_
       refine tP 19 ?_
       refine zCF 20 3 ?_
       refine WA.done qK ?_
       refine WE.cut (nth (fvals (upV xs (c + 3) v0) n) ((n : Int) - 1).toNat - nth (fvals (upV xs (c + 3) v0) n) ((n : Int) - (P : Int)).toNat + nth ([0, 0, 1, 3, 4, 8] : List Int) (mod (nth xs (c + 3 + n)) ((6 : Nat) : Int)).toNat) ⟨by omega, by omega, by omega⟩ ⟨rfl, rfl, rfl, rfl⟩ (RLe.refl _) qS
    ·
     refine WS.eff rfl rfl rfl qD (Ef.buildSliceD (enc := encI) (parts := [.const (.int .i64 0), .const (.int .i64 0), .const (.int .i64 1), .const (.int .i64 3), .const (.int .i64 4), .const (.int .i64 8)]) [_, _, _, _, _, _] tab_ok rfl rfl rfl rfl rfl rfl rfl rfl qD qD (fun a54 => ?_))
     refine ⟨qR, qS, ?_⟩
     refine WA.br3 (i := 7) (j := 10) (k := 17) qK ?_ ?_ ?_
     ·
      refine sL (Rd.add (Rd.blk 3 rfl) _) ?_
      refine WA.br2 (i := 10) (j := 17) qK ?_ ?_
      ·
       refine sL (Rd.add (Rd.blk 3 rfl) _) ?_
       refine tS 11 ?_
       refine WA.take 12 rfl qK qK qK rfl rfl qD (Yl.index tab_ok rfl rfl rfl rfl rfl rfl (fun _ => rfl) qA qH) qS qR ?_
       refine' WA.take 13 rfl qK qK qK rfl rfl qD (Yl.load1 tab_ok rfl rfl rfl (fun _ => rfl) ?r29 rfl ?h29) qS qR ?_
       case r29 => (exact Rd.slD 0 rfl qX)
       case h29 => rfl
       refine tS 14 ?_
       refine WA.callAt 5 17 rfl qK en32 rfl rfl qD (CallOp.mkT rfl rfl rfl rfl) rfl (PickM_C (j := 0) w0 ([0, 0, 1, 3, 4, 8] : List Int) rfl qD qD ha rfl) ?_
       rintro _ _ _ _ - ⟨rfl, rfl, rfl, rfl⟩
       refine ⟨RLe.refl _, qS, ?_⟩
       refine tA 18 ?_
       refine tP 19 ?_
       refine zCF 20 3 ?_
       refine WA.done qK ?_
       refine WE.cut (nth (fvals (upV xs (c + 3) v0) n) ((n : Int) - 1).toNat - nth (fvals (upV xs (c + 3) v0) n) ((n : Int) - (P : Int)).toNat + nth ([0, 0, 1, 3, 4, 8] : List Int) (mod (nth xs (c + 3 + n)) ((6 : Nat) : Int)).toNat) ⟨by omega, by omega, by omega⟩ ⟨rfl, rfl, rfl, rfl⟩ (RLe.refl _) qS
      ·
       refine WS.callAt 5 rfl en32 rfl rfl qD (CallOp.mkT rfl rfl rfl rfl) rfl (PickM_C (j := 0) w0 ([0, 0, 1, 3, 4, 8] : List Int) rfl qD qD ha rfl) ?_
       rintro _ _ _ _ - ⟨rfl, rfl, rfl, rfl⟩
       refine ⟨qR, qS, ?_⟩
       refine lL 10 (Rd.add (Rd.blk 3 rfl) _) ?_
       refine tS 11 ?_
       refine WA.take 12 rfl qK qK qK rfl rfl qD (Yl.index tab_ok rfl rfl rfl rfl rfl rfl (fun _ => rfl) qA qH) qS qR ?_
       refine' WA.take 13 rfl qK qK qK rfl rfl qD (Yl.load1 tab_ok rfl rfl rfl (fun _ => rfl) ?r31 rfl ?h31) qS qR ?_
       case r31 => (exact Rd.slD 0 rfl qX)
       case h31 => rfl
       refine tS 14 ?_
       refine tA 18 ?_
       refine tP 19 ?_
       refine zCF 20 3 ?_
       refine WA.done qK ?_
       refine WE.cut (nth (fvals (upV xs (c + 3) v0) n) ((n : Int) - 1).toNat - nth (fvals (upV xs (c + 3) v0) n) ((n : Int) - (P : Int)).toNat + nth ([0, 0, 1, 3, 4, 8] : List Int) (mod (nth xs (c + 3 + n)) ((6 : Nat) : Int)).toNat) ⟨by omega, by omega, by omega⟩ ⟨rfl, rfl, rfl, rfl⟩ (RLe.refl _) qS
     ·
      refine sL (Rd.add (Rd.blk 3 rfl) _) ?_
      refine tS 11 ?_
      refine WA.br2 (i := 7) (j := 17) qK ?_ ?_
      ·
       refine sL (Rd.add (Rd.blk 3 rfl) _) ?_
       refine WA.take 12 rfl qK qK qK rfl rfl qD (Yl.index tab_ok rfl rfl rfl rfl rfl rfl (fun _ => rfl) qA qH) qS qR ?_
       refine' WA.take 13 rfl qK qK qK rfl rfl qD (Yl.load1 tab_ok rfl rfl rfl (fun _ => rfl) ?r34 rfl ?h34) qS qR ?_
       case r34 => (exact Rd.slD 0 rfl qX)
       case h34 => rfl
       refine tS 14 ?_
       refine WA.callAt 5 17 rfl qK en32 rfl rfl qD (CallOp.mkT rfl rfl rfl rfl) rfl (PickM_C (j := 0) w0 ([0, 0, 1, 3, 4, 8] : List Int) rfl qD qD ha rfl) ?_
       rintro _ _ _ _ - ⟨rfl, rfl, rfl, rfl⟩
       refine ⟨RLe.refl _, qS, ?_⟩
       refine tA 18 ?_
       refine tP 19 ?_
       refine zCF 20 3 ?_
       refine WA.done qK ?_
       refine WE.cut (nth (fvals (upV xs (c + 3) v0) n) ((n : Int) - 1).toNat - nth (fvals (upV xs (c + 3) v0) n) ((n : Int) - (P : Int)).toNat + nth ([0, 0, 1, 3, 4, 8] : List Int) (mod (nth xs (c + 3 + n)) ((6 : Nat) : Int)).toNat) ⟨by omega, by omega, by omega⟩ ⟨rfl, rfl, rfl, rfl⟩ (RLe.refl _) qS
      ·
       refine WS.callAt 5 rfl en32 rfl rfl qD (CallOp.mkT rfl rfl rfl rfl) rfl (PickM_C (j := 0) w0 ([0, 0, 1, 3, 4, 8] : List Int) rfl qD qD ha rfl) ?_
       rintro _ _ _ _ - ⟨rfl, rfl, rfl, rfl⟩
       refine ⟨qR, qS, ?_⟩
       refine lL 7 (Rd.add (Rd.blk 3 rfl) _) ?_
       refine WA.take 12 rfl qK qK qK rfl rfl qD (Yl.index tab_ok rfl rfl rfl rfl rfl rfl (fun _ => rfl) qA qH) qS qR ?_
       refine' WA.take 13 rfl qK qK qK rfl rfl qD (Yl.load1 tab_ok rfl rfl rfl (fun _ => rfl) ?r36 rfl ?h36) qS qR ?_
       case r36 => (exact Rd.slD 0 rfl qX)
       case h36 => rfl
       refine tS 14 ?_
       refine tA 18 ?_
       refine tP 19 ?_
       refine zCF 20 3 ?_
       refine WA.done qK ?_
       refine WE.cut (nth (fvals (upV xs (c + 3) v0) n) ((n : Int) - 1).toNat - nth (fvals (upV xs (c + 3) v0) n) ((n : Int) - (P : Int)).toNat + nth ([0, 0, 1, 3, 4, 8] : List Int) (mod (nth xs (c + 3 + n)) ((6 : Nat) : Int)).toNat) ⟨by omega, by omega, by omega⟩ ⟨rfl, rfl, rfl, rfl⟩ (RLe.refl _) qS
     ·
      refine WS.callAt 5 rfl en32 rfl rfl qD (CallOp.mkT rfl rfl rfl rfl) rfl (PickM_C (j := 0) w0 ([0, 0, 1, 3, 4, 8] : List Int) rfl qD qD ha rfl) ?_
      rintro _ _ _ _ - ⟨rfl, rfl, rfl, rfl⟩
      refine ⟨qR, qS, ?_⟩
      refine WA.br2 (i := 7) (j := 10) qK ?_ ?_
      ·
       refine sL (Rd.add (Rd.blk 3 rfl) _) ?_
       refine lL 10 (Rd.add (Rd.blk 3 rfl) _) ?_
       refine tS 11 ?_
       refine WA.take 12 rfl qK qK qK rfl rfl qD (Yl.index tab_ok rfl rfl rfl rfl rfl rfl (fun _ => rfl) qA qH) qS qR ?_
       refine' WA.take 13 rfl qK qK qK rfl rfl qD (Yl.load1 tab_ok rfl rfl rfl (fun _ => rfl) ?r39 rfl ?h39) qS qR ?_
       case r39 => (exact Rd.slD 0 rfl qX)
       case h39 => rfl
       refine tS 14 ?_
       refine tA 18 ?_
       refine tP 19 ?_
       refine zCF 20 3 ?_
       refine WA.done qK ?_
       refine WE.cut (nth (fvals (upV xs (c + 3) v0) n) ((n : Int) - 1).toNat - nth (fvals (upV xs (c + 3) v0) n) ((n : Int) - (P : Int)).toNat + nth ([0, 0, 1, 3, 4, 8] : List Int) (mod (nth xs (c + 3 + n)) ((6 : Nat) : Int)).toNat) ⟨by omega, by omega, by omega⟩ ⟨rfl, rfl, rfl, rfl⟩ (RLe.refl _) qS
      ·
       refine sL (Rd.add (Rd.blk 3 rfl) _) ?_
       refine tS 11 ?_
       refine lL 7 (Rd.add (Rd.blk 3 rfl) _) ?_
       refine WA.take 12 rfl qK qK qK rfl rfl qD (Yl.index tab_ok rfl rfl rfl rfl rfl rfl (fun _ => rfl) qA qH) qS qR ?_
       refine' WA.take 13 rfl qK qK qK rfl rfl qD (Yl.load1 tab_ok rfl rfl rfl (fun _ => rfl) ?r42 rfl ?h42) qS qR ?_
       case r42 => (exact Rd.slD 0 rfl qX)
       case h42 => rfl
       refine tS 14 ?_
       refine tA 18 ?_
       refine tP 19 ?_
       refine zCF 20 3 ?_
       refine WA.done qK ?_
       refine WE.cut (nth (fvals (upV xs (c + 3) v0) n) ((n : Int) - 1).toNat - nth (fvals (upV xs (c + 3) v0) n) ((n : Int) - (P : Int)).toNat + nth ([0, 0, 1, 3, 4, 8] : List Int) (mod (nth xs (c + 3 + n)) ((6 : Nat) : Int)).toNat) ⟨by omega, by omega, by omega⟩ ⟨rfl, rfl, rfl, rfl⟩ (RLe.refl _) qS
   ·
    refine sL (Rd.add (Rd.blk 2 rfl) _) ?_
    refine WA.br3 (i := 1) (j := 10) (k := 16) qK ?_ ?_ ?_
    ·
     refine sL (Rd.add (Rd.blk 2 rfl) _) ?_
     refine WA.take 4 rfl qK qK qK rfl rfl qD (Yl.index tab_ok rfl rfl rfl rfl rfl rfl (fun _ => rfl) qA qH) qS qR ?_
     refine' WA.take 5 rfl qK qK qK rfl rfl qD (Yl.load1 tab_ok rfl rfl rfl (fun _ => rfl) ?r45 rfl ?h45) qS qR ?_
     case r45 => (exact Rd.slD 0 rfl qX)
     case h45 => rfl
     refine WA.br2 (i := 10) (j := 16) qK ?_ ?_
     ·
      refine sL (Rd.add (Rd.blk 2 rfl) _) ?_
      refine tS 11 ?_
      refine WA.take 12 rfl qK qK qK rfl rfl qD (Yl.index tab_ok rfl rfl rfl rfl rfl rfl (fun _ => rfl) qA qH) qS qR ?_
      refine' WA.take 13 rfl qK qK qK rfl rfl qD (Yl.load1 tab_ok rfl rfl rfl (fun _ => rfl) ?r47 rfl ?h47) qS qR ?_
      case r47 => (exact Rd.slD 0 rfl qX)
      case h47 => rfl
      refine tS 14 ?_
      refine WA.eff 16 rfl qK rfl rfl qD (Ef.buildSliceD (enc := encI) (parts := [.const (.int .i64 0), .const (.int .i64 0), .const (.int .i64 1), .const (.int .i64 3), .const (.int .i64 4), .const (.int .i64 8)]) [_, _, _, _, _, _] tab_ok rfl rfl rfl rfl rfl rfl rfl rfl qD qD (fun a54 => ?_))
      refine ⟨qR, qS, ?_⟩
      refine WA.callAt 5 17 rfl qK en32 rfl rfl qD (CallOp.mkT rfl rfl rfl rfl) rfl (PickM_C (j := 0) w0 ([0, 0, 1, 3, 4, 8] : List Int) rfl qD qD ha rfl) ?_
      rintro _ _ _ _ - ⟨rfl, rfl, rfl, rfl⟩
      refine ⟨RLe.refl _, qS, ?_⟩
      refine tA 18 ?_
      refine tP 19 ?_
      refine zCF 20 3 ?_
      refine WA.done qK ?_
      refine WE.cut (nth (fvals (upV xs (c + 3) v0) n) ((n : Int) - 1).toNat - nth (fvals (upV xs (c + 3) v0) n) ((n : Int) - (P : Int)).toNat + nth ([0, 0, 1, 3, 4, 8] : List Int) (mod (nth xs (c + 3 + n)) ((6 : Nat) : Int)).toNat) ⟨by omega, by omega, by omega⟩ ⟨rfl, rfl, rfl, rfl⟩ (RLe.refl _) qS
     ·
      refine WS.eff rfl rfl rfl qD (Ef.buildSliceD (enc := encI) (parts := [.const (.int .i64 0), .const (.int .i64 0), .const (.int .i64 1), .const (.int .i64 3), .const (.int .i64 4), .const (.int .i64 8)]) [_, _, _, _, _, _] tab_ok rfl rfl rfl rfl rfl rfl rfl rfl qD qD (fun a54 => ?_))
      refine ⟨qR, qS, ?_⟩
      refine WA.br2 (i := 10) (j := 17) qK ?_ ?_
      ·
       refine sL (Rd.add (Rd.blk 3 rfl) _) ?_
       refine tS 11 ?_
       refine WA.take 12 rfl qK qK qK rfl rfl qD (Yl.index tab_ok rfl rfl rfl rfl rfl rfl (fun _ => rfl) qA qH) qS qR ?_
       refine' WA.take 13 rfl qK qK qK rfl rfl qD (Yl.load1 tab_ok rfl rfl rfl (fun _ => rfl) ?r49 rfl ?h49) qS qR ?_
       case r49 => (exact Rd.slD 0 rfl qX)
       case h49 => rfl
       refine tS 14 ?_
       refine WA.callAt 5 17 rfl qK en32 rfl rfl qD (CallOp.mkT rfl rfl rfl rfl) rfl (PickM_C (j := 0) w0 ([0, 0, 1, 3, 4, 8] : List Int) rfl qD qD ha rfl) ?_
       rintro _ _ _ _ - ⟨rfl, rfl, rfl, rfl⟩
       refine ⟨RLe.refl _, qS, ?_⟩
       refine tA 18 ?_
       refine tP 19 ?_
       refine zCF 20 3 ?_
       refine WA.done qK ?_
       refine WE.cut (nth (fvals (upV xs (c + 3) v0) n) ((n : Int) - 1).toNat - nth (fvals (upV xs (c + 3) v0) n) ((n : Int) - (P : Int)).toNat + nth ([0, 0, 1, 3, 4, 8] : List Int) (mod (nth xs (c + 3 + n)) ((6 : Nat) : Int)).toNat) ⟨by omega, by omega, by omega⟩ ⟨rfl, rfl, rfl, rfl⟩ (RLe.refl _) qS
      ·
       refine WS.callAt 5 rfl en32 rfl rfl qD (CallOp.mkT rfl rfl rfl rfl) rfl (PickM_C (j := 0) w0 ([0, 0, 1, 3, 4, 8] : List Int) rfl qD qD ha rfl) ?_
       rintro _ _ _ _ - ⟨rfl, rfl, rfl, rfl⟩
       refine ⟨qR, qS, ?_⟩
       refine lL 10 (Rd.add (Rd.blk 3 rfl) _) ?_
       refine tS 11 ?_
       refine WA.take 12 rfl qK qK qK rfl rfl qD (Yl.index tab_ok rfl rfl rfl rfl rfl rfl (fun _ => rfl) qA qH) qS qR ?_
       refine' WA.take 13 rfl qK qK qK rfl rfl qD (Yl.load1 tab_ok rfl rfl rfl (fun _ => rfl) ?r51 rfl ?h51) qS qR ?_
       case r51 => (exact Rd.slD 0 rfl qX)
       case h51 => rfl
       refine tS 14 ?_
       refine tA 18 ?_
       refine tP 19 ?_
       refine zCF 20 3 ?_
       refine WA.done qK ?_
       refine WE.cut (nth (fvals (upV xs (c + 3) v0) n) ((n : Int) - 1).toNat - nth (fvals (upV xs (c + 3) v0) n) ((n : Int) - (P : Int)).toNat + nth ([0, 0, 1, 3, 4, 8] : List Int) (mod (nth xs (c + 3 + n)) ((6 : Nat) : Int)).toNat) ⟨by omega, by omega, by omega⟩ ⟨rfl, rfl, rfl, rfl⟩ (RLe.refl _) qS
    ·
     refine sL (Rd.add (Rd.blk 2 rfl) _) ?_
     refine tS 11 ?_
     refine WA.take 12 rfl qK qK qK rfl rfl qD (Yl.index tab_ok rfl rfl rfl rfl rfl rfl (fun _ => rfl) qA qH) qS qR ?_
     refine' WA.take 13 rfl qK qK qK rfl rfl qD (Yl.load1 tab_ok rfl rfl rfl (fun _ => rfl) ?r53 rfl ?h53) qS qR ?_
     case r53 => (exact Rd.slD 0 rfl qX)
     case h53 => rfl
     refine WA.br2 (i := 1) (j := 16) qK ?_ ?_
     ·
      refine sL (Rd.add (Rd.blk 2 rfl) _) ?_
      refine WA.take 4 rfl qK qK qK rfl rfl qD (Yl.index tab_ok rfl rfl rfl rfl rfl rfl (fun _ => rfl) qA qH) qS qR ?_
      refine' WA.take 5 rfl qK qK qK rfl rfl qD (Yl.load1 tab_ok rfl rfl rfl (fun _ => rfl) ?r55 rfl ?h55) qS qR ?_
      case r55 => (exact Rd.slD 0 rfl qX)
      case h55 => rfl
      refine tS 14 ?_
      refine WA.eff 16 rfl qK rfl rfl qD (Ef.buildSliceD (enc := encI) (parts := [.const (.int .i64 0), .const (.int .i64 0), .const (.int .i64 1), .const (.int .i64 3), .const (.int .i64 4), .const (.int .i64 8)]) [_, _, _, _, _, _] tab_ok rfl rfl rfl rfl rfl rfl rfl rfl qD qD (fun a54 => ?_))
      refine ⟨qR, qS, ?_⟩
      refine WA.callAt 5 17 rfl qK en32 rfl rfl qD (CallOp.mkT rfl rfl rfl rfl) rfl (PickM_C (j := 0) w0 ([0, 0, 1, 3, 4, 8] : List Int) rfl qD qD ha rfl) ?_
      rintro _ _ _ _ - ⟨rfl, rfl, rfl, rfl⟩
      refine ⟨RLe.refl _, qS, ?_⟩
      refine tA 18 ?_
      refine tP 19 ?_
      refine zCF 20 3 ?_
      refine WA.done qK ?_
      refine WE.cut (nth (fvals (upV xs (c + 3) v0) n) ((n : Int) - 1).toNat - nth (fvals (upV xs (c + 3) v0) n) ((n : Int) - (P : Int)).toNat + nth ([0, 0, 1, 3, 4, 8] : List Int) (mod (nth xs (c + 3 + n)) ((6 : Nat) : Int)).toNat) ⟨by omega, by omega, by omega⟩ ⟨rfl, rfl, rfl, rfl⟩ (RLe.refl _) qS
     ·
      refine WS.eff rfl rfl rfl qD (Ef.buildSliceD (enc := encI) (parts := [.const (.int .i64 0), .const (.int .i64 0), .const (.int .i64 1), .const (.int .i64 3), .const (.int .i64 4), .const (.int .i64 8)]) [_, _, _, _, _, _] tab_ok rfl rfl rfl rfl rfl rfl rfl rfl qD qD (fun a54 => ?_))
      refine ⟨qR, qS, ?_⟩
      refine WA.br2 (i := 1) (j := 17) qK ?_ ?_
      ·
       refine sL (Rd.add (Rd.blk 3 rfl) _) ?_
       refine WA.take 4 rfl qK qK qK rfl rfl qD (Yl.index tab_ok rfl rfl rfl rfl rfl rfl (fun _ => rfl) qA qH) qS qR ?_
       refine' WA.take 5 rfl qK qK qK rfl rfl qD (Yl.load1 tab_ok rfl rfl rfl (fun _ => rfl) ?r57 rfl ?h57) qS qR ?_
       case r57 => (exact Rd.slD 0 rfl qX)
       case h57 => rfl
       refine tS 14 ?_
       refine WA.callAt 5 17 rfl qK en32 rfl rfl qD (CallOp.mkT rfl rfl rfl rfl) rfl (PickM_C (j := 0) w0 ([0, 0, 1, 3, 4, 8] : List Int) rfl qD qD ha rfl) ?_
       rintro _ _ _ _ - ⟨rfl, rfl, rfl, rfl⟩
       refine ⟨RLe.refl _, qS, ?_⟩
       refine tA 18 ?_
       refine tP 19 ?_
       refine zCF 20 3 ?_
       refine WA.done qK ?_
       refine WE.cut (nth (fvals (upV xs (c + 3) v0) n) ((n : Int) - 1).toNat - nth (fvals (upV xs (c + 3) v0) n) ((n : Int) - (P : Int)).toNat + nth ([0, 0, 1, 3, 4, 8] : List Int) (mod (nth xs (c + 3 + n)) ((6 : Nat) : Int)).toNat) ⟨by omega, by omega, by omega⟩ ⟨rfl, rfl, rfl, rfl⟩ (RLe.refl _) qS
      ·
       refine WS.callAt 5 rfl en32 rfl rfl qD (CallOp.mkT rfl rfl rfl rfl) rfl (PickM_C (j := 0) w0 ([0, 0, 1, 3, 4, 8] : List Int) rfl qD qD ha rfl) ?_
       rintro _ _ _ _ - ⟨rfl, rfl, rfl, rfl⟩
       refine ⟨qR, qS, ?_⟩
       refine lL 1 (Rd.add (Rd.blk 3 rfl) _) ?_
       refine WA.take 4 rfl qK qK qK rfl rfl qD (Yl.index tab_ok rfl rfl rfl rfl rfl rfl (fun _ => rfl) qA qH) qS qR ?_
       refine' WA.take 5 rfl qK qK qK rfl rfl qD (Yl.load1 tab_ok rfl rfl rfl (fun _ => rfl) ?r59 rfl ?h59) qS qR ?_
       case r59 => (exact Rd.slD 0 rfl qX)
       case h59 => rfl
       refine tS 14 ?_
       refine tA 18 ?_
       refine tP 19 ?_
       refine zCF 20 3 ?_
       refine WA.done qK ?_
       refine WE.cut (nth (fvals (upV xs (c + 3) v0) n) ((n : Int) - 1).toNat - nth (fvals (upV xs (c + 3) v0) n) ((n : Int) - (P : Int)).toNat + nth ([0, 0, 1, 3, 4, 8] : List Int) (mod (nth xs (c + 3 + n)) ((6 : Nat) : Int)).toNat) ⟨by omega, by omega, by omega⟩ ⟨rfl, rfl, rfl, rfl⟩ (RLe.refl _) qS
    ·
     refine WS.eff rfl rfl rfl qD (Ef.buildSliceD (enc := encI) (parts := [.const (.int .i64 0), .const (.int .i64 0), .const (.int .i64 1), .const (.int .i64 3), .const (.int .i64 4), .const (.int .i64 8)]) [_, _, _, _, _, _] tab_ok rfl rfl rfl rfl rfl rfl rfl rfl qD qD (fun a54 => ?_))
     refine ⟨qR, qS, ?_⟩
     refine WA.br3 (i := 1) (j := 10) (k := 17) qK ?_ ?_ ?_
     ·
      refine sL (Rd.add (Rd.blk 3 rfl) _) ?_
      refine WA.take 4 rfl qK qK qK rfl rfl qD (Yl.index tab_ok rfl rfl rfl rfl rfl rfl (fun _ => rfl) qA qH) qS qR ?_
      refine' WA.take 5 rfl qK qK qK rfl rfl qD (Yl.load1 tab_ok rfl rfl rfl (fun _ => rfl) ?r61 rfl ?h61) qS qR ?_
      case r61 => (exact Rd.slD 0 rfl qX)
      case h61 => rfl
      refine WA.br2 (i := 10) (j := 17) qK ?_ ?_
      ·
       refine sL (Rd.add (Rd.blk 3 rfl) _) ?_
       refine tS 11 ?_
       refine WA.take 12 rfl qK qK qK rfl rfl qD (Yl.index tab_ok rfl rfl rfl rfl rfl rfl (fun _ => rfl) qA qH) qS qR ?_
       refine' WA.take 13 rfl qK qK qK rfl rfl qD (Yl.load1 tab_ok rfl rfl rfl (fun _ => rfl) ?r63 rfl ?h63) qS qR ?_
       case r63 => (exact Rd.slD 0 rfl qX)
       case h63 => rfl
       refine tS 14 ?_
       refine WA.callAt 5 17 rfl qK en32 rfl rfl qD (CallOp.mkT rfl rfl rfl rfl) rfl (PickM_C (j := 0) w0 ([0, 0, 1, 3, 4, 8] : List Int) rfl qD qD ha rfl) ?_
       rintro _ _ _ _ - ⟨rfl, rfl, rfl, rfl⟩
       refine ⟨RLe.refl _, qS, ?_⟩
       refine tA 18 ?_
       refine tP 19 ?_
       refine zCF 20 3 ?_
       refine WA.done qK ?_
       refine WE.cut (nth (fvals (upV xs (c + 3) v0) n) ((n : Int) - 1).toNat - nth (fvals (upV xs (c + 3) v0) n) ((n : Int) - (P : Int)).toNat + nth ([0, 0, 1, 3, 4, 8] : List Int) (mod (nth xs (c + 3 + n)) ((6 : Nat) : Int)).toNat) ⟨by omega, by omega, by omega⟩ ⟨rfl, rfl, rfl, rfl⟩ (RLe.refl _) qS
      ·
       refine WS.callAt 5 rfl en32 rfl rfl qD (CallOp.mkT rfl rfl rfl rfl) rfl (PickM_C (j := 0) w0 ([0, 0, 1, 3, 4, 8] : List Int) rfl qD qD ha rfl) ?_
       rintro _ _ _ _ - ⟨rfl, rfl, rfl, rfl⟩
       refine ⟨qR, qS, ?_⟩
       refine lL 10 (Rd.add (Rd.blk 3 rfl) _) ?_
       refine tS 11 ?_
       refine WA.take 12 rfl qK qK qK rfl rfl qD (Yl.index tab_ok rfl rfl rfl rfl rfl rfl (fun _ => rfl) qA qH) qS qR ?_
       refine' WA.take 13 rfl qK qK qK rfl rfl qD (Yl.load1 tab_ok rfl rfl rfl (fun _ => rfl) ?r65 rfl ?h65) qS qR ?_
       case r65 => (exact Rd.slD 0 rfl qX)
       case h65 => rfl
       refine tS 14 ?_
       refine tA 18 ?_
       refine tP 19 ?_
       refine zCF 20 3 ?_
       refine WA.done qK ?_
       refine WE.cut (nth (fvals (upV xs (c + 3) v0) n) ((n : Int) - 1).toNat - nth (fvals (upV xs (c + 3) v0) n) ((n : Int) - (P : Int)).toNat + nth ([0, 0, 1, 3, 4, 8] : List Int) (mod (nth xs (c + 3 + n)) ((6 : Nat) : Int)).toNat) ⟨by omega, by omega, by omega⟩ ⟨rfl, rfl, rfl, rfl⟩ (RLe.refl _) qS
     ·
      refine sL (Rd.add (Rd.blk 3 rfl) _) ?_
      refine tS 11 ?_
      refine WA.take 12 rfl qK qK qK rfl rfl qD (Yl.index tab_ok rfl rfl rfl rfl rfl rfl (fun _ => rfl) qA qH) qS qR ?_
      refine' WA.take 13 rfl qK qK qK rfl rfl qD (Yl.load1 tab_ok rfl rfl rfl (fun _ => rfl) ?r67 rfl ?h67) qS qR ?_
      case r67 => (exact Rd.slD 0 rfl qX)
      case h67 => rfl
      refine WA.br2 (i := 1) (j := 17) qK ?_ ?_
      ·
       refine sL (Rd.add (Rd.blk 3 rfl) _) ?_
       refine WA.take 4 rfl qK qK qK rfl rfl qD (Yl.index tab_ok rfl rfl rfl rfl rfl rfl (fun _ => rfl) qA qH) qS qR ?_
       refine' WA.take 5 rfl qK qK qK rfl rfl qD (Yl.load1 tab_ok rfl rfl rfl (fun _ => rfl) ?r69 rfl ?h69) qS qR ?_
       case r69 => (exact Rd.slD 0 rfl qX)
       case h69 => rfl
       refine tS 14 ?_
       refine WA.callAt 5 17 rfl qK en32 rfl rfl qD (CallOp.mkT rfl rfl rfl rfl) rfl (PickM_C (j := 0) w0 ([0, 0, 1, 3, 4, 8] : List Int) rfl qD qD ha rfl) ?_
       rintro _ _ _ _ - ⟨rfl, rfl, rfl, rfl⟩
       refine ⟨RLe.refl _, qS, ?_⟩
       refine tA 18 ?_
       refine tP 19 ?_
       refine zCF 20 3 ?_
       refine WA.done qK ?_
       refine WE.cut (nth (fvals (upV xs (c + 3) v0) n) ((n : Int) - 1).toNat - nth (fvals (upV xs (c + 3) v0) n) ((n : Int) - (P : Int)).toNat + nth ([0, 0, 1, 3, 4, 8] : List Int) (mod (nth xs (c + 3 + n)) ((6 : Nat) : Int)).toNat) ⟨by omega, by omega, by omega⟩ ⟨rfl, rfl, rfl, rfl⟩ (RLe.refl _) qS
      ·
       refine WS.callAt 5 rfl en32 rfl rfl qD (CallOp.mkT rfl rfl rfl rfl) rfl (PickM_C (j := 0) w0 ([0, 0, 1, 3, 4, 8] : List Int) rfl qD qD ha rfl) ?_
       rintro _ _ _ _ - ⟨rfl, rfl, rfl, rfl⟩
       refine ⟨qR, qS, ?_⟩
       refine lL 1 (Rd.add (Rd.blk 3 rfl) _) ?_
       refine WA.take 4 rfl qK qK qK rfl rfl qD (Yl.index tab_ok rfl rfl rfl rfl rfl rfl (fun _ => rfl) qA qH) qS qR ?_
       refine' WA.take 5 rfl qK qK qK rfl rfl qD (Yl.load1 tab_ok rfl rfl rfl (fun _ => rfl) ?r71 rfl ?h71) qS qR ?_
       case r71 => (exact Rd.slD 0 rfl qX)
       case h71 => rfl
       refine tS 14 ?_
       refine tA 18 ?_
       refine tP 19 ?_
       refine zCF 20 3 ?_
       refine WA.done qK ?_
       refine WE.cut (nth (fvals (upV xs (c + 3) v0) n) ((n : Int) - 1).toNat - nth (fvals (upV xs (c + 3) v0) n) ((n : Int) - (P : Int)).toNat + nth ([0, 0, 1, 3, 4, 8] : List Int) (mod (nth xs (c + 3 + n)) ((6 : Nat) : Int)).toNat) ⟨by omega, by omega, by omega⟩ ⟨rfl, rfl, rfl, rfl⟩ (RLe.refl _) qS
     ·
      refine WS.callAt 5 rfl en32 rfl rfl qD (CallOp.mkT rfl rfl rfl rfl) rfl (PickM_C (j := 0) w0 ([0, 0, 1, 3, 4, 8] : List Int) rfl qD qD ha rfl) ?_
      rintro _ _ _ _ - ⟨rfl, rfl, rfl, rfl⟩
      refine ⟨qR, qS, ?_⟩
      refine WA.br2 (i := 1) (j := 10) qK ?_ ?_
      ·
       refine sL (Rd.add (Rd.blk 3 rfl) _) ?_
       refine WA.take 4 rfl qK qK qK rfl rfl qD (Yl.index tab_ok rfl rfl rfl rfl rfl rfl (fun _ => rfl) qA qH) qS qR ?_
       refine' WA.take 5 rfl qK qK qK rfl rfl qD (Yl.load1 tab_ok rfl rfl rfl (fun _ => rfl) ?r73 rfl ?h73) qS qR ?_
       case r73 => (exact Rd.slD 0 rfl qX)
       case h73 => rfl
       refine lL 10 (Rd.add (Rd.blk 3 rfl) _) ?_
       refine tS 11 ?_
       refine WA.take 12 rfl qK qK qK rfl rfl qD (Yl.index tab_ok rfl rfl rfl rfl rfl rfl (fun _ => rfl) qA qH) qS qR ?_
       refine' WA.take 13 rfl qK qK qK rfl rfl qD (Yl.load1 tab_ok rfl rfl rfl (fun _ => rfl) ?r75 rfl ?h75) qS qR ?_
       case r75 => (exact Rd.slD 0 rfl qX)
       case h75 => rfl
       refine tS 14 ?_
       refine tA 18 ?_
       refine tP 19 ?_
       refine zCF 20 3 ?_
       refine WA.done qK ?_
       refine WE.cut (nth (fvals (upV xs (c + 3) v0) n) ((n : Int) - 1).toNat - nth (fvals (upV xs (c + 3) v0) n) ((n : Int) - (P : Int)).toNat + nth ([0, 0, 1, 3, 4, 8] : List Int) (mod (nth xs (c + 3 + n)) ((6 : Nat) : Int)).toNat) ⟨by omega, by omega, by omega⟩ ⟨rfl, rfl, rfl, rfl⟩ (RLe.refl _) qS
      ·
       refine sL (Rd.add (Rd.blk 3 rfl) _) ?_
       refine tS 11 ?_
       refine WA.take 12 rfl qK qK qK rfl rfl qD (Yl.index tab_ok rfl rfl rfl rfl rfl rfl (fun _ => rfl) qA qH) qS qR ?_
       refine' WA.take 13 rfl qK qK qK rfl rfl qD (Yl.load1 tab_ok rfl rfl rfl (fun _ => rfl) ?r77 rfl ?h77) qS qR ?_
       case r77 => (exact Rd.slD 0 rfl qX)
       case h77 => rfl
       refine lL 1 (Rd.add (Rd.blk 3 rfl) _) ?_
       refine WA.take 4 rfl qK qK qK rfl rfl qD (Yl.index tab_ok rfl rfl rfl rfl rfl rfl (fun _ => rfl) qA qH) qS qR ?_
       refine' WA.take 5 rfl qK qK qK rfl rfl qD (Yl.load1 tab_ok rfl rfl rfl (fun _ => rfl) ?r79 rfl ?h79) qS qR ?_
       case r79 => (exact Rd.slD 0 rfl qX)
       case h79 => rfl
       refine tS 14 ?_
       refine tA 18 ?_
       refine tP 19 ?_
       refine zCF 20 3 ?_
       refine WA.done qK ?_
       refine WE.cut (nth (fvals (upV xs (c + 3) v0) n) ((n : Int) - 1).toNat - nth (fvals (upV xs (c + 3) v0) n) ((n : Int) - (P : Int)).toNat + nth ([0, 0, 1, 3, 4, 8] : List Int) (mod (nth xs (c + 3 + n)) ((6 : Nat) : Int)).toNat) ⟨by omega, by omega, by omega⟩ ⟨rfl, rfl, rfl, rfl⟩ (RLe.refl _) qS
   ·
    refine sL (Rd.add (Rd.blk 2 rfl) _) ?_
    refine tS 11 ?_
    refine WA.br3 (i := 1) (j := 7) (k := 16) qK ?_ ?_ ?_
    ·
     refine sL (Rd.add (Rd.blk 2 rfl) _) ?_
     refine WA.take 4 rfl qK qK qK rfl rfl qD (Yl.index tab_ok rfl rfl rfl rfl rfl rfl (fun _ => rfl) qA qH) qS qR ?_
     refine' WA.take 5 rfl qK qK qK rfl rfl qD (Yl.load1 tab_ok rfl rfl rfl (fun _ => rfl) ?r82 rfl ?h82) qS qR ?_
     case r82 => (exact Rd.slD 0 rfl qX)
     case h82 => rfl
     refine WA.br2 (i := 7) (j := 16) qK ?_ ?_
     ·
      refine sL (Rd.add (Rd.blk 2 rfl) _) ?_
      refine WA.take 12 rfl qK qK qK rfl rfl qD (Yl.index tab_ok rfl rfl rfl rfl rfl rfl (fun _ => rfl) qA qH) qS qR ?_
      refine' WA.take 13 rfl qK qK qK rfl rfl qD (Yl.load1 tab_ok rfl rfl rfl (fun _ => rfl) ?r84 rfl ?h84) qS qR ?_
      case r84 => (exact Rd.slD 0 rfl qX)
      case h84 => rfl
      refine tS 14 ?_
      refine WA.eff 16 rfl qK rfl rfl qD (Ef.buildSliceD (enc := encI) (parts := [.const (.int .i64 0), .const (.int .i64 0), .const (.int .i64 1), .const (.int .i64 3), .const (.int .i64 4), .const (.int .i64 8)]) [_, _, _, _, _, _] tab_ok rfl rfl rfl rfl rfl rfl rfl rfl qD qD (fun a54 => ?_))
      refine ⟨qR, qS, ?_⟩
      refine WA.callAt 5 17 rfl qK en32 rfl rfl qD (CallOp.mkT rfl rfl rfl rfl) rfl (PickM_C (j := 0) w0 ([0, 0, 1, 3, 4, 8] : List Int) rfl qD qD ha rfl) ?_
      rintro _ _ _ _ - ⟨rfl, rfl, rfl, rfl⟩
      refine ⟨RLe.refl _, qS, ?_⟩
      refine tA 18 ?_
      refine tP 19 ?_
      refine zCF 20 3 ?_
      refine WA.done qK ?_
      refine WE.cut (nth (fvals (upV xs (c + 3) v0) n) ((n : Int) - 1).toNat - nth (fvals (upV xs (c + 3) v0) n) ((n : Int) - (P : Int)).toNat + nth ([0, 0, 1, 3, 4, 8] : List Int) (mod (nth xs (c + 3 + n)) ((6 : Nat) : Int)).toNat) ⟨by omega, by omega, by omega⟩ ⟨rfl, rfl, rfl, rfl⟩ (RLe.refl _) qS
     ·
      refine WS.eff rfl rfl rfl qD (Ef.buildSliceD (enc := encI) (parts := [.const (.int .i64 0), .const (.int .i64 0), .const (.int .i64 1), .const (.int .i64 3), .const (.int .i64 4), .const (.int .i64 8)]) [_, _, _, _, _, _] tab_ok rfl rfl rfl rfl rfl rfl rfl rfl qD qD (fun a54 => ?_))
      refine ⟨qR, qS, ?_⟩
      refine WA.br2 (i := 7) (j := 17) qK ?_ ?_
      ·
       refine sL (Rd.add (Rd.blk 3 rfl) _) ?_
       refine WA.take 12 rfl qK qK qK rfl rfl qD (Yl.index tab_ok rfl rfl rfl rfl rfl rfl (fun _ => rfl) qA qH) qS qR ?_
       refine' WA.take 13 rfl qK qK qK rfl rfl qD (Yl.load1 tab_ok rfl rfl rfl (fun _ => rfl) ?r86 rfl ?h86) qS qR ?_
       case r86 => (exact Rd.slD 0 rfl qX)
       case h86 => rfl
       refine tS 14 ?_
       refine WA.callAt 5 17 rfl qK en32 rfl rfl qD (CallOp.mkT rfl rfl rfl rfl) rfl (PickM_C (j := 0) w0 ([0, 0, 1, 3, 4, 8] : List Int) rfl qD qD ha rfl) ?_
       rintro _ _ _ _ - ⟨rfl, rfl, rfl, rfl⟩
       refine ⟨RLe.refl _, qS, ?_⟩
       refine tA 18 ?_
       refine tP 19 ?_
       refine zCF 20 3 ?_
       refine WA.done qK ?_
       refine WE.cut (nth (fvals (upV xs (c + 3) v0) n) ((n : Int) - 1).toNat - nth (fvals (upV xs (c + 3) v0) n) ((n : Int) - (P : Int)).toNat + nth ([0, 0, 1, 3, 4, 8] : List Int) (mod (nth xs (c + 3 + n)) ((6 : Nat) : Int)).toNat) ⟨by omega, by omega, by omega⟩ ⟨rfl, rfl, rfl, rfl⟩ (RLe.refl _) qS
      ·
       refine WS.callAt 5 rfl en32 rfl rfl qD (CallOp.mkT rfl rfl rfl rfl) rfl (PickM_C (j := 0) w0 ([0, 0, 1, 3, 4, 8] : List Int) rfl qD qD ha rfl) ?_
       rintro _ _ _ _ - ⟨rfl, rfl, rfl, rfl⟩
       refine ⟨qR, qS, ?_⟩
       refine lL 7 (Rd.add (Rd.blk 3 rfl) _) ?_
       refine WA.take 12 rfl qK qK qK rfl rfl qD (Yl.index tab_ok rfl rfl rfl rfl rfl rfl (fun _ => rfl) qA qH) qS qR ?_
       refine' WA.take 13 rfl qK qK qK rfl rfl qD (Yl.load1 tab_ok rfl rfl rfl (fun _ => rfl) ?r88 rfl ?h88) qS qR ?_
       case r88 => (exact Rd.slD 0 rfl qX)
       case h88 => rfl
       refine tS 14 ?_
       refine tA 18 ?_
       refine tP 19 ?_
       refine zCF 20 3 ?_
       refine WA.done qK ?_
       refine WE.cut (nth (fvals (upV xs (c + 3) v0) n) ((n : Int) - 1).toNat - nth (fvals (upV xs (c + 3) v0) n) ((n : Int) - (P : Int)).toNat + nth ([0, 0, 1, 3, 4, 8] : List Int) (mod (nth xs (c + 3 + n)) ((6 : Nat) : Int)).toNat) ⟨by omega, by omega, by omega⟩ ⟨rfl, rfl, rfl, rfl⟩ (RLe.refl _) qS
    ·
     refine sL (Rd.add (Rd.blk 2 rfl) _) ?_
     refine WA.take 12 rfl qK qK qK rfl rfl qD (Yl.index tab_ok rfl rfl rfl rfl rfl rfl (fun _ => rfl) qA qH) qS qR ?_
     refine' WA.take 13 rfl qK qK qK rfl rfl qD (Yl.load1 tab_ok rfl rfl rfl (fun _ => rfl) ?r90 rfl ?h90) qS qR ?_
     case r90 => (exact Rd.slD 0 rfl qX)
     case h90 => rfl
     refine WA.br2 (i := 1) (j := 16) qK ?_ ?_
     ·
      refine sL (Rd.add (Rd.blk 2 rfl) _) ?_
      refine WA.take 4 rfl qK qK qK rfl rfl qD (Yl.index tab_ok rfl rfl rfl rfl rfl rfl (fun _ => rfl) qA qH) qS qR ?_
      refine' WA.take 5 rfl qK qK qK rfl rfl qD (Yl.load1 tab_ok rfl rfl rfl (fun _ => rfl) ?r92 rfl ?h92) qS qR ?_
      case r92 => (exact Rd.slD 0 rfl qX)
      case h92 => rfl
      refine tS 14 ?_
      refine WA.eff 16 rfl qK rfl rfl qD (Ef.buildSliceD (enc := encI) (parts := [.const (.int .i64 0), .const (.int .i64 0), .const (.int .i64 1), .const (.int .i64 3), .const (.int .i64 4), .const (.int .i64 8)]) [_, _, _, _, _, _] tab_ok rfl rfl rfl rfl rfl rfl rfl rfl qD qD (fun a54 => ?_))
      refine ⟨qR, qS, ?_⟩
      refine WA.callAt 5 17 rfl qK en32 rfl rfl qD (CallOp.mkT rfl rfl rfl rfl) rfl (PickM_C (j := 0) w0 ([0, 0, 1, 3, 4, 8] : List Int) rfl qD qD ha rfl) ?_
      rintro _ _ _ _ - ⟨rfl, rfl, rfl, rfl⟩
      refine ⟨RLe.refl _, qS, ?_⟩
      refine tA 18 ?_
      refine tP 19 ?_
      refine zCF 20 3 ?_
      refine WA.done qK ?_
      refine WE.cut (nth (fvals (upV xs (c + 3) v0) n) ((n : Int) - 1).toNat - nth (fvals (upV xs (c + 3) v0) n) ((n : Int) - (P : Int)).toNat + nth ([0, 0, 1, 3, 4, 8] : List Int) (mod (nth xs (c + 3 + n)) ((6 : Nat) : Int)).toNat) ⟨by omega, by omega, by omega⟩ ⟨rfl, rfl, rfl, rfl⟩ (RLe.refl _) qS
     ·
      refine WS.eff rfl rfl rfl qD (Ef.buildSliceD (enc := encI) (parts := [.const (.int .i64 0), .const (.int .i64 0), .const (.int .i64 1), .const (.int .i64 3), .const (.int .i64 4), .const (.int .i64 8)]) [_, _, _, _, _, _] tab_ok rfl rfl rfl rfl rfl rfl rfl rfl qD qD (fun a54 => ?_))
      refine ⟨qR, qS, ?_⟩
      refine WA.br2 (i := 1) (j := 17) qK ?_ ?_
      ·
       refine sL (Rd.add (Rd.blk 3 rfl) _) ?_
       refine WA.take 4 rfl qK qK qK rfl rfl qD (Yl.index tab_ok rfl rfl rfl rfl rfl rfl (fun _ => rfl) qA qH) qS qR ?_
       refine' WA.take 5 rfl qK qK qK rfl rfl qD (Yl.load1 tab_ok rfl rfl rfl (fun _ => rfl) ?r94 rfl ?h94) qS qR ?_
       case r94 => (exact Rd.slD 0 rfl qX)
       case h94 => rfl
       refine tS 14 ?_
       refine WA.callAt 5 17 rfl qK en32 rfl rfl qD (CallOp.mkT rfl rfl rfl rfl) rfl (PickM_C (j := 0) w0 ([0, 0, 1, 3, 4, 8] : List Int) rfl qD qD ha rfl) ?_
       rintro _ _ _ _ - ⟨rfl, rfl, rfl, rfl⟩
       refine ⟨RLe.refl _, qS, ?_⟩
       refine tA 18 ?_
       refine tP 19 ?_
       refine zCF 20 3 ?_
       refine WA.done qK ?_
       refine WE.cut (nth (fvals (upV xs (c + 3) v0) n) ((n : Int) - 1).toNat - nth (fvals (upV xs (c + 3) v0) n) ((n : Int) - (P : Int)).toNat + nth ([0, 0, 1, 3, 4, 8] : List Int) (mod (nth xs (c + 3 + n)) ((6 : Nat) : Int)).toNat) ⟨by omega, by omega, by omega⟩ ⟨rfl, rfl, rfl, rfl⟩ (RLe.refl _) qS
      ·
       refine WS.callAt 5 rfl en32 rfl rfl qD (CallOp.mkT rfl rfl rfl rfl) rfl (PickM_C (j := 0) w0 ([0, 0, 1, 3, 4, 8] : List Int) rfl qD qD ha rfl) ?_
       rintro _ _ _ _ - ⟨rfl, rfl, rfl, rfl⟩
       refine ⟨qR, qS, ?_⟩
       refine lL 1 (Rd.add (Rd.blk 3 rfl) _) ?_
       refine WA.take 4 rfl qK qK qK rfl rfl qD (Yl.index tab_ok rfl rfl rfl rfl rfl rfl (fun _ => rfl) qA qH) qS qR ?_
       refine' WA.take 5 rfl qK qK qK rfl rfl qD (Yl.load1 tab_ok rfl rfl rfl (fun _ => rfl) ?r96 rfl ?h96) qS qR ?_
       case r96 => (exact Rd.slD 0 rfl qX)
       case h96 => rfl
       refine tS 14 ?_
       refine tA 18 ?_
       refine tP 19 ?_
       refine zCF 20 3 ?_
       refine WA.done qK ?_
       refine WE.cut (nth (fvals (upV xs (c + 3) v0) n) ((n : Int) - 1).toNat - nth (fvals (upV xs (c + 3) v0) n) ((n : Int) - (P : Int)).toNat + nth ([0, 0, 1, 3, 4, 8] : List Int) (mod (nth xs (c + 3 + n)) ((6 : Nat) : Int)).toNat) ⟨by omega, by omega, by omega⟩ ⟨rfl, rfl, rfl, rfl⟩ (RLe.refl _) qS
    ·
     refine WS.eff rfl rfl rfl qD (Ef.buildSliceD (enc := encI) (parts := [.const (.int .i64 0), .const (.int .i64 0), .const (.int .i64 1), .const (.int .i64 3), .const (.int .i64 4), .const (.int .i64 8)]) [_, _, _, _, _, _] tab_ok rfl rfl rfl rfl rfl rfl rfl rfl qD qD (fun a54 => ?_))
     refine ⟨qR, qS, ?_⟩
     refine WA.br3 (i := 1) (j := 7) (k := 17) qK ?_ ?_ ?_
     ·
      refine sL (Rd.add (Rd.blk 3 rfl) _) ?_
      refine WA.take 4 rfl qK qK qK rfl rfl qD (Yl.index tab_ok rfl rfl rfl rfl rfl rfl (fun _ => rfl) qA qH) qS qR ?_
      refine' WA.take 5 rfl qK qK qK rfl rfl qD (Yl.load1 tab_ok rfl rfl rfl (fun _ => rfl) ?r98 rfl ?h98) qS qR ?_
      case r98 => (exact Rd.slD 0 rfl qX)
      case h98 => rfl
      refine WA.br2 (i := 7) (j := 17) qK ?_ ?_
      ·
       refine sL (Rd.add (Rd.blk 3 rfl) _) ?_
       refine WA.take 12 rfl qK qK qK rfl rfl qD (Yl.index tab_ok rfl rfl rfl rfl rfl rfl (fun _ => rfl) qA qH) qS qR ?_
       refine' WA.take 13 rfl qK qK qK rfl rfl qD (Yl.load1 tab_ok rfl rfl rfl (fun _ => rfl) ?r100 rfl ?h100) qS qR ?_
       case r100 => (exact Rd.slD 0 rfl qX)
       case h100 => rfl
       refine tS 14 ?_
       refine WA.callAt 5 17 rfl qK en32 rfl rfl qD (CallOp.mkT rfl rfl rfl rfl) rfl (PickM_C (j := 0) w0 ([0, 0, 1, 3, 4, 8] : List Int) rfl qD qD ha rfl) ?_
       rintro _ _ _ _ - ⟨rfl, rfl, rfl, rfl⟩
       refine ⟨RLe.refl _, qS, ?_⟩
       refine tA 18 ?_
       refine tP 19 ?_
       refine zCF 20 3 ?_
       refine WA.done qK ?_
       refine WE.cut (nth (fvals (upV xs (c + 3) v0) n) ((n : Int) - 1).toNat - nth (fvals (upV xs (c + 3) v0) n) ((n : Int) - (P : Int)).toNat + nth ([0, 0, 1, 3, 4, 8] : List Int) (mod (nth xs (c + 3 + n)) ((6 : Nat) : Int)).toNat) ⟨by omega, by omega, by omega⟩ ⟨rfl, rfl, rfl, rfl⟩ (RLe.refl _) qS
      ·
       refine WS.callAt 5 rfl en32 rfl rfl qD (CallOp.mkT rfl rfl rfl rfl) rfl (PickM_C (j := 0) w0 ([0, 0, 1, 3, 4, 8] : List Int) rfl qD qD ha rfl) ?_
       rintro _ _ _ _ - ⟨rfl, rfl, rfl, rfl⟩
       refine ⟨qR, qS, ?_⟩
       refine lL 7 (Rd.add (Rd.blk 3 rfl) _) ?_
       refine WA.take 12 rfl qK qK qK rfl rfl qD (Yl.index tab_ok rfl rfl rfl rfl rfl rfl (fun _ => rfl) qA qH) qS qR ?_
       refine' WA.take 13 rfl qK qK qK rfl rfl qD (Yl.load1 tab_ok rfl rfl rfl (fun _ => rfl) ?r102 rfl ?h102) qS qR ?_
       case r102 => (exact Rd.slD 0 rfl qX)
       case h102 => rfl
       refine tS 14 ?_
       refine tA 18 ?_
       refine tP 19 ?_
       refine zCF 20 3 ?_
       refine WA.done qK ?_
       refine WE.cut (nth (fvals (upV xs (c + 3) v0) n) ((n : Int) - 1).toNat - nth (fvals (upV xs (c + 3) v0) n) ((n : Int) - (P : Int)).toNat + nth ([0, 0, 1, 3, 4, 8] : List Int) (mod (nth xs (c + 3 + n)) ((6 : Nat) : Int)).toNat) ⟨by omega, by omega, by omega⟩ ⟨rfl, rfl, rfl, rfl⟩ (RLe.refl _) qS
     ·
      refine sL (Rd.add (Rd.blk 3 rfl) _) ?_
      refine WA.take 12 rfl qK qK qK rfl rfl qD (Yl.index tab_ok rfl rfl rfl rfl rfl rfl (fun _ => rfl) qA qH) qS qR ?_
      refine' WA.take 13 rfl qK qK qK rfl rfl qD (Yl.load1 tab_ok rfl rfl rfl (fun _ => rfl) ?r104 rfl ?h104) qS qR ?_
      case r104 => (exact Rd.slD 0 rfl qX)
      case h104 => rfl
      refine WA.br2 (i := 1) (j := 17) qK ?_ ?_
      ·
       refine sL (Rd.add (Rd.blk 3 rfl) _) ?_
       refine WA.take 4 rfl qK qK qK rfl rfl qD (Yl.index tab_ok rfl rfl rfl rfl rfl rfl (fun _ => rfl) qA qH) qS qR ?_
       refine' WA.take 5 rfl qK qK qK rfl rfl qD (Yl.load1 tab_ok rfl rfl rfl (fun _ => rfl) ?r106 rfl ?h106) qS qR ?_
       case r106 => (exact Rd.slD 0 rfl qX)
       case h106 => rfl
       refine tS 14 ?_
       refine WA.callAt 5 17 rfl qK en32 rfl rfl qD (CallOp.mkT rfl rfl rfl rfl) rfl (PickM_C (j := 0) w0 ([0, 0, 1, 3, 4, 8] : List Int) rfl qD qD ha rfl) ?_
       rintro _ _ _ _ - ⟨rfl, rfl, rfl, rfl⟩
       refine ⟨RLe.refl _, qS, ?_⟩
       refine tA 18 ?_
       refine tP 19 ?_
       refine zCF 20 3 ?_
       refine WA.done qK ?_
       refine WE.cut (nth (fvals (upV xs (c + 3) v0) n) ((n : Int) - 1).toNat - nth (fvals (upV xs (c + 3) v0) n) ((n : Int) - (P : Int)).toNat + nth ([0, 0, 1, 3, 4, 8] : List Int) (mod (nth xs (c + 3 + n)) ((6 : Nat) : Int)).toNat) ⟨by omega, by omega, by omega⟩ ⟨rfl, rfl, rfl, rfl⟩ (RLe.refl _) qS
      ·
       refine WS.callAt 5 rfl en32 rfl rfl qD (CallOp.mkT rfl rfl rfl rfl) rfl (PickM_C (j := 0) w0 ([0, 0, 1, 3, 4, 8] : List Int) rfl qD qD ha rfl) ?_
       rintro _ _ _ _ - ⟨rfl, rfl, rfl, rfl⟩
       refine ⟨qR, qS, ?_⟩
       refine lL 1 (Rd.add (Rd.blk 3 rfl) _) ?_
       refine WA.take 4 rfl qK qK qK rfl rfl qD (Yl.index tab_ok rfl rfl rfl rfl rfl rfl (fun _ => rfl) qA qH) qS qR ?_
       refine' WA.take 5 rfl qK qK qK rfl rfl qD (Yl.load1 tab_ok rfl rfl rfl (fun _ => rfl) ?r108 rfl ?h108) qS qR ?_
       case r108 => (exact Rd.slD 0 rfl qX)
       case h108 => rfl
       refine tS 14 ?_
       refine tA 18 ?_
       refine tP 19 ?_
       refine zCF 20 3 ?_
       refine WA.done qK ?_
       refine WE.cut (nth (fvals (upV xs (c + 3) v0) n) ((n : Int) - 1).toNat - nth (fvals (upV xs (c + 3) v0) n) ((n : Int) - (P : Int)).toNat + nth ([0, 0, 1, 3, 4, 8] : List Int) (mod (nth xs (c + 3 + n)) ((6 : Nat) : Int)).toNat) ⟨by omega, by omega, by omega⟩ ⟨rfl, rfl, rfl, rfl⟩ (RLe.refl _) qS
     ·
      refine WS.callAt 5 rfl en32 rfl rfl qD (CallOp.mkT rfl rfl rfl rfl) rfl (PickM_C (j := 0) w0 ([0, 0, 1, 3, 4, 8] : List Int) rfl qD qD ha rfl) ?_
      rintro _ _ _ _ - ⟨rfl, rfl, rfl, rfl⟩
      refine ⟨qR, qS, ?_⟩
      refine WA.br2 (i := 1) (j := 7) qK ?_ ?_
      ·
       refine sL (Rd.add (Rd.blk 3 rfl) _) ?_
       refine WA.take 4 rfl qK qK qK rfl rfl qD (Yl.index tab_ok rfl rfl rfl rfl rfl rfl (fun _ => rfl) qA qH) qS qR ?_
       refine' WA.take 5 rfl qK qK qK rfl rfl qD (Yl.load1 tab_ok rfl rfl rfl (fun _ => rfl) ?r110 rfl ?h110) qS qR ?_
       case r110 => (exact Rd.slD 0 rfl qX)
       case h110 => rfl
       refine lL 7 (Rd.add (Rd.blk 3 rfl) _) ?_
       refine WA.take 12 rfl qK qK qK rfl rfl qD (Yl.index tab_ok rfl rfl rfl rfl rfl rfl (fun _ => rfl) qA qH) qS qR ?_
       refine' WA.take 13 rfl qK qK qK rfl rfl qD (Yl.load1 tab_ok rfl rfl rfl (fun _ => rfl) ?r112 rfl ?h112) qS qR ?_
       case r112 => (exact Rd.slD 0 rfl qX)
       case h112 => rfl
       refine tS 14 ?_
       refine tA 18 ?_
       refine tP 19 ?_
       refine zCF 20 3 ?_
       refine WA.done qK ?_
       refine WE.cut (nth (fvals (upV xs (c + 3) v0) n) ((n : Int) - 1).toNat - nth (fvals (upV xs (c + 3) v0) n) ((n : Int) - (P : Int)).toNat + nth ([0, 0, 1, 3, 4, 8] : List Int) (mod (nth xs (c + 3 + n)) ((6 : Nat) : Int)).toNat) ⟨by omega, by omega, by omega⟩ ⟨rfl, rfl, rfl, rfl⟩ (RLe.refl _) qS
      ·
       refine sL (Rd.add (Rd.blk 3 rfl) _) ?_
       refine WA.take 12 rfl qK qK qK rfl rfl qD (Yl.index tab_ok rfl rfl rfl rfl rfl rfl (fun _ => rfl) qA qH) qS qR ?_
       refine' WA.take 13 rfl qK qK qK rfl rfl qD (Yl.load1 tab_ok rfl rfl rfl (fun _ => rfl) ?r114 rfl ?h114) qS qR ?_
       case r114 => (exact Rd.slD 0 rfl qX)
       case h114 => rfl
       refine lL 1 (Rd.add (Rd.blk 3 rfl) _) ?_
       refine WA.take 4 rfl qK qK qK rfl rfl qD (Yl.index tab_ok rfl rfl rfl rfl rfl rfl (fun _ => rfl) qA qH) qS qR ?_
       refine' WA.take 5 rfl qK qK qK rfl rfl qD (Yl.load1 tab_ok rfl rfl rfl (fun _ => rfl) ?r116 rfl ?h116) qS qR ?_
       case r116 => (exact Rd.slD 0 rfl qX)
       case h116 => rfl
       refine tS 14 ?_
       refine tA 18 ?_
       refine tP 19 ?_
       refine zCF 20 3 ?_
       refine WA.done qK ?_
       refine WE.cut (nth (fvals (upV xs (c + 3) v0) n) ((n : Int) - 1).toNat - nth (fvals (upV xs (c + 3) v0) n) ((n : Int) - (P : Int)).toNat + nth ([0, 0, 1, 3, 4, 8] : List Int) (mod (nth xs (c + 3 + n)) ((6 : Nat) : Int)).toNat) ⟨by omega, by omega, by omega⟩ ⟨rfl, rfl, rfl, rfl⟩ (RLe.refl _) qS
   ·
    refine WS.eff rfl rfl rfl qD (Ef.buildSliceD (enc := encI) (parts := [.const (.int .i64 0), .const (.int .i64 0), .const (.int .i64 1), .const (.int .i64 3), .const (.int .i64 4), .const (.int .i64 8)]) [_, _, _, _, _, _] tab_ok rfl rfl rfl rfl rfl rfl rfl rfl qD qD (fun a54 => ?_))
    refine ⟨qR, qS, ?_⟩
    refine WA.br4 (i := 1) (j := 7) (k := 10) (l := 17) qK ?_ ?_ ?_ ?_
    ·
     refine sL (Rd.add (Rd.blk 3 rfl) _) ?_
     refine WA.take 4 rfl qK qK qK rfl rfl qD (Yl.index tab_ok rfl rfl rfl rfl rfl rfl (fun _ => rfl) qA qH) qS qR ?_
     refine' WA.take 5 rfl qK qK qK rfl rfl qD (Yl.load1 tab_ok rfl rfl rfl (fun _ => rfl) ?r118 rfl ?h118) qS qR ?_
     case r118 => (exact Rd.slD 0 rfl qX)
     case h118 => rfl
     refine WA.br3 (i := 7) (j := 10) (k := 17) qK ?_ ?_ ?_
     ·
      refine sL (Rd.add (Rd.blk 3 rfl) _) ?_
      refine WA.br2 (i := 10) (j := 17) qK ?_ ?_
      ·
       refine sL (Rd.add (Rd.blk 3 rfl) _) ?_
       refine tS 11 ?_
       refine WA.take 12 rfl qK qK qK rfl rfl qD (Yl.index tab_ok rfl rfl rfl rfl rfl rfl (fun _ => rfl) qA qH) qS qR ?_
       refine' WA.take 13 rfl qK qK qK rfl rfl qD (Yl.load1 tab_ok rfl rfl rfl (fun _ => rfl) ?r121 rfl ?h121) qS qR ?_
       case r121 => (exact Rd.slD 0 rfl qX)
       case h121 => rfl
       refine tS 14 ?_
       refine WA.callAt 5 17 rfl qK en32 rfl rfl qD (CallOp.mkT rfl rfl rfl rfl) rfl (PickM_C (j := 0) w0 ([0, 0, 1, 3, 4, 8] : List Int) rfl qD qD ha rfl) ?_
       rintro _ _ _ _ - ⟨rfl, rfl, rfl, rfl⟩
       refine ⟨RLe.refl _, qS, ?_⟩
       refine tA 18 ?_
       refine tP 19 ?_
       refine zCF 20 3 ?_
       refine WA.done qK ?_
       refine WE.cut (nth (fvals (upV xs (c + 3) v0) n) ((n : Int) - 1).toNat - nth (fvals (upV xs (c + 3) v0) n) ((n : Int) - (P : Int)).toNat + nth ([0, 0, 1, 3, 4, 8] : List Int) (mod (nth xs (c + 3 + n)) ((6 : Nat) : Int)).toNat) ⟨by omega, by omega, by omega⟩ ⟨rfl, rfl, rfl, rfl⟩ (RLe.refl _) qS
      ·
       refine WS.callAt 5 rfl en32 rfl rfl qD (CallOp.mkT rfl rfl rfl rfl) rfl (PickM_C (j := 0) w0 ([0, 0, 1, 3, 4, 8] : List Int) rfl qD qD ha rfl) ?_
       rintro _ _ _ _ - ⟨rfl, rfl, rfl, rfl⟩
       refine ⟨qR, qS, ?_⟩
       refine lL 10 (Rd.add (Rd.blk 3 rfl) _) ?_
       refine tS 11 ?_
       refine WA.take 12 rfl qK qK qK rfl rfl qD (Yl.index tab_ok rfl rfl rfl rfl rfl rfl (fun _ => rfl) qA qH) qS qR ?_
       refine' WA.take 13 rfl qK qK qK rfl rfl qD (Yl.load1 tab_ok rfl rfl rfl (fun _ => rfl) ?r123 rfl ?h123) qS qR ?_
       case r123 => (exact Rd.slD 0 rfl qX)
       case h123 => rfl
       refine tS 14 ?_
       refine tA 18 ?_
       refine tP 19 ?_
       refine zCF 20 3 ?_
       refine WA.done qK ?_
       refine WE.cut (nth (fvals (upV xs (c + 3) v0) n) ((n : Int) - 1).toNat - nth (fvals (upV xs (c + 3) v0) n) ((n : Int) - (P : Int)).toNat + nth ([0, 0, 1, 3, 4, 8] : List Int) (mod (nth xs (c + 3 + n)) ((6 : Nat) : Int)).toNat) ⟨by omega, by omega, by omega⟩ ⟨rfl, rfl, rfl, rfl⟩ (RLe.refl _) qS
     ·
      refine sL (Rd.add (Rd.blk 3 rfl) _) ?_
      refine tS 11 ?_
      refine WA.br2 (i := 7) (j := 17) qK ?_ ?_
      ·
       refine sL (Rd.add (Rd.blk 3 rfl) _) ?_
       refine WA.take 12 rfl qK qK qK rfl rfl qD (Yl.index tab_ok rfl rfl rfl rfl rfl rfl (fun _ => rfl) qA qH) qS qR ?_
       refine' WA.take 13 rfl qK qK qK rfl rfl qD (Yl.load1 tab_ok rfl rfl rfl (fun _ => rfl) ?r126 rfl ?h126) qS qR ?_
       case r126 => (exact Rd.slD 0 rfl qX)
       case h126 => rfl
       refine tS 14 ?_
       refine WA.callAt 5 17 rfl qK en32 rfl rfl qD (CallOp.mkT rfl rfl rfl rfl) rfl (PickM_C (j := 0) w0 ([0, 0, 1, 3, 4, 8] : List Int) rfl qD qD ha rfl) ?_
       rintro _ _ _ _ - ⟨rfl, rfl, rfl, rfl⟩
       refine ⟨RLe.refl _, qS, ?_⟩
       refine tA 18 ?_
       refine tP 19 ?_
       refine zCF 20 3 ?_
       refine WA.done qK ?_
       refine WE.cut (nth (fvals (upV xs (c + 3) v0) n) ((n : Int) - 1).toNat - nth (fvals (upV xs (c + 3) v0) n) ((n : Int) - (P : Int)).toNat + nth ([0, 0, 1, 3, 4, 8] : List Int) (mod (nth xs (c + 3 + n)) ((6 : Nat) : Int)).toNat) ⟨by omega, by omega, by omega⟩ ⟨rfl, rfl, rfl, rfl⟩ (RLe.refl _) qS
      ·
       refine WS.callAt 5 rfl en32 rfl rfl qD (CallOp.mkT rfl rfl rfl rfl) rfl (PickM_C (j := 0) w0 ([0, 0, 1, 3, 4, 8] : List Int) rfl qD qD ha rfl) ?_
       rintro _ _ _ _ - ⟨rfl, rfl, rfl, rfl⟩
       refine ⟨qR, qS, ?_⟩
       refine lL 7 (Rd.add (Rd.blk 3 rfl) _) ?_
       refine WA.take 12 rfl qK qK qK rfl rfl qD (Yl.index tab_ok rfl rfl rfl rfl rfl rfl (fun _ => rfl) qA qH) qS qR ?_
       refine' WA.take 13 rfl qK qK qK rfl rfl qD (Yl.load1 tab_ok rfl rfl rfl (fun _ => rfl) ?r128 rfl ?h128) qS qR ?_
       case r128 => (exact Rd.slD 0 rfl qX)
       case h128 => rfl
       refine tS 14 ?_
       refine tA 18 ?_
       refine tP 19 ?_
       refine zCF 20 3 ?_
       refine WA.done qK ?_
       refine WE.cut (nth (fvals (upV xs (c + 3) v0) n) ((n : Int) - 1).toNat - nth (fvals (upV xs (c + 3) v0) n) ((n : Int) - (P : Int)).toNat + nth ([0, 0, 1, 3, 4, 8] : List Int) (mod (nth xs (c + 3 + n)) ((6 : Nat) : Int)).toNat) ⟨by omega, by omega, by omega⟩ ⟨rfl, rfl, rfl, rfl⟩ (RLe.refl _) qS
     ·
      refine WS.callAt 5 rfl en32 rfl rfl qD (CallOp.mkT rfl rfl rfl rfl) rfl (PickM_C (j := 0) w0 ([0, 0, 1, 3, 4, 8] : List Int) rfl qD qD ha rfl) ?_
      rintro _ _ _ _ - ⟨rfl, rfl, rfl, rfl⟩
      refine ⟨qR, qS, ?_⟩
      refine WA.br2 (i := 7) (j := 10) qK ?_ ?_
      ·
       refine sL (Rd.add (Rd.blk 3 rfl) _) ?_
       refine lL 10 (Rd.add (Rd.blk 3 rfl) _) ?_
       refine tS 11 ?_
       refine WA.take 12 rfl qK qK qK rfl rfl qD (Yl.index tab_ok rfl rfl rfl rfl rfl rfl (fun _ => rfl) qA qH) qS qR ?_
       refine' WA.take 13 rfl qK qK qK rfl rfl qD (Yl.load1 tab_ok rfl rfl rfl (fun _ => rfl) ?r131 rfl ?h131) qS qR ?_
       case r131 => (exact Rd.slD 0 rfl qX)
       case h131 => rfl
       refine tS 14 ?_
       refine tA 18 ?_
       refine tP 19 ?_
       refine zCF 20 3 ?_
       refine WA.done qK ?_
       refine WE.cut (nth (fvals (upV xs (c + 3) v0) n) ((n : Int) - 1).toNat - nth (fvals (upV xs (c + 3) v0) n) ((n : Int) - (P : Int)).toNat + nth ([0, 0, 1, 3, 4, 8] : List Int) (mod (nth xs (c + 3 + n)) ((6 : Nat) : Int)).toNat) ⟨by omega, by omega, by omega⟩ ⟨rfl, rfl, rfl, rfl⟩ (RLe.refl _) qS
      ·
       refine sL (Rd.add (Rd.blk 3 rfl) _) ?_
       refine tS 11 ?_
       refine lL 7 (Rd.add (Rd.blk 3 rfl) _) ?_
       refine WA.take 12 rfl qK qK qK rfl rfl qD (Yl.index tab_ok rfl rfl rfl rfl rfl rfl (fun _ => rfl) qA qH) qS qR ?_
       refine' WA.take 13 rfl qK qK qK rfl rfl qD (Yl.load1 tab_ok rfl rfl rfl (fun _ => rfl) ?r134 rfl ?h134) qS qR ?_
       case r134 => (exact Rd.slD 0 rfl qX)
       case h134 => rfl
       refine tS 14 ?_
       refine tA 18 ?_
       refine tP 19 ?_
       refine zCF 20 3 ?_
       refine WA.done qK ?_
       refine WE.cut (nth (fvals (upV xs (c + 3) v0) n) ((n : Int) - 1).toNat - nth (fvals (upV xs (c + 3) v0) n) ((n : Int) - (P : Int)).toNat + nth ([0, 0, 1, 3, 4, 8] : List Int) (mod (nth xs (c + 3 + n)) ((6 : Nat) : Int)).toNat) ⟨by omega, by omega, by omega⟩ ⟨rfl, rfl, rfl, rfl⟩ (RLe.refl _) qS
    ·
     refine sL (Rd.add (Rd.blk 3 rfl) _) ?_
     refine WA.br3 (i := 1) (j := 10) (k := 17) qK ?_ ?_ ?_
     ·
      refine sL (Rd.add (Rd.blk 3 rfl) _) ?_
      refine WA.take 4 rfl qK qK qK rfl rfl qD (Yl.index tab_ok rfl rfl rfl rfl rfl rfl (fun _ => rfl) qA qH) qS qR ?_
      refine' WA.take 5 rfl qK qK qK rfl rfl qD (Yl.load1 tab_ok rfl rfl rfl (fun _ => rfl) ?r137 rfl ?h137) qS qR ?_
      case r137 => (exact Rd.slD 0 rfl qX)
      case h137 => rfl
      refine WA.br2 (i := 10) (j := 17) qK ?_ ?_
      ·
       refine sL (Rd.add (Rd.blk 3 rfl) _) ?_
       refine tS 11 ?_
       refine WA.take 12 rfl qK qK qK rfl rfl qD (Yl.index tab_ok rfl rfl rfl rfl rfl rfl (fun _ => rfl) qA qH) qS qR ?_
       refine' WA.take 13 rfl qK qK qK rfl rfl qD (Yl.load1 tab_ok rfl rfl rfl (fun _ => rfl) ?r139 rfl ?h139) qS qR ?_
       case r139 => (exact Rd.slD 0 rfl qX)
       case h139 => rfl
       refine tS 14 ?_
       refine WA.callAt 5 17 rfl qK en32 rfl rfl qD (CallOp.mkT rfl rfl rfl rfl) rfl (PickM_C (j := 0) w0 ([0, 0, 1, 3, 4, 8] : List Int) rfl qD qD ha rfl) ?_
       rintro _ _ _ _ - ⟨rfl, rfl, rfl, rfl⟩
       refine ⟨RLe.refl _, qS, ?_⟩
       refine tA 18 ?_
       refine tP 19 ?_
       refine zCF 20 3 ?_
       refine WA.done qK ?_
       refine WE.cut (nth (fvals (upV xs (c + 3) v0) n) ((n : Int) - 1).toNat - nth (fvals (upV xs (c + 3) v0) n) ((n : Int) - (P : Int)).toNat + nth ([0, 0, 1, 3, 4, 8] : List Int) (mod (nth xs (c + 3 + n)) ((6 : Nat) : Int)).toNat) ⟨by omega, by omega, by omega⟩ ⟨rfl, rfl, rfl, rfl⟩ (RLe.refl _) qS
      ·
       refine WS.callAt 5 rfl en32 rfl rfl qD (CallOp.mkT rfl rfl rfl rfl) rfl (PickM_C (j := 0) w0 ([0, 0, 1, 3, 4, 8] : List Int) rfl qD qD ha rfl) ?_
       rintro _ _ _ _ - ⟨rfl, rfl, rfl, rfl⟩
       refine ⟨qR, qS, ?_⟩
       refine lL 10 (Rd.add (Rd.blk 3 rfl) _) ?_
       refine tS 11 ?_
       refine WA.take 12 rfl qK qK qK rfl rfl qD (Yl.index tab_ok rfl rfl rfl rfl rfl rfl (fun _ => rfl) qA qH) qS qR ?_
       refine' WA.take 13 rfl qK qK qK rfl rfl qD (Yl.load1 tab_ok rfl rfl rfl (fun _ => rfl) ?r141 rfl ?h141) qS qR ?_
       case r141 => (exact Rd.slD 0 rfl qX)
       case h141 => rfl
       refine tS 14 ?_
       refine tA 18 ?_
       refine tP 19 ?_
       refine zCF 20 3 ?_
       refine WA.done qK ?_
       refine WE.cut (nth (fvals (upV xs (c + 3) v0) n) ((n : Int) - 1).toNat - nth (fvals (upV xs (c + 3) v0) n) ((n : Int) - (P : Int)).toNat + nth ([0, 0, 1, 3, 4, 8] : List Int) (mod (nth xs (c + 3 + n)) ((6 : Nat) : Int)).toNat) ⟨by omega, by omega, by omega⟩ ⟨rfl, rfl, rfl, rfl⟩ (RLe.refl _) qS
     ·
      refine sL (Rd.add (Rd.blk 3 rfl) _) ?_
      refine tS 11 ?_
      refine WA.take 12 rfl qK qK qK rfl rfl qD (Yl.index tab_ok rfl rfl rfl rfl rfl rfl (fun _ => rfl) qA qH) qS qR ?_
      refine' WA.take 13 rfl qK qK qK rfl rfl qD (Yl.load1 tab_ok rfl rfl rfl (fun _ => rfl) ?r143 rfl ?h143) qS qR ?_
      case r143 => (exact Rd.slD 0 rfl qX)
      case h143 => rfl
      refine WA.br2 (i := 1) (j := 17) qK ?_ ?_
      ·
       refine sL (Rd.add (Rd.blk 3 rfl) _) ?_
       refine WA.take 4 rfl qK qK qK rfl rfl qD (Yl.index tab_ok rfl rfl rfl rfl rfl rfl (fun _ => rfl) qA qH) qS qR ?_
       refine' WA.take 5 rfl qK qK qK rfl rfl qD (Yl.load1 tab_ok rfl rfl rfl (fun _ => rfl) ?r145 rfl ?h145) qS qR ?_
       case r145 => (exact Rd.slD 0 rfl qX)
       case h145 => rfl
       refine tS 14 ?_
       refine WA.callAt 5 17 rfl qK en32 rfl rfl qD (CallOp.mkT rfl rfl rfl rfl) rfl (PickM_C (j := 0) w0 ([0, 0, 1, 3, 4, 8] : List Int) rfl qD qD ha rfl) ?_
       rintro _ _ _ _ - ⟨rfl, rfl, rfl, rfl⟩
       refine ⟨RLe.refl _, qS, ?_⟩
       refine tA 18 ?_
       refine tP 19 ?_
       refine zCF 20 3 ?_
       refine WA.done qK ?_
       refine WE.cut (nth (fvals (upV xs (c + 3) v0) n) ((n : Int) - 1).toNat - nth (fvals (upV xs (c + 3) v0) n) ((n : Int) - (P : Int)).toNat + nth ([0, 0, 1, 3, 4, 8] : List Int) (mod (nth xs (c + 3 + n)) ((6 : Nat) : Int)).toNat) ⟨by omega, by omega, by omega⟩ ⟨rfl, rfl, rfl, rfl⟩ (RLe.refl _) qS
      ·
       refine WS.callAt 5 rfl en32 rfl rfl qD (CallOp.mkT rfl rfl rfl rfl) rfl (PickM_C (j := 0) w0 ([0, 0, 1, 3, 4, 8] : List Int) rfl qD qD ha rfl) ?_
       rintro _ _ _ _ - ⟨rfl, rfl, rfl, rfl⟩
       refine ⟨qR, qS, ?_⟩
       refine lL 1 (Rd.add (Rd.blk 3 rfl) _) ?_
       refine WA.take 4 rfl qK qK qK rfl rfl qD (Yl.index tab_ok rfl rfl rfl rfl rfl rfl (fun _ => rfl) qA qH) qS qR ?_
       refine' WA.take 5 rfl qK qK qK rfl rfl qD (Yl.load1 tab_ok rfl rfl rfl (fun _ => rfl) ?r147 rfl ?h147) qS qR ?_
       case r147 => (exact Rd.slD 0 rfl qX)
       case h147 => rfl
       refine tS 14 ?_
       refine tA 18 ?_
       refine tP 19 ?_
       refine zCF 20 3 ?_
       refine WA.done qK ?_
       refine WE.cut (nth (fvals (upV xs (c + 3) v0) n) ((n : Int) - 1).toNat - nth (fvals (upV xs (c + 3) v0) n) ((n : Int) - (P : Int)).toNat + nth ([0, 0, 1, 3, 4, 8] : List Int) (mod (nth xs (c + 3 + n)) ((6 : Nat) : Int)).toNat) ⟨by omega, by omega, by omega⟩ ⟨rfl, rfl, rfl, rfl⟩ (RLe.refl _) qS
     ·
      refine WS.callAt 5 rfl en32 rfl rfl qD (CallOp.mkT rfl rfl rfl rfl) rfl (PickM_C (j := 0) w0 ([0, 0, 1, 3, 4, 8] : List Int) rfl qD qD ha rfl) ?_
      rintro _ _ _ _ - ⟨rfl, rfl, rfl, rfl⟩
      refine ⟨qR, qS, ?_⟩
      refine WA.br2 (i := 1) (j := 10) qK ?_ ?_
      ·
       refine sL (Rd.add (Rd.blk 3 rfl) _) ?_
       refine WA.take 4 rfl qK qK qK rfl rfl qD (Yl.index tab_ok rfl rfl rfl rfl rfl rfl (fun _ => rfl) qA qH) qS qR ?_
       refine' WA.take 5 rfl qK qK qK rfl rfl qD (Yl.load1 tab_ok rfl rfl rfl (fun _ => rfl) ?r149 rfl ?h149) qS qR ?_
       case r149 => (exact Rd.slD 0 rfl qX)
       case h149 => rfl
       refine lL 10 (Rd.add (Rd.blk 3 rfl) _) ?_
       refine tS 11 ?_
       refine WA.take 12 rfl qK qK qK rfl rfl qD (Yl.index tab_ok rfl rfl rfl rfl rfl rfl (fun _ => rfl) qA qH) qS qR ?_
       refine' WA.take 13 rfl qK qK qK rfl rfl qD (Yl.load1 tab_ok rfl rfl rfl (fun _ => rfl) ?r151 rfl ?h151) qS qR ?_
       case r151 => (exact Rd.slD 0 rfl qX)
       case h151 => rfl
       refine tS 14 ?_
       refine tA 18 ?_
       refine tP 19 ?_
       refine zCF 20 3 ?_
       refine WA.done qK ?_
       refine WE.cut (nth (fvals (upV xs (c + 3) v0) n) ((n : Int) - 1).toNat - nth (fvals (upV xs (c + 3) v0) n) ((n : Int) - (P : Int)).toNat + nth ([0, 0, 1, 3, 4, 8] : List Int) (mod (nth xs (c + 3 + n)) ((6 : Nat) : Int)).toNat) ⟨by omega, by omega, by omega⟩ ⟨rfl, rfl, rfl, rfl⟩ (RLe.refl _) qS
      ·
       refine sL (Rd.add (Rd.blk 3 rfl) _) ?_
       refine tS 11 ?_
       refine WA.take 12 rfl qK qK qK rfl rfl qD (Yl.index tab_ok rfl rfl rfl rfl rfl rfl (fun _ => rfl) qA qH) qS qR ?_
       refine' WA.take 13 rfl qK qK qK rfl rfl qD (Yl.load1 tab_ok rfl rfl rfl (fun _ => rfl) ?r153 rfl ?h153) qS qR ?_
       case r153 => (exact Rd.slD 0 rfl qX)
       case h153 => rfl
       refine lL 1 (Rd.add (Rd.blk 3 rfl) _) ?_
       refine WA.take 4 rfl qK qK qK rfl rfl qD (Yl.index tab_ok rfl rfl rfl rfl rfl rfl (fun _ => rfl) qA qH) qS qR ?_
       refine' WA.take 5 rfl qK qK qK rfl rfl qD (Yl.load1 tab_ok rfl rfl rfl (fun _ => rfl) ?r155 rfl ?h155) qS qR ?_
       case r155 => (exact Rd.slD 0 rfl qX)
       case h155 => rfl
       refine tS 14 ?_
       refine tA 18 ?_
       refine tP 19 ?_
       refine zCF 20 3 ?_
       refine WA.done qK ?_
       refine WE.cut (nth (fvals (upV xs (c + 3) v0) n) ((n : Int) - 1).toNat - nth (fvals (upV xs (c + 3) v0) n) ((n : Int) - (P : Int)).toNat + nth ([0, 0, 1, 3, 4, 8] : List Int) (mod (nth xs (c + 3 + n)) ((6 : Nat) : Int)).toNat) ⟨by omega, by omega, by omega⟩ ⟨rfl, rfl, rfl, rfl⟩ (RLe.refl _) qS
    ·
     refine sL (Rd.add (Rd.blk 3 rfl) _) ?_
     refine tS 11 ?_
     refine WA.br3 (i := 1) (j := 7) (k := 17) qK ?_ ?_ ?_
     ·
      refine sL (Rd.add (Rd.blk 3 rfl) _) ?_
      refine WA.take 4 rfl qK qK qK rfl rfl qD (Yl.index tab_ok rfl rfl rfl rfl rfl rfl (fun _ => rfl) qA qH) qS qR ?_
      refine' WA.take 5 rfl qK qK qK rfl rfl qD (Yl.load1 tab_ok rfl rfl rfl (fun _ => rfl) ?r158 rfl ?h158) qS qR ?_
      case r158 => (exact Rd.slD 0 rfl qX)
      case h158 => rfl
      refine WA.br2 (i := 7) (j := 17) qK ?_ ?_
      ·
       refine sL (Rd.add (Rd.blk 3 rfl) _) ?_
       refine WA.take 12 rfl qK qK qK rfl rfl qD (Yl.index tab_ok rfl rfl rfl rfl rfl rfl (fun _ => rfl) qA qH) qS qR ?_
       refine' WA.take 13 rfl qK qK qK rfl rfl qD (Yl.load1 tab_ok rfl rfl rfl (fun _ => rfl) ?r160 rfl ?h160) qS qR ?_
       case r160 => (exact Rd.slD 0 rfl qX)
       case h160 => rfl
       refine tS 14 ?_
       refine WA.callAt 5 17 rfl qK en32 rfl rfl qD (CallOp.mkT rfl rfl rfl rfl) rfl (PickM_C (j := 0) w0 ([0, 0, 1, 3, 4, 8] : List Int) rfl qD qD ha rfl) ?_
       rintro _ _ _ _ - ⟨rfl, rfl, rfl, rfl⟩
       refine ⟨RLe.refl _, qS, ?_⟩
       refine tA 18 ?_
       refine tP 19 ?_
       refine zCF 20 3 ?_
       refine WA.done qK ?_
       refine WE.cut (nth (fvals (upV xs (c + 3) v0) n) ((n : Int) - 1).toNat - nth (fvals (upV xs (c + 3) v0) n) ((n : Int) - (P : Int)).toNat + nth ([0, 0, 1, 3, 4, 8] : List Int) (mod (nth xs (c + 3 + n)) ((6 : Nat) : Int)).toNat) ⟨by omega, by omega, by omega⟩ ⟨rfl, rfl, rfl, rfl⟩ (RLe.refl _) qS
      ·
       refine WS.callAt 5 rfl en32 rfl rfl qD (CallOp.mkT rfl rfl rfl rfl) rfl (PickM_C (j := 0) w0 ([0, 0, 1, 3, 4, 8] : List Int) rfl qD qD ha rfl) ?_
       rintro _ _ _ _ - ⟨rfl, rfl, rfl, rfl⟩
       refine ⟨qR, qS, ?_⟩
       refine lL 7 (Rd.add (Rd.blk 3 rfl) _) ?_
       refine WA.take 12 rfl qK qK qK rfl rfl qD (Yl.index tab_ok rfl rfl rfl rfl rfl rfl (fun _ => rfl) qA qH) qS qR ?_
       refine' WA.take 13 rfl qK qK qK rfl rfl qD (Yl.load1 tab_ok rfl rfl rfl (fun _ => rfl) ?r162 rfl ?h162) qS qR ?_
       case r162 => (exact Rd.slD 0 rfl qX)
       case h162 => rfl
       refine tS 14 ?_
       refine tA 18 ?_
       refine tP 19 ?_
       refine zCF 20 3 ?_
       refine WA.done qK ?_
       refine WE.cut (nth (fvals (upV xs (c + 3) v0) n) ((n : Int) - 1).toNat - nth (fvals (upV xs (c + 3) v0) n) ((n : Int) - (P : Int)).toNat + nth ([0, 0, 1, 3, 4, 8] : List Int) (mod (nth xs (c + 3 + n)) ((6 : Nat) : Int)).toNat) ⟨by omega, by omega, by omega⟩ ⟨rfl, rfl, rfl, rfl⟩ (RLe.refl _) qS
     ·
      refine sL (Rd.add (Rd.blk 3 rfl) _) ?_
      refine WA.take 12 rfl qK qK qK rfl rfl qD (Yl.index tab_ok rfl rfl rfl rfl rfl rfl (fun _ => rfl) qA qH) qS qR ?_
      refine' WA.take 13 rfl qK qK qK rfl rfl qD (Yl.load1 tab_ok rfl rfl rfl (fun _ => rfl) ?r164 rfl ?h164) qS qR ?_
      case r164 => (exact Rd.slD 0 rfl qX)
      case h164 => rfl
      refine WA.br2 (i := 1) (j := 17) qK ?_ ?_
      ·
       refine sL (Rd.add (Rd.blk 3 rfl) _) ?_
       refine WA.take 4 rfl qK qK qK rfl rfl qD (Yl.index tab_ok rfl rfl rfl rfl rfl rfl (fun _ => rfl) qA qH) qS qR ?_
       refine' WA.take 5 rfl qK qK qK rfl rfl qD (Yl.load1 tab_ok rfl rfl rfl (fun _ => rfl) ?r166 rfl ?h166) qS qR ?_
       case r166 => (exact Rd.slD 0 rfl qX)
       case h166 => rfl
       refine tS 14 ?_
       refine WA.callAt 5 17 rfl qK en32 rfl rfl qD (CallOp.mkT rfl rfl rfl rfl) rfl (PickM_C (j := 0) w0 ([0, 0, 1, 3, 4, 8] : List Int) rfl qD qD ha rfl) ?_
       rintro _ _ _ _ - ⟨rfl, rfl, rfl, rfl⟩
       refine ⟨RLe.refl _, qS, ?_⟩
       refine tA 18 ?_
       refine tP 19 ?_
       refine zCF 20 3 ?_
       refine WA.done qK ?_
       refine WE.cut (nth (fvals (upV xs (c + 3) v0) n) ((n : Int) - 1).toNat - nth (fvals (upV xs (c + 3) v0) n) ((n : Int) - (P : Int)).toNat + nth ([0, 0, 1, 3, 4, 8] : List Int) (mod (nth xs (c + 3 + n)) ((6 : Nat) : Int)).toNat) ⟨by omega, by omega, by omega⟩ ⟨rfl, rfl, rfl, rfl⟩ (RLe.refl _) qS
      ·
       refine WS.callAt 5 rfl en32 rfl rfl qD (CallOp.mkT rfl rfl rfl rfl) rfl (PickM_C (j := 0) w0 ([0, 0, 1, 3, 4, 8] : List Int) rfl qD qD ha rfl) ?_
       rintro _ _ _ _ - ⟨rfl, rfl, rfl, rfl⟩
       refine ⟨qR, qS, ?_⟩
       refine lL 1 (Rd.add (Rd.blk 3 rfl) _) ?_
       refine WA.take 4 rfl qK qK qK rfl rfl qD (Yl.index tab_ok rfl rfl rfl rfl rfl rfl (fun _ => rfl) qA qH) qS qR ?_
       refine' WA.take 5 rfl qK qK qK rfl rfl qD (Yl.load1 tab_ok rfl rfl rfl (fun _ => rfl) ?r168 rfl ?h168) qS qR ?_
       case r168 => (exact Rd.slD 0 rfl qX)
       case h168 => rfl
       refine tS 14 ?_
       refine tA 18 ?_
       refine tP 19 ?_
       refine zCF 20 3 ?_
       refine WA.done qK ?_
       refine WE.cut (nth (fvals (upV xs (c + 3) v0) n) ((n : Int) - 1).toNat - nth (fvals (upV xs (c + 3) v0) n) ((n : Int) - (P : Int)).toNat + nth ([0, 0, 1, 3, 4, 8] : List Int) (mod (nth xs (c + 3 + n)) ((6 : Nat) : Int)).toNat) ⟨by omega, by omega, by omega⟩ ⟨rfl, rfl, rfl, rfl⟩ (RLe.refl _) qS
     ·
      refine WS.callAt 5 rfl en32 rfl rfl qD (CallOp.mkT rfl rfl rfl rfl) rfl (PickM_C (j := 0) w0 ([0, 0, 1, 3, 4, 8] : List Int) rfl qD qD ha rfl) ?_
      rintro _ _ _ _ - ⟨rfl, rfl, rfl, rfl⟩
      refine ⟨qR, qS, ?_⟩
      refine WA.br2 (i := 1) (j := 7) qK ?_ ?_
      ·
       refine sL (Rd.add (Rd.blk 3 rfl) _) ?_
       refine WA.take 4 rfl qK qK qK rfl rfl qD (Yl.index tab_ok rfl rfl rfl rfl rfl rfl (fun _ => rfl) qA qH) qS qR ?_
       refine' WA.take 5 rfl qK qK qK rfl rfl qD (Yl.load1 tab_ok rfl rfl rfl (fun _ => rfl) ?r170 rfl ?h170) qS qR ?_
       case r170 => (exact Rd.slD 0 rfl qX)
       case h170 => rfl
       refine lL 7 (Rd.add (Rd.blk 3 rfl) _) ?_
       refine WA.take 12 rfl qK qK qK rfl rfl qD (Yl.index tab_ok rfl rfl rfl rfl rfl rfl (fun _ => rfl) qA qH) qS qR ?_
       refine' WA.take 13 rfl qK qK qK rfl rfl qD (Yl.load1 tab_ok rfl rfl rfl (fun _ => rfl) ?r172 rfl ?h172) qS qR ?_
       case r172 => (exact Rd.slD 0 rfl qX)
       case h172 => rfl
       refine tS 14 ?_
       refine tA 18 ?_
       refine tP 19 ?_
       refine zCF 20 3 ?_
       refine WA.done qK ?_
       refine WE.cut (nth (fvals (upV xs (c + 3) v0) n) ((n : Int) - 1).toNat - nth (fvals (upV xs (c + 3) v0) n) ((n : Int) - (P : Int)).toNat + nth ([0, 0, 1, 3, 4, 8] : List Int) (mod (nth xs (c + 3 + n)) ((6 : Nat) : Int)).toNat) ⟨by omega, by omega, by omega⟩ ⟨rfl, rfl, rfl, rfl⟩ (RLe.refl _) qS
      ·
       refine sL (Rd.add (Rd.blk 3 rfl) _) ?_
       refine WA.take 12 rfl qK qK qK rfl rfl qD (Yl.index tab_ok rfl rfl rfl rfl rfl rfl (fun _ => rfl) qA qH) qS qR ?_
       refine' WA.take 13 rfl qK qK qK rfl rfl qD (Yl.load1 tab_ok rfl rfl rfl (fun _ => rfl) ?r174 rfl ?h174) qS qR ?_
       case r174 => (exact Rd.slD 0 rfl qX)
       case h174 => rfl
       refine lL 1 (Rd.add (Rd.blk 3 rfl) _) ?_
       refine WA.take 4 rfl qK qK qK rfl rfl qD (Yl.index tab_ok rfl rfl rfl rfl rfl rfl (fun _ => rfl) qA qH) qS qR ?_
       refine' WA.take 5 rfl qK qK qK rfl rfl qD (Yl.load1 tab_ok rfl rfl rfl (fun _ => rfl) ?r176 rfl ?h176) qS qR ?_
       case r176 => (exact Rd.slD 0 rfl qX)
       case h176 => rfl
       refine tS 14 ?_
       refine tA 18 ?_
       refine tP 19 ?_
       refine zCF 20 3 ?_
       refine WA.done qK ?_
       refine WE.cut (nth (fvals (upV xs (c + 3) v0) n) ((n : Int) - 1).toNat - nth (fvals (upV xs (c + 3) v0) n) ((n : Int) - (P : Int)).toNat + nth ([0, 0, 1, 3, 4, 8] : List Int) (mod (nth xs (c + 3 + n)) ((6 : Nat) : Int)).toNat) ⟨by omega, by omega, by omega⟩ ⟨rfl, rfl, rfl, rfl⟩ (RLe.refl _) qS
    ·
     refine WS.callAt 5 rfl en32 rfl rfl qD (CallOp.mkT rfl rfl rfl rfl) rfl (PickM_C (j := 0) w0 ([0, 0, 1, 3, 4, 8] : List Int) rfl qD qD ha rfl) ?_
     rintro _ _ _ _ - ⟨rfl, rfl, rfl, rfl⟩
     refine ⟨qR, qS, ?_⟩
     refine WA.br3 (i := 1) (j := 7) (k := 10) qK ?_ ?_ ?_
     ·
      refine sL (Rd.add (Rd.blk 3 rfl) _) ?_
      refine WA.take 4 rfl qK qK qK rfl rfl qD (Yl.index tab_ok rfl rfl rfl rfl rfl rfl (fun _ => rfl) qA qH) qS qR ?_
      refine' WA.take 5 rfl qK qK qK rfl rfl qD (Yl.load1 tab_ok rfl rfl rfl (fun _ => rfl) ?r178 rfl ?h178) qS qR ?_
      case r178 => (exact Rd.slD 0 rfl qX)
      case h178 => rfl
      refine WA.br2 (i := 7) (j := 10) qK ?_ ?_
      ·
       refine sL (Rd.add (Rd.blk 3 rfl) _) ?_
       refine lL 10 (Rd.add (Rd.blk 3 rfl) _) ?_
       refine tS 11 ?_
       refine WA.take 12 rfl qK qK qK rfl rfl qD (Yl.index tab_ok rfl rfl rfl rfl rfl rfl (fun _ => rfl) qA qH) qS qR ?_
       refine' WA.take 13 rfl qK qK qK rfl rfl qD (Yl.load1 tab_ok rfl rfl rfl (fun _ => rfl) ?r181 rfl ?h181) qS qR ?_
       case r181 => (exact Rd.slD 0 rfl qX)
       case h181 => rfl
       refine tS 14 ?_
       refine tA 18 ?_
       refine tP 19 ?_
       refine zCF 20 3 ?_
       refine WA.done qK ?_
       refine WE.cut (nth (fvals (upV xs (c + 3) v0) n) ((n : Int) - 1).toNat - nth (fvals (upV xs (c + 3) v0) n) ((n : Int) - (P : Int)).toNat + nth ([0, 0, 1, 3, 4, 8] : List Int) (mod (nth xs (c + 3 + n)) ((6 : Nat) : Int)).toNat) ⟨by omega, by omega, by omega⟩ ⟨rfl, rfl, rfl, rfl⟩ (RLe.refl _) qS
      ·
       refine sL (Rd.add (Rd.blk 3 rfl) _) ?_
       refine tS 11 ?_
       refine lL 7 (Rd.add (Rd.blk 3 rfl) _) ?_
       refine WA.take 12 rfl qK qK qK rfl rfl qD (Yl.index tab_ok rfl rfl rfl rfl rfl rfl (fun _ => rfl) qA qH) qS qR ?_
       refine' WA.take 13 rfl qK qK qK rfl rfl qD (Yl.load1 tab_ok rfl rfl rfl (fun _ => rfl) ?r184 rfl ?h184) qS qR ?_
       case r184 => (exact Rd.slD 0 rfl qX)
       case h184 => rfl
       refine tS 14 ?_
       refine tA 18 ?_
       refine tP 19 ?_
       refine zCF 20 3 ?_
       refine WA.done qK ?_
       refine WE.cut (nth (fvals (upV xs (c + 3) v0) n) ((n : Int) - 1).toNat - nth (fvals (upV xs (c + 3) v0) n) ((n : Int) - (P : Int)).toNat + nth ([0, 0, 1, 3, 4, 8] : List Int) (mod (nth xs (c + 3 + n)) ((6 : Nat) : Int)).toNat) ⟨by omega, by omega, by omega⟩ ⟨rfl, rfl, rfl, rfl⟩ (RLe.refl _) qS
     ·
      refine sL (Rd.add (Rd.blk 3 rfl) _) ?_
      refine WA.br2 (i := 1) (j := 10) qK ?_ ?_
      ·
       refine sL (Rd.add (Rd.blk 3 rfl) _) ?_
       refine WA.take 4 rfl qK qK qK rfl rfl qD (Yl.index tab_ok rfl rfl rfl rfl rfl rfl (fun _ => rfl) qA qH) qS qR ?_
       refine' WA.take 5 rfl qK qK qK rfl rfl qD (Yl.load1 tab_ok rfl rfl rfl (fun _ => rfl) ?r187 rfl ?h187) qS qR ?_
       case r187 => (exact Rd.slD 0 rfl qX)
       case h187 => rfl
       refine lL 10 (Rd.add (Rd.blk 3 rfl) _) ?_
       refine tS 11 ?_
       refine WA.take 12 rfl qK qK qK rfl rfl qD (Yl.index tab_ok rfl rfl rfl rfl rfl rfl (fun _ => rfl) qA qH) qS qR ?_
       refine' WA.take 13 rfl qK qK qK rfl rfl qD (Yl.load1 tab_ok rfl rfl rfl (fun _ => rfl) ?r189 rfl ?h189) qS qR ?_
       case r189 => (exact Rd.slD 0 rfl qX)
       case h189 => rfl
       refine tS 14 ?_
       refine tA 18 ?_
       refine tP 19 ?_
       refine zCF 20 3 ?_
       refine WA.done qK ?_
       refine WE.cut (nth (fvals (upV xs (c + 3) v0) n) ((n : Int) - 1).toNat - nth (fvals (upV xs (c + 3) v0) n) ((n : Int) - (P : Int)).toNat + nth ([0, 0, 1, 3, 4, 8] : List Int) (mod (nth xs (c + 3 + n)) ((6 : Nat) : Int)).toNat) ⟨by omega, by omega, by omega⟩ ⟨rfl, rfl, rfl, rfl⟩ (RLe.refl _) qS
      ·
       refine sL (Rd.add (Rd.blk 3 rfl) _) ?_
       refine tS 11 ?_
       refine WA.take 12 rfl qK qK qK rfl rfl qD (Yl.index tab_ok rfl rfl rfl rfl rfl rfl (fun _ => rfl) qA qH) qS qR ?_
       refine' WA.take 13 rfl qK qK qK rfl rfl qD (Yl.load1 tab_ok rfl rfl rfl (fun _ => rfl) ?r191 rfl ?h191) qS qR ?_
       case r191 => (exact Rd.slD 0 rfl qX)
       case h191 => rfl
       refine lL 1 (Rd.add (Rd.blk 3 rfl) _) ?_
       refine WA.take 4 rfl qK qK qK rfl rfl qD (Yl.index tab_ok rfl rfl rfl rfl rfl rfl (fun _ => rfl) qA qH) qS qR ?_
       refine' WA.take 5 rfl qK qK qK rfl rfl qD (Yl.load1 tab_ok rfl rfl rfl (fun _ => rfl) ?r193 rfl ?h193) qS qR ?_
       case r193 => (exact Rd.slD 0 rfl qX)
       case h193 => rfl
       refine tS 14 ?_
       refine tA 18 ?_
       refine tP 19 ?_
       refine zCF 20 3 ?_
       refine WA.done qK ?_
       refine WE.cut (nth (fvals (upV xs (c + 3) v0) n) ((n : Int) - 1).toNat - nth (fvals (upV xs (c + 3) v0) n) ((n : Int) - (P : Int)).toNat + nth ([0, 0, 1, 3, 4, 8] : List Int) (mod (nth xs (c + 3 + n)) ((6 : Nat) : Int)).toNat) ⟨by omega, by omega, by omega⟩ ⟨rfl, rfl, rfl, rfl⟩ (RLe.refl _) qS
     ·
      refine sL (Rd.add (Rd.blk 3 rfl) _) ?_
      refine tS 11 ?_
      refine WA.br2 (i := 1) (j := 7) qK ?_ ?_
      ·
       refine sL (Rd.add (Rd.blk 3 rfl) _) ?_
       refine WA.take 4 rfl qK qK qK rfl rfl qD (Yl.index tab_ok rfl rfl rfl rfl rfl rfl (fun _ => rfl) qA qH) qS qR ?_
       refine' WA.take 5 rfl qK qK qK rfl rfl qD (Yl.load1 tab_ok rfl rfl rfl (fun _ => rfl) ?r196 rfl ?h196) qS qR ?_
       case r196 => (exact Rd.slD 0 rfl qX)
       case h196 => rfl
       refine lL 7 (Rd.add (Rd.blk 3 rfl) _) ?_
       refine WA.take 12 rfl qK qK qK rfl rfl qD (Yl.index tab_ok rfl rfl rfl rfl rfl rfl (fun _ => rfl) qA qH) qS qR ?_
       refine' WA.take 13 rfl qK qK qK rfl rfl qD (Yl.load1 tab_ok rfl rfl rfl (fun _ => rfl) ?r198 rfl ?h198) qS qR ?_
       case r198 => (exact Rd.slD 0 rfl qX)
       case h198 => rfl
       refine tS 14 ?_
       refine tA 18 ?_
       refine tP 19 ?_
       refine zCF 20 3 ?_
       refine WA.done qK ?_
       refine WE.cut (nth (fvals (upV xs (c + 3) v0) n) ((n : Int) - 1).toNat - nth (fvals (upV xs (c + 3) v0) n) ((n : Int) - (P : Int)).toNat + nth ([0, 0, 1, 3, 4, 8] : List Int) (mod (nth xs (c + 3 + n)) ((6 : Nat) : Int)).toNat) ⟨by omega, by omega, by omega⟩ ⟨rfl, rfl, rfl, rfl⟩ (RLe.refl _) qS
      ·
       refine sL (Rd.add (Rd.blk 3 rfl) _) ?_
       refine WA.take 12 rfl qK qK qK rfl rfl qD (Yl.index tab_ok rfl rfl rfl rfl rfl rfl (fun _ => rfl) qA qH) qS qR ?_
       refine' WA.take 13 rfl qK qK qK rfl rfl qD (Yl.load1 tab_ok rfl rfl rfl (fun _ => rfl) ?r200 rfl ?h200) qS qR ?_
       case r200 => (exact Rd.slD 0 rfl qX)
       case h200 => rfl
       refine lL 1 (Rd.add (Rd.blk 3 rfl) _) ?_
       refine WA.take 4 rfl qK qK qK rfl rfl qD (Yl.index tab_ok rfl rfl rfl rfl rfl rfl (fun _ => rfl) qA qH) qS qR ?_
       refine' WA.take 5 rfl qK qK qK rfl rfl qD (Yl.load1 tab_ok rfl rfl rfl (fun _ => rfl) ?r202 rfl ?h202) qS qR ?_
       case r202 => (exact Rd.slD 0 rfl qX)
       case h202 => rfl
       refine tS 14 ?_
       refine tA 18 ?_
       refine tP 19 ?_
       refine zCF 20 3 ?_
       refine WA.done qK ?_
       refine WE.cut (nth (fvals (upV xs (c + 3) v0) n) ((n : Int) - 1).toNat - nth (fvals (upV xs (c + 3) v0) n) ((n : Int) - (P : Int)).toNat + nth ([0, 0, 1, 3, 4, 8] : List Int) (mod (nth xs (c + 3 + n)) ((6 : Nat) : Int)).toNat) ⟨by omega, by omega, by omega⟩ ⟨rfl, rfl, rfl, rfl⟩ (RLe.refl _) qS



theorem Zero_C {R : Ro} {b : Nat} {a : Option Addr} {cp : Nat} {xs : List Int} {c : Nat} (w0 : World) (ha : RS R 1 encI a xs) {most : Nat} (hmo : 1 ≤ most ∧ most ≤ 20) : FnAt Tryz.prog 22 [.pointer (some ⟨b, 0, none⟩), .int .i64 (most : Int)] w0 R (srcE b a cp xs c) (fun v R' e' N => ∃ (f : Option Addr) (fc cn : Nat) (cv : Cv), v = .agg #[.slice f cv.vals.length fc, .int .i64 cv.per, .int .i64 cv.inc] ∧ RS R' 1 encI f cv.vals ∧ SmallC cv ∧ finB cv = true ∧ nth cv.vals 0 = 0 ∧ cv.vals.length ≤ fc ∧ e' = srcE b a cp xs cn ∧ N = []) := by
 intro F
 refine fE 58 Tryz.func22 ?_
 refine zQ (zG ?_)
 refine zA fun b4 => ?_
 refine zN (zU (zQ (zG (zR 2 rfl ?_))))
 refine WL.callAt 1 en55 rfl rfl qD (CallOp.mkT rfl rfl rfl rfl) rfl (KCurve_C w0 ha hmo _) ?_
 rintro _ RC _ _ hRC ⟨fa, fc, c1, cv, rfl, hfa, hsc, hcc, rfl, rfl⟩
 have ha := ha.mono hRC
 refine zA fun b5 => ?_
 refine zE 0 ?_
 refine zN (zU (zQ (zB ?_)))
 refine W.loopR (β := Cv × Option Addr × Nat × Nat × Ro) (fun (ck, fk, gk, cn, Rk) => RLe RC Rk ∧ RS Rk 1 encI fk ck.vals ∧ SmallC ck ∧ ck.vals.length ≤ gk) (fun (ck, fk, gk, cn, Rk) => []) [0, 4, 5] [_, _, _] [] _ rfl (fun (ck, fk, gk, cn, Rk) => [(0, .blk b5 [.slice fk ck.vals.length gk, .int .i64 ck.per, .int .i64 ck.inc]), (2, srcE b a cp xs cn)]) (fun (ck, fk, gk, cn, Rk) => Rk) (fun (ck, fk, gk, cn, Rk) => (if finB ck = true then 0 else 1)) ((cv, fa, fc, c1, RC)) (⟨RLe.refl _, hfa, hsc, hcc⟩) ⟨rfl, rfl, rfl, rfl⟩ (RLe.refl _) qS ?_
 intro zz hst
 obtain ⟨ck, fk, gk, cn, Rk⟩ := zz
 dsimp only [zipE, setAll, List.cons_append, List.nil_append, List.set_cons_zero, List.set_cons_succ] at hst ⊢
 obtain ⟨hRk, hfk, hsk, hgk⟩ := hst
 have ha := ha.mono hRk
 have hvr := valid_range hsk.valid
 refine zQ (zQ (zG (zR 1 rfl ?_)))
 refine yL (Rd.add (Rd.blk 0 rfl) _) ?_
 refine zR 1 rfl ?_
 refine yL (Rd.add (Rd.blk 0 rfl) _) ?_
 refine zR 1 rfl ?_
 refine yS ?_
 refine WG.y rfl rfl qD (Yl.index tab_ok rfl rfl rfl rfl rfl rfl (fun _ => rfl) qA (by intro _; first | exact fun _ _ _ _ => ha40 qO | exact qI)) ?_
 refine yR ?_
 refine zR 1 rfl (zN (zU ?_))
 refine W.condE rfl (fun hc0 => ?_) (fun hc0 => ?_)
 ·try dsimp only at hc0
  have hfF : finB ck = false := by unfold finB; rw [bne_eq_false_iff_eq, show ck.vals.length - 1 = ((ck.vals.length : Int) - 1).toNat by omega]; exact hc0
  refine zK (zU (zB (zG (zR 1 rfl ?_))))
  refine WL.callAt 2 en23 rfl rfl qD (CallOp.mkT rfl rfl rfl rfl) rfl (N_C w0 ha (by constructor <;> omega) _) ?_
  rintro _ _ _ _ - ⟨rfl, rfl, rfl, rfl⟩
  have hq1 := mod_range (nth xs cn) (show (1 : Int) ≤ 5 by decide)
  refine yA ?_
  refine WL.ef rfl rfl qD (Ef.buildSliceD (enc := encI) (parts := [.const (.int .i64 0), .const (.int .i64 4), .tmp 22]) [_, _, _] tab_ok rfl rfl rfl rfl rfl rfl rfl rfl qD qD (fun a23 => ?_))
  refine zR 1 rfl ?_
  refine WL.callAt 3 en23 rfl rfl qD (CallOp.mkT rfl rfl rfl rfl) rfl (N_C w0 ha (by constructor <;> omega) _) ?_
  rintro _ _ _ _ - ⟨rfl, rfl, rfl, rfl⟩
  have hq2 := mod_range (nth xs (cn + 1)) (show (1 : Int) ≤ 2 by decide)
  refine yA ?_
  -- build
  refine WG.y rfl rfl qD (Yl.build (parts := [(0, .tmp 23), (1, .tmp 26), (2, .const (.int .i64 8))]) tab_ok rfl rfl rfl rfl (fun _ => rfl) rfl rfl) ?_
  refine zE 1 ?_
  refine WL.freeze (enc := encI) (xs := [0, 4, 4 + mod (nth xs cn) 5]) 0 rfl ?_
  intro R1 hR1 hfz
  refine zN (zL ?_)
  refine WE.again ((⟨[0, 4, 4 + mod (nth xs cn) 5], 1 + mod (nth xs (cn + 1)) 2, 8⟩, some ⟨a23, 0, none⟩, 3, cn + 1 + 1, R1)) (⟨hRk.trans hR1, hfz, (small_lit hq1 hq2).1, Nat.le_refl _⟩) (by dsimp only; rw [hfF, (small_lit hq1 hq2).2]; decide) ⟨rfl, rfl, rfl, rfl⟩ (RLe.refl _) qS
 ·try dsimp only at hc0
  have hfT : finB ck = true := by unfold finB; rw [bne_iff_ne, show ck.vals.length - 1 = ((ck.vals.length : Int) - 1).toNat by omega]; exact hc0
  refine zX ?_
  refine wx (wx (zY (zU (zQ (zQ (zG (zR 1 rfl ?_)))))))
  refine yL (Rd.add (Rd.blk 0 rfl) _) ?_
  refine WG.y rfl rfl qD (Yl.indexN tab_ok rfl rfl rfl rfl rfl rfl (fun _ => rfl) qN (by intro _; first | exact fun _ _ _ _ => ha40 qO | exact qI)) ?_
  refine yR ?_
  refine zR 1 rfl (zN (zU ?_))
  refine W.condD rfl (fun hc1 => ?_) (fun hc1 => ?_)
  ·try dsimp only at hc1
   refine zQ (zG (zR 1 rfl ?_))
   refine yL (Rd.add (Rd.blk 0 rfl) _) ?_
   refine WG.y rfl rfl qD (Yl.indexN tab_ok rfl rfl rfl rfl rfl rfl (fun _ => rfl) qN (by intro _; first | exact fun _ _ _ _ => ha40 qO | exact qI)) ?_
   refine yR ?_
   refine zR 1 rfl (zN (zU (zQ (zG ?_))))
   refine WL.ef rfl rfl qD (Ef.buildSliceD (enc := encI) (parts := []) [] tab_ok rfl rfl rfl rfl rfl rfl rfl rfl qD qD (fun a37 => ?_))
   refine zR 1 rfl ?_
   refine yL (Rd.add (Rd.blk 1 rfl) _) ?_
   refine WL.ef rfl rfl qD (Ef.cloneL (enc := encI) 0 tab_ok rfl rfl rfl rfl rfl rfl rfl rfl rfl rfl hfk (fun _ _ => rfl) (by dsimp only; omega) qO (fun a40 c40 ha40 => ?_))
   refine zR 1 rfl ?_
   refine zF 1 ?_
   refine zN (zU (zQ (zG (zR 1 rfl ?_))))
   refine yL (Rd.add (Rd.blk 1 rfl) _) ?_
   refine zR 2 rfl (zN (zU (zB ?_)))
   refine W.loopK (β := Nat × List Int) (fun (i, zs) => i ≤ zs.length ∧ zs.length = ck.vals.length ∧ ∀ j, j < ck.vals.length → nth zs j = (if j < i then nth ck.vals j - nth ck.vals 0 else nth ck.vals j)) (fun (i, zs) => [(45, true, .int .i64 (i : Int))]) [4, 5, 6, 44] [_, _, _, _] [] _ rfl (fun (i, zs) => [(0, .sl 3 1 a40 c40 (zs.map encI))]) (fun (i, zs) => zs.length - i) ((0, ck.vals)) (⟨Nat.zero_le _, rfl, fun j hj => by rw [if_neg (by omega)]⟩) ⟨rfl, rfl, rfl, rfl, rfl, rfl⟩ qS ?_
   intro st hst
   obtain ⟨i, zs⟩ := st
   dsimp only [zipE, setAll, List.cons_append, List.nil_append, List.set_cons_zero, List.set_cons_succ] at hst ⊢
   obtain ⟨hi, hzl, hz⟩ := hst
   refine zQ (zG (zR 1 rfl (zN (zU (zQ ?_)))))
   refine W.condD rfl (fun hc2 => ?_) (fun hc2 => ?_)
   ·try dsimp only at hc2
    have hil : i < zs.length := by omega
    have hzi := hz i (by omega)
    rw [if_neg (by omega)] at hzi
    have hb1 := hvr.1 _ (nth_mem (xs := ck.vals) (k := i) (by omega))
    have hb0 := hvr.1 _ (nth_mem (xs := ck.vals) (k := 0) (by omega))
    refine zK (zU (zQ (zB (zQ (zG (zR 2 rfl (zN (zU (zG (zR 1 rfl ?_))))))))))
    refine yL (Rd.add (Rd.blk 1 rfl) _) ?_
    refine zR 1 rfl ?_
    refine WG.y rfl rfl qD (Yl.indexN tab_ok rfl rfl rfl rfl rfl rfl (fun _ => rfl) qN (by intro _; first | exact fun _ _ _ _ => ha40 qO | exact qI)) ?_
    refine' WG.y rfl rfl qD (Yl.load1 tab_ok rfl rfl rfl (fun _ => rfl) ?r11 rfl ?h11) ?_
    case r11 => (exact Rd.slD 0 rfl qX)
    case h11 => rfl
    refine zR 1 rfl ?_
    refine yS ?_
    refine WG.y rfl rfl qD (Yl.indexN tab_ok rfl rfl rfl rfl rfl rfl (fun _ => rfl) qN (by intro _; first | exact fun _ _ _ _ => ha40 qO | exact qI)) ?_
    refine WL.efN rfl rfl (Ef.storeD _ 0 tab_ok rfl rfl rfl rfl rfl qX rfl rfl rfl rfl ?_)
    refine zN (zL (zU (zG ?_)))
    refine yA ?_
    refine zR 1 rfl (zN ?_)
    refine WE.again ((i + 1, zs.set i (nth zs i - nth ck.vals 0))) (⟨by dsimp only; rw [List.length_set]; omega, by dsimp only; rw [List.length_set]; exact hzl, fun j hj => by
     by_cases e : i = j
     ·subst e; rw [nth_set_self (by omega), if_pos (by omega), hzi]
     ·rw [nth_set_ne e, hz j hj]
      by_cases h2 : j < i
      ·rw [if_pos h2, if_pos (by omega)]
      ·rw [if_neg h2, if_neg (by omega)]⟩) (by dsimp only; rw [List.length_set]; omega) ⟨rfl, rfl, rfl, rfl, rfl, rfl⟩ (RLe.refl _) qS
   ·try dsimp only at hc2
    obtain hiE : i = zs.length := by omega
    refine W.cap 0 rfl ?_
    intro hcp
    rw [List.length_map] at hcp
    refine W.freeze (enc := encI) (xs := zs) 0 rfl ?_
    intro R2 hR2 hfz
    obtain ⟨hsz, hfz2, hz0⟩ := small_sub hsk hfT hzl (fun j hj => by rw [hz j hj, if_pos (by omega)])
    refine zX ?_
    refine wx (wx (zY (zU (zQ (zG ?_)))))
    refine yL (Rd.blk 0 rfl) ?_
    refine zE 1 ?_
    refine zN (zU (zT ?_))
    refine WE.retFS (E' := srcE b a cp xs (cn) :: F) qS tab_ok [_] rfl ⟨⟨_, _, _, rfl, rfl, rfl, qB, rfl⟩, trivial⟩ ((by first | exact hRC.trans (hRk.trans hR2) | exact hRC.trans hRk)) ?_
    exact ⟨_, [], rfl, a40, c40, cn, ⟨zs, ck.per, ck.inc⟩, by dsimp only; rw [hzl]; rfl, hfz, hsz, hfz2, hz0, hcp, rfl, rfl⟩
  ·try dsimp only at hc1
   have h00 : nth ck.vals 0 = 0 := by have := valid_each hsk.valid 0 (by omega); unfold INF at this; omega
   refine zK (zU (zQ (zG ?_)))
   refine yL (Rd.blk 0 rfl) ?_
   refine zE 1 ?_
   refine zN (zU (zT ?_))
   refine WE.retFS (E' := srcE b a cp xs (cn) :: F) qS tab_ok [_] rfl ⟨⟨_, _, _, rfl, rfl, rfl, qB, rfl⟩, trivial⟩ ((by first | exact hRC.trans (hRk.trans hR2) | exact hRC.trans hRk)) ?_
   exact ⟨_, [], rfl, fk, gk, cn, ck, rfl, hfk, hsk, hfT, h00, hgk, rfl, rfl⟩



def szPre (z : List Sz) (p : Pkt) : List Sz := if (nth z p.flow.toNat).most = 0 then z.set p.flow.toNat ⟨p.size, p.size⟩ else z
def szPut (z1 : List Sz) (p : Pkt) : List Sz := z1.set p.flow.toNat ⟨(if p.size < (nth z1 p.flow.toNat).least then p.size else (nth z1 p.flow.toNat).least), (if (nth z1 p.flow.toNat).most < p.size then p.size else (nth z1 p.flow.toNat).most)⟩
def szAdd (n : Nat) (z : List Sz) (p : Pkt) : List Sz := if p.flow < 0 ∨ p.flow ≥ (n : Int) then z else szPut (szPre z p) p
def sizesL (n : Nat) (ps : List Pkt) : List Sz := ps.foldl (szAdd n) (List.replicate n ⟨0, 0⟩)


theorem Lcm_V {R : Ro} {a b : Nat} (ha : 0 < a ∧ a ≤ 1000000) (hb : 0 < b ∧ b ≤ 1000000) : FnV Tryz.prog 99 [.int .i64 (a : Int), .int .i64 (b : Int)] R (.int .i64 (lcmN a b : Int)) := by
 refine Fn.toV (fun w0 E => ?_)
 have hg : 0 < Nat.gcd a b := Nat.gcd_pos_of_pos_right _ hb.1
 have hq : ((a : Int) / (Nat.gcd a b : Int) * (b : Int)) ≤ 1000000 * 1000000 ∧ 0 ≤ ((a : Int) / (Nat.gcd a b : Int) * (b : Int)) := by
  have h1 : a / Nat.gcd a b * b ≤ 1000000 * 1000000 := Nat.mul_le_mul (Nat.le_trans (Nat.div_le_self _ _) ha.2) hb.2
  have e : ((a : Int) / (Nat.gcd a b : Int) * (b : Int)) = ((a / Nat.gcd a b * b : Nat) : Int) := rfl
  omega
 refine fE 12 Tryz.func99 ?_
 refine zQ (zG (zR 1 rfl (zN (zU (zQ (zG (zR 3 rfl ?_)))))))
 refine WG.callV en129 rfl rfl qD (CallOp.mk' rfl rfl rfl rfl) (fun _ => rfl) (fun hg => Gcd_V) ?_
 refine WG.y rfl rfl qD (Yl.quo rfl rfl rfl (fun _ => rfl) qA (by intro _; omega)) ?_
 refine zR 1 rfl ?_
 refine WG.y rfl rfl qD (Yl.mul rfl rfl rfl (fun _ => rfl) qA) ?_
 refine zR 1 rfl (zN (zU (zT ?_)))
 refine sE (E := E) ?_
 refine WE.retF tab_ok [_] rfl ⟨rfl, trivial⟩ (RLe.refl _) ?_
 exact ⟨rfl, rfl⟩



theorem AtG_V {R : Ro} {fa : Option Addr} {fc : Nat} {c : Cv} (hv : validB c = true) (ha : RS R 1 encI fa c.vals) {t : Nat} (ht : t ≤ 1000000000) : FnV Tryz.prog 50 [.agg #[.slice fa c.vals.length fc, .int .i64 c.per, .int .i64 c.inc], .int .i64 (t : Int)] R (.int .i64 (cvF c t)) := by
 obtain ⟨h1, h2, h3, h4, h5, h6, h7, h8⟩ := valid_range hv
 exact At_V ha (by constructor <;> omega) ⟨by constructor <;> omega, by omega⟩ qO h1
theorem ValidG_V {R : Ro} {fa : Option Addr} {fc : Nat} {c : Cv} (hv : validB c = true) (ha : RS R 1 encI fa c.vals) : FnV Tryz.prog 101 [.agg #[.slice fa c.vals.length fc, .int .i64 c.per, .int .i64 c.inc]] R (.bool true) := by
 obtain ⟨h1, h2, h3, h4, h5, h6, h7, h8⟩ := valid_range hv
 have h := Valid_V (c := fc) (per := c.per) (inc := c.inc) ha (by constructor <;> omega) (by constructor <;> omega) h1
 rw [show validB ⟨c.vals, c.per, c.inc⟩ = true from hv] at h
 exact h
theorem MadeG_C {R : Ro} {a : Option Addr} {cc : Nat} {v : List Int} {per inc : Int} (ha : RS R 1 encI a v) (hl : v.length ≤ 100000) (hok : MadeOk v per inc) (hac : v.length ≤ cc) (w0 : World) (E : List Ent) : K.Fn Tryz.prog 60 [.agg #[.slice a v.length cc, .int .i64 per, .int .i64 inc]] w0 R E (fun r R' E' => ∃ (f : Option Addr) (fc : Nat), r = cvV f fc (madeR ⟨v, per, inc⟩) ∧ RS R' 1 encI f (madeR ⟨v, per, inc⟩).1.vals ∧ E.Sublist E') :=
 Made_C ha ⟨hl, hok.hper.2.2⟩ (fun _ => hac) ⟨hok.hper.1, by have := hok.hper; omega⟩ hok.hinc hok.vals hok.self hok.at_ hok.nb w0 E
theorem Normal02_C {R : Ro} {fa : Option Addr} {fc : Nat} {c : Cv} (hv : validB c = true) (ha : RS R 1 encI fa c.vals) (hcap : c.vals.length ≤ fc) (w0 : World) (E : List Ent) : K.Fn Tryz.prog 98 [.agg #[.slice fa c.vals.length fc, .int .i64 c.per, .int .i64 c.inc]] w0 R E (fun r R' E' => ∃ (f : Option Addr) (fc : Nat), r = cvV f fc (normR c, 0) ∧ RS R' 1 encI f (normR c).vals ∧ E.Sublist E') := by
 obtain ⟨h1, h2, h3, h4, h5, h6, h7, h8⟩ := valid_range hv
 have hok := valid_madeOk hv
 refine fE 10 Tryz.func98 ?_
 refine zQ (zG ?_)
 refine zO fun b1 => ?_
 refine zA fun b2 => ?_
 refine zR 1 rfl (zN (zU (zQ (zQ (zG ?_)))))
 refine yL (Rd.blk 1 rfl) ?_
 refine WG.callV (v := .bool true) en101 rfl rfl qD (CallOp.mk' rfl rfl rfl rfl) (fun _ => rfl) (fun hg => ValidG_V hv ha) ?_
 refine zR 1 rfl (zN (zU ?_))
 refine W.cond rfl (fun hc0 => ?_) (fun hc0 => ?_)
 ·try simp only [zk] at hc0
  (simp at hc0; done)
 ·try simp only [zk] at hc0
  refine zK (zU (zQ (zG ?_)))
  refine yL (Rd.blk 1 rfl) ?_
  refine WL.call en100 rfl rfl qD (CallOp.mkT rfl rfl rfl rfl) (Least02_C ha ⟨by omega, by omega⟩ (fun _ => hcap) ⟨by omega, by omega⟩ hok.hinc hok.vals hok.self hok.at_ w0 _) ?_
  rintro _ R1 E1 hR1 ⟨f, fc2, rfl, hf, hsub⟩
  refine WL.subE hsub ?_
  unfold cuV
  refine zE 0 ?_
  refine zR 1 rfl (zN (zU (zT ?_)))
  refine WE.retF tab_ok [_, _] rfl ⟨⟨_, _, _, rfl, rfl, rfl, qB, rfl⟩, rfl, trivial⟩ (hR1) ?_
  exact ⟨f, fc2, rfl, hf, qS⟩

theorem FiniteG_V {R : Ro} {fa : Option Addr} {fc : Nat} {c : Cv} (hv : validB c = true) (ha : RS R 1 encI fa c.vals) : FnV Tryz.prog 104 [.agg #[.slice fa c.vals.length fc, .int .i64 c.per, .int .i64 c.inc]] R (.bool (finB c)) := by
 refine Fn.toV (fun w0 E => ?_)
 obtain ⟨h1, h2, h3, h4, h5, h6, h7, h8⟩ := valid_range hv
 have hl : ((c.vals.length : Int) - 1).toNat = c.vals.length - 1 := by omega
 refine fE 16 Tryz.func104 ?_
 refine zQ (zG ?_)
 refine zO fun b1 => ?_
 refine zR 1 rfl (zN (zU (zQ (zG ?_))))
 refine yL (Rd.blk 0 rfl) ?_
 refine WG.callV (v := .bool true) en101 rfl rfl qD (CallOp.mk' rfl rfl rfl rfl) (fun _ => rfl) (fun hg => ValidG_V hv ha) ?_
 refine zR 1 rfl ?_
 refine WL.guardT rfl (by rfl) ?_
 refine yP ?_
 refine WL.guardT rfl (by rfl) ?_
 refine yL (Rd.add (Rd.blk 0 rfl) _) ?_
 refine WL.guardT rfl (by rfl) ?_
 refine yP ?_
 refine WL.guardT rfl (by rfl) ?_
 refine yL (Rd.add (Rd.blk 0 rfl) _) ?_
 refine WL.guardT rfl (by rfl) ?_
 refine yP ?_
 refine WL.guardT rfl (by rfl) ?_
 refine yS ?_
 refine WL.guardT rfl (by rfl) ?_
 refine WG.y rfl rfl qD (Yl.index tab_ok rfl rfl rfl rfl rfl rfl (fun _ => rfl) qA qH) ?_
 refine WL.guardT rfl (by rfl) ?_
 refine yR ?_
 refine WL.guardT rfl (by rfl) ?_
 refine yP ?_
 refine yN ?_
 refine zR 1 rfl (zN (zU (zT ?_)))
 refine sE (E := E) ?_
 refine WE.retF tab_ok [_] rfl ⟨rfl, trivial⟩ (RLe.refl _) ?_
 exact ⟨by rw [hl]; rfl, rfl⟩



theorem Pair05_C {R : Ro} {fa : Option Addr} {fc : Nat} {c : Cv} (hv : validB c = true) (ha : RS R 1 encI fa c.vals) (hcap : c.vals.length ≤ fc) {ga : Option Addr} {gc : Nat} {d : Cv} (hw : validB d = true) (hb : RS R 1 encI ga d.vals) (hcapd : d.vals.length ≤ gc) (w0 : World) (E : List Ent) : K.Fn Tryz.prog 58 [.agg #[.slice fa c.vals.length fc, .int .i64 c.per, .int .i64 c.inc], .agg #[.slice ga d.vals.length gc, .int .i64 d.per, .int .i64 d.inc]] w0 R E (fun v R' E' => ∃ (f1 : Option Addr) (k1 : Nat) (f2 : Option Addr) (k2 : Nat), v = .tuple #[.agg #[.slice f1 (normR c).vals.length k1, .int .i64 (normR c).per, .int .i64 (normR c).inc], .agg #[.slice f2 (normR d).vals.length k2, .int .i64 (normR d).per, .int .i64 (normR d).inc], .int .i64 (if 120 < lcmC (normR c) (normR d) then 0 else (lcmC (normR c) (normR d) : Int)), .int .i64 (if 120 < lcmC (normR c) (normR d) then 3 else 0)] ∧ RS R' 1 encI f1 (normR c).vals ∧ RS R' 1 encI f2 (normR d).vals ∧ E.Sublist E') := by
 have hnv := (norm_valid hv).1
 have hnw := (norm_valid hw).1
 obtain ⟨_, _, _, p1, p2, _⟩ := valid_range hnv
 obtain ⟨_, _, _, q1, q2, _⟩ := valid_range hnw
 refine fE 43 Tryz.func58 ?_
 refine zQ (zG ?_)
 refine zO fun b2 => ?_
 refine zO fun b3 => ?_
 refine zA fun b4 => ?_
 refine zA fun b5 => ?_
 refine zR 2 rfl (zN (zU (zQ (zG ?_))))
 refine yL (Rd.blk 3 rfl) ?_
 refine WL.call en98 rfl rfl qD (CallOp.mkT rfl rfl rfl rfl) (Normal02_C hv ha hcap w0 _) ?_
 rintro _ R1 E1 hR1 ⟨f1, k1, rfl, hf1, hsub1⟩
 refine WL.subE hsub1 ?_
 unfold cvV
 have hb := hb.mono hR1
 refine zR 3 rfl ?_
 refine zA fun b8 => ?_
 refine zE 0 ?_
 refine zR 1 rfl (zN (zU (zQ (zG ?_))))
 refine yL (Rd.blk 3 rfl) ?_
 refine WL.call en98 rfl rfl qD (CallOp.mkT rfl rfl rfl rfl) (Normal02_C hw hb hcapd w0 _) ?_
 rintro _ R2 E2 hR2 ⟨f2, k2, rfl, hf2, hsub2⟩
 refine WL.subE hsub2 ?_
 unfold cvV
 have hf1 := hf1.mono hR2
 generalize normR c = m1 at *
 generalize normR d = m2 at *
 refine zR 3 rfl ?_
 refine zA fun b10 => ?_
 refine zE 0 ?_
 refine zR 1 rfl (zN (zU (zQ (zQ (zG (zR 3 rfl ?_))))))
 refine WL.guardT rfl (by rfl) ?_
 refine yP ?_
 refine WL.guardT rfl (by rfl) ?_
 refine yP ?_
 refine yO ?_
 refine zN (zU ?_)
 refine W.cond rfl (fun hc0 => ?_) (fun hc0 => ?_)
 ·try simp only [zk] at hc0
  (simp at hc0; done)
 ·try simp only [zk] at hc0
  refine zK (zU (zQ (zG (zR 1 rfl ?_))))
  refine yL (Rd.add (Rd.blk 1 rfl) _) ?_
  refine zR 1 rfl ?_
  refine yL (Rd.add (Rd.blk 0 rfl) _) ?_
  refine WG.callV (v := .int .i64 (lcmC m1 m2 : Int)) en99 rfl rfl (by decide) (CallOp.mk' rfl rfl rfl rfl) (fun _ => rfl) (fun hg => by have h := Lcm_V (R := R2) (a := m1.per.toNat) (b := m2.per.toNat) (by omega) (by omega); rw [Int.toNat_of_nonneg (by omega), Int.toNat_of_nonneg (by omega)] at h; exact h) ?_
  refine zR 1 rfl (zN (zU (zQ (zQ (zG (zR 2 rfl (zN (zU ?_))))))))
  refine W.condD rfl (fun hc1 => ?_) (fun hc1 => ?_)
  ·try dsimp only at hc1
   have hL : 120 < lcmC m1 m2 := by omega
   refine zQ ?_
   refine W.regionH _ (ES := [.blk b10 [.slice f2 m2.vals.length k2, .int .i64 m2.per, .int .i64 m2.inc], .blk b8 [.slice f1 m1.vals.length k1, .int .i64 m1.per, .int .i64 m1.inc]]) mixed ?_
   refine tL 0 (Rd.blk 1 rfl) ?_
   refine tL 1 (Rd.blk 0 rfl) ?_
   refine zCE 2 3 ?_
   refine zCE 3 2 ?_
   refine tP 4 ?_
   refine tP 5 ?_
   refine WA.done qK ?_
   refine zU (zT (wt ?_))
   refine WE.retF tab_ok [_, _, _, _] rfl ⟨⟨_, _, _, rfl, rfl, rfl, qB, rfl⟩, ⟨_, _, _, rfl, rfl, rfl, qB, rfl⟩, rfl, rfl, trivial⟩ (hR1.trans hR2) ?_
   exact ⟨f1, k1, f2, k2, by rw [if_pos hL, if_pos hL]; rfl, hf1, hf2, qS⟩
  ·try dsimp only at hc1
   have hL : ¬ 120 < lcmC m1 m2 := by omega
   refine zK (zU (zQ ?_))
   refine W.regionH _ (ES := [.blk b10 [.slice f2 m2.vals.length k2, .int .i64 m2.per, .int .i64 m2.inc], .blk b8 [.slice f1 m1.vals.length k1, .int .i64 m1.per, .int .i64 m1.inc]]) mixed ?_
   refine tL 0 (Rd.blk 1 rfl) ?_
   refine tL 1 (Rd.blk 0 rfl) ?_
   refine tP 2 ?_
   refine zCE 3 3 ?_
   refine zCE 4 2 ?_
   refine tP 5 ?_
   refine tP 6 ?_
   refine WA.done qK ?_
   refine zU (zT ?_)
   refine WE.retF tab_ok [_, _, _, _] rfl ⟨⟨_, _, _, rfl, rfl, rfl, qB, rfl⟩, ⟨_, _, _, rfl, rfl, rfl, qB, rfl⟩, rfl, rfl, trivial⟩ (hR1.trans hR2) ?_
   exact ⟨f1, k1, f2, k2, by rw [if_neg hL, if_neg hL]; rfl, hf1, hf2, qS⟩

theorem Plus05_V {R : Ro} {x y : Int} (hx : x = INF ∨ (0 ≤ x ∧ x ≤ 2000000000000000000)) (hy : y = INF ∨ (0 ≤ y ∧ y ≤ 2000000000000000000)) : FnV Tryz.prog 59 [.int .i64 x, .int .i64 y] R (.int .i64 (if x = INF ∨ y = INF then INF else x + y)) := by
 unfold INF at *
 refine Fn.toV (fun w0 E => ?_)
 refine fE 14 Tryz.func59 ?_
 refine zQ (zG (zR 1 rfl (zN (zU (zQ (zQ (zG (zR 3 rfl ?_))))))))
 refine yP ?_
 refine yP ?_
 refine yO ?_
 refine zN (zU ?_)
 refine W.cond rfl (fun hc0 => ?_) (fun hc0 => ?_)
 ·try simp only [zk] at hc0
  have hh : x = 4611686018427387904 ∨ y = 4611686018427387904 := by first | exact hc0 | omega
  refine zQ (zG (zR 1 rfl (zN (zU (zT (wt ?_))))))
  refine sE (E := E) ?_
  refine WE.retF tab_ok [_] rfl ⟨rfl, trivial⟩ (RLe.refl _) ?_
  exact ⟨by rw [if_pos hh]; rfl, rfl⟩
 ·try simp only [zk] at hc0
  have hh : ¬ (x = 4611686018427387904 ∨ y = 4611686018427387904) := by first | exact hc0 | omega
  refine zK (zU (zQ (zG (zR 2 rfl ?_))))
  refine yA ?_
  refine zR 1 rfl (zN (zU (zT ?_)))
  refine sE (E := E) ?_
  refine WE.retF tab_ok [_] rfl ⟨rfl, trivial⟩ (RLe.refl _) ?_
  exact ⟨by rw [if_neg hh]; rfl, rfl⟩



set_option maxHeartbeats 4000000 in
theorem Sum05_C {R : Ro} {fa : Option Addr} {fc : Nat} {c : Cv} (hsc : SmallC c) (hfc : finB c = true) (ha : RS R 1 encI fa c.vals) (hcap : c.vals.length ≤ fc) {ga : Option Addr} {gc : Nat} {d : Cv} (hsd : SmallC d) (hfd : finB d = true) (hb : RS R 1 encI ga d.vals) (hcapd : d.vals.length ≤ gc) (w0 : World) (E : List Ent) : K.Fn Tryz.prog 24 [.agg #[.slice fa c.vals.length fc, .int .i64 c.per, .int .i64 c.inc], .agg #[.slice ga d.vals.length gc, .int .i64 d.per, .int .i64 d.inc]] w0 R E (fun v R' E' => ∃ (f : Option Addr) (k s p : Nat) (q : Int), v = .tuple #[.agg #[.slice f (fvals (plusF (normR c) (normR d)) (s + p)).length k, .int .i64 (p : Int), .int .i64 q], .int .i64 0] ∧ RS R' 1 encI f (fvals (plusF (normR c) (normR d)) (s + p)) ∧ FC (plusF (normR c) (normR d)) s p q ∧ E.Sublist E') := by
 obtain ⟨hL64, hL1, hpl, hrep, hgb, hbd⟩ := small_sum hsc hfc hsd hfd
 obtain ⟨a1, a2, a3, a4, a5, a6, a7, a8, a9⟩ := small_norm hsc hfc
 obtain ⟨b1, b2, b3, b4, b5, b6, b7, b8, b9⟩ := small_norm hsd hfd
 have hnoL : ¬ 120 < lcmC (normR c) (normR d) := by omega
 obtain ⟨hmok, ⟨s, p, q, hmade, hfcr⟩, hle⟩ := small_made hsc hfc hsd hfd
 have hnv := (norm_valid hsc.valid).1
 have hnw := (norm_valid hsd.valid).1
 refine fE 70 Tryz.func24 ?_
 refine zQ (zG ?_)
 refine zO fun b2 => ?_
 refine zO fun b3 => ?_
 refine zA fun b4 => ?_
 refine zR 1 rfl (zN (zU (zQ (zG ?_))))
 refine yL (Rd.blk 2 rfl) ?_
 refine yL (Rd.blk 1 rfl) ?_
 refine WL.call en58 rfl rfl qD (CallOp.mkT rfl rfl rfl rfl) (Pair05_C hsc.valid ha hcap hsd.valid hb hcapd w0 _) ?_
 rintro _ R1 E1 hR1 ⟨f1, k1, f2, k2, rfl, hf1, hf2, hsub1⟩
 refine WL.subE hsub1 ?_
 rw [if_neg hnoL, if_neg hnoL]
 generalize normR c = m1 at *
 generalize normR d = m2 at *
 have hgi : (gainC m1 (lcmC m1 m2) + gainC m2 (lcmC m1 m2)) = m1.inc * ((lcmC m1 m2 : Int) / m1.per) + m2.inc * ((lcmC m1 m2 : Int) / m2.per) := by unfold gainC; rw [Int.mul_comm m1.inc, Int.mul_comm m2.inc]
 have hd1 : 0 ≤ (lcmC m1 m2 : Int) / m1.per ∧ (lcmC m1 m2 : Int) / m1.per ≤ 64 := ⟨Int.ediv_nonneg (by omega) (by omega), by have := Int.ediv_le_self (a := (lcmC m1 m2 : Int)) m1.per (by omega); omega⟩
 have hd2 : 0 ≤ (lcmC m1 m2 : Int) / m2.per ∧ (lcmC m1 m2 : Int) / m2.per ≤ 64 := ⟨Int.ediv_nonneg (by omega) (by omega), by have := Int.ediv_le_self (a := (lcmC m1 m2 : Int)) m2.per (by omega); omega⟩
 have hq1 := mulB (a := m1.inc) (b := (lcmC m1 m2 : Int) / m1.per) (A := 2000) (B := 64) (by omega) (by omega)
 have hq2 := mulB (a := m2.inc) (b := (lcmC m1 m2 : Int) / m2.per) (A := 2000) (B := 64) (by omega) (by omega)
 refine zR 5 rfl ?_
 refine zA fun b6 => ?_
 refine zA fun b7 => ?_
 refine zE 1 ?_
 refine zE 0 ?_
 refine zR 2 rfl (zN (zU (zQ (zQ (zG (zR 2 rfl (zN (zU ?_))))))))
 refine W.condN rfl (fun hc0 => ?_) (fun hc0 => ?_)
 ·try dsimp only at hc0
  (simp at hc0; done)
 ·try dsimp only at hc0
  refine zK (zU (zQ ?_))
  refine W.regionH _ (ES := [.blk b7 [.slice f2 m2.vals.length k2, .int .i64 m2.per, .int .i64 m2.inc], .blk b6 [.slice f1 m1.vals.length k1, .int .i64 m1.per, .int .i64 m1.inc]]) mixed ?_
  refine tP 0 ?_
  refine tP 1 ?_
  refine tL 2 (Rd.add (Rd.blk 1 rfl) _) ?_
  refine tP 3 ?_
  refine tP 4 ?_
  refine tL 5 (Rd.add (Rd.blk 1 rfl) _) ?_
  refine WA.take 6 rfl qK qK qK rfl rfl qD (Yl.quo rfl rfl rfl (fun _ => rfl) qA (by intro _; omega)) qS qR ?_
  refine WA.take 7 rfl qK qK qK rfl rfl qD (Yl.mul rfl rfl rfl (fun _ => rfl) qA) qS qR ?_
  refine tP 8 ?_
  refine tL 9 (Rd.add (Rd.blk 0 rfl) _) ?_
  refine tP 10 ?_
  refine tP 11 ?_
  refine tL 12 (Rd.add (Rd.blk 0 rfl) _) ?_
  refine WA.take 13 rfl qK qK qK rfl rfl qD (Yl.quo rfl rfl rfl (fun _ => rfl) qA (by intro _; omega)) qS qR ?_
  refine WA.take 14 rfl qK qK qK rfl rfl qD (Yl.mul rfl rfl rfl (fun _ => rfl) qA) qS qR ?_
  refine tA 15 ?_
  -- build
  refine WA.take 16 rfl qK qK qK rfl rfl qD (Yl.build (parts := [(1, .tmp 24), (2, .tmp 39)]) tab_ok rfl rfl rfl rfl (fun _ => rfl) rfl rfl) qS qR ?_
  refine WA.eff 17 rfl qK rfl rfl qD (Ef.alloc tab_ok rfl rfl (fun b10 => ?_))
  refine ⟨qR, qS, ?_⟩
  refine zCE 18 0 ?_
  refine WA.done qK ?_
  refine zU (zQ ?_)
  rw [← hgi]
  generalize (gainC m1 (lcmC m1 m2) + gainC m2 (lcmC m1 m2)) = G at *
  generalize lcmC m1 m2 = L at *
  refine W.nil 3 1 qD ?_
  refine zQ (zG (zR 1 rfl (zN (zU (zB ?_)))))
  refine W.loopK (β := Nat × Option Addr × Nat) (fun (t, a9, c9) => t ≤ (max m1.vals.length m2.vals.length) + L) (fun (t, a9, c9) => [(11, true, .int .i64 (t : Int))]) [4, 6, 7, 8, 10] [_, _, _, _, _] [] _ rfl (fun (t, a9, c9) => [(0, .sl 3 1 a9 c9 ((fvals (plusF m1 m2) t).map encI)), (1, .blk b10 [.slice a9 (fvals (plusF m1 m2) t).length c9, .int .i64 (L : Int), .int .i64 G])]) (fun (t, a9, c9) => (max m1.vals.length m2.vals.length) + L - t) ((0, none, 0)) (Nat.zero_le _) ⟨rfl, rfl, rfl, rfl, rfl, rfl, rfl⟩ qS ?_
  intro st hst
  obtain ⟨t, a9, c9⟩ := st
  dsimp only [zipE, setAll, List.cons_append, List.nil_append, List.set_cons_zero, List.set_cons_succ] at hst ⊢
  have hfl := fvals_len (plusF m1 m2) t
  refine zQ (zQ (zG (zR 2 rfl ?_)))
  refine yL (Rd.add (Rd.blk 3 rfl) _) ?_
  refine zR 2 rfl ?_
  refine yL (Rd.add (Rd.blk 2 rfl) _) ?_
  refine zR 3 rfl ?_
  refine yA ?_
  refine zR 1 rfl (zN (zU ?_))
  refine W.condD rfl (fun hc1 => ?_) (fun hc1 => ?_)
  ·try dsimp only at hc1
   have htM : t < (max m1.vals.length m2.vals.length) + L := by split at hc1 <;> omega
   obtain ⟨x1, x2, x3⟩ := hle t (by omega)
   have e1 : fvals (plusF m1 m2) (t + 1) = fvals (plusF m1 m2) t ++ [(if cvF m1 t = INF ∨ cvF m2 t = INF then INF else cvF m1 t + cvF m2 t)] := by rw [fvals_snoc, x1]
   refine zK (zU (zQ (zB ?_)))
   refine W.regionH _ (ES := [.blk b7 [.slice f2 m2.vals.length k2, .int .i64 m2.per, .int .i64 m2.inc], .blk b6 [.slice f1 m1.vals.length k1, .int .i64 m1.per, .int .i64 m1.inc]]) mixed ?_
   refine tP 0 ?_
   refine tL 2 (Rd.blk 1 rfl) ?_
   refine tP 3 ?_
   refine tL 5 (Rd.blk 0 rfl) ?_
   refine tP 6 ?_
   refine WA.br2 (i := 1) (j := 4) qK ?_ ?_
   ·
    refine sL (Rd.add (Rd.blk 1 rfl) _) ?_
    refine WA.callG 4 rfl qK en50 rfl (by first | rfl | decide) rfl qD (CallOp.mkT rfl rfl rfl rfl) (FnV.toFn (AtG_V (fc := k1) hnv hf1 (t := t) qO)) ?_
    rintro _ _ _ - ⟨rfl, rfl, rfl⟩
    refine ⟨qR, qS, ?_⟩
    refine WA.callG 7 rfl qK en50 rfl (by first | rfl | decide) rfl qD (CallOp.mkT rfl rfl rfl rfl) (FnV.toFn (AtG_V (fc := k2) hnw hf2 (t := t) qO)) ?_
    rintro _ _ _ - ⟨rfl, rfl, rfl⟩
    refine ⟨qR, qS, ?_⟩
    refine WA.callG 8 rfl qK en59 rfl (by first | rfl | decide) rfl qD (CallOp.mkT rfl rfl rfl rfl) (FnV.toFn (Plus05_V (.inr x2) (.inr x3))) ?_
    rintro _ _ _ - ⟨rfl, rfl, rfl⟩
    refine ⟨qR, qS, ?_⟩
    refine WA.eff 9 rfl qK rfl rfl qD (Ef.buildSliceD (enc := encI) (parts := [.tmp 62]) [_] tab_ok rfl rfl rfl rfl rfl rfl rfl rfl qD qD (fun a63 => ?_))
    refine ⟨qR, qS, ?_⟩
    refine WA.eff 10 rfl (by kernel_rfl) rfl rfl (by decide) (Ef.appendD 1 0 tab_ok rfl rfl rfl rfl rfl rfl rfl rfl rfl rfl rfl (fun _ _ => rfl) (by simp only [List.length_cons, List.length_nil]; omega) (by simp only [List.length_cons, List.length_nil]; omega) (fun a64 c64 ha64 => ?_))
    refine ⟨qR, qS, ?_⟩
    refine tP 11 ?_
    refine zCF 12 2 ?_
    refine WA.done qK ?_
    refine zL (zU (zG (zR 1 rfl ?_)))
    refine yA ?_
    refine zR 1 rfl (zN ?_)
    refine WE.again ((t + 1, a64, c64)) (by dsimp only; omega) (by (try dsimp only); omega) ⟨rfl, rfl, rfl, rfl, rfl, rfl, rfl⟩ (RLe.refl _) (by dsimp only [setAll, List.set_cons_zero, List.set_cons_succ]; rw [e1, List.length_append]; exact qS)
   ·
    refine WS.callG rfl en50 rfl (by first | rfl | decide) rfl qD (CallOp.mkT rfl rfl rfl rfl) (FnV.toFn (AtG_V (fc := k1) hnv hf1 (t := t) qO)) ?_
    rintro _ _ _ - ⟨rfl, rfl, rfl⟩
    refine ⟨qR, qS, ?_⟩
    refine WA.br2 (i := 1) (j := 7) qK ?_ ?_
    ·
     refine sL (Rd.add (Rd.blk 1 rfl) _) ?_
     refine WA.callG 7 rfl qK en50 rfl (by first | rfl | decide) rfl qD (CallOp.mkT rfl rfl rfl rfl) (FnV.toFn (AtG_V (fc := k2) hnw hf2 (t := t) qO)) ?_
     rintro _ _ _ - ⟨rfl, rfl, rfl⟩
     refine ⟨qR, qS, ?_⟩
     refine WA.callG 8 rfl qK en59 rfl (by first | rfl | decide) rfl qD (CallOp.mkT rfl rfl rfl rfl) (FnV.toFn (Plus05_V (.inr x2) (.inr x3))) ?_
     rintro _ _ _ - ⟨rfl, rfl, rfl⟩
     refine ⟨qR, qS, ?_⟩
     refine WA.eff 9 rfl qK rfl rfl qD (Ef.buildSliceD (enc := encI) (parts := [.tmp 62]) [_] tab_ok rfl rfl rfl rfl rfl rfl rfl rfl qD qD (fun a63 => ?_))
     refine ⟨qR, qS, ?_⟩
     refine WA.eff 10 rfl (by kernel_rfl) rfl rfl (by decide) (Ef.appendD 1 0 tab_ok rfl rfl rfl rfl rfl rfl rfl rfl rfl rfl rfl (fun _ _ => rfl) (by simp only [List.length_cons, List.length_nil]; omega) (by simp only [List.length_cons, List.length_nil]; omega) (fun a64 c64 ha64 => ?_))
     refine ⟨qR, qS, ?_⟩
     refine tP 11 ?_
     refine zCF 12 2 ?_
     refine WA.done qK ?_
     refine zL (zU (zG (zR 1 rfl ?_)))
     refine yA ?_
     refine zR 1 rfl (zN ?_)
     refine WE.again ((t + 1, a64, c64)) (by dsimp only; omega) (by (try dsimp only); omega) ⟨rfl, rfl, rfl, rfl, rfl, rfl, rfl⟩ (RLe.refl _) (by dsimp only [setAll, List.set_cons_zero, List.set_cons_succ]; rw [e1, List.length_append]; exact qS)
    ·
     refine WS.callG rfl en50 rfl (by first | rfl | decide) rfl qD (CallOp.mkT rfl rfl rfl rfl) (FnV.toFn (AtG_V (fc := k2) hnw hf2 (t := t) qO)) ?_
     rintro _ _ _ - ⟨rfl, rfl, rfl⟩
     refine ⟨qR, qS, ?_⟩
     refine WA.br2 (i := 1) (j := 8) qK ?_ ?_
     ·
      refine sL (Rd.add (Rd.blk 1 rfl) _) ?_
      refine WA.callG 8 rfl qK en59 rfl (by first | rfl | decide) rfl qD (CallOp.mkT rfl rfl rfl rfl) (FnV.toFn (Plus05_V (.inr x2) (.inr x3))) ?_
      rintro _ _ _ - ⟨rfl, rfl, rfl⟩
      refine ⟨qR, qS, ?_⟩
      refine WA.eff 9 rfl qK rfl rfl qD (Ef.buildSliceD (enc := encI) (parts := [.tmp 62]) [_] tab_ok rfl rfl rfl rfl rfl rfl rfl rfl qD qD (fun a63 => ?_))
      refine ⟨qR, qS, ?_⟩
      refine WA.eff 10 rfl (by kernel_rfl) rfl rfl (by decide) (Ef.appendD 1 0 tab_ok rfl rfl rfl rfl rfl rfl rfl rfl rfl rfl rfl (fun _ _ => rfl) (by simp only [List.length_cons, List.length_nil]; omega) (by simp only [List.length_cons, List.length_nil]; omega) (fun a64 c64 ha64 => ?_))
      refine ⟨qR, qS, ?_⟩
      refine tP 11 ?_
      refine zCF 12 2 ?_
      refine WA.done qK ?_
      refine zL (zU (zG (zR 1 rfl ?_)))
      refine yA ?_
      refine zR 1 rfl (zN ?_)
      refine WE.again ((t + 1, a64, c64)) (by dsimp only; omega) (by (try dsimp only); omega) ⟨rfl, rfl, rfl, rfl, rfl, rfl, rfl⟩ (RLe.refl _) (by dsimp only [setAll, List.set_cons_zero, List.set_cons_succ]; rw [e1, List.length_append]; exact qS)
     ·
      refine WS.callG rfl en59 rfl (by first | rfl | decide) rfl qD (CallOp.mkT rfl rfl rfl rfl) (FnV.toFn (Plus05_V (.inr x2) (.inr x3))) ?_
      rintro _ _ _ - ⟨rfl, rfl, rfl⟩
      refine ⟨qR, qS, ?_⟩
      refine WA.br2 (i := 1) (j := 9) qK ?_ ?_
      ·
       refine sL (Rd.add (Rd.blk 1 rfl) _) ?_
       refine WA.eff 9 rfl qK rfl rfl qD (Ef.buildSliceD (enc := encI) (parts := [.tmp 62]) [_] tab_ok rfl rfl rfl rfl rfl rfl rfl rfl qD qD (fun a63 => ?_))
       refine ⟨qR, qS, ?_⟩
       refine WA.eff 10 rfl (by kernel_rfl) rfl rfl (by decide) (Ef.appendD 1 0 tab_ok rfl rfl rfl rfl rfl rfl rfl rfl rfl rfl rfl (fun _ _ => rfl) (by simp only [List.length_cons, List.length_nil]; omega) (by simp only [List.length_cons, List.length_nil]; omega) (fun a64 c64 ha64 => ?_))
       refine ⟨qR, qS, ?_⟩
       refine tP 11 ?_
       refine zCF 12 2 ?_
       refine WA.done qK ?_
       refine zL (zU (zG (zR 1 rfl ?_)))
       refine yA ?_
       refine zR 1 rfl (zN ?_)
       refine WE.again ((t + 1, a64, c64)) (by dsimp only; omega) (by (try dsimp only); omega) ⟨rfl, rfl, rfl, rfl, rfl, rfl, rfl⟩ (RLe.refl _) (by dsimp only [setAll, List.set_cons_zero, List.set_cons_succ]; rw [e1, List.length_append]; exact qS)
      ·
       refine WS.eff rfl rfl rfl qD (Ef.buildSliceD (enc := encI) (parts := [.tmp 62]) [_] tab_ok rfl rfl rfl rfl rfl rfl rfl rfl qD qD (fun a63 => ?_))
       refine ⟨qR, qS, ?_⟩
       refine lL 1 (Rd.add (Rd.blk 2 rfl) _) ?_
       refine WA.eff 10 rfl (by kernel_rfl) rfl rfl (by decide) (Ef.appendD 1 0 tab_ok rfl rfl rfl rfl rfl rfl rfl rfl rfl rfl rfl (fun _ _ => rfl) (by simp only [List.length_cons, List.length_nil]; omega) (by simp only [List.length_cons, List.length_nil]; omega) (fun a64 c64 ha64 => ?_))
       refine ⟨qR, qS, ?_⟩
       refine tP 11 ?_
       refine zCF 12 2 ?_
       refine WA.done qK ?_
       refine zL (zU (zG (zR 1 rfl ?_)))
       refine yA ?_
       refine zR 1 rfl (zN ?_)
       refine WE.again ((t + 1, a64, c64)) (by dsimp only; omega) (by (try dsimp only); omega) ⟨rfl, rfl, rfl, rfl, rfl, rfl, rfl⟩ (RLe.refl _) (by dsimp only [setAll, List.set_cons_zero, List.set_cons_succ]; rw [e1, List.length_append]; exact qS)
  ·try dsimp only at hc1
   obtain rfl : t = (max m1.vals.length m2.vals.length) + L := by split at hc1 <;> omega
   refine W.cap 0 rfl ?_
   intro hcp
   rw [List.length_map] at hcp
   refine W.freeze (enc := encI) (xs := fvals (plusF m1 m2) ((max m1.vals.length m2.vals.length) + L)) 0 rfl ?_
   intro R2 hR2 hv0
   refine zX ?_
   refine wx (wx (zY (zU (zQ (zG ?_)))))
   refine yL (Rd.blk 0 rfl) ?_
   refine WL.call en60 rfl rfl qD (CallOp.mkT rfl rfl rfl rfl) (MadeG_C hv0 qO hmok hcp w0 _) ?_
   rintro _ R4 E4 hR4 ⟨f, fc4, rfl, hf4, hsub4⟩
   refine WL.subE hsub4 ?_
   rw [hmade] at hf4 ⊢
   unfold cvV
   refine zR 2 rfl ?_
   refine zE 3 ?_
   refine zR 1 rfl (zN (zU (zT ?_)))
   refine WE.retF tab_ok [_, _] rfl ⟨⟨_, _, _, rfl, rfl, rfl, qB, rfl⟩, rfl, trivial⟩ (hR1.trans (hR2.trans hR4)) ?_
   exact ⟨f, fc4, s, p, q, rfl, hf4, hfcr, qS⟩

end Go.Proofs.YthpblaoehlgpfaaGreat

/- Rules: calls that hand back one value and leave memory, under any guard, in regions that draw their order and write; what is not wanted. No condition. -/
namespace Go.Proofs.YthpblaoehlgpfaaGreat.K
open Go Go.RowKit
section
variable {P : Program} {ops : List Oper} {o : Oper} {Q : Exit → Act → World → Prop} {ES : List Ent} {R0 : Ro} {w0 : World} {fuel : Nat} {listed : Array Bool} {n : Nat} {env : Env} {R : Ro} {E : List Ent} {pc q : Bool}
theorem WA.callV {v : Value} {d : Nat} {f : FuncId} {vs : List Value} (i : Nat) (hi : ops.toArray[i]? = some o) (hr : Region.ready .any ops.toArray listed = [i]) (hf : Enters P f) (hg : gpc ops env o = some pc) (hd : o.dst = some d) (hdn : d < n)
  (hc : CallOp env o.op q f vs) (hq : pc = true → q = true) (hv : pc = true → FnV P f vs R v) (hsub : ES.Sublist E) (hR : RLe R0 R)
  (h : WA P ops Q ES R0 w0 fuel (listed.setIfInBounds i true) n ((d, pc, v) :: env) R E) : WA P ops Q ES R0 w0 (fuel + 1) listed n env R E := by
 intro a w hk hm
 refine wpAnyH_all hr (by simp) fun j hj => ?_
 obtain rfl : j = i := by simpa using hj
 unfold wpOp
 rw [hi]
 have hput := hk.put hdn pc v
 have hw := hk.wanted hg
 cases pc with
 | true =>
  simp only [hw, if_true]
  left
  unfold Oper.wp
  rw [run_call hk hc (hq rfl) hf]
  refine (hv rfl w0 E w hm).mono ?_
  rintro e w' ⟨rfl, hm'⟩
  simp only [hd]
  exact ⟨hm'.sub hR hsub, h _ _ (by simpa using hput) hm'⟩
 | false =>
  simp only [hw, Bool.false_eq_true, if_false, hd]
  exact ⟨hm.sub hR hsub, h _ _ (by simpa using hput) hm⟩
theorem WS.callV {v : Value} {d : Nat} {f : FuncId} {vs : List Value} {i : Nat} (hi : ops.toArray[i]? = some o) (hf : Enters P f) (hg : gpc ops env o = some pc) (hd : o.dst = some d) (hdn : d < n)
  (hc : CallOp env o.op q f vs) (hq : pc = true → q = true) (hv : pc = true → FnV P f vs R v) (hsub : ES.Sublist E) (hR : RLe R0 R)
  (h : WA P ops Q ES R0 w0 fuel (listed.setIfInBounds i true) n ((d, pc, v) :: env) R E) : WS P ops Q ES R0 w0 fuel listed n env R E i := by
 intro a w hk hm
 unfold wpOp
 rw [hi]
 have hput := hk.put hdn pc v
 have hw := hk.wanted hg
 cases pc with
 | true =>
  simp only [hw, if_true]
  left
  unfold Oper.wp
  rw [run_call hk hc (hq rfl) hf]
  refine (hv rfl w0 E w hm).mono ?_
  rintro e w' ⟨rfl, hm'⟩
  simp only [hd]
  exact ⟨hm'.sub hR hsub, h _ _ (by simpa using hput) hm'⟩
 | false =>
  simp only [hw, Bool.false_eq_true, if_false, hd]
  exact ⟨hm.sub hR hsub, h _ _ (by simpa using hput) hm⟩
theorem Yl.off {v : Value} (h : pc = false) : Yl P n env w0 R E o pc v := fun _ _ _ _ hp => by rw [h] at hp; cases hp
end
end Go.Proofs.YthpblaoehlgpfaaGreat.K

/- Rules: maps of a few keys (make, insert, look up), values in interfaces, calls of methods. No condition. -/
namespace Go.Proofs.YthpblaoehlgpfaaGreat.K
open Go Go.RowKit
section
variable {P : Program} {T : Tab} {ops rest : List Oper} {Q : Exit → Act → World → Prop} {n : Nat} {env : Env} {w0 : World} {R : Ro} {E : List Ent} {o : Oper} {pc p q : Bool}
theorem under_map (hT : TabOk P T) {t k e : TypeId} {d : TD} (hd : T.at t = some d) (hk : d.k = .map k e) : P.underlying t = some (.map k e) := by
 have := hT.kind hd
 rw [hk] at this
 unfold kindOf at this
 split at this <;> simp_all
theorem under_int (hT : TabOk P T) {t : TypeId} {k : IntKind} {d : TD} (hd : T.at t = some d) (hk : d.k = .int k) : P.underlying t = some (.int k) := by
 have := hT.kind hd
 rw [hk] at this
 unfold kindOf at this
 split at this <;> simp_all
theorem Ef.makeMap {K : Value → Ro → List Ent → Prop} {t : TypeId} (ho : o.op = .makeMap t none) (hK : ∀ b, K (.map (some b)) R (.obj b (.map #[] 0) :: E)) : Ef P n env w0 R E o K := by
 intro a w hk hm
 refine ⟨_, w.alloc (.map #[] 0), R, _, .inl ?_, hm.newObj _, hK _⟩
 unfold execOp
 simp [ho, run_makeMap_plain]
theorem Ef.insert {K : Value → Ro → List Ent → Prop} {t kt et : TypeId} {x y z : Operand} {b clock : Nat} {es : Array MapEntry} {kk : IntKind} {k : Int} {v : Value} {d d2 : TD} (hT : TabOk P T) (ho : o.op = .insert t x y z) (hd : T.at t = some d) (hkd : d.k = .map kt et) (hd2 : T.at kt = some d2) (hk2 : d2.k = .int kk)
  (hx : ev env x = some (true, .map (some b))) (hy : ev env y = some (true, .int kk k)) (hz : ev env z = some (true, v)) (hf : Instr.findNow (.int kk) (.int kk k) es.toList 0 = some none)
  (hK : K undef R (.obj b (.map (es.push { key := .int kk k, val := v, born := clock }) (clock + 1)) :: E)) : Ef P n env w0 R (.obj b (.map es clock) :: E) o K := by
 intro a w hk hm
 have hb := hm.getObj
 have hm1 := under_map hT hd hkd
 have hu2 := under_int hT hd2 hk2
 have hc : (Instr.checkKey false 10000 kt (.int kk k)).run P w = .ok () w := MapKept.run_checkKey (k := .int kk k) hu2 (by simp [MapKept.IsKey]) false 9999
 refine ⟨undef, w.putObj b (.map (es.push { key := .int kk k, val := v, born := clock }) (clock + 1)), R, _, .inr ⟨?_, rfl⟩, hm.putObj _, hK⟩
 unfold execOp
 simp [ho, hk.ev hx rfl, hk.ev hy rfl, hk.ev hz rfl, Instr.mapUpdate, run_underlying hm1, MapKept.run_getObj_map hb, hc, MapKept.run_findKey hu2 hf, MapKept.run_setObj_map _ hb, Result.andThen, World.putObj]
def foundV (z : Value) : Option (Nat × Value) → Value
  | some (_, u) => .tuple #[u, .bool true]
  | none => .tuple #[z, .bool false]
theorem Yl.lookup {t kt et : TypeId} {x y : Operand} {b clock : Nat} {es : Array MapEntry} {kk : IntKind} {k : Int} {v z : Value} {d d2 : TD} {r : Option (Nat × Value)} (hT : TabOk P T) (ho : o.op = .lookup t x y true) (hd : T.at t = some d) (hkd : d.k = .map kt et) (hd2 : T.at kt = some d2) (hk2 : d2.k = .int kk) (hz : (P.info? et).bind (·.zero) = some z)
  (hx : ev env x = some (p, .map (some b))) (hy : ev env y = some (q, .int kk k)) (hpq : pc = true → (p && q) = true) (hf : Instr.findNow (.int kk) (.int kk k) es.toList 0 = some r)
  (hv : foundV z r = v) : Yl P n env w0 R (.obj b (.map es clock) :: E) o pc v := by
 intro a w hk hm hpc
 obtain ⟨h1, h2⟩ := and_both (hpq hpc)
 have hb := hm.getObj
 have hm1 := under_map hT hd hkd
 have hu2 := under_int hT hd2 hk2
 have hc : (Instr.checkKey es.isEmpty 10000 kt (.int kk k)).run P w = .ok () w := MapKept.run_checkKey (k := .int kk k) hu2 (by simp [MapKept.IsKey]) es.isEmpty 9999
 have hz' : (zeroValue et).run P w = .ok z w := by
  cases hi : P.info? et with
  | none => rw [hi] at hz; cases hz
  | some inf =>
   rw [hi] at hz
   have : inf.zero = some z := hz
   simp [zeroValue, typeInfo, hi, this]
 subst hv
 unfold execOp
 cases r with
 | none => simp [foundV, ho, hk.ev hx h1, hk.ev hy h2, Instr.lookup, run_underlying hm1, MapKept.run_getObj_map hb, hc, MapKept.run_findKey hu2 hf, hz', Result.andThen]
 | some r => simp [foundV, ho, hk.ev hx h1, hk.ev hy h2, Instr.lookup, run_underlying hm1, MapKept.run_getObj_map hb, hc, MapKept.run_findKey hu2 hf, Result.andThen]
theorem Yl.toIface {t : TypeId} {fs : List (Nat × Nat)} {x : Operand} {v : Value} {d : TD} (hT : TabOk P T) (ho : o.op = .makeInterface t x) (hd : T.at t = some d) (hk : d.k = .strct fs) (hx : ev env x = some (p, v)) (hpq : pc = true → p = true) : Yl P n env w0 R E o pc (.iface t v) := by
 intro a w hk2 hm hpc
 obtain ⟨ff, hu, _⟩ := hT.strct hd hk
 unfold execOp
 simp [ho, hk2.ev hx (hpq hpc), Instr.makeInterface, run_underlying hu]
/-- the method of what stands in an interface -/
def Meth (P : Program) (t : TypeId) (rv : Value) (name : String) (f : FuncId) (us : List Value) : Prop :=
  ∀ w, (callMethod (.iface t rv) name us.toArray).run P w = .ok (.enter f (rv :: us).toArray) w
theorem run_callI {a : Act} {w : World} (hk : Kn n env a) {x : Operand} {args : List Operand} {ats : Array TypeId} {name : String} {t : TypeId} {rv : Value} {f : FuncId} {us : List Value} (ho : o.op = .call { callee := .invoke x name, args := args.toArray, argTypes := ats })
  (hx : ev env x = some (true, .iface t rv)) (ha : evs env args = some (true, us)) (hm : Meth P t rv name f us) : (execOp a.eval o).run P w = .ok (.enter f (rv :: us).toArray) w := by
 have e1 := hk.ev hx rfl
 have e2 := evs_ok hk ha rfl
 have e3 : args.toArray.map a.eval = us.toArray := by rw [← e2]; simp
 have e4 : (#[Value.iface t rv] ++ us.toArray).extract 1 (#[Value.iface t rv] ++ us.toArray).size = us.toArray := by simp
 have e5 : (#[Value.iface t rv] ++ us.toArray)[0]? = some (.iface t rv) := by simp
 unfold execOp
 rw [ho]
 simp only [resolve, e1, e3, invoke, Sem.run_bind, Sem.run_pure, Result.andThen_ok]
 rw [e5]
 simp only [e4]
 exact hm w
theorem WL.callI {d : Nat} {x : Operand} {args : List Operand} {ats : Array TypeId} {name : String} {t : TypeId} {rv : Value} {f : FuncId} {us : List Value} {Post : Value → Ro → List Ent → Prop} (ho : o.op = .call { callee := .invoke x name, args := args.toArray, argTypes := ats }) (hg : o.guard = none) (hd : o.dst = some d) (hdn : d < n)
  (hx : ev env x = some (true, .iface t rv)) (ha : evs env args = some (true, us)) (hm : Meth P t rv name f us) (hv : Fn P f (rv :: us) w0 R E Post)
  (h : ∀ v R' E', RLe R R' → Post v R' E' → WG false P ops Q rest n ((d, true, v) :: env) w0 R' E') : WG false P ops Q (o :: rest) n env w0 R E := by
 intro a w hk hmm
 refine wpList_plain hg fun K hK => ?_
 unfold Oper.wp
 rw [run_callI hk ho hx ha hm]
 refine (hv w hmm).mono ?_
 rintro e w' ⟨v, R', E', rfl, hR, hm', hp⟩
 simp only [hd]
 exact hK _ _ (h v R' E' hR hp _ _ (hk.putT hdn v) hm')
theorem WA.freezeBlk {ES : List Ent} {R0 : Ro} {fuel : Nat} {listed : Array Bool} {b : Nat} {cs : List Value} (i : Nat) (hE : E[i]? = some (.blk b cs)) (h : ∀ R', RLe R R' → R' b = some cs → WA P ops Q ES R0 w0 fuel listed n env R' (E.eraseIdx i)) : WA P ops Q ES R0 w0 fuel listed n env R E := by
 intro a w hk hm
 obtain ⟨R', hR, hb, hm'⟩ := hm.freezeBlk hE
 exact h R' hR hb a w hk hm'
/-- what a run hands back, read only: the ticks and the bytes -/
def RunV (out : List Int × List (List Int)) (E : List Ent) (T : Value → Value) (v : Value) (R' : Ro) (E' : List Ent) : Prop :=
  ∃ (da oa : Option Addr) (dc oc : Nat) (rows : List M.Sl), v = T (.agg #[.slice da out.1.length dc, .slice oa rows.length oc]) ∧ RS R' 1 encI da out.1 ∧ RS R' 1 M.encS oa rows ∧ (∀ r ∈ rows, RS R' 1 encI r.a r.xs) ∧ rows.map M.Sl.xs = out.2 ∧ (∀ r ∈ rows, r.xs.length ≤ r.cap) ∧ E.Sublist E'
end
end Go.Proofs.YthpblaoehlgpfaaGreat.K

/- Chapter 22: the kinds, the numbers within, the lists. No condition. -/
set_option maxRecDepth 4000
set_option linter.unusedSimpArgs false
set_option linter.unusedVariables false
namespace Go.Proofs.YthpblaoehlgpfaaGreat
open Go Go.RowKit Go.Proofs.YthpblaoehlgpfaaGreat.K Go.Proofs.YthpblaoehlgpfaaGreat.M

def kindI (k : Int) : Value := if k = 1 then .iface 112 (.agg #[]) else if k = 2 then .iface 113 (.agg #[]) else if k = 3 then .iface 114 (.agg #[]) else if k = 4 then .iface 115 (.agg #[]) else if k = 5 then .iface 116 (.agg #[]) else .nilIface
def kindB (k : Int) : Bool := decide (1 ≤ k) && decide (k ≤ 5)
def kindR (k : Int) : Option (Nat × Value) := if k = 1 then some (0, .iface 112 (.agg #[])) else if k = 2 then some (1, .iface 113 (.agg #[])) else if k = 3 then some (2, .iface 114 (.agg #[])) else if k = 4 then some (3, .iface 115 (.agg #[])) else if k = 5 then some (4, .iface 116 (.agg #[])) else none
theorem kind_find (k : Int) : Instr.findNow (.int .i64) (.int .i64 k) [{ key := .int .i64 1, val := .iface 112 (.agg #[]), born := 0 }, { key := .int .i64 2, val := .iface 113 (.agg #[]), born := 1 }, { key := .int .i64 3, val := .iface 114 (.agg #[]), born := 2 }, { key := .int .i64 4, val := .iface 115 (.agg #[]), born := 3 }, { key := .int .i64 5, val := .iface 116 (.agg #[]), born := 4 }] 0 = some (kindR k) := by
 unfold kindR
 by_cases h1 : k = 1
 ·subst h1; rfl
 ·by_cases h2 : k = 2
  ·subst h2; rfl
  ·by_cases h3 : k = 3
   ·subst h3; rfl
   ·by_cases h4 : k = 4
    ·subst h4; rfl
    ·by_cases h5 : k = 5
     ·subst h5; rfl
     ·have e1 : (k == 1) = false := by simpa using h1
      have e2 : (k == 2) = false := by simpa using h2
      have e3 : (k == 3) = false := by simpa using h3
      have e4 : (k == 4) = false := by simpa using h4
      have e5 : (k == 5) = false := by simpa using h5
      simp [Instr.findNow, Instr.sameNow, h1, h2, h3, h4, h5, e1, e2, e3, e4, e5]
theorem kind_hit (k : Int) : foundV .nilIface (kindR k) = .tuple #[kindI k, .bool (kindB k)] := by
 unfold kindR kindI kindB
 by_cases h1 : k = 1
 ·subst h1; rfl
 ·by_cases h2 : k = 2
  ·subst h2; rfl
  ·by_cases h3 : k = 3
   ·subst h3; rfl
   ·by_cases h4 : k = 4
    ·subst h4; rfl
    ·by_cases h5 : k = 5
     ·subst h5; rfl
     ·have : (decide (1 ≤ k) && decide (k ≤ 5)) = false := by simp only [Bool.and_eq_false_iff, decide_eq_false_iff_not]; omega
      simp [h1, h2, h3, h4, h5, this, foundV]

theorem Kind_V {R : Ro} (k : Int) : FnV Tryz.prog 44 [.int .i64 k] R (.tuple #[kindI k, .bool (kindB k)]) := by
 refine Fn.toV (fun w0 E => ?_)
 refine fE 25 Tryz.func44 ?_
 refine zQ (zG (zR 2 rfl (zN (zU (zQ (zG ?_))))))
 refine WL.ef rfl rfl qD (Ef.makeMap rfl (fun b7 => ?_))
 -- build
 refine WG.y rfl rfl qD (Yl.build (parts := []) tab_ok rfl rfl rfl rfl (fun _ => rfl) rfl rfl) ?_
 refine WG.y rfl rfl qD (Yl.toIface tab_ok rfl rfl rfl rfl (fun _ => rfl)) ?_
 refine WL.efN rfl rfl (Ef.insert tab_ok rfl rfl rfl rfl rfl rfl rfl rfl rfl ?_)
 -- build
 refine WG.y rfl rfl qD (Yl.build (parts := []) tab_ok rfl rfl rfl rfl (fun _ => rfl) rfl rfl) ?_
 refine WG.y rfl rfl qD (Yl.toIface tab_ok rfl rfl rfl rfl (fun _ => rfl)) ?_
 refine WL.efN rfl rfl (Ef.insert tab_ok rfl rfl rfl rfl rfl rfl rfl rfl rfl ?_)
 -- build
 refine WG.y rfl rfl qD (Yl.build (parts := []) tab_ok rfl rfl rfl rfl (fun _ => rfl) rfl rfl) ?_
 refine WG.y rfl rfl qD (Yl.toIface tab_ok rfl rfl rfl rfl (fun _ => rfl)) ?_
 refine WL.efN rfl rfl (Ef.insert tab_ok rfl rfl rfl rfl rfl rfl rfl rfl rfl ?_)
 -- build
 refine WG.y rfl rfl qD (Yl.build (parts := []) tab_ok rfl rfl rfl rfl (fun _ => rfl) rfl rfl) ?_
 refine WG.y rfl rfl qD (Yl.toIface tab_ok rfl rfl rfl rfl (fun _ => rfl)) ?_
 refine WL.efN rfl rfl (Ef.insert tab_ok rfl rfl rfl rfl rfl rfl rfl rfl rfl ?_)
 -- build
 refine WG.y rfl rfl qD (Yl.build (parts := []) tab_ok rfl rfl rfl rfl (fun _ => rfl) rfl rfl) ?_
 refine WG.y rfl rfl qD (Yl.toIface tab_ok rfl rfl rfl rfl (fun _ => rfl)) ?_
 refine WL.efN rfl rfl (Ef.insert tab_ok rfl rfl rfl rfl rfl rfl rfl rfl rfl ?_)
 refine zR 2 rfl ?_
 refine WG.y rfl rfl qD (Yl.lookup (r := kindR k) (v := .tuple #[kindI k, .bool (kindB k)]) tab_ok rfl rfl rfl rfl rfl rfl rfl rfl (fun _ => rfl) (kind_find k) (kind_hit k)) ?_
 refine zR 5 rfl (zN (zU (zQ (zG (zR 4 rfl (zN (zU (zT ?_))))))))
 refine sE (E := E) ?_
 refine WE.retF tab_ok [_, _] rfl ⟨rfl, rfl, trivial⟩ (RLe.refl _) ?_
 exact ⟨rfl, rfl⟩

theorem IndexI_V {R : Ro} {a : Option Addr} {c : Nat} {xs : List Int} {g : FuncId} {first capd : Array Value} {p : Int → Bool} (ha : RS R 1 encI a xs) (heg : Enters Tryz.prog g) (hp : ∀ i, i < xs.length → FnV Tryz.prog g (first.toList ++ [.int .i64 (nth xs i)] ++ capd.toList) R (.bool (p (nth xs i)))) :
  FnV Tryz.prog 223 [.slice a xs.length c, .func (.func g) first capd] R (.int .i64 (findN (fun i => p (nth xs i)) xs.length)) := by
 have hla := ha.len
 refine Fn.toV (fun w0 E => ?_)
 refine fE 19 Tryz.func223 ?_
 refine zQ (zG (zR 1 rfl (zN (zU (zQ (zQ (zG (zR 3 rfl (zN (zU (zB ?_)))))))))))
 refine W.loopK (β := Nat) (fun k => k ≤ xs.length ∧ ∀ i, i < k → p (nth xs i) = false) (fun k => [(8, true, .int .i64 (k : Int))]) [0, 1, 7] [_, _, _] [] _ rfl (fun k => []) (fun k => xs.length - k) (0) (⟨Nat.zero_le _, fun i hi => absurd hi (Nat.not_lt_zero i)⟩) ⟨rfl, rfl, rfl, rfl, rfl⟩ qS ?_
 intro k hst
 dsimp only [zipE, setAll, List.cons_append, List.nil_append, List.set_cons_zero, List.set_cons_succ] at hst ⊢
 obtain ⟨hk, hpre⟩ := hst
 refine zQ (zG (zR 1 rfl (zN (zU (zQ ?_)))))
 refine W.condD rfl (fun hc0 => ?_) (fun hc0 => ?_)
 ·try dsimp only at hc0
  refine zK (zU (zQ (zB (zQ (zG (zR 2 rfl (zN (zU (zQ (zG (zR 3 rfl ?_)))))))))))
  refine WG.y rfl rfl qD (Yl.indexN tab_ok rfl rfl rfl rfl rfl rfl (fun _ => rfl) qN qH) ?_
  refine yR ?_
  refine WG.callV (v := .bool (p (nth xs k))) heg rfl rfl qD (CallOp.mk' rfl rfl rfl rfl) (fun _ => rfl) (fun hg => hp k qO) ?_
  refine zN (zU ?_)
  refine W.cond rfl (fun hc1 => ?_) (fun hc1 => ?_)
  ·try simp only [zk] at hc1
   refine zQ (zG (zR 2 rfl (zN (zU (zT (wb (wt (wt (wb (wt ?_))))))))))
   refine sE (E := E) ?_
   refine WE.retF tab_ok [_] rfl ⟨rfl, trivial⟩ (RLe.refl _) ?_
   exact ⟨congrArg (Value.int IntKind.i64) (findN_some qO hc1 hpre).symm, rfl⟩
  ·try simp only [zk] at hc1
   refine zK (zL (zU (zG ?_)))
   refine yA ?_
   refine zR 1 rfl (zN ?_)
   refine WE.again (k + 1) (⟨by omega, fun i hi => by rcases Nat.lt_or_ge i k with h | h; exact hpre i h; rw [show i = k by omega]; simpa using hc1⟩) (by (try dsimp only); omega) ⟨rfl, rfl, rfl, rfl, rfl⟩ (RLe.refl _) qS
 ·try dsimp only at hc0
  refine zX ?_
  refine wx (wx (zY (zU (zQ (zG (zR 1 rfl (zN (zU (zT ?_)))))))))
  refine sE (E := E) ?_
  refine WE.retF tab_ok [_] rfl ⟨rfl, trivial⟩ (RLe.refl _) ?_
  exact ⟨congrArg (Value.int IntKind.i64) (findN_none (fun j hj => hpre j qO)).symm, rfl⟩

theorem ContainsI_V {R : Ro} {a : Option Addr} {c : Nat} {xs : List Int} {g : FuncId} {first capd : Array Value} {p : Int → Bool} (ha : RS R 1 encI a xs) (heg : Enters Tryz.prog g) (hp : ∀ i, i < xs.length → FnV Tryz.prog g (first.toList ++ [.int .i64 (nth xs i)] ++ capd.toList) R (.bool (p (nth xs i)))) :
  FnV Tryz.prog 213 [.slice a xs.length c, .func (.func g) first capd] R (.bool (decide (0 ≤ findN (fun i => p (nth xs i)) xs.length))) := by
 refine Fn.toV (fun w0 E => ?_)
 refine fE 9 Tryz.func213 ?_
 refine zQ (zG (zR 1 rfl (zN (zU (zQ (zG (zR 2 rfl ?_)))))))
 refine WG.callV en223 rfl rfl qD (CallOp.mk' rfl rfl rfl rfl) (fun _ => rfl) (fun hg => IndexI_V ha heg hp) ?_
 refine zR 2 rfl (zN (zU (zT ?_)))
 refine sE (E := E) ?_
 refine WE.retF tab_ok [_] rfl ⟨rfl, trivial⟩ (RLe.refl _) ?_
 exact ⟨rfl, rfl⟩

theorem Within1_V {R : Ro} {b4 b5 : Nat} {lo hi x : Int} (h4 : R b4 = some [.int .i64 lo]) (h5 : R b5 = some [.int .i64 hi]) :
  FnV Tryz.prog 214 [.int .i64 x, .pointer (some ⟨b4, 0, none⟩), .pointer (some ⟨b5, 0, none⟩)] R (.bool (outB lo hi x)) := by
 refine Fn.toV (fun w0 E => ?_)
 refine fE 13 Tryz.func214 ?_
 refine zQ (zG (zR 1 rfl (zN (zU (zQ (zG (zR 1 rfl ?_)))))))
 refine' WG.y rfl rfl qD (Yl.load1 tab_ok rfl rfl rfl (fun _ => rfl) ?r1 rfl ?h1) ?_
 case r1 => exact Rd.ro h4
 case h1 => rfl
 refine zR 2 rfl ?_
 refine yP ?_
 refine' WG.y rfl rfl qD (Yl.loadG tab_ok rfl rfl rfl qE ?r2 rfl ?h2 ?g2) ?_
 case r2 => exact fun (_ : True) => Rd.ro h5
 case h2 => rfl
 case g2 => exact fun _ => trivial
 refine yP ?_
 refine yO ?_
 refine zR 1 rfl (zN (zU (zT ?_)))
 refine sE (E := E) ?_
 refine WE.retF tab_ok [_] rfl ⟨rfl, trivial⟩ (RLe.refl _) ?_
 exact ⟨by unfold outB; rfl, rfl⟩

theorem Within_V {R : Ro} {a : Option Addr} {c l : Nat} {xs : List Int} {lo hi : Int} (ha : RS R 1 encI a xs) (hl : xs.length = l) :
  FnV Tryz.prog 210 [.slice a l c, .int .i64 lo, .int .i64 hi] R (.bool (withinB xs lo hi)) := by
 subst hl
 refine Fn.toV (fun w0 E => ?_)
 refine fE 11 Tryz.func210 ?_
 refine zQ (zG ?_)
 refine zO fun b4 => ?_
 refine zO fun b5 => ?_
 refine zR 1 rfl (zN (zU ?_))
 refine W.freezeBlk (b := b4) 1 rfl (fun R1 hR1 hb1 => ?_)
 refine W.freezeBlk (b := b5) 0 rfl (fun R2 hR2 hb2 => ?_)
 refine zQ (zG (zR 2 rfl ?_))
 refine WG.callV en213 rfl rfl qD (CallOp.mk' rfl rfl rfl rfl) (fun _ => rfl) (fun hg => ContainsI_V (ha.mono (hR1.trans hR2)) en214 (fun i hi => Within1_V (hR2 _ _ hb1) hb2)) ?_
 refine zR 2 rfl (zN (zU (zT ?_)))
 refine sE (E := E) ?_
 refine WE.retF tab_ok [_] rfl ⟨rfl, trivial⟩ (hR1.trans hR2) ?_
 exact ⟨congrArg Value.bool within_find, rfl⟩

theorem Lists_V {R : Ro} {a : Option Addr} {c : Nat} {rows : List Sl} {b : Bool} (ha : RS R 1 encS a rows) :
  FnV Tryz.prog 187 [.bool b, .slice a rows.length c] R (.int .i64 (listsE b (rows.map Sl.xs))) := by
 have hla := ha.len
 refine Fn.toV (fun w0 E => ?_)
 refine fE 19 Tryz.func187 ?_
 refine zQ (zG (zR 1 rfl (zN (zU (zQ (zQ (zG (zR 2 rfl (zN (zU ?_))))))))))
 refine W.cond rfl (fun hc0 => ?_) (fun hc0 => ?_)
 ·try simp only [zk] at hc0
  refine zQ (zG (zR 1 rfl (zN (zU (zT (wt ?_))))))
  refine sE (E := E) ?_
  refine WE.retF tab_ok [_] rfl ⟨rfl, trivial⟩ (RLe.refl _) ?_
  exact ⟨by rw [show listsE b (rows.map Sl.xs) = 2 by simp [hc0, listsE]]; rfl, rfl⟩
 ·try simp only [zk] at hc0
  refine zK (zU (zQ (zQ (zG (zR 3 rfl (zN (zU (zB ?_))))))))
  refine W.loopK (β := Nat) (fun k => k ≤ rows.length ∧ ∀ i, i < k → (nth rows i).xs.length = 0) (fun k => [(11, true, .int .i64 (k : Int))]) [9, 10] [_, _] [] _ rfl (fun k => []) (fun k => rows.length - k) (0) (⟨Nat.zero_le _, fun i hi => absurd hi (Nat.not_lt_zero i)⟩) ⟨rfl, rfl, rfl, rfl⟩ qS ?_
  intro k hst
  dsimp only [zipE, setAll, List.cons_append, List.nil_append, List.set_cons_zero, List.set_cons_succ] at hst ⊢
  obtain ⟨hk, hpre⟩ := hst
  refine zQ (zG (zR 1 rfl (zN (zU (zQ ?_)))))
  refine W.condD rfl (fun hc1 => ?_) (fun hc1 => ?_)
  ·try dsimp only at hc1
   refine zK (zU (zQ (zB (zQ (zG ?_)))))
   refine WG.y rfl rfl qD (Yl.indexN tab_ok rfl rfl rfl rfl rfl rfl (fun _ => rfl) qN qH) ?_
   refine yR ?_
   refine zR 1 rfl (zN (zU (zQ (zG (zR 3 rfl (zN (zU ?_)))))))
   refine W.condD rfl (fun hc2 => ?_) (fun hc2 => ?_)
   ·try dsimp only at hc2
    refine zQ (zG (zR 1 rfl (zN (zU (zT (wb (wt (wt (wb (wt ?_))))))))))
    refine sE (E := E) ?_
    refine WE.retF tab_ok [_] rfl ⟨rfl, trivial⟩ (RLe.refl _) ?_
    have hb : b = true := by simpa using hc0
    exact ⟨by unfold listsE; rw [if_neg (by simp [hb]), if_pos (List.any_eq_true.2 ⟨(nth rows k).xs, List.mem_map.2 ⟨_, nth_mem (xs := rows) (k := k) (by omega), rfl⟩, by simp; omega⟩)]; rfl, rfl⟩
   ·try dsimp only at hc2
    refine zK (zL (zU (zG ?_)))
    refine yA ?_
    refine zR 1 rfl (zN ?_)
    refine WE.again (k + 1) (⟨by omega, fun i hi => by rcases Nat.lt_or_ge i k with h | h; exact hpre i h; rw [show i = k by omega]; omega⟩) (by (try dsimp only); omega) ⟨rfl, rfl, rfl, rfl⟩ (RLe.refl _) qS
  ·try dsimp only at hc1
   refine zX ?_
   refine wx (wx (zY (zU (zQ (zG (zR 1 rfl (zN (zU (zT ?_)))))))))
   refine sE (E := E) ?_
   refine WE.retF tab_ok [_] rfl ⟨rfl, trivial⟩ (RLe.refl _) ?_
   have hb : b = true := by simpa using hc0
   have hno : ((rows.map Sl.xs).any fun r => decide (0 < r.length)) = false := by
    rw [List.any_eq_false]
    intro r hr
    obtain ⟨x, hx, rfl⟩ := List.mem_map.1 hr
    obtain ⟨i, hi, rfl⟩ := List.getElem_of_mem hx
    have := hpre i (by omega)
    rw [show nth rows i = rows[i] by unfold nth List.getD; rw [List.getElem?_eq_getElem hi]; rfl] at this
    simp [this]
   exact ⟨by unfold listsE; rw [if_neg (by simp [hb]), hno]; rfl, rfl⟩



theorem ChkFifo_V {R : Ro} {aw at_ : Option Addr} {lw cw lt ct : Nat} {L : Ln} (hw : RS R 1 encI aw L.w) (hlw : L.w.length = lw) (ht : RS R 1 encI at_ L.tb) (hlt : L.tb.length = lt) (hn : 1 ≤ L.n ∧ L.n ≤ 6) : FnV Tryz.prog 184 [.agg #[], .agg #[.int .i64 L.kind, .int .i64 L.cap, .int .i64 L.n, .slice aw lw cw, .slice at_ lt ct]] R (.int .i64 (listsE true [L.w, L.tb])) := by
 subst hlw
 subst hlt
 have hw1 := hw.len
 have ht1 := ht.len
 refine Fn.toV (fun w0 E => ?_)
 refine fE 11 Tryz.func184 ?_
 refine zQ (zG ?_)
 refine zO fun b2 => ?_
 refine zO fun b3 => ?_
 refine zR 1 rfl (zN (zU (zQ (zG (zR 1 rfl ?_)))))
 refine yL (Rd.add (Rd.blk 0 rfl) _) ?_
 refine zR 1 rfl ?_
 refine yL (Rd.add (Rd.blk 0 rfl) _) ?_
 refine WL.ef rfl rfl qD (Ef.buildSliceD (enc := encS) (parts := [.tmp 6, .tmp 8]) [⟨_, _, _⟩, ⟨_, _, _⟩] tab_ok rfl rfl rfl rfl rfl rfl rfl rfl qD qD (fun a9 => ?_))
 refine WL.freeze (enc := encS) (xs := [⟨aw, cw, L.w⟩, ⟨at_, ct, L.tb⟩]) 0 rfl ?_
 intro R1 hR1 hz
 refine WG.callV en187 rfl rfl qD (CallOp.mk' rfl rfl rfl rfl) (fun _ => rfl) (fun hg => Lists_V (rows := [⟨aw, cw, L.w⟩, ⟨at_, ct, L.tb⟩]) hz) ?_
 refine zR 1 rfl (zN (zU (zT ?_)))
 refine sE (E := E) ?_
 refine WE.retF tab_ok [_] rfl ⟨rfl, trivial⟩ (hR1) ?_
 exact ⟨rfl, rfl⟩

theorem ChkRanks_V {R : Ro} {aw at_ : Option Addr} {lw cw lt ct : Nat} {L : Ln} (hw : RS R 1 encI aw L.w) (hlw : L.w.length = lw) (ht : RS R 1 encI at_ L.tb) (hlt : L.tb.length = lt) (hn : 1 ≤ L.n ∧ L.n ≤ 6) : FnV Tryz.prog 193 [.agg #[], .agg #[.int .i64 L.kind, .int .i64 L.cap, .int .i64 L.n, .slice aw lw cw, .slice at_ lt ct]] R (.int .i64 (listsE true [L.w, L.tb])) := by
 subst hlw
 subst hlt
 have hw1 := hw.len
 have ht1 := ht.len
 refine Fn.toV (fun w0 E => ?_)
 refine fE 11 Tryz.func193 ?_
 refine zQ (zG ?_)
 refine zO fun b2 => ?_
 refine zO fun b3 => ?_
 refine zR 1 rfl (zN (zU (zQ (zG (zR 1 rfl ?_)))))
 refine yL (Rd.add (Rd.blk 0 rfl) _) ?_
 refine zR 1 rfl ?_
 refine yL (Rd.add (Rd.blk 0 rfl) _) ?_
 refine WL.ef rfl rfl qD (Ef.buildSliceD (enc := encS) (parts := [.tmp 6, .tmp 8]) [⟨_, _, _⟩, ⟨_, _, _⟩] tab_ok rfl rfl rfl rfl rfl rfl rfl rfl qD qD (fun a9 => ?_))
 refine WL.freeze (enc := encS) (xs := [⟨aw, cw, L.w⟩, ⟨at_, ct, L.tb⟩]) 0 rfl ?_
 intro R1 hR1 hz
 refine WG.callV en187 rfl rfl qD (CallOp.mk' rfl rfl rfl rfl) (fun _ => rfl) (fun hg => Lists_V (rows := [⟨aw, cw, L.w⟩, ⟨at_, ct, L.tb⟩]) hz) ?_
 refine zR 1 rfl (zN (zU (zT ?_)))
 refine sE (E := E) ?_
 refine WE.retF tab_ok [_] rfl ⟨rfl, trivial⟩ (hR1) ?_
 exact ⟨rfl, rfl⟩

theorem ChkRobin_V {R : Ro} {aw at_ : Option Addr} {lw cw lt ct : Nat} {L : Ln} (hw : RS R 1 encI aw L.w) (hlw : L.w.length = lw) (ht : RS R 1 encI at_ L.tb) (hlt : L.tb.length = lt) (hn : 1 ≤ L.n ∧ L.n ≤ 6) : FnV Tryz.prog 207 [.agg #[], .agg #[.int .i64 L.kind, .int .i64 L.cap, .int .i64 L.n, .slice aw lw cw, .slice at_ lt ct]] R (.int .i64 (listsE (decide ((L.w.length : Int) = L.n) && withinB L.w 1 20) [L.tb])) := by
 subst hlw
 subst hlt
 have hw1 := hw.len
 have ht1 := ht.len
 refine Fn.toV (fun w0 E => ?_)
 refine fE 20 Tryz.func207 ?_
 refine zQ (zG ?_)
 refine zO fun b2 => ?_
 refine zO fun b3 => ?_
 refine zR 1 rfl (zN (zU (zQ ?_)))
 refine W.regionH _ (ES := (.blk b3 [.int .i64 L.kind, .int .i64 L.cap, .int .i64 L.n, .slice aw L.w.length cw, .slice at_ L.tb.length ct] :: .blk b2 [] :: E)) mixed ?_
 refine tP 0 ?_
 refine tL 1 (Rd.add (Rd.blk 0 rfl) _) ?_
 refine tP 2 ?_
 refine tP 3 ?_
 refine tL 4 (Rd.add (Rd.blk 0 rfl) _) ?_
 refine tP 5 ?_
 refine tP 6 ?_
 refine WA.take 7 rfl qK qK qK rfl rfl qD (pureV_ok tab_ok rfl qE) qS qR ?_
 refine' WA.take 8 rfl qK qK qK rfl rfl qD (Yl.loadG tab_ok rfl rfl rfl qE ?r3 rfl ?h3 ?g3) qS qR ?_
 case r3 => apply Rd.addC; (exact Rd.blkC 0 rfl)
 case h3 => rfl
 case g3 => exact fun _ => trivial
 refine tP 11 ?_
 refine tL 12 (Rd.add (Rd.blk 0 rfl) _) ?_
 refine WA.br2 (i := 9) (j := 13) qK ?_ ?_
 ·
  refine WS.callV rfl en210 rfl rfl qD (CallOp.mk' rfl rfl rfl rfl) qE (fun hg => Within_V (by first | exact hw | exact hw.mono hR1) rfl) qS qR ?_
  refine WA.take 10 rfl (by kernel_rfl) (by kernel_rfl) (by kernel_rfl) rfl rfl (by decide) (Yl.pand rfl rfl rfl (fun _ => rfl) (by intro h1 h2; simp_all <;> omega)) qS (by first | exact RLe.refl _ | assumption) ?_
  refine WA.eff 13 rfl qK rfl rfl qD (Ef.buildSliceD (enc := encS) (parts := [.tmp 17]) [⟨_, _, _⟩] tab_ok rfl rfl rfl rfl rfl rfl rfl rfl qD qD (fun a18 => ?_))
  refine ⟨qR, qS, ?_⟩
  refine WA.freeze (enc := encS) (xs := [⟨at_, ct, L.tb⟩]) 0 rfl ?_
  intro R1 hR1 hz
  refine WA.callV 14 rfl qK en187 rfl rfl qD (CallOp.mk' rfl rfl rfl rfl) (fun _ => rfl) (fun hg => Lists_V (rows := [⟨at_, ct, L.tb⟩]) hz) qS qR ?_
  refine tP 15 ?_
  refine WA.done qK ?_
  refine zU (zT ?_)
  refine sE (E := E) ?_
  refine WE.retF tab_ok [_] rfl ⟨rfl, trivial⟩ (hR1) ?_
  exact ⟨rfl, rfl⟩
 ·
  refine WS.eff rfl rfl rfl qD (Ef.buildSliceD (enc := encS) (parts := [.tmp 17]) [⟨_, _, _⟩] tab_ok rfl rfl rfl rfl rfl rfl rfl rfl qD qD (fun a18 => ?_))
  refine ⟨qR, qS, ?_⟩
  refine WA.freeze (enc := encS) (xs := [⟨at_, ct, L.tb⟩]) 0 rfl ?_
  intro R1 hR1 hz
  refine WA.callV 9 rfl qK en210 rfl rfl qD (CallOp.mk' rfl rfl rfl rfl) qE (fun hg => Within_V (by first | exact hw | exact hw.mono hR1) rfl) qS qR ?_
  refine WA.take 10 rfl (by kernel_rfl) (by kernel_rfl) (by kernel_rfl) rfl rfl (by decide) (Yl.pand rfl rfl rfl (fun _ => rfl) (by intro h1 h2; simp_all <;> omega)) qS (by first | exact RLe.refl _ | assumption) ?_
  refine WA.callV 14 rfl qK en187 rfl rfl qD (CallOp.mk' rfl rfl rfl rfl) (fun _ => rfl) (fun hg => Lists_V (rows := [⟨at_, ct, L.tb⟩]) hz) qS qR ?_
  refine tP 15 ?_
  refine WA.done qK ?_
  refine zU (zT ?_)
  refine sE (E := E) ?_
  refine WE.retF tab_ok [_] rfl ⟨rfl, trivial⟩ (hR1) ?_
  exact ⟨rfl, rfl⟩

theorem ChkDef_V {R : Ro} {aw at_ : Option Addr} {lw cw lt ct : Nat} {L : Ln} (hw : RS R 1 encI aw L.w) (hlw : L.w.length = lw) (ht : RS R 1 encI at_ L.tb) (hlt : L.tb.length = lt) (hn : 1 ≤ L.n ∧ L.n ≤ 6) : FnV Tryz.prog 224 [.agg #[], .agg #[.int .i64 L.kind, .int .i64 L.cap, .int .i64 L.n, .slice aw lw cw, .slice at_ lt ct]] R (.int .i64 (listsE (decide ((L.w.length : Int) = L.n) && withinB L.w 1 6000) [L.tb])) := by
 subst hlw
 subst hlt
 have hw1 := hw.len
 have ht1 := ht.len
 refine Fn.toV (fun w0 E => ?_)
 refine fE 20 Tryz.func224 ?_
 refine zQ (zG ?_)
 refine zO fun b2 => ?_
 refine zO fun b3 => ?_
 refine zR 1 rfl (zN (zU (zQ ?_)))
 refine W.regionH _ (ES := (.blk b3 [.int .i64 L.kind, .int .i64 L.cap, .int .i64 L.n, .slice aw L.w.length cw, .slice at_ L.tb.length ct] :: .blk b2 [] :: E)) mixed ?_
 refine tP 0 ?_
 refine tL 1 (Rd.add (Rd.blk 0 rfl) _) ?_
 refine tP 2 ?_
 refine tP 3 ?_
 refine tL 4 (Rd.add (Rd.blk 0 rfl) _) ?_
 refine tP 5 ?_
 refine tP 6 ?_
 refine WA.take 7 rfl qK qK qK rfl rfl qD (pureV_ok tab_ok rfl qE) qS qR ?_
 refine' WA.take 8 rfl qK qK qK rfl rfl qD (Yl.loadG tab_ok rfl rfl rfl qE ?r3 rfl ?h3 ?g3) qS qR ?_
 case r3 => apply Rd.addC; (exact Rd.blkC 0 rfl)
 case h3 => rfl
 case g3 => exact fun _ => trivial
 refine tP 11 ?_
 refine tL 12 (Rd.add (Rd.blk 0 rfl) _) ?_
 refine WA.br2 (i := 9) (j := 13) qK ?_ ?_
 ·
  refine WS.callV rfl en210 rfl rfl qD (CallOp.mk' rfl rfl rfl rfl) qE (fun hg => Within_V (by first | exact hw | exact hw.mono hR1) rfl) qS qR ?_
  refine WA.take 10 rfl (by kernel_rfl) (by kernel_rfl) (by kernel_rfl) rfl rfl (by decide) (Yl.pand rfl rfl rfl (fun _ => rfl) (by intro h1 h2; simp_all <;> omega)) qS (by first | exact RLe.refl _ | assumption) ?_
  refine WA.eff 13 rfl qK rfl rfl qD (Ef.buildSliceD (enc := encS) (parts := [.tmp 17]) [⟨_, _, _⟩] tab_ok rfl rfl rfl rfl rfl rfl rfl rfl qD qD (fun a18 => ?_))
  refine ⟨qR, qS, ?_⟩
  refine WA.freeze (enc := encS) (xs := [⟨at_, ct, L.tb⟩]) 0 rfl ?_
  intro R1 hR1 hz
  refine WA.callV 14 rfl qK en187 rfl rfl qD (CallOp.mk' rfl rfl rfl rfl) (fun _ => rfl) (fun hg => Lists_V (rows := [⟨at_, ct, L.tb⟩]) hz) qS qR ?_
  refine tP 15 ?_
  refine WA.done qK ?_
  refine zU (zT ?_)
  refine sE (E := E) ?_
  refine WE.retF tab_ok [_] rfl ⟨rfl, trivial⟩ (hR1) ?_
  exact ⟨rfl, rfl⟩
 ·
  refine WS.eff rfl rfl rfl qD (Ef.buildSliceD (enc := encS) (parts := [.tmp 17]) [⟨_, _, _⟩] tab_ok rfl rfl rfl rfl rfl rfl rfl rfl qD qD (fun a18 => ?_))
  refine ⟨qR, qS, ?_⟩
  refine WA.freeze (enc := encS) (xs := [⟨at_, ct, L.tb⟩]) 0 rfl ?_
  intro R1 hR1 hz
  refine WA.callV 9 rfl qK en210 rfl rfl qD (CallOp.mk' rfl rfl rfl rfl) qE (fun hg => Within_V (by first | exact hw | exact hw.mono hR1) rfl) qS qR ?_
  refine WA.take 10 rfl (by kernel_rfl) (by kernel_rfl) (by kernel_rfl) rfl rfl (by decide) (Yl.pand rfl rfl rfl (fun _ => rfl) (by intro h1 h2; simp_all <;> omega)) qS (by first | exact RLe.refl _ | assumption) ?_
  refine WA.callV 14 rfl qK en187 rfl rfl qD (CallOp.mk' rfl rfl rfl rfl) (fun _ => rfl) (fun hg => Lists_V (rows := [⟨at_, ct, L.tb⟩]) hz) qS qR ?_
  refine tP 15 ?_
  refine WA.done qK ?_
  refine zU (zT ?_)
  refine sE (E := E) ?_
  refine WE.retF tab_ok [_] rfl ⟨rfl, trivial⟩ (hR1) ?_
  exact ⟨rfl, rfl⟩

theorem ChkTimes_V {R : Ro} {aw at_ : Option Addr} {lw cw lt ct : Nat} {L : Ln} (hw : RS R 1 encI aw L.w) (hlw : L.w.length = lw) (ht : RS R 1 encI at_ L.tb) (hlt : L.tb.length = lt) (hn : 1 ≤ L.n ∧ L.n ≤ 6) : FnV Tryz.prog 237 [.agg #[], .agg #[.int .i64 L.kind, .int .i64 L.cap, .int .i64 L.n, .slice aw lw cw, .slice at_ lt ct]] R (.int .i64 (listsE (decide (1 ≤ (L.tb.length : Int)) && decide ((L.tb.length : Int) ≤ 40) && withinB L.tb (-1) (L.n - 1)) [L.w])) := by
 subst hlw
 subst hlt
 have hw1 := hw.len
 have ht1 := ht.len
 refine Fn.toV (fun w0 E => ?_)
 refine fE 27 Tryz.func237 ?_
 refine zQ (zG ?_)
 refine zO fun b2 => ?_
 refine zO fun b3 => ?_
 refine zR 1 rfl (zN (zU (zQ ?_)))
 refine W.regionH _ (ES := (.blk b3 [.int .i64 L.kind, .int .i64 L.cap, .int .i64 L.n, .slice aw L.w.length cw, .slice at_ L.tb.length ct] :: .blk b2 [] :: E)) mixed ?_
 refine tP 0 ?_
 refine tL 1 (Rd.add (Rd.blk 0 rfl) _) ?_
 refine tP 2 ?_
 refine tP 3 ?_
 refine tP 4 ?_
 refine WA.take 5 rfl qK qK qK rfl rfl qD (pureV_ok tab_ok rfl qE) qS qR ?_
 refine' WA.take 6 rfl qK qK qK rfl rfl qD (Yl.loadG tab_ok rfl rfl rfl qE ?r2 rfl ?h2 ?g2) qS qR ?_
 case r2 => apply Rd.addC; (exact Rd.blkC 0 rfl)
 case h2 => rfl
 case g2 => exact fun _ => trivial
 refine WA.take 7 rfl qK qK qK rfl rfl qD (pureV_ok tab_ok rfl qE) qS qR ?_
 refine WA.take 8 rfl qK qK qK rfl rfl qD (pureV_ok tab_ok rfl qE) qS qR ?_
 refine WA.take 9 rfl (by kernel_rfl) (by kernel_rfl) (by kernel_rfl) rfl rfl (by decide) (Yl.pand rfl rfl rfl (fun _ => rfl) (by intro h1 h2; simp_all <;> omega)) qS (by first | exact RLe.refl _ | assumption) ?_
 refine tP 10 ?_
 refine WA.take 11 rfl qK qK qK rfl rfl qD (pureV_ok tab_ok rfl qE) qS qR ?_
 refine' WA.take 12 rfl qK qK qK rfl rfl qD (Yl.loadG tab_ok rfl rfl rfl qE ?r3 rfl ?h3 ?g3) qS qR ?_
 case r3 => apply Rd.addC; (exact Rd.blkC 0 rfl)
 case h3 => rfl
 case g3 => exact fun _ => trivial
 refine WA.take 13 rfl qK qK qK rfl rfl qD (pureV_ok tab_ok rfl qE) qS qR ?_
 refine' WA.take 14 rfl qK qK qK rfl rfl qD (Yl.loadG tab_ok rfl rfl rfl qE ?r4 rfl ?h4 ?g4) qS qR ?_
 case r4 => apply Rd.addC; (exact Rd.blkC 0 rfl)
 case h4 => rfl
 case g4 => exact fun _ => trivial
 refine WA.take 15 rfl (by kernel_rfl) (by kernel_rfl) (by kernel_rfl) rfl rfl (by decide) (Yl.sub rfl rfl rfl qE (by intro hg; (try simp only [zk] at hg); constructor <;> (try dsimp only) <;> omega)) qS (by first | exact RLe.refl _ | assumption) ?_
 refine tP 18 ?_
 refine tL 19 (Rd.add (Rd.blk 0 rfl) _) ?_
 refine WA.br2 (i := 16) (j := 20) qK ?_ ?_
 ·
  refine WS.callV rfl en210 rfl rfl qD (CallOp.mk' rfl rfl rfl rfl) qE (fun hg => Within_V (by first | exact ht | exact ht.mono hR1) rfl) qS qR ?_
  refine WA.take 17 rfl (by kernel_rfl) (by kernel_rfl) (by kernel_rfl) rfl rfl (by decide) (Yl.pand rfl rfl rfl (fun _ => rfl) (by intro h1 h2; simp_all <;> omega)) qS (by first | exact RLe.refl _ | assumption) ?_
  refine WA.eff 20 rfl qK rfl rfl qD (Ef.buildSliceD (enc := encS) (parts := [.tmp 24]) [⟨_, _, _⟩] tab_ok rfl rfl rfl rfl rfl rfl rfl rfl qD qD (fun a25 => ?_))
  refine ⟨qR, qS, ?_⟩
  refine WA.freeze (enc := encS) (xs := [⟨aw, cw, L.w⟩]) 0 rfl ?_
  intro R1 hR1 hz
  refine WA.callV 21 rfl qK en187 rfl rfl qD (CallOp.mk' rfl rfl rfl rfl) (fun _ => rfl) (fun hg => Lists_V (rows := [⟨aw, cw, L.w⟩]) hz) qS qR ?_
  refine tP 22 ?_
  refine WA.done qK ?_
  refine zU (zT ?_)
  refine sE (E := E) ?_
  refine WE.retF tab_ok [_] rfl ⟨rfl, trivial⟩ (hR1) ?_
  exact ⟨rfl, rfl⟩
 ·
  refine WS.eff rfl rfl rfl qD (Ef.buildSliceD (enc := encS) (parts := [.tmp 24]) [⟨_, _, _⟩] tab_ok rfl rfl rfl rfl rfl rfl rfl rfl qD qD (fun a25 => ?_))
  refine ⟨qR, qS, ?_⟩
  refine WA.freeze (enc := encS) (xs := [⟨aw, cw, L.w⟩]) 0 rfl ?_
  intro R1 hR1 hz
  refine WA.callV 16 rfl qK en210 rfl rfl qD (CallOp.mk' rfl rfl rfl rfl) qE (fun hg => Within_V (by first | exact ht | exact ht.mono hR1) rfl) qS qR ?_
  refine WA.take 17 rfl (by kernel_rfl) (by kernel_rfl) (by kernel_rfl) rfl rfl (by decide) (Yl.pand rfl rfl rfl (fun _ => rfl) (by intro h1 h2; simp_all <;> omega)) qS (by first | exact RLe.refl _ | assumption) ?_
  refine WA.callV 21 rfl qK en187 rfl rfl qD (CallOp.mk' rfl rfl rfl rfl) (fun _ => rfl) (fun hg => Lists_V (rows := [⟨aw, cw, L.w⟩]) hz) qS qR ?_
  refine tP 22 ?_
  refine WA.done qK ?_
  refine zU (zT ?_)
  refine sE (E := E) ?_
  refine WE.retF tab_ok [_] rfl ⟨rfl, trivial⟩ (hR1) ?_
  exact ⟨rfl, rfl⟩



theorem meth_check1 (x : Value) : Meth Tryz.prog 112 (.agg #[]) "netcalculus/server.check" 184 [x] := fun w => by kernel_rfl
theorem meth_run1 (x y z : Value) : Meth Tryz.prog 112 (.agg #[]) "netcalculus/server.run" 186 [x, y, z] := fun w => by kernel_rfl
theorem meth_check2 (x : Value) : Meth Tryz.prog 113 (.agg #[]) "netcalculus/server.check" 193 [x] := fun w => by kernel_rfl
theorem meth_run2 (x y z : Value) : Meth Tryz.prog 113 (.agg #[]) "netcalculus/server.run" 195 [x, y, z] := fun w => by kernel_rfl
theorem meth_check3 (x : Value) : Meth Tryz.prog 114 (.agg #[]) "netcalculus/server.check" 207 [x] := fun w => by kernel_rfl
theorem meth_run3 (x y z : Value) : Meth Tryz.prog 114 (.agg #[]) "netcalculus/server.run" 209 [x, y, z] := fun w => by kernel_rfl
theorem meth_check4 (x : Value) : Meth Tryz.prog 115 (.agg #[]) "netcalculus/server.check" 224 [x] := fun w => by kernel_rfl
theorem meth_run4 (x y z : Value) : Meth Tryz.prog 115 (.agg #[]) "netcalculus/server.run" 226 [x, y, z] := fun w => by kernel_rfl
theorem meth_check5 (x : Value) : Meth Tryz.prog 116 (.agg #[]) "netcalculus/server.check" 237 [x] := fun w => by kernel_rfl
theorem meth_run5 (x y z : Value) : Meth Tryz.prog 116 (.agg #[]) "netcalculus/server.run" 239 [x, y, z] := fun w => by kernel_rfl

theorem check_any {R : Ro} {aw at_ : Option Addr} {lw cw lt ct : Nat} {L : Ln} (hw : RS R 1 encI aw L.w) (hlw : L.w.length = lw) (ht : RS R 1 encI at_ L.tb) (hlt : L.tb.length = lt) (hn : 1 ≤ L.n ∧ L.n ≤ 6) (hk : 1 ≤ L.kind ∧ L.kind ≤ 5) :
  ∃ (T f : Nat), kindI L.kind = .iface T (.agg #[]) ∧ Meth Tryz.prog T (.agg #[]) "netcalculus/server.check" f [.agg #[.int .i64 L.kind, .int .i64 L.cap, .int .i64 L.n, .slice aw lw cw, .slice at_ lt ct]] ∧ FnV Tryz.prog f [.agg #[], .agg #[.int .i64 L.kind, .int .i64 L.cap, .int .i64 L.n, .slice aw lw cw, .slice at_ lt ct]] R (.int .i64 (lchkL L)) := by
 rcases (show L.kind = 1 ∨ L.kind = 2 ∨ L.kind = 3 ∨ L.kind = 4 ∨ L.kind = 5 by omega) with h | h | h | h | h
 ·exact ⟨_, _, by unfold kindI; rw [h]; rfl, meth_check1 _, by have e : lchkL L = _ := (show lchkL L = listsE true [L.w, L.tb] by unfold lchkL; rw [h]; rfl); rw [e]; exact ChkFifo_V hw hlw ht hlt hn⟩
 ·exact ⟨_, _, by unfold kindI; rw [h]; rfl, meth_check2 _, by have e : lchkL L = _ := (show lchkL L = listsE true [L.w, L.tb] by unfold lchkL; rw [h]; rfl); rw [e]; exact ChkRanks_V hw hlw ht hlt hn⟩
 ·exact ⟨_, _, by unfold kindI; rw [h]; rfl, meth_check3 _, by have e : lchkL L = _ := (show lchkL L = listsE (decide ((L.w.length : Int) = L.n) && withinB L.w 1 20) [L.tb] by unfold lchkL; rw [h]; rfl); rw [e]; exact ChkRobin_V hw hlw ht hlt hn⟩
 ·exact ⟨_, _, by unfold kindI; rw [h]; rfl, meth_check4 _, by have e : lchkL L = _ := (show lchkL L = listsE (decide ((L.w.length : Int) = L.n) && withinB L.w 1 6000) [L.tb] by unfold lchkL; rw [h]; rfl); rw [e]; exact ChkDef_V hw hlw ht hlt hn⟩
 ·exact ⟨_, _, by unfold kindI; rw [h]; rfl, meth_check5 _, by have e : lchkL L = _ := (show lchkL L = listsE (decide (1 ≤ (L.tb.length : Int)) && decide ((L.tb.length : Int) ≤ 40) && withinB L.tb (-1) (L.n - 1)) [L.w] by unfold lchkL; rw [h]; rfl); rw [e]; exact ChkTimes_V hw hlw ht hlt hn⟩

theorem ChkSrv_V {R : Ro} {aw at_ : Option Addr} {lw cw lt ct : Nat} {L : Ln} (hw : RS R 1 encI aw L.w) (hlw : L.w.length = lw) (ht : RS R 1 encI at_ L.tb) (hlt : L.tb.length = lt) : FnV Tryz.prog 27 [.agg #[.int .i64 L.kind, .int .i64 L.cap, .int .i64 L.n, .slice aw lw cw, .slice at_ lt ct]] R (.int .i64 (chkL L)) := by
 refine Fn.toV (fun w0 E => ?_)
 refine fE 34 Tryz.func27 ?_
 refine zQ (zG ?_)
 refine zO fun b1 => ?_
 refine zR 1 rfl (zN (zU (zQ (zG (zR 1 rfl ?_)))))
 refine yL (Rd.add (Rd.blk 0 rfl) _) ?_
 refine WG.callV en44 rfl rfl qD (CallOp.mk' rfl rfl rfl rfl) (fun _ => rfl) (fun hg => Kind_V L.kind) ?_
 refine zR 5 rfl (zN (zU (zQ (zQ (zG (zR 2 rfl (zN (zU ?_))))))))
 refine W.cond rfl (fun hc0 => ?_) (fun hc0 => ?_)
 ·try simp only [zk] at hc0
  have e : chkL L = 9 := by
   unfold chkL
   rw [if_pos]
   unfold kindB at hc0
   simp only [Bool.and_eq_false_iff, decide_eq_false_iff_not] at hc0
   omega
  refine zQ (zG (zR 1 rfl (zN (zU (zT (wt ?_))))))
  refine sE (E := E) ?_
  refine WE.retF tab_ok [_] rfl ⟨rfl, trivial⟩ (RLe.refl _) ?_
  exact ⟨by rw [e]; rfl, rfl⟩
 ·try simp only [zk] at hc0
  have hkk : 1 ≤ L.kind ∧ L.kind ≤ 5 := by
   unfold kindB at hc0
   simpa using hc0
  refine zK (zU (zQ (zQ (zG (zR 1 rfl ?_)))))
  refine yL (Rd.add (Rd.blk 0 rfl) _) ?_
  refine zR 2 rfl ?_
  refine yP ?_
  refine yG (Rd.addC (Rd.blkC 0 rfl) _) ?_
  refine yP ?_
  refine yO ?_
  refine zR 1 rfl ?_
  refine yP ?_
  refine yG (Rd.addC (Rd.blkC 0 rfl) _) ?_
  refine yP ?_
  refine yO ?_
  refine zR 1 rfl ?_
  refine yP ?_
  refine yG (Rd.addC (Rd.blkC 0 rfl) _) ?_
  refine yP ?_
  refine yO ?_
  refine zN (zU ?_)
  refine W.cond rfl (fun hc1 => ?_) (fun hc1 => ?_)
  ·try simp only [zk] at hc1
   have e : chkL L = 2 := by unfold chkL; rw [if_neg (by omega), if_pos (by omega)]
   refine zQ (zG (zR 1 rfl (zN (zU (zT (wt ?_))))))
   refine sE (E := E) ?_
   refine WE.retF tab_ok [_] rfl ⟨rfl, trivial⟩ (RLe.refl _) ?_
   exact ⟨by rw [e]; rfl, rfl⟩
  ·try simp only [zk] at hc1
   have hn : 1 ≤ L.n ∧ L.n ≤ 6 := by omega
   have e : chkL L = lchkL L := by unfold chkL; rw [if_neg (by omega), if_neg (by omega)]
   obtain ⟨T9, f9, e9, m9, v9⟩ := check_any (R := R) (lw := lw) (lt := lt) (cw := cw) (ct := ct) hw hlw ht hlt hn hkk
   refine zK (zU ?_)
   rw [e9]
   refine zQ (zG (zR 1 rfl ?_))
   refine yL (Rd.blk 0 rfl) ?_
   refine WL.callI (args := [.tmp 32]) rfl rfl rfl qD rfl rfl (m9) (v9.toFn) ?_
   rintro _ _ _ - ⟨rfl, rfl, rfl⟩
   refine zR 1 rfl (zN (zU (zT ?_)))
   refine sE (E := E) ?_
   refine WE.retF tab_ok [_] rfl ⟨rfl, trivial⟩ (RLe.refl _) ?_
   exact ⟨by rw [e]; rfl, rfl⟩











theorem Weighed20_V {R : Ro} {a : Option Addr} {c : Nat} {w : List Int} (ha : RS R 1 encI a w) : FnV Tryz.prog 234 [.slice a w.length c] R (.bool (okW 6000 w)) := by
 have hla := ha.len
 refine Fn.toV (fun w0 E => ?_)
 refine fE 18 Tryz.func234 ?_
 refine zQ (zG (zR 1 rfl (zN (zU (zQ (zQ (zG (zR 3 rfl (zN (zU (zB ?_)))))))))))
 refine W.loopK (β := Nat) (fun k => k ≤ w.length ∧ ∀ j, j < k → 1 ≤ nth w j ∧ nth w j ≤ 6000) (fun k => [(7, true, .int .i64 (k : Int))]) [5, 6] [_, _] [] _ rfl (fun k => []) (fun k => w.length - k) (0) (⟨Nat.zero_le _, fun j hj => by omega⟩) ⟨rfl, rfl, rfl, rfl⟩ qS ?_
 intro k hst
 dsimp only [zipE, setAll, List.cons_append, List.nil_append, List.set_cons_zero, List.set_cons_succ] at hst ⊢
 
 refine zQ (zG (zR 1 rfl (zN (zU (zQ ?_)))))
 refine W.condD rfl (fun hc0 => ?_) (fun hc0 => ?_)
 ·try dsimp only at hc0
  refine zK (zU (zQ (zB (zQ (zG ?_)))))
  refine WG.y rfl rfl qD (Yl.indexN tab_ok rfl rfl rfl rfl rfl rfl (fun _ => rfl) qN qH) ?_
  refine yR ?_
  refine zR 1 rfl (zN (zU (zQ (zG (zR 3 rfl ?_)))))
  refine yP ?_
  refine yP ?_
  refine yO ?_
  refine zN (zU ?_)
  refine W.cond rfl (fun hc1 => ?_) (fun hc1 => ?_)
  ·try simp only [zk] at hc1
   have hkl : k < w.length := by omega
   refine zQ (zG (zR 1 rfl (zN (zU (zT (wb (wt (wt (wb (wt ?_))))))))))
   refine sE (E := E) ?_
   refine WE.retF tab_ok [_] rfl ⟨rfl, trivial⟩ (RLe.refl _) ?_
   refine ⟨congrArg Value.bool ?_, rfl⟩
   symm
   rw [← Bool.not_eq_true]
   intro h
   have := okW_iff.1 h _ (nth_mem hkl)
   omega
  ·try simp only [zk] at hc1
   refine zK (zL (zU (zG ?_)))
   refine yA ?_
   refine zR 1 rfl (zN ?_)
   refine WE.again (k + 1) (⟨by omega, fun j hj => by
    by_cases e : j = k
    ·subst e; omega
    ·exact hst.2 j (by omega)⟩) (by (try dsimp only); omega) ⟨rfl, rfl, rfl, rfl⟩ (RLe.refl _) qS
 ·try dsimp only at hc0
  refine zX ?_
  refine wx (wx (zY (zU (zQ (zG (zR 1 rfl (zN (zU (zT ?_)))))))))
  refine sE (E := E) ?_
  refine WE.retF tab_ok [_] rfl ⟨rfl, trivial⟩ (RLe.refl _) ?_
  refine ⟨congrArg Value.bool ?_, rfl⟩
  symm
  exact okW_iff.2 (all_of_nth (fun j hj => hst.2 j qO))

theorem Size_C {R : Ro} {sb : Nat} {pa : Option Addr} {pc bg : Nat} {ps : List Pkt} {ms : MS} (w0 : World) (hp : RS R 3 encP pa ps) (i : Int) (h0 : 0 ≤ i) (h1 : i < ps.length) (F : List Ent) :
  K.Fn Tryz.prog 236 [.pointer (some ⟨sb, 0, none⟩), .int .i64 i] w0 R (stE sb pa ps.length pc bg ms :: F) (fun v R' E' => v = .int .i64 (szOf ps i) ∧ R = R' ∧ E' = stE sb pa ps.length pc bg ms :: F) := by
 have hla := hp.len
 refine fE 13 Tryz.func236 ?_
 refine zQ (zG (zR 1 rfl (zN (zU (zQ (zG (zR 3 rfl ?_)))))))
 refine yL (Rd.add (Rd.blk 0 rfl) _) ?_
 refine zR 1 rfl ?_
 refine WG.y rfl rfl qD (Yl.index tab_ok rfl rfl rfl rfl rfl rfl (fun _ => rfl) qA qH) ?_
 refine zR 1 rfl ?_
 refine' WG.y rfl rfl qD (Yl.load1 tab_ok rfl rfl rfl (fun _ => rfl) ?r2 rfl ?h2) ?_
 case r2 => apply Rd.add; ((apply RS.rdD; assumption; ((try dsimp only) <;> omega)))
 case h2 => rfl
 refine zR 1 rfl (zN (zU (zT ?_)))
 refine WE.retF tab_ok [_] rfl ⟨rfl, trivial⟩ (RLe.refl _) ?_
 exact ⟨rfl, rfl, rfl⟩

theorem Size_E {R : Ro} {sb : Nat} {pa : Option Addr} {pc bg : Nat} {ps : List Pkt} {ms : MS} (w0 : World) (hp : RS R 3 encP pa ps) (i : Int) (h0 : 0 ≤ i) (h1 : i < ps.length) (F : List Ent) :
  FnE Tryz.prog 236 [.pointer (some ⟨sb, 0, none⟩), .int .i64 i] w0 R (stE sb pa ps.length pc bg ms :: F) (.int .i64 (szOf ps i)) := by
 refine Fn.toE ?_
 intro w hm
 refine (Size_C w0 hp i h0 h1 F w hm).mono ?_
 rintro e w' ⟨v', R', E', rfl, hR, hm', rfl, rfl, rfl⟩
 exact ⟨_, _, _, rfl, hR, hm', rfl, rfl⟩

theorem ChooseD_C {bv bd : Nat} {R : Ro} {sb : Nat} {pa : Option Addr} {pc bg : Nat} {ps : List Pkt} {ms : MS} (w0 : World) (hp : RS R 3 encP pa ps) (hb : ms.begun.length = ps.length) (hsort : ps.Pairwise fun a b => a.time ≤ b.time) {wa : Option Addr} {wc : Nat} {w : List Int} (hwr : RS R 1 encI wa w) (hw : ∀ x ∈ w, 1 ≤ x ∧ x ≤ 6000) (hn : 0 < w.length) (hsz : ∀ p ∈ ps, 1 ≤ p.size ∧ p.size ≤ 1500) (hfl : ∀ p ∈ ps, 0 ≤ p.flow ∧ p.flow < w.length) {s : Nat × Bool × List Int} (hg : goodDf ps w.length ms s) (F : List Ent) :
  K.Fn Tryz.prog 235 [.pointer (some ⟨bv, 0, none⟩), .pointer (some ⟨sb, 0, none⟩)] w0 R (stE sb pa ps.length pc bg ms :: .sl 4 1 (some ⟨bg, 0, none⟩) ps.length (ms.begun.map encB) :: ([.blk bv [.slice wa w.length wc, .slice (some ⟨bd, 0, none⟩) w.length w.length, .int .i64 (s.1 : Int), .bool s.2.1], .sl 3 1 (some ⟨bd, 0, none⟩) w.length ((s.2.2).map encI)] ++ F)) (fun v R' E' => v = .int .i64 (defCh ps w ms s).1 ∧ R = R' ∧ E' = stE sb pa ps.length pc bg { ms with before := (defCh ps w ms s).2.1 } :: .sl 4 1 (some ⟨bg, 0, none⟩) ps.length (ms.begun.map encB) :: ([.blk bv [.slice wa w.length wc, .slice (some ⟨bd, 0, none⟩) w.length w.length, .int .i64 ((defCh ps w ms s).2.2.1 : Int), .bool (defCh ps w ms s).2.2.2.1], .sl 3 1 (some ⟨bd, 0, none⟩) w.length (((defCh ps w ms s).2.2.2.2).map encI)] ++ F)) := by
 have hlw := hwr.len
 have hlp := hp.len
 obtain ⟨hgd, hgc⟩ := hg
 have hg1 : goodB ps { ms with before := skipTo ms.begun ms.before } := goodB_skip hgd hb
 have hszn : ∀ c : Nat, 0 ≤ nextW ps ms c → 1 ≤ szOf ps (nextW ps ms c) ∧ szOf ps (nextW ps ms c) ≤ 1500 := fun c h => szOf_next hsz c h
 have hsk0 : skipTo ms.begun (skipTo ms.begun ms.before) = skipTo ms.begun ms.before := by
  by_cases h : skipTo ms.begun ms.before < ms.begun.length
  ·exact skipTo_false h (skipTo_stop' h)
  ·exact skipTo_end (by omega)
 refine fE 111 Tryz.func235 ?_
 refine zQ (zG (zR 1 rfl (zN (zU (zQ (zQ (zG (zR 1 rfl ?_))))))))
 refine WL.call en192 rfl rfl qD (CallOp.mkT rfl rfl rfl rfl) (First_C w0 hp hb hgd.1 _) ?_
 rintro _ _ _ - ⟨rfl, rfl, rfl⟩
 refine zR 1 rfl (zN (zU ?_))
 refine W.condD rfl (fun hc0 => ?_) (fun hc0 => ?_)
 ·try dsimp only at hc0
  have hch : defCh ps w ms s = (-1, skipTo ms.begun ms.before, s) := by unfold defCh; rw [if_pos hc0]
  refine zQ (zG (zR 1 rfl (zN (zU (zT (wt ?_))))))
  refine WE.retF tab_ok [_] rfl ⟨rfl, trivial⟩ (RLe.refl _) ?_
  exact ⟨by rw [hch]; rfl, rfl, by rw [hch]; try rfl⟩
 ·try dsimp only at hc0
  have hsoon := def_soon hfl ⟨hgd, hgc⟩ hb hc0
  have hch : defCh ps w ms s = ((defGo (nextW ps ms) (szOf ps) w (defF w.length) s.1 s.2.1 s.2.2).1, skipTo ms.begun ms.before, (defGo (nextW ps ms) (szOf ps) w (defF w.length) s.1 s.2.1 s.2.2).2) := by unfold defCh; rw [if_neg hc0]
  refine zK (zU (zB ?_))
  refine W.loopK (β := Nat × Nat × Bool × List Int) (fun (k, c, b, d) => defGo (nextW ps ms) (szOf ps) w k c b d = defGo (nextW ps ms) (szOf ps) w (defF w.length) s.1 s.2.1 s.2.2 ∧ DSoon (nextW ps ms) w.length k c b d ∧ DOk w.length c b d) (fun (k, c, b, d) => []) [0, 1] [_, _] [] _ rfl (fun (k, c, b, d) => [(2, .blk bv [.slice wa w.length wc, .slice (some ⟨bd, 0, none⟩) w.length w.length, .int .i64 (c : Int), .bool b]), (3, .sl 3 1 (some ⟨bd, 0, none⟩) w.length ((d).map encI))]) (fun (k, c, b, d) => k) ((defF w.length, s.1, s.2.1, s.2.2)) (⟨rfl, hsoon, hgc⟩) ⟨rfl, rfl, rfl⟩ qS ?_
  intro zz hst
  obtain ⟨k, c, b, d⟩ := zz
  dsimp only [zipE, setAll, List.cons_append, List.nil_append, List.set_cons_zero, List.set_cons_succ] at hst ⊢
  obtain ⟨h1, h2, h3⟩ := hst
  have hdl := h3.2.1
  have hcw := h3.1
  refine zB (zQ (zG (zR 4 rfl ?_)))
  refine yL (Rd.add (Rd.blk 2 rfl) _) ?_
  refine WL.call en201 rfl rfl qD (CallOp.mkT rfl rfl rfl rfl) (Next_C (ms := { ms with before := skipTo ms.begun ms.before }) w0 hp hb hg1 hsort _ _) ?_
  rintro _ _ _ - ⟨rfl, rfl, rfl⟩
  dsimp only
  rw [hsk0]
  refine zR 1 rfl (zN (zU ?_))
  refine W.seqCut (β := Bool × List Int) (fun (b1, d1) => d1 = grant (nextW ps ms) w c b d ∧ b1 = (if 0 ≤ nextW ps ms c then true else b)) (fun (b1, d1) => [(0, true, .pointer (some ⟨bv, 0, none⟩)), (1, true, .pointer (some ⟨sb, 0, none⟩)), (5, true, .int .i64 (nextW ps ms c))]) (fun _ => R) (fun (b1, d1) => stE sb pa ps.length pc bg { ms with before := skipTo ms.begun ms.before } :: .sl 4 1 (some ⟨bg, 0, none⟩) ps.length (ms.begun.map encB) :: .blk bv [.slice wa w.length wc, .slice (some ⟨bd, 0, none⟩) w.length w.length, .int .i64 (c : Int), .bool b1] :: .sl 3 1 (some ⟨bd, 0, none⟩) w.length ((d1).map encI) :: F) ?_ ?_
  ·
   intro st hst
   obtain ⟨b1, d1⟩ := st
   obtain ⟨hd1, hb1⟩ := hst
   dsimp only at hd1 hb1 ⊢
   have hgb := h3.grant (nx := nextW ps ms) hw
   have hgl : (grant (nextW ps ms) w c b d).length = w.length := by rw [grant_len]; exact hdl
   subst hd1
   refine zQ (zQ ?_)
   refine W.regionQ _ mixed qK ?_
   refine zR 3 rfl ?_
   refine yP ?_
   refine yP ?_
   refine WG.callE en236 rfl rfl (by decide) (CallOp.mk' rfl rfl rfl rfl) qE (fun hg => Size_E w0 hp _ (by simpa using hg) (nextW_lt ps _ _).1 _) ?_
   refine yP ?_
   refine yP ?_
   refine yP ?_
   refine yG (Rd.addC (Rd.blkC 2 rfl) _) ?_
   refine yP ?_
   refine yP ?_
   refine yP ?_
   refine yG (Rd.addC (Rd.blkC 2 rfl) _) ?_
   refine WG.y rfl rfl (by decide) (Yl.indexN tab_ok rfl rfl rfl rfl rfl rfl qE (by intro hg; (try simp only [zk] at hg); (try dsimp only) <;> omega) (by intro hg; (try simp only [zk] at hg); first | exact qI)) ?_
   refine' WG.y rfl rfl qD (Yl.loadG tab_ok rfl rfl rfl qE ?r4 rfl ?h4 ?g4) ?_
   case r4 => (exact Rd.slC 3 rfl)
   case h4 => rfl
   case g4 => (intro hg; (try simp only [zk] at hg); (try dsimp only); omega)
   refine yP ?_
   refine yN ?_
   refine zN (zU ?_)
   refine W.cond rfl (fun hc1 => ?_) (fun hc1 => ?_)
   ·try simp only [zk] at hc1
    have hy : 0 ≤ nextW ps ms c ∧ szOf ps (nextW ps ms c) ≤ nth (grant (nextW ps ms) w c b d) c := hc1
    have hgo : defGo (nextW ps ms) (szOf ps) w (defF w.length) s.1 s.2.1 s.2.2 = (nextW ps ms c, (c, true, (grant (nextW ps ms) w c b d).set c (nth (grant (nextW ps ms) w c b d) c - szOf ps (nextW ps ms c)))) := by
     rw [← h1]
     obtain ⟨k, rfl⟩ : ∃ m, k = m + 1 := ⟨k - 1, by obtain ⟨j, _, _, hj⟩ := h2; omega⟩
     rw [defGo, if_pos hy]
    have hszc := hszn c hy.1
    have hgc := hgb c h3.1
    rw [hgo] at hch
    obtain rfl : b1 = true := by rw [hb1, if_pos hy.1]
    refine zQ ?_
    refine W.regionH _ (ES := [.blk bv [.slice wa w.length wc, .slice (some ⟨bd, 0, none⟩) w.length w.length, .int .i64 (c : Int), .bool true]]) mixed ?_
    refine tP 0 ?_
    refine tP 1 ?_
    refine tP 2 ?_
    refine tL 3 (Rd.add (Rd.blk 0 rfl) _) ?_
    refine tP 4 ?_
    refine tP 5 ?_
    refine tP 6 ?_
    refine tL 7 (Rd.add (Rd.blk 0 rfl) _) ?_
    refine WA.take 8 rfl qK qK qK rfl rfl qD (Yl.indexN tab_ok rfl rfl rfl rfl rfl rfl (fun _ => rfl) qN qH) qS qR ?_
    refine tP 10 ?_
    refine tP 11 ?_
    refine WA.br2 (i := 9) (j := 12) qK ?_ ?_
    ·
     refine' WS.yl rfl rfl rfl qD (Yl.load1 tab_ok rfl rfl rfl (fun _ => rfl) ?r7 rfl ?h7) qS qR ?_
     case r7 => (exact Rd.slD 3 rfl qX)
     case h7 => rfl
     refine WA.callG 12 rfl qK en236 rfl (by first | rfl | decide) rfl qD (CallOp.mkT rfl rfl rfl rfl) (Size_C w0 hp _ hy.1 (nextW_lt ps _ _).1 _) ?_
     rintro _ _ _ - ⟨rfl, rfl, rfl⟩
     refine ⟨RLe.refl _, qS, ?_⟩
     refine tS 13 ?_
     refine WA.take 14 rfl qK qK qK rfl rfl qD (Yl.indexN tab_ok rfl rfl rfl rfl rfl rfl (fun _ => rfl) qN qH) qS qR ?_
     refine WA.effN 15 rfl qK rfl rfl (Ef.storeD _ 3 tab_ok rfl rfl rfl rfl rfl qX rfl rfl rfl rfl ?_)
     refine ⟨qR, qS, ?_⟩
     refine WA.done qK ?_
     refine zU (zQ (zG (zR 2 rfl (zN (zU (zT (wt (wb (wt (wb ?_))))))))))
     refine WE.retF tab_ok [_] rfl ⟨rfl, trivial⟩ (RLe.refl _) ?_
     exact ⟨by rw [hch]; rfl, rfl, by rw [hch]; try rfl⟩
    ·
     refine WS.callG rfl en236 rfl (by first | rfl | decide) rfl qD (CallOp.mkT rfl rfl rfl rfl) (Size_C w0 hp _ hy.1 (nextW_lt ps _ _).1 _) ?_
     rintro _ _ _ - ⟨rfl, rfl, rfl⟩
     refine ⟨RLe.refl _, qS, ?_⟩
     refine' WA.yl 9 rfl qK rfl rfl qD (Yl.load1 tab_ok rfl rfl rfl (fun _ => rfl) ?r8 rfl ?h8) qS qR ?_
     case r8 => (exact Rd.slD 3 rfl qX)
     case h8 => rfl
     refine tS 13 ?_
     refine WA.take 14 rfl qK qK qK rfl rfl qD (Yl.indexN tab_ok rfl rfl rfl rfl rfl rfl (fun _ => rfl) qN qH) qS qR ?_
     refine WA.effN 15 rfl qK rfl rfl (Ef.storeD _ 3 tab_ok rfl rfl rfl rfl rfl qX rfl rfl rfl rfl ?_)
     refine ⟨qR, qS, ?_⟩
     refine WA.done qK ?_
     refine zU (zQ (zG (zR 2 rfl (zN (zU (zT (wt (wb (wt (wb ?_))))))))))
     refine WE.retF tab_ok [_] rfl ⟨rfl, trivial⟩ (RLe.refl _) ?_
     exact ⟨by rw [hch]; rfl, rfl, by rw [hch]; try rfl⟩
   ·try simp only [zk] at hc1
    have hno : ¬ (0 ≤ nextW ps ms c ∧ szOf ps (nextW ps ms c) ≤ nth (grant (nextW ps ms) w c b d) c) := by
     rintro ⟨x1, x2⟩
     have := hc1 x1
     omega
    obtain ⟨k, rfl⟩ : ∃ m, k = m + 1 := ⟨k - 1, by obtain ⟨j, _, _, hj⟩ := h2; omega⟩
    rw [defGo, if_neg hno] at h1
    have h4 := h2.step (sz := szOf ps) hw (fun h => (hszn c h).2) h3 hno
    have h5 := h3.next (sz := szOf ps) hw (fun h => (hszn c h).2) hno
    have hce : ((c : Int) + 1) % (w.length : Int) = (((c + 1) % w.length : Nat) : Int) := rfl
    refine zK (zU (zQ (zQ (zG (zR 2 rfl (zN (zU ?_)))))))
    refine W.condD rfl (fun hc2 => ?_) (fun hc2 => ?_)
    ·try dsimp only at hc2
     have e0 : drop0 (nextW ps ms) c (grant (nextW ps ms) w c b d) = (grant (nextW ps ms) w c b d).set c 0 := if_pos (by omega)
     rw [e0] at h1 h4 h5
     refine W.regionH _ (ES := [.blk bv [.slice wa w.length wc, .slice (some ⟨bd, 0, none⟩) w.length w.length, .int .i64 (c : Int), .bool b1]]) mixed ?_
     refine tP 0 ?_
     refine tP 1 ?_
     refine tP 2 ?_
     refine tL 3 (Rd.add (Rd.blk 0 rfl) _) ?_
     refine tP 4 ?_
     refine tP 5 ?_
     refine tP 6 ?_
     refine tL 7 (Rd.add (Rd.blk 0 rfl) _) ?_
     refine WA.take 8 rfl qK qK qK rfl rfl qD (Yl.indexN tab_ok rfl rfl rfl rfl rfl rfl (fun _ => rfl) qN qH) qS qR ?_
     refine WA.effN 9 rfl qK rfl rfl (Ef.storeD _ 3 tab_ok rfl rfl rfl rfl rfl qX rfl rfl rfl rfl ?_)
     refine ⟨qR, qS, ?_⟩
     refine WA.done qK ?_
     refine zU ?_
     refine W.regionH _ (ES := []) mixed ?_
     refine tP 0 ?_
     refine tP 1 ?_
     refine tP 2 ?_
     refine tP 3 ?_
     refine tP 4 ?_
     refine tP 7 ?_
     refine tP 8 ?_
     refine tP 9 ?_
     refine WA.br2 (i := 5) (j := 10) qK ?_ ?_
     ·
      refine sL (Rd.add (Rd.blk 2 rfl) _) ?_
      refine tA 6 ?_
      refine lL 10 (Rd.add (Rd.blk 2 rfl) _) ?_
      refine tP 11 ?_
      refine WA.take 12 rfl qK qK qK rfl rfl qD (Yl.rem rfl rfl rfl (fun _ => rfl) qN qN) qS qR ?_
      refine tP 13 ?_
      refine tP 14 ?_
      refine zCF 15 2 ?_
      refine tP 16 ?_
      refine tP 17 ?_
      refine zCF 18 2 ?_
      refine WA.done qK ?_
      refine zL ?_
      refine WE.again ((k, (c + 1) % w.length, false, (grant (nextW ps ms) w c b d).set c 0)) (⟨h1, h4, h5⟩) (by dsimp only; omega) ⟨rfl, rfl, rfl⟩ (RLe.refl _) qS
     ·
      refine sL (Rd.add (Rd.blk 2 rfl) _) ?_
      refine tP 11 ?_
      refine lL 5 (Rd.add (Rd.blk 2 rfl) _) ?_
      refine tA 6 ?_
      refine WA.take 12 rfl qK qK qK rfl rfl qD (Yl.rem rfl rfl rfl (fun _ => rfl) qN qN) qS qR ?_
      refine tP 13 ?_
      refine tP 14 ?_
      refine zCF 15 2 ?_
      refine tP 16 ?_
      refine tP 17 ?_
      refine zCF 18 2 ?_
      refine WA.done qK ?_
      refine zL ?_
      refine WE.again ((k, (c + 1) % w.length, false, (grant (nextW ps ms) w c b d).set c 0)) (⟨h1, h4, h5⟩) (by dsimp only; omega) ⟨rfl, rfl, rfl⟩ (RLe.refl _) qS
    ·try dsimp only at hc2
     have e0 : drop0 (nextW ps ms) c (grant (nextW ps ms) w c b d) = grant (nextW ps ms) w c b d := if_neg (by omega)
     rw [e0] at h1 h4 h5
     refine zK (zU ?_)
     refine W.regionH _ (ES := []) mixed ?_
     refine tP 0 ?_
     refine tP 1 ?_
     refine tP 2 ?_
     refine tP 3 ?_
     refine tP 4 ?_
     refine tP 7 ?_
     refine tP 8 ?_
     refine tP 9 ?_
     refine WA.br2 (i := 5) (j := 10) qK ?_ ?_
     ·
      refine sL (Rd.add (Rd.blk 2 rfl) _) ?_
      refine tA 6 ?_
      refine lL 10 (Rd.add (Rd.blk 2 rfl) _) ?_
      refine tP 11 ?_
      refine WA.take 12 rfl qK qK qK rfl rfl qD (Yl.rem rfl rfl rfl (fun _ => rfl) qN qN) qS qR ?_
      refine tP 13 ?_
      refine tP 14 ?_
      refine zCF 15 2 ?_
      refine tP 16 ?_
      refine tP 17 ?_
      refine zCF 18 2 ?_
      refine WA.done qK ?_
      refine zL ?_
      refine WE.again ((k, (c + 1) % w.length, false, grant (nextW ps ms) w c b d)) (⟨h1, h4, h5⟩) (by dsimp only; omega) ⟨rfl, rfl, rfl⟩ (RLe.refl _) qS
     ·
      refine sL (Rd.add (Rd.blk 2 rfl) _) ?_
      refine tP 11 ?_
      refine lL 5 (Rd.add (Rd.blk 2 rfl) _) ?_
      refine tA 6 ?_
      refine WA.take 12 rfl qK qK qK rfl rfl qD (Yl.rem rfl rfl rfl (fun _ => rfl) qN qN) qS qR ?_
      refine tP 13 ?_
      refine tP 14 ?_
      refine zCF 15 2 ?_
      refine tP 16 ?_
      refine tP 17 ?_
      refine zCF 18 2 ?_
      refine WA.done qK ?_
      refine zL ?_
      refine WE.again ((k, (c + 1) % w.length, false, grant (nextW ps ms) w c b d)) (⟨h1, h4, h5⟩) (by dsimp only; omega) ⟨rfl, rfl, rfl⟩ (RLe.refl _) qS
  ·
   refine zQ (zG (zR 3 rfl ?_))
   refine yP ?_
   refine yP ?_
   refine yP ?_
   refine yG (Rd.addC (Rd.blkC 2 rfl) _) ?_
   refine yP ?_
   refine yN ?_
   refine zN (zU ?_)
   refine W.cond rfl (fun hc3 => ?_) (fun hc3 => ?_)
   ·try simp only [zk] at hc3
    have eg : grant (nextW ps ms) w c b d = d.set c (nth d c + nth w c) := if_pos hc3
    have hwc := hw _ (nth_mem h3.1)
    have hdc := h3.2.2 c h3.1
    refine zQ (zG (zR 3 rfl ?_))
    refine zF 2 ?_
    refine zN (zU ?_)
    refine W.regionH _ (ES := [.blk bv [.slice wa w.length wc, .slice (some ⟨bd, 0, none⟩) w.length w.length, .int .i64 (c : Int), .bool true]]) mixed ?_
    refine tP 0 ?_
    refine tP 1 ?_
    refine tP 2 ?_
    refine tL 3 (Rd.add (Rd.blk 0 rfl) _) ?_
    refine tP 4 ?_
    refine tP 5 ?_
    refine tP 6 ?_
    refine tL 7 (Rd.add (Rd.blk 0 rfl) _) ?_
    refine WA.take 8 rfl qK qK qK rfl rfl qD (Yl.indexN tab_ok rfl rfl rfl rfl rfl rfl (fun _ => rfl) qN qH) qS qR ?_
    refine tP 10 ?_
    refine tP 11 ?_
    refine tP 12 ?_
    refine tL 13 (Rd.add (Rd.blk 0 rfl) _) ?_
    refine tP 14 ?_
    refine tP 15 ?_
    refine tP 16 ?_
    refine tL 17 (Rd.add (Rd.blk 0 rfl) _) ?_
    refine WA.take 18 rfl qK qK qK rfl rfl qD (Yl.indexN tab_ok rfl rfl rfl rfl rfl rfl (fun _ => rfl) qN qH) qS qR ?_
    refine' WA.take 19 rfl qK qK qK rfl rfl qD (Yl.load1 tab_ok rfl rfl rfl (fun _ => rfl) ?r24 rfl ?h24) qS qR ?_
    case r24 => ((apply RS.rdD; assumption; ((try dsimp only) <;> omega)))
    case h24 => rfl
    refine' WA.yl 9 rfl qK rfl rfl qD (Yl.load1 tab_ok rfl rfl rfl (fun _ => rfl) ?r25 rfl ?h25) qS qR ?_
    case r25 => (exact Rd.slD 3 rfl qX)
    case h25 => rfl
    refine tA 20 ?_
    refine WA.take 21 rfl qK qK qK rfl rfl qD (Yl.indexN tab_ok rfl rfl rfl rfl rfl rfl (fun _ => rfl) qN qH) qS qR ?_
    refine WA.effN 22 rfl qK rfl rfl (Ef.storeD _ 3 tab_ok rfl rfl rfl rfl rfl qX rfl rfl rfl rfl ?_)
    refine ⟨qR, qS, ?_⟩
    refine WA.done qK ?_
    refine WE.cut (true, d.set c (nth d c + nth w c)) ⟨by rw [eg], (if_pos (show 0 ≤ nextW ps ms c from hc3.1)).symm⟩ ⟨rfl, rfl, rfl, rfl⟩ (RLe.refl _) qS
   ·try simp only [zk] at hc3
    have eg : grant (nextW ps ms) w c b d = d := if_neg (by rintro ⟨x1, x2⟩; have := hc3 x1; simp_all)
    refine zK ?_
    refine WE.cut (b, d) ⟨by rw [eg], by split; have := hc3 (by assumption); simp_all; rfl⟩ ⟨rfl, rfl, rfl, rfl⟩ (RLe.refl _) qS



theorem Def_err {R : Ro} {pa wa : Option Addr} {pc wc : Nat} {ps : List Pkt} {w : List Int} (hp : RS R 3 encP pa ps) (hwr : RS R 1 encI wa w) {cap ticks : Int} (w0 : World) (hbad : wrunE 6000 cap ticks w ps ≠ 0) (E : List Ent) :
  K.Fn Tryz.prog 228 [.int .i64 cap, .slice wa w.length wc, .slice pa ps.length pc, .int .i64 ticks] w0 R E (fun v R' E' => v = .tuple #[.agg #[.slice none 0 0, .slice none 0 0], .int .i64 (wrunE 6000 cap ticks w ps)] ∧ R = R' ∧ E.Sublist E') := by
 have hla := hp.len
 have hlw := hwr.len
 refine fE 47 Tryz.func228 ?_
 refine zQ (zG ?_)
 refine zA fun b8 => ?_
 refine zR 1 rfl (zN (zU (zQ (zQ (zG (zR 1 rfl ?_))))))
 refine WG.callV en79 rfl rfl qD (CallOp.mk' rfl rfl rfl rfl) (fun _ => rfl) (fun hg => Validate_V hp) ?_
 refine zR 1 rfl (zN (zU (zQ (zG (zR 2 rfl (zN (zU ?_)))))))
 refine W.condN rfl (fun hc0 => ?_) (fun hc0 => ?_)
 ·try dsimp only at hc0
  have e : wrunE 6000 cap ticks w ps = validate ps := by unfold wrunE lrunE; rw [if_pos hc0, if_pos hc0]
  refine zQ (zG ?_)
  -- build
  refine WG.y rfl rfl qD (Yl.build (parts := []) tab_ok rfl rfl rfl rfl (fun _ => rfl) rfl rfl) ?_
  refine zR 1 rfl ?_
  refine zE 0 ?_
  refine zR 1 rfl (zN (zU (zT (wt ?_))))
  refine WE.retF tab_ok [_, _] rfl ⟨⟨_, _, _, rfl, rfl, rfl, qB, rfl⟩, rfl, trivial⟩ (RLe.refl _) ?_
  exact ⟨by rw [e]; rfl, rfl, qS⟩
 ·try dsimp only at hc0
  have hl0 : lrunE cap w.length ticks ps = checkE cap w.length ticks ps := if_neg (fun h => h hc0)
  refine zK (zU (zQ (zQ (zG (zR 5 rfl ?_)))))
  refine WG.callV en190 rfl rfl qD (CallOp.mk' rfl rfl rfl rfl) (fun _ => rfl) (fun hg => Check_V hp) ?_
  refine zR 1 rfl (zN (zU (zQ (zG (zR 2 rfl (zN (zU ?_)))))))
  refine W.condN rfl (fun hc1 => ?_) (fun hc1 => ?_)
  ·try dsimp only at hc1
   have e : wrunE 6000 cap ticks w ps = checkE cap w.length ticks ps := by unfold wrunE; rw [if_pos (by rw [hl0]; exact hc1), hl0]
   refine zQ (zG ?_)
   -- build
   refine WG.y rfl rfl qD (Yl.build (parts := []) tab_ok rfl rfl rfl rfl (fun _ => rfl) rfl rfl) ?_
   refine zR 1 rfl ?_
   refine zE 0 ?_
   refine zR 1 rfl (zN (zU (zT (wt ?_))))
   refine WE.retF tab_ok [_, _] rfl ⟨⟨_, _, _, rfl, rfl, rfl, qB, rfl⟩, rfl, trivial⟩ (RLe.refl _) ?_
   exact ⟨by rw [e]; rfl, rfl, qS⟩
  ·try dsimp only at hc1
   refine zK (zU (zQ (zQ (zG (zR 1 rfl ?_)))))
   refine WG.callV en234 rfl rfl qD (CallOp.mk' rfl rfl rfl rfl) (fun _ => rfl) (fun hg => Weighed20_V hwr) ?_
   refine zR 1 rfl (zN (zU ?_))
   refine W.cond rfl (fun hc2 => ?_) (fun hc2 => ?_)
   ·try simp only [zk] at hc2
    have e : wrunE 6000 cap ticks w ps = 2 := by unfold wrunE; rw [if_neg (fun h => h (hl0.trans hc1)), if_neg (by simp [hc2])]
    refine zQ (zG ?_)
    -- build
    refine WG.y rfl rfl qD (Yl.build (parts := []) tab_ok rfl rfl rfl rfl (fun _ => rfl) rfl rfl) ?_
    refine zE 0 ?_
    refine zR 1 rfl (zN (zU (zT (wt ?_))))
    refine WE.retF tab_ok [_, _] rfl ⟨⟨_, _, _, rfl, rfl, rfl, qB, rfl⟩, rfl, trivial⟩ (RLe.refl _) ?_
    exact ⟨by rw [e]; rfl, rfl, qS⟩
   ·try simp only [zk] at hc2
    exact absurd (by unfold wrunE; rw [if_neg (fun h => h (hl0.trans hc1)), if_pos (by simpa using hc2)]) hbad

theorem Def_ok {R : Ro} {pa wa : Option Addr} {pc wc : Nat} {ps : List Pkt} {w : List Int} (hp : RS R 3 encP pa ps) (hwr : RS R 1 encI wa w) {cap : Int} {ticks : Nat} (w0 : World) (hok0 : wrunE 6000 cap ticks w ps = 0) (E : List Ent) :
  K.Fn Tryz.prog 228 [.int .i64 cap, .slice wa w.length wc, .slice pa ps.length pc, .int .i64 ticks] w0 R E
   (fun v R' E' => ∃ (rows : List Sl) (gd go : Nat) (s : M.RS (Nat × Bool × List Int)), s = mrun ps (defCh ps w) cap w.length ticks (def0 w.length) ∧ v = .tuple #[.agg #[.slice (some ⟨gd, 0, none⟩) ps.length ps.length, .slice (some ⟨go, 0, none⟩) w.length w.length], .int .i64 0] ∧ R = R' ∧ rows.map Sl.xs = s.sent ∧ (∀ r ∈ rows, r.a.isSome = true) ∧ Inv ps w.length (goodDf ps w.length) (ticks + 1) (ticks * cap) s ∧
    (.sl 3 1 (some ⟨gd, 0, none⟩) ps.length (s.done.map encI) :: .sl 22 1 (some ⟨go, 0, none⟩) w.length (rows.map encS) :: (rows.map (rowE 3) ++ E)).Sublist E') := by
 obtain ⟨hl0, hkw⟩ := wrunE_ok hok0
 have hw := okW_iff.1 hkw
 obtain ⟨hok, hvv, hck, c1, c2, c3, c4, c5, c6, hs, hf⟩ := lrunE_ok hl0
 have hlw := hwr.len
 have hla := hp.len
 refine fE 47 Tryz.func228 ?_
 refine zQ (zG ?_)
 refine zA fun b8 => ?_
 refine zR 1 rfl (zN (zU (zQ (zQ (zG (zR 1 rfl ?_))))))
 refine WG.callV en79 rfl rfl qD (CallOp.mk' rfl rfl rfl rfl) (fun _ => rfl) (fun hg => hvv ▸ Validate_V hp) ?_
 refine zR 1 rfl (zN (zU (zQ (zG (zR 2 rfl (zN (zU ?_)))))))
 refine W.condN rfl (fun hc0 => ?_) (fun hc0 => ?_)
 ·try dsimp only at hc0
  exact absurd rfl hc0
 ·try dsimp only at hc0
  refine zK (zU (zQ (zQ (zG (zR 5 rfl ?_)))))
  refine WG.callV en190 rfl rfl qD (CallOp.mk' rfl rfl rfl rfl) (fun _ => rfl) (fun hg => hck ▸ Check_V hp) ?_
  refine zR 1 rfl (zN (zU (zQ (zG (zR 2 rfl (zN (zU ?_)))))))
  refine W.condN rfl (fun hc1 => ?_) (fun hc1 => ?_)
  ·try dsimp only at hc1
   exact absurd rfl hc1
  ·try dsimp only at hc1
   refine zK (zU (zQ (zQ (zG (zR 1 rfl ?_)))))
   refine WG.callV en234 rfl rfl qD (CallOp.mk' rfl rfl rfl rfl) (fun _ => rfl) (fun hg => hkw ▸ Weighed20_V hwr) ?_
   refine zR 1 rfl (zN (zU ?_))
   refine W.cond rfl (fun hc2 => ?_) (fun hc2 => ?_)
   ·try simp only [zk] at hc2
    simp at hc2
   ·try simp only [zk] at hc2
    refine zK (zU (zQ (zG (zR 3 rfl ?_))))
    refine WL.ef rfl rfl qD (Ef.makeSliceD (enc := encI) 0 tab_ok rfl rfl rfl rfl rfl rfl qX qX qX qX qD rfl rfl (fun a36 => ?_))
    -- build
    refine WG.y rfl rfl qD (Yl.build (parts := [(0, .tmp 33), (1, .tmp 36)]) tab_ok rfl rfl rfl rfl (fun _ => rfl) rfl rfl) ?_
    refine zO fun b38 => ?_
    refine zR 1 rfl (zN (zU (zQ (zG (zR 7 rfl ?_)))))
    refine WL.call en191 rfl rfl qD (CallOp.mkT rfl rfl rfl rfl) (MRun_C (pc := pc) (g := 235) (first := #[.pointer (some ⟨b38, 0, none⟩)]) (capd := #[]) (ch := defCh ps w) (good := goodDf ps w.length) (X := fun s => [.blk b38 [.slice wa w.length wc, .slice (some ⟨a36, 0, none⟩) w.length w.length, .int .i64 (s.1 : Int), .bool s.2.1], .sl 3 1 (some ⟨a36, 0, none⟩) w.length ((s.2.2).map encI)]) (sg := def0 w.length) w0 hp (def_fair hw (fun p hp => by have := hok.at hp; omega) hf hok.sorted).toGood ⟨by have := hok.len; omega, fun p hp => by have := hs p hp; have := hf p hp; omega⟩ (def_start qO _) qO qO qO en235 (fun sb bg ms sg F hgd hbl _ _ _ _ => ChooseD_C w0 hp hbl hok.sorted hwr hw qO (fun p hp => by have := hok.at hp; omega) hf hgd F) _) ?_
    rintro _ _ E2 - ⟨rows, gd, go, s, hsr, rfl, rfl, h1, h2, h3, hsub⟩
    refine WL.subE hsub ?_
    refine WL.subE (E' := .sl 3 1 (some ⟨gd, 0, none⟩) ps.length (s.done.map encI) :: .sl 22 1 (some ⟨go, 0, none⟩) w.length (rows.map encS) :: (rows.map (rowE 3) ++ (.blk b8 [.slice none 0 0, .slice none 0 0] :: E))) (List.Sublist.cons_cons _ (List.Sublist.cons_cons _ (List.Sublist.append (List.Sublist.refl _) qS))) ?_
    refine WL.perm (List.perm_middle (l₁ := _ :: _ :: rows.map (rowE 3))) ?_
    refine zE 0 ?_
    refine zR 1 rfl (zN (zU (zT ?_)))
    refine WE.retF tab_ok [_, _] rfl ⟨⟨_, _, _, rfl, rfl, rfl, qB, rfl⟩, rfl, trivial⟩ (RLe.refl _) ?_
    exact ⟨rows, gd, go, s, hsr, rfl, rfl, h1, h2, h3, qS⟩





end Go.Proofs.YthpblaoehlgpfaaGreat

/- Time slots: what the walks want. No condition. -/
namespace Go.Proofs.YthpblaoehlgpfaaGreat.M
open Go Go.Proofs.YthpblaoehlgpfaaGreat.K

def aheadP (tb : List Int) (cls : Int) (t n : Nat) : Bool := decide (cls < 0) || nth tb ((t + n) % tb.length) != cls
theorem aheadP_iff {tb : List Int} {cls : Int} {t n : Nat} : aheadP tb cls t n = true ↔ cls < 0 ∨ nth tb ((t + n) % tb.length) ≠ cls := by unfold aheadP; simp
theorem aheadN_some {tb : List Int} {cls : Int} {t n : Nat} (hn : n < tb.length) (hP : aheadP tb cls t n = true) (h : ∀ j, j < n → aheadP tb cls t j = false) : aheadN tb cls t = n :=
 findFrom_some (P := aheadP tb cls t) (Nat.zero_le _) (by omega) hP (fun j _ hj => h j hj)
theorem aheadN_none {tb : List Int} {cls : Int} {t : Nat} (h : ∀ j, j < tb.length → aheadP tb cls t j = false) : aheadN tb cls t = -1 :=
 findFrom_none (P := aheadP tb cls t) (fun j _ hj => h j (by omega))
theorem aheadN_range (tb : List Int) (cls : Int) (t : Nat) : -1 ≤ aheadN tb cls t ∧ aheadN tb cls t < tb.length ∨ aheadN tb cls t = -1 := by
 rcases findFrom_cases (aheadP tb cls t) tb.length 0 with ⟨i, h1, h2, h3, _⟩ | ⟨h1, _⟩
 ·left
  have : aheadN tb cls t = i := h3
  omega
 ·right; exact h1
def aheadV (tb : List Int) (cls : Int) (t : Nat) : Int × Bool := if aheadN tb cls t = -1 then (0, false) else (aheadN tb cls t, true)
theorem okT_at {n : Int} {tb : List Int} (h1 : 1 ≤ tb.length) (h2 : tb.length ≤ 40) (h : ∀ j, j < tb.length → -1 ≤ nth tb j ∧ nth tb j < n) : okT n tb = true := okT_iff.2 ⟨h1, h2, fun c hc => by
 obtain ⟨i, hi, e⟩ := List.getElem_of_mem hc
 have := h i hi
 rw [nth_eq hi, e] at this; exact this⟩
def clsN (tb : List Int) (k : Nat) : Int := (tb.take k).foldl (fun m c => if m < c + 1 then c + 1 else m) 1
theorem slotCh_if {ps : List Pkt} {cap : Int} {tb : List Int} {ms : MS} (h0 : ¬ slotT tb ms.now.toNat < 0) (h1 : ¬ nextW ps ms (slotT tb ms.now.toNat) < 0) : slotCh ps cap tb ms () =
  if (aheadV tb (slotT tb ms.now.toNat) ms.now.toNat).2 = true ∧ ms.left + ((aheadV tb (slotT tb ms.now.toNat) ms.now.toNat).1 - 1) * cap < szOf ps (nextW ps ms (slotT tb ms.now.toNat)) then (-1, skipTo ms.begun ms.before, ()) else (nextW ps ms (slotT tb ms.now.toNat), skipTo ms.begun ms.before, ()) := by
 unfold slotCh
 rw [if_neg h0, if_neg h1]
 unfold aheadV szOf
 by_cases ha : aheadN tb (slotT tb ms.now.toNat) ms.now.toNat = -1
 ·rw [if_pos ha, if_neg (fun h => h.1 ha), if_neg (fun h => by cases h.1)]
 ·rw [if_neg ha]
  by_cases hb : (nth ps (nextW ps ms (slotT tb ms.now.toNat)).toNat).size > ms.left + (aheadN tb (slotT tb ms.now.toNat) ms.now.toNat - 1) * cap
  ·rw [if_pos ⟨ha, hb⟩, if_pos ⟨rfl, hb⟩]
  ·rw [if_neg (fun h => hb h.2), if_neg (fun h => hb h.2)]
/-- what room a packet of a class has at the beginning of a tick -/
def roomT (cap : Int) (tb : List Int) (cls t : Int) : Int :=
  if cap < 1 ∨ 4000 < cap ∨ tb.length < 1 ∨ 40 < tb.length ∨ t < 0 ∨ 2000 < t then 0
  else if (aheadV tb cls t.toNat).2 = false then 1073741824 else (aheadV tb cls t.toNat).1 * cap
/-- how many ticks of the part that goes on -/
def rowS (mine : Nat → Bool) (a : Nat) : Nat → Nat
  | 0 => 0
  | d + 1 => if mine (a + d) = true then rowS mine a d + 1 else 0
end Go.Proofs.YthpblaoehlgpfaaGreat.M

/- Chapter 21: the choice. No condition. -/
set_option maxRecDepth 4000
set_option linter.unusedSimpArgs false
set_option linter.unusedVariables false
namespace Go.Proofs.YthpblaoehlgpfaaGreat
open Go Go.RowKit Go.Proofs.YthpblaoehlgpfaaGreat.K Go.Proofs.YthpblaoehlgpfaaGreat.M

theorem Ahead_V {R : Ro} {wa : Option Addr} {wc : Nat} {tb : List Int} (hwr : RS R 1 encI wa tb) {cls : Int} {t : Nat} (hl : tb.length ≤ 1000) (ht : t ≤ 1000000) : FnV Tryz.prog 248 [.slice wa tb.length wc, .int .i64 cls, .int .i64 (t : Int)] R (.tuple #[.int .i64 (aheadV tb cls t).1, .bool (aheadV tb cls t).2]) := by
 have hla := hwr.len
 refine Fn.toV (fun w0 E => ?_)
 refine fE 31 Tryz.func248 ?_
 refine zQ (zG (zR 2 rfl (zN (zU (zQ (zQ (zG (zR 3 rfl (zN (zU (zB ?_)))))))))))
 refine W.loopK (β := Nat) (fun k => k ≤ tb.length ∧ ∀ j, j < k → aheadP tb cls t j = false) (fun k => [(11, true, .int .i64 (k : Int))]) [0, 1, 2, 10] [_, _, _, _] [] _ rfl (fun k => []) (fun k => tb.length - k) (0) (⟨Nat.zero_le _, fun j hj => by omega⟩) ⟨rfl, rfl, rfl, rfl, rfl, rfl⟩ qS ?_
 intro k hst
 dsimp only [zipE, setAll, List.cons_append, List.nil_append, List.set_cons_zero, List.set_cons_succ] at hst ⊢
 obtain ⟨hk, hno⟩ := hst
 have hce : ((t : Int) + (k : Int)) % (tb.length : Int) = (((t + k) % tb.length : Nat) : Int) := rfl
 have hml : 0 < tb.length → (t + k) % tb.length < tb.length := fun h => Nat.mod_lt _ h
 refine zQ (zG (zR 1 rfl (zN (zU (zQ ?_)))))
 refine W.condD rfl (fun hc0 => ?_) (fun hc0 => ?_)
 ·try dsimp only at hc0
  have hkl : k < tb.length := by omega
  have hml := hml (by omega)
  refine zK (zU (zQ (zB (zQ (zG (zR 2 rfl (zN (zU (zQ (zG (zR 3 rfl ?_)))))))))))
  refine yP ?_
  refine yP ?_
  refine yP ?_
  refine WG.y rfl rfl (by decide) (Yl.add rfl rfl rfl qE (by intro hg; (try simp only [zk] at hg); constructor <;> (try dsimp only) <;> omega)) ?_
  refine yP ?_
  refine yP ?_
  refine WG.y rfl rfl (by decide) (Yl.rem rfl rfl rfl qE (by intro hg; (try simp only [zk] at hg); (try dsimp only) <;> omega) (by intro hg; (try simp only [zk] at hg); (try dsimp only) <;> omega)) ?_
  rw [hce]
  refine WG.y rfl rfl (by decide) (Yl.indexN tab_ok rfl rfl rfl rfl rfl rfl qE (by intro hg; (try simp only [zk] at hg); (try dsimp only) <;> omega) (by intro hg; (try simp only [zk] at hg); first | exact qI)) ?_
  refine' WG.y rfl rfl qD (Yl.loadG tab_ok rfl rfl rfl qE ?r1 rfl ?h1 ?g1) ?_
  case r1 => ((apply RS.rdC; assumption))
  case h1 => rfl
  case g1 => (intro hg; (try simp only [zk] at hg); (try dsimp only); omega)
  refine yP ?_
  refine yP ?_
  refine yO ?_
  refine zN (zU ?_)
  refine W.cond rfl (fun hc1 => ?_) (fun hc1 => ?_)
  ·try simp only [zk] at hc1
   have hP : aheadP tb cls t k = true := aheadP_iff.2 hc1
   have hav : aheadV tb cls t = ((k : Int), true) := by unfold aheadV; rw [aheadN_some hkl hP hno, if_neg (by omega)]
   refine zQ (zG (zR 3 rfl (zN (zU (zT (wb (wt (wt (wb (wt ?_))))))))))
   refine sE (E := E) ?_
   refine WE.retF tab_ok [_, _] rfl ⟨rfl, rfl, trivial⟩ (RLe.refl _) ?_
   exact ⟨by rw [hav]; rfl, rfl⟩
  ·try simp only [zk] at hc1
   have hP : aheadP tb cls t k = false := by
    rw [← Bool.not_eq_true, aheadP_iff]
    intro h
    rcases h with h | h <;> simp_all <;> omega
   refine zK (zL (zU (zG ?_)))
   refine yA ?_
   refine zR 1 rfl (zN ?_)
   refine WE.again (k + 1) (⟨by omega, fun j hj => by
    by_cases e : j = k
    ·subst e; exact hP
    ·exact hno j (by omega)⟩) (by (try dsimp only); omega) ⟨rfl, rfl, rfl, rfl, rfl, rfl⟩ (RLe.refl _) qS
 ·try dsimp only at hc0
  have hav : aheadV tb cls t = (0, false) := by unfold aheadV; rw [if_pos (aheadN_none (fun j hj => hno j (by omega)))]
  refine zX ?_
  refine wx (wx (zY (zU (zQ (zG (zR 2 rfl (zN (zU (zT ?_)))))))))
  refine sE (E := E) ?_
  refine WE.retF tab_ok [_, _] rfl ⟨rfl, rfl, trivial⟩ (RLe.refl _) ?_
  exact ⟨by rw [hav]; rfl, rfl⟩

theorem AheadT_V {R : Ro} {wa : Option Addr} {wc : Nat} {tb : List Int} (hwr : RS R 1 encI wa tb) {cls : Int} {t : Nat} (hl : tb.length ≤ 1000) (ht : t ≤ 1000000) : FnV Tryz.prog 244 [.slice wa tb.length wc, .int .i64 cls, .int .i64 (t : Int)] R (.tuple #[.int .i64 (aheadV tb cls t).1, .bool (aheadV tb cls t).2]) := by
 have hla := hwr.len
 refine Fn.toV (fun w0 E => ?_)
 refine fE 14 Tryz.func244 ?_
 refine zQ (zG (zR 2 rfl (zN (zU (zQ (zG (zR 3 rfl ?_)))))))
 refine WG.callV en248 rfl rfl qD (CallOp.mk' rfl rfl rfl rfl) (fun _ => rfl) (fun hg => Ahead_V hwr hl ht) ?_
 refine zR 4 rfl (zN (zU (zT ?_)))
 refine sE (E := E) ?_
 refine WE.retF tab_ok [_, _] rfl ⟨rfl, rfl, trivial⟩ (RLe.refl _) ?_
 exact ⟨rfl, rfl⟩

theorem ValidT_V {R : Ro} {wa : Option Addr} {wc : Nat} {tb : List Int} (hwr : RS R 1 encI wa tb) {n : Int} : FnV Tryz.prog 249 [.slice wa tb.length wc, .int .i64 n] R (.bool (okT n tb)) := by
 have hla := hwr.len
 refine Fn.toV (fun w0 E => ?_)
 refine fE 29 Tryz.func249 ?_
 refine zQ (zG (zR 1 rfl (zN (zU (zQ (zQ (zG (zR 4 rfl ?_))))))))
 refine yP ?_
 refine yP ?_
 refine yP ?_
 refine yO ?_
 refine zN (zU ?_)
 refine W.cond rfl (fun hc0 => ?_) (fun hc0 => ?_)
 ·try simp only [zk] at hc0
  have hk : okT n tb = false := by
   rw [← Bool.not_eq_true, okT_iff]
   intro h
   omega
  refine zQ (zG (zR 1 rfl (zN (zU (zT (wt ?_))))))
  refine sE (E := E) ?_
  refine WE.retF tab_ok [_] rfl ⟨rfl, trivial⟩ (RLe.refl _) ?_
  exact ⟨by rw [hk]; rfl, rfl⟩
 ·try simp only [zk] at hc0
  have hl1 : 1 ≤ tb.length ∧ tb.length ≤ 40 := by omega
  refine zK (zU (zQ (zQ (zG (zR 3 rfl (zN (zU (zB ?_))))))))
  refine W.loopK (β := Nat) (fun k => k ≤ tb.length ∧ ∀ j, j < k → -1 ≤ nth tb j ∧ nth tb j < n) (fun k => [(17, true, .int .i64 (k : Int))]) [1, 15, 16] [_, _, _] [] _ rfl (fun k => []) (fun k => tb.length - k) (0) (⟨Nat.zero_le _, fun j hj => by omega⟩) ⟨rfl, rfl, rfl, rfl, rfl⟩ qS ?_
  intro k hst
  dsimp only [zipE, setAll, List.cons_append, List.nil_append, List.set_cons_zero, List.set_cons_succ] at hst ⊢
  
  refine zQ (zG (zR 1 rfl (zN (zU (zQ ?_)))))
  refine W.condD rfl (fun hc1 => ?_) (fun hc1 => ?_)
  ·try dsimp only at hc1
   have hkl : k < tb.length := by omega
   refine zK (zU (zQ (zB (zQ (zG ?_)))))
   refine WG.y rfl rfl qD (Yl.indexN tab_ok rfl rfl rfl rfl rfl rfl (fun _ => rfl) qN qH) ?_
   refine yR ?_
   refine zR 1 rfl (zN (zU (zQ (zG (zR 3 rfl ?_)))))
   refine yP ?_
   refine yP ?_
   refine yP ?_
   refine yO ?_
   refine zN (zU ?_)
   refine W.cond rfl (fun hc2 => ?_) (fun hc2 => ?_)
   ·try simp only [zk] at hc2
    have hk : okT n tb = false := by
     rw [← Bool.not_eq_true, okT_iff]
     intro h
     have := h.2.2 _ (nth_mem hkl)
     omega
    refine zQ (zG (zR 1 rfl (zN (zU (zT (wb (wt (wt (wb (wt ?_))))))))))
    refine sE (E := E) ?_
    refine WE.retF tab_ok [_] rfl ⟨rfl, trivial⟩ (RLe.refl _) ?_
    exact ⟨by rw [hk]; rfl, rfl⟩
   ·try simp only [zk] at hc2
    refine zK (zL (zU (zG ?_)))
    refine yA ?_
    refine zR 1 rfl (zN ?_)
    refine WE.again (k + 1) (⟨by omega, fun j hj => by
     by_cases e : j = k
     ·subst e; omega
     ·exact hst.2 j (by omega)⟩) (by (try dsimp only); omega) ⟨rfl, rfl, rfl, rfl, rfl⟩ (RLe.refl _) qS
  ·try dsimp only at hc1
   have hk : okT n tb = true := okT_at hl1.1 hl1.2 (fun j hj => hst.2 j (by omega))
   refine zX ?_
   refine wx (wx (zY (zU (zQ (zG (zR 1 rfl (zN (zU (zT ?_)))))))))
   refine sE (E := E) ?_
   refine WE.retF tab_ok [_] rfl ⟨rfl, trivial⟩ (RLe.refl _) ?_
   exact ⟨by rw [hk]; rfl, rfl⟩

theorem MineT_V {R : Ro} {wa : Option Addr} {wc : Nat} {tb : List Int} (hwr : RS R 1 encI wa tb) {cls : Int} {t : Nat} (hn : 0 < tb.length) (hc : 0 ≤ cls) (ht : t ≤ 1000000) : FnV Tryz.prog 243 [.slice wa tb.length wc, .int .i64 cls, .int .i64 (t : Int)] R (.bool (mineT tb cls t)) := by
 have hla := hwr.len
 refine Fn.toV (fun w0 E => ?_)
 have hce : (t : Int) % (tb.length : Int) = ((t % tb.length : Nat) : Int) := rfl
 have hml := Nat.mod_lt t hn
 have hd : decide (cls ≥ 0) = true := decide_eq_true hc
 refine fE 20 Tryz.func243 ?_
 refine zQ (zG (zR 1 rfl (zN (zU (zQ (zG (zR 3 rfl ?_)))))))
 refine yP ?_
 refine yP ?_
 refine yP ?_
 refine yP ?_
 refine WG.y rfl rfl (by decide) (Yl.rem rfl rfl rfl qE (by intro hg; (try simp only [zk] at hg); (try dsimp only) <;> omega) (by intro hg; (try simp only [zk] at hg); (try dsimp only) <;> omega)) ?_
 rw [hce]
 refine WG.y rfl rfl (by decide) (Yl.indexN tab_ok rfl rfl rfl rfl rfl rfl qE (by intro hg; (try simp only [zk] at hg); (try dsimp only) <;> omega) (by intro hg; (try simp only [zk] at hg); first | exact qI)) ?_
 refine' WG.y rfl rfl qD (Yl.loadG tab_ok rfl rfl rfl qE ?r1 rfl ?h1 ?g1) ?_
 case r1 => ((apply RS.rdC; assumption))
 case h1 => rfl
 case g1 => (intro hg; (try simp only [zk] at hg); (try dsimp only); omega)
 refine yP ?_
 refine yP ?_
 refine yN ?_
 refine zR 1 rfl (zN (zU (zT ?_)))
 refine sE (E := E) ?_
 refine WE.retF tab_ok [_] rfl ⟨rfl, trivial⟩ (RLe.refl _) ?_
 exact ⟨by show Value.bool (decide (cls ≥ 0) && _) = _; rw [hd]; rfl, rfl⟩

theorem SlotsMk_C {R : Ro} {wa : Option Addr} {wc n : Nat} {cap : Int} (w0 : World) (E : List Ent) : K.Fn Tryz.prog 241 [.int .i64 cap, .slice wa n wc] w0 R E (fun v R' E' => ∃ b2 b3 : Nat, v = .func (.func 247) #[] #[.pointer (some ⟨b3, 0, none⟩), .pointer (some ⟨b2, 0, none⟩)] ∧ R = R' ∧ E' = .blk b3 [.slice wa n wc] :: .blk b2 [.int .i64 cap] :: E) := by
 refine fE 6 Tryz.func241 ?_
 refine zQ (zG ?_)
 refine zO fun b2 => ?_
 refine zO fun b3 => ?_
 refine zR 1 rfl (zN (zU (zQ (zG (zR 2 rfl (zN (zU (zT ?_))))))))
 refine WE.retF tab_ok [_] rfl ⟨rfl, trivial⟩ (RLe.refl _) ?_
 exact ⟨b2, b3, rfl, rfl, rfl⟩

theorem Slot1_C {b2 b3 : Nat} {R : Ro} {sb : Nat} {pa : Option Addr} {pc bg : Nat} {ps : List Pkt} {ms : MS} (w0 : World) (hp : RS R 3 encP pa ps) (hb : ms.begun.length = ps.length) (hsort : ps.Pairwise fun a b => a.time ≤ b.time) {wa : Option Addr} {wc : Nat} {tb : List Int} {cap : Int} (hwr : RS R 1 encI wa tb) (h3 : R b3 = some [.slice wa tb.length wc]) (h2 : R b2 = some [.int .i64 cap]) (hn : 0 < tb.length) (hl : tb.length ≤ 1000) (hc : 1 ≤ cap ∧ cap ≤ 1000000) (hgd : goodB ps ms) (hnow : 0 ≤ ms.now ∧ ms.now ≤ 1000000) (hleft : 0 ≤ ms.left ∧ ms.left ≤ 1000000) (F : List Ent) :
  K.Fn Tryz.prog 247 [.pointer (some ⟨sb, 0, none⟩), .pointer (some ⟨b3, 0, none⟩), .pointer (some ⟨b2, 0, none⟩)] w0 R (stE sb pa ps.length pc bg ms :: .sl 4 1 (some ⟨bg, 0, none⟩) ps.length (ms.begun.map encB) :: F) (fun v R' E' => v = .int .i64 (slotCh ps cap tb ms ()).1 ∧ R = R' ∧ E' = stE sb pa ps.length pc bg { ms with before := (slotCh ps cap tb ms ()).2.1 } :: .sl 4 1 (some ⟨bg, 0, none⟩) ps.length (ms.begun.map encB) :: F) := by
 have hlw := hwr.len
 have hlp := hp.len
 have hnt : (ms.now.toNat : Int) = ms.now := by omega
 have hce : ms.now % (tb.length : Int) = ((ms.now.toNat % tb.length : Nat) : Int) := by rw [Int.natCast_emod, hnt]
 have hml := Nat.mod_lt ms.now.toNat hn
 have har := aheadN_range tb (slotT tb ms.now.toNat) ms.now.toNat
 have hab : 0 ≤ (aheadV tb (slotT tb ms.now.toNat) ms.now.toNat).1 ∧ (aheadV tb (slotT tb ms.now.toNat) ms.now.toNat).1 ≤ 1000 := by unfold aheadV; split <;> (dsimp only; omega)
 have hmb := mulB (a := (aheadV tb (slotT tb ms.now.toNat) ms.now.toNat).1) (b := cap) (A := 1000) (B := 1000000) (by omega) (by omega)
 have hme : ((aheadV tb (slotT tb ms.now.toNat) ms.now.toNat).1 - 1) * cap = (aheadV tb (slotT tb ms.now.toNat) ms.now.toNat).1 * cap - cap := by rw [Int.sub_mul, Int.one_mul]
 refine fE 53 Tryz.func247 ?_
 refine zQ (zG (zR 1 rfl (zN (zU (zQ ?_)))))
 refine W.regionQ _ mixed qK ?_
 refine' WG.y rfl rfl qD (Yl.load1 tab_ok rfl rfl rfl (fun _ => rfl) ?r1 rfl ?h1) ?_
 case r1 => (exact Rd.ro qU)
 case h1 => rfl
 refine zR 3 rfl ?_
 refine yL (Rd.add (Rd.blk 0 rfl) _) ?_
 refine' WG.y rfl rfl qD (Yl.load1 tab_ok rfl rfl rfl (fun _ => rfl) ?r3 rfl ?h3) ?_
 case r3 => (exact Rd.ro qU)
 case h3 => rfl
 refine zR 1 rfl ?_
 refine WG.y rfl rfl qD (Yl.rem rfl rfl rfl (fun _ => rfl) qN qN) ?_
 rw [hce]
 refine WG.y rfl rfl qD (Yl.indexN tab_ok rfl rfl rfl rfl rfl rfl (fun _ => rfl) qN qH) ?_
 refine yR ?_
 refine zR 1 rfl (zN (zU (zQ ?_)))
 rw [show nth tb (ms.now.toNat % tb.length) = slotT tb ms.now.toNat from rfl]
 refine zQ (zG (zR 2 rfl (zN (zU ?_))))
 refine W.condD rfl (fun hc0 => ?_) (fun hc0 => ?_)
 ·try dsimp only at hc0
  have hch : slotCh ps cap tb ms () = (-1, ms.before, ()) := by unfold slotCh; rw [if_pos hc0]
  refine zQ (zG (zR 1 rfl (zN (zU (zT (wt ?_))))))
  refine WE.retF tab_ok [_] rfl ⟨rfl, trivial⟩ (RLe.refl _) ?_
  exact ⟨by rw [hch]; try rfl, rfl, by rw [hch]; try rfl⟩
 ·try dsimp only at hc0
  refine zK (zU (zQ (zG (zR 2 rfl ?_))))
  refine WL.call en201 rfl rfl qD (CallOp.mkT rfl rfl rfl rfl) (Next_C (ms := ms) w0 hp hb hgd hsort _ _) ?_
  rintro _ _ _ - ⟨rfl, rfl, rfl⟩
  refine zR 1 rfl (zN (zU (zQ (zQ (zG (zR 2 rfl (zN (zU ?_))))))))
  refine W.condD rfl (fun hc1 => ?_) (fun hc1 => ?_)
  ·try dsimp only at hc1
   have hch : slotCh ps cap tb ms () = (-1, skipTo ms.begun ms.before, ()) := by unfold slotCh; rw [if_neg (by omega), if_pos hc1]
   refine zQ (zG (zR 1 rfl (zN (zU (zT (wt ?_))))))
   refine WE.retF tab_ok [_] rfl ⟨rfl, trivial⟩ (RLe.refl _) ?_
   exact ⟨by rw [hch]; try rfl, rfl, by rw [hch]; try rfl⟩
  ·try dsimp only at hc1
   refine zK (zU (zQ (zQ ?_)))
   refine W.regionQ _ mixed qK ?_
   refine' WG.y rfl rfl qD (Yl.load1 tab_ok rfl rfl rfl (fun _ => rfl) ?r5 rfl ?h5) ?_
   case r5 => (exact Rd.ro qU)
   case h5 => rfl
   refine zR 4 rfl ?_
   refine yL (Rd.add (Rd.blk 0 rfl) _) ?_
   refine WG.callV en248 rfl rfl (by decide) (CallOp.mk' rfl rfl rfl rfl) (fun _ => rfl) (fun hg => by have h := Ahead_V (wc := wc) (cls := slotT tb ms.now.toNat) (t := ms.now.toNat) hwr (by omega) (by omega); rw [hnt] at h; exact h) ?_
   refine zR 5 rfl (zN (zU (zQ ?_)))
   refine W.regionQ _ mixed qK ?_
   refine zR 2 rfl ?_
   refine yP ?_
   refine yP ?_
   refine WG.callE en236 rfl rfl qD (CallOp.mk' rfl rfl rfl rfl) qE (fun hg => Size_E w0 hp _ qO (nextW_lt ps _ _).1 _) ?_
   refine yP ?_
   refine yP ?_
   refine yP ?_
   refine yG (Rd.addC (Rd.blkC 0 rfl) _) ?_
   refine yP ?_
   refine WG.y rfl rfl (by decide) (Yl.sub rfl rfl rfl qE (by intro hg; (try simp only [zk] at hg); constructor <;> (try dsimp only) <;> omega)) ?_
   refine' WG.y rfl rfl qD (Yl.loadG tab_ok rfl rfl rfl qE ?r8 rfl ?h8 ?g8) ?_
   case r8 => exact fun _ => Rd.ro h2
   case h8 => rfl
   case g8 => exact fun _ => trivial
   refine WG.y rfl rfl (by decide) (Yl.mul rfl rfl rfl qE (by intro hg; (try simp only [zk] at hg); constructor <;> (try dsimp only) <;> omega)) ?_
   refine WG.y rfl rfl (by decide) (Yl.add rfl rfl rfl qE (by intro hg; (try simp only [zk] at hg); constructor <;> (try dsimp only) <;> omega)) ?_
   refine yP ?_
   refine yN ?_
   refine zN (zU ?_)
   refine W.cond rfl (fun hc2 => ?_) (fun hc2 => ?_)
   ·try simp only [zk] at hc2
    have hch : slotCh ps cap tb ms () = (-1, skipTo ms.begun ms.before, ()) := by rw [slotCh_if hc0 hc1, if_pos hc2]
    refine zQ (zG (zR 1 rfl (zN (zU (zT (wt ?_))))))
    refine WE.retF tab_ok [_] rfl ⟨rfl, trivial⟩ (RLe.refl _) ?_
    exact ⟨by rw [hch]; try rfl, rfl, by rw [hch]; try rfl⟩
   ·try simp only [zk] at hc2
    have hch : slotCh ps cap tb ms () = (nextW ps ms (slotT tb ms.now.toNat), skipTo ms.begun ms.before, ()) := by rw [slotCh_if hc0 hc1, if_neg (fun h => by have := hc2 h.1; omega)]
    refine zK (zU (zQ (zG (zR 2 rfl (zN (zU (zT ?_)))))))
    refine WE.retF tab_ok [_] rfl ⟨rfl, trivial⟩ (RLe.refl _) ?_
    exact ⟨by rw [hch]; try rfl, rfl, by rw [hch]; try rfl⟩



end Go.Proofs.YthpblaoehlgpfaaGreat
