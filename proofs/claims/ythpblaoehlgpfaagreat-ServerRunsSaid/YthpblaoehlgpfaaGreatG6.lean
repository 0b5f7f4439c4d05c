/- ServerRuns: for every input the law returns true, and the input reads afterwards as it read before. No condition. -/
import Derived.Test.YthpblaoehlgpfaaGreatG5
/- Chapter 22: the sanity check. No condition. -/
set_option maxRecDepth 4000
set_option linter.unusedSimpArgs false
set_option linter.unusedVariables false
namespace Go.Proofs.YthpblaoehlgpfaaGreat
open Go Go.RowKit Go.Proofs.YthpblaoehlgpfaaGreat.K Go.Proofs.YthpblaoehlgpfaaGreat.M

theorem srv_awake1 : curveL (⟨1, 10, 2, [], []⟩ : Ln) 1 [(⟨[0, 15], 1, 0⟩ : Cv), (⟨[0, 15], 1, 0⟩ : Cv)] [⟨15, 15⟩, ⟨15, 15⟩] = (⟨[0, 0, 0, INF], 1, 0⟩, 0) := by kernel_rfl
theorem srv_awake2 : srvE (⟨1, 10, 2, [], []⟩ : Ln) 4 ([⟨0, 0, 15⟩, ⟨1, 0, 15⟩] : List Pkt) = 0 := by kernel_rfl
theorem srv_awake3 : (srvL (⟨1, 10, 2, [], []⟩ : Ln) 4 ([⟨0, 0, 15⟩, ⟨1, 0, 15⟩] : List Pkt)).1 = [1, 2] := by kernel_rfl
theorem srv_awake4 : chkL (⟨1, 10, 2, [], []⟩ : Ln) = 0 := by kernel_rfl
theorem srv_awake5 : chkL ⟨0, 0, 0, [], []⟩ = 9 := by kernel_rfl

set_option maxHeartbeats 1000000 in
theorem Awake22_C {R : Ro} (w0 : World) (E : List Ent) : K.Fn Tryz.prog 18 [] w0 R E (fun v R' E' => v = .bool true ∧ E.Sublist E') := by
 refine fE 57 Tryz.func18 ?_
 refine zQ (zG (zR 1 rfl (zN (zU (zQ (zG ?_))))))
 -- build
 refine WG.y rfl rfl qD (Yl.build (parts := [(0, .const (.int .i64 1)), (1, .const (.int .i64 10)), (2, .const (.int .i64 2))]) tab_ok rfl rfl rfl rfl (fun _ => rfl) rfl rfl) ?_
 refine zA fun b1 => ?_
 refine zE 0 ?_
 refine zN (zU (zQ (zG ?_)))
 refine WL.ef rfl rfl qD (Ef.buildSliceD (enc := encI) (parts := [.const (.int .i64 0), .const (.int .i64 15)]) [_, _] tab_ok rfl rfl rfl rfl rfl rfl rfl rfl qD qD (fun a8 => ?_))
 refine WL.freeze (enc := encI) (xs := ([0, 15] : List Int)) 0 rfl ?_
 intro R1 hR1 hc1
 -- build
 refine WG.y rfl rfl qD (Yl.build (parts := [(0, .tmp 8), (1, .const (.int .i64 1))]) tab_ok rfl rfl rfl rfl (fun _ => rfl) rfl rfl) ?_
 refine zA fun b2 => ?_
 refine zE 0 ?_
 refine zN (zU (zQ (zG ?_)))
 refine yL (Rd.blk 1 rfl) ?_
 refine yL (Rd.blk 0 rfl) ?_
 refine yL (Rd.blk 0 rfl) ?_
 refine WL.ef rfl rfl qD (Ef.buildSlice (parts := [.tmp 12, .tmp 13]) tab_ok rfl rfl rfl rfl rfl rfl rfl qD qD (fun a14 => ?_))
 refine WL.freeze (enc := encC) (xs := ([⟨some ⟨a8, 0, none⟩, 2, (⟨[0, 15], 1, 0⟩ : Cv)⟩, ⟨some ⟨a8, 0, none⟩, 2, (⟨[0, 15], 1, 0⟩ : Cv)⟩] : List CvS)) 0 rfl ?_
 intro R2 hR2 hlc
 -- build
 refine WG.y rfl rfl qD (Yl.build (parts := [(0, .const (.int .i64 15)), (1, .const (.int .i64 15))]) tab_ok rfl rfl rfl rfl (fun _ => rfl) rfl rfl) ?_
 -- build
 refine WG.y rfl rfl qD (Yl.build (parts := [(0, .const (.int .i64 15)), (1, .const (.int .i64 15))]) tab_ok rfl rfl rfl rfl (fun _ => rfl) rfl rfl) ?_
 refine WL.ef rfl rfl qD (Ef.buildSliceD (enc := encZ) (parts := [.tmp 15, .tmp 16]) [⟨_, _⟩, ⟨_, _⟩] tab_ok rfl rfl rfl rfl rfl rfl rfl rfl qD qD (fun a17 => ?_))
 refine WL.freeze (enc := encZ) (xs := ([⟨15, 15⟩, ⟨15, 15⟩] : List Sz)) 0 rfl ?_
 intro R3 hR3 hzz
 have hlc := hlc.mono hR3
 have hc1 := hc1.mono (hR2.trans hR3)
 have hls : ∀ x ∈ ([⟨some ⟨a8, 0, none⟩, 2, (⟨[0, 15], 1, 0⟩ : Cv)⟩, ⟨some ⟨a8, 0, none⟩, 2, (⟨[0, 15], 1, 0⟩ : Cv)⟩] : List CvS), RS R3 1 encI x.a x.cv.vals ∧ x.cv.vals.length ≤ 100000 := fun x hx => by
  simp only [List.mem_cons, List.not_mem_nil, or_false] at hx
  rcases hx with rfl | rfl
  ·exact ⟨hc1, by show 2 ≤ 100000; decide⟩
  ·exact ⟨hc1, by show 2 ≤ 100000; decide⟩
 refine WL.call en15 rfl rfl qD (CallOp.mkT rfl rfl rfl rfl) (CurveSrv1_C (L := (⟨1, 10, 2, [], []⟩ : Ln)) (ls := ([⟨some ⟨a8, 0, none⟩, 2, (⟨[0, 15], 1, 0⟩ : Cv)⟩, ⟨some ⟨a8, 0, none⟩, 2, (⟨[0, 15], 1, 0⟩ : Cv)⟩] : List CvS)) (z := ([⟨15, 15⟩, ⟨15, 15⟩] : List Sz)) (cls := 1) (aw := none) (at_ := none) (lw := 0) (cw := 0) (lt := 0) (ct := 0) rs_nil rfl rs_nil rfl hlc rfl (Nat.le_refl 2) hls hzz rfl (Nat.le_refl 2) rfl w0 _) ?_
 rintro _ R4 E3 hR4 ⟨f1, fc1, rfl, hf1, hsub2⟩
 rw [show List.map CvS.cv ([⟨some ⟨a8, 0, none⟩, 2, (⟨[0, 15], 1, 0⟩ : Cv)⟩, ⟨some ⟨a8, 0, none⟩, 2, (⟨[0, 15], 1, 0⟩ : Cv)⟩] : List CvS) = [(⟨[0, 15], 1, 0⟩ : Cv), (⟨[0, 15], 1, 0⟩ : Cv)] from rfl, srv_awake1] at hf1 ⊢
 refine WL.subE hsub2 ?_
 unfold cvV
 refine zR 3 rfl ?_
 refine zA fun b3 => ?_
 refine zE 0 ?_
 refine zR 1 rfl (zN (zU (zQ (zG ?_))))
 refine yL (Rd.blk 2 rfl) ?_
 -- build
 refine WG.y rfl rfl qD (Yl.build (parts := [(2, .const (.int .i64 15))]) tab_ok rfl rfl rfl rfl (fun _ => rfl) rfl rfl) ?_
 -- build
 refine WG.y rfl rfl qD (Yl.build (parts := [(0, .const (.int .i64 1)), (2, .const (.int .i64 15))]) tab_ok rfl rfl rfl rfl (fun _ => rfl) rfl rfl) ?_
 refine WL.ef rfl rfl qD (Ef.buildSliceD (enc := encP) (parts := [.tmp 23, .tmp 24]) [⟨_, _, _⟩, ⟨_, _, _⟩] tab_ok rfl rfl rfl rfl rfl rfl rfl rfl qD qD (fun a25 => ?_))
 refine WL.freeze (enc := encP) (xs := ([⟨0, 0, 15⟩, ⟨1, 0, 15⟩] : List Pkt)) 0 rfl ?_
 intro R5 hR5 hp
 have hf1 := hf1.mono hR5
 refine WL.call en13 rfl rfl qD (CallOp.mkT rfl rfl rfl rfl) (RunSrv_C (L := (⟨1, 10, 2, [], []⟩ : Ln)) (ps := ([⟨0, 0, 15⟩, ⟨1, 0, 15⟩] : List Pkt)) (ticks := 4) (aw := none) (at_ := none) (lw := 0) (cw := 0) (lt := 0) (ct := 0) hp rfl rs_nil rfl rs_nil rfl w0 _) ?_
 rintro _ R6 E4 hR6 ⟨da, oa, dc, oc, rows, rfl, hd, ho, hrw, hrx, hcp, hsub⟩
 refine WL.subE hsub ?_
 rw [srv_awake3] at hd ⊢
 rw [srv_awake2]
 have hf1 := hf1.mono hR6
 refine zR 3 rfl ?_
 refine zA fun b5 => ?_
 refine zE 0 ?_
 refine zR 1 rfl (zN (zU (zQ (zG ?_))))
 refine yL (Rd.blk 3 rfl) ?_
 refine WG.callV (v := .int .i64 0) en27 rfl rfl qD (CallOp.mk' rfl rfl rfl rfl) (fun _ => rfl) (fun hg => by
  have h := ChkSrv_V (R := R6) (L := (⟨1, 10, 2, [], []⟩ : Ln)) (aw := none) (at_ := none) (cw := 0) (ct := 0) rs_nil rfl rs_nil rfl
  rw [srv_awake4] at h
  exact h) ?_
 refine zR 2 rfl ?_
 refine WL.guardT rfl (by rfl) ?_
 refine yP ?_
 refine WL.guardT rfl (by rfl) ?_
 refine yP ?_
 refine yN ?_
 refine zR 1 rfl ?_
 refine WL.guardT rfl (by rfl) ?_
 refine yL (Rd.blk 1 rfl) ?_
 refine WL.guardT rfl (by rfl) ?_
 refine WL.ef rfl rfl qD (Ef.buildSliceD (enc := encI) (parts := [.const (.int .i64 0), .const (.int .i64 0), .const (.int .i64 0), .const (.int .i64 4611686018427387904)]) [_, _, _, _] tab_ok rfl rfl rfl rfl rfl rfl rfl rfl qD qD (fun a38 => ?_))
 refine WL.freeze (enc := encI) (xs := ([0, 0, 0, 4611686018427387904] : List Int)) 0 rfl ?_
 intro R7 hR7 hi1
 have hd := hd.mono hR7
 have hf1 := hf1.mono hR7
 refine WL.guardT rfl (by rfl) ?_
 -- build
 refine WG.y rfl rfl qD (Yl.build (parts := [(0, .tmp 38), (1, .const (.int .i64 1))]) tab_ok rfl rfl rfl rfl (fun _ => rfl) rfl rfl) ?_
 refine WL.guardT rfl (by rfl) ?_
 refine WG.callV (v := .bool true) en39 rfl rfl qD (CallOp.mk' rfl rfl rfl rfl) (fun _ => rfl) (fun hg => by
  have h := Same02_V (ca := fc1) (cb := 4) (p1 := 1) (i1 := 0) (p2 := 1) (i2 := 0) hf1 hi1
  rw [decide_eq_true ⟨rfl, rfl, rfl⟩] at h
  exact h) ?_
 refine yN ?_
 refine zR 1 rfl ?_
 refine WL.guardT rfl (by rfl) ?_
 refine yP ?_
 refine WL.guardT rfl (by rfl) ?_
 refine yP ?_
 refine yN ?_
 refine zR 1 rfl ?_
 refine WL.guardT rfl (by rfl) ?_
 refine yP ?_
 refine WL.guardT rfl (by rfl) ?_
 refine yL (Rd.add (Rd.blk 0 rfl) _) ?_
 refine WL.guardT rfl (by rfl) ?_
 refine WL.ef rfl rfl qD (Ef.buildSliceD (enc := encI) (parts := [.const (.int .i64 1), .const (.int .i64 2)]) [_, _] tab_ok rfl rfl rfl rfl rfl rfl rfl rfl qD qD (fun a49 => ?_))
 refine WL.freeze (enc := encI) (xs := ([1, 2] : List Int)) 0 rfl ?_
 intro R8 hR8 hl1
 have hd := hd.mono hR8
 refine WL.guardT rfl (by rfl) ?_
 refine WG.callV (v := .bool true) en51 rfl rfl qD (CallOp.mk' rfl rfl rfl rfl) (fun _ => rfl) (fun hg => by
  have h := Ints_V (ca := dc) (cb := 2) hd hl1
  exact h) ?_
 refine yN ?_
 refine zR 1 rfl ?_
 refine WL.guardT rfl (by rfl) ?_
 -- build
 refine WG.y rfl rfl qD (Yl.build (parts := []) tab_ok rfl rfl rfl rfl (fun _ => rfl) rfl rfl) ?_
 refine WL.guardT rfl (by rfl) ?_
 refine WG.callV (v := .int .i64 9) en27 rfl rfl qD (CallOp.mk' rfl rfl rfl rfl) (fun _ => rfl) (fun hg => by
  have h := ChkSrv_V (R := R8) (L := (⟨0, 0, 0, [], []⟩ : Ln)) (aw := none) (at_ := none) (cw := 0) (ct := 0) rs_nil rfl rs_nil rfl
  rw [srv_awake5] at h
  exact h) ?_
 refine WL.guardT rfl (by rfl) ?_
 refine yP ?_
 refine yN ?_
 refine zR 1 rfl (zN (zU (zT ?_)))
 refine WE.retF tab_ok [_] rfl ⟨rfl, trivial⟩ (hR1.trans (hR2.trans (hR3.trans (hR4.trans (hR5.trans (hR6.trans (hR7.trans hR8))))))) ?_
 exact ⟨rfl, qS⟩



set_option maxHeartbeats 1000000 in
theorem DrawC_C {R : Ro} {b : Nat} {a : Option Addr} {cp : Nat} {xs : List Int} {c : Nat} (w0 : World) (ha : RS R 1 encI a xs) : FnAt Tryz.prog 9 [.pointer (some ⟨b, 0, none⟩)] w0 R (srcE b a cp xs c)
  (fun v R' e' N => ∃ (L : Ln) (aw at_ : Option Addr) (cw ct cn : Nat), v = .agg #[.int .i64 L.kind, .int .i64 L.cap, .int .i64 L.n, .slice aw L.w.length cw, .slice at_ L.tb.length ct] ∧ RS R' 1 encI aw L.w ∧ RS R' 1 encI at_ L.tb ∧ DrawOk L ∧ L.tb.length ≤ ct ∧ e' = srcE b a cp xs cn ∧ N = []) := by
 intro F
 refine fE 59 Tryz.func9 ?_
 refine zQ (zG ?_)
 refine zA fun b2 => ?_
 refine zN (zU (zQ (zG (zR 1 rfl ?_))))
 refine WL.callAt 1 en23 rfl rfl qD (CallOp.mkT rfl rfl rfl rfl) rfl (N_C w0 ha (by constructor <;> decide) _) ?_
 rintro _ _ _ _ - ⟨rfl, rfl, rfl, rfl⟩
 have hm0 := mod_range (nth xs (c)) (show (1 : Int) ≤ 5 by decide)
 refine yA ?_
 refine zR 1 rfl ?_
 refine WL.callAt 1 en23 rfl rfl qD (CallOp.mkT rfl rfl rfl rfl) rfl (N_C w0 ha (by constructor <;> decide) _) ?_
 rintro _ _ _ _ - ⟨rfl, rfl, rfl, rfl⟩
 have hm1 := mod_range (nth xs (c + 1)) (show (1 : Int) ≤ 40 by decide)
 refine yA ?_
 -- build
 refine WG.y rfl rfl qD (Yl.build (parts := [(0, .tmp 7), (1, .tmp 10), (2, .const (.int .i64 3))]) tab_ok rfl rfl rfl rfl (fun _ => rfl) rfl rfl) ?_
 refine zA fun b3 => ?_
 refine zE 0 ?_
 refine zN (zU (zQ (zQ (zG (zR 1 rfl ?_)))))
 refine yL (Rd.add (Rd.blk 0 rfl) _) ?_
 refine zN (zU (zB (zQ (zG (zR 2 rfl (zN (zU ?_)))))))
 refine W.condE rfl (fun hc0 => ?_) (fun hc0 => ?_)
 ·try dsimp only at hc0
  refine zG (zR 1 rfl ?_)
  refine WL.callAt 2 en23 rfl rfl qD (CallOp.mkT rfl rfl rfl rfl) rfl (N_C w0 ha (by constructor <;> decide) _) ?_
  rintro _ _ _ _ - ⟨rfl, rfl, rfl, rfl⟩
  have hm2 := mod_range (nth xs (c + 1 + 1)) (show (1 : Int) ≤ 3 by decide)
  refine yA ?_
  refine zR 1 rfl ?_
  refine WL.callAt 2 en23 rfl rfl qD (CallOp.mkT rfl rfl rfl rfl) rfl (N_C w0 ha (by constructor <;> decide) _) ?_
  rintro _ _ _ _ - ⟨rfl, rfl, rfl, rfl⟩
  have hm3 := mod_range (nth xs (c + 1 + 1 + 1)) (show (1 : Int) ≤ 3 by decide)
  refine yA ?_
  refine zR 1 rfl ?_
  refine WL.callAt 2 en23 rfl rfl qD (CallOp.mkT rfl rfl rfl rfl) rfl (N_C w0 ha (by constructor <;> decide) _) ?_
  rintro _ _ _ _ - ⟨rfl, rfl, rfl, rfl⟩
  have hm4 := mod_range (nth xs (c + 1 + 1 + 1 + 1)) (show (1 : Int) ≤ 3 by decide)
  refine yA ?_
  refine WL.ef rfl rfl qD (Ef.buildSliceD (enc := encI) (parts := [.tmp 18, .tmp 21, .tmp 24]) [_, _, _] tab_ok rfl rfl rfl rfl rfl rfl rfl rfl qD qD (fun a25 => ?_))
  refine zR 1 rfl ?_
  refine zF 1 ?_
  refine WL.freeze (enc := encI) (xs := ([1 + mod (nth xs (c + 1 + 1)) 3, 1 + mod (nth xs (c + 1 + 1 + 1)) 3, 1 + mod (nth xs (c + 1 + 1 + 1 + 1)) 3] : List Int)) 0 rfl ?_
  intro R1 hR1 hwz
  refine zN (zL (zU (zQ (zG ?_))))
  refine yL (Rd.blk 0 rfl) ?_
  refine zE 1 ?_
  refine zN (zU (zT ?_))
  refine WE.retFS (E' := srcE b a cp xs (c + 1 + 1 + 1 + 1 + 1) :: F) qS tab_ok [_] rfl ⟨⟨_, _, _, rfl, rfl, rfl, qB, rfl⟩, trivial⟩ (by first | exact hR1 | exact RLe.refl _) ?_
  exact ⟨_, [], rfl, ⟨(1 + mod (nth xs c) 5), (3 + mod (nth xs (c + 1)) 40), 3, ([1 + mod (nth xs (c + 1 + 1)) 3, 1 + mod (nth xs (c + 1 + 1 + 1)) 3, 1 + mod (nth xs (c + 1 + 1 + 1 + 1)) 3] : List Int), []⟩, _, none, _, 0, _, rfl, hwz, rs_nil, ⟨by dsimp only; omega, rfl, by dsimp only; omega, fun h => by dsimp only at h; omega, fun _ => ⟨rfl, fun x hx => by simp only [List.mem_cons, List.not_mem_nil, or_false] at hx; rcases hx with rfl | rfl | rfl <;> omega, rfl⟩, fun h => by dsimp only at h; omega, fun h => by dsimp only at h; omega⟩, Nat.le_refl 0, rfl, rfl⟩
 ·try dsimp only at hc0
  refine zQ (zG (zR 2 rfl (zN (zU ?_))))
  refine W.condE rfl (fun hc1 => ?_) (fun hc1 => ?_)
  ·try dsimp only at hc1
   refine zG (zR 1 rfl ?_)
   refine WL.callAt 2 en23 rfl rfl qD (CallOp.mkT rfl rfl rfl rfl) rfl (N_C w0 ha (by constructor <;> decide) _) ?_
   rintro _ _ _ _ - ⟨rfl, rfl, rfl, rfl⟩
   have hm2 := mod_range (nth xs (c + 1 + 1)) (show (1 : Int) ≤ 50 by decide)
   refine yA ?_
   refine zR 1 rfl ?_
   refine WL.callAt 2 en23 rfl rfl qD (CallOp.mkT rfl rfl rfl rfl) rfl (N_C w0 ha (by constructor <;> decide) _) ?_
   rintro _ _ _ _ - ⟨rfl, rfl, rfl, rfl⟩
   have hm3 := mod_range (nth xs (c + 1 + 1 + 1)) (show (1 : Int) ≤ 50 by decide)
   refine yA ?_
   refine zR 1 rfl ?_
   refine WL.callAt 2 en23 rfl rfl qD (CallOp.mkT rfl rfl rfl rfl) rfl (N_C w0 ha (by constructor <;> decide) _) ?_
   rintro _ _ _ _ - ⟨rfl, rfl, rfl, rfl⟩
   have hm4 := mod_range (nth xs (c + 1 + 1 + 1 + 1)) (show (1 : Int) ≤ 50 by decide)
   refine yA ?_
   refine WL.ef rfl rfl qD (Ef.buildSliceD (enc := encI) (parts := [.tmp 31, .tmp 34, .tmp 37]) [_, _, _] tab_ok rfl rfl rfl rfl rfl rfl rfl rfl qD qD (fun a38 => ?_))
   refine zR 1 rfl ?_
   refine zF 1 ?_
   refine WL.freeze (enc := encI) (xs := ([1 + mod (nth xs (c + 1 + 1)) 50, 1 + mod (nth xs (c + 1 + 1 + 1)) 50, 1 + mod (nth xs (c + 1 + 1 + 1 + 1)) 50] : List Int)) 0 rfl ?_
   intro R1 hR1 hwz
   refine zN (zL (zU (zQ (zG ?_))))
   refine yL (Rd.blk 0 rfl) ?_
   refine zE 1 ?_
   refine zN (zU (zT ?_))
   refine WE.retFS (E' := srcE b a cp xs (c + 1 + 1 + 1 + 1 + 1) :: F) qS tab_ok [_] rfl ⟨⟨_, _, _, rfl, rfl, rfl, qB, rfl⟩, trivial⟩ (by first | exact hR1 | exact RLe.refl _) ?_
   exact ⟨_, [], rfl, ⟨(1 + mod (nth xs c) 5), (3 + mod (nth xs (c + 1)) 40), 3, ([1 + mod (nth xs (c + 1 + 1)) 50, 1 + mod (nth xs (c + 1 + 1 + 1)) 50, 1 + mod (nth xs (c + 1 + 1 + 1 + 1)) 50] : List Int), []⟩, _, none, _, 0, _, rfl, hwz, rs_nil, ⟨by dsimp only; omega, rfl, by dsimp only; omega, fun h => by dsimp only at h; omega, fun h => by dsimp only at h; omega, fun _ => ⟨rfl, fun x hx => by simp only [List.mem_cons, List.not_mem_nil, or_false] at hx; rcases hx with rfl | rfl | rfl <;> omega, rfl⟩, fun h => by dsimp only at h; omega⟩, Nat.le_refl 0, rfl, rfl⟩
  ·try dsimp only at hc1
   refine zQ (zG (zR 2 rfl (zN (zU ?_))))
   refine W.condE rfl (fun hc2 => ?_) (fun hc2 => ?_)
   ·try dsimp only at hc2
    refine zQ (zG ?_)
    refine WL.ef rfl rfl qD (Ef.buildSliceD (enc := encI) (parts := [.const (.int .i64 0), .const (.int .i64 1), .const (.int .i64 2)]) [_, _, _] tab_ok rfl rfl rfl rfl rfl rfl rfl rfl qD qD (fun a42 => ?_))
    refine zR 1 rfl ?_
    refine zF 1 ?_
    refine zN (zU (zQ (zG (zR 1 rfl ?_))))
    refine WL.callAt 3 en23 rfl rfl qD (CallOp.mkT rfl rfl rfl rfl) rfl (N_C w0 ha (by constructor <;> decide) _) ?_
    rintro _ _ _ _ - ⟨rfl, rfl, rfl, rfl⟩
    have hm8 := mod_range (nth xs (c + 1 + 1)) (show (1 : Int) ≤ 4 by decide)
    obtain ⟨k8, hk8⟩ := Int.eq_ofNat_of_zero_le hm8.1
    rw [hk8]
    refine zR 1 rfl (zN (zU (zB ?_)))
    refine W.loopK (β := Nat × List Int × Nat × Option Addr × Nat) (fun (k, ys, cn, a9, c9) => 3 ≤ ys.length ∧ ys.length + k ≤ 6 ∧ ∀ y ∈ ys, -1 ≤ y ∧ y ≤ 2) (fun (k, ys, cn, a9, c9) => [(4, true, .int .i64 (k : Int))]) [0, 2, 3] [_, _, _] [] _ rfl (fun (k, ys, cn, a9, c9) => [(0, .sl 3 1 a9 c9 (ys.map encI)), (1, .blk b3 [.int .i64 (1 + mod (nth xs c) 5), .int .i64 (3 + mod (nth xs (c + 1)) 40), .int .i64 3, .slice none 0 0, .slice a9 ys.length c9]), (3, srcE b a cp xs cn)]) (fun (k, ys, cn, a9, c9) => k) ((k8, [0, 1, 2], c + 1 + 1 + 1, some ⟨a42, 0, none⟩, 3)) (⟨by decide, by dsimp only [List.length_cons, List.length_nil]; omega, by decide⟩) ⟨rfl, rfl, rfl, rfl, rfl⟩ qS ?_
    intro zz hst
    obtain ⟨k, ys, cn, a9, c9⟩ := zz
    dsimp only [zipE, setAll, List.cons_append, List.nil_append, List.set_cons_zero, List.set_cons_succ] at hst ⊢
    obtain ⟨hy1, hy2, hy3⟩ := hst
    refine zQ (zQ (zG (zR 2 rfl (zN (zU ?_)))))
    refine W.condD rfl (fun hc3 => ?_) (fun hc3 => ?_)
    ·try dsimp only at hc3
     obtain ⟨k, rfl⟩ : ∃ j, k = j + 1 := ⟨k - 1, by omega⟩
     refine zK (zU (zQ (zB ?_)))
     refine W.regionH _ (ES := (.blk b2 [.int .i64 0, .int .i64 0, .int .i64 0, .slice none 0 0, .slice none 0 0] :: F)) mixed ?_
     refine tP 0 ?_
     refine tP 2 ?_
     refine WA.br2 (i := 1) (j := 3) qK ?_ ?_
     ·
      refine sL (Rd.add (Rd.blk 1 rfl) _) ?_
      refine WA.callAt 3 3 rfl qK en23 rfl rfl qD (CallOp.mkT rfl rfl rfl rfl) rfl (N_C w0 ha (by constructor <;> decide) _) ?_
      rintro _ _ _ _ - ⟨rfl, rfl, rfl, rfl⟩
      refine ⟨RLe.refl _, qS, ?_⟩
      have hm9 := mod_range (nth xs cn) (show (1 : Int) ≤ 4 by decide)
      refine tS 4 ?_
      refine WA.eff 5 rfl qK rfl rfl qD (Ef.buildSliceD (enc := encI) (parts := [.tmp 54]) [_] tab_ok rfl rfl rfl rfl rfl rfl rfl rfl qD qD (fun a55 => ?_))
      refine ⟨qR, qS, ?_⟩
      refine WA.eff 6 rfl (by kernel_rfl) rfl rfl (by decide) (Ef.appendD 1 0 tab_ok rfl rfl rfl rfl rfl rfl rfl rfl rfl rfl rfl (fun _ _ => rfl) (by simp only [List.length_cons, List.length_nil]; omega) (by simp only [List.length_cons, List.length_nil]; omega) (fun a56 c56 ha56 => ?_))
      refine ⟨qR, qS, ?_⟩
      refine tP 7 ?_
      refine zCF 8 2 ?_
      refine WA.done qK ?_
      refine zL (zU (zG (zR 1 rfl ?_)))
      refine yS ?_
      refine zR 1 rfl (zN ?_)
      refine WE.again ((k, ys ++ [mod (nth xs cn) 4 - 1], cn + 1, a56, c56)) (⟨by simp only [List.length_append, List.length_cons, List.length_nil]; omega, by simp only [List.length_append, List.length_cons, List.length_nil]; omega, fun y hy => by rcases List.mem_append.1 hy with h | h; exact hy3 y h; have := List.mem_singleton.1 h; omega⟩) (by (try dsimp only); omega) ⟨vint (by omega), rfl, rfl, rfl, rfl⟩ (RLe.refl _) qS
     ·
      refine WS.callAt 3 rfl en23 rfl rfl qD (CallOp.mkT rfl rfl rfl rfl) rfl (N_C w0 ha (by constructor <;> decide) _) ?_
      rintro _ _ _ _ - ⟨rfl, rfl, rfl, rfl⟩
      refine ⟨RLe.refl _, qS, ?_⟩
      have hm9 := mod_range (nth xs cn) (show (1 : Int) ≤ 4 by decide)
      refine tS 4 ?_
      refine WA.br2 (i := 1) (j := 5) qK ?_ ?_
      ·
       refine sL (Rd.add (Rd.blk 1 rfl) _) ?_
       refine WA.eff 5 rfl qK rfl rfl qD (Ef.buildSliceD (enc := encI) (parts := [.tmp 54]) [_] tab_ok rfl rfl rfl rfl rfl rfl rfl rfl qD qD (fun a55 => ?_))
       refine ⟨qR, qS, ?_⟩
       refine WA.eff 6 rfl (by kernel_rfl) rfl rfl (by decide) (Ef.appendD 1 0 tab_ok rfl rfl rfl rfl rfl rfl rfl rfl rfl rfl rfl (fun _ _ => rfl) (by simp only [List.length_cons, List.length_nil]; omega) (by simp only [List.length_cons, List.length_nil]; omega) (fun a56 c56 ha56 => ?_))
       refine ⟨qR, qS, ?_⟩
       refine tP 7 ?_
       refine zCF 8 2 ?_
       refine WA.done qK ?_
       refine zL (zU (zG (zR 1 rfl ?_)))
       refine yS ?_
       refine zR 1 rfl (zN ?_)
       refine WE.again ((k, ys ++ [mod (nth xs cn) 4 - 1], cn + 1, a56, c56)) (⟨by simp only [List.length_append, List.length_cons, List.length_nil]; omega, by simp only [List.length_append, List.length_cons, List.length_nil]; omega, fun y hy => by rcases List.mem_append.1 hy with h | h; exact hy3 y h; have := List.mem_singleton.1 h; omega⟩) (by (try dsimp only); omega) ⟨vint (by omega), rfl, rfl, rfl, rfl⟩ (RLe.refl _) qS
      ·
       refine WS.eff rfl rfl rfl qD (Ef.buildSliceD (enc := encI) (parts := [.tmp 54]) [_] tab_ok rfl rfl rfl rfl rfl rfl rfl rfl qD qD (fun a55 => ?_))
       refine ⟨qR, qS, ?_⟩
       refine lL 1 (Rd.add (Rd.blk 2 rfl) _) ?_
       refine WA.eff 6 rfl (by kernel_rfl) rfl rfl (by decide) (Ef.appendD 1 0 tab_ok rfl rfl rfl rfl rfl rfl rfl rfl rfl rfl rfl (fun _ _ => rfl) (by simp only [List.length_cons, List.length_nil]; omega) (by simp only [List.length_cons, List.length_nil]; omega) (fun a56 c56 ha56 => ?_))
       refine ⟨qR, qS, ?_⟩
       refine tP 7 ?_
       refine zCF 8 2 ?_
       refine WA.done qK ?_
       refine zL (zU (zG (zR 1 rfl ?_)))
       refine yS ?_
       refine zR 1 rfl (zN ?_)
       refine WE.again ((k, ys ++ [mod (nth xs cn) 4 - 1], cn + 1, a56, c56)) (⟨by simp only [List.length_append, List.length_cons, List.length_nil]; omega, by simp only [List.length_append, List.length_cons, List.length_nil]; omega, fun y hy => by rcases List.mem_append.1 hy with h | h; exact hy3 y h; have := List.mem_singleton.1 h; omega⟩) (by (try dsimp only); omega) ⟨vint (by omega), rfl, rfl, rfl, rfl⟩ (RLe.refl _) qS
    ·try dsimp only at hc3
     refine W.cap 0 rfl ?_
     intro hcpT
     rw [List.length_map] at hcpT
     refine W.freeze (enc := encI) (xs := ys) 0 rfl ?_
     intro R1 hR1 hwz
     refine zX ?_
     refine wx (wx (zY (zL (zU (zQ (zG ?_))))))
     refine yL (Rd.blk 0 rfl) ?_
     refine zE 1 ?_
     refine zN (zU (zT ?_))
     refine WE.retFS (E' := srcE b a cp xs (cn) :: F) qS tab_ok [_] rfl ⟨⟨_, _, _, rfl, rfl, rfl, qB, rfl⟩, trivial⟩ (by first | exact hR1 | exact RLe.refl _) ?_
     exact ⟨_, [], rfl, ⟨(1 + mod (nth xs c) 5), (3 + mod (nth xs (c + 1)) 40), 3, [], ys⟩, none, _, 0, _, _, rfl, rs_nil, hwz, ⟨by dsimp only; omega, rfl, by dsimp only; omega, fun h => by dsimp only at h; omega, fun h => by dsimp only at h; omega, fun h => by dsimp only at h; omega, fun _ => ⟨rfl, hy1, by dsimp only; omega, hy3⟩⟩, hcpT, rfl, rfl⟩
   ·try dsimp only at hc2
    refine zK (zL (zU (zQ (zG ?_))))
    refine yL (Rd.blk 0 rfl) ?_
    refine zE 1 ?_
    refine zN (zU (zT ?_))
    refine WE.retFS (E' := srcE b a cp xs (c + 1 + 1) :: F) qS tab_ok [_] rfl ⟨⟨_, _, _, rfl, rfl, rfl, qB, rfl⟩, trivial⟩ (by first | exact hR1 | exact RLe.refl _) ?_
    exact ⟨_, [], rfl, ⟨(1 + mod (nth xs c) 5), (3 + mod (nth xs (c + 1)) 40), 3, [], []⟩, none, none, 0, 0, _, rfl, rs_nil, rs_nil, ⟨by dsimp only; omega, rfl, by dsimp only; omega, fun _ => ⟨rfl, rfl⟩, fun h => by dsimp only at h; omega, fun h => by dsimp only at h; omega, fun h => by dsimp only at h; omega⟩, Nat.le_refl 0, rfl, rfl⟩



theorem EqualI_V {R : Ro} {a b : Option Addr} {ca cb lx ly : Nat} {xs ys : List Int} (ha : RS R 1 encI a xs) (hx : xs.length = lx) (hb : RS R 1 encI b ys) (hy : ys.length = ly) :
  FnV Tryz.prog 63 [.slice a lx ca, .slice b ly cb] R (.bool (decide (xs = ys))) := by
 subst hx
 subst hy
 have hla := ha.len
 have hlb := hb.len
 refine Fn.toV (fun w0 E => ?_)
 refine fE 26 Tryz.func63 ?_
 refine zQ (zG (zR 1 rfl (zN (zU (zQ (zQ (zG (zR 5 rfl (zN (zU ?_))))))))))
 refine W.condN rfl (fun hc0 => ?_) (fun hc0 => ?_)
 ·try dsimp only at hc0
  refine zQ (zG (zR 1 rfl (zN (zU (zT (wt ?_))))))
  refine sE (E := E) ?_
  refine WE.retF tab_ok [_] rfl ⟨rfl, trivial⟩ (RLe.refl _) ?_
  exact ⟨congrArg Value.bool (by symm; apply decide_eq_false; rintro rfl; exact hc0 rfl), rfl⟩
 ·try dsimp only at hc0
  refine zK (zU (zQ (zQ (zG (zR 3 rfl (zN (zU (zB ?_))))))))
  refine W.loopK (β := Nat) (fun k => k ≤ xs.length ∧ ∀ i, i < k → nth xs i = nth ys i) (fun k => [(13, true, .int .i64 (k : Int))]) [0, 1, 12] [_, _, _] [] _ rfl (fun k => []) (fun k => xs.length - k) (0) (⟨Nat.zero_le _, fun i hi => absurd hi (Nat.not_lt_zero i)⟩) ⟨rfl, rfl, rfl, rfl, rfl⟩ qS ?_
  intro st hst
  dsimp only [zipE, setAll, List.cons_append, List.nil_append, List.set_cons_zero, List.set_cons_succ] at hst ⊢
  obtain ⟨hk, hpre⟩ := hst
  refine zQ (zG (zR 1 rfl (zN (zU (zQ ?_)))))
  refine W.condD rfl (fun hc1 => ?_) (fun hc1 => ?_)
  ·try dsimp only at hc1
   refine zK (zU (zQ (zB (zQ (zG (zR 2 rfl (zN (zU (zQ ?_)))))))))
   refine W.regionQ _ mixed qK ?_
   refine zR 2 rfl ?_
   refine WG.y rfl rfl qD (Yl.indexN tab_ok rfl rfl rfl rfl rfl rfl (fun _ => rfl) qN qH) ?_
   refine yR ?_
   refine zR 2 rfl ?_
   refine WG.y rfl rfl qD (Yl.indexN tab_ok rfl rfl rfl rfl rfl rfl (fun _ => rfl) qN qH) ?_
   refine yR ?_
   refine zR 1 rfl (zN (zU ?_))
   refine W.condN rfl (fun hc2 => ?_) (fun hc2 => ?_)
   ·try dsimp only at hc2
    refine zQ (zG (zR 1 rfl (zN (zU (zT (wb (wt (wt (wb (wt ?_))))))))))
    refine sE (E := E) ?_
    refine WE.retF tab_ok [_] rfl ⟨rfl, trivial⟩ (RLe.refl _) ?_
    exact ⟨congrArg Value.bool (by symm; apply decide_eq_false; rintro rfl; exact hc2 rfl), rfl⟩
   ·try dsimp only at hc2
    refine zK (zL (zU (zG ?_)))
    refine yA ?_
    refine zR 1 rfl (zN ?_)
    refine WE.again (st + 1) (⟨by omega, fun i hi => by
     rcases Nat.lt_or_ge i st with h | h
     ·exact hpre i h
     ·obtain rfl : i = st := by omega
      exact hc2⟩) (by (try dsimp only); omega) ⟨rfl, rfl, rfl, rfl, rfl⟩ (RLe.refl _) qS
  ·try dsimp only at hc1
   refine zX ?_
   refine wx (wx (zY (zU (zQ (zG (zR 1 rfl (zN (zU (zT ?_)))))))))
   refine sE (E := E) ?_
   refine WE.retF tab_ok [_] rfl ⟨rfl, trivial⟩ (RLe.refl _) ?_
   exact ⟨congrArg Value.bool (by symm; apply decide_eq_true; exact nth_ext qO (fun i hi => hpre i qO)), rfl⟩

theorem IntsL_V {R : Ro} {a b : Option Addr} {ca cb lx ly : Nat} {xs ys : List Int} (ha : RS R 1 encI a xs) (hx : xs.length = lx) (hb : RS R 1 encI b ys) (hy : ys.length = ly) :
  FnV Tryz.prog 51 [.slice a lx ca, .slice b ly cb] R (.bool (decide (xs = ys))) := by
 subst hx; subst hy; exact Ints_V ha hb

theorem Within22_V {R : Ro} {a : Option Addr} {c l : Nat} {xs : List Int} {lo hi : Int} (ha : RS R 1 encI a xs) (hl : xs.length = l) :
  FnV Tryz.prog 62 [.slice a l c, .int .i64 lo, .int .i64 hi] R (.bool (withinB xs lo hi)) := by
 subst hl
 have hla := ha.len
 refine Fn.toV (fun w0 E => ?_)
 refine fE 28 Tryz.func62 ?_
 refine zQ (zG (zR 1 rfl (zN (zU (zQ (zQ (zG (zR 1 rfl (zN (zU (zB ?_)))))))))))
 refine W.loopK (β := Nat) (fun k => k ≤ xs.length ∧ ∀ i, i < k → lo ≤ nth xs i ∧ nth xs i ≤ hi) (fun k => [(7, true, .int .i64 (k : Int))]) [0, 1, 2] [_, _, _] [] _ rfl (fun k => []) (fun k => xs.length - k) (0) (⟨Nat.zero_le _, fun i hi => absurd hi (Nat.not_lt_zero i)⟩) ⟨rfl, rfl, rfl, rfl, rfl⟩ qS ?_
 intro st hst
 dsimp only [zipE, setAll, List.cons_append, List.nil_append, List.set_cons_zero, List.set_cons_succ] at hst ⊢
 obtain ⟨hk, hpre⟩ := hst
 refine zQ (zQ (zG (zR 4 rfl (zN (zU ?_)))))
 refine W.condD rfl (fun hc0 => ?_) (fun hc0 => ?_)
 ·try dsimp only at hc0
  refine zK (zU (zQ (zB (zQ (zG (zR 2 rfl ?_))))))
  refine WG.y rfl rfl qD (Yl.indexN tab_ok rfl rfl rfl rfl rfl rfl (fun _ => rfl) qN qH) ?_
  refine yR ?_
  refine zR 3 rfl ?_
  refine yP ?_
  refine yP ?_
  refine WG.y rfl rfl (by decide) (Yl.indexN tab_ok rfl rfl rfl rfl rfl rfl qE (by intro hg; (try simp only [zk] at hg); (try dsimp only) <;> omega) (by intro hg; (try simp only [zk] at hg); first | exact qI)) ?_
  refine' WG.y rfl rfl qD (Yl.loadG tab_ok rfl rfl rfl qE ?r2 rfl ?h2 ?g2) ?_
  case r2 => ((apply RS.rdC; assumption))
  case h2 => rfl
  case g2 => (intro hg; (try simp only [zk] at hg); (try dsimp only); omega)
  refine yP ?_
  refine yP ?_
  refine yO ?_
  refine zN (zU ?_)
  refine W.cond rfl (fun hc1 => ?_) (fun hc1 => ?_)
  ·try simp only [zk] at hc1
   refine zQ (zG (zR 1 rfl (zN (zU (zT (wb (wt (wt (wb (wt ?_))))))))))
   refine sE (E := E) ?_
   refine WE.retF tab_ok [_] rfl ⟨rfl, trivial⟩ (RLe.refl _) ?_
   exact ⟨congrArg Value.bool (within_no (k := st) qO qO).symm, rfl⟩
  ·try simp only [zk] at hc1
   refine zK (zL (zU (zG (zR 1 rfl ?_))))
   refine yA ?_
   refine zR 1 rfl (zN ?_)
   refine WE.again (st + 1) (⟨by omega, fun i hi => by
    rcases Nat.lt_or_ge i st with h | h
    ·exact hpre i h
    ·obtain rfl : i = st := by omega
     omega⟩) (by (try dsimp only); omega) ⟨rfl, rfl, rfl, rfl, rfl⟩ (RLe.refl _) qS
 ·try dsimp only at hc0
  refine zX ?_
  refine wx (wx (zY (zU (zQ (zG (zR 1 rfl (zN (zU (zT ?_)))))))))
  refine sE (E := E) ?_
  refine WE.retF tab_ok [_] rfl ⟨rfl, trivial⟩ (RLe.refl _) ?_
  exact ⟨congrArg Value.bool (within_yes (fun i hi => hpre i qO)).symm, rfl⟩

theorem SameS_V {R : Ro} {aw at_ bw bt : Option Addr} {lw cw lt ct mw dw mt dt : Nat} {L M : Ln} (hw : RS R 1 encI aw L.w) (hlw : L.w.length = lw) (ht : RS R 1 encI at_ L.tb) (hlt : L.tb.length = lt) (hw2 : RS R 1 encI bw M.w) (hmw : M.w.length = mw) (ht2 : RS R 1 encI bt M.tb) (hmt : M.tb.length = mt) : FnV Tryz.prog 29 [.agg #[.int .i64 L.kind, .int .i64 L.cap, .int .i64 L.n, .slice aw lw cw, .slice at_ lt ct], .agg #[.int .i64 M.kind, .int .i64 M.cap, .int .i64 M.n, .slice bw mw dw, .slice bt mt dt]] R (.bool (sameLn L M)) := by
 refine Fn.toV (fun w0 E => ?_)
 refine fE 38 Tryz.func29 ?_
 refine zQ (zG ?_)
 refine zO fun b2 => ?_
 refine zO fun b3 => ?_
 refine zR 1 rfl (zN (zU (zQ (zG (zR 1 rfl ?_)))))
 refine yL (Rd.add (Rd.blk 1 rfl) _) ?_
 refine zR 1 rfl ?_
 refine yL (Rd.add (Rd.blk 0 rfl) _) ?_
 refine zR 2 rfl ?_
 refine yP ?_
 refine yG (Rd.addC (Rd.blkC 1 rfl) _) ?_
 refine yP ?_
 refine yG (Rd.addC (Rd.blkC 0 rfl) _) ?_
 refine yP ?_
 refine yN ?_
 refine zR 1 rfl ?_
 refine yP ?_
 refine yG (Rd.addC (Rd.blkC 1 rfl) _) ?_
 refine yP ?_
 refine yG (Rd.addC (Rd.blkC 0 rfl) _) ?_
 refine yP ?_
 refine yN ?_
 refine zR 1 rfl ?_
 refine yP ?_
 refine yG (Rd.addC (Rd.blkC 1 rfl) _) ?_
 refine yP ?_
 refine yG (Rd.addC (Rd.blkC 0 rfl) _) ?_
 refine WG.callV en63 rfl rfl qD (CallOp.mk' rfl rfl rfl rfl) qE (fun hg => EqualI_V hw hlw hw2 hmw) ?_
 refine yN ?_
 refine zR 1 rfl ?_
 refine yP ?_
 refine yG (Rd.addC (Rd.blkC 1 rfl) _) ?_
 refine yP ?_
 refine yG (Rd.addC (Rd.blkC 0 rfl) _) ?_
 refine WG.callV en63 rfl rfl qD (CallOp.mk' rfl rfl rfl rfl) qE (fun hg => EqualI_V ht hlt ht2 hmt) ?_
 refine yN ?_
 refine zR 1 rfl (zN (zU (zT ?_)))
 refine sE (E := E) ?_
 refine WE.retF tab_ok [_] rfl ⟨rfl, trivial⟩ (RLe.refl _) ?_
 exact ⟨rfl, rfl⟩

theorem Same22_V {R : Ro} {aw at_ bw bt : Option Addr} {lw cw lt ct mw dw mt dt : Nat} {L M : Ln} (hw : RS R 1 encI aw L.w) (hlw : L.w.length = lw) (ht : RS R 1 encI at_ L.tb) (hlt : L.tb.length = lt) (hw2 : RS R 1 encI bw M.w) (hmw : M.w.length = mw) (ht2 : RS R 1 encI bt M.tb) (hmt : M.tb.length = mt) : FnV Tryz.prog 30 [.agg #[.int .i64 L.kind, .int .i64 L.cap, .int .i64 L.n, .slice aw lw cw, .slice at_ lt ct], .agg #[.int .i64 M.kind, .int .i64 M.cap, .int .i64 M.n, .slice bw mw dw, .slice bt mt dt]] R (.bool (sameLn L M)) := by
 refine Fn.toV (fun w0 E => ?_)
 refine fE 38 Tryz.func30 ?_
 refine zQ (zG ?_)
 refine zO fun b2 => ?_
 refine zO fun b3 => ?_
 refine zR 1 rfl (zN (zU (zQ (zG (zR 1 rfl ?_)))))
 refine yL (Rd.add (Rd.blk 1 rfl) _) ?_
 refine zR 1 rfl ?_
 refine yL (Rd.add (Rd.blk 0 rfl) _) ?_
 refine zR 2 rfl ?_
 refine yP ?_
 refine yG (Rd.addC (Rd.blkC 1 rfl) _) ?_
 refine yP ?_
 refine yG (Rd.addC (Rd.blkC 0 rfl) _) ?_
 refine yP ?_
 refine yN ?_
 refine zR 1 rfl ?_
 refine yP ?_
 refine yG (Rd.addC (Rd.blkC 1 rfl) _) ?_
 refine yP ?_
 refine yG (Rd.addC (Rd.blkC 0 rfl) _) ?_
 refine yP ?_
 refine yN ?_
 refine zR 1 rfl ?_
 refine yP ?_
 refine yG (Rd.addC (Rd.blkC 1 rfl) _) ?_
 refine yP ?_
 refine yG (Rd.addC (Rd.blkC 0 rfl) _) ?_
 refine WG.callV en51 rfl rfl qD (CallOp.mk' rfl rfl rfl rfl) qE (fun hg => IntsL_V hw hlw hw2 hmw) ?_
 refine yN ?_
 refine zR 1 rfl ?_
 refine yP ?_
 refine yG (Rd.addC (Rd.blkC 1 rfl) _) ?_
 refine yP ?_
 refine yG (Rd.addC (Rd.blkC 0 rfl) _) ?_
 refine WG.callV en51 rfl rfl qD (CallOp.mk' rfl rfl rfl rfl) qE (fun hg => IntsL_V ht hlt ht2 hmt) ?_
 refine yN ?_
 refine zR 1 rfl (zN (zU (zT ?_)))
 refine sE (E := E) ?_
 refine WE.retF tab_ok [_] rfl ⟨rfl, trivial⟩ (RLe.refl _) ?_
 exact ⟨rfl, rfl⟩

theorem Chk22_V {R : Ro} {aw at_ : Option Addr} {lw cw lt ct : Nat} {L : Ln} (hw : RS R 1 encI aw L.w) (hlw : L.w.length = lw) (ht : RS R 1 encI at_ L.tb) (hlt : L.tb.length = lt) : FnV Tryz.prog 28 [.agg #[.int .i64 L.kind, .int .i64 L.cap, .int .i64 L.n, .slice aw lw cw, .slice at_ lt ct]] R (.int .i64 (chkL L)) := by
 refine Fn.toV (fun w0 E => ?_)
 refine fE 101 Tryz.func28 ?_
 refine zQ (zG ?_)
 refine zO fun b1 => ?_
 refine zR 1 rfl (zN (zU (zQ (zQ (zG (zR 1 rfl ?_))))))
 refine yL (Rd.add (Rd.blk 0 rfl) _) ?_
 refine zR 2 rfl ?_
 refine yP ?_
 refine yG (Rd.addC (Rd.blkC 0 rfl) _) ?_
 refine yP ?_
 refine yO ?_
 refine zN (zU ?_)
 refine W.cond rfl (fun hc0 => ?_) (fun hc0 => ?_)
 ·try simp only [zk] at hc0
  refine zQ (zG (zR 1 rfl (zN (zU (zT (wt ?_))))))
  refine sE (E := E) ?_
  refine WE.retF tab_ok [_] rfl ⟨rfl, trivial⟩ (RLe.refl _) ?_
  exact ⟨congrArg (Value.int IntKind.i64) (if_pos hc0).symm, rfl⟩
 ·try simp only [zk] at hc0
  refine zK (zU (zQ (zQ (zG (zR 1 rfl ?_)))))
  refine yL (Rd.add (Rd.blk 0 rfl) _) ?_
  refine zR 2 rfl ?_
  refine yP ?_
  refine yG (Rd.addC (Rd.blkC 0 rfl) _) ?_
  refine yP ?_
  refine yO ?_
  refine zR 1 rfl ?_
  refine yP ?_
  refine yG (Rd.addC (Rd.blkC 0 rfl) _) ?_
  refine yP ?_
  refine yO ?_
  refine zR 1 rfl ?_
  refine yP ?_
  refine yG (Rd.addC (Rd.blkC 0 rfl) _) ?_
  refine yP ?_
  refine yO ?_
  refine zN (zU ?_)
  refine W.cond rfl (fun hc1 => ?_) (fun hc1 => ?_)
  ·try simp only [zk] at hc1
   refine zQ (zG (zR 1 rfl (zN (zU (zT (wt ?_))))))
   refine sE (E := E) ?_
   refine WE.retF tab_ok [_] rfl ⟨rfl, trivial⟩ (RLe.refl _) ?_
   exact ⟨congrArg (Value.int IntKind.i64) (by unfold chkL; rw [if_neg (by omega), if_pos (by omega)]), rfl⟩
  ·try simp only [zk] at hc1
   refine zK (zU (zQ (zG (zR 1 rfl ?_))))
   refine yL (Rd.add (Rd.blk 0 rfl) _) ?_
   refine zR 2 rfl ?_
   refine yP ?_
   refine yG (Rd.addC (Rd.blkC 0 rfl) _) ?_
   refine yP ?_
   refine yO ?_
   refine zR 1 rfl (zN (zU (zQ (zG (zR 1 rfl (zN (zU (zQ (zQ (zG (zR 1 rfl ?_)))))))))))
   refine yL (Rd.add (Rd.blk 0 rfl) _) ?_
   refine zR 1 rfl (zN (zU ?_))
   refine W.condE rfl (fun hc2 => ?_) (fun hc2 => ?_)
   ·try dsimp only at hc2
    refine zG (zR 1 rfl (zN (zU (zQ (zQ (zG (zR 2 rfl ?_)))))))
    refine yP ?_
    refine yG (Rd.addC (Rd.blkC 0 rfl) _) ?_
    refine yP ?_
    refine yP ?_
    refine yG (Rd.addC (Rd.blkC 0 rfl) _) ?_
    refine yP ?_
    refine yP ?_
    refine yP ?_
    refine yG (Rd.addC (Rd.blkC 0 rfl) _) ?_
    refine yP ?_
    refine WG.callV en62 rfl rfl qD (CallOp.mk' rfl rfl rfl rfl) qE (fun hg => Within22_V hw hlw) ?_
    refine yP ?_
    refine yO ?_
    refine yN ?_
    refine zN (zU ?_)
    refine W.cond rfl (fun hc3 => ?_) (fun hc3 => ?_)
    ·try simp only [zk] at hc3
     refine zQ (zG (zR 1 rfl (zN (zU (zT (wt ?_))))))
     refine sE (E := E) ?_
     refine WE.retF tab_ok [_] rfl ⟨rfl, trivial⟩ (RLe.refl _) ?_
     exact ⟨congrArg (Value.int IntKind.i64) (by rw [chk_spec (m := 6000) (by omega) hc0 hc1, hlw, hlt]; rw [if_pos hc3]), rfl⟩
    ·try simp only [zk] at hc3
     refine zK (zU (zQ (zQ (zG (zR 1 rfl ?_)))))
     refine yL (Rd.add (Rd.blk 0 rfl) _) ?_
     refine zR 2 rfl ?_
     refine yP ?_
     refine yG (Rd.addC (Rd.blkC 0 rfl) _) ?_
     refine yP ?_
     refine yP ?_
     refine yP ?_
     refine yP ?_
     refine yG (Rd.addC (Rd.blkC 0 rfl) _) ?_
     refine yP ?_
     refine yP ?_
     refine yO ?_
     refine yP ?_
     refine yP ?_
     refine yG (Rd.addC (Rd.blkC 0 rfl) _) ?_
     refine yP ?_
     refine yG (Rd.addC (Rd.blkC 0 rfl) _) ?_
     refine WG.y rfl rfl (by decide) (Yl.sub rfl rfl rfl qE (by intro hg; (try simp only [zk] at hg); constructor <;> (try dsimp only) <;> omega)) ?_
     refine WG.callV en62 rfl rfl qD (CallOp.mk' rfl rfl rfl rfl) qE (fun hg => Within22_V ht hlt) ?_
     refine yP ?_
     refine yO ?_
     refine yN ?_
     refine zN (zU ?_)
     refine W.cond rfl (fun hc4 => ?_) (fun hc4 => ?_)
     ·try simp only [zk] at hc4
      refine zQ (zG (zR 1 rfl (zN (zU (zT (wt ?_))))))
      refine sE (E := E) ?_
      refine WE.retF tab_ok [_] rfl ⟨rfl, trivial⟩ (RLe.refl _) ?_
      exact ⟨congrArg (Value.int IntKind.i64) (by rw [chk_spec (m := 6000) (by omega) hc0 hc1, hlw, hlt]; rw [if_neg (no_a hc3), if_pos hc4]), rfl⟩
     ·try simp only [zk] at hc4
      refine zK (zU (zQ (zQ (zG (zR 3 rfl ?_)))))
      refine yP ?_
      refine yG (Rd.addC (Rd.blkC 0 rfl) _) ?_
      refine yP ?_
      refine yP ?_
      refine yN ?_
      refine zR 1 rfl ?_
      refine yP ?_
      refine yG (Rd.addC (Rd.blkC 0 rfl) _) ?_
      refine yP ?_
      refine yP ?_
      refine yP ?_
      refine yG (Rd.addC (Rd.blkC 0 rfl) _) ?_
      refine yP ?_
      refine yP ?_
      refine yN ?_
      refine yO ?_
      refine zN (zU ?_)
      refine W.cond rfl (fun hc5 => ?_) (fun hc5 => ?_)
      ·try simp only [zk] at hc5
       refine zQ (zG (zR 1 rfl (zN (zU (zT (wt ?_))))))
       refine sE (E := E) ?_
       refine WE.retF tab_ok [_] rfl ⟨rfl, trivial⟩ (RLe.refl _) ?_
       exact ⟨congrArg (Value.int IntKind.i64) (by rw [chk_spec (m := 6000) (by omega) hc0 hc1, hlw, hlt]; rw [if_neg (no_a hc3), if_neg (no_b hc4), if_pos hc5]), rfl⟩
      ·try simp only [zk] at hc5
       refine zK (zU (zQ (zG (zR 1 rfl (zN (zU (zT ?_)))))))
       refine sE (E := E) ?_
       refine WE.retF tab_ok [_] rfl ⟨rfl, trivial⟩ (RLe.refl _) ?_
       exact ⟨congrArg (Value.int IntKind.i64) (by rw [chk_spec (m := 6000) (by omega) hc0 hc1, hlw, hlt]; rw [if_neg (no_a hc3), if_neg (no_b hc4), if_neg (no_c hc5)]), rfl⟩
   ·try dsimp only at hc2
    refine zK (zU (zQ (zQ (zG (zR 2 rfl ?_)))))
    refine yP ?_
    refine yG (Rd.addC (Rd.blkC 0 rfl) _) ?_
    refine yP ?_
    refine yP ?_
    refine yG (Rd.addC (Rd.blkC 0 rfl) _) ?_
    refine yP ?_
    refine yP ?_
    refine yP ?_
    refine yG (Rd.addC (Rd.blkC 0 rfl) _) ?_
    refine yP ?_
    refine WG.callV en62 rfl rfl qD (CallOp.mk' rfl rfl rfl rfl) qE (fun hg => Within22_V hw hlw) ?_
    refine yP ?_
    refine yO ?_
    refine yN ?_
    refine zN (zU ?_)
    refine W.cond rfl (fun hc6 => ?_) (fun hc6 => ?_)
    ·try simp only [zk] at hc6
     refine zQ (zG (zR 1 rfl (zN (zU (zT (wt ?_))))))
     refine sE (E := E) ?_
     refine WE.retF tab_ok [_] rfl ⟨rfl, trivial⟩ (RLe.refl _) ?_
     exact ⟨congrArg (Value.int IntKind.i64) (by rw [chk_spec (m := 20) (by omega) hc0 hc1, hlw, hlt]; rw [if_pos hc6]), rfl⟩
    ·try simp only [zk] at hc6
     refine zK (zU (zQ (zQ (zG (zR 1 rfl ?_)))))
     refine yL (Rd.add (Rd.blk 0 rfl) _) ?_
     refine zR 2 rfl ?_
     refine yP ?_
     refine yG (Rd.addC (Rd.blkC 0 rfl) _) ?_
     refine yP ?_
     refine yP ?_
     refine yP ?_
     refine yP ?_
     refine yG (Rd.addC (Rd.blkC 0 rfl) _) ?_
     refine yP ?_
     refine yP ?_
     refine yO ?_
     refine yP ?_
     refine yP ?_
     refine yG (Rd.addC (Rd.blkC 0 rfl) _) ?_
     refine yP ?_
     refine yG (Rd.addC (Rd.blkC 0 rfl) _) ?_
     refine WG.y rfl rfl (by decide) (Yl.sub rfl rfl rfl qE (by intro hg; (try simp only [zk] at hg); constructor <;> (try dsimp only) <;> omega)) ?_
     refine WG.callV en62 rfl rfl qD (CallOp.mk' rfl rfl rfl rfl) qE (fun hg => Within22_V ht hlt) ?_
     refine yP ?_
     refine yO ?_
     refine yN ?_
     refine zN (zU ?_)
     refine W.cond rfl (fun hc7 => ?_) (fun hc7 => ?_)
     ·try simp only [zk] at hc7
      refine zQ (zG (zR 1 rfl (zN (zU (zT (wt ?_))))))
      refine sE (E := E) ?_
      refine WE.retF tab_ok [_] rfl ⟨rfl, trivial⟩ (RLe.refl _) ?_
      exact ⟨congrArg (Value.int IntKind.i64) (by rw [chk_spec (m := 20) (by omega) hc0 hc1, hlw, hlt]; rw [if_neg (no_a hc6), if_pos hc7]), rfl⟩
     ·try simp only [zk] at hc7
      refine zK (zU (zQ (zQ (zG (zR 3 rfl ?_)))))
      refine yP ?_
      refine yG (Rd.addC (Rd.blkC 0 rfl) _) ?_
      refine yP ?_
      refine yP ?_
      refine yN ?_
      refine zR 1 rfl ?_
      refine yP ?_
      refine yG (Rd.addC (Rd.blkC 0 rfl) _) ?_
      refine yP ?_
      refine yP ?_
      refine yP ?_
      refine yG (Rd.addC (Rd.blkC 0 rfl) _) ?_
      refine yP ?_
      refine yP ?_
      refine yN ?_
      refine yO ?_
      refine zN (zU ?_)
      refine W.cond rfl (fun hc8 => ?_) (fun hc8 => ?_)
      ·try simp only [zk] at hc8
       refine zQ (zG (zR 1 rfl (zN (zU (zT (wt ?_))))))
       refine sE (E := E) ?_
       refine WE.retF tab_ok [_] rfl ⟨rfl, trivial⟩ (RLe.refl _) ?_
       exact ⟨congrArg (Value.int IntKind.i64) (by rw [chk_spec (m := 20) (by omega) hc0 hc1, hlw, hlt]; rw [if_neg (no_a hc6), if_neg (no_b hc7), if_pos hc8]), rfl⟩
      ·try simp only [zk] at hc8
       refine zK (zU (zQ (zG (zR 1 rfl (zN (zU (zT ?_)))))))
       refine sE (E := E) ?_
       refine WE.retF tab_ok [_] rfl ⟨rfl, trivial⟩ (RLe.refl _) ?_
       exact ⟨congrArg (Value.int IntKind.i64) (by rw [chk_spec (m := 20) (by omega) hc0 hc1, hlw, hlt]; rw [if_neg (no_a hc6), if_neg (no_b hc7), if_neg (no_c hc8)]), rfl⟩



theorem For_any {R : Ro} {pa wa : Option Addr} {pc wc l wl : Nat} {ps : List Pkt} {tb : List Int} (hp : RS R 3 encP pa ps) (hl : ps.length = l) (hwr : RS R 1 encI wa tb) (hwl : tb.length = wl) {cap classes ticks : Int} (hcl : 1 ≤ classes ∧ classes ≤ 6) (ht1 : 1 ≤ tb.length ∧ tb.length ≤ 40) (w0 : World) (E : List Ent) :
  K.Fn Tryz.prog 67 [.int .i64 cap, .int .i64 classes, .slice wa wl wc, .slice pa l pc, .int .i64 ticks] w0 R E (fun v R' E' => ∃ (da oa : Option Addr) (dc oc : Nat) (rows : List Sl), v = .tuple #[.agg #[.slice da (outOf (lrunE cap classes ticks ps) (mrun ps (slotCh ps cap tb) cap classes.toNat ticks.toNat ())).1.length dc, .slice oa rows.length oc], .int .i64 (lrunE cap classes ticks ps)] ∧ RS R' 1 encI da (outOf (lrunE cap classes ticks ps) (mrun ps (slotCh ps cap tb) cap classes.toNat ticks.toNat ())).1 ∧ RS R' 1 encS oa rows ∧ (∀ r ∈ rows, RS R' 1 encI r.a r.xs) ∧ rows.map Sl.xs = (outOf (lrunE cap classes ticks ps) (mrun ps (slotCh ps cap tb) cap classes.toNat ticks.toNat ())).2 ∧ E.Sublist E') := by
 subst hl
 subst hwl
 obtain ⟨nc, rfl⟩ := Int.eq_ofNat_of_zero_le (show 0 ≤ classes by omega)
 by_cases h : lrunE cap nc ticks ps = 0
 ·obtain ⟨hok, hvv, hck, c1, c2, c3, c4, c5, c6, hs, hf⟩ := lrunE_ok h
  obtain ⟨nt, rfl⟩ := Int.eq_ofNat_of_zero_le c5
  simp only [Int.toNat_natCast]
  have hrf := sim_runL (slot_fair hok.sorted) (fun p hp => (hs p hp).1) (classes := nc) (fun p hp => by have := hf p hp; omega) (slot_alike (cap := cap) (tb := tb) (by omega) hs) (cap := cap) (by omega) (sg := ()) (g := ()) (slot_start _) trivial nt
  intro x hm
  refine (For_ok (pc := pc) (wc := wc) hp hwr w0 ht1 h E x hm).mono ?_
  rintro e w' ⟨v, R', E', rfl, hR, hm', da, oa, dc, oc, rows, st, rfl, rfl, hd, h1, h2, h3, hsub⟩
  have hm1 := hm'.sub (RLe.refl _) hsub
  obtain ⟨R2, k1, k2, k3⟩ := hm1.freeze (i := 0) (enc := encS) (xs := rows) rfl
  obtain ⟨R3, j1, j2, j3⟩ := Mem.freezeRows (rows := rows) (G := E) k3
  unfold outOf
  rw [if_neg (by omega), h]
  refine ⟨_, R3, E, rfl, hR.trans (k1.trans j1), j3, da, oa, dc, oc, rows, ?_, ?_, k2.mono j1, j2, ?_, List.Sublist.refl _⟩
  ·dsimp only; rw [← hrf.1]
  ·dsimp only; rw [← hrf.1]; exact hd.mono (k1.trans j1)
  ·dsimp only; rw [← hrf.2]; exact h1
 ·refine (For_err hp hwr w0 h E).mono ?_
  rintro v R' E' hR ⟨rfl, rfl, hsub⟩
  unfold outOf
  rw [if_pos h]
  exact ⟨none, none, 0, 0, [], rfl, rs_nil, rs_nil, by simp, rfl, hsub⟩

theorem Run22_C {R : Ro} {pa : Option Addr} {pc l : Nat} {ps : List Pkt} (hp : RS R 3 encP pa ps) (hl : ps.length = l) {ticks : Int} {aw at_ : Option Addr} {lw cw lt ct : Nat} {L : Ln} (hw : RS R 1 encI aw L.w) (hlw : L.w.length = lw) (ht : RS R 1 encI at_ L.tb) (hlt : L.tb.length = lt) (w0 : World) (E : List Ent) : K.Fn Tryz.prog 33 [.agg #[.int .i64 L.kind, .int .i64 L.cap, .int .i64 L.n, .slice aw lw cw, .slice at_ lt ct], .slice pa l pc, .int .i64 ticks] w0 R E (fun v R' E' => ∃ (da oa : Option Addr) (dc oc : Nat) (rows : List Sl), v = .tuple #[.agg #[.slice da (srvL L ticks ps).1.length dc, .slice oa rows.length oc], .int .i64 (srvE L ticks ps)] ∧ RS R' 1 encI da (srvL L ticks ps).1 ∧ RS R' 1 encS oa rows ∧ (∀ r ∈ rows, RS R' 1 encI r.a r.xs) ∧ rows.map Sl.xs = (srvL L ticks ps).2 ∧ E.Sublist E') := by
 refine fE 72 Tryz.func33 ?_
 refine zQ (zG ?_)
 refine zO fun b3 => ?_
 refine zA fun b6 => ?_
 refine zR 1 rfl (zN (zU (zQ (zQ (zG ?_)))))
 refine yL (Rd.blk 1 rfl) ?_
 refine WG.callV en28 rfl rfl qD (CallOp.mk' rfl rfl rfl rfl) (fun _ => rfl) (fun hg => Chk22_V hw hlw ht hlt) ?_
 refine zR 1 rfl (zN (zU (zQ (zG (zR 2 rfl (zN (zU ?_)))))))
 refine W.condN rfl (fun hc0 => ?_) (fun hc0 => ?_)
 ·try dsimp only at hc0
  refine zQ (zG ?_)
  -- build
  refine WG.y rfl rfl qD (Yl.build (parts := []) tab_ok rfl rfl rfl rfl (fun _ => rfl) rfl rfl) ?_
  refine zR 1 rfl ?_
  refine zE 0 ?_
  refine zR 1 rfl (zN (zU (zT (wt ?_))))
  refine WE.retF tab_ok [_, _] rfl ⟨⟨_, _, _, rfl, rfl, rfl, qB, rfl⟩, rfl, trivial⟩ (by first | exact RLe.refl _ | exact hR2) ?_
  rw [show srvL L ticks ps = ([], []) from if_pos hc0, show srvE L ticks ps = chkL L from if_pos hc0]
  exact ⟨none, none, 0, 0, [], rfl, rs_nil, rs_nil, by simp, rfl, qS⟩
 ·try dsimp only at hc0
  refine zK (zU (zQ (zQ (zG (zR 1 rfl ?_)))))
  refine yL (Rd.add (Rd.blk 1 rfl) _) ?_
  refine zN (zU (zB (zQ (zG (zR 2 rfl (zN (zU ?_)))))))
  refine W.condE rfl (fun hc1 => ?_) (fun hc1 => ?_)
  ·try dsimp only at hc1
   refine zQ (zG (zR 1 rfl ?_))
   refine yL (Rd.add (Rd.blk 1 rfl) _) ?_
   refine zR 1 rfl ?_
   refine yL (Rd.add (Rd.blk 1 rfl) _) ?_
   refine zR 2 rfl ?_
   have e1 : outOf (lrunE L.cap L.n ticks ps) (mrun ps (prioCh ps L.n.toNat) L.cap L.n.toNat ticks.toNat ()) = srvL L ticks ps := by simp [srvL, runL, runE, sendL, outOf, hc1, hc0]
   have e2 : lrunE L.cap L.n ticks ps = srvE L ticks ps := by simp [srvE, runE, hc1, hc0]
   refine WL.call en64 rfl rfl qD (CallOp.mkT rfl rfl rfl rfl) (RPRun_any hp hl w0 _) ?_
   rintro _ R2 E2 hR2 ⟨da, oa, dc, oc, rows, rfl, hd, ho, hrw, hrx, hsub⟩
   refine WL.subE hsub ?_
   rw [e1] at hd hrx
   rw [e1, e2]
   refine zR 2 rfl ?_
   refine zE 0 ?_
   refine zR 1 rfl (zN (zU (zT (wb (wt ?_)))))
   refine WE.retF tab_ok [_, _] rfl ⟨⟨_, _, _, rfl, rfl, rfl, qB, rfl⟩, rfl, trivial⟩ (by first | exact RLe.refl _ | exact hR2) ?_
   exact ⟨da, oa, dc, oc, rows, rfl, hd, ho, hrw, hrx, qS⟩
  ·try dsimp only at hc1
   refine zQ (zG (zR 2 rfl (zN (zU ?_))))
   refine W.condE rfl (fun hc2 => ?_) (fun hc2 => ?_)
   ·try dsimp only at hc2
    refine zQ (zG (zR 1 rfl ?_))
    refine yL (Rd.add (Rd.blk 1 rfl) _) ?_
    refine zR 1 rfl ?_
    refine yL (Rd.add (Rd.blk 1 rfl) _) ?_
    refine zR 2 rfl ?_
    have e1 : outOf (wrunE 20 L.cap ticks L.w ps) (mrun ps (robinCh ps L.w) L.cap L.w.length ticks.toNat ((0, nth L.w 0) : Nat × Int)) = srvL L ticks ps := by simp [srvL, runL, runE, sendL, outOf, hc2, hc0]
    have e2 : wrunE 20 L.cap ticks L.w ps = srvE L ticks ps := by simp [srvE, runE, hc2, hc0]
    refine WL.call en65 rfl rfl qD (CallOp.mkT rfl rfl rfl rfl) (RRobin_any hp hl hw hlw w0 _) ?_
    rintro _ R2 E2 hR2 ⟨da, oa, dc, oc, rows, rfl, hd, ho, hrw, hrx, hsub⟩
    refine WL.subE hsub ?_
    rw [e1] at hd hrx
    rw [e1, e2]
    refine zR 2 rfl ?_
    refine zE 0 ?_
    refine zR 1 rfl (zN (zU (zT (wb (wt ?_)))))
    refine WE.retF tab_ok [_, _] rfl ⟨⟨_, _, _, rfl, rfl, rfl, qB, rfl⟩, rfl, trivial⟩ (by first | exact RLe.refl _ | exact hR2) ?_
    exact ⟨da, oa, dc, oc, rows, rfl, hd, ho, hrw, hrx, qS⟩
   ·try dsimp only at hc2
    refine zQ (zG (zR 2 rfl (zN (zU ?_))))
    refine W.condE rfl (fun hc3 => ?_) (fun hc3 => ?_)
    ·try dsimp only at hc3
     refine zQ (zG (zR 1 rfl ?_))
     refine yL (Rd.add (Rd.blk 1 rfl) _) ?_
     refine zR 1 rfl ?_
     refine yL (Rd.add (Rd.blk 1 rfl) _) ?_
     refine zR 2 rfl ?_
     have e1 : outOf (wrunE 6000 L.cap ticks L.w ps) (mrun ps (defCh ps L.w) L.cap L.w.length ticks.toNat (def0 L.w.length)) = srvL L ticks ps := by simp [srvL, runL, runE, sendL, outOf, hc3, hc0]
     have e2 : wrunE 6000 L.cap ticks L.w ps = srvE L ticks ps := by simp [srvE, runE, hc3, hc0]
     refine WL.call en66 rfl rfl qD (CallOp.mkT rfl rfl rfl rfl) (RDef_any hp hl hw hlw w0 _) ?_
     rintro _ R2 E2 hR2 ⟨da, oa, dc, oc, rows, rfl, hd, ho, hrw, hrx, hsub⟩
     refine WL.subE hsub ?_
     rw [e1] at hd hrx
     rw [e1, e2]
     refine zR 2 rfl ?_
     refine zE 0 ?_
     refine zR 1 rfl (zN (zU (zT (wb (wt ?_)))))
     refine WE.retF tab_ok [_, _] rfl ⟨⟨_, _, _, rfl, rfl, rfl, qB, rfl⟩, rfl, trivial⟩ (by first | exact RLe.refl _ | exact hR2) ?_
     exact ⟨da, oa, dc, oc, rows, rfl, hd, ho, hrw, hrx, qS⟩
    ·try dsimp only at hc3
     refine zQ (zG (zR 2 rfl (zN (zU ?_))))
     refine W.condE rfl (fun hc4 => ?_) (fun hc4 => ?_)
     ·try dsimp only at hc4
      refine zQ (zG (zR 1 rfl ?_))
      refine yL (Rd.add (Rd.blk 1 rfl) _) ?_
      refine zR 1 rfl ?_
      refine yL (Rd.add (Rd.blk 1 rfl) _) ?_
      refine zR 1 rfl ?_
      refine yL (Rd.add (Rd.blk 1 rfl) _) ?_
      refine zR 2 rfl ?_
      have e1 : outOf (lrunE L.cap L.n ticks ps) (mrun ps (slotCh ps L.cap L.tb) L.cap L.n.toNat ticks.toNat ()) = srvL L ticks ps := by simp [srvL, runL, runE, sendL, outOf, hc4, hc0]
      have e2 : lrunE L.cap L.n ticks ps = srvE L ticks ps := by simp [srvE, runE, hc4, hc0]
      refine WL.call en67 rfl rfl qD (CallOp.mkT rfl rfl rfl rfl) (For_any hp hl ht hlt ⟨(chk_facts hc0).2.2.2.1, (chk_facts hc0).2.2.2.2.1⟩ (chk_times hc0 hc4).1 w0 _) ?_
      rintro _ R2 E2 hR2 ⟨da, oa, dc, oc, rows, rfl, hd, ho, hrw, hrx, hsub⟩
      refine WL.subE hsub ?_
      rw [e1] at hd hrx
      rw [e1, e2]
      refine zR 2 rfl ?_
      refine zE 0 ?_
      refine zR 1 rfl (zN (zU (zT (wb (wt ?_)))))
      refine WE.retF tab_ok [_, _] rfl ⟨⟨_, _, _, rfl, rfl, rfl, qB, rfl⟩, rfl, trivial⟩ (by first | exact RLe.refl _ | exact hR2) ?_
      exact ⟨da, oa, dc, oc, rows, rfl, hd, ho, hrw, hrx, qS⟩
     ·try dsimp only at hc4
      have hk1 : L.kind = 1 := by have := (chk_facts hc0).1; omega
      refine zK (zL (zU (zQ (zG (zR 1 rfl ?_)))))
      refine yL (Rd.add (Rd.blk 1 rfl) _) ?_
      refine zR 1 rfl ?_
      refine yL (Rd.add (Rd.blk 1 rfl) _) ?_
      refine zR 2 rfl ?_
      have e1 : lineOut L.cap L.n ticks ps = srvL L ticks ps := by simp [srvL, runL, runE, sendL, lineOut, hk1, hc0]
      have e2 : lrunE L.cap L.n ticks ps = srvE L ticks ps := by simp [srvE, runE, hk1, hc0]
      refine WL.call en68 rfl rfl qD (CallOp.mkT rfl rfl rfl rfl) (RRun16_any hp hl w0 _) ?_
      rintro _ R2 E2 hR2 ⟨da, oa, dc, oc, rows, rfl, hd, ho, hrw, hrx, hsub⟩
      refine WL.subE hsub ?_
      rw [e1] at hd hrx
      rw [e1, e2]
      refine zR 2 rfl ?_
      refine zE 0 ?_
      refine zR 1 rfl (zN (zU (zT ?_)))
      refine WE.retF tab_ok [_, _] rfl ⟨⟨_, _, _, rfl, rfl, rfl, qB, rfl⟩, rfl, trivial⟩ (by first | exact RLe.refl _ | exact hR2) ?_
      exact ⟨da, oa, dc, oc, rows, rfl, hd, ho, hrw, hrx, qS⟩



def wgtF (hi : Int) (xs : List Int) (c : Nat) (i : Nat) : Int := 1 + mod (nth xs (c + i)) hi
theorem PickM_C {R : Ro} {b : Nat} {a : Option Addr} {cp : Nat} {xs : List Int} {c : Nat} (w0 : World) {n : Nat} {a2 : Option Addr} {c2 : Nat} {j : Nat} {F : List Ent} (ys : List Int) (hn : ys.length = n) (hn0 : 0 < n) (hn1 : n ≤ 1000000) (ha : RS R 1 encI a xs) (hy : F[j]? = some (.sl 3 1 a2 c2 (ys.map encI))) :
  K.Fn Tryz.prog 32 [.pointer (some ⟨b, 0, none⟩), .slice a2 n c2] w0 R (srcE b a cp xs c :: F) (fun v R' E' => ∃ e' N, E' = N ++ e' :: F ∧ RdPost (.int .i64 (nth ys (mod (nth xs c) n).toNat)) R (srcE b a cp xs (c + 1)) v R' e' N) := by
 subst hn; exact Pick_C w0 ha hy hn0 hn1



set_option maxHeartbeats 2000000 in
theorem BentL_C {R : Ro} {b : Nat} {a : Option Addr} {cp : Nat} {xs : List Int} {c : Nat} {aw at_ : Option Addr} {cw ct K : Nat} {L : Ln} (w0 : World) (ha : RS R 1 encI a xs) (hw : RS R 1 encI aw L.w) (ht : RS R 1 encI at_ L.tb) (hK : 42 ≤ K ∧ K ≤ 1000) (hlw : L.w.length ≤ K) (hlt : L.tb.length ≤ K) : FnAt Tryz.prog 26 [.pointer (some ⟨b, 0, none⟩), .agg #[.int .i64 L.kind, .int .i64 L.cap, .int .i64 L.n, .slice aw L.w.length cw, .slice at_ L.tb.length ct]] w0 R (srcE b a cp xs c) (fun v R' e' N => ∃ (M : Ln) (bw bt : Option Addr) (dw dt cn : Nat), v = .agg #[.int .i64 M.kind, .int .i64 M.cap, .int .i64 M.n, .slice bw M.w.length dw, .slice bt M.tb.length dt] ∧ RS R' 1 encI bw M.w ∧ RS R' 1 encI bt M.tb ∧ M.w.length ≤ K + 1 ∧ M.tb.length ≤ K + 1 ∧ e' = srcE b a cp xs cn ∧ N = []) := by
 intro F
 refine fE 84 Tryz.func26 ?_
 refine zQ (zG ?_)
 refine zO fun b3 => ?_
 refine zA fun b4 => ?_
 refine zN (zU ?_)
 refine W.seqCut (β := Option Addr × Nat × Option Addr × Nat) (fun (a8, c8, a12, c12) => (0 < L.w.length → a8.isSome = true) ∧ (0 < L.tb.length → a12.isSome = true)) (fun (a8, c8, a12, c12) => [(0, true, .pointer (some ⟨b, 0, none⟩)), (3, true, .pointer (some ⟨b3, 0, none⟩)), (4, true, .pointer (some ⟨b4, 0, none⟩))]) (fun _ => R) (fun (a8, c8, a12, c12) => .sl 3 1 a12 c12 ((L.tb).map encI) :: .sl 3 1 a8 c8 ((L.w).map encI) :: .blk b4 [.int .i64 0, .int .i64 0, .int .i64 0, .slice none 0 0, .slice none 0 0] :: .blk b3 [.int .i64 L.kind, .int .i64 L.cap, .int .i64 L.n, .slice a8 L.w.length c8, .slice a12 L.tb.length c12] :: srcE b a cp xs c :: F) ?_ ?_
 ·
  intro st hst
  obtain ⟨a8, c8, a12, c12⟩ := st
  obtain ⟨ha8, ha12⟩ := hst
  dsimp only at ha8 ha12 ⊢
  refine zQ (zQ (zG (zR 1 rfl ?_)))
  refine WL.callAt 4 en23 rfl rfl qD (CallOp.mkT rfl rfl rfl rfl) rfl (N_C w0 ha (by constructor <;> decide) _) ?_
  rintro _ _ _ _ - ⟨rfl, rfl, rfl, rfl⟩
  refine zN (zU (zB (zQ (zG (zR 2 rfl (zN (zU ?_)))))))
  refine W.condE rfl (fun hc0 => ?_) (fun hc0 => ?_)
  ·try dsimp only at hc0
   refine zG (zR 1 rfl ?_)
   refine WL.callAt 4 en23 rfl rfl qD (CallOp.mkT rfl rfl rfl rfl) rfl (N_C w0 ha (by constructor <;> decide) _) ?_
   rintro _ _ _ _ - ⟨rfl, rfl, rfl, rfl⟩
   refine zR 1 rfl ?_
   refine zF 3 ?_
   refine zN (zL (zU ?_))
   (refine W.freeze (enc := encI) 1 rfl ?_; intro R1 hR1 hz1; refine W.freeze (enc := encI) 0 rfl ?_; intro R2 hR2 hz2; have hz1 := hz1.mono hR2)
   refine zQ (zG ?_)
   refine yL (Rd.blk 1 rfl) ?_
   refine zE 0 ?_
   refine zN (zU (zT ?_))
   refine WE.retFS (E' := srcE b a cp xs (c + 1 + 1) :: F) qS tab_ok [_] rfl ⟨⟨_, _, _, rfl, rfl, rfl, qB, rfl⟩, trivial⟩ (hR1.trans hR2) ?_
   exact ⟨_, [], rfl, ⟨_, _, _, L.w, L.tb⟩, _, _, _, _, _, rfl, hz1, hz2, by (try dsimp only); (try simp only [List.length_set, List.length_append, List.length_cons, List.length_nil]); omega, by (try dsimp only); (try simp only [List.length_set, List.length_append, List.length_cons, List.length_nil]); omega, rfl, rfl⟩
  ·try dsimp only at hc0
   refine zQ (zG (zR 2 rfl (zN (zU ?_))))
   refine W.condE rfl (fun hc1 => ?_) (fun hc1 => ?_)
   ·try dsimp only at hc1
    refine zG (zR 1 rfl ?_)
    refine WL.ef rfl rfl qD (Ef.buildSliceD (enc := encI) (parts := [.const (.int .i64 0), .const (.int .i64 1), .const (.int .i64 4000), .const (.int .i64 4001)]) [_, _, _, _] tab_ok rfl rfl rfl rfl rfl rfl rfl rfl qD qD (fun a43 => ?_))
    refine WL.callAt 5 en32 rfl rfl qD (CallOp.mkT rfl rfl rfl rfl) rfl (PickM_C (j := 0) w0 ([0, 1, 4000, 4001] : List Int) rfl qD qD ha rfl) ?_
    rintro _ _ _ _ - ⟨rfl, rfl, rfl, rfl⟩
    refine zR 1 rfl ?_
    refine zF 4 ?_
    refine zN (zL (zU ?_))
    (refine W.freeze (enc := encI) 2 rfl ?_; intro R1 hR1 hz1; refine W.freeze (enc := encI) 1 rfl ?_; intro R2 hR2 hz2; have hz1 := hz1.mono hR2)
    refine zQ (zG ?_)
    refine yL (Rd.blk 2 rfl) ?_
    refine zE 1 ?_
    refine zN (zU (zT ?_))
    refine WE.retFS (E' := srcE b a cp xs (c + 1 + 1) :: F) qS tab_ok [_] rfl ⟨⟨_, _, _, rfl, rfl, rfl, qB, rfl⟩, trivial⟩ (hR1.trans hR2) ?_
    exact ⟨_, [], rfl, ⟨L.kind, nth ([0, 1, 4000, 4001] : List Int) (mod (nth xs (c + 1)) ((4 : Nat) : Int)).toNat, L.n, L.w, L.tb⟩, _, _, _, _, _, rfl, hz1, hz2, by (try dsimp only); (try simp only [List.length_set, List.length_append, List.length_cons, List.length_nil]); omega, by (try dsimp only); (try simp only [List.length_set, List.length_append, List.length_cons, List.length_nil]); omega, rfl, rfl⟩
   ·try dsimp only at hc1
    refine zQ (zG (zR 2 rfl (zN (zU ?_))))
    refine W.condE rfl (fun hc2 => ?_) (fun hc2 => ?_)
    ·try dsimp only at hc2
     refine zG (zR 1 rfl ?_)
     refine WL.ef rfl rfl qD (Ef.buildSliceD (enc := encI) (parts := [.const (.int .i64 0), .const (.int .i64 1), .const (.int .i64 2), .const (.int .i64 3), .const (.int .i64 6), .const (.int .i64 7)]) [_, _, _, _, _, _] tab_ok rfl rfl rfl rfl rfl rfl rfl rfl qD qD (fun a49 => ?_))
     refine WL.callAt 5 en32 rfl rfl qD (CallOp.mkT rfl rfl rfl rfl) rfl (PickM_C (j := 0) w0 ([0, 1, 2, 3, 6, 7] : List Int) rfl qD qD ha rfl) ?_
     rintro _ _ _ _ - ⟨rfl, rfl, rfl, rfl⟩
     refine zR 1 rfl ?_
     refine zF 4 ?_
     refine zN (zL (zU ?_))
     (refine W.freeze (enc := encI) 2 rfl ?_; intro R1 hR1 hz1; refine W.freeze (enc := encI) 1 rfl ?_; intro R2 hR2 hz2; have hz1 := hz1.mono hR2)
     refine zQ (zG ?_)
     refine yL (Rd.blk 2 rfl) ?_
     refine zE 1 ?_
     refine zN (zU (zT ?_))
     refine WE.retFS (E' := srcE b a cp xs (c + 1 + 1) :: F) qS tab_ok [_] rfl ⟨⟨_, _, _, rfl, rfl, rfl, qB, rfl⟩, trivial⟩ (hR1.trans hR2) ?_
     exact ⟨_, [], rfl, ⟨L.kind, L.cap, nth ([0, 1, 2, 3, 6, 7] : List Int) (mod (nth xs (c + 1)) ((6 : Nat) : Int)).toNat, L.w, L.tb⟩, _, _, _, _, _, rfl, hz1, hz2, by (try dsimp only); (try simp only [List.length_set, List.length_append, List.length_cons, List.length_nil]); omega, by (try dsimp only); (try simp only [List.length_set, List.length_append, List.length_cons, List.length_nil]); omega, rfl, rfl⟩
    ·try dsimp only at hc2
     refine zQ (zG (zR 2 rfl (zN (zU ?_))))
     refine W.condE rfl (fun hc3 => ?_) (fun hc3 => ?_)
     ·try dsimp only at hc3
      refine W.regionH _ (ES := []) mixed ?_
      refine tP 0 ?_
      refine tP 2 ?_
      refine WA.br2 (i := 1) (j := 3) qK ?_ ?_
      ·
       refine sL (Rd.add (Rd.blk 3 rfl) _) ?_
       refine WA.callAt 4 3 rfl qK en23 rfl rfl qD (CallOp.mkT rfl rfl rfl rfl) rfl (N_C w0 ha (by constructor <;> decide) _) ?_
       rintro _ _ _ _ - ⟨rfl, rfl, rfl, rfl⟩
       refine ⟨RLe.refl _, qS, ?_⟩
       refine WA.eff 4 rfl qK rfl rfl qD (Ef.buildSliceD (enc := encI) (parts := [.tmp 57]) [_] tab_ok rfl rfl rfl rfl rfl rfl rfl rfl qD qD (fun a58 => ?_))
       refine ⟨qR, qS, ?_⟩
       refine WA.eff 5 rfl (by kernel_rfl) rfl rfl (by decide) (Ef.appendD 2 0 tab_ok rfl rfl rfl rfl rfl rfl rfl rfl rfl rfl rfl (fun _ _ => rfl) (by simp only [List.length_cons, List.length_nil]; omega) (by simp only [List.length_cons, List.length_nil]; omega) (fun a59 c59 ha59 => ?_))
       refine ⟨qR, qS, ?_⟩
       refine tP 6 ?_
       refine zCF 7 4 ?_
       refine WA.done qK ?_
       refine zL (zU ?_)
       (refine W.freeze (enc := encI) 2 rfl ?_; intro R1 hR1 hz1; refine W.freeze (enc := encI) 1 rfl ?_; intro R2 hR2 hz2; have hz1 := hz1.mono hR2)
       refine zQ (zG ?_)
       refine yL (Rd.blk 2 rfl) ?_
       refine zE 1 ?_
       refine zN (zU (zT ?_))
       refine WE.retFS (E' := srcE b a cp xs (c + 1 + 1) :: F) qS tab_ok [_] rfl ⟨⟨_, _, _, rfl, rfl, rfl, qB, rfl⟩, trivial⟩ (hR1.trans hR2) ?_
       exact ⟨_, [], rfl, ⟨L.kind, L.cap, L.n, L.w ++ [_], L.tb⟩, _, _, _, _, _, by simp only [List.length_set, List.length_append, List.length_cons, List.length_nil]; rfl, hz1, hz2, by (try dsimp only); (try simp only [List.length_set, List.length_append, List.length_cons, List.length_nil]); omega, by (try dsimp only); (try simp only [List.length_set, List.length_append, List.length_cons, List.length_nil]); omega, rfl, rfl⟩
      ·
       refine WS.callAt 4 rfl en23 rfl rfl qD (CallOp.mkT rfl rfl rfl rfl) rfl (N_C w0 ha (by constructor <;> decide) _) ?_
       rintro _ _ _ _ - ⟨rfl, rfl, rfl, rfl⟩
       refine ⟨qR, qS, ?_⟩
       refine WA.br2 (i := 1) (j := 4) qK ?_ ?_
       ·
        refine sL (Rd.add (Rd.blk 3 rfl) _) ?_
        refine WA.eff 4 rfl qK rfl rfl qD (Ef.buildSliceD (enc := encI) (parts := [.tmp 57]) [_] tab_ok rfl rfl rfl rfl rfl rfl rfl rfl qD qD (fun a58 => ?_))
        refine ⟨qR, qS, ?_⟩
        refine WA.eff 5 rfl (by kernel_rfl) rfl rfl (by decide) (Ef.appendD 2 0 tab_ok rfl rfl rfl rfl rfl rfl rfl rfl rfl rfl rfl (fun _ _ => rfl) (by simp only [List.length_cons, List.length_nil]; omega) (by simp only [List.length_cons, List.length_nil]; omega) (fun a59 c59 ha59 => ?_))
        refine ⟨qR, qS, ?_⟩
        refine tP 6 ?_
        refine zCF 7 4 ?_
        refine WA.done qK ?_
        refine zL (zU ?_)
        (refine W.freeze (enc := encI) 2 rfl ?_; intro R1 hR1 hz1; refine W.freeze (enc := encI) 1 rfl ?_; intro R2 hR2 hz2; have hz1 := hz1.mono hR2)
        refine zQ (zG ?_)
        refine yL (Rd.blk 2 rfl) ?_
        refine zE 1 ?_
        refine zN (zU (zT ?_))
        refine WE.retFS (E' := srcE b a cp xs (c + 1 + 1) :: F) qS tab_ok [_] rfl ⟨⟨_, _, _, rfl, rfl, rfl, qB, rfl⟩, trivial⟩ (hR1.trans hR2) ?_
        exact ⟨_, [], rfl, ⟨L.kind, L.cap, L.n, L.w ++ [_], L.tb⟩, _, _, _, _, _, by simp only [List.length_set, List.length_append, List.length_cons, List.length_nil]; rfl, hz1, hz2, by (try dsimp only); (try simp only [List.length_set, List.length_append, List.length_cons, List.length_nil]); omega, by (try dsimp only); (try simp only [List.length_set, List.length_append, List.length_cons, List.length_nil]); omega, rfl, rfl⟩
       ·
        refine WS.eff rfl rfl rfl qD (Ef.buildSliceD (enc := encI) (parts := [.tmp 57]) [_] tab_ok rfl rfl rfl rfl rfl rfl rfl rfl qD qD (fun a58 => ?_))
        refine ⟨qR, qS, ?_⟩
        refine lL 1 (Rd.add (Rd.blk 4 rfl) _) ?_
        refine WA.eff 5 rfl (by kernel_rfl) rfl rfl (by decide) (Ef.appendD 2 0 tab_ok rfl rfl rfl rfl rfl rfl rfl rfl rfl rfl rfl (fun _ _ => rfl) (by simp only [List.length_cons, List.length_nil]; omega) (by simp only [List.length_cons, List.length_nil]; omega) (fun a59 c59 ha59 => ?_))
        refine ⟨qR, qS, ?_⟩
        refine tP 6 ?_
        refine zCF 7 4 ?_
        refine WA.done qK ?_
        refine zL (zU ?_)
        (refine W.freeze (enc := encI) 2 rfl ?_; intro R1 hR1 hz1; refine W.freeze (enc := encI) 1 rfl ?_; intro R2 hR2 hz2; have hz1 := hz1.mono hR2)
        refine zQ (zG ?_)
        refine yL (Rd.blk 2 rfl) ?_
        refine zE 1 ?_
        refine zN (zU (zT ?_))
        refine WE.retFS (E' := srcE b a cp xs (c + 1 + 1) :: F) qS tab_ok [_] rfl ⟨⟨_, _, _, rfl, rfl, rfl, qB, rfl⟩, trivial⟩ (hR1.trans hR2) ?_
        exact ⟨_, [], rfl, ⟨L.kind, L.cap, L.n, L.w ++ [_], L.tb⟩, _, _, _, _, _, by simp only [List.length_set, List.length_append, List.length_cons, List.length_nil]; rfl, hz1, hz2, by (try dsimp only); (try simp only [List.length_set, List.length_append, List.length_cons, List.length_nil]); omega, by (try dsimp only); (try simp only [List.length_set, List.length_append, List.length_cons, List.length_nil]); omega, rfl, rfl⟩
     ·try dsimp only at hc3
      refine zQ (zG (zR 2 rfl (zN (zU ?_))))
      refine W.condE rfl (fun hc4 => ?_) (fun hc4 => ?_)
      ·try dsimp only at hc4
       refine W.regionH _ (ES := []) mixed ?_
       refine tP 0 ?_
       refine tP 2 ?_
       refine WA.br2 (i := 1) (j := 3) qK ?_ ?_
       ·
        refine sL (Rd.add (Rd.blk 3 rfl) _) ?_
        refine WA.eff 3 rfl qK rfl rfl qD (Ef.buildSliceD (enc := encI) (parts := [.const (.int .i64 (-2)), .const (.int .i64 (-1)), .const (.int .i64 0), .const (.int .i64 2), .const (.int .i64 3)]) [_, _, _, _, _] tab_ok rfl rfl rfl rfl rfl rfl rfl rfl qD qD (fun a66 => ?_))
        refine ⟨qR, qS, ?_⟩
        refine WA.callAt 5 4 rfl qK en32 rfl rfl qD (CallOp.mkT rfl rfl rfl rfl) rfl (PickM_C (j := 0) w0 ([-2, -1, 0, 2, 3] : List Int) rfl qD qD ha rfl) ?_
        rintro _ _ _ _ - ⟨rfl, rfl, rfl, rfl⟩
        refine ⟨RLe.refl _, qS, ?_⟩
        refine WA.eff 5 rfl qK rfl rfl qD (Ef.buildSliceD (enc := encI) (parts := [.tmp 67]) [_] tab_ok rfl rfl rfl rfl rfl rfl rfl rfl qD qD (fun a68 => ?_))
        refine ⟨qR, qS, ?_⟩
        refine WA.eff 6 rfl (by kernel_rfl) rfl rfl (by decide) (Ef.appendD 2 0 tab_ok rfl rfl rfl rfl rfl rfl rfl rfl rfl rfl rfl (fun _ _ => rfl) (by simp only [List.length_cons, List.length_nil]; omega) (by simp only [List.length_cons, List.length_nil]; omega) (fun a69 c69 ha69 => ?_))
        refine ⟨qR, qS, ?_⟩
        refine tP 7 ?_
        refine zCF 8 5 ?_
        refine WA.done qK ?_
        refine zL (zU ?_)
        (refine W.freeze (enc := encI) 3 rfl ?_; intro R1 hR1 hz1; refine W.freeze (enc := encI) 2 rfl ?_; intro R2 hR2 hz2; have hz1 := hz1.mono hR2)
        refine zQ (zG ?_)
        refine yL (Rd.blk 3 rfl) ?_
        refine zE 2 ?_
        refine zN (zU (zT ?_))
        refine WE.retFS (E' := srcE b a cp xs (c + 1 + 1) :: F) qS tab_ok [_] rfl ⟨⟨_, _, _, rfl, rfl, rfl, qB, rfl⟩, trivial⟩ (hR1.trans hR2) ?_
        exact ⟨_, [], rfl, ⟨L.kind, L.cap, L.n, L.w, L.tb ++ [_]⟩, _, _, _, _, _, by simp only [List.length_set, List.length_append, List.length_cons, List.length_nil]; rfl, hz1, hz2, by (try dsimp only); (try simp only [List.length_set, List.length_append, List.length_cons, List.length_nil]); omega, by (try dsimp only); (try simp only [List.length_set, List.length_append, List.length_cons, List.length_nil]); omega, rfl, rfl⟩
       ·
        refine WS.eff rfl rfl rfl qD (Ef.buildSliceD (enc := encI) (parts := [.const (.int .i64 (-2)), .const (.int .i64 (-1)), .const (.int .i64 0), .const (.int .i64 2), .const (.int .i64 3)]) [_, _, _, _, _] tab_ok rfl rfl rfl rfl rfl rfl rfl rfl qD qD (fun a66 => ?_))
        refine ⟨qR, qS, ?_⟩
        refine WA.br2 (i := 1) (j := 4) qK ?_ ?_
        ·
         refine sL (Rd.add (Rd.blk 4 rfl) _) ?_
         refine WA.callAt 5 4 rfl qK en32 rfl rfl qD (CallOp.mkT rfl rfl rfl rfl) rfl (PickM_C (j := 0) w0 ([-2, -1, 0, 2, 3] : List Int) rfl qD qD ha rfl) ?_
         rintro _ _ _ _ - ⟨rfl, rfl, rfl, rfl⟩
         refine ⟨RLe.refl _, qS, ?_⟩
         refine WA.eff 5 rfl qK rfl rfl qD (Ef.buildSliceD (enc := encI) (parts := [.tmp 67]) [_] tab_ok rfl rfl rfl rfl rfl rfl rfl rfl qD qD (fun a68 => ?_))
         refine ⟨qR, qS, ?_⟩
         refine WA.eff 6 rfl (by kernel_rfl) rfl rfl (by decide) (Ef.appendD 2 0 tab_ok rfl rfl rfl rfl rfl rfl rfl rfl rfl rfl rfl (fun _ _ => rfl) (by simp only [List.length_cons, List.length_nil]; omega) (by simp only [List.length_cons, List.length_nil]; omega) (fun a69 c69 ha69 => ?_))
         refine ⟨qR, qS, ?_⟩
         refine tP 7 ?_
         refine zCF 8 5 ?_
         refine WA.done qK ?_
         refine zL (zU ?_)
         (refine W.freeze (enc := encI) 3 rfl ?_; intro R1 hR1 hz1; refine W.freeze (enc := encI) 2 rfl ?_; intro R2 hR2 hz2; have hz1 := hz1.mono hR2)
         refine zQ (zG ?_)
         refine yL (Rd.blk 3 rfl) ?_
         refine zE 2 ?_
         refine zN (zU (zT ?_))
         refine WE.retFS (E' := srcE b a cp xs (c + 1 + 1) :: F) qS tab_ok [_] rfl ⟨⟨_, _, _, rfl, rfl, rfl, qB, rfl⟩, trivial⟩ (hR1.trans hR2) ?_
         exact ⟨_, [], rfl, ⟨L.kind, L.cap, L.n, L.w, L.tb ++ [_]⟩, _, _, _, _, _, by simp only [List.length_set, List.length_append, List.length_cons, List.length_nil]; rfl, hz1, hz2, by (try dsimp only); (try simp only [List.length_set, List.length_append, List.length_cons, List.length_nil]); omega, by (try dsimp only); (try simp only [List.length_set, List.length_append, List.length_cons, List.length_nil]); omega, rfl, rfl⟩
        ·
         refine WS.callAt 5 rfl en32 rfl rfl qD (CallOp.mkT rfl rfl rfl rfl) rfl (PickM_C (j := 0) w0 ([-2, -1, 0, 2, 3] : List Int) rfl qD qD ha rfl) ?_
         rintro _ _ _ _ - ⟨rfl, rfl, rfl, rfl⟩
         refine ⟨qR, qS, ?_⟩
         refine WA.br2 (i := 1) (j := 5) qK ?_ ?_
         ·
          refine sL (Rd.add (Rd.blk 4 rfl) _) ?_
          refine WA.eff 5 rfl qK rfl rfl qD (Ef.buildSliceD (enc := encI) (parts := [.tmp 67]) [_] tab_ok rfl rfl rfl rfl rfl rfl rfl rfl qD qD (fun a68 => ?_))
          refine ⟨qR, qS, ?_⟩
          refine WA.eff 6 rfl (by kernel_rfl) rfl rfl (by decide) (Ef.appendD 2 0 tab_ok rfl rfl rfl rfl rfl rfl rfl rfl rfl rfl rfl (fun _ _ => rfl) (by simp only [List.length_cons, List.length_nil]; omega) (by simp only [List.length_cons, List.length_nil]; omega) (fun a69 c69 ha69 => ?_))
          refine ⟨qR, qS, ?_⟩
          refine tP 7 ?_
          refine zCF 8 5 ?_
          refine WA.done qK ?_
          refine zL (zU ?_)
          (refine W.freeze (enc := encI) 3 rfl ?_; intro R1 hR1 hz1; refine W.freeze (enc := encI) 2 rfl ?_; intro R2 hR2 hz2; have hz1 := hz1.mono hR2)
          refine zQ (zG ?_)
          refine yL (Rd.blk 3 rfl) ?_
          refine zE 2 ?_
          refine zN (zU (zT ?_))
          refine WE.retFS (E' := srcE b a cp xs (c + 1 + 1) :: F) qS tab_ok [_] rfl ⟨⟨_, _, _, rfl, rfl, rfl, qB, rfl⟩, trivial⟩ (hR1.trans hR2) ?_
          exact ⟨_, [], rfl, ⟨L.kind, L.cap, L.n, L.w, L.tb ++ [_]⟩, _, _, _, _, _, by simp only [List.length_set, List.length_append, List.length_cons, List.length_nil]; rfl, hz1, hz2, by (try dsimp only); (try simp only [List.length_set, List.length_append, List.length_cons, List.length_nil]); omega, by (try dsimp only); (try simp only [List.length_set, List.length_append, List.length_cons, List.length_nil]); omega, rfl, rfl⟩
         ·
          refine WS.eff rfl rfl rfl qD (Ef.buildSliceD (enc := encI) (parts := [.tmp 67]) [_] tab_ok rfl rfl rfl rfl rfl rfl rfl rfl qD qD (fun a68 => ?_))
          refine ⟨qR, qS, ?_⟩
          refine lL 1 (Rd.add (Rd.blk 5 rfl) _) ?_
          refine WA.eff 6 rfl (by kernel_rfl) rfl rfl (by decide) (Ef.appendD 2 0 tab_ok rfl rfl rfl rfl rfl rfl rfl rfl rfl rfl rfl (fun _ _ => rfl) (by simp only [List.length_cons, List.length_nil]; omega) (by simp only [List.length_cons, List.length_nil]; omega) (fun a69 c69 ha69 => ?_))
          refine ⟨qR, qS, ?_⟩
          refine tP 7 ?_
          refine zCF 8 5 ?_
          refine WA.done qK ?_
          refine zL (zU ?_)
          (refine W.freeze (enc := encI) 3 rfl ?_; intro R1 hR1 hz1; refine W.freeze (enc := encI) 2 rfl ?_; intro R2 hR2 hz2; have hz1 := hz1.mono hR2)
          refine zQ (zG ?_)
          refine yL (Rd.blk 3 rfl) ?_
          refine zE 2 ?_
          refine zN (zU (zT ?_))
          refine WE.retFS (E' := srcE b a cp xs (c + 1 + 1) :: F) qS tab_ok [_] rfl ⟨⟨_, _, _, rfl, rfl, rfl, qB, rfl⟩, trivial⟩ (hR1.trans hR2) ?_
          exact ⟨_, [], rfl, ⟨L.kind, L.cap, L.n, L.w, L.tb ++ [_]⟩, _, _, _, _, _, by simp only [List.length_set, List.length_append, List.length_cons, List.length_nil]; rfl, hz1, hz2, by (try dsimp only); (try simp only [List.length_set, List.length_append, List.length_cons, List.length_nil]); omega, by (try dsimp only); (try simp only [List.length_set, List.length_append, List.length_cons, List.length_nil]); omega, rfl, rfl⟩
      ·try dsimp only at hc4
       refine zQ (zG (zR 2 rfl (zN (zU ?_))))
       refine W.condE rfl (fun hc5 => ?_) (fun hc5 => ?_)
       ·try dsimp only at hc5
        refine zQ (zG (zR 1 rfl ?_))
        refine yL (Rd.add (Rd.blk 3 rfl) _) ?_
        refine zR 2 rfl (zN (zU ?_))
        refine W.condD rfl (fun hc6 => ?_) (fun hc6 => ?_)
        ·try dsimp only at hc6
         refine W.regionH _ (ES := [.blk b3 [.int .i64 L.kind, .int .i64 L.cap, .int .i64 L.n, .slice a8 L.w.length c8, .slice a12 L.tb.length c12]]) mixed ?_
         refine tP 0 ?_
         refine tL 1 (Rd.add (Rd.blk 0 rfl) _) ?_
         refine tP 2 ?_
         refine WA.eff 3 rfl qK rfl rfl qD (Ef.buildSliceD (enc := encI) (parts := [.const (.int .i64 0), .const (.int .i64 20), .const (.int .i64 21), .const (.int .i64 6000), .const (.int .i64 6001)]) [_, _, _, _, _] tab_ok rfl rfl rfl rfl rfl rfl rfl rfl qD qD (fun a80 => ?_))
         refine ⟨qR, qS, ?_⟩
         refine WA.callAt 5 4 rfl qK en32 rfl rfl qD (CallOp.mkT rfl rfl rfl rfl) rfl (PickM_C (j := 0) w0 ([0, 20, 21, 6000, 6001] : List Int) rfl qD qD ha rfl) ?_
         rintro _ _ _ _ - ⟨rfl, rfl, rfl, rfl⟩
         refine ⟨RLe.refl _, qS, ?_⟩
         refine WA.yl 5 rfl qK rfl rfl qD (Yl.index tab_ok rfl rfl rfl rfl rfl rfl (fun _ => rfl) qA (by intro _; first | exact fun _ _ _ _ => ha8 qO | exact qI)) qS qR ?_
         refine WA.effN 6 rfl qK rfl rfl (Ef.storeD _ 2 tab_ok rfl rfl rfl rfl rfl qX rfl rfl rfl rfl ?_)
         refine ⟨qR, qS, ?_⟩
         refine WA.done qK ?_
         refine zL (zU ?_)
         (refine W.freeze (enc := encI) 2 rfl ?_; intro R1 hR1 hz1; refine W.freeze (enc := encI) 1 rfl ?_; intro R2 hR2 hz2; have hz1 := hz1.mono hR2)
         refine zQ (zG ?_)
         refine yL (Rd.blk 2 rfl) ?_
         refine zE 1 ?_
         refine zN (zU (zT ?_))
         refine WE.retFS (E' := srcE b a cp xs (c + 1 + 1) :: F) qS tab_ok [_] rfl ⟨⟨_, _, _, rfl, rfl, rfl, qB, rfl⟩, trivial⟩ (hR1.trans hR2) ?_
         exact ⟨_, [], rfl, ⟨L.kind, L.cap, L.n, L.w.set _ _, L.tb⟩, _, _, _, _, _, by simp only [List.length_set, List.length_append, List.length_cons, List.length_nil]; rfl, hz1, hz2, by (try dsimp only); (try simp only [List.length_set, List.length_append, List.length_cons, List.length_nil]); omega, by (try dsimp only); (try simp only [List.length_set, List.length_append, List.length_cons, List.length_nil]); omega, rfl, rfl⟩
        ·try dsimp only at hc6
         refine zK (zL (zU ?_))
         (refine W.freeze (enc := encI) 1 rfl ?_; intro R1 hR1 hz1; refine W.freeze (enc := encI) 0 rfl ?_; intro R2 hR2 hz2; have hz1 := hz1.mono hR2)
         refine zQ (zG ?_)
         refine yL (Rd.blk 1 rfl) ?_
         refine zE 0 ?_
         refine zN (zU (zT ?_))
         refine WE.retFS (E' := srcE b a cp xs (c + 1) :: F) qS tab_ok [_] rfl ⟨⟨_, _, _, rfl, rfl, rfl, qB, rfl⟩, trivial⟩ (hR1.trans hR2) ?_
         exact ⟨_, [], rfl, ⟨_, _, _, L.w, L.tb⟩, _, _, _, _, _, rfl, hz1, hz2, by (try dsimp only); (try simp only [List.length_set, List.length_append, List.length_cons, List.length_nil]); omega, by (try dsimp only); (try simp only [List.length_set, List.length_append, List.length_cons, List.length_nil]); omega, rfl, rfl⟩
       ·try dsimp only at hc5
        refine zB ?_
        refine W.loopK (β := List Int × Option Addr × Nat × Nat) (fun (ts, at2, ct2, cn) => ts.length ≤ K) (fun (ts, at2, ct2, cn) => []) [0, 3, 4] [_, _, _] [] _ rfl (fun (ts, at2, ct2, cn) => [(0, .sl 3 1 at2 ct2 ((ts).map encI)), (3, .blk b3 [.int .i64 L.kind, .int .i64 L.cap, .int .i64 L.n, .slice a8 L.w.length c8, .slice at2 ts.length ct2]), (4, srcE b a cp xs cn)]) (fun (ts, at2, ct2, cn) => 41 - ts.length) ((L.tb, a12, c12, c + 1)) (by (try dsimp only); omega) ⟨rfl, rfl, rfl, rfl⟩ qS ?_
        intro zz hst
        obtain ⟨ts, at2, ct2, cn⟩ := zz
        dsimp only [zipE, setAll, List.cons_append, List.nil_append, List.set_cons_zero, List.set_cons_succ] at hst ⊢
        
        refine zQ (zQ ?_)
        refine W.regionH _ (ES := [.blk b3 [.int .i64 L.kind, .int .i64 L.cap, .int .i64 L.n, .slice a8 L.w.length c8, .slice at2 ts.length ct2]]) mixed ?_
        refine tP 0 ?_
        refine tL 1 (Rd.add (Rd.blk 0 rfl) _) ?_
        refine tP 2 ?_
        refine tP 3 ?_
        refine WA.callAt 4 4 rfl qK en23 rfl rfl qD (CallOp.mkT rfl rfl rfl rfl) rfl (N_C w0 ha (by constructor <;> decide) _) ?_
        rintro _ _ _ _ - ⟨rfl, rfl, rfl, rfl⟩
        refine ⟨qR, qS, ?_⟩
        have hm3 := mod_range (nth xs cn) (show (1 : Int) ≤ 2 by decide)
        refine tA 5 ?_
        refine tP 6 ?_
        refine tP 7 ?_
        refine WA.take 8 rfl qK qK qK rfl rfl qD (pureV_ok tab_ok rfl qE) qS qR ?_
        refine' WA.take 9 rfl qK qK qK rfl rfl qD (Yl.loadG tab_ok rfl rfl rfl qE ?r23 rfl ?h23 ?g23) qS qR ?_
        case r23 => apply Rd.addC; (exact Rd.blkC 0 rfl)
        case h23 => rfl
        case g23 => exact fun _ => trivial
        refine WA.take 10 rfl qK qK qK rfl rfl qD (pureV_ok tab_ok rfl qE) qS qR ?_
        refine WA.take 11 rfl qK qK qK rfl rfl qD (pureV_ok tab_ok rfl qE) qS qR ?_
        refine WA.take 12 rfl (by kernel_rfl) (by kernel_rfl) (by kernel_rfl) rfl rfl (by decide) (Yl.pand rfl rfl rfl (fun _ => rfl) (by intro h1 h2; simp_all <;> omega)) qS (by first | exact RLe.refl _ | assumption) ?_
        refine WA.done qK ?_
        refine zU ?_
        refine W.cond rfl (fun hc7 => ?_) (fun hc7 => ?_)
        ·try simp only [zk] at hc7
         refine zK (zU (zB (zG (zR 1 rfl ?_))))
         refine yL (Rd.add (Rd.blk 3 rfl) _) ?_
         refine WL.ef rfl rfl qD (Ef.buildSliceD (enc := encI) (parts := [.const (.int .i64 0)]) [_] tab_ok rfl rfl rfl rfl rfl rfl rfl rfl qD qD (fun a32 => ?_))
         refine WL.ef rfl rfl (by decide) (Ef.appendD 1 0 tab_ok rfl rfl rfl rfl rfl rfl rfl rfl rfl rfl rfl (fun _ _ => rfl) (by simp only [List.length_cons, List.length_nil]; omega) (by simp only [List.length_cons, List.length_nil]; omega) (fun a33 c33 ha33 => ?_))
         refine zR 1 rfl ?_
         refine zF 4 ?_
         refine zN (zL ?_)
         refine WE.again ((ts ++ [0], a33, c33, cn + 1)) (by simp only [List.length_append, List.length_cons, List.length_nil]; omega) (by simp only [List.length_append, List.length_cons, List.length_nil]; omega) ⟨rfl, rfl, rfl, rfl⟩ (RLe.refl _) qS
        ·try simp only [zk] at hc7
         refine zX ?_
         refine wx (wx (zY (zL (zU ?_))))
         (refine W.freeze (enc := encI) 1 rfl ?_; intro R1 hR1 hz1; refine W.freeze (enc := encI) 0 rfl ?_; intro R2 hR2 hz2; have hz1 := hz1.mono hR2)
         refine zQ (zG ?_)
         refine yL (Rd.blk 1 rfl) ?_
         refine zE 0 ?_
         refine zN (zU (zT ?_))
         refine WE.retFS (E' := srcE b a cp xs (cn + 1) :: F) qS tab_ok [_] rfl ⟨⟨_, _, _, rfl, rfl, rfl, qB, rfl⟩, trivial⟩ (hR1.trans hR2) ?_
         exact ⟨_, [], rfl, ⟨_, _, _, L.w, ts⟩, _, _, _, _, _, rfl, hz1, hz2, by (try dsimp only); (try simp only [List.length_set, List.length_append, List.length_cons, List.length_nil]); omega, by (try dsimp only); (try simp only [List.length_set, List.length_append, List.length_cons, List.length_nil]); omega, rfl, rfl⟩
 ·
  refine W.regionH _ (ES := []) mixed ?_
  refine tP 1 ?_
  refine tP 5 ?_
  refine WA.br4 (i := 0) (j := 2) (k := 4) (l := 6) qK ?_ ?_ ?_ ?_
  ·
   refine WS.eff rfl rfl rfl qD (Ef.buildSliceD (enc := encI) (parts := []) [] tab_ok rfl rfl rfl rfl rfl rfl rfl rfl qD qD (fun a5 => ?_))
   refine ⟨qR, qS, ?_⟩
   refine WA.br3 (i := 2) (j := 4) (k := 6) qK ?_ ?_ ?_
   ·
    refine sL (Rd.add (Rd.blk 2 rfl) _) ?_
    refine WA.br3 (i := 3) (j := 4) (k := 6) qK ?_ ?_ ?_
    ·
     refine WS.eff rfl rfl rfl qD (Ef.cloneL (enc := encI) 0 tab_ok rfl rfl rfl rfl rfl rfl rfl rfl rfl rfl hw (fun _ _ => rfl) (by dsimp only; omega) qO (fun a8 c8 ha8 => ?_))
     refine ⟨qR, qS, ?_⟩
     refine WA.br2 (i := 4) (j := 6) qK ?_ ?_
     ·
      refine WS.eff rfl rfl rfl qD (Ef.buildSliceD (enc := encI) (parts := []) [] tab_ok rfl rfl rfl rfl rfl rfl rfl rfl qD qD (fun a9 => ?_))
      refine ⟨qR, qS, ?_⟩
      refine lL 6 (Rd.add (Rd.blk 3 rfl) _) ?_
      refine tP 8 ?_
      refine WA.eff 7 rfl qK rfl rfl qD (Ef.cloneL (enc := encI) 0 tab_ok rfl rfl rfl rfl rfl rfl rfl rfl rfl rfl ht (fun _ _ => rfl) (by dsimp only; omega) qO (fun a12 c12 ha12 => ?_))
      refine ⟨qR, qS, ?_⟩
      refine zCF 9 3 ?_
      refine tP 10 ?_
      refine zCF 11 3 ?_
      refine WA.done qK ?_
      refine WE.cutP (a8, c8, a12, c12) ⟨ha8, ha12⟩ ⟨rfl, rfl, rfl, rfl⟩ (RLe.refl _) (by dsimp only; first | exact List.Perm.refl _ | exact List.Perm.swap _ _ _)
     ·
      refine sL (Rd.add (Rd.blk 2 rfl) _) ?_
      refine tP 8 ?_
      refine WA.eff 4 rfl qK rfl rfl qD (Ef.buildSliceD (enc := encI) (parts := []) [] tab_ok rfl rfl rfl rfl rfl rfl rfl rfl qD qD (fun a9 => ?_))
      refine ⟨qR, qS, ?_⟩
      refine WA.eff 7 rfl qK rfl rfl qD (Ef.cloneL (enc := encI) 0 tab_ok rfl rfl rfl rfl rfl rfl rfl rfl rfl rfl ht (fun _ _ => rfl) (by dsimp only; omega) qO (fun a12 c12 ha12 => ?_))
      refine ⟨qR, qS, ?_⟩
      refine zCF 9 3 ?_
      refine tP 10 ?_
      refine zCF 11 3 ?_
      refine WA.done qK ?_
      refine WE.cutP (a8, c8, a12, c12) ⟨ha8, ha12⟩ ⟨rfl, rfl, rfl, rfl⟩ (RLe.refl _) (by dsimp only; first | exact List.Perm.refl _ | exact List.Perm.swap _ _ _)
    ·
     refine WS.eff rfl rfl rfl qD (Ef.buildSliceD (enc := encI) (parts := []) [] tab_ok rfl rfl rfl rfl rfl rfl rfl rfl qD qD (fun a9 => ?_))
     refine ⟨qR, qS, ?_⟩
     refine WA.br2 (i := 3) (j := 6) qK ?_ ?_
     ·
      refine WS.eff rfl rfl rfl qD (Ef.cloneL (enc := encI) 1 tab_ok rfl rfl rfl rfl rfl rfl rfl rfl rfl rfl hw (fun _ _ => rfl) (by dsimp only; omega) qO (fun a8 c8 ha8 => ?_))
      refine ⟨qR, qS, ?_⟩
      refine lL 6 (Rd.add (Rd.blk 3 rfl) _) ?_
      refine tP 8 ?_
      refine WA.eff 7 rfl qK rfl rfl qD (Ef.cloneL (enc := encI) 0 tab_ok rfl rfl rfl rfl rfl rfl rfl rfl rfl rfl ht (fun _ _ => rfl) (by dsimp only; omega) qO (fun a12 c12 ha12 => ?_))
      refine ⟨qR, qS, ?_⟩
      refine zCF 9 3 ?_
      refine tP 10 ?_
      refine zCF 11 3 ?_
      refine WA.done qK ?_
      refine WE.cutP (a8, c8, a12, c12) ⟨ha8, ha12⟩ ⟨rfl, rfl, rfl, rfl⟩ (RLe.refl _) (by dsimp only; first | exact List.Perm.refl _ | exact List.Perm.swap _ _ _)
     ·
      refine sL (Rd.add (Rd.blk 3 rfl) _) ?_
      refine WA.eff 3 rfl qK rfl rfl qD (Ef.cloneL (enc := encI) 1 tab_ok rfl rfl rfl rfl rfl rfl rfl rfl rfl rfl hw (fun _ _ => rfl) (by dsimp only; omega) qO (fun a8 c8 ha8 => ?_))
      refine ⟨qR, qS, ?_⟩
      refine tP 8 ?_
      refine WA.eff 7 rfl qK rfl rfl qD (Ef.cloneL (enc := encI) 0 tab_ok rfl rfl rfl rfl rfl rfl rfl rfl rfl rfl ht (fun _ _ => rfl) (by dsimp only; omega) qO (fun a12 c12 ha12 => ?_))
      refine ⟨qR, qS, ?_⟩
      refine zCF 9 3 ?_
      refine tP 10 ?_
      refine zCF 11 3 ?_
      refine WA.done qK ?_
      refine WE.cutP (a8, c8, a12, c12) ⟨ha8, ha12⟩ ⟨rfl, rfl, rfl, rfl⟩ (RLe.refl _) (by dsimp only; first | exact List.Perm.refl _ | exact List.Perm.swap _ _ _)
    ·
     refine sL (Rd.add (Rd.blk 2 rfl) _) ?_
     refine WA.br2 (i := 3) (j := 4) qK ?_ ?_
     ·
      refine WS.eff rfl rfl rfl qD (Ef.cloneL (enc := encI) 0 tab_ok rfl rfl rfl rfl rfl rfl rfl rfl rfl rfl hw (fun _ _ => rfl) (by dsimp only; omega) qO (fun a8 c8 ha8 => ?_))
      refine ⟨qR, qS, ?_⟩
      refine tP 8 ?_
      refine WA.eff 4 rfl qK rfl rfl qD (Ef.buildSliceD (enc := encI) (parts := []) [] tab_ok rfl rfl rfl rfl rfl rfl rfl rfl qD qD (fun a9 => ?_))
      refine ⟨qR, qS, ?_⟩
      refine WA.eff 7 rfl qK rfl rfl qD (Ef.cloneL (enc := encI) 0 tab_ok rfl rfl rfl rfl rfl rfl rfl rfl rfl rfl ht (fun _ _ => rfl) (by dsimp only; omega) qO (fun a12 c12 ha12 => ?_))
      refine ⟨qR, qS, ?_⟩
      refine zCF 9 3 ?_
      refine tP 10 ?_
      refine zCF 11 3 ?_
      refine WA.done qK ?_
      refine WE.cutP (a8, c8, a12, c12) ⟨ha8, ha12⟩ ⟨rfl, rfl, rfl, rfl⟩ (RLe.refl _) (by dsimp only; first | exact List.Perm.refl _ | exact List.Perm.swap _ _ _)
     ·
      refine WS.eff rfl rfl rfl qD (Ef.buildSliceD (enc := encI) (parts := []) [] tab_ok rfl rfl rfl rfl rfl rfl rfl rfl qD qD (fun a9 => ?_))
      refine ⟨qR, qS, ?_⟩
      refine WA.eff 3 rfl qK rfl rfl qD (Ef.cloneL (enc := encI) 1 tab_ok rfl rfl rfl rfl rfl rfl rfl rfl rfl rfl hw (fun _ _ => rfl) (by dsimp only; omega) qO (fun a8 c8 ha8 => ?_))
      refine ⟨qR, qS, ?_⟩
      refine tP 8 ?_
      refine WA.eff 7 rfl qK rfl rfl qD (Ef.cloneL (enc := encI) 0 tab_ok rfl rfl rfl rfl rfl rfl rfl rfl rfl rfl ht (fun _ _ => rfl) (by dsimp only; omega) qO (fun a12 c12 ha12 => ?_))
      refine ⟨qR, qS, ?_⟩
      refine zCF 9 3 ?_
      refine tP 10 ?_
      refine zCF 11 3 ?_
      refine WA.done qK ?_
      refine WE.cutP (a8, c8, a12, c12) ⟨ha8, ha12⟩ ⟨rfl, rfl, rfl, rfl⟩ (RLe.refl _) (by dsimp only; first | exact List.Perm.refl _ | exact List.Perm.swap _ _ _)
   ·
    refine WS.eff rfl rfl rfl qD (Ef.buildSliceD (enc := encI) (parts := []) [] tab_ok rfl rfl rfl rfl rfl rfl rfl rfl qD qD (fun a9 => ?_))
    refine ⟨qR, qS, ?_⟩
    refine WA.br2 (i := 2) (j := 6) qK ?_ ?_
    ·
     refine sL (Rd.add (Rd.blk 3 rfl) _) ?_
     refine WA.br2 (i := 3) (j := 6) qK ?_ ?_
     ·
      refine WS.eff rfl rfl rfl qD (Ef.cloneL (enc := encI) 1 tab_ok rfl rfl rfl rfl rfl rfl rfl rfl rfl rfl hw (fun _ _ => rfl) (by dsimp only; omega) qO (fun a8 c8 ha8 => ?_))
      refine ⟨qR, qS, ?_⟩
      refine lL 6 (Rd.add (Rd.blk 3 rfl) _) ?_
      refine tP 8 ?_
      refine WA.eff 7 rfl qK rfl rfl qD (Ef.cloneL (enc := encI) 0 tab_ok rfl rfl rfl rfl rfl rfl rfl rfl rfl rfl ht (fun _ _ => rfl) (by dsimp only; omega) qO (fun a12 c12 ha12 => ?_))
      refine ⟨qR, qS, ?_⟩
      refine zCF 9 3 ?_
      refine tP 10 ?_
      refine zCF 11 3 ?_
      refine WA.done qK ?_
      refine WE.cutP (a8, c8, a12, c12) ⟨ha8, ha12⟩ ⟨rfl, rfl, rfl, rfl⟩ (RLe.refl _) (by dsimp only; first | exact List.Perm.refl _ | exact List.Perm.swap _ _ _)
     ·
      refine sL (Rd.add (Rd.blk 3 rfl) _) ?_
      refine WA.eff 3 rfl qK rfl rfl qD (Ef.cloneL (enc := encI) 1 tab_ok rfl rfl rfl rfl rfl rfl rfl rfl rfl rfl hw (fun _ _ => rfl) (by dsimp only; omega) qO (fun a8 c8 ha8 => ?_))
      refine ⟨qR, qS, ?_⟩
      refine tP 8 ?_
      refine WA.eff 7 rfl qK rfl rfl qD (Ef.cloneL (enc := encI) 0 tab_ok rfl rfl rfl rfl rfl rfl rfl rfl rfl rfl ht (fun _ _ => rfl) (by dsimp only; omega) qO (fun a12 c12 ha12 => ?_))
      refine ⟨qR, qS, ?_⟩
      refine zCF 9 3 ?_
      refine tP 10 ?_
      refine zCF 11 3 ?_
      refine WA.done qK ?_
      refine WE.cutP (a8, c8, a12, c12) ⟨ha8, ha12⟩ ⟨rfl, rfl, rfl, rfl⟩ (RLe.refl _) (by dsimp only; first | exact List.Perm.refl _ | exact List.Perm.swap _ _ _)
    ·
     refine sL (Rd.add (Rd.blk 3 rfl) _) ?_
     refine lL 2 (Rd.add (Rd.blk 3 rfl) _) ?_
     refine WA.eff 3 rfl qK rfl rfl qD (Ef.cloneL (enc := encI) 1 tab_ok rfl rfl rfl rfl rfl rfl rfl rfl rfl rfl hw (fun _ _ => rfl) (by dsimp only; omega) qO (fun a8 c8 ha8 => ?_))
     refine ⟨qR, qS, ?_⟩
     refine tP 8 ?_
     refine WA.eff 7 rfl qK rfl rfl qD (Ef.cloneL (enc := encI) 0 tab_ok rfl rfl rfl rfl rfl rfl rfl rfl rfl rfl ht (fun _ _ => rfl) (by dsimp only; omega) qO (fun a12 c12 ha12 => ?_))
     refine ⟨qR, qS, ?_⟩
     refine zCF 9 3 ?_
     refine tP 10 ?_
     refine zCF 11 3 ?_
     refine WA.done qK ?_
     refine WE.cutP (a8, c8, a12, c12) ⟨ha8, ha12⟩ ⟨rfl, rfl, rfl, rfl⟩ (RLe.refl _) (by dsimp only; first | exact List.Perm.refl _ | exact List.Perm.swap _ _ _)
   ·
    refine sL (Rd.add (Rd.blk 2 rfl) _) ?_
    refine WA.br2 (i := 2) (j := 4) qK ?_ ?_
    ·
     refine sL (Rd.add (Rd.blk 2 rfl) _) ?_
     refine WA.br2 (i := 3) (j := 4) qK ?_ ?_
     ·
      refine WS.eff rfl rfl rfl qD (Ef.cloneL (enc := encI) 0 tab_ok rfl rfl rfl rfl rfl rfl rfl rfl rfl rfl hw (fun _ _ => rfl) (by dsimp only; omega) qO (fun a8 c8 ha8 => ?_))
      refine ⟨qR, qS, ?_⟩
      refine tP 8 ?_
      refine WA.eff 4 rfl qK rfl rfl qD (Ef.buildSliceD (enc := encI) (parts := []) [] tab_ok rfl rfl rfl rfl rfl rfl rfl rfl qD qD (fun a9 => ?_))
      refine ⟨qR, qS, ?_⟩
      refine WA.eff 7 rfl qK rfl rfl qD (Ef.cloneL (enc := encI) 0 tab_ok rfl rfl rfl rfl rfl rfl rfl rfl rfl rfl ht (fun _ _ => rfl) (by dsimp only; omega) qO (fun a12 c12 ha12 => ?_))
      refine ⟨qR, qS, ?_⟩
      refine zCF 9 3 ?_
      refine tP 10 ?_
      refine zCF 11 3 ?_
      refine WA.done qK ?_
      refine WE.cutP (a8, c8, a12, c12) ⟨ha8, ha12⟩ ⟨rfl, rfl, rfl, rfl⟩ (RLe.refl _) (by dsimp only; first | exact List.Perm.refl _ | exact List.Perm.swap _ _ _)
     ·
      refine WS.eff rfl rfl rfl qD (Ef.buildSliceD (enc := encI) (parts := []) [] tab_ok rfl rfl rfl rfl rfl rfl rfl rfl qD qD (fun a9 => ?_))
      refine ⟨qR, qS, ?_⟩
      refine WA.eff 3 rfl qK rfl rfl qD (Ef.cloneL (enc := encI) 1 tab_ok rfl rfl rfl rfl rfl rfl rfl rfl rfl rfl hw (fun _ _ => rfl) (by dsimp only; omega) qO (fun a8 c8 ha8 => ?_))
      refine ⟨qR, qS, ?_⟩
      refine tP 8 ?_
      refine WA.eff 7 rfl qK rfl rfl qD (Ef.cloneL (enc := encI) 0 tab_ok rfl rfl rfl rfl rfl rfl rfl rfl rfl rfl ht (fun _ _ => rfl) (by dsimp only; omega) qO (fun a12 c12 ha12 => ?_))
      refine ⟨qR, qS, ?_⟩
      refine zCF 9 3 ?_
      refine tP 10 ?_
      refine zCF 11 3 ?_
      refine WA.done qK ?_
      refine WE.cutP (a8, c8, a12, c12) ⟨ha8, ha12⟩ ⟨rfl, rfl, rfl, rfl⟩ (RLe.refl _) (by dsimp only; first | exact List.Perm.refl _ | exact List.Perm.swap _ _ _)
    ·
     refine WS.eff rfl rfl rfl qD (Ef.buildSliceD (enc := encI) (parts := []) [] tab_ok rfl rfl rfl rfl rfl rfl rfl rfl qD qD (fun a9 => ?_))
     refine ⟨qR, qS, ?_⟩
     refine lL 2 (Rd.add (Rd.blk 3 rfl) _) ?_
     refine WA.eff 3 rfl qK rfl rfl qD (Ef.cloneL (enc := encI) 1 tab_ok rfl rfl rfl rfl rfl rfl rfl rfl rfl rfl hw (fun _ _ => rfl) (by dsimp only; omega) qO (fun a8 c8 ha8 => ?_))
     refine ⟨qR, qS, ?_⟩
     refine tP 8 ?_
     refine WA.eff 7 rfl qK rfl rfl qD (Ef.cloneL (enc := encI) 0 tab_ok rfl rfl rfl rfl rfl rfl rfl rfl rfl rfl ht (fun _ _ => rfl) (by dsimp only; omega) qO (fun a12 c12 ha12 => ?_))
     refine ⟨qR, qS, ?_⟩
     refine zCF 9 3 ?_
     refine tP 10 ?_
     refine zCF 11 3 ?_
     refine WA.done qK ?_
     refine WE.cutP (a8, c8, a12, c12) ⟨ha8, ha12⟩ ⟨rfl, rfl, rfl, rfl⟩ (RLe.refl _) (by dsimp only; first | exact List.Perm.refl _ | exact List.Perm.swap _ _ _)
  ·
   refine sL (Rd.add (Rd.blk 1 rfl) _) ?_
   refine WA.br3 (i := 0) (j := 4) (k := 6) qK ?_ ?_ ?_
   ·
    refine WS.eff rfl rfl rfl qD (Ef.buildSliceD (enc := encI) (parts := []) [] tab_ok rfl rfl rfl rfl rfl rfl rfl rfl qD qD (fun a5 => ?_))
    refine ⟨qR, qS, ?_⟩
    refine WA.br3 (i := 3) (j := 4) (k := 6) qK ?_ ?_ ?_
    ·
     refine WS.eff rfl rfl rfl qD (Ef.cloneL (enc := encI) 0 tab_ok rfl rfl rfl rfl rfl rfl rfl rfl rfl rfl hw (fun _ _ => rfl) (by dsimp only; omega) qO (fun a8 c8 ha8 => ?_))
     refine ⟨qR, qS, ?_⟩
     refine WA.br2 (i := 4) (j := 6) qK ?_ ?_
     ·
      refine WS.eff rfl rfl rfl qD (Ef.buildSliceD (enc := encI) (parts := []) [] tab_ok rfl rfl rfl rfl rfl rfl rfl rfl qD qD (fun a9 => ?_))
      refine ⟨qR, qS, ?_⟩
      refine lL 6 (Rd.add (Rd.blk 3 rfl) _) ?_
      refine tP 8 ?_
      refine WA.eff 7 rfl qK rfl rfl qD (Ef.cloneL (enc := encI) 0 tab_ok rfl rfl rfl rfl rfl rfl rfl rfl rfl rfl ht (fun _ _ => rfl) (by dsimp only; omega) qO (fun a12 c12 ha12 => ?_))
      refine ⟨qR, qS, ?_⟩
      refine zCF 9 3 ?_
      refine tP 10 ?_
      refine zCF 11 3 ?_
      refine WA.done qK ?_
      refine WE.cutP (a8, c8, a12, c12) ⟨ha8, ha12⟩ ⟨rfl, rfl, rfl, rfl⟩ (RLe.refl _) (by dsimp only; first | exact List.Perm.refl _ | exact List.Perm.swap _ _ _)
     ·
      refine sL (Rd.add (Rd.blk 2 rfl) _) ?_
      refine tP 8 ?_
      refine WA.eff 4 rfl qK rfl rfl qD (Ef.buildSliceD (enc := encI) (parts := []) [] tab_ok rfl rfl rfl rfl rfl rfl rfl rfl qD qD (fun a9 => ?_))
      refine ⟨qR, qS, ?_⟩
      refine WA.eff 7 rfl qK rfl rfl qD (Ef.cloneL (enc := encI) 0 tab_ok rfl rfl rfl rfl rfl rfl rfl rfl rfl rfl ht (fun _ _ => rfl) (by dsimp only; omega) qO (fun a12 c12 ha12 => ?_))
      refine ⟨qR, qS, ?_⟩
      refine zCF 9 3 ?_
      refine tP 10 ?_
      refine zCF 11 3 ?_
      refine WA.done qK ?_
      refine WE.cutP (a8, c8, a12, c12) ⟨ha8, ha12⟩ ⟨rfl, rfl, rfl, rfl⟩ (RLe.refl _) (by dsimp only; first | exact List.Perm.refl _ | exact List.Perm.swap _ _ _)
    ·
     refine WS.eff rfl rfl rfl qD (Ef.buildSliceD (enc := encI) (parts := []) [] tab_ok rfl rfl rfl rfl rfl rfl rfl rfl qD qD (fun a9 => ?_))
     refine ⟨qR, qS, ?_⟩
     refine WA.br2 (i := 3) (j := 6) qK ?_ ?_
     ·
      refine WS.eff rfl rfl rfl qD (Ef.cloneL (enc := encI) 1 tab_ok rfl rfl rfl rfl rfl rfl rfl rfl rfl rfl hw (fun _ _ => rfl) (by dsimp only; omega) qO (fun a8 c8 ha8 => ?_))
      refine ⟨qR, qS, ?_⟩
      refine lL 6 (Rd.add (Rd.blk 3 rfl) _) ?_
      refine tP 8 ?_
      refine WA.eff 7 rfl qK rfl rfl qD (Ef.cloneL (enc := encI) 0 tab_ok rfl rfl rfl rfl rfl rfl rfl rfl rfl rfl ht (fun _ _ => rfl) (by dsimp only; omega) qO (fun a12 c12 ha12 => ?_))
      refine ⟨qR, qS, ?_⟩
      refine zCF 9 3 ?_
      refine tP 10 ?_
      refine zCF 11 3 ?_
      refine WA.done qK ?_
      refine WE.cutP (a8, c8, a12, c12) ⟨ha8, ha12⟩ ⟨rfl, rfl, rfl, rfl⟩ (RLe.refl _) (by dsimp only; first | exact List.Perm.refl _ | exact List.Perm.swap _ _ _)
     ·
      refine sL (Rd.add (Rd.blk 3 rfl) _) ?_
      refine WA.eff 3 rfl qK rfl rfl qD (Ef.cloneL (enc := encI) 1 tab_ok rfl rfl rfl rfl rfl rfl rfl rfl rfl rfl hw (fun _ _ => rfl) (by dsimp only; omega) qO (fun a8 c8 ha8 => ?_))
      refine ⟨qR, qS, ?_⟩
      refine tP 8 ?_
      refine WA.eff 7 rfl qK rfl rfl qD (Ef.cloneL (enc := encI) 0 tab_ok rfl rfl rfl rfl rfl rfl rfl rfl rfl rfl ht (fun _ _ => rfl) (by dsimp only; omega) qO (fun a12 c12 ha12 => ?_))
      refine ⟨qR, qS, ?_⟩
      refine zCF 9 3 ?_
      refine tP 10 ?_
      refine zCF 11 3 ?_
      refine WA.done qK ?_
      refine WE.cutP (a8, c8, a12, c12) ⟨ha8, ha12⟩ ⟨rfl, rfl, rfl, rfl⟩ (RLe.refl _) (by dsimp only; first | exact List.Perm.refl _ | exact List.Perm.swap _ _ _)
    ·
     refine sL (Rd.add (Rd.blk 2 rfl) _) ?_
     refine WA.br2 (i := 3) (j := 4) qK ?_ ?_
     ·
      refine WS.eff rfl rfl rfl qD (Ef.cloneL (enc := encI) 0 tab_ok rfl rfl rfl rfl rfl rfl rfl rfl rfl rfl hw (fun _ _ => rfl) (by dsimp only; omega) qO (fun a8 c8 ha8 => ?_))
      refine ⟨qR, qS, ?_⟩
      refine tP 8 ?_
      refine WA.eff 4 rfl qK rfl rfl qD (Ef.buildSliceD (enc := encI) (parts := []) [] tab_ok rfl rfl rfl rfl rfl rfl rfl rfl qD qD (fun a9 => ?_))
      refine ⟨qR, qS, ?_⟩
      refine WA.eff 7 rfl qK rfl rfl qD (Ef.cloneL (enc := encI) 0 tab_ok rfl rfl rfl rfl rfl rfl rfl rfl rfl rfl ht (fun _ _ => rfl) (by dsimp only; omega) qO (fun a12 c12 ha12 => ?_))
      refine ⟨qR, qS, ?_⟩
      refine zCF 9 3 ?_
      refine tP 10 ?_
      refine zCF 11 3 ?_
      refine WA.done qK ?_
      refine WE.cutP (a8, c8, a12, c12) ⟨ha8, ha12⟩ ⟨rfl, rfl, rfl, rfl⟩ (RLe.refl _) (by dsimp only; first | exact List.Perm.refl _ | exact List.Perm.swap _ _ _)
     ·
      refine WS.eff rfl rfl rfl qD (Ef.buildSliceD (enc := encI) (parts := []) [] tab_ok rfl rfl rfl rfl rfl rfl rfl rfl qD qD (fun a9 => ?_))
      refine ⟨qR, qS, ?_⟩
      refine WA.eff 3 rfl qK rfl rfl qD (Ef.cloneL (enc := encI) 1 tab_ok rfl rfl rfl rfl rfl rfl rfl rfl rfl rfl hw (fun _ _ => rfl) (by dsimp only; omega) qO (fun a8 c8 ha8 => ?_))
      refine ⟨qR, qS, ?_⟩
      refine tP 8 ?_
      refine WA.eff 7 rfl qK rfl rfl qD (Ef.cloneL (enc := encI) 0 tab_ok rfl rfl rfl rfl rfl rfl rfl rfl rfl rfl ht (fun _ _ => rfl) (by dsimp only; omega) qO (fun a12 c12 ha12 => ?_))
      refine ⟨qR, qS, ?_⟩
      refine zCF 9 3 ?_
      refine tP 10 ?_
      refine zCF 11 3 ?_
      refine WA.done qK ?_
      refine WE.cutP (a8, c8, a12, c12) ⟨ha8, ha12⟩ ⟨rfl, rfl, rfl, rfl⟩ (RLe.refl _) (by dsimp only; first | exact List.Perm.refl _ | exact List.Perm.swap _ _ _)
   ·
    refine WS.eff rfl rfl rfl qD (Ef.buildSliceD (enc := encI) (parts := []) [] tab_ok rfl rfl rfl rfl rfl rfl rfl rfl qD qD (fun a9 => ?_))
    refine ⟨qR, qS, ?_⟩
    refine WA.br2 (i := 0) (j := 6) qK ?_ ?_
    ·
     refine WS.eff rfl rfl rfl qD (Ef.buildSliceD (enc := encI) (parts := []) [] tab_ok rfl rfl rfl rfl rfl rfl rfl rfl qD qD (fun a5 => ?_))
     refine ⟨qR, qS, ?_⟩
     refine WA.br2 (i := 3) (j := 6) qK ?_ ?_
     ·
      refine WS.eff rfl rfl rfl qD (Ef.cloneL (enc := encI) 0 tab_ok rfl rfl rfl rfl rfl rfl rfl rfl rfl rfl hw (fun _ _ => rfl) (by dsimp only; omega) qO (fun a8 c8 ha8 => ?_))
      refine ⟨qR, qS, ?_⟩
      refine lL 6 (Rd.add (Rd.blk 3 rfl) _) ?_
      refine tP 8 ?_
      refine WA.eff 7 rfl qK rfl rfl qD (Ef.cloneL (enc := encI) 1 tab_ok rfl rfl rfl rfl rfl rfl rfl rfl rfl rfl ht (fun _ _ => rfl) (by dsimp only; omega) qO (fun a12 c12 ha12 => ?_))
      refine ⟨qR, qS, ?_⟩
      refine zCF 9 3 ?_
      refine tP 10 ?_
      refine zCF 11 3 ?_
      refine WA.done qK ?_
      refine WE.cutP (a8, c8, a12, c12) ⟨ha8, ha12⟩ ⟨rfl, rfl, rfl, rfl⟩ (RLe.refl _) (by dsimp only; first | exact List.Perm.refl _ | exact List.Perm.swap _ _ _)
     ·
      refine sL (Rd.add (Rd.blk 3 rfl) _) ?_
      refine WA.eff 3 rfl qK rfl rfl qD (Ef.cloneL (enc := encI) 0 tab_ok rfl rfl rfl rfl rfl rfl rfl rfl rfl rfl hw (fun _ _ => rfl) (by dsimp only; omega) qO (fun a8 c8 ha8 => ?_))
      refine ⟨qR, qS, ?_⟩
      refine tP 8 ?_
      refine WA.eff 7 rfl qK rfl rfl qD (Ef.cloneL (enc := encI) 1 tab_ok rfl rfl rfl rfl rfl rfl rfl rfl rfl rfl ht (fun _ _ => rfl) (by dsimp only; omega) qO (fun a12 c12 ha12 => ?_))
      refine ⟨qR, qS, ?_⟩
      refine zCF 9 3 ?_
      refine tP 10 ?_
      refine zCF 11 3 ?_
      refine WA.done qK ?_
      refine WE.cutP (a8, c8, a12, c12) ⟨ha8, ha12⟩ ⟨rfl, rfl, rfl, rfl⟩ (RLe.refl _) (by dsimp only; first | exact List.Perm.refl _ | exact List.Perm.swap _ _ _)
    ·
     refine sL (Rd.add (Rd.blk 2 rfl) _) ?_
     refine WA.eff 0 rfl qK rfl rfl qD (Ef.buildSliceD (enc := encI) (parts := []) [] tab_ok rfl rfl rfl rfl rfl rfl rfl rfl qD qD (fun a5 => ?_))
     refine ⟨qR, qS, ?_⟩
     refine WA.eff 3 rfl qK rfl rfl qD (Ef.cloneL (enc := encI) 0 tab_ok rfl rfl rfl rfl rfl rfl rfl rfl rfl rfl hw (fun _ _ => rfl) (by dsimp only; omega) qO (fun a8 c8 ha8 => ?_))
     refine ⟨qR, qS, ?_⟩
     refine tP 8 ?_
     refine WA.eff 7 rfl qK rfl rfl qD (Ef.cloneL (enc := encI) 1 tab_ok rfl rfl rfl rfl rfl rfl rfl rfl rfl rfl ht (fun _ _ => rfl) (by dsimp only; omega) qO (fun a12 c12 ha12 => ?_))
     refine ⟨qR, qS, ?_⟩
     refine zCF 9 3 ?_
     refine tP 10 ?_
     refine zCF 11 3 ?_
     refine WA.done qK ?_
     refine WE.cutP (a8, c8, a12, c12) ⟨ha8, ha12⟩ ⟨rfl, rfl, rfl, rfl⟩ (RLe.refl _) (by dsimp only; first | exact List.Perm.refl _ | exact List.Perm.swap _ _ _)
   ·
    refine sL (Rd.add (Rd.blk 1 rfl) _) ?_
    refine WA.br2 (i := 0) (j := 4) qK ?_ ?_
    ·
     refine WS.eff rfl rfl rfl qD (Ef.buildSliceD (enc := encI) (parts := []) [] tab_ok rfl rfl rfl rfl rfl rfl rfl rfl qD qD (fun a5 => ?_))
     refine ⟨qR, qS, ?_⟩
     refine WA.br2 (i := 3) (j := 4) qK ?_ ?_
     ·
      refine WS.eff rfl rfl rfl qD (Ef.cloneL (enc := encI) 0 tab_ok rfl rfl rfl rfl rfl rfl rfl rfl rfl rfl hw (fun _ _ => rfl) (by dsimp only; omega) qO (fun a8 c8 ha8 => ?_))
      refine ⟨qR, qS, ?_⟩
      refine tP 8 ?_
      refine WA.eff 4 rfl qK rfl rfl qD (Ef.buildSliceD (enc := encI) (parts := []) [] tab_ok rfl rfl rfl rfl rfl rfl rfl rfl qD qD (fun a9 => ?_))
      refine ⟨qR, qS, ?_⟩
      refine WA.eff 7 rfl qK rfl rfl qD (Ef.cloneL (enc := encI) 0 tab_ok rfl rfl rfl rfl rfl rfl rfl rfl rfl rfl ht (fun _ _ => rfl) (by dsimp only; omega) qO (fun a12 c12 ha12 => ?_))
      refine ⟨qR, qS, ?_⟩
      refine zCF 9 3 ?_
      refine tP 10 ?_
      refine zCF 11 3 ?_
      refine WA.done qK ?_
      refine WE.cutP (a8, c8, a12, c12) ⟨ha8, ha12⟩ ⟨rfl, rfl, rfl, rfl⟩ (RLe.refl _) (by dsimp only; first | exact List.Perm.refl _ | exact List.Perm.swap _ _ _)
     ·
      refine WS.eff rfl rfl rfl qD (Ef.buildSliceD (enc := encI) (parts := []) [] tab_ok rfl rfl rfl rfl rfl rfl rfl rfl qD qD (fun a9 => ?_))
      refine ⟨qR, qS, ?_⟩
      refine WA.eff 3 rfl qK rfl rfl qD (Ef.cloneL (enc := encI) 1 tab_ok rfl rfl rfl rfl rfl rfl rfl rfl rfl rfl hw (fun _ _ => rfl) (by dsimp only; omega) qO (fun a8 c8 ha8 => ?_))
      refine ⟨qR, qS, ?_⟩
      refine tP 8 ?_
      refine WA.eff 7 rfl qK rfl rfl qD (Ef.cloneL (enc := encI) 0 tab_ok rfl rfl rfl rfl rfl rfl rfl rfl rfl rfl ht (fun _ _ => rfl) (by dsimp only; omega) qO (fun a12 c12 ha12 => ?_))
      refine ⟨qR, qS, ?_⟩
      refine zCF 9 3 ?_
      refine tP 10 ?_
      refine zCF 11 3 ?_
      refine WA.done qK ?_
      refine WE.cutP (a8, c8, a12, c12) ⟨ha8, ha12⟩ ⟨rfl, rfl, rfl, rfl⟩ (RLe.refl _) (by dsimp only; first | exact List.Perm.refl _ | exact List.Perm.swap _ _ _)
    ·
     refine WS.eff rfl rfl rfl qD (Ef.buildSliceD (enc := encI) (parts := []) [] tab_ok rfl rfl rfl rfl rfl rfl rfl rfl qD qD (fun a9 => ?_))
     refine ⟨qR, qS, ?_⟩
     refine WA.eff 0 rfl qK rfl rfl qD (Ef.buildSliceD (enc := encI) (parts := []) [] tab_ok rfl rfl rfl rfl rfl rfl rfl rfl qD qD (fun a5 => ?_))
     refine ⟨qR, qS, ?_⟩
     refine WA.eff 3 rfl qK rfl rfl qD (Ef.cloneL (enc := encI) 0 tab_ok rfl rfl rfl rfl rfl rfl rfl rfl rfl rfl hw (fun _ _ => rfl) (by dsimp only; omega) qO (fun a8 c8 ha8 => ?_))
     refine ⟨qR, qS, ?_⟩
     refine tP 8 ?_
     refine WA.eff 7 rfl qK rfl rfl qD (Ef.cloneL (enc := encI) 1 tab_ok rfl rfl rfl rfl rfl rfl rfl rfl rfl rfl ht (fun _ _ => rfl) (by dsimp only; omega) qO (fun a12 c12 ha12 => ?_))
     refine ⟨qR, qS, ?_⟩
     refine zCF 9 3 ?_
     refine tP 10 ?_
     refine zCF 11 3 ?_
     refine WA.done qK ?_
     refine WE.cutP (a8, c8, a12, c12) ⟨ha8, ha12⟩ ⟨rfl, rfl, rfl, rfl⟩ (RLe.refl _) (by dsimp only; first | exact List.Perm.refl _ | exact List.Perm.swap _ _ _)
  ·
   refine WS.eff rfl rfl rfl qD (Ef.buildSliceD (enc := encI) (parts := []) [] tab_ok rfl rfl rfl rfl rfl rfl rfl rfl qD qD (fun a9 => ?_))
   refine ⟨qR, qS, ?_⟩
   refine WA.br3 (i := 0) (j := 2) (k := 6) qK ?_ ?_ ?_
   ·
    refine WS.eff rfl rfl rfl qD (Ef.buildSliceD (enc := encI) (parts := []) [] tab_ok rfl rfl rfl rfl rfl rfl rfl rfl qD qD (fun a5 => ?_))
    refine ⟨qR, qS, ?_⟩
    refine WA.br2 (i := 2) (j := 6) qK ?_ ?_
    ·
     refine sL (Rd.add (Rd.blk 3 rfl) _) ?_
     refine WA.br2 (i := 3) (j := 6) qK ?_ ?_
     ·
      refine WS.eff rfl rfl rfl qD (Ef.cloneL (enc := encI) 0 tab_ok rfl rfl rfl rfl rfl rfl rfl rfl rfl rfl hw (fun _ _ => rfl) (by dsimp only; omega) qO (fun a8 c8 ha8 => ?_))
      refine ⟨qR, qS, ?_⟩
      refine lL 6 (Rd.add (Rd.blk 3 rfl) _) ?_
      refine tP 8 ?_
      refine WA.eff 7 rfl qK rfl rfl qD (Ef.cloneL (enc := encI) 1 tab_ok rfl rfl rfl rfl rfl rfl rfl rfl rfl rfl ht (fun _ _ => rfl) (by dsimp only; omega) qO (fun a12 c12 ha12 => ?_))
      refine ⟨qR, qS, ?_⟩
      refine zCF 9 3 ?_
      refine tP 10 ?_
      refine zCF 11 3 ?_
      refine WA.done qK ?_
      refine WE.cutP (a8, c8, a12, c12) ⟨ha8, ha12⟩ ⟨rfl, rfl, rfl, rfl⟩ (RLe.refl _) (by dsimp only; first | exact List.Perm.refl _ | exact List.Perm.swap _ _ _)
     ·
      refine sL (Rd.add (Rd.blk 3 rfl) _) ?_
      refine WA.eff 3 rfl qK rfl rfl qD (Ef.cloneL (enc := encI) 0 tab_ok rfl rfl rfl rfl rfl rfl rfl rfl rfl rfl hw (fun _ _ => rfl) (by dsimp only; omega) qO (fun a8 c8 ha8 => ?_))
      refine ⟨qR, qS, ?_⟩
      refine tP 8 ?_
      refine WA.eff 7 rfl qK rfl rfl qD (Ef.cloneL (enc := encI) 1 tab_ok rfl rfl rfl rfl rfl rfl rfl rfl rfl rfl ht (fun _ _ => rfl) (by dsimp only; omega) qO (fun a12 c12 ha12 => ?_))
      refine ⟨qR, qS, ?_⟩
      refine zCF 9 3 ?_
      refine tP 10 ?_
      refine zCF 11 3 ?_
      refine WA.done qK ?_
      refine WE.cutP (a8, c8, a12, c12) ⟨ha8, ha12⟩ ⟨rfl, rfl, rfl, rfl⟩ (RLe.refl _) (by dsimp only; first | exact List.Perm.refl _ | exact List.Perm.swap _ _ _)
    ·
     refine sL (Rd.add (Rd.blk 3 rfl) _) ?_
     refine lL 2 (Rd.add (Rd.blk 3 rfl) _) ?_
     refine WA.eff 3 rfl qK rfl rfl qD (Ef.cloneL (enc := encI) 0 tab_ok rfl rfl rfl rfl rfl rfl rfl rfl rfl rfl hw (fun _ _ => rfl) (by dsimp only; omega) qO (fun a8 c8 ha8 => ?_))
     refine ⟨qR, qS, ?_⟩
     refine tP 8 ?_
     refine WA.eff 7 rfl qK rfl rfl qD (Ef.cloneL (enc := encI) 1 tab_ok rfl rfl rfl rfl rfl rfl rfl rfl rfl rfl ht (fun _ _ => rfl) (by dsimp only; omega) qO (fun a12 c12 ha12 => ?_))
     refine ⟨qR, qS, ?_⟩
     refine zCF 9 3 ?_
     refine tP 10 ?_
     refine zCF 11 3 ?_
     refine WA.done qK ?_
     refine WE.cutP (a8, c8, a12, c12) ⟨ha8, ha12⟩ ⟨rfl, rfl, rfl, rfl⟩ (RLe.refl _) (by dsimp only; first | exact List.Perm.refl _ | exact List.Perm.swap _ _ _)
   ·
    refine sL (Rd.add (Rd.blk 2 rfl) _) ?_
    refine WA.br2 (i := 0) (j := 6) qK ?_ ?_
    ·
     refine WS.eff rfl rfl rfl qD (Ef.buildSliceD (enc := encI) (parts := []) [] tab_ok rfl rfl rfl rfl rfl rfl rfl rfl qD qD (fun a5 => ?_))
     refine ⟨qR, qS, ?_⟩
     refine WA.br2 (i := 3) (j := 6) qK ?_ ?_
     ·
      refine WS.eff rfl rfl rfl qD (Ef.cloneL (enc := encI) 0 tab_ok rfl rfl rfl rfl rfl rfl rfl rfl rfl rfl hw (fun _ _ => rfl) (by dsimp only; omega) qO (fun a8 c8 ha8 => ?_))
      refine ⟨qR, qS, ?_⟩
      refine lL 6 (Rd.add (Rd.blk 3 rfl) _) ?_
      refine tP 8 ?_
      refine WA.eff 7 rfl qK rfl rfl qD (Ef.cloneL (enc := encI) 1 tab_ok rfl rfl rfl rfl rfl rfl rfl rfl rfl rfl ht (fun _ _ => rfl) (by dsimp only; omega) qO (fun a12 c12 ha12 => ?_))
      refine ⟨qR, qS, ?_⟩
      refine zCF 9 3 ?_
      refine tP 10 ?_
      refine zCF 11 3 ?_
      refine WA.done qK ?_
      refine WE.cutP (a8, c8, a12, c12) ⟨ha8, ha12⟩ ⟨rfl, rfl, rfl, rfl⟩ (RLe.refl _) (by dsimp only; first | exact List.Perm.refl _ | exact List.Perm.swap _ _ _)
     ·
      refine sL (Rd.add (Rd.blk 3 rfl) _) ?_
      refine WA.eff 3 rfl qK rfl rfl qD (Ef.cloneL (enc := encI) 0 tab_ok rfl rfl rfl rfl rfl rfl rfl rfl rfl rfl hw (fun _ _ => rfl) (by dsimp only; omega) qO (fun a8 c8 ha8 => ?_))
      refine ⟨qR, qS, ?_⟩
      refine tP 8 ?_
      refine WA.eff 7 rfl qK rfl rfl qD (Ef.cloneL (enc := encI) 1 tab_ok rfl rfl rfl rfl rfl rfl rfl rfl rfl rfl ht (fun _ _ => rfl) (by dsimp only; omega) qO (fun a12 c12 ha12 => ?_))
      refine ⟨qR, qS, ?_⟩
      refine zCF 9 3 ?_
      refine tP 10 ?_
      refine zCF 11 3 ?_
      refine WA.done qK ?_
      refine WE.cutP (a8, c8, a12, c12) ⟨ha8, ha12⟩ ⟨rfl, rfl, rfl, rfl⟩ (RLe.refl _) (by dsimp only; first | exact List.Perm.refl _ | exact List.Perm.swap _ _ _)
    ·
     refine sL (Rd.add (Rd.blk 2 rfl) _) ?_
     refine WA.eff 0 rfl qK rfl rfl qD (Ef.buildSliceD (enc := encI) (parts := []) [] tab_ok rfl rfl rfl rfl rfl rfl rfl rfl qD qD (fun a5 => ?_))
     refine ⟨qR, qS, ?_⟩
     refine WA.eff 3 rfl qK rfl rfl qD (Ef.cloneL (enc := encI) 0 tab_ok rfl rfl rfl rfl rfl rfl rfl rfl rfl rfl hw (fun _ _ => rfl) (by dsimp only; omega) qO (fun a8 c8 ha8 => ?_))
     refine ⟨qR, qS, ?_⟩
     refine tP 8 ?_
     refine WA.eff 7 rfl qK rfl rfl qD (Ef.cloneL (enc := encI) 1 tab_ok rfl rfl rfl rfl rfl rfl rfl rfl rfl rfl ht (fun _ _ => rfl) (by dsimp only; omega) qO (fun a12 c12 ha12 => ?_))
     refine ⟨qR, qS, ?_⟩
     refine zCF 9 3 ?_
     refine tP 10 ?_
     refine zCF 11 3 ?_
     refine WA.done qK ?_
     refine WE.cutP (a8, c8, a12, c12) ⟨ha8, ha12⟩ ⟨rfl, rfl, rfl, rfl⟩ (RLe.refl _) (by dsimp only; first | exact List.Perm.refl _ | exact List.Perm.swap _ _ _)
   ·
    refine sL (Rd.add (Rd.blk 2 rfl) _) ?_
    refine WA.br2 (i := 0) (j := 2) qK ?_ ?_
    ·
     refine WS.eff rfl rfl rfl qD (Ef.buildSliceD (enc := encI) (parts := []) [] tab_ok rfl rfl rfl rfl rfl rfl rfl rfl qD qD (fun a5 => ?_))
     refine ⟨qR, qS, ?_⟩
     refine lL 2 (Rd.add (Rd.blk 3 rfl) _) ?_
     refine WA.eff 3 rfl qK rfl rfl qD (Ef.cloneL (enc := encI) 0 tab_ok rfl rfl rfl rfl rfl rfl rfl rfl rfl rfl hw (fun _ _ => rfl) (by dsimp only; omega) qO (fun a8 c8 ha8 => ?_))
     refine ⟨qR, qS, ?_⟩
     refine tP 8 ?_
     refine WA.eff 7 rfl qK rfl rfl qD (Ef.cloneL (enc := encI) 1 tab_ok rfl rfl rfl rfl rfl rfl rfl rfl rfl rfl ht (fun _ _ => rfl) (by dsimp only; omega) qO (fun a12 c12 ha12 => ?_))
     refine ⟨qR, qS, ?_⟩
     refine zCF 9 3 ?_
     refine tP 10 ?_
     refine zCF 11 3 ?_
     refine WA.done qK ?_
     refine WE.cutP (a8, c8, a12, c12) ⟨ha8, ha12⟩ ⟨rfl, rfl, rfl, rfl⟩ (RLe.refl _) (by dsimp only; first | exact List.Perm.refl _ | exact List.Perm.swap _ _ _)
    ·
     refine sL (Rd.add (Rd.blk 2 rfl) _) ?_
     refine WA.eff 0 rfl qK rfl rfl qD (Ef.buildSliceD (enc := encI) (parts := []) [] tab_ok rfl rfl rfl rfl rfl rfl rfl rfl qD qD (fun a5 => ?_))
     refine ⟨qR, qS, ?_⟩
     refine WA.eff 3 rfl qK rfl rfl qD (Ef.cloneL (enc := encI) 0 tab_ok rfl rfl rfl rfl rfl rfl rfl rfl rfl rfl hw (fun _ _ => rfl) (by dsimp only; omega) qO (fun a8 c8 ha8 => ?_))
     refine ⟨qR, qS, ?_⟩
     refine tP 8 ?_
     refine WA.eff 7 rfl qK rfl rfl qD (Ef.cloneL (enc := encI) 1 tab_ok rfl rfl rfl rfl rfl rfl rfl rfl rfl rfl ht (fun _ _ => rfl) (by dsimp only; omega) qO (fun a12 c12 ha12 => ?_))
     refine ⟨qR, qS, ?_⟩
     refine zCF 9 3 ?_
     refine tP 10 ?_
     refine zCF 11 3 ?_
     refine WA.done qK ?_
     refine WE.cutP (a8, c8, a12, c12) ⟨ha8, ha12⟩ ⟨rfl, rfl, rfl, rfl⟩ (RLe.refl _) (by dsimp only; first | exact List.Perm.refl _ | exact List.Perm.swap _ _ _)
  ·
   refine sL (Rd.add (Rd.blk 1 rfl) _) ?_
   refine WA.br3 (i := 0) (j := 2) (k := 4) qK ?_ ?_ ?_
   ·
    refine WS.eff rfl rfl rfl qD (Ef.buildSliceD (enc := encI) (parts := []) [] tab_ok rfl rfl rfl rfl rfl rfl rfl rfl qD qD (fun a5 => ?_))
    refine ⟨qR, qS, ?_⟩
    refine WA.br2 (i := 2) (j := 4) qK ?_ ?_
    ·
     refine sL (Rd.add (Rd.blk 2 rfl) _) ?_
     refine WA.br2 (i := 3) (j := 4) qK ?_ ?_
     ·
      refine WS.eff rfl rfl rfl qD (Ef.cloneL (enc := encI) 0 tab_ok rfl rfl rfl rfl rfl rfl rfl rfl rfl rfl hw (fun _ _ => rfl) (by dsimp only; omega) qO (fun a8 c8 ha8 => ?_))
      refine ⟨qR, qS, ?_⟩
      refine tP 8 ?_
      refine WA.eff 4 rfl qK rfl rfl qD (Ef.buildSliceD (enc := encI) (parts := []) [] tab_ok rfl rfl rfl rfl rfl rfl rfl rfl qD qD (fun a9 => ?_))
      refine ⟨qR, qS, ?_⟩
      refine WA.eff 7 rfl qK rfl rfl qD (Ef.cloneL (enc := encI) 0 tab_ok rfl rfl rfl rfl rfl rfl rfl rfl rfl rfl ht (fun _ _ => rfl) (by dsimp only; omega) qO (fun a12 c12 ha12 => ?_))
      refine ⟨qR, qS, ?_⟩
      refine zCF 9 3 ?_
      refine tP 10 ?_
      refine zCF 11 3 ?_
      refine WA.done qK ?_
      refine WE.cutP (a8, c8, a12, c12) ⟨ha8, ha12⟩ ⟨rfl, rfl, rfl, rfl⟩ (RLe.refl _) (by dsimp only; first | exact List.Perm.refl _ | exact List.Perm.swap _ _ _)
     ·
      refine WS.eff rfl rfl rfl qD (Ef.buildSliceD (enc := encI) (parts := []) [] tab_ok rfl rfl rfl rfl rfl rfl rfl rfl qD qD (fun a9 => ?_))
      refine ⟨qR, qS, ?_⟩
      refine WA.eff 3 rfl qK rfl rfl qD (Ef.cloneL (enc := encI) 1 tab_ok rfl rfl rfl rfl rfl rfl rfl rfl rfl rfl hw (fun _ _ => rfl) (by dsimp only; omega) qO (fun a8 c8 ha8 => ?_))
      refine ⟨qR, qS, ?_⟩
      refine tP 8 ?_
      refine WA.eff 7 rfl qK rfl rfl qD (Ef.cloneL (enc := encI) 0 tab_ok rfl rfl rfl rfl rfl rfl rfl rfl rfl rfl ht (fun _ _ => rfl) (by dsimp only; omega) qO (fun a12 c12 ha12 => ?_))
      refine ⟨qR, qS, ?_⟩
      refine zCF 9 3 ?_
      refine tP 10 ?_
      refine zCF 11 3 ?_
      refine WA.done qK ?_
      refine WE.cutP (a8, c8, a12, c12) ⟨ha8, ha12⟩ ⟨rfl, rfl, rfl, rfl⟩ (RLe.refl _) (by dsimp only; first | exact List.Perm.refl _ | exact List.Perm.swap _ _ _)
    ·
     refine WS.eff rfl rfl rfl qD (Ef.buildSliceD (enc := encI) (parts := []) [] tab_ok rfl rfl rfl rfl rfl rfl rfl rfl qD qD (fun a9 => ?_))
     refine ⟨qR, qS, ?_⟩
     refine lL 2 (Rd.add (Rd.blk 3 rfl) _) ?_
     refine WA.eff 3 rfl qK rfl rfl qD (Ef.cloneL (enc := encI) 1 tab_ok rfl rfl rfl rfl rfl rfl rfl rfl rfl rfl hw (fun _ _ => rfl) (by dsimp only; omega) qO (fun a8 c8 ha8 => ?_))
     refine ⟨qR, qS, ?_⟩
     refine tP 8 ?_
     refine WA.eff 7 rfl qK rfl rfl qD (Ef.cloneL (enc := encI) 0 tab_ok rfl rfl rfl rfl rfl rfl rfl rfl rfl rfl ht (fun _ _ => rfl) (by dsimp only; omega) qO (fun a12 c12 ha12 => ?_))
     refine ⟨qR, qS, ?_⟩
     refine zCF 9 3 ?_
     refine tP 10 ?_
     refine zCF 11 3 ?_
     refine WA.done qK ?_
     refine WE.cutP (a8, c8, a12, c12) ⟨ha8, ha12⟩ ⟨rfl, rfl, rfl, rfl⟩ (RLe.refl _) (by dsimp only; first | exact List.Perm.refl _ | exact List.Perm.swap _ _ _)
   ·
    refine sL (Rd.add (Rd.blk 1 rfl) _) ?_
    refine WA.br2 (i := 0) (j := 4) qK ?_ ?_
    ·
     refine WS.eff rfl rfl rfl qD (Ef.buildSliceD (enc := encI) (parts := []) [] tab_ok rfl rfl rfl rfl rfl rfl rfl rfl qD qD (fun a5 => ?_))
     refine ⟨qR, qS, ?_⟩
     refine WA.br2 (i := 3) (j := 4) qK ?_ ?_
     ·
      refine WS.eff rfl rfl rfl qD (Ef.cloneL (enc := encI) 0 tab_ok rfl rfl rfl rfl rfl rfl rfl rfl rfl rfl hw (fun _ _ => rfl) (by dsimp only; omega) qO (fun a8 c8 ha8 => ?_))
      refine ⟨qR, qS, ?_⟩
      refine tP 8 ?_
      refine WA.eff 4 rfl qK rfl rfl qD (Ef.buildSliceD (enc := encI) (parts := []) [] tab_ok rfl rfl rfl rfl rfl rfl rfl rfl qD qD (fun a9 => ?_))
      refine ⟨qR, qS, ?_⟩
      refine WA.eff 7 rfl qK rfl rfl qD (Ef.cloneL (enc := encI) 0 tab_ok rfl rfl rfl rfl rfl rfl rfl rfl rfl rfl ht (fun _ _ => rfl) (by dsimp only; omega) qO (fun a12 c12 ha12 => ?_))
      refine ⟨qR, qS, ?_⟩
      refine zCF 9 3 ?_
      refine tP 10 ?_
      refine zCF 11 3 ?_
      refine WA.done qK ?_
      refine WE.cutP (a8, c8, a12, c12) ⟨ha8, ha12⟩ ⟨rfl, rfl, rfl, rfl⟩ (RLe.refl _) (by dsimp only; first | exact List.Perm.refl _ | exact List.Perm.swap _ _ _)
     ·
      refine WS.eff rfl rfl rfl qD (Ef.buildSliceD (enc := encI) (parts := []) [] tab_ok rfl rfl rfl rfl rfl rfl rfl rfl qD qD (fun a9 => ?_))
      refine ⟨qR, qS, ?_⟩
      refine WA.eff 3 rfl qK rfl rfl qD (Ef.cloneL (enc := encI) 1 tab_ok rfl rfl rfl rfl rfl rfl rfl rfl rfl rfl hw (fun _ _ => rfl) (by dsimp only; omega) qO (fun a8 c8 ha8 => ?_))
      refine ⟨qR, qS, ?_⟩
      refine tP 8 ?_
      refine WA.eff 7 rfl qK rfl rfl qD (Ef.cloneL (enc := encI) 0 tab_ok rfl rfl rfl rfl rfl rfl rfl rfl rfl rfl ht (fun _ _ => rfl) (by dsimp only; omega) qO (fun a12 c12 ha12 => ?_))
      refine ⟨qR, qS, ?_⟩
      refine zCF 9 3 ?_
      refine tP 10 ?_
      refine zCF 11 3 ?_
      refine WA.done qK ?_
      refine WE.cutP (a8, c8, a12, c12) ⟨ha8, ha12⟩ ⟨rfl, rfl, rfl, rfl⟩ (RLe.refl _) (by dsimp only; first | exact List.Perm.refl _ | exact List.Perm.swap _ _ _)
    ·
     refine WS.eff rfl rfl rfl qD (Ef.buildSliceD (enc := encI) (parts := []) [] tab_ok rfl rfl rfl rfl rfl rfl rfl rfl qD qD (fun a9 => ?_))
     refine ⟨qR, qS, ?_⟩
     refine WA.eff 0 rfl qK rfl rfl qD (Ef.buildSliceD (enc := encI) (parts := []) [] tab_ok rfl rfl rfl rfl rfl rfl rfl rfl qD qD (fun a5 => ?_))
     refine ⟨qR, qS, ?_⟩
     refine WA.eff 3 rfl qK rfl rfl qD (Ef.cloneL (enc := encI) 0 tab_ok rfl rfl rfl rfl rfl rfl rfl rfl rfl rfl hw (fun _ _ => rfl) (by dsimp only; omega) qO (fun a8 c8 ha8 => ?_))
     refine ⟨qR, qS, ?_⟩
     refine tP 8 ?_
     refine WA.eff 7 rfl qK rfl rfl qD (Ef.cloneL (enc := encI) 1 tab_ok rfl rfl rfl rfl rfl rfl rfl rfl rfl rfl ht (fun _ _ => rfl) (by dsimp only; omega) qO (fun a12 c12 ha12 => ?_))
     refine ⟨qR, qS, ?_⟩
     refine zCF 9 3 ?_
     refine tP 10 ?_
     refine zCF 11 3 ?_
     refine WA.done qK ?_
     refine WE.cutP (a8, c8, a12, c12) ⟨ha8, ha12⟩ ⟨rfl, rfl, rfl, rfl⟩ (RLe.refl _) (by dsimp only; first | exact List.Perm.refl _ | exact List.Perm.swap _ _ _)
   ·
    refine WS.eff rfl rfl rfl qD (Ef.buildSliceD (enc := encI) (parts := []) [] tab_ok rfl rfl rfl rfl rfl rfl rfl rfl qD qD (fun a9 => ?_))
    refine ⟨qR, qS, ?_⟩
    refine WA.br2 (i := 0) (j := 2) qK ?_ ?_
    ·
     refine WS.eff rfl rfl rfl qD (Ef.buildSliceD (enc := encI) (parts := []) [] tab_ok rfl rfl rfl rfl rfl rfl rfl rfl qD qD (fun a5 => ?_))
     refine ⟨qR, qS, ?_⟩
     refine lL 2 (Rd.add (Rd.blk 3 rfl) _) ?_
     refine WA.eff 3 rfl qK rfl rfl qD (Ef.cloneL (enc := encI) 0 tab_ok rfl rfl rfl rfl rfl rfl rfl rfl rfl rfl hw (fun _ _ => rfl) (by dsimp only; omega) qO (fun a8 c8 ha8 => ?_))
     refine ⟨qR, qS, ?_⟩
     refine tP 8 ?_
     refine WA.eff 7 rfl qK rfl rfl qD (Ef.cloneL (enc := encI) 1 tab_ok rfl rfl rfl rfl rfl rfl rfl rfl rfl rfl ht (fun _ _ => rfl) (by dsimp only; omega) qO (fun a12 c12 ha12 => ?_))
     refine ⟨qR, qS, ?_⟩
     refine zCF 9 3 ?_
     refine tP 10 ?_
     refine zCF 11 3 ?_
     refine WA.done qK ?_
     refine WE.cutP (a8, c8, a12, c12) ⟨ha8, ha12⟩ ⟨rfl, rfl, rfl, rfl⟩ (RLe.refl _) (by dsimp only; first | exact List.Perm.refl _ | exact List.Perm.swap _ _ _)
    ·
     refine sL (Rd.add (Rd.blk 2 rfl) _) ?_
     refine WA.eff 0 rfl qK rfl rfl qD (Ef.buildSliceD (enc := encI) (parts := []) [] tab_ok rfl rfl rfl rfl rfl rfl rfl rfl qD qD (fun a5 => ?_))
     refine ⟨qR, qS, ?_⟩
     refine WA.eff 3 rfl qK rfl rfl qD (Ef.cloneL (enc := encI) 0 tab_ok rfl rfl rfl rfl rfl rfl rfl rfl rfl rfl hw (fun _ _ => rfl) (by dsimp only; omega) qO (fun a8 c8 ha8 => ?_))
     refine ⟨qR, qS, ?_⟩
     refine tP 8 ?_
     refine WA.eff 7 rfl qK rfl rfl qD (Ef.cloneL (enc := encI) 1 tab_ok rfl rfl rfl rfl rfl rfl rfl rfl rfl rfl ht (fun _ _ => rfl) (by dsimp only; omega) qO (fun a12 c12 ha12 => ?_))
     refine ⟨qR, qS, ?_⟩
     refine zCF 9 3 ?_
     refine tP 10 ?_
     refine zCF 11 3 ?_
     refine WA.done qK ?_
     refine WE.cutP (a8, c8, a12, c12) ⟨ha8, ha12⟩ ⟨rfl, rfl, rfl, rfl⟩ (RLe.refl _) (by dsimp only; first | exact List.Perm.refl _ | exact List.Perm.swap _ _ _)



set_option maxHeartbeats 4000000 in
theorem ServerRuns_F {R : Ro} {m0 m1 : LnM} {la : Option Addr} {lc : Nat} {list : List Pkt} {z3 : Int} {a : Option Addr} {c : Nat} {xs : List Int} (h0 : OkLn R m0) (h1 : OkLn R m1) (hlist : RS R 3 encP la list) (hlc : list.length ≤ lc) (ha : RS R 1 encI a xs) (hc : xs.length ≤ c) (w0 : World) : K.Fn Tryz.prog 6 [.agg #[.int .i64 m0.L.kind, .int .i64 m0.L.cap, .int .i64 m0.L.n, .slice m0.a1 m0.L.w.length m0.c1, .slice m0.a2 m0.L.tb.length m0.c2], .agg #[.int .i64 m1.L.kind, .int .i64 m1.L.cap, .int .i64 m1.L.n, .slice m1.a1 m1.L.w.length m1.c1, .slice m1.a2 m1.L.tb.length m1.c2], .slice la list.length lc, .int .i64 z3, .slice a xs.length c] w0 R [] (fun v _ _ => v = .bool true) := by
 have hll := hlist.len
 refine fE 125 Tryz.func6 ?_
 refine zQ (zG ?_)
 refine zO fun b5 => ?_
 refine zO fun b6 => ?_
 refine WL.freezeBlk 0 rfl ?_
 intro R0 hR0 hb6
 refine WL.freezeBlk 0 rfl ?_
 intro R0b hR0b hb5
 have hb6 := hR0b _ _ hb6
 have hR00 := hR0.trans hR0b
 have h0 := h0.mono hR00
 have h1 := h1.mono hR00
 have hlist := hlist.mono hR00
 have ha := ha.mono hR00
 refine zR 1 rfl (zN (zU ?_))
 refine W.seqCut (β := List Pkt) (fun st => K.RS R0b 3 encP la st ∧ st.length ≤ 70) (fun st => [(2, true, .slice la st.length lc), (3, true, .int .i64 z3), (4, true, .slice a xs.length c), (5, true, .pointer (some ⟨b5, 0, none⟩)), (6, true, .pointer (some ⟨b6, 0, none⟩))]) (fun _ => R0b) (fun _ => []) ?_ ?_
 ·
  intro st hst
  obtain ⟨hq70, hql⟩ := hst
  (try dsimp only at hq70 hql); (try dsimp only)
  clear hlist
  obtain ⟨qs0, hqs0⟩ : ∃ q, q = st := ⟨_, rfl⟩
  subst hqs0
  refine zQ (zG (zR 1 rfl ?_))
  refine WL.call en8 rfl rfl qD (CallOp.mkT rfl rfl rfl rfl) (New_C w0 _ hc) ?_
  rintro _ _ _ - ⟨b, rfl, rfl, rfl⟩
  have hz := ha.take 2000
  refine zR 1 rfl (zN (zU (zQ (zG (zR 1 rfl ?_)))))
  refine WL.callAt 0 en10 rfl rfl qD (CallOp.mkT rfl rfl rfl rfl) rfl (Traffic_C w0 hz qD (by constructor <;> decide) qD _) ?_
  rintro _ _ _ _ - ⟨a2, c2, rfl, rfl, rfl, rfl⟩
  refine WL.freeze (enc := encP) (xs := (traffic (xs.take 2000) 12 3 40 0)) 0 rfl ?_
  intro R1 hR1 hp
  have hz := hz.mono hR1
  have hok := traffic_ok (xs.take 2000) (n := 12) (flows := 3) (most := 40) (by decide) (by decide) (by decide) 0
  have hat := traffic_at (xs.take 2000) (n := 12) (flows := 3) (most := 40) (by decide) (by decide) (by decide) 0
  have hlt := traffic_len (xs.take 2000) (n := 12) (flows := 3) (most := 40) (by decide) 0
  generalize (traffic (xs.take 2000) 12 3 40 0) = ps at hp hok hat hlt ⊢
  generalize 0 + 1 + 3 * trafficK (xs.take 2000) 12 0 = cn1
  refine zR 1 rfl ?_
  refine WL.callAt 0 en9 rfl rfl qD (CallOp.mkT rfl rfl rfl rfl) rfl (DrawC_C w0 hz _) ?_
  rintro _ R2 _ _ hR2 ⟨L, aw, at_, cw, ct, cn, rfl, hw, ht, hL, hct, rfl, rfl⟩
  have hz := hz.mono hR2
  have hp := hp.mono hR2
  refine zA fun b13 => ?_
  refine zR 1 rfl ?_
  refine zE 0 ?_
  refine zN (zU (zQ ?_))
  refine W.freezeBlk 0 rfl ?_
  intro R2c hR2c hb13
  have hR02 := hR1.trans (hR2.trans hR2c)
  have hb5 := hR02 _ _ hb5
  have hb6 := hR02 _ _ hb6
  have h0 := h0.mono hR02
  have h1 := h1.mono hR02
  have hq70 := hq70.mono hR02
  have hz := hz.mono hR2c
  have hp := hp.mono hR2c
  have hw := hw.mono hR2c
  have ht := ht.mono hR2c
  refine zQ ?_
  refine W.regionH _ (ES := []) mixed ?_
  refine' WA.take 0 rfl qK qK qK rfl rfl qD (Yl.load1 tab_ok rfl rfl rfl (fun _ => rfl) ?r1 rfl ?h1) qS qR ?_
  case r1 => exact Rd.ro hb13
  case h1 => rfl
  refine' WA.take 1 rfl qK qK qK rfl rfl qD (Yl.load1 tab_ok rfl rfl rfl (fun _ => rfl) ?r2 rfl ?h2) qS qR ?_
  case r2 => exact Rd.ro hb5
  case h2 => rfl
  refine' WA.take 2 rfl qK qK qK rfl rfl qD (Yl.load1 tab_ok rfl rfl rfl (fun _ => rfl) ?r3 rfl ?h3) qS qR ?_
  case r3 => exact Rd.ro hb6
  case h3 => rfl
  refine tP 3 ?_
  refine' WA.take 4 rfl qK qK qK rfl rfl qD (Yl.load1 tab_ok rfl rfl rfl (fun _ => rfl) ?r4 rfl ?h4) qS qR ?_
  case r4 => exact Rd.ro hb13
  case h4 => rfl
  refine tP 6 ?_
  refine tP 7 ?_
  refine' WA.take 8 rfl qK qK qK rfl rfl qD (Yl.load1 tab_ok rfl rfl rfl (fun _ => rfl) ?r5 rfl ?h5) qS qR ?_
  case r5 => exact Rd.ro hb13
  case h5 => rfl
  refine tP 13 ?_
  refine WA.callAt 0 5 rfl qK en26 rfl rfl qD (CallOp.mkT rfl rfl rfl rfl) rfl (BentL_C (K := 42) (L := (⟨aw, cw, at_, ct, L⟩ : LnM).L) w0 hz hw ht qD hL.lens.1 hL.lens.2 _) ?_
  rintro _ Ra E2 N2 hRa ⟨Ma, bwa, bta, dwa, dta, cna, rfl, hbwa, hbta, hlwa, hlta, rfl, rfl⟩
  have hR9 := hRa
  refine ⟨hR9, qS, ?_⟩
  have hz := hz.mono hRa
  have hw := hw.mono hRa
  have ht := ht.mono hRa
  refine WA.callAt 0 9 rfl qK en26 rfl rfl qD (CallOp.mkT rfl rfl rfl rfl) rfl (BentL_C (K := 42) (L := (⟨aw, cw, at_, ct, L⟩ : LnM).L) w0 hz hw ht qD hL.lens.1 hL.lens.2 _) ?_
  rintro _ Rb E2 N2 hRb ⟨Mb, bwb, btb, dwb, dtb, cnb, rfl, hbwb, hbtb, hlwb, hltb, rfl, rfl⟩
  have hR9 := hRa.trans hRb
  refine ⟨hR9, qS, ?_⟩
  have hz := hz.mono hRb
  have hw := hw.mono hRb
  have ht := ht.mono hRb
  have hbwa := hbwa.mono hRb
  have hbta := hbta.mono hRb
  refine WA.callAt 0 10 rfl qK en26 rfl rfl qD (CallOp.mkT rfl rfl rfl rfl) rfl (BentL_C (K := 43) (L := (⟨bwb, dwb, btb, dtb, Mb⟩ : LnM).L) w0 hz hbwb hbtb qD hlwb hltb _) ?_
  rintro _ Rc E2 N2 hRc ⟨Mc, bwc, btc, dwc, dtc, cnc, rfl, hbwc, hbtc, hlwc, hltc, rfl, rfl⟩
  have hR9 := hRa.trans (hRb.trans hRc)
  refine ⟨hR9, qS, ?_⟩
  have hz := hz.mono hRc
  have hw := hw.mono hRc
  have ht := ht.mono hRc
  have hbwa := hbwa.mono hRc
  have hbta := hbta.mono hRc
  have hbwb := hbwb.mono hRc
  have hbtb := hbtb.mono hRc
  refine WA.eff 11 rfl qK rfl rfl qD (Ef.buildSliceD (enc := encLn) (parts := [.tmp 35, .tmp 36, .tmp 37, .tmp 40, .tmp 45]) [(⟨aw, cw, at_, ct, L⟩ : LnM), m0, m1, (⟨bwa, dwa, bta, dta, Ma⟩ : LnM), (⟨bwc, dwc, btc, dtc, Mc⟩ : LnM)] tab_ok rfl rfl rfl rfl rfl rfl rfl rfl qD qD (fun a46 => ?_))
  refine ⟨qR, qS, ?_⟩
  refine WA.freeze (enc := encLn) 0 rfl ?_
  intro R3 hR3 hyl0
  have hR93 := hR9.trans hR3
  obtain ⟨yl, hyl0, hyll, hyl⟩ : ∃ yl : List LnM, K.RS R3 5 encLn (some ⟨a46, 0, none⟩) yl ∧ yl.length = 5 ∧ ∀ y ∈ yl, OkLn R3 y := ⟨_, hyl0, rfl, fun y hy => by
   simp only [List.mem_cons, List.not_mem_nil, or_false] at hy
   rcases hy with rfl | rfl | rfl | rfl | rfl
   ·exact ⟨hw.mono hR3, ht.mono hR3⟩
   ·exact h0.mono hR93
   ·exact h1.mono hR93
   ·exact ⟨hbwa.mono hR3, hbta.mono hR3⟩
   ·exact ⟨hbwc.mono hR3, hbtc.mono hR3⟩⟩
  have hx : OkLn R3 (⟨aw, cw, at_, ct, L⟩ : LnM) := ⟨hw.mono hR3, ht.mono hR3⟩
  have g0 := h0.mono hR93
  have gb5 := hR93 _ _ hb5
  have gb13 := hR93 _ _ hb13
  have gq := hq70.mono hR93
  have gz := hz.mono hR3
  have gp := hp.mono hR93
  refine tP 12 ?_
  refine WA.done qK ?_
  refine zU (zB ?_)
  refine W.loop (β := Ro × Nat × Nat) (fun (Rk, j, cn) => j ≤ 5 ∧ RLe R3 Rk) (fun (Rk, j, cn) => [(2, true, .slice la qs0.length lc), (3, true, .int .i64 z3), (5, true, .pointer (some ⟨b5, 0, none⟩)), (6, true, .pointer (some ⟨b6, 0, none⟩)), (11, true, .pointer (some ⟨b, 0, none⟩)), (12, true, .slice a2 ps.length c2), (13, true, .pointer (some ⟨b13, 0, none⟩)), (46, true, .slice (some ⟨a46, 0, none⟩) 5 5), (47, true, .int .i64 ((5 : Nat) : Int)), (48, true, .int .i64 (j : Int))]) (fun (Rk, _, _) => Rk) (fun (Rk, j, cn) => [srcE b a c (xs.take 2000) (cn)]) (fun (Rk, j, cn) => 5 - j) ((R3, 0, _)) (⟨Nat.zero_le _, RLe.refl _⟩) ⟨rfl, rfl, rfl, rfl, rfl, rfl, rfl, rfl, rfl, rfl, rfl⟩ (RLe.refl _) qS ?_
  intro st hst
  obtain ⟨Rk, j, cn⟩ := st
  obtain ⟨hj, hRk⟩ := hst
  dsimp only at hj hRk ⊢
  have h0 := g0.mono hRk
  have hx := hx.mono hRk
  have hb5 := hRk _ _ gb5
  have hb13 := hRk _ _ gb13
  have hq := gq.mono hRk
  have hz := gz.mono hRk
  have hp := gp.mono hRk
  refine zQ (zG (zR 1 rfl (zN (zU (zQ ?_)))))
  refine W.condD rfl (fun hc0 => ?_) (fun hc0 => ?_)
  ·try dsimp only at hc0
   have hjl : j < yl.length := by omega
   have hy := hyl _ (nth_mem hjl)
   have hy := hy.mono hRk
   have hyl1 := hyl0.mono hRk
   refine zK (zU (zQ (zB (zQ (zG ?_)))))
   refine WG.y rfl rfl qD (Yl.indexN tab_ok rfl rfl rfl rfl rfl rfl (fun _ => rfl) qN qH) ?_
   refine yR ?_
   refine zA fun b15 => ?_
   refine zE 0 ?_
   refine zN (zU (zQ ?_))
   refine W.freezeBlk 0 rfl ?_
   intro R15 hR15 hb15
   have h0 := h0.mono hR15
   have hx := hx.mono hR15
   have hq := hq.mono hR15
   have hz := hz.mono hR15
   have hp := hp.mono hR15
   have hy := hy.mono hR15
   have hb5 := hR15 _ _ hb5
   have hb13 := hR15 _ _ hb13
   refine zQ ?_
   refine W.regionH _ (ES := []) mixed ?_
   refine' WA.take 0 rfl qK qK qK rfl rfl qD (Yl.load1 tab_ok rfl rfl rfl (fun _ => rfl) ?r7 rfl ?h7) qS qR ?_
   case r7 => exact Rd.ro hb15
   case h7 => rfl
   refine' WA.take 2 rfl qK qK qK rfl rfl qD (Yl.load1 tab_ok rfl rfl rfl (fun _ => rfl) ?r8 rfl ?h8) qS qR ?_
   case r8 => exact Rd.ro hb15
   case h8 => rfl
   refine WA.callV 1 rfl qK en27 rfl rfl qD (CallOp.mk' rfl rfl rfl rfl) (fun _ => rfl) (fun hg => ChkSrv_V hy.1 rfl hy.2 rfl) qS qR ?_
   refine WA.callV 3 rfl qK en28 rfl rfl qD (CallOp.mk' rfl rfl rfl rfl) (fun _ => rfl) (fun hg => Chk22_V hy.1 rfl hy.2 rfl) qS qR ?_
   refine tP 4 ?_
   refine tP 5 ?_
   refine' WA.take 6 rfl qK qK qK rfl rfl qD (Yl.loadG tab_ok rfl rfl rfl qE ?r9 rfl ?h9 ?g9) qS qR ?_
   case r9 => exact fun (_ : _) => Rd.ro hb13
   case h9 => rfl
   case g9 => exact fun _ => trivial
   refine' WA.take 7 rfl qK qK qK rfl rfl qD (Yl.loadG tab_ok rfl rfl rfl qE ?r10 rfl ?h10 ?g10) qS qR ?_
   case r10 => exact fun (_ : _) => Rd.ro hb15
   case h10 => rfl
   case g10 => exact fun _ => trivial
   refine' WA.take 9 rfl qK qK qK rfl rfl qD (Yl.loadG tab_ok rfl rfl rfl qE ?r11 rfl ?h11 ?g11) qS qR ?_
   case r11 => exact fun (_ : _) => Rd.ro hb13
   case h11 => rfl
   case g11 => exact fun _ => trivial
   refine' WA.take 10 rfl qK qK qK rfl rfl qD (Yl.loadG tab_ok rfl rfl rfl qE ?r12 rfl ?h12 ?g12) qS qR ?_
   case r12 => exact fun (_ : _) => Rd.ro hb15
   case h12 => rfl
   case g12 => exact fun _ => trivial
   refine WA.callV 8 rfl qK en29 rfl rfl qD (CallOp.mk' rfl rfl rfl rfl) qE (fun hg => SameS_V hx.1 rfl hx.2 rfl hy.1 rfl hy.2 rfl) qS qR ?_
   refine WA.callV 11 rfl qK en30 rfl rfl qD (CallOp.mk' rfl rfl rfl rfl) qE (fun hg => Same22_V hx.1 rfl hx.2 rfl hy.1 rfl hy.2 rfl) qS qR ?_
   refine WA.take 12 rfl qK qK qK rfl rfl qD (Yl.neB tab_ok rfl rfl rfl rfl rfl qE) qS qR ?_
   refine WA.take 13 rfl (by kernel_rfl) (by kernel_rfl) (by kernel_rfl) rfl rfl (by decide) (Yl.por rfl rfl rfl (fun _ => rfl) (by intro h1 h2; simp_all <;> omega)) qS (by first | exact RLe.refl _ | assumption) ?_
   refine tP 14 ?_
   refine' WA.take 15 rfl qK qK qK rfl rfl qD (Yl.loadG tab_ok rfl rfl rfl qE ?r13 rfl ?h13 ?g13) qS qR ?_
   case r13 => exact fun (_ : _) => Rd.ro hb5
   case h13 => rfl
   case g13 => exact fun _ => trivial
   refine' WA.take 16 rfl qK qK qK rfl rfl qD (Yl.loadG tab_ok rfl rfl rfl qE ?r14 rfl ?h14 ?g14) qS qR ?_
   case r14 => exact fun (_ : _) => Rd.ro hb15
   case h14 => rfl
   case g14 => exact fun _ => trivial
   refine' WA.take 18 rfl qK qK qK rfl rfl qD (Yl.loadG tab_ok rfl rfl rfl qE ?r15 rfl ?h15 ?g15) qS qR ?_
   case r15 => exact fun (_ : _) => Rd.ro hb5
   case h15 => rfl
   case g15 => exact fun _ => trivial
   refine' WA.take 19 rfl qK qK qK rfl rfl qD (Yl.loadG tab_ok rfl rfl rfl qE ?r16 rfl ?h16 ?g16) qS qR ?_
   case r16 => exact fun (_ : _) => Rd.ro hb15
   case h16 => rfl
   case g16 => exact fun _ => trivial
   refine WA.callV 17 rfl qK en29 rfl rfl qD (CallOp.mk' rfl rfl rfl rfl) qE (fun hg => SameS_V h0.1 rfl h0.2 rfl hy.1 rfl hy.2 rfl) qS qR ?_
   refine WA.callV 20 rfl qK en30 rfl rfl qD (CallOp.mk' rfl rfl rfl rfl) qE (fun hg => Same22_V h0.1 rfl h0.2 rfl hy.1 rfl hy.2 rfl) qS qR ?_
   refine WA.take 21 rfl qK qK qK rfl rfl qD (Yl.neB tab_ok rfl rfl rfl rfl rfl qE) qS qR ?_
   refine WA.take 22 rfl (by kernel_rfl) (by kernel_rfl) (by kernel_rfl) rfl rfl (by decide) (Yl.por rfl rfl rfl (fun _ => rfl) (by intro h1 h2; simp_all <;> omega)) qS (by first | exact RLe.refl _ | assumption) ?_
   refine WA.done qK ?_
   refine zU ?_
   refine W.cond rfl (fun hc1 => ?_) (fun hc1 => ?_)
   ·try simp only [zk] at hc1
    (simp at hc1; done)
   ·try simp only [zk] at hc1
    refine zK (zU (zQ (zG (zR 4 rfl ?_))))
    refine WL.callAt 0 en31 rfl rfl qD (CallOp.mkT rfl rfl rfl rfl) rfl (Broken_C w0 hz hp rfl qO _) ?_
    rintro _ R2b _ _ hR2b ⟨a79, c79, cn0, qs, rfl, hqs, rfl, rfl⟩
    have hq := hq.mono hR2b
    have hz := hz.mono hR2b
    have hp := hp.mono hR2b
    have hy := hy.mono hR2b
    have hb15 := hR2b _ _ hb15
    refine WL.ef rfl rfl qD (Ef.buildSliceD (enc := encL) (parts := [.tmp 75, .tmp 76, .tmp 79]) [(⟨a2, c2, ps⟩ : SlP), ⟨la, lc, qs0⟩, ⟨a79, c79, qs⟩] tab_ok rfl rfl rfl rfl rfl rfl rfl rfl qD qD (fun a80 => ?_))
    refine WL.freeze (enc := encL) 0 rfl ?_
    intro R4 hR4 htl0
    obtain ⟨tl, htl0, htll, htl⟩ : ∃ tl : List SlP, K.RS R4 1 encL (some ⟨a80, 0, none⟩) tl ∧ tl.length = 3 ∧ ∀ s ∈ tl, K.RS R4 3 encP s.a s.xs := ⟨_, htl0, rfl, fun s hs => by
     simp only [List.mem_cons, List.not_mem_nil, or_false] at hs
     rcases hs with rfl | rfl | rfl
     ·exact hp.mono hR4
     ·exact hq.mono hR4
     ·exact hqs.mono hR4⟩
    have hz4 := hz.mono hR4
    have hy4 := hy.mono hR4
    have hb4 := hR4 _ _ hb15
    refine zR 2 rfl (zN (zU (zB ?_)))
    refine W.loop (β := Ro × Nat × Nat) (fun (Rk, i, cn) => i ≤ 3 ∧ RLe R4 Rk) (fun (Rk, i, cn) => [(2, true, .slice la qs0.length lc), (3, true, .int .i64 z3), (5, true, .pointer (some ⟨b5, 0, none⟩)), (6, true, .pointer (some ⟨b6, 0, none⟩)), (11, true, .pointer (some ⟨b, 0, none⟩)), (12, true, .slice a2 ps.length c2), (13, true, .pointer (some ⟨b13, 0, none⟩)), (46, true, .slice (some ⟨a46, 0, none⟩) 5 5), (47, true, .int .i64 ((5 : Nat) : Int)), (48, true, .int .i64 (j : Int)), (15, true, .pointer (some ⟨b15, 0, none⟩)), (80, true, .slice (some ⟨a80, 0, none⟩) 3 3), (81, true, .int .i64 ((3 : Nat) : Int)), (82, true, .int .i64 (i : Int))]) (fun (Rk, _, _) => Rk) (fun (Rk, i, cn) => [srcE b a c (xs.take 2000) (cn)]) (fun (Rk, i, cn) => 3 - i) ((R4, 0, _)) (⟨Nat.zero_le _, RLe.refl _⟩) ⟨rfl, rfl, rfl, rfl, rfl, rfl, rfl, rfl, rfl, rfl, rfl, rfl, rfl, rfl, rfl⟩ (RLe.refl _) qS ?_
    intro st hst
    obtain ⟨Rk1, i, cnb⟩ := st
    obtain ⟨hi, hRk1⟩ := hst
    dsimp only at hi hRk1 ⊢
    have hz := hz4.mono hRk1
    refine zQ (zG (zR 1 rfl (zN (zU (zQ ?_)))))
    refine W.condD rfl (fun hc2 => ?_) (fun hc2 => ?_)
    ·try dsimp only at hc2
     have hil : i < tl.length := by omega
     have hql := htl _ (nth_mem hil)
     have htl1 := htl0.mono hRk1
     refine zK (zU (zQ (zB (zQ (zG ?_)))))
     refine WG.y rfl rfl qD (Yl.indexN tab_ok rfl rfl rfl rfl rfl rfl (fun _ => rfl) qN qH) ?_
     refine yR ?_
     refine zR 1 rfl (zN (zU (zQ (zG (zR 1 rfl ?_)))))
     refine WL.callAt 0 en23 rfl rfl qD (CallOp.mkT rfl rfl rfl rfl) rfl (N_C w0 hz (by constructor <;> decide) _) ?_
     rintro _ _ _ _ - ⟨rfl, rfl, rfl, rfl⟩
     refine zR 2 rfl ?_
     refine WL.ef rfl rfl qD (Ef.buildSliceD (enc := encI) (parts := [.const (.int .i64 (-1)), .const (.int .i64 0), .const (.int .i64 300), .const (.int .i64 2001)]) [_, _, _, _] tab_ok rfl rfl rfl rfl rfl rfl rfl rfl qD qD (fun a90 => ?_))
     refine WL.callAt 1 en32 rfl rfl qD (CallOp.mkT rfl rfl rfl rfl) rfl (PickN_C (j := 0) w0 [-1, 0, 300, 2001] rfl qD qD hz rfl) ?_
     rintro _ _ _ _ - ⟨rfl, rfl, rfl, rfl⟩
     refine WL.ef rfl rfl qD (Ef.buildSliceD (enc := encI) (parts := [.tmp 87, .tmp 88, .tmp 91]) [_, _, _] tab_ok rfl rfl rfl rfl rfl rfl rfl rfl qD qD (fun a92 => ?_))
     refine WL.freeze (enc := encI) 0 rfl ?_
     intro R7 hR7 htz
     obtain ⟨tz, htz, htzl⟩ : ∃ tz : List Int, K.RS R7 1 encI (some ⟨a92, 0, none⟩) tz ∧ tz.length = 3 := ⟨_, htz, rfl⟩
     have hq7 := hql.mono (hRk1.trans hR7)
     have hy7 := hy4.mono (hRk1.trans hR7)
     have hz7 := hz.mono hR7
     have hb7 := hR7 _ _ (hRk1 _ _ hb4)
     refine zR 2 rfl (zN (zU (zB ?_)))
     refine W.loop (β := Ro × Nat × Nat) (fun (Rk, k, cn) => k ≤ 3 ∧ RLe R7 Rk) (fun (Rk, k, cn) => [(2, true, .slice la qs0.length lc), (3, true, .int .i64 z3), (5, true, .pointer (some ⟨b5, 0, none⟩)), (6, true, .pointer (some ⟨b6, 0, none⟩)), (11, true, .pointer (some ⟨b, 0, none⟩)), (12, true, .slice a2 ps.length c2), (13, true, .pointer (some ⟨b13, 0, none⟩)), (46, true, .slice (some ⟨a46, 0, none⟩) 5 5), (47, true, .int .i64 ((5 : Nat) : Int)), (48, true, .int .i64 (j : Int)), (15, true, .pointer (some ⟨b15, 0, none⟩)), (80, true, .slice (some ⟨a80, 0, none⟩) 3 3), (81, true, .int .i64 ((3 : Nat) : Int)), (82, true, .int .i64 (i : Int)), (17, true, .slice (nth tl i).a (nth tl i).xs.length (nth tl i).cap), (92, true, .slice (some ⟨a92, 0, none⟩) 3 3), (93, true, .int .i64 ((3 : Nat) : Int)), (94, true, .int .i64 (k : Int))]) (fun (Rk, _, _) => Rk) (fun (Rk, k, cn) => [srcE b a c (xs.take 2000) (cn)]) (fun (Rk, k, cn) => 3 - k) ((R7, 0, _)) (⟨Nat.zero_le _, RLe.refl _⟩) ⟨rfl, rfl, rfl, rfl, rfl, rfl, rfl, rfl, rfl, rfl, rfl, rfl, rfl, rfl, rfl, rfl, rfl, rfl, rfl⟩ (RLe.refl _) qS ?_
     intro st hst
     obtain ⟨Rk2, k, cnc⟩ := st
     obtain ⟨hk, hRk2⟩ := hst
     dsimp only at hk hRk2 ⊢
     refine zQ (zG (zR 1 rfl (zN (zU (zQ ?_)))))
     refine W.condD rfl (fun hc3 => ?_) (fun hc3 => ?_)
     ·try dsimp only at hc3
      have hkl : k < tz.length := by omega
      have htz1 := htz.mono hRk2
      have hq := hq7.mono hRk2
      have hy := hy7.mono hRk2
      refine zK (zU (zQ (zB (zQ (zG ?_)))))
      refine WG.y rfl rfl qD (Yl.indexN tab_ok rfl rfl rfl rfl rfl rfl (fun _ => rfl) qN qH) ?_
      refine yR ?_
      refine zR 1 rfl (zN (zU (zQ (zG ?_))))
      refine' WG.y rfl rfl qD (Yl.load1 tab_ok rfl rfl rfl (fun _ => rfl) ?r19 rfl ?h19) ?_
      case r19 => exact Rd.ro (hRk2 _ _ hb7)
      case h19 => rfl
      refine zR 2 rfl ?_
      refine WL.call en13 rfl rfl qD (CallOp.mkT rfl rfl rfl rfl) (RunSrv_C (L := (nth yl j).L) hq rfl hy.1 rfl hy.2 rfl w0 _) ?_
      rintro _ R5 _ hR5 ⟨d1, o1, dc1, oc1, rows1, rfl, hd1, ho1, hr1, hx1, hcp, hsub1⟩
      refine WL.subE hsub1 ?_
      have hq := hq.mono hR5
      have hy := hy.mono hR5
      refine zR 3 rfl ?_
      refine zA fun b20 => ?_
      refine zE 0 ?_
      refine zR 1 rfl (zN (zU (zQ (zG ?_))))
      refine' WG.y rfl rfl qD (Yl.load1 tab_ok rfl rfl rfl (fun _ => rfl) ?r20 rfl ?h20) ?_
      case r20 => exact Rd.ro (hR5 _ _ (hRk2 _ _ hb7))
      case h20 => rfl
      refine zR 2 rfl ?_
      refine WL.call en33 rfl rfl qD (CallOp.mkT rfl rfl rfl rfl) (Run22_C (L := (nth yl j).L) hq rfl hy.1 rfl hy.2 rfl w0 _) ?_
      rintro _ R6 _ hR6 ⟨d2, o2, dc2, oc2, rows2, rfl, hd2, ho2, hr2, hx2, hsub2⟩
      refine WL.subE hsub2 ?_
      
      refine zR 3 rfl ?_
      refine zA fun b22 => ?_
      refine zE 0 ?_
      refine zR 1 rfl (zN (zU (zQ (zG (zR 4 rfl ?_)))))
      refine yG (Rd.blkC 1 rfl) ?_
      refine yG (Rd.blkC 0 rfl) ?_
      refine WG.callV en34 rfl rfl (by decide) (CallOp.mk' rfl rfl rfl rfl) qE (fun hg => Same16_V (hd1.mono hR6) hd2 (ho1.mono hR6) ho2 (fun r hr => (hr1 r hr).mono hR6) hr2 rfl (by rw [hx1, hx2])) ?_
      refine yP ?_
      refine yO ?_
      refine zN (zU ?_)
      refine W.cond rfl (fun hc4 => ?_) (fun hc4 => ?_)
      ·try simp only [zk] at hc4
       (simp at hc4; done)
      ·try simp only [zk] at hc4
       refine zK (zL (zU (zG ?_)))
       refine yA ?_
       refine zR 1 rfl (zN ?_)
       refine WE.again ((R6, k + 1, cnc)) (⟨by dsimp only; omega, hRk2.trans (hR5.trans hR6)⟩) (by (try dsimp only); omega) ⟨rfl, rfl, rfl, rfl, rfl, rfl, rfl, rfl, rfl, rfl, rfl, rfl, rfl, rfl, rfl, rfl, rfl, rfl, rfl⟩ (RLe.refl _) qS
     ·try dsimp only at hc3
      refine zX ?_
      refine wx (wx (zY (zL (zU (zG ?_)))))
      refine yA ?_
      refine zR 1 rfl (zN ?_)
      refine WE.again ((Rk2, i + 1, cnc)) (⟨by dsimp only; omega, hRk1.trans (hR7.trans hRk2)⟩) (by (try dsimp only); omega) ⟨rfl, rfl, rfl, rfl, rfl, rfl, rfl, rfl, rfl, rfl, rfl, rfl, rfl, rfl, rfl⟩ (RLe.refl _) qS
    ·try dsimp only at hc2
     refine zX ?_
     refine wx (wx (zY (zL (zU (zG ?_)))))
     refine yA ?_
     refine zR 1 rfl (zN ?_)
     refine WE.again ((Rk1, j + 1, cnb)) (⟨by dsimp only; omega, hRk.trans (hR15.trans (hR2b.trans (hR4.trans hRk1)))⟩) (by (try dsimp only); omega) ⟨rfl, rfl, rfl, rfl, rfl, rfl, rfl, rfl, rfl, rfl, rfl⟩ (RLe.refl _) qS
  ·try dsimp only at hc0
   refine zX ?_
   refine wx (wx (zY (zU (zQ (zG ?_)))))
   refine WL.call en18 rfl rfl qD (CallOp.mkT rfl rfl rfl rfl) (Awake22_C w0 _) ?_
   rintro _ R13 E9 hR13 ⟨rfl, hsub9⟩
   refine WL.subE hsub9 ?_
   refine zR 1 rfl (zN (zU (zT ?_)))
   refine WE.retF tab_ok [_] rfl ⟨rfl, trivial⟩ (by first | exact RLe.refl _ | exact hR00.trans (hR02.trans (hR93.trans (hRk.trans hR13)))) ?_
   exact rfl
 ·
  refine zQ (zG (zR 3 rfl (zN (zU ?_))))
  refine W.condD rfl (fun hc5 => ?_) (fun hc5 => ?_)
  ·try dsimp only at hc5
   refine zG (zR 1 rfl ?_)
   refine WG.y rfl rfl qD (Yl.sliceH tab_ok rfl rfl rfl rfl rfl (fun _ => rfl) (by intro _; omega) rfl) ?_
   refine zR 1 rfl (zN ?_)
   refine WE.cutP (list.take 70) ⟨hlist.take 70, by rw [List.length_take]; omega⟩ ⟨by rw [List.length_take, Nat.min_eq_left (by omega)]; rfl, rfl, rfl, rfl, rfl, rfl⟩ (RLe.refl _) (List.Perm.refl _)
  ·try dsimp only at hc5
   refine zK ?_
   refine WE.cutP list ⟨hlist, by omega⟩ ⟨rfl, rfl, rfl, rfl, rfl, rfl⟩ (RLe.refl _) (List.Perm.refl _)

end Go.Proofs.YthpblaoehlgpfaaGreat

/- ServerRuns: for every input the law returns true, and the input reads afterwards as it read before. No condition. -/
namespace Go.Proofs.YthpblaoehlgpfaaGreat
open Go Go.RowKit Go.ChangeShapes Go.WideShapes Go.ChangeAt Go.WideElems Go.Maps Go.Proofs.YthpblaoehlgpfaaGreat.K Go.Proofs.YthpblaoehlgpfaaGreat.M
namespace serverRuns
theorem own : ownKnob Tryz.prog.godebug = none := by kernel_rfl
theorem laidOut : laidOutB Tryz.prog = true := by kernel_rfl
theorem readable : (Tryz.f6.params.toList).all (fun t => Tryz.prog.readableRec t && decide (t < Tryz.prog.types.size)) = true := by kernel_rfl
theorem cellsI : Tryz.prog.cellsOf 3 = 1 := by kernel_rfl
section
variable {H : Type} {enc : TypeId × Value → H}
theorem flat_pkts : Flat enc Tryz.prog 51 3 := flat_struct Tryz.underlying51 (by kernel_rfl) (by
 intro j f hf
 match j, hf with
 | 0, hf => obtain rfl : _ = f := Option.some.inj hf; exact ⟨rfl, by kernel_rfl, Tryz.underlying3⟩
 | 1, hf => obtain rfl : _ = f := Option.some.inj hf; exact ⟨rfl, by kernel_rfl, Tryz.underlying3⟩
 | 2, hf => obtain rfl : _ = f := Option.some.inj hf; exact ⟨rfl, by kernel_rfl, Tryz.underlying3⟩
 | j + 3, hf => simp at hf)
theorem cells_pkts : Tryz.prog.cellsOf 51 = 3 := by kernel_rfl
theorem flat_ints : Flat enc Tryz.prog 3 1 := flat_int Tryz.underlying3
theorem cells_ints : Tryz.prog.cellsOf 3 = 1 := by kernel_rfl
theorem opn_ln : Opn enc Tryz.prog 26 5 encLn OkLn := opn_line Tryz.underlying26 (by kernel_rfl) rfl rfl rfl rfl rfl (by kernel_rfl) (by kernel_rfl) rfl rfl rfl rfl rfl Tryz.underlying22 Tryz.underlying3
end
set_option maxRecDepth 100000 in
theorem lifted (os : Os) (started : os.Started) (H : Type) (enc : TypeId × Value → H) :
  ReturnsInHanded {} Tryz.checked os 6 .any (Rows.serverRunsSpec.pre6 enc Tryz.prog Tryz.f6 Rows.serverRunsRow.domain false) (Rows.serverRunsSpec.post enc Tryz.prog Tryz.f6 false true false false) := by
 refine returnsInHanded_of_change (C := Tryz.checked) own started (by kernel_rfl) Tryz.func6
  (ChangeSpec.witness6 (enc := enc) (C := Tryz.checked) false ⟨#[], #[.agg #[.int .i64 0, .int .i64 0, .int .i64 0, .slice none 0 0, .slice none 0 0], .agg #[.int .i64 0, .int .i64 0, .int .i64 0, .slice none 0 0, .slice none 0 0], .slice none 0 0, .int .i64 0, .slice none 0 0], []⟩ 8 (by kernel_rfl) (by kernel_rfl) (by kernel_rfl) (by kernel_rfl)) ?_
 intro W base args ds gs before hval0 hW _ _
 have hval : ∀ (j : Nat) t v, Tryz.f6.params[j]? = some t → args[j]? = some v → Value.okWide Tryz.prog W .any base t v := hval0
 have hW' := hW
 obtain ⟨p, q, hA0, hV, rfl, _, _⟩ := hW
 have hA : DataW.TrodAll enc Tryz.prog W 0 (fun _ => true) true Tryz.f6.params.toList args.toList ds p := hA0
 have hA1 := hA
 obtain ⟨rfl, rfl⟩ := trodVars_none hV
 simp only [List.append_nil] at hW'
 have hlt : ∀ x ∈ p, x.block < W.heap.size := fun x hx => by simpa using hW'.lt x hx
 have hcarry : ∀ W', Below W.heap.size W W' → DataW.TrodAll enc Tryz.prog W' 0 (fun b => decide (b < W.heap.size)) true Tryz.f6.params.toList args.toList ds p := fun W' hb => carryAll laidOut readable hA1 hb hlt
 clear hA0 hval0 hA1
 rw [Tryz.params6] at hA
 obtain ⟨v0, vs0, d0, ds0, p0, q0, e0, rfl, e20, h0, t0⟩ := trodAll_cons hA
 obtain ⟨v1, vs1, d1, ds1, p1, q1, rfl, rfl, e21, h1, t1⟩ := trodAll_cons t0
 obtain ⟨v2, vs2, d2, ds2, p2, q2, rfl, rfl, e22, h2, t2⟩ := trodAll_cons t1
 obtain ⟨v3, vs3, d3, ds3, p3, q3, rfl, rfl, e23, h3, t3⟩ := trodAll_cons t2
 obtain ⟨v4, vs4, d4, ds4, p4, q4, rfl, rfl, e24, h4, t4⟩ := trodAll_cons t3
 obtain ⟨rfl, rfl, _⟩ := trodAll_nil t4
 have hargs : args = #[v0, v1, v2, v3, v4] := by rw [← Array.toArray_toList (xs := args), e0]
 subst hargs
 obtain ⟨s0, rfl, k0⟩ := opn_ln.top Tryz.underlying26 (hval 0 26 _ rfl rfl) h0
 obtain ⟨s1, rfl, k1⟩ := opn_ln.top Tryz.underlying26 (hval 1 26 _ rfl rfl) h1
 obtain ⟨a2, cp2, zs2, rfl, c2, l2, m2, r2⟩ := open_flat Tryz.underlying28 (by decide) cells_pkts flat_pkts (hval 2 28 _ rfl rfl) h2
 have g2 : RS (roOf W) 3 encP a2 (zs2.map decP) := RS.ofFlat m2 l2 decP_enc
 have n2 : (zs2.map decP).length = zs2.length := by simp
 rw [← n2] at c2
 obtain ⟨z3, rfl, _, _, w3⟩ := open_int Tryz.underlying3 (hval 3 3 _ rfl rfl) h3
 have r3 : InR z3 := bounds_i64 w3
 obtain ⟨a4, cp4, zs4, rfl, c4, l4, m4, r4⟩ := open_flat Tryz.underlying22 (by decide) cells_ints flat_ints (hval 4 22 _ rfl rfl) h4
 have g4 : RS (roOf W) 1 encI a4 (zs4.map decI) := RS.ofFlat m4 l4 decI_enc
 have n4 : (zs4.map decI).length = zs4.length := by simp
 rw [← n4] at c4
 have hcall := lift_calls (P := Tryz.prog) (f := 6) (args := [.agg #[.int .i64 s0.L.kind, .int .i64 s0.L.cap, .int .i64 s0.L.n, .slice s0.a1 s0.L.w.length s0.c1, .slice s0.a2 s0.L.tb.length s0.c2], .agg #[.int .i64 s1.L.kind, .int .i64 s1.L.cap, .int .i64 s1.L.n, .slice s1.a1 s1.L.w.length s1.c1, .slice s1.a2 s1.L.tb.length s1.c2], .slice a2 (zs2.map decP).length cp2, .int .i64 z3, .slice a4 (zs4.map decI).length cp4]) (W := W) (ServerRuns_F k0 k1 g2 c2 g4 c4 W)
 simp only [List.length_map] at hcall
 refine hcall.mono fun e W' ⟨he, hb⟩ => ?_
 subst he
 exact ⟨_, rfl, ⟨_, _, _, [], _, [], hW', trodAll_mk1 (shut_bool Tryz.underlying4 _), hcarry W' hb, rfl, hb.frame _, fun h => by cases h⟩⟩
end serverRuns
theorem serverRuns_holds : Rows.ServerRunsSaid :=
 OpenClaim.holds_of_wide 6 Tryz.f6 rfl rfl rfl rfl rfl rfl rfl ⟨rfl, rfl, rfl, rfl, rfl⟩ rfl rfl rfl rfl rfl (by kernel_rfl) Tryz.func6 (by kernel_rfl)
  (of_decide_eq_true (by kernel_rfl)) (by unfold Func.isWrapper; first | (rw [if_pos (by decide +kernel)]; kernel_rfl) | (rw [if_neg (by decide +kernel)]; exact ⟨rfl, rfl⟩))
  (fun os started H enc _ => serverRuns.lifted os started H enc)
end Go.Proofs.YthpblaoehlgpfaaGreat
