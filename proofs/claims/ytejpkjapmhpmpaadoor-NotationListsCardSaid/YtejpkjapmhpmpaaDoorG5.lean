/- Rules and walks, joined from 16 texts: the first of them says: A curve in which one thing is changed. No condition. -/
import Derived.Test.YtejpkjapmhpmpaaDoorG4
import Derived.WalkSmall
import Derived.Defers
import Derived.Recover
import Derived.Shelf.Strconv.AppendIntPublic10
import Derived.Shelf.Strconv.AtoiAll
import Derived.Shelf.Strconv.ErrVarAll
import Derived.Shelf.Strings.SplitShaped
import Derived.Shelf.Strings.Shaped
import Derived.Shelf.Strings.Split
import Derived.Shelf.Strings.Cut
/- A curve in which one thing is changed. No condition. -/
set_option maxRecDepth 4000
set_option linter.unusedSimpArgs false
set_option linter.unusedVariables false
namespace Go.Proofs.YtejpkjapmhpmpaaDoor
open Go Go.RowKit Go.Proofs.YtejpkjapmhpmpaaDoor.K Go.Proofs.YtejpkjapmhpmpaaDoor.M

theorem Bent_C {R : Ro} {b : Nat} {a : Option Addr} {cp : Nat} {xs : List Int} {c : Nat} {fa : Option Addr} {fc : Nat} {c1 : Cv} (w0 : World) (ha : RS R 1 encI a xs) (hv : validB c1 = true) (hx : RS R 1 encI fa c1.vals) : FnAt Tryd.prog 15 [.pointer (some ⟨b, 0, none⟩), .agg #[.slice fa c1.vals.length fc, .int .i64 c1.per, .int .i64 c1.inc]] w0 R (srcE b a cp xs c) (fun v R' e' N => ∃ (f : Option Addr) (fc cn : Nat) (cv : Cv), v = .agg #[.slice f cv.vals.length fc, .int .i64 cv.per, .int .i64 cv.inc] ∧ RS R' 1 encI f cv.vals ∧ cv.vals.length ≤ 500 ∧ cv.vals.length ≤ fc ∧ e' = srcE b a cp xs cn ∧ N = []) := by
 intro F
 obtain ⟨hvr, hl1, hl4, hp1, hp2, hp3, hi1, hi2⟩ := valid_range hv
 refine fE 96 Tryd.func15 ?_
 refine zQ (zG ?_)
 refine zO fun b3 => ?_
 refine zA fun b4 => ?_
 refine zN (zU ?_)
 refine W.seqCut (β := Nat × Option Addr × Nat) (fun (b5, a10, c10) => True) (fun (b5, a10, c10) => [(0, true, .pointer (some ⟨b, 0, none⟩)), (4, true, .pointer (some ⟨b4, 0, none⟩)), (5, true, .pointer (some ⟨b5, 0, none⟩))]) (fun _ => R) (fun (b5, a10, c10) => .blk b5 [.slice a10 c1.vals.length c10, .int .i64 c1.per, .int .i64 c1.inc] :: .sl 3 1 a10 c10 ((c1.vals).map encI) :: .blk b4 [.slice none 0 0, .int .i64 0, .int .i64 0] :: .blk b3 [.slice fa c1.vals.length fc, .int .i64 c1.per, .int .i64 c1.inc] :: srcE b a cp xs c :: F) ?_ ?_
 ·
  intro st hst
  obtain ⟨b5, a10, c10⟩ := st
  dsimp only
  refine zQ (zQ (zG (zR 1 rfl ?_)))
  refine' WG.y rfl rfl qD (Yl.load1 tab_ok rfl rfl rfl (fun _ => rfl) ?r1 rfl ?h1) ?_
  case r1 => apply Rd.add; (first | exact Rd.blk 0 rfl | exact Rd.blk 1 rfl | exact Rd.blk 2 rfl | exact Rd.blk 3 rfl | exact Rd.blk 4 rfl | exact Rd.blk 5 rfl | (apply RS.rdD; assumption; ((try dsimp only) <;> omega)) | exact Rd.slD 0 rfl qX | exact Rd.slD 1 rfl qX | exact Rd.slD 2 rfl qX | exact Rd.slD 3 rfl qX | exact Rd.slD 4 rfl qX | exact Rd.slD 5 rfl qX)
  case h1 => rfl
  refine zR 2 rfl (zN (zU ?_))
  refine W.condE rfl (fun hc0 => ?_) (fun hc0 => ?_)
  ·try dsimp only at hc0
   omega
  ·try dsimp only at hc0
   refine zK (zU (zQ (zG (zR 2 rfl ?_))))
   refine' WG.y rfl rfl qD (Yl.load1 tab_ok rfl rfl rfl (fun _ => rfl) ?r2 rfl ?h2) ?_
   case r2 => apply Rd.add; (first | exact Rd.blk 0 rfl | exact Rd.blk 1 rfl | exact Rd.blk 2 rfl | exact Rd.blk 3 rfl | exact Rd.blk 4 rfl | exact Rd.blk 5 rfl | (apply RS.rdD; assumption; ((try dsimp only) <;> omega)) | exact Rd.slD 0 rfl qX | exact Rd.slD 1 rfl qX | exact Rd.slD 2 rfl qX | exact Rd.slD 3 rfl qX | exact Rd.slD 4 rfl qX | exact Rd.slD 5 rfl qX)
   case h2 => rfl
   refine zR 1 rfl ?_
   refine WL.callAt 4 en12 rfl rfl qD (CallOp.mkT rfl rfl rfl rfl) rfl (N_C w0 ha (by constructor <;> omega) _) ?_
   rintro _ _ _ _ - ⟨rfl, rfl, rfl, rfl⟩
   have hm1 := mod_range (nth xs c) (show (1 : Int) ≤ (c1.vals.length : Int) by omega)
   obtain ⟨i, hi⟩ := Int.eq_ofNat_of_zero_le (show 0 ≤ mod (nth xs c) (c1.vals.length : Int) by omega)
   rw [hi] at hm1 ⊢
   have hbi := hvr _ (nth_mem (xs := c1.vals) (k := i) (by omega))
   have hbj : -2305843009213693952 ≤ nth c1.vals ((i : Int)).toNat ∧ nth c1.vals ((i : Int)).toNat ≤ 4611686018427387904 := hbi
   have hin : ((i : Int)).toNat = i := rfl
   refine zR 1 rfl (zN (zU (zQ (zQ (zG (zR 1 rfl ?_))))))
   refine WL.callAt 4 en12 rfl rfl qD (CallOp.mkT rfl rfl rfl rfl) rfl (N_C w0 ha (by constructor <;> decide) _) ?_
   rintro _ _ _ _ - ⟨rfl, rfl, rfl, rfl⟩
   refine zN (zU (zB (zQ (zG (zR 2 rfl (zN (zU ?_)))))))
   refine W.condE rfl (fun hc1 => ?_) (fun hc1 => ?_)
   ·try dsimp only at hc1
    refine W.regionH _ (ES := [.blk b5 [.slice a10 c1.vals.length c10, .int .i64 c1.per, .int .i64 c1.inc]]) mixed ?_
    refine tP 0 ?_
    refine' WA.take 1 rfl qK qK qK rfl rfl qD (Yl.load1 tab_ok rfl rfl rfl (fun _ => rfl) ?r3 rfl ?h3) qS qR ?_
    case r3 => apply Rd.add; (first | exact Rd.blk 0 rfl | exact Rd.blk 1 rfl | exact Rd.blk 2 rfl | exact Rd.blk 3 rfl | exact Rd.blk 4 rfl | exact Rd.blk 5 rfl | (apply RS.rdD; assumption; ((try dsimp only) <;> omega)) | exact Rd.slD 0 rfl qX | exact Rd.slD 1 rfl qX | exact Rd.slD 2 rfl qX | exact Rd.slD 3 rfl qX | exact Rd.slD 4 rfl qX | exact Rd.slD 5 rfl qX)
    case h3 => rfl
    refine tP 2 ?_
    refine tP 3 ?_
    refine WA.eff 4 rfl qK rfl rfl qD (Ef.buildSliceD (enc := encI) (parts := [.const (.int .i64 (-1)), .const (.int .i64 0), .const (.int .i64 1073741824), .const (.int .i64 1073741825), .const (.int .i64 4611686018427387904), .const (.int .i64 4611686018427387905)]) [_, _, _, _, _, _] tab_ok rfl rfl rfl rfl rfl rfl rfl rfl qD qD (fun a54 => ?_))
    refine ⟨qR, qS, ?_⟩
    first | refine WA.callAt 4 5 rfl qK en33 rfl rfl qD (CallOp.mkT rfl rfl rfl rfl) rfl (PickM_C (j := 0) w0 ([-1, 0, 1073741824, 1073741825, 4611686018427387904, 4611686018427387905] : List Int) rfl qD qD ha rfl) ?_ | refine WA.callAt 5 5 rfl qK en33 rfl rfl qD (CallOp.mkT rfl rfl rfl rfl) rfl (PickM_C (j := 0) w0 ([-1, 0, 1073741824, 1073741825, 4611686018427387904, 4611686018427387905] : List Int) rfl qD qD ha rfl) ?_ | refine WA.callAt 6 5 rfl qK en33 rfl rfl qD (CallOp.mkT rfl rfl rfl rfl) rfl (PickM_C (j := 0) w0 ([-1, 0, 1073741824, 1073741825, 4611686018427387904, 4611686018427387905] : List Int) rfl qD qD ha rfl) ?_
    rintro _ _ _ _ - ⟨rfl, rfl, rfl, rfl⟩
    refine ⟨RLe.refl _, qS, ?_⟩
    refine WA.yl 6 rfl qK rfl rfl qD (Yl.index tab_ok rfl rfl rfl rfl rfl rfl (fun _ => rfl) qA (by intro _; first | exact fun _ _ _ _ => ha10 qO | exact qI)) qS qR ?_
    first | refine WA.effN 7 rfl qK rfl rfl (Ef.storeD _ 0 tab_ok rfl rfl rfl rfl rfl qX rfl rfl rfl rfl ?_) | refine WA.effN 7 rfl qK rfl rfl (Ef.storeD _ 1 tab_ok rfl rfl rfl rfl rfl qX rfl rfl rfl rfl ?_) | refine WA.effN 7 rfl qK rfl rfl (Ef.storeD _ 2 tab_ok rfl rfl rfl rfl rfl qX rfl rfl rfl rfl ?_) | refine WA.effN 7 rfl qK rfl rfl (Ef.storeD _ 3 tab_ok rfl rfl rfl rfl rfl qX rfl rfl rfl rfl ?_) | refine WA.effN 7 rfl qK rfl rfl (Ef.storeD _ 4 tab_ok rfl rfl rfl rfl rfl qX rfl rfl rfl rfl ?_) | refine WA.effN 7 rfl qK rfl rfl (Ef.storeD _ 5 tab_ok rfl rfl rfl rfl rfl qX rfl rfl rfl rfl ?_)
    refine ⟨qR, qS, ?_⟩
    refine WA.done qK ?_
    refine zL (zU ?_)
    first | (refine W.cap 2 rfl ?_; intro hcp; rw [List.length_map] at hcp; (try rw [List.length_set] at hcp); refine W.freeze (enc := encI) 2 rfl ?_; intro R1 hR1 hfz) | (refine W.cap 1 rfl ?_; intro hcp; rw [List.length_map] at hcp; (try rw [List.length_set] at hcp); refine W.freeze (enc := encI) 1 rfl ?_; intro R1 hR1 hfz) | skip
    refine zQ (zG ?_)
    refine' WG.y rfl rfl qD (Yl.load1 tab_ok rfl rfl rfl (fun _ => rfl) ?r4 rfl ?h4) ?_
    case r4 => (first | exact Rd.blk 0 rfl | exact Rd.blk 1 rfl | exact Rd.blk 2 rfl | exact Rd.blk 3 rfl | exact Rd.blk 4 rfl | exact Rd.blk 5 rfl | (apply RS.rdD; assumption; ((try dsimp only) <;> omega)) | exact Rd.slD 0 rfl qX | exact Rd.slD 1 rfl qX | exact Rd.slD 2 rfl qX | exact Rd.slD 3 rfl qX | exact Rd.slD 4 rfl qX | exact Rd.slD 5 rfl qX)
    case h4 => rfl
    first | refine WL.efN rfl rfl (Ef.store0 0 tab_ok rfl rfl rfl rfl rfl rfl rfl rfl ?_) | refine WL.efN rfl rfl (Ef.store0 1 tab_ok rfl rfl rfl rfl rfl rfl rfl rfl ?_) | refine WL.efN rfl rfl (Ef.store0 2 tab_ok rfl rfl rfl rfl rfl rfl rfl rfl ?_) | refine WL.efN rfl rfl (Ef.store0 3 tab_ok rfl rfl rfl rfl rfl rfl rfl rfl ?_) | refine WL.efN rfl rfl (Ef.store0 4 tab_ok rfl rfl rfl rfl rfl rfl rfl rfl ?_) | refine WL.efN rfl rfl (Ef.store0 5 tab_ok rfl rfl rfl rfl rfl rfl rfl rfl ?_)
    refine zN (zU (zT ?_))
    refine WE.retFS (E' := srcE b a cp xs (c + 1 + 1 + 1) :: F) qS tab_ok [_] rfl ⟨⟨_, _, _, rfl, rfl, rfl, qB, rfl⟩, trivial⟩ (hR1) ?_
    exact ⟨_, [], rfl, a10, c10, _, ⟨c1.vals.set ((i : Int)).toNat (_), c1.per, c1.inc⟩, by (try dsimp only); rw [List.length_set]; rfl, hfz, by (try dsimp only); (try rw [List.length_set]); omega, by (try dsimp only); (try rw [List.length_set]); omega, rfl, rfl⟩
   ·try dsimp only at hc1
    refine zQ (zG (zR 2 rfl (zN (zU ?_))))
    refine W.condE rfl (fun hc2 => ?_) (fun hc2 => ?_)
    ·try dsimp only at hc2
     refine zG (zR 2 rfl ?_)
     refine' WG.y rfl rfl qD (Yl.load1 tab_ok rfl rfl rfl (fun _ => rfl) ?r5 rfl ?h5) ?_
     case r5 => apply Rd.add; (first | exact Rd.blk 0 rfl | exact Rd.blk 1 rfl | exact Rd.blk 2 rfl | exact Rd.blk 3 rfl | exact Rd.blk 4 rfl | exact Rd.blk 5 rfl | (apply RS.rdD; assumption; ((try dsimp only) <;> omega)) | exact Rd.slD 0 rfl qX | exact Rd.slD 1 rfl qX | exact Rd.slD 2 rfl qX | exact Rd.slD 3 rfl qX | exact Rd.slD 4 rfl qX | exact Rd.slD 5 rfl qX)
     case h5 => rfl
     refine zR 2 rfl ?_
     refine' WG.y rfl rfl qD (Yl.load1 tab_ok rfl rfl rfl (fun _ => rfl) ?r6 rfl ?h6) ?_
     case r6 => apply Rd.add; (first | exact Rd.blk 0 rfl | exact Rd.blk 1 rfl | exact Rd.blk 2 rfl | exact Rd.blk 3 rfl | exact Rd.blk 4 rfl | exact Rd.blk 5 rfl | (apply RS.rdD; assumption; ((try dsimp only) <;> omega)) | exact Rd.slD 0 rfl qX | exact Rd.slD 1 rfl qX | exact Rd.slD 2 rfl qX | exact Rd.slD 3 rfl qX | exact Rd.slD 4 rfl qX | exact Rd.slD 5 rfl qX)
     case h6 => rfl
     refine zR 1 rfl ?_
     refine yA ?_
     refine WL.ef rfl rfl qD (Ef.buildSliceD (enc := encI) (parts := [.const (.int .i64 (-1)), .const (.int .i64 0), .const (.int .i64 1), .tmp 62, .tmp 66, .const (.int .i64 121)]) [_, _, _, _, _, _] tab_ok rfl rfl rfl rfl rfl rfl rfl rfl qD qD (fun a67 => ?_))
     refine WL.callAt 5 en33 rfl rfl qD (CallOp.mkT rfl rfl rfl rfl) rfl (PickM_C (j := 0) w0 ([-1, 0, 1, (c1.vals.length : Int), (c1.vals.length : Int) + 1, 121] : List Int) rfl qD qD ha rfl) ?_
     rintro _ _ _ _ - ⟨rfl, rfl, rfl, rfl⟩
     refine zR 1 rfl ?_
     first | refine WL.efN rfl rfl (Ef.store 0 tab_ok rfl rfl rfl rfl rfl rfl rfl rfl ?_) | refine WL.efN rfl rfl (Ef.store 1 tab_ok rfl rfl rfl rfl rfl rfl rfl rfl ?_) | refine WL.efN rfl rfl (Ef.store 2 tab_ok rfl rfl rfl rfl rfl rfl rfl rfl ?_) | refine WL.efN rfl rfl (Ef.store 3 tab_ok rfl rfl rfl rfl rfl rfl rfl rfl ?_) | refine WL.efN rfl rfl (Ef.store 4 tab_ok rfl rfl rfl rfl rfl rfl rfl rfl ?_) | refine WL.efN rfl rfl (Ef.store 5 tab_ok rfl rfl rfl rfl rfl rfl rfl rfl ?_)
     refine zN (zL (zU ?_))
     first | (refine W.cap 2 rfl ?_; intro hcp; rw [List.length_map] at hcp; (try rw [List.length_set] at hcp); refine W.freeze (enc := encI) 2 rfl ?_; intro R1 hR1 hfz) | (refine W.cap 1 rfl ?_; intro hcp; rw [List.length_map] at hcp; (try rw [List.length_set] at hcp); refine W.freeze (enc := encI) 1 rfl ?_; intro R1 hR1 hfz) | skip
     refine zQ (zG ?_)
     refine' WG.y rfl rfl qD (Yl.load1 tab_ok rfl rfl rfl (fun _ => rfl) ?r7 rfl ?h7) ?_
     case r7 => (first | exact Rd.blk 0 rfl | exact Rd.blk 1 rfl | exact Rd.blk 2 rfl | exact Rd.blk 3 rfl | exact Rd.blk 4 rfl | exact Rd.blk 5 rfl | (apply RS.rdD; assumption; ((try dsimp only) <;> omega)) | exact Rd.slD 0 rfl qX | exact Rd.slD 1 rfl qX | exact Rd.slD 2 rfl qX | exact Rd.slD 3 rfl qX | exact Rd.slD 4 rfl qX | exact Rd.slD 5 rfl qX)
     case h7 => rfl
     first | refine WL.efN rfl rfl (Ef.store0 0 tab_ok rfl rfl rfl rfl rfl rfl rfl rfl ?_) | refine WL.efN rfl rfl (Ef.store0 1 tab_ok rfl rfl rfl rfl rfl rfl rfl rfl ?_) | refine WL.efN rfl rfl (Ef.store0 2 tab_ok rfl rfl rfl rfl rfl rfl rfl rfl ?_) | refine WL.efN rfl rfl (Ef.store0 3 tab_ok rfl rfl rfl rfl rfl rfl rfl rfl ?_) | refine WL.efN rfl rfl (Ef.store0 4 tab_ok rfl rfl rfl rfl rfl rfl rfl rfl ?_) | refine WL.efN rfl rfl (Ef.store0 5 tab_ok rfl rfl rfl rfl rfl rfl rfl rfl ?_)
     refine zN (zU (zT ?_))
     refine WE.retFS (E' := srcE b a cp xs (c + 1 + 1 + 1) :: F) qS tab_ok [_] rfl ⟨⟨_, _, _, rfl, rfl, rfl, qB, rfl⟩, trivial⟩ (hR1) ?_
     exact ⟨_, [], rfl, a10, c10, _, ⟨c1.vals, nth ([-1, 0, 1, (c1.vals.length : Int), (c1.vals.length : Int) + 1, 121] : List Int) (mod (nth xs (c + 1 + 1)) ((6 : Nat) : Int)).toNat, c1.inc⟩, rfl, hfz, by (try dsimp only); (try rw [List.length_set]); omega, by (try dsimp only); (try rw [List.length_set]); omega, rfl, rfl⟩
    ·try dsimp only at hc2
     refine zQ (zG (zR 2 rfl (zN (zU ?_))))
     refine W.condE rfl (fun hc3 => ?_) (fun hc3 => ?_)
     ·try dsimp only at hc3
      refine zG (zR 1 rfl ?_)
      refine WL.ef rfl rfl qD (Ef.buildSliceD (enc := encI) (parts := [.const (.int .i64 (-1)), .const (.int .i64 0), .const (.int .i64 1073741824), .const (.int .i64 1073741825)]) [_, _, _, _] tab_ok rfl rfl rfl rfl rfl rfl rfl rfl qD qD (fun a73 => ?_))
      refine WL.callAt 5 en33 rfl rfl qD (CallOp.mkT rfl rfl rfl rfl) rfl (PickM_C (j := 0) w0 ([-1, 0, 1073741824, 1073741825] : List Int) rfl qD qD ha rfl) ?_
      rintro _ _ _ _ - ⟨rfl, rfl, rfl, rfl⟩
      refine zR 1 rfl ?_
      first | refine WL.efN rfl rfl (Ef.store 0 tab_ok rfl rfl rfl rfl rfl rfl rfl rfl ?_) | refine WL.efN rfl rfl (Ef.store 1 tab_ok rfl rfl rfl rfl rfl rfl rfl rfl ?_) | refine WL.efN rfl rfl (Ef.store 2 tab_ok rfl rfl rfl rfl rfl rfl rfl rfl ?_) | refine WL.efN rfl rfl (Ef.store 3 tab_ok rfl rfl rfl rfl rfl rfl rfl rfl ?_) | refine WL.efN rfl rfl (Ef.store 4 tab_ok rfl rfl rfl rfl rfl rfl rfl rfl ?_) | refine WL.efN rfl rfl (Ef.store 5 tab_ok rfl rfl rfl rfl rfl rfl rfl rfl ?_)
      refine zN (zL (zU ?_))
      first | (refine W.cap 2 rfl ?_; intro hcp; rw [List.length_map] at hcp; (try rw [List.length_set] at hcp); refine W.freeze (enc := encI) 2 rfl ?_; intro R1 hR1 hfz) | (refine W.cap 1 rfl ?_; intro hcp; rw [List.length_map] at hcp; (try rw [List.length_set] at hcp); refine W.freeze (enc := encI) 1 rfl ?_; intro R1 hR1 hfz) | skip
      refine zQ (zG ?_)
      refine' WG.y rfl rfl qD (Yl.load1 tab_ok rfl rfl rfl (fun _ => rfl) ?r8 rfl ?h8) ?_
      case r8 => (first | exact Rd.blk 0 rfl | exact Rd.blk 1 rfl | exact Rd.blk 2 rfl | exact Rd.blk 3 rfl | exact Rd.blk 4 rfl | exact Rd.blk 5 rfl | (apply RS.rdD; assumption; ((try dsimp only) <;> omega)) | exact Rd.slD 0 rfl qX | exact Rd.slD 1 rfl qX | exact Rd.slD 2 rfl qX | exact Rd.slD 3 rfl qX | exact Rd.slD 4 rfl qX | exact Rd.slD 5 rfl qX)
      case h8 => rfl
      first | refine WL.efN rfl rfl (Ef.store0 0 tab_ok rfl rfl rfl rfl rfl rfl rfl rfl ?_) | refine WL.efN rfl rfl (Ef.store0 1 tab_ok rfl rfl rfl rfl rfl rfl rfl rfl ?_) | refine WL.efN rfl rfl (Ef.store0 2 tab_ok rfl rfl rfl rfl rfl rfl rfl rfl ?_) | refine WL.efN rfl rfl (Ef.store0 3 tab_ok rfl rfl rfl rfl rfl rfl rfl rfl ?_) | refine WL.efN rfl rfl (Ef.store0 4 tab_ok rfl rfl rfl rfl rfl rfl rfl rfl ?_) | refine WL.efN rfl rfl (Ef.store0 5 tab_ok rfl rfl rfl rfl rfl rfl rfl rfl ?_)
      refine zN (zU (zT ?_))
      refine WE.retFS (E' := srcE b a cp xs (c + 1 + 1 + 1) :: F) qS tab_ok [_] rfl ⟨⟨_, _, _, rfl, rfl, rfl, qB, rfl⟩, trivial⟩ (hR1) ?_
      exact ⟨_, [], rfl, a10, c10, _, ⟨c1.vals, c1.per, nth ([-1, 0, 1073741824, 1073741825] : List Int) (mod (nth xs (c + 1 + 1)) ((4 : Nat) : Int)).toNat⟩, rfl, hfz, by (try dsimp only); (try rw [List.length_set]); omega, by (try dsimp only); (try rw [List.length_set]); omega, rfl, rfl⟩
     ·try dsimp only at hc3
      refine zQ (zG (zR 2 rfl (zN (zU ?_))))
      refine W.condE rfl (fun hc4 => ?_) (fun hc4 => ?_)
      ·try dsimp only at hc4
       refine W.cap 1 rfl ?_
       intro hcp
       rw [List.length_map] at hcp
       (try rw [List.length_set] at hcp)
       refine W.freeze (enc := encI) 1 rfl ?_
       intro R1 hR1 hfz
       refine zG (zR 1 rfl ?_)
       refine' WG.y rfl rfl qD (Yl.load1 tab_ok rfl rfl rfl (fun _ => rfl) ?r9 rfl ?h9) ?_
       case r9 => apply Rd.add; (first | exact Rd.blk 0 rfl | exact Rd.blk 1 rfl | exact Rd.blk 2 rfl | exact Rd.blk 3 rfl | exact Rd.blk 4 rfl | exact Rd.blk 5 rfl | (apply RS.rdD; assumption; ((try dsimp only) <;> omega)) | exact Rd.slD 0 rfl qX | exact Rd.slD 1 rfl qX | exact Rd.slD 2 rfl qX | exact Rd.slD 3 rfl qX | exact Rd.slD 4 rfl qX | exact Rd.slD 5 rfl qX)
       case h9 => rfl
       refine zR 1 rfl ?_
       refine WG.y rfl rfl qD (Yl.sliceH tab_ok rfl rfl rfl rfl rfl (fun _ => rfl) (by intro _; omega) rfl) ?_
       refine zR 1 rfl ?_
       first | refine WL.efN rfl rfl (Ef.store 0 tab_ok rfl rfl rfl rfl rfl rfl rfl rfl ?_) | refine WL.efN rfl rfl (Ef.store 1 tab_ok rfl rfl rfl rfl rfl rfl rfl rfl ?_) | refine WL.efN rfl rfl (Ef.store 2 tab_ok rfl rfl rfl rfl rfl rfl rfl rfl ?_) | refine WL.efN rfl rfl (Ef.store 3 tab_ok rfl rfl rfl rfl rfl rfl rfl rfl ?_) | refine WL.efN rfl rfl (Ef.store 4 tab_ok rfl rfl rfl rfl rfl rfl rfl rfl ?_) | refine WL.efN rfl rfl (Ef.store 5 tab_ok rfl rfl rfl rfl rfl rfl rfl rfl ?_)
       refine zN (zL (zU ?_))
       first | (refine W.cap 2 rfl ?_; intro hcp; rw [List.length_map] at hcp; (try rw [List.length_set] at hcp); refine W.freeze (enc := encI) 2 rfl ?_; intro R1 hR1 hfz) | (refine W.cap 1 rfl ?_; intro hcp; rw [List.length_map] at hcp; (try rw [List.length_set] at hcp); refine W.freeze (enc := encI) 1 rfl ?_; intro R1 hR1 hfz) | skip
       refine zQ (zG ?_)
       refine' WG.y rfl rfl qD (Yl.load1 tab_ok rfl rfl rfl (fun _ => rfl) ?r10 rfl ?h10) ?_
       case r10 => (first | exact Rd.blk 0 rfl | exact Rd.blk 1 rfl | exact Rd.blk 2 rfl | exact Rd.blk 3 rfl | exact Rd.blk 4 rfl | exact Rd.blk 5 rfl | (apply RS.rdD; assumption; ((try dsimp only) <;> omega)) | exact Rd.slD 0 rfl qX | exact Rd.slD 1 rfl qX | exact Rd.slD 2 rfl qX | exact Rd.slD 3 rfl qX | exact Rd.slD 4 rfl qX | exact Rd.slD 5 rfl qX)
       case h10 => rfl
       first | refine WL.efN rfl rfl (Ef.store0 0 tab_ok rfl rfl rfl rfl rfl rfl rfl rfl ?_) | refine WL.efN rfl rfl (Ef.store0 1 tab_ok rfl rfl rfl rfl rfl rfl rfl rfl ?_) | refine WL.efN rfl rfl (Ef.store0 2 tab_ok rfl rfl rfl rfl rfl rfl rfl rfl ?_) | refine WL.efN rfl rfl (Ef.store0 3 tab_ok rfl rfl rfl rfl rfl rfl rfl rfl ?_) | refine WL.efN rfl rfl (Ef.store0 4 tab_ok rfl rfl rfl rfl rfl rfl rfl rfl ?_) | refine WL.efN rfl rfl (Ef.store0 5 tab_ok rfl rfl rfl rfl rfl rfl rfl rfl ?_)
       refine zN (zU (zT ?_))
       refine WE.retFS (E' := srcE b a cp xs (c + 1 + 1) :: F) qS tab_ok [_] rfl ⟨⟨_, _, _, rfl, rfl, rfl, qB, rfl⟩, trivial⟩ (hR1) ?_
       exact ⟨_, [], rfl, a10, c10, _, ⟨c1.vals.take ((i : Int)).toNat, c1.per, c1.inc⟩, by (try dsimp only); rw [List.length_take, Nat.min_eq_left (by omega)]; rfl, hfz.take _, by (try dsimp only); rw [List.length_take]; omega, by (try dsimp only); rw [List.length_take]; omega, rfl, rfl⟩
      ·try dsimp only at hc4
       refine zQ (zG (zR 2 rfl (zN (zU ?_))))
       refine W.condE rfl (fun hc5 => ?_) (fun hc5 => ?_)
       ·try dsimp only at hc5
        have hm2 := mod_range (nth xs (c + 1 + 1)) (show (1 : Int) ≤ 5 by decide)
        refine W.regionH _ (ES := [.blk b5 [.slice a10 c1.vals.length c10, .int .i64 c1.per, .int .i64 c1.inc]]) mixed ?_
        refine tP 0 ?_
        refine' WA.take 1 rfl qK qK qK rfl rfl qD (Yl.load1 tab_ok rfl rfl rfl (fun _ => rfl) ?r11 rfl ?h11) qS qR ?_
        case r11 => apply Rd.add; (first | exact Rd.blk 0 rfl | exact Rd.blk 1 rfl | exact Rd.blk 2 rfl | exact Rd.blk 3 rfl | exact Rd.blk 4 rfl | exact Rd.blk 5 rfl | (apply RS.rdD; assumption; ((try dsimp only) <;> omega)) | exact Rd.slD 0 rfl qX | exact Rd.slD 1 rfl qX | exact Rd.slD 2 rfl qX | exact Rd.slD 3 rfl qX | exact Rd.slD 4 rfl qX | exact Rd.slD 5 rfl qX)
        case h11 => rfl
        refine tP 2 ?_
        refine tP 5 ?_
        refine WA.br2 (i := 3) (j := 6) qK ?_ ?_
        ·
         refine WS.yl rfl rfl rfl qD (Yl.index tab_ok rfl rfl rfl rfl rfl rfl (fun _ => rfl) qA (by intro _; first | exact fun _ _ _ _ => ha10 qO | exact qI)) qS qR ?_
         refine WA.br2 (i := 4) (j := 6) qK ?_ ?_
         ·
          refine' WS.yl rfl rfl rfl qD (Yl.load1 tab_ok rfl rfl rfl (fun _ => rfl) ?r12 rfl ?h12) qS qR ?_
          case r12 => (first | (apply RS.rdD; assumption; ((try dsimp only) <;> omega)) | exact Rd.slD 0 rfl qX | exact Rd.slD 1 rfl qX | exact Rd.slD 2 rfl qX | exact Rd.slD 3 rfl qX | exact Rd.slD 4 rfl qX | exact Rd.slD 5 rfl qX)
          case h12 => rfl
          first | refine WA.callAt 3 6 rfl qK en12 rfl rfl qD (CallOp.mkT rfl rfl rfl rfl) rfl (N_C w0 ha (by constructor <;> decide) _) ?_ | refine WA.callAt 4 6 rfl qK en12 rfl rfl qD (CallOp.mkT rfl rfl rfl rfl) rfl (N_C w0 ha (by constructor <;> decide) _) ?_ | refine WA.callAt 5 6 rfl qK en12 rfl rfl qD (CallOp.mkT rfl rfl rfl rfl) rfl (N_C w0 ha (by constructor <;> decide) _) ?_
          rintro _ _ _ _ - ⟨rfl, rfl, rfl, rfl⟩
          refine ⟨RLe.refl _, qS, ?_⟩
          refine tS 7 ?_
          refine WA.yl 8 rfl qK rfl rfl qD (Yl.add rfl rfl rfl (fun _ => rfl) qA) qS qR ?_
          refine WA.yl 9 rfl qK rfl rfl qD (Yl.index tab_ok rfl rfl rfl rfl rfl rfl (fun _ => rfl) qA (by intro _; first | exact fun _ _ _ _ => ha10 qO | exact qI)) qS qR ?_
          first | refine WA.effN 10 rfl qK rfl rfl (Ef.storeD _ 0 tab_ok rfl rfl rfl rfl rfl qX rfl rfl rfl rfl ?_) | refine WA.effN 10 rfl qK rfl rfl (Ef.storeD _ 1 tab_ok rfl rfl rfl rfl rfl qX rfl rfl rfl rfl ?_) | refine WA.effN 10 rfl qK rfl rfl (Ef.storeD _ 2 tab_ok rfl rfl rfl rfl rfl qX rfl rfl rfl rfl ?_) | refine WA.effN 10 rfl qK rfl rfl (Ef.storeD _ 3 tab_ok rfl rfl rfl rfl rfl qX rfl rfl rfl rfl ?_) | refine WA.effN 10 rfl qK rfl rfl (Ef.storeD _ 4 tab_ok rfl rfl rfl rfl rfl qX rfl rfl rfl rfl ?_) | refine WA.effN 10 rfl qK rfl rfl (Ef.storeD _ 5 tab_ok rfl rfl rfl rfl rfl qX rfl rfl rfl rfl ?_)
          refine ⟨qR, qS, ?_⟩
          refine WA.done qK ?_
          refine zL (zU ?_)
          first | (refine W.cap 2 rfl ?_; intro hcp; rw [List.length_map] at hcp; (try rw [List.length_set] at hcp); refine W.freeze (enc := encI) 2 rfl ?_; intro R1 hR1 hfz) | (refine W.cap 1 rfl ?_; intro hcp; rw [List.length_map] at hcp; (try rw [List.length_set] at hcp); refine W.freeze (enc := encI) 1 rfl ?_; intro R1 hR1 hfz) | skip
          refine zQ (zG ?_)
          refine' WG.y rfl rfl qD (Yl.load1 tab_ok rfl rfl rfl (fun _ => rfl) ?r13 rfl ?h13) ?_
          case r13 => (first | exact Rd.blk 0 rfl | exact Rd.blk 1 rfl | exact Rd.blk 2 rfl | exact Rd.blk 3 rfl | exact Rd.blk 4 rfl | exact Rd.blk 5 rfl | (apply RS.rdD; assumption; ((try dsimp only) <;> omega)) | exact Rd.slD 0 rfl qX | exact Rd.slD 1 rfl qX | exact Rd.slD 2 rfl qX | exact Rd.slD 3 rfl qX | exact Rd.slD 4 rfl qX | exact Rd.slD 5 rfl qX)
          case h13 => rfl
          first | refine WL.efN rfl rfl (Ef.store0 0 tab_ok rfl rfl rfl rfl rfl rfl rfl rfl ?_) | refine WL.efN rfl rfl (Ef.store0 1 tab_ok rfl rfl rfl rfl rfl rfl rfl rfl ?_) | refine WL.efN rfl rfl (Ef.store0 2 tab_ok rfl rfl rfl rfl rfl rfl rfl rfl ?_) | refine WL.efN rfl rfl (Ef.store0 3 tab_ok rfl rfl rfl rfl rfl rfl rfl rfl ?_) | refine WL.efN rfl rfl (Ef.store0 4 tab_ok rfl rfl rfl rfl rfl rfl rfl rfl ?_) | refine WL.efN rfl rfl (Ef.store0 5 tab_ok rfl rfl rfl rfl rfl rfl rfl rfl ?_)
          refine zN (zU (zT ?_))
          refine WE.retFS (E' := srcE b a cp xs (c + 1 + 1 + 1) :: F) qS tab_ok [_] rfl ⟨⟨_, _, _, rfl, rfl, rfl, qB, rfl⟩, trivial⟩ (hR1) ?_
          exact ⟨_, [], rfl, a10, c10, _, ⟨c1.vals.set ((i : Int)).toNat (_), c1.per, c1.inc⟩, by (try dsimp only); rw [List.length_set]; rfl, hfz, by (try dsimp only); (try rw [List.length_set]); omega, by (try dsimp only); (try rw [List.length_set]); omega, rfl, rfl⟩
         ·
          first | refine WS.callAt 3 rfl en12 rfl rfl qD (CallOp.mkT rfl rfl rfl rfl) rfl (N_C w0 ha (by constructor <;> decide) _) ?_ | refine WS.callAt 4 rfl en12 rfl rfl qD (CallOp.mkT rfl rfl rfl rfl) rfl (N_C w0 ha (by constructor <;> decide) _) ?_ | refine WS.callAt 5 rfl en12 rfl rfl qD (CallOp.mkT rfl rfl rfl rfl) rfl (N_C w0 ha (by constructor <;> decide) _) ?_
          rintro _ _ _ _ - ⟨rfl, rfl, rfl, rfl⟩
          refine ⟨qR, qS, ?_⟩
          refine tS 7 ?_
          refine' WA.yl 4 rfl qK rfl rfl qD (Yl.load1 tab_ok rfl rfl rfl (fun _ => rfl) ?r14 rfl ?h14) qS qR ?_
          case r14 => (first | (apply RS.rdD; assumption; ((try dsimp only) <;> omega)) | exact Rd.slD 0 rfl qX | exact Rd.slD 1 rfl qX | exact Rd.slD 2 rfl qX | exact Rd.slD 3 rfl qX | exact Rd.slD 4 rfl qX | exact Rd.slD 5 rfl qX)
          case h14 => rfl
          refine WA.yl 8 rfl qK rfl rfl qD (Yl.add rfl rfl rfl (fun _ => rfl) qA) qS qR ?_
          refine WA.yl 9 rfl qK rfl rfl qD (Yl.index tab_ok rfl rfl rfl rfl rfl rfl (fun _ => rfl) qA (by intro _; first | exact fun _ _ _ _ => ha10 qO | exact qI)) qS qR ?_
          first | refine WA.effN 10 rfl qK rfl rfl (Ef.storeD _ 0 tab_ok rfl rfl rfl rfl rfl qX rfl rfl rfl rfl ?_) | refine WA.effN 10 rfl qK rfl rfl (Ef.storeD _ 1 tab_ok rfl rfl rfl rfl rfl qX rfl rfl rfl rfl ?_) | refine WA.effN 10 rfl qK rfl rfl (Ef.storeD _ 2 tab_ok rfl rfl rfl rfl rfl qX rfl rfl rfl rfl ?_) | refine WA.effN 10 rfl qK rfl rfl (Ef.storeD _ 3 tab_ok rfl rfl rfl rfl rfl qX rfl rfl rfl rfl ?_) | refine WA.effN 10 rfl qK rfl rfl (Ef.storeD _ 4 tab_ok rfl rfl rfl rfl rfl qX rfl rfl rfl rfl ?_) | refine WA.effN 10 rfl qK rfl rfl (Ef.storeD _ 5 tab_ok rfl rfl rfl rfl rfl qX rfl rfl rfl rfl ?_)
          refine ⟨qR, qS, ?_⟩
          refine WA.done qK ?_
          refine zL (zU ?_)
          first | (refine W.cap 2 rfl ?_; intro hcp; rw [List.length_map] at hcp; (try rw [List.length_set] at hcp); refine W.freeze (enc := encI) 2 rfl ?_; intro R1 hR1 hfz) | (refine W.cap 1 rfl ?_; intro hcp; rw [List.length_map] at hcp; (try rw [List.length_set] at hcp); refine W.freeze (enc := encI) 1 rfl ?_; intro R1 hR1 hfz) | skip
          refine zQ (zG ?_)
          refine' WG.y rfl rfl qD (Yl.load1 tab_ok rfl rfl rfl (fun _ => rfl) ?r15 rfl ?h15) ?_
          case r15 => (first | exact Rd.blk 0 rfl | exact Rd.blk 1 rfl | exact Rd.blk 2 rfl | exact Rd.blk 3 rfl | exact Rd.blk 4 rfl | exact Rd.blk 5 rfl | (apply RS.rdD; assumption; ((try dsimp only) <;> omega)) | exact Rd.slD 0 rfl qX | exact Rd.slD 1 rfl qX | exact Rd.slD 2 rfl qX | exact Rd.slD 3 rfl qX | exact Rd.slD 4 rfl qX | exact Rd.slD 5 rfl qX)
          case h15 => rfl
          first | refine WL.efN rfl rfl (Ef.store0 0 tab_ok rfl rfl rfl rfl rfl rfl rfl rfl ?_) | refine WL.efN rfl rfl (Ef.store0 1 tab_ok rfl rfl rfl rfl rfl rfl rfl rfl ?_) | refine WL.efN rfl rfl (Ef.store0 2 tab_ok rfl rfl rfl rfl rfl rfl rfl rfl ?_) | refine WL.efN rfl rfl (Ef.store0 3 tab_ok rfl rfl rfl rfl rfl rfl rfl rfl ?_) | refine WL.efN rfl rfl (Ef.store0 4 tab_ok rfl rfl rfl rfl rfl rfl rfl rfl ?_) | refine WL.efN rfl rfl (Ef.store0 5 tab_ok rfl rfl rfl rfl rfl rfl rfl rfl ?_)
          refine zN (zU (zT ?_))
          refine WE.retFS (E' := srcE b a cp xs (c + 1 + 1 + 1) :: F) qS tab_ok [_] rfl ⟨⟨_, _, _, rfl, rfl, rfl, qB, rfl⟩, trivial⟩ (hR1) ?_
          exact ⟨_, [], rfl, a10, c10, _, ⟨c1.vals.set ((i : Int)).toNat (_), c1.per, c1.inc⟩, by (try dsimp only); rw [List.length_set]; rfl, hfz, by (try dsimp only); (try rw [List.length_set]); omega, by (try dsimp only); (try rw [List.length_set]); omega, rfl, rfl⟩
        ·
         first | refine WS.callAt 3 rfl en12 rfl rfl qD (CallOp.mkT rfl rfl rfl rfl) rfl (N_C w0 ha (by constructor <;> decide) _) ?_ | refine WS.callAt 4 rfl en12 rfl rfl qD (CallOp.mkT rfl rfl rfl rfl) rfl (N_C w0 ha (by constructor <;> decide) _) ?_ | refine WS.callAt 5 rfl en12 rfl rfl qD (CallOp.mkT rfl rfl rfl rfl) rfl (N_C w0 ha (by constructor <;> decide) _) ?_
         rintro _ _ _ _ - ⟨rfl, rfl, rfl, rfl⟩
         refine ⟨qR, qS, ?_⟩
         refine tS 7 ?_
         refine WA.yl 3 rfl qK rfl rfl qD (Yl.index tab_ok rfl rfl rfl rfl rfl rfl (fun _ => rfl) qA (by intro _; first | exact fun _ _ _ _ => ha10 qO | exact qI)) qS qR ?_
         refine' WA.yl 4 rfl qK rfl rfl qD (Yl.load1 tab_ok rfl rfl rfl (fun _ => rfl) ?r16 rfl ?h16) qS qR ?_
         case r16 => (first | (apply RS.rdD; assumption; ((try dsimp only) <;> omega)) | exact Rd.slD 0 rfl qX | exact Rd.slD 1 rfl qX | exact Rd.slD 2 rfl qX | exact Rd.slD 3 rfl qX | exact Rd.slD 4 rfl qX | exact Rd.slD 5 rfl qX)
         case h16 => rfl
         refine WA.yl 8 rfl qK rfl rfl qD (Yl.add rfl rfl rfl (fun _ => rfl) qA) qS qR ?_
         refine WA.yl 9 rfl qK rfl rfl qD (Yl.index tab_ok rfl rfl rfl rfl rfl rfl (fun _ => rfl) qA (by intro _; first | exact fun _ _ _ _ => ha10 qO | exact qI)) qS qR ?_
         first | refine WA.effN 10 rfl qK rfl rfl (Ef.storeD _ 0 tab_ok rfl rfl rfl rfl rfl qX rfl rfl rfl rfl ?_) | refine WA.effN 10 rfl qK rfl rfl (Ef.storeD _ 1 tab_ok rfl rfl rfl rfl rfl qX rfl rfl rfl rfl ?_) | refine WA.effN 10 rfl qK rfl rfl (Ef.storeD _ 2 tab_ok rfl rfl rfl rfl rfl qX rfl rfl rfl rfl ?_) | refine WA.effN 10 rfl qK rfl rfl (Ef.storeD _ 3 tab_ok rfl rfl rfl rfl rfl qX rfl rfl rfl rfl ?_) | refine WA.effN 10 rfl qK rfl rfl (Ef.storeD _ 4 tab_ok rfl rfl rfl rfl rfl qX rfl rfl rfl rfl ?_) | refine WA.effN 10 rfl qK rfl rfl (Ef.storeD _ 5 tab_ok rfl rfl rfl rfl rfl qX rfl rfl rfl rfl ?_)
         refine ⟨qR, qS, ?_⟩
         refine WA.done qK ?_
         refine zL (zU ?_)
         first | (refine W.cap 2 rfl ?_; intro hcp; rw [List.length_map] at hcp; (try rw [List.length_set] at hcp); refine W.freeze (enc := encI) 2 rfl ?_; intro R1 hR1 hfz) | (refine W.cap 1 rfl ?_; intro hcp; rw [List.length_map] at hcp; (try rw [List.length_set] at hcp); refine W.freeze (enc := encI) 1 rfl ?_; intro R1 hR1 hfz) | skip
         refine zQ (zG ?_)
         refine' WG.y rfl rfl qD (Yl.load1 tab_ok rfl rfl rfl (fun _ => rfl) ?r17 rfl ?h17) ?_
         case r17 => (first | exact Rd.blk 0 rfl | exact Rd.blk 1 rfl | exact Rd.blk 2 rfl | exact Rd.blk 3 rfl | exact Rd.blk 4 rfl | exact Rd.blk 5 rfl | (apply RS.rdD; assumption; ((try dsimp only) <;> omega)) | exact Rd.slD 0 rfl qX | exact Rd.slD 1 rfl qX | exact Rd.slD 2 rfl qX | exact Rd.slD 3 rfl qX | exact Rd.slD 4 rfl qX | exact Rd.slD 5 rfl qX)
         case h17 => rfl
         first | refine WL.efN rfl rfl (Ef.store0 0 tab_ok rfl rfl rfl rfl rfl rfl rfl rfl ?_) | refine WL.efN rfl rfl (Ef.store0 1 tab_ok rfl rfl rfl rfl rfl rfl rfl rfl ?_) | refine WL.efN rfl rfl (Ef.store0 2 tab_ok rfl rfl rfl rfl rfl rfl rfl rfl ?_) | refine WL.efN rfl rfl (Ef.store0 3 tab_ok rfl rfl rfl rfl rfl rfl rfl rfl ?_) | refine WL.efN rfl rfl (Ef.store0 4 tab_ok rfl rfl rfl rfl rfl rfl rfl rfl ?_) | refine WL.efN rfl rfl (Ef.store0 5 tab_ok rfl rfl rfl rfl rfl rfl rfl rfl ?_)
         refine zN (zU (zT ?_))
         refine WE.retFS (E' := srcE b a cp xs (c + 1 + 1 + 1) :: F) qS tab_ok [_] rfl ⟨⟨_, _, _, rfl, rfl, rfl, qB, rfl⟩, trivial⟩ (hR1) ?_
         exact ⟨_, [], rfl, a10, c10, _, ⟨c1.vals.set ((i : Int)).toNat (_), c1.per, c1.inc⟩, by (try dsimp only); rw [List.length_set]; rfl, hfz, by (try dsimp only); (try rw [List.length_set]); omega, by (try dsimp only); (try rw [List.length_set]); omega, rfl, rfl⟩
       ·try dsimp only at hc5
        refine zB ?_
        refine W.loopK (β := List Int × Option Addr × Nat × Nat) (fun (qs, aq, cq, cn) => 0 < qs.length ∧ qs.length ≤ 401) (fun (qs, aq, cq, cn) => []) [0, 4, 5] [_, _, _] [] _ rfl (fun (qs, aq, cq, cn) => [(0, .blk b5 [.slice aq qs.length cq, .int .i64 c1.per, .int .i64 c1.inc]), (1, .sl 3 1 aq cq ((qs).map encI)), (4, srcE b a cp xs cn)]) (fun (qs, aq, cq, cn) => 401 - qs.length) ((c1.vals, a10, c10, c + 1 + 1)) (⟨by (try dsimp only); omega, by (try dsimp only); omega⟩) ⟨rfl, rfl, rfl, rfl⟩ qS ?_
        intro zz hst
        obtain ⟨qs, aq, cq, cn⟩ := zz
        dsimp only [zipE, setAll, List.cons_append, List.nil_append, List.set_cons_zero, List.set_cons_succ] at hst ⊢
        obtain ⟨hq0, hq1⟩ := hst
        have hm3 := mod_range (nth xs cn) (show (1 : Int) ≤ 2 by decide)
        refine zQ (zQ ?_)
        refine W.regionH _ (ES := [.blk b5 [.slice aq qs.length cq, .int .i64 c1.per, .int .i64 c1.inc]]) mixed ?_
        refine tP 0 ?_
        refine' WA.take 1 rfl qK qK qK rfl rfl qD (Yl.load1 tab_ok rfl rfl rfl (fun _ => rfl) ?r18 rfl ?h18) qS qR ?_
        case r18 => apply Rd.add; (first | exact Rd.blk 0 rfl | exact Rd.blk 1 rfl | exact Rd.blk 2 rfl | exact Rd.blk 3 rfl | exact Rd.blk 4 rfl | exact Rd.blk 5 rfl | (apply RS.rdD; assumption; ((try dsimp only) <;> omega)) | exact Rd.slD 0 rfl qX | exact Rd.slD 1 rfl qX | exact Rd.slD 2 rfl qX | exact Rd.slD 3 rfl qX | exact Rd.slD 4 rfl qX | exact Rd.slD 5 rfl qX)
        case h18 => rfl
        refine tP 2 ?_
        refine tP 3 ?_
        first | refine WA.callAt 3 4 rfl qK en12 rfl rfl qD (CallOp.mkT rfl rfl rfl rfl) rfl (N_C w0 ha (by constructor <;> decide) _) ?_ | refine WA.callAt 4 4 rfl qK en12 rfl rfl qD (CallOp.mkT rfl rfl rfl rfl) rfl (N_C w0 ha (by constructor <;> decide) _) ?_ | refine WA.callAt 5 4 rfl qK en12 rfl rfl qD (CallOp.mkT rfl rfl rfl rfl) rfl (N_C w0 ha (by constructor <;> decide) _) ?_
        rintro _ _ _ _ - ⟨rfl, rfl, rfl, rfl⟩
        refine ⟨RLe.refl _, qS, ?_⟩
        refine tA 5 ?_
        refine tP 6 ?_
        refine WA.done qK ?_
        refine zU ?_
        refine W.condD rfl (fun hc6 => ?_) (fun hc6 => ?_)
        ·try dsimp only at hc6
         refine zK (zU (zB ?_))
         refine W.regionH _ (ES := []) mixed ?_
         refine tP 0 ?_
         refine tP 2 ?_
         refine tP 4 ?_
         refine WA.br3 (i := 1) (j := 3) (k := 5) qK ?_ ?_ ?_
         ·
          refine' WS.yl rfl rfl rfl qD (Yl.load1 tab_ok rfl rfl rfl (fun _ => rfl) ?r19 rfl ?h19) qS qR ?_
          case r19 => apply Rd.add; (first | exact Rd.blk 0 rfl | exact Rd.blk 1 rfl | exact Rd.blk 2 rfl | exact Rd.blk 3 rfl | exact Rd.blk 4 rfl | exact Rd.blk 5 rfl | (apply RS.rdD; assumption; ((try dsimp only) <;> omega)) | exact Rd.slD 0 rfl qX | exact Rd.slD 1 rfl qX | exact Rd.slD 2 rfl qX | exact Rd.slD 3 rfl qX | exact Rd.slD 4 rfl qX | exact Rd.slD 5 rfl qX)
          case h19 => rfl
          refine WA.br2 (i := 3) (j := 5) qK ?_ ?_
          ·
           refine' WS.yl rfl rfl rfl qD (Yl.load1 tab_ok rfl rfl rfl (fun _ => rfl) ?r20 rfl ?h20) qS qR ?_
           case r20 => apply Rd.add; (first | exact Rd.blk 0 rfl | exact Rd.blk 1 rfl | exact Rd.blk 2 rfl | exact Rd.blk 3 rfl | exact Rd.blk 4 rfl | exact Rd.blk 5 rfl | (apply RS.rdD; assumption; ((try dsimp only) <;> omega)) | exact Rd.slD 0 rfl qX | exact Rd.slD 1 rfl qX | exact Rd.slD 2 rfl qX | exact Rd.slD 3 rfl qX | exact Rd.slD 4 rfl qX | exact Rd.slD 5 rfl qX)
           case h20 => rfl
           refine' WA.yl 5 rfl qK rfl rfl qD (Yl.load1 tab_ok rfl rfl rfl (fun _ => rfl) ?r21 rfl ?h21) qS qR ?_
           case r21 => apply Rd.add; (first | exact Rd.blk 0 rfl | exact Rd.blk 1 rfl | exact Rd.blk 2 rfl | exact Rd.blk 3 rfl | exact Rd.blk 4 rfl | exact Rd.blk 5 rfl | (apply RS.rdD; assumption; ((try dsimp only) <;> omega)) | exact Rd.slD 0 rfl qX | exact Rd.slD 1 rfl qX | exact Rd.slD 2 rfl qX | exact Rd.slD 3 rfl qX | exact Rd.slD 4 rfl qX | exact Rd.slD 5 rfl qX)
           case h21 => rfl
           refine tP 6 ?_
           refine tS 7 ?_
           refine WA.yl 8 rfl qK rfl rfl qD (Yl.index tab_ok rfl rfl rfl rfl rfl rfl (fun _ => rfl) qA (by intro _; first | exact fun _ _ _ _ => ha10 qO | exact qI)) qS qR ?_
           refine' WA.yl 9 rfl qK rfl rfl qD (Yl.load1 tab_ok rfl rfl rfl (fun _ => rfl) ?r22 rfl ?h22) qS qR ?_
           case r22 => (first | (apply RS.rdD; assumption; ((try dsimp only) <;> omega)) | exact Rd.slD 0 rfl qX | exact Rd.slD 1 rfl qX | exact Rd.slD 2 rfl qX | exact Rd.slD 3 rfl qX | exact Rd.slD 4 rfl qX | exact Rd.slD 5 rfl qX)
           case h22 => rfl
           refine WA.eff 10 rfl qK rfl rfl qD (Ef.buildSliceD (enc := encI) (parts := [.tmp 44]) [_] tab_ok rfl rfl rfl rfl rfl rfl rfl rfl qD qD (fun a45 => ?_))
           refine ⟨qR, qS, ?_⟩
           first | refine WA.eff 11 rfl (by kernel_rfl) rfl rfl (by decide) (Ef.appendD 1 0 tab_ok rfl rfl rfl rfl rfl rfl rfl rfl rfl rfl rfl (fun _ _ => rfl) (by simp only [List.length_cons, List.length_nil]; omega) (by simp only [List.length_cons, List.length_nil]; omega) (fun a46 c46 ha46 => ?_)) | refine WA.eff 11 rfl (by kernel_rfl) rfl rfl (by decide) (Ef.appendD 2 0 tab_ok rfl rfl rfl rfl rfl rfl rfl rfl rfl rfl rfl (fun _ _ => rfl) (by simp only [List.length_cons, List.length_nil]; omega) (by simp only [List.length_cons, List.length_nil]; omega) (fun a46 c46 ha46 => ?_)) | refine WA.eff 11 rfl (by kernel_rfl) rfl rfl (by decide) (Ef.appendD 3 0 tab_ok rfl rfl rfl rfl rfl rfl rfl rfl rfl rfl rfl (fun _ _ => rfl) (by simp only [List.length_cons, List.length_nil]; omega) (by simp only [List.length_cons, List.length_nil]; omega) (fun a46 c46 ha46 => ?_)) | refine WA.eff 11 rfl (by kernel_rfl) rfl rfl (by decide) (Ef.appendD 4 0 tab_ok rfl rfl rfl rfl rfl rfl rfl rfl rfl rfl rfl (fun _ _ => rfl) (by simp only [List.length_cons, List.length_nil]; omega) (by simp only [List.length_cons, List.length_nil]; omega) (fun a46 c46 ha46 => ?_)) | refine WA.eff 11 rfl (by kernel_rfl) rfl rfl (by decide) (Ef.appendD 5 0 tab_ok rfl rfl rfl rfl rfl rfl rfl rfl rfl rfl rfl (fun _ _ => rfl) (by simp only [List.length_cons, List.length_nil]; omega) (by simp only [List.length_cons, List.length_nil]; omega) (fun a46 c46 ha46 => ?_)) | refine WA.eff 11 rfl (by kernel_rfl) rfl rfl (by decide) (Ef.appendR 0 tab_ok rfl rfl rfl rfl rfl rfl rfl rfl rfl rfl (by assumption) (fun _ _ => rfl) (by (try dsimp only); omega) (by omega) (fun a46 c46 ha46 => ?_)) | refine WA.eff 11 rfl (by kernel_rfl) rfl rfl (by decide) (Ef.appendR 1 tab_ok rfl rfl rfl rfl rfl rfl rfl rfl rfl rfl (by assumption) (fun _ _ => rfl) (by (try dsimp only); omega) (by omega) (fun a46 c46 ha46 => ?_)) | refine WA.eff 11 rfl (by kernel_rfl) rfl rfl (by decide) (Ef.appendR 2 tab_ok rfl rfl rfl rfl rfl rfl rfl rfl rfl rfl (by assumption) (fun _ _ => rfl) (by (try dsimp only); omega) (by omega) (fun a46 c46 ha46 => ?_)) | refine WA.eff 11 rfl (by kernel_rfl) rfl rfl (by decide) (Ef.appendR 3 tab_ok rfl rfl rfl rfl rfl rfl rfl rfl rfl rfl (by assumption) (fun _ _ => rfl) (by (try dsimp only); omega) (by omega) (fun a46 c46 ha46 => ?_)) | refine WA.eff 11 rfl (by kernel_rfl) rfl rfl (by decide) (Ef.appendR 4 tab_ok rfl rfl rfl rfl rfl rfl rfl rfl rfl rfl (by assumption) (fun _ _ => rfl) (by (try dsimp only); omega) (by omega) (fun a46 c46 ha46 => ?_)) | refine WA.eff 11 rfl (by kernel_rfl) rfl rfl (by decide) (Ef.appendR 5 tab_ok rfl rfl rfl rfl rfl rfl rfl rfl rfl rfl (by assumption) (fun _ _ => rfl) (by (try dsimp only); omega) (by omega) (fun a46 c46 ha46 => ?_))
           refine ⟨qR, qS, ?_⟩
           refine tP 12 ?_
           first | refine WA.effN 13 rfl qK rfl rfl (Ef.store 0 tab_ok rfl rfl rfl rfl rfl rfl rfl rfl ?_) | refine WA.effN 13 rfl qK rfl rfl (Ef.store 1 tab_ok rfl rfl rfl rfl rfl rfl rfl rfl ?_) | refine WA.effN 13 rfl qK rfl rfl (Ef.store 2 tab_ok rfl rfl rfl rfl rfl rfl rfl rfl ?_) | refine WA.effN 13 rfl qK rfl rfl (Ef.store 3 tab_ok rfl rfl rfl rfl rfl rfl rfl rfl ?_) | refine WA.effN 13 rfl qK rfl rfl (Ef.store 4 tab_ok rfl rfl rfl rfl rfl rfl rfl rfl ?_) | refine WA.effN 13 rfl qK rfl rfl (Ef.store 5 tab_ok rfl rfl rfl rfl rfl rfl rfl rfl ?_)
           refine ⟨qR, qS, ?_⟩
           refine WA.done qK ?_
           refine zL ?_
           refine WE.again ((qs ++ [nth qs ((qs.length : Int) - 1).toNat], a46, c46, cn + 1)) (⟨by simp, by simp only [List.length_append, List.length_cons, List.length_nil]; omega⟩) (by simp only [List.length_append, List.length_cons, List.length_nil]; omega) ⟨rfl, rfl, rfl, rfl⟩ (RLe.refl _) qS
          ·
           refine' WS.yl rfl rfl rfl qD (Yl.load1 tab_ok rfl rfl rfl (fun _ => rfl) ?r23 rfl ?h23) qS qR ?_
           case r23 => apply Rd.add; (first | exact Rd.blk 0 rfl | exact Rd.blk 1 rfl | exact Rd.blk 2 rfl | exact Rd.blk 3 rfl | exact Rd.blk 4 rfl | exact Rd.blk 5 rfl | (apply RS.rdD; assumption; ((try dsimp only) <;> omega)) | exact Rd.slD 0 rfl qX | exact Rd.slD 1 rfl qX | exact Rd.slD 2 rfl qX | exact Rd.slD 3 rfl qX | exact Rd.slD 4 rfl qX | exact Rd.slD 5 rfl qX)
           case h23 => rfl
           refine tP 6 ?_
           refine tS 7 ?_
           refine' WA.yl 3 rfl qK rfl rfl qD (Yl.load1 tab_ok rfl rfl rfl (fun _ => rfl) ?r24 rfl ?h24) qS qR ?_
           case r24 => apply Rd.add; (first | exact Rd.blk 0 rfl | exact Rd.blk 1 rfl | exact Rd.blk 2 rfl | exact Rd.blk 3 rfl | exact Rd.blk 4 rfl | exact Rd.blk 5 rfl | (apply RS.rdD; assumption; ((try dsimp only) <;> omega)) | exact Rd.slD 0 rfl qX | exact Rd.slD 1 rfl qX | exact Rd.slD 2 rfl qX | exact Rd.slD 3 rfl qX | exact Rd.slD 4 rfl qX | exact Rd.slD 5 rfl qX)
           case h24 => rfl
           refine WA.yl 8 rfl qK rfl rfl qD (Yl.index tab_ok rfl rfl rfl rfl rfl rfl (fun _ => rfl) qA (by intro _; first | exact fun _ _ _ _ => ha10 qO | exact qI)) qS qR ?_
           refine' WA.yl 9 rfl qK rfl rfl qD (Yl.load1 tab_ok rfl rfl rfl (fun _ => rfl) ?r25 rfl ?h25) qS qR ?_
           case r25 => (first | (apply RS.rdD; assumption; ((try dsimp only) <;> omega)) | exact Rd.slD 0 rfl qX | exact Rd.slD 1 rfl qX | exact Rd.slD 2 rfl qX | exact Rd.slD 3 rfl qX | exact Rd.slD 4 rfl qX | exact Rd.slD 5 rfl qX)
           case h25 => rfl
           refine WA.eff 10 rfl qK rfl rfl qD (Ef.buildSliceD (enc := encI) (parts := [.tmp 44]) [_] tab_ok rfl rfl rfl rfl rfl rfl rfl rfl qD qD (fun a45 => ?_))
           refine ⟨qR, qS, ?_⟩
           first | refine WA.eff 11 rfl (by kernel_rfl) rfl rfl (by decide) (Ef.appendD 1 0 tab_ok rfl rfl rfl rfl rfl rfl rfl rfl rfl rfl rfl (fun _ _ => rfl) (by simp only [List.length_cons, List.length_nil]; omega) (by simp only [List.length_cons, List.length_nil]; omega) (fun a46 c46 ha46 => ?_)) | refine WA.eff 11 rfl (by kernel_rfl) rfl rfl (by decide) (Ef.appendD 2 0 tab_ok rfl rfl rfl rfl rfl rfl rfl rfl rfl rfl rfl (fun _ _ => rfl) (by simp only [List.length_cons, List.length_nil]; omega) (by simp only [List.length_cons, List.length_nil]; omega) (fun a46 c46 ha46 => ?_)) | refine WA.eff 11 rfl (by kernel_rfl) rfl rfl (by decide) (Ef.appendD 3 0 tab_ok rfl rfl rfl rfl rfl rfl rfl rfl rfl rfl rfl (fun _ _ => rfl) (by simp only [List.length_cons, List.length_nil]; omega) (by simp only [List.length_cons, List.length_nil]; omega) (fun a46 c46 ha46 => ?_)) | refine WA.eff 11 rfl (by kernel_rfl) rfl rfl (by decide) (Ef.appendD 4 0 tab_ok rfl rfl rfl rfl rfl rfl rfl rfl rfl rfl rfl (fun _ _ => rfl) (by simp only [List.length_cons, List.length_nil]; omega) (by simp only [List.length_cons, List.length_nil]; omega) (fun a46 c46 ha46 => ?_)) | refine WA.eff 11 rfl (by kernel_rfl) rfl rfl (by decide) (Ef.appendD 5 0 tab_ok rfl rfl rfl rfl rfl rfl rfl rfl rfl rfl rfl (fun _ _ => rfl) (by simp only [List.length_cons, List.length_nil]; omega) (by simp only [List.length_cons, List.length_nil]; omega) (fun a46 c46 ha46 => ?_)) | refine WA.eff 11 rfl (by kernel_rfl) rfl rfl (by decide) (Ef.appendR 0 tab_ok rfl rfl rfl rfl rfl rfl rfl rfl rfl rfl (by assumption) (fun _ _ => rfl) (by (try dsimp only); omega) (by omega) (fun a46 c46 ha46 => ?_)) | refine WA.eff 11 rfl (by kernel_rfl) rfl rfl (by decide) (Ef.appendR 1 tab_ok rfl rfl rfl rfl rfl rfl rfl rfl rfl rfl (by assumption) (fun _ _ => rfl) (by (try dsimp only); omega) (by omega) (fun a46 c46 ha46 => ?_)) | refine WA.eff 11 rfl (by kernel_rfl) rfl rfl (by decide) (Ef.appendR 2 tab_ok rfl rfl rfl rfl rfl rfl rfl rfl rfl rfl (by assumption) (fun _ _ => rfl) (by (try dsimp only); omega) (by omega) (fun a46 c46 ha46 => ?_)) | refine WA.eff 11 rfl (by kernel_rfl) rfl rfl (by decide) (Ef.appendR 3 tab_ok rfl rfl rfl rfl rfl rfl rfl rfl rfl rfl (by assumption) (fun _ _ => rfl) (by (try dsimp only); omega) (by omega) (fun a46 c46 ha46 => ?_)) | refine WA.eff 11 rfl (by kernel_rfl) rfl rfl (by decide) (Ef.appendR 4 tab_ok rfl rfl rfl rfl rfl rfl rfl rfl rfl rfl (by assumption) (fun _ _ => rfl) (by (try dsimp only); omega) (by omega) (fun a46 c46 ha46 => ?_)) | refine WA.eff 11 rfl (by kernel_rfl) rfl rfl (by decide) (Ef.appendR 5 tab_ok rfl rfl rfl rfl rfl rfl rfl rfl rfl rfl (by assumption) (fun _ _ => rfl) (by (try dsimp only); omega) (by omega) (fun a46 c46 ha46 => ?_))
           refine ⟨qR, qS, ?_⟩
           refine tP 12 ?_
           first | refine WA.effN 13 rfl qK rfl rfl (Ef.store 0 tab_ok rfl rfl rfl rfl rfl rfl rfl rfl ?_) | refine WA.effN 13 rfl qK rfl rfl (Ef.store 1 tab_ok rfl rfl rfl rfl rfl rfl rfl rfl ?_) | refine WA.effN 13 rfl qK rfl rfl (Ef.store 2 tab_ok rfl rfl rfl rfl rfl rfl rfl rfl ?_) | refine WA.effN 13 rfl qK rfl rfl (Ef.store 3 tab_ok rfl rfl rfl rfl rfl rfl rfl rfl ?_) | refine WA.effN 13 rfl qK rfl rfl (Ef.store 4 tab_ok rfl rfl rfl rfl rfl rfl rfl rfl ?_) | refine WA.effN 13 rfl qK rfl rfl (Ef.store 5 tab_ok rfl rfl rfl rfl rfl rfl rfl rfl ?_)
           refine ⟨qR, qS, ?_⟩
           refine WA.done qK ?_
           refine zL ?_
           refine WE.again ((qs ++ [nth qs ((qs.length : Int) - 1).toNat], a46, c46, cn + 1)) (⟨by simp, by simp only [List.length_append, List.length_cons, List.length_nil]; omega⟩) (by simp only [List.length_append, List.length_cons, List.length_nil]; omega) ⟨rfl, rfl, rfl, rfl⟩ (RLe.refl _) qS
         ·
          refine' WS.yl rfl rfl rfl qD (Yl.load1 tab_ok rfl rfl rfl (fun _ => rfl) ?r26 rfl ?h26) qS qR ?_
          case r26 => apply Rd.add; (first | exact Rd.blk 0 rfl | exact Rd.blk 1 rfl | exact Rd.blk 2 rfl | exact Rd.blk 3 rfl | exact Rd.blk 4 rfl | exact Rd.blk 5 rfl | (apply RS.rdD; assumption; ((try dsimp only) <;> omega)) | exact Rd.slD 0 rfl qX | exact Rd.slD 1 rfl qX | exact Rd.slD 2 rfl qX | exact Rd.slD 3 rfl qX | exact Rd.slD 4 rfl qX | exact Rd.slD 5 rfl qX)
          case h26 => rfl
          refine WA.br2 (i := 1) (j := 5) qK ?_ ?_
          ·
           refine' WS.yl rfl rfl rfl qD (Yl.load1 tab_ok rfl rfl rfl (fun _ => rfl) ?r27 rfl ?h27) qS qR ?_
           case r27 => apply Rd.add; (first | exact Rd.blk 0 rfl | exact Rd.blk 1 rfl | exact Rd.blk 2 rfl | exact Rd.blk 3 rfl | exact Rd.blk 4 rfl | exact Rd.blk 5 rfl | (apply RS.rdD; assumption; ((try dsimp only) <;> omega)) | exact Rd.slD 0 rfl qX | exact Rd.slD 1 rfl qX | exact Rd.slD 2 rfl qX | exact Rd.slD 3 rfl qX | exact Rd.slD 4 rfl qX | exact Rd.slD 5 rfl qX)
           case h27 => rfl
           refine' WA.yl 5 rfl qK rfl rfl qD (Yl.load1 tab_ok rfl rfl rfl (fun _ => rfl) ?r28 rfl ?h28) qS qR ?_
           case r28 => apply Rd.add; (first | exact Rd.blk 0 rfl | exact Rd.blk 1 rfl | exact Rd.blk 2 rfl | exact Rd.blk 3 rfl | exact Rd.blk 4 rfl | exact Rd.blk 5 rfl | (apply RS.rdD; assumption; ((try dsimp only) <;> omega)) | exact Rd.slD 0 rfl qX | exact Rd.slD 1 rfl qX | exact Rd.slD 2 rfl qX | exact Rd.slD 3 rfl qX | exact Rd.slD 4 rfl qX | exact Rd.slD 5 rfl qX)
           case h28 => rfl
           refine tP 6 ?_
           refine tS 7 ?_
           refine WA.yl 8 rfl qK rfl rfl qD (Yl.index tab_ok rfl rfl rfl rfl rfl rfl (fun _ => rfl) qA (by intro _; first | exact fun _ _ _ _ => ha10 qO | exact qI)) qS qR ?_
           refine' WA.yl 9 rfl qK rfl rfl qD (Yl.load1 tab_ok rfl rfl rfl (fun _ => rfl) ?r29 rfl ?h29) qS qR ?_
           case r29 => (first | (apply RS.rdD; assumption; ((try dsimp only) <;> omega)) | exact Rd.slD 0 rfl qX | exact Rd.slD 1 rfl qX | exact Rd.slD 2 rfl qX | exact Rd.slD 3 rfl qX | exact Rd.slD 4 rfl qX | exact Rd.slD 5 rfl qX)
           case h29 => rfl
           refine WA.eff 10 rfl qK rfl rfl qD (Ef.buildSliceD (enc := encI) (parts := [.tmp 44]) [_] tab_ok rfl rfl rfl rfl rfl rfl rfl rfl qD qD (fun a45 => ?_))
           refine ⟨qR, qS, ?_⟩
           first | refine WA.eff 11 rfl (by kernel_rfl) rfl rfl (by decide) (Ef.appendD 1 0 tab_ok rfl rfl rfl rfl rfl rfl rfl rfl rfl rfl rfl (fun _ _ => rfl) (by simp only [List.length_cons, List.length_nil]; omega) (by simp only [List.length_cons, List.length_nil]; omega) (fun a46 c46 ha46 => ?_)) | refine WA.eff 11 rfl (by kernel_rfl) rfl rfl (by decide) (Ef.appendD 2 0 tab_ok rfl rfl rfl rfl rfl rfl rfl rfl rfl rfl rfl (fun _ _ => rfl) (by simp only [List.length_cons, List.length_nil]; omega) (by simp only [List.length_cons, List.length_nil]; omega) (fun a46 c46 ha46 => ?_)) | refine WA.eff 11 rfl (by kernel_rfl) rfl rfl (by decide) (Ef.appendD 3 0 tab_ok rfl rfl rfl rfl rfl rfl rfl rfl rfl rfl rfl (fun _ _ => rfl) (by simp only [List.length_cons, List.length_nil]; omega) (by simp only [List.length_cons, List.length_nil]; omega) (fun a46 c46 ha46 => ?_)) | refine WA.eff 11 rfl (by kernel_rfl) rfl rfl (by decide) (Ef.appendD 4 0 tab_ok rfl rfl rfl rfl rfl rfl rfl rfl rfl rfl rfl (fun _ _ => rfl) (by simp only [List.length_cons, List.length_nil]; omega) (by simp only [List.length_cons, List.length_nil]; omega) (fun a46 c46 ha46 => ?_)) | refine WA.eff 11 rfl (by kernel_rfl) rfl rfl (by decide) (Ef.appendD 5 0 tab_ok rfl rfl rfl rfl rfl rfl rfl rfl rfl rfl rfl (fun _ _ => rfl) (by simp only [List.length_cons, List.length_nil]; omega) (by simp only [List.length_cons, List.length_nil]; omega) (fun a46 c46 ha46 => ?_)) | refine WA.eff 11 rfl (by kernel_rfl) rfl rfl (by decide) (Ef.appendR 0 tab_ok rfl rfl rfl rfl rfl rfl rfl rfl rfl rfl (by assumption) (fun _ _ => rfl) (by (try dsimp only); omega) (by omega) (fun a46 c46 ha46 => ?_)) | refine WA.eff 11 rfl (by kernel_rfl) rfl rfl (by decide) (Ef.appendR 1 tab_ok rfl rfl rfl rfl rfl rfl rfl rfl rfl rfl (by assumption) (fun _ _ => rfl) (by (try dsimp only); omega) (by omega) (fun a46 c46 ha46 => ?_)) | refine WA.eff 11 rfl (by kernel_rfl) rfl rfl (by decide) (Ef.appendR 2 tab_ok rfl rfl rfl rfl rfl rfl rfl rfl rfl rfl (by assumption) (fun _ _ => rfl) (by (try dsimp only); omega) (by omega) (fun a46 c46 ha46 => ?_)) | refine WA.eff 11 rfl (by kernel_rfl) rfl rfl (by decide) (Ef.appendR 3 tab_ok rfl rfl rfl rfl rfl rfl rfl rfl rfl rfl (by assumption) (fun _ _ => rfl) (by (try dsimp only); omega) (by omega) (fun a46 c46 ha46 => ?_)) | refine WA.eff 11 rfl (by kernel_rfl) rfl rfl (by decide) (Ef.appendR 4 tab_ok rfl rfl rfl rfl rfl rfl rfl rfl rfl rfl (by assumption) (fun _ _ => rfl) (by (try dsimp only); omega) (by omega) (fun a46 c46 ha46 => ?_)) | refine WA.eff 11 rfl (by kernel_rfl) rfl rfl (by decide) (Ef.appendR 5 tab_ok rfl rfl rfl rfl rfl rfl rfl rfl rfl rfl (by assumption) (fun _ _ => rfl) (by (try dsimp only); omega) (by omega) (fun a46 c46 ha46 => ?_))
           refine ⟨qR, qS, ?_⟩
           refine tP 12 ?_
           first | refine WA.effN 13 rfl qK rfl rfl (Ef.store 0 tab_ok rfl rfl rfl rfl rfl rfl rfl rfl ?_) | refine WA.effN 13 rfl qK rfl rfl (Ef.store 1 tab_ok rfl rfl rfl rfl rfl rfl rfl rfl ?_) | refine WA.effN 13 rfl qK rfl rfl (Ef.store 2 tab_ok rfl rfl rfl rfl rfl rfl rfl rfl ?_) | refine WA.effN 13 rfl qK rfl rfl (Ef.store 3 tab_ok rfl rfl rfl rfl rfl rfl rfl rfl ?_) | refine WA.effN 13 rfl qK rfl rfl (Ef.store 4 tab_ok rfl rfl rfl rfl rfl rfl rfl rfl ?_) | refine WA.effN 13 rfl qK rfl rfl (Ef.store 5 tab_ok rfl rfl rfl rfl rfl rfl rfl rfl ?_)
           refine ⟨qR, qS, ?_⟩
           refine WA.done qK ?_
           refine zL ?_
           refine WE.again ((qs ++ [nth qs ((qs.length : Int) - 1).toNat], a46, c46, cn + 1)) (⟨by simp, by simp only [List.length_append, List.length_cons, List.length_nil]; omega⟩) (by simp only [List.length_append, List.length_cons, List.length_nil]; omega) ⟨rfl, rfl, rfl, rfl⟩ (RLe.refl _) qS
          ·
           refine' WS.yl rfl rfl rfl qD (Yl.load1 tab_ok rfl rfl rfl (fun _ => rfl) ?r30 rfl ?h30) qS qR ?_
           case r30 => apply Rd.add; (first | exact Rd.blk 0 rfl | exact Rd.blk 1 rfl | exact Rd.blk 2 rfl | exact Rd.blk 3 rfl | exact Rd.blk 4 rfl | exact Rd.blk 5 rfl | (apply RS.rdD; assumption; ((try dsimp only) <;> omega)) | exact Rd.slD 0 rfl qX | exact Rd.slD 1 rfl qX | exact Rd.slD 2 rfl qX | exact Rd.slD 3 rfl qX | exact Rd.slD 4 rfl qX | exact Rd.slD 5 rfl qX)
           case h30 => rfl
           refine tP 6 ?_
           refine tS 7 ?_
           refine WA.br2 (i := 1) (j := 8) qK ?_ ?_
           ·
            refine' WS.yl rfl rfl rfl qD (Yl.load1 tab_ok rfl rfl rfl (fun _ => rfl) ?r31 rfl ?h31) qS qR ?_
            case r31 => apply Rd.add; (first | exact Rd.blk 0 rfl | exact Rd.blk 1 rfl | exact Rd.blk 2 rfl | exact Rd.blk 3 rfl | exact Rd.blk 4 rfl | exact Rd.blk 5 rfl | (apply RS.rdD; assumption; ((try dsimp only) <;> omega)) | exact Rd.slD 0 rfl qX | exact Rd.slD 1 rfl qX | exact Rd.slD 2 rfl qX | exact Rd.slD 3 rfl qX | exact Rd.slD 4 rfl qX | exact Rd.slD 5 rfl qX)
            case h31 => rfl
            refine WA.yl 8 rfl qK rfl rfl qD (Yl.index tab_ok rfl rfl rfl rfl rfl rfl (fun _ => rfl) qA (by intro _; first | exact fun _ _ _ _ => ha10 qO | exact qI)) qS qR ?_
            refine' WA.yl 9 rfl qK rfl rfl qD (Yl.load1 tab_ok rfl rfl rfl (fun _ => rfl) ?r32 rfl ?h32) qS qR ?_
            case r32 => (first | (apply RS.rdD; assumption; ((try dsimp only) <;> omega)) | exact Rd.slD 0 rfl qX | exact Rd.slD 1 rfl qX | exact Rd.slD 2 rfl qX | exact Rd.slD 3 rfl qX | exact Rd.slD 4 rfl qX | exact Rd.slD 5 rfl qX)
            case h32 => rfl
            refine WA.eff 10 rfl qK rfl rfl qD (Ef.buildSliceD (enc := encI) (parts := [.tmp 44]) [_] tab_ok rfl rfl rfl rfl rfl rfl rfl rfl qD qD (fun a45 => ?_))
            refine ⟨qR, qS, ?_⟩
            first | refine WA.eff 11 rfl (by kernel_rfl) rfl rfl (by decide) (Ef.appendD 1 0 tab_ok rfl rfl rfl rfl rfl rfl rfl rfl rfl rfl rfl (fun _ _ => rfl) (by simp only [List.length_cons, List.length_nil]; omega) (by simp only [List.length_cons, List.length_nil]; omega) (fun a46 c46 ha46 => ?_)) | refine WA.eff 11 rfl (by kernel_rfl) rfl rfl (by decide) (Ef.appendD 2 0 tab_ok rfl rfl rfl rfl rfl rfl rfl rfl rfl rfl rfl (fun _ _ => rfl) (by simp only [List.length_cons, List.length_nil]; omega) (by simp only [List.length_cons, List.length_nil]; omega) (fun a46 c46 ha46 => ?_)) | refine WA.eff 11 rfl (by kernel_rfl) rfl rfl (by decide) (Ef.appendD 3 0 tab_ok rfl rfl rfl rfl rfl rfl rfl rfl rfl rfl rfl (fun _ _ => rfl) (by simp only [List.length_cons, List.length_nil]; omega) (by simp only [List.length_cons, List.length_nil]; omega) (fun a46 c46 ha46 => ?_)) | refine WA.eff 11 rfl (by kernel_rfl) rfl rfl (by decide) (Ef.appendD 4 0 tab_ok rfl rfl rfl rfl rfl rfl rfl rfl rfl rfl rfl (fun _ _ => rfl) (by simp only [List.length_cons, List.length_nil]; omega) (by simp only [List.length_cons, List.length_nil]; omega) (fun a46 c46 ha46 => ?_)) | refine WA.eff 11 rfl (by kernel_rfl) rfl rfl (by decide) (Ef.appendD 5 0 tab_ok rfl rfl rfl rfl rfl rfl rfl rfl rfl rfl rfl (fun _ _ => rfl) (by simp only [List.length_cons, List.length_nil]; omega) (by simp only [List.length_cons, List.length_nil]; omega) (fun a46 c46 ha46 => ?_)) | refine WA.eff 11 rfl (by kernel_rfl) rfl rfl (by decide) (Ef.appendR 0 tab_ok rfl rfl rfl rfl rfl rfl rfl rfl rfl rfl (by assumption) (fun _ _ => rfl) (by (try dsimp only); omega) (by omega) (fun a46 c46 ha46 => ?_)) | refine WA.eff 11 rfl (by kernel_rfl) rfl rfl (by decide) (Ef.appendR 1 tab_ok rfl rfl rfl rfl rfl rfl rfl rfl rfl rfl (by assumption) (fun _ _ => rfl) (by (try dsimp only); omega) (by omega) (fun a46 c46 ha46 => ?_)) | refine WA.eff 11 rfl (by kernel_rfl) rfl rfl (by decide) (Ef.appendR 2 tab_ok rfl rfl rfl rfl rfl rfl rfl rfl rfl rfl (by assumption) (fun _ _ => rfl) (by (try dsimp only); omega) (by omega) (fun a46 c46 ha46 => ?_)) | refine WA.eff 11 rfl (by kernel_rfl) rfl rfl (by decide) (Ef.appendR 3 tab_ok rfl rfl rfl rfl rfl rfl rfl rfl rfl rfl (by assumption) (fun _ _ => rfl) (by (try dsimp only); omega) (by omega) (fun a46 c46 ha46 => ?_)) | refine WA.eff 11 rfl (by kernel_rfl) rfl rfl (by decide) (Ef.appendR 4 tab_ok rfl rfl rfl rfl rfl rfl rfl rfl rfl rfl (by assumption) (fun _ _ => rfl) (by (try dsimp only); omega) (by omega) (fun a46 c46 ha46 => ?_)) | refine WA.eff 11 rfl (by kernel_rfl) rfl rfl (by decide) (Ef.appendR 5 tab_ok rfl rfl rfl rfl rfl rfl rfl rfl rfl rfl (by assumption) (fun _ _ => rfl) (by (try dsimp only); omega) (by omega) (fun a46 c46 ha46 => ?_))
            refine ⟨qR, qS, ?_⟩
            refine tP 12 ?_
            first | refine WA.effN 13 rfl qK rfl rfl (Ef.store 0 tab_ok rfl rfl rfl rfl rfl rfl rfl rfl ?_) | refine WA.effN 13 rfl qK rfl rfl (Ef.store 1 tab_ok rfl rfl rfl rfl rfl rfl rfl rfl ?_) | refine WA.effN 13 rfl qK rfl rfl (Ef.store 2 tab_ok rfl rfl rfl rfl rfl rfl rfl rfl ?_) | refine WA.effN 13 rfl qK rfl rfl (Ef.store 3 tab_ok rfl rfl rfl rfl rfl rfl rfl rfl ?_) | refine WA.effN 13 rfl qK rfl rfl (Ef.store 4 tab_ok rfl rfl rfl rfl rfl rfl rfl rfl ?_) | refine WA.effN 13 rfl qK rfl rfl (Ef.store 5 tab_ok rfl rfl rfl rfl rfl rfl rfl rfl ?_)
            refine ⟨qR, qS, ?_⟩
            refine WA.done qK ?_
            refine zL ?_
            refine WE.again ((qs ++ [nth qs ((qs.length : Int) - 1).toNat], a46, c46, cn + 1)) (⟨by simp, by simp only [List.length_append, List.length_cons, List.length_nil]; omega⟩) (by simp only [List.length_append, List.length_cons, List.length_nil]; omega) ⟨rfl, rfl, rfl, rfl⟩ (RLe.refl _) qS
           ·
            refine WS.yl rfl rfl rfl qD (Yl.index tab_ok rfl rfl rfl rfl rfl rfl (fun _ => rfl) qA (by intro _; first | exact fun _ _ _ _ => ha10 qO | exact qI)) qS qR ?_
            refine WA.br2 (i := 1) (j := 9) qK ?_ ?_
            ·
             refine' WS.yl rfl rfl rfl qD (Yl.load1 tab_ok rfl rfl rfl (fun _ => rfl) ?r33 rfl ?h33) qS qR ?_
             case r33 => apply Rd.add; (first | exact Rd.blk 0 rfl | exact Rd.blk 1 rfl | exact Rd.blk 2 rfl | exact Rd.blk 3 rfl | exact Rd.blk 4 rfl | exact Rd.blk 5 rfl | (apply RS.rdD; assumption; ((try dsimp only) <;> omega)) | exact Rd.slD 0 rfl qX | exact Rd.slD 1 rfl qX | exact Rd.slD 2 rfl qX | exact Rd.slD 3 rfl qX | exact Rd.slD 4 rfl qX | exact Rd.slD 5 rfl qX)
             case h33 => rfl
             refine' WA.yl 9 rfl qK rfl rfl qD (Yl.load1 tab_ok rfl rfl rfl (fun _ => rfl) ?r34 rfl ?h34) qS qR ?_
             case r34 => (first | (apply RS.rdD; assumption; ((try dsimp only) <;> omega)) | exact Rd.slD 0 rfl qX | exact Rd.slD 1 rfl qX | exact Rd.slD 2 rfl qX | exact Rd.slD 3 rfl qX | exact Rd.slD 4 rfl qX | exact Rd.slD 5 rfl qX)
             case h34 => rfl
             refine WA.eff 10 rfl qK rfl rfl qD (Ef.buildSliceD (enc := encI) (parts := [.tmp 44]) [_] tab_ok rfl rfl rfl rfl rfl rfl rfl rfl qD qD (fun a45 => ?_))
             refine ⟨qR, qS, ?_⟩
             first | refine WA.eff 11 rfl (by kernel_rfl) rfl rfl (by decide) (Ef.appendD 1 0 tab_ok rfl rfl rfl rfl rfl rfl rfl rfl rfl rfl rfl (fun _ _ => rfl) (by simp only [List.length_cons, List.length_nil]; omega) (by simp only [List.length_cons, List.length_nil]; omega) (fun a46 c46 ha46 => ?_)) | refine WA.eff 11 rfl (by kernel_rfl) rfl rfl (by decide) (Ef.appendD 2 0 tab_ok rfl rfl rfl rfl rfl rfl rfl rfl rfl rfl rfl (fun _ _ => rfl) (by simp only [List.length_cons, List.length_nil]; omega) (by simp only [List.length_cons, List.length_nil]; omega) (fun a46 c46 ha46 => ?_)) | refine WA.eff 11 rfl (by kernel_rfl) rfl rfl (by decide) (Ef.appendD 3 0 tab_ok rfl rfl rfl rfl rfl rfl rfl rfl rfl rfl rfl (fun _ _ => rfl) (by simp only [List.length_cons, List.length_nil]; omega) (by simp only [List.length_cons, List.length_nil]; omega) (fun a46 c46 ha46 => ?_)) | refine WA.eff 11 rfl (by kernel_rfl) rfl rfl (by decide) (Ef.appendD 4 0 tab_ok rfl rfl rfl rfl rfl rfl rfl rfl rfl rfl rfl (fun _ _ => rfl) (by simp only [List.length_cons, List.length_nil]; omega) (by simp only [List.length_cons, List.length_nil]; omega) (fun a46 c46 ha46 => ?_)) | refine WA.eff 11 rfl (by kernel_rfl) rfl rfl (by decide) (Ef.appendD 5 0 tab_ok rfl rfl rfl rfl rfl rfl rfl rfl rfl rfl rfl (fun _ _ => rfl) (by simp only [List.length_cons, List.length_nil]; omega) (by simp only [List.length_cons, List.length_nil]; omega) (fun a46 c46 ha46 => ?_)) | refine WA.eff 11 rfl (by kernel_rfl) rfl rfl (by decide) (Ef.appendR 0 tab_ok rfl rfl rfl rfl rfl rfl rfl rfl rfl rfl (by assumption) (fun _ _ => rfl) (by (try dsimp only); omega) (by omega) (fun a46 c46 ha46 => ?_)) | refine WA.eff 11 rfl (by kernel_rfl) rfl rfl (by decide) (Ef.appendR 1 tab_ok rfl rfl rfl rfl rfl rfl rfl rfl rfl rfl (by assumption) (fun _ _ => rfl) (by (try dsimp only); omega) (by omega) (fun a46 c46 ha46 => ?_)) | refine WA.eff 11 rfl (by kernel_rfl) rfl rfl (by decide) (Ef.appendR 2 tab_ok rfl rfl rfl rfl rfl rfl rfl rfl rfl rfl (by assumption) (fun _ _ => rfl) (by (try dsimp only); omega) (by omega) (fun a46 c46 ha46 => ?_)) | refine WA.eff 11 rfl (by kernel_rfl) rfl rfl (by decide) (Ef.appendR 3 tab_ok rfl rfl rfl rfl rfl rfl rfl rfl rfl rfl (by assumption) (fun _ _ => rfl) (by (try dsimp only); omega) (by omega) (fun a46 c46 ha46 => ?_)) | refine WA.eff 11 rfl (by kernel_rfl) rfl rfl (by decide) (Ef.appendR 4 tab_ok rfl rfl rfl rfl rfl rfl rfl rfl rfl rfl (by assumption) (fun _ _ => rfl) (by (try dsimp only); omega) (by omega) (fun a46 c46 ha46 => ?_)) | refine WA.eff 11 rfl (by kernel_rfl) rfl rfl (by decide) (Ef.appendR 5 tab_ok rfl rfl rfl rfl rfl rfl rfl rfl rfl rfl (by assumption) (fun _ _ => rfl) (by (try dsimp only); omega) (by omega) (fun a46 c46 ha46 => ?_))
             refine ⟨qR, qS, ?_⟩
             refine tP 12 ?_
             first | refine WA.effN 13 rfl qK rfl rfl (Ef.store 0 tab_ok rfl rfl rfl rfl rfl rfl rfl rfl ?_) | refine WA.effN 13 rfl qK rfl rfl (Ef.store 1 tab_ok rfl rfl rfl rfl rfl rfl rfl rfl ?_) | refine WA.effN 13 rfl qK rfl rfl (Ef.store 2 tab_ok rfl rfl rfl rfl rfl rfl rfl rfl ?_) | refine WA.effN 13 rfl qK rfl rfl (Ef.store 3 tab_ok rfl rfl rfl rfl rfl rfl rfl rfl ?_) | refine WA.effN 13 rfl qK rfl rfl (Ef.store 4 tab_ok rfl rfl rfl rfl rfl rfl rfl rfl ?_) | refine WA.effN 13 rfl qK rfl rfl (Ef.store 5 tab_ok rfl rfl rfl rfl rfl rfl rfl rfl ?_)
             refine ⟨qR, qS, ?_⟩
             refine WA.done qK ?_
             refine zL ?_
             refine WE.again ((qs ++ [nth qs ((qs.length : Int) - 1).toNat], a46, c46, cn + 1)) (⟨by simp, by simp only [List.length_append, List.length_cons, List.length_nil]; omega⟩) (by simp only [List.length_append, List.length_cons, List.length_nil]; omega) ⟨rfl, rfl, rfl, rfl⟩ (RLe.refl _) qS
            ·
             refine' WS.yl rfl rfl rfl qD (Yl.load1 tab_ok rfl rfl rfl (fun _ => rfl) ?r35 rfl ?h35) qS qR ?_
             case r35 => (first | (apply RS.rdD; assumption; ((try dsimp only) <;> omega)) | exact Rd.slD 0 rfl qX | exact Rd.slD 1 rfl qX | exact Rd.slD 2 rfl qX | exact Rd.slD 3 rfl qX | exact Rd.slD 4 rfl qX | exact Rd.slD 5 rfl qX)
             case h35 => rfl
             refine WA.br2 (i := 1) (j := 10) qK ?_ ?_
             ·
              refine' WS.yl rfl rfl rfl qD (Yl.load1 tab_ok rfl rfl rfl (fun _ => rfl) ?r36 rfl ?h36) qS qR ?_
              case r36 => apply Rd.add; (first | exact Rd.blk 0 rfl | exact Rd.blk 1 rfl | exact Rd.blk 2 rfl | exact Rd.blk 3 rfl | exact Rd.blk 4 rfl | exact Rd.blk 5 rfl | (apply RS.rdD; assumption; ((try dsimp only) <;> omega)) | exact Rd.slD 0 rfl qX | exact Rd.slD 1 rfl qX | exact Rd.slD 2 rfl qX | exact Rd.slD 3 rfl qX | exact Rd.slD 4 rfl qX | exact Rd.slD 5 rfl qX)
              case h36 => rfl
              refine WA.eff 10 rfl qK rfl rfl qD (Ef.buildSliceD (enc := encI) (parts := [.tmp 44]) [_] tab_ok rfl rfl rfl rfl rfl rfl rfl rfl qD qD (fun a45 => ?_))
              refine ⟨qR, qS, ?_⟩
              first | refine WA.eff 11 rfl (by kernel_rfl) rfl rfl (by decide) (Ef.appendD 1 0 tab_ok rfl rfl rfl rfl rfl rfl rfl rfl rfl rfl rfl (fun _ _ => rfl) (by simp only [List.length_cons, List.length_nil]; omega) (by simp only [List.length_cons, List.length_nil]; omega) (fun a46 c46 ha46 => ?_)) | refine WA.eff 11 rfl (by kernel_rfl) rfl rfl (by decide) (Ef.appendD 2 0 tab_ok rfl rfl rfl rfl rfl rfl rfl rfl rfl rfl rfl (fun _ _ => rfl) (by simp only [List.length_cons, List.length_nil]; omega) (by simp only [List.length_cons, List.length_nil]; omega) (fun a46 c46 ha46 => ?_)) | refine WA.eff 11 rfl (by kernel_rfl) rfl rfl (by decide) (Ef.appendD 3 0 tab_ok rfl rfl rfl rfl rfl rfl rfl rfl rfl rfl rfl (fun _ _ => rfl) (by simp only [List.length_cons, List.length_nil]; omega) (by simp only [List.length_cons, List.length_nil]; omega) (fun a46 c46 ha46 => ?_)) | refine WA.eff 11 rfl (by kernel_rfl) rfl rfl (by decide) (Ef.appendD 4 0 tab_ok rfl rfl rfl rfl rfl rfl rfl rfl rfl rfl rfl (fun _ _ => rfl) (by simp only [List.length_cons, List.length_nil]; omega) (by simp only [List.length_cons, List.length_nil]; omega) (fun a46 c46 ha46 => ?_)) | refine WA.eff 11 rfl (by kernel_rfl) rfl rfl (by decide) (Ef.appendD 5 0 tab_ok rfl rfl rfl rfl rfl rfl rfl rfl rfl rfl rfl (fun _ _ => rfl) (by simp only [List.length_cons, List.length_nil]; omega) (by simp only [List.length_cons, List.length_nil]; omega) (fun a46 c46 ha46 => ?_)) | refine WA.eff 11 rfl (by kernel_rfl) rfl rfl (by decide) (Ef.appendR 0 tab_ok rfl rfl rfl rfl rfl rfl rfl rfl rfl rfl (by assumption) (fun _ _ => rfl) (by (try dsimp only); omega) (by omega) (fun a46 c46 ha46 => ?_)) | refine WA.eff 11 rfl (by kernel_rfl) rfl rfl (by decide) (Ef.appendR 1 tab_ok rfl rfl rfl rfl rfl rfl rfl rfl rfl rfl (by assumption) (fun _ _ => rfl) (by (try dsimp only); omega) (by omega) (fun a46 c46 ha46 => ?_)) | refine WA.eff 11 rfl (by kernel_rfl) rfl rfl (by decide) (Ef.appendR 2 tab_ok rfl rfl rfl rfl rfl rfl rfl rfl rfl rfl (by assumption) (fun _ _ => rfl) (by (try dsimp only); omega) (by omega) (fun a46 c46 ha46 => ?_)) | refine WA.eff 11 rfl (by kernel_rfl) rfl rfl (by decide) (Ef.appendR 3 tab_ok rfl rfl rfl rfl rfl rfl rfl rfl rfl rfl (by assumption) (fun _ _ => rfl) (by (try dsimp only); omega) (by omega) (fun a46 c46 ha46 => ?_)) | refine WA.eff 11 rfl (by kernel_rfl) rfl rfl (by decide) (Ef.appendR 4 tab_ok rfl rfl rfl rfl rfl rfl rfl rfl rfl rfl (by assumption) (fun _ _ => rfl) (by (try dsimp only); omega) (by omega) (fun a46 c46 ha46 => ?_)) | refine WA.eff 11 rfl (by kernel_rfl) rfl rfl (by decide) (Ef.appendR 5 tab_ok rfl rfl rfl rfl rfl rfl rfl rfl rfl rfl (by assumption) (fun _ _ => rfl) (by (try dsimp only); omega) (by omega) (fun a46 c46 ha46 => ?_))
              refine ⟨qR, qS, ?_⟩
              refine tP 12 ?_
              first | refine WA.effN 13 rfl qK rfl rfl (Ef.store 0 tab_ok rfl rfl rfl rfl rfl rfl rfl rfl ?_) | refine WA.effN 13 rfl qK rfl rfl (Ef.store 1 tab_ok rfl rfl rfl rfl rfl rfl rfl rfl ?_) | refine WA.effN 13 rfl qK rfl rfl (Ef.store 2 tab_ok rfl rfl rfl rfl rfl rfl rfl rfl ?_) | refine WA.effN 13 rfl qK rfl rfl (Ef.store 3 tab_ok rfl rfl rfl rfl rfl rfl rfl rfl ?_) | refine WA.effN 13 rfl qK rfl rfl (Ef.store 4 tab_ok rfl rfl rfl rfl rfl rfl rfl rfl ?_) | refine WA.effN 13 rfl qK rfl rfl (Ef.store 5 tab_ok rfl rfl rfl rfl rfl rfl rfl rfl ?_)
              refine ⟨qR, qS, ?_⟩
              refine WA.done qK ?_
              refine zL ?_
              refine WE.again ((qs ++ [nth qs ((qs.length : Int) - 1).toNat], a46, c46, cn + 1)) (⟨by simp, by simp only [List.length_append, List.length_cons, List.length_nil]; omega⟩) (by simp only [List.length_append, List.length_cons, List.length_nil]; omega) ⟨rfl, rfl, rfl, rfl⟩ (RLe.refl _) qS
             ·
              refine WS.eff rfl rfl rfl qD (Ef.buildSliceD (enc := encI) (parts := [.tmp 44]) [_] tab_ok rfl rfl rfl rfl rfl rfl rfl rfl qD qD (fun a45 => ?_))
              refine ⟨qR, qS, ?_⟩
              refine' WA.yl 1 rfl qK rfl rfl qD (Yl.load1 tab_ok rfl rfl rfl (fun _ => rfl) ?r37 rfl ?h37) qS qR ?_
              case r37 => apply Rd.add; (first | exact Rd.blk 0 rfl | exact Rd.blk 1 rfl | exact Rd.blk 2 rfl | exact Rd.blk 3 rfl | exact Rd.blk 4 rfl | exact Rd.blk 5 rfl | (apply RS.rdD; assumption; ((try dsimp only) <;> omega)) | exact Rd.slD 0 rfl qX | exact Rd.slD 1 rfl qX | exact Rd.slD 2 rfl qX | exact Rd.slD 3 rfl qX | exact Rd.slD 4 rfl qX | exact Rd.slD 5 rfl qX)
              case h37 => rfl
              first | refine WA.eff 11 rfl (by kernel_rfl) rfl rfl (by decide) (Ef.appendD 1 0 tab_ok rfl rfl rfl rfl rfl rfl rfl rfl rfl rfl rfl (fun _ _ => rfl) (by simp only [List.length_cons, List.length_nil]; omega) (by simp only [List.length_cons, List.length_nil]; omega) (fun a46 c46 ha46 => ?_)) | refine WA.eff 11 rfl (by kernel_rfl) rfl rfl (by decide) (Ef.appendD 2 0 tab_ok rfl rfl rfl rfl rfl rfl rfl rfl rfl rfl rfl (fun _ _ => rfl) (by simp only [List.length_cons, List.length_nil]; omega) (by simp only [List.length_cons, List.length_nil]; omega) (fun a46 c46 ha46 => ?_)) | refine WA.eff 11 rfl (by kernel_rfl) rfl rfl (by decide) (Ef.appendD 3 0 tab_ok rfl rfl rfl rfl rfl rfl rfl rfl rfl rfl rfl (fun _ _ => rfl) (by simp only [List.length_cons, List.length_nil]; omega) (by simp only [List.length_cons, List.length_nil]; omega) (fun a46 c46 ha46 => ?_)) | refine WA.eff 11 rfl (by kernel_rfl) rfl rfl (by decide) (Ef.appendD 4 0 tab_ok rfl rfl rfl rfl rfl rfl rfl rfl rfl rfl rfl (fun _ _ => rfl) (by simp only [List.length_cons, List.length_nil]; omega) (by simp only [List.length_cons, List.length_nil]; omega) (fun a46 c46 ha46 => ?_)) | refine WA.eff 11 rfl (by kernel_rfl) rfl rfl (by decide) (Ef.appendD 5 0 tab_ok rfl rfl rfl rfl rfl rfl rfl rfl rfl rfl rfl (fun _ _ => rfl) (by simp only [List.length_cons, List.length_nil]; omega) (by simp only [List.length_cons, List.length_nil]; omega) (fun a46 c46 ha46 => ?_)) | refine WA.eff 11 rfl (by kernel_rfl) rfl rfl (by decide) (Ef.appendR 0 tab_ok rfl rfl rfl rfl rfl rfl rfl rfl rfl rfl (by assumption) (fun _ _ => rfl) (by (try dsimp only); omega) (by omega) (fun a46 c46 ha46 => ?_)) | refine WA.eff 11 rfl (by kernel_rfl) rfl rfl (by decide) (Ef.appendR 1 tab_ok rfl rfl rfl rfl rfl rfl rfl rfl rfl rfl (by assumption) (fun _ _ => rfl) (by (try dsimp only); omega) (by omega) (fun a46 c46 ha46 => ?_)) | refine WA.eff 11 rfl (by kernel_rfl) rfl rfl (by decide) (Ef.appendR 2 tab_ok rfl rfl rfl rfl rfl rfl rfl rfl rfl rfl (by assumption) (fun _ _ => rfl) (by (try dsimp only); omega) (by omega) (fun a46 c46 ha46 => ?_)) | refine WA.eff 11 rfl (by kernel_rfl) rfl rfl (by decide) (Ef.appendR 3 tab_ok rfl rfl rfl rfl rfl rfl rfl rfl rfl rfl (by assumption) (fun _ _ => rfl) (by (try dsimp only); omega) (by omega) (fun a46 c46 ha46 => ?_)) | refine WA.eff 11 rfl (by kernel_rfl) rfl rfl (by decide) (Ef.appendR 4 tab_ok rfl rfl rfl rfl rfl rfl rfl rfl rfl rfl (by assumption) (fun _ _ => rfl) (by (try dsimp only); omega) (by omega) (fun a46 c46 ha46 => ?_)) | refine WA.eff 11 rfl (by kernel_rfl) rfl rfl (by decide) (Ef.appendR 5 tab_ok rfl rfl rfl rfl rfl rfl rfl rfl rfl rfl (by assumption) (fun _ _ => rfl) (by (try dsimp only); omega) (by omega) (fun a46 c46 ha46 => ?_))
              refine ⟨qR, qS, ?_⟩
              refine tP 12 ?_
              first | refine WA.effN 13 rfl qK rfl rfl (Ef.store 0 tab_ok rfl rfl rfl rfl rfl rfl rfl rfl ?_) | refine WA.effN 13 rfl qK rfl rfl (Ef.store 1 tab_ok rfl rfl rfl rfl rfl rfl rfl rfl ?_) | refine WA.effN 13 rfl qK rfl rfl (Ef.store 2 tab_ok rfl rfl rfl rfl rfl rfl rfl rfl ?_) | refine WA.effN 13 rfl qK rfl rfl (Ef.store 3 tab_ok rfl rfl rfl rfl rfl rfl rfl rfl ?_) | refine WA.effN 13 rfl qK rfl rfl (Ef.store 4 tab_ok rfl rfl rfl rfl rfl rfl rfl rfl ?_) | refine WA.effN 13 rfl qK rfl rfl (Ef.store 5 tab_ok rfl rfl rfl rfl rfl rfl rfl rfl ?_)
              refine ⟨qR, qS, ?_⟩
              refine WA.done qK ?_
              refine zL ?_
              refine WE.again ((qs ++ [nth qs ((qs.length : Int) - 1).toNat], a46, c46, cn + 1)) (⟨by simp, by simp only [List.length_append, List.length_cons, List.length_nil]; omega⟩) (by simp only [List.length_append, List.length_cons, List.length_nil]; omega) ⟨rfl, rfl, rfl, rfl⟩ (RLe.refl _) qS
         ·
          refine' WS.yl rfl rfl rfl qD (Yl.load1 tab_ok rfl rfl rfl (fun _ => rfl) ?r38 rfl ?h38) qS qR ?_
          case r38 => apply Rd.add; (first | exact Rd.blk 0 rfl | exact Rd.blk 1 rfl | exact Rd.blk 2 rfl | exact Rd.blk 3 rfl | exact Rd.blk 4 rfl | exact Rd.blk 5 rfl | (apply RS.rdD; assumption; ((try dsimp only) <;> omega)) | exact Rd.slD 0 rfl qX | exact Rd.slD 1 rfl qX | exact Rd.slD 2 rfl qX | exact Rd.slD 3 rfl qX | exact Rd.slD 4 rfl qX | exact Rd.slD 5 rfl qX)
          case h38 => rfl
          refine tP 6 ?_
          refine tS 7 ?_
          refine WA.br2 (i := 1) (j := 3) qK ?_ ?_
          ·
           refine' WS.yl rfl rfl rfl qD (Yl.load1 tab_ok rfl rfl rfl (fun _ => rfl) ?r39 rfl ?h39) qS qR ?_
           case r39 => apply Rd.add; (first | exact Rd.blk 0 rfl | exact Rd.blk 1 rfl | exact Rd.blk 2 rfl | exact Rd.blk 3 rfl | exact Rd.blk 4 rfl | exact Rd.blk 5 rfl | (apply RS.rdD; assumption; ((try dsimp only) <;> omega)) | exact Rd.slD 0 rfl qX | exact Rd.slD 1 rfl qX | exact Rd.slD 2 rfl qX | exact Rd.slD 3 rfl qX | exact Rd.slD 4 rfl qX | exact Rd.slD 5 rfl qX)
           case h39 => rfl
           refine' WA.yl 3 rfl qK rfl rfl qD (Yl.load1 tab_ok rfl rfl rfl (fun _ => rfl) ?r40 rfl ?h40) qS qR ?_
           case r40 => apply Rd.add; (first | exact Rd.blk 0 rfl | exact Rd.blk 1 rfl | exact Rd.blk 2 rfl | exact Rd.blk 3 rfl | exact Rd.blk 4 rfl | exact Rd.blk 5 rfl | (apply RS.rdD; assumption; ((try dsimp only) <;> omega)) | exact Rd.slD 0 rfl qX | exact Rd.slD 1 rfl qX | exact Rd.slD 2 rfl qX | exact Rd.slD 3 rfl qX | exact Rd.slD 4 rfl qX | exact Rd.slD 5 rfl qX)
           case h40 => rfl
           refine WA.yl 8 rfl qK rfl rfl qD (Yl.index tab_ok rfl rfl rfl rfl rfl rfl (fun _ => rfl) qA (by intro _; first | exact fun _ _ _ _ => ha10 qO | exact qI)) qS qR ?_
           refine' WA.yl 9 rfl qK rfl rfl qD (Yl.load1 tab_ok rfl rfl rfl (fun _ => rfl) ?r41 rfl ?h41) qS qR ?_
           case r41 => (first | (apply RS.rdD; assumption; ((try dsimp only) <;> omega)) | exact Rd.slD 0 rfl qX | exact Rd.slD 1 rfl qX | exact Rd.slD 2 rfl qX | exact Rd.slD 3 rfl qX | exact Rd.slD 4 rfl qX | exact Rd.slD 5 rfl qX)
           case h41 => rfl
           refine WA.eff 10 rfl qK rfl rfl qD (Ef.buildSliceD (enc := encI) (parts := [.tmp 44]) [_] tab_ok rfl rfl rfl rfl rfl rfl rfl rfl qD qD (fun a45 => ?_))
           refine ⟨qR, qS, ?_⟩
           first | refine WA.eff 11 rfl (by kernel_rfl) rfl rfl (by decide) (Ef.appendD 1 0 tab_ok rfl rfl rfl rfl rfl rfl rfl rfl rfl rfl rfl (fun _ _ => rfl) (by simp only [List.length_cons, List.length_nil]; omega) (by simp only [List.length_cons, List.length_nil]; omega) (fun a46 c46 ha46 => ?_)) | refine WA.eff 11 rfl (by kernel_rfl) rfl rfl (by decide) (Ef.appendD 2 0 tab_ok rfl rfl rfl rfl rfl rfl rfl rfl rfl rfl rfl (fun _ _ => rfl) (by simp only [List.length_cons, List.length_nil]; omega) (by simp only [List.length_cons, List.length_nil]; omega) (fun a46 c46 ha46 => ?_)) | refine WA.eff 11 rfl (by kernel_rfl) rfl rfl (by decide) (Ef.appendD 3 0 tab_ok rfl rfl rfl rfl rfl rfl rfl rfl rfl rfl rfl (fun _ _ => rfl) (by simp only [List.length_cons, List.length_nil]; omega) (by simp only [List.length_cons, List.length_nil]; omega) (fun a46 c46 ha46 => ?_)) | refine WA.eff 11 rfl (by kernel_rfl) rfl rfl (by decide) (Ef.appendD 4 0 tab_ok rfl rfl rfl rfl rfl rfl rfl rfl rfl rfl rfl (fun _ _ => rfl) (by simp only [List.length_cons, List.length_nil]; omega) (by simp only [List.length_cons, List.length_nil]; omega) (fun a46 c46 ha46 => ?_)) | refine WA.eff 11 rfl (by kernel_rfl) rfl rfl (by decide) (Ef.appendD 5 0 tab_ok rfl rfl rfl rfl rfl rfl rfl rfl rfl rfl rfl (fun _ _ => rfl) (by simp only [List.length_cons, List.length_nil]; omega) (by simp only [List.length_cons, List.length_nil]; omega) (fun a46 c46 ha46 => ?_)) | refine WA.eff 11 rfl (by kernel_rfl) rfl rfl (by decide) (Ef.appendR 0 tab_ok rfl rfl rfl rfl rfl rfl rfl rfl rfl rfl (by assumption) (fun _ _ => rfl) (by (try dsimp only); omega) (by omega) (fun a46 c46 ha46 => ?_)) | refine WA.eff 11 rfl (by kernel_rfl) rfl rfl (by decide) (Ef.appendR 1 tab_ok rfl rfl rfl rfl rfl rfl rfl rfl rfl rfl (by assumption) (fun _ _ => rfl) (by (try dsimp only); omega) (by omega) (fun a46 c46 ha46 => ?_)) | refine WA.eff 11 rfl (by kernel_rfl) rfl rfl (by decide) (Ef.appendR 2 tab_ok rfl rfl rfl rfl rfl rfl rfl rfl rfl rfl (by assumption) (fun _ _ => rfl) (by (try dsimp only); omega) (by omega) (fun a46 c46 ha46 => ?_)) | refine WA.eff 11 rfl (by kernel_rfl) rfl rfl (by decide) (Ef.appendR 3 tab_ok rfl rfl rfl rfl rfl rfl rfl rfl rfl rfl (by assumption) (fun _ _ => rfl) (by (try dsimp only); omega) (by omega) (fun a46 c46 ha46 => ?_)) | refine WA.eff 11 rfl (by kernel_rfl) rfl rfl (by decide) (Ef.appendR 4 tab_ok rfl rfl rfl rfl rfl rfl rfl rfl rfl rfl (by assumption) (fun _ _ => rfl) (by (try dsimp only); omega) (by omega) (fun a46 c46 ha46 => ?_)) | refine WA.eff 11 rfl (by kernel_rfl) rfl rfl (by decide) (Ef.appendR 5 tab_ok rfl rfl rfl rfl rfl rfl rfl rfl rfl rfl (by assumption) (fun _ _ => rfl) (by (try dsimp only); omega) (by omega) (fun a46 c46 ha46 => ?_))
           refine ⟨qR, qS, ?_⟩
           refine tP 12 ?_
           first | refine WA.effN 13 rfl qK rfl rfl (Ef.store 0 tab_ok rfl rfl rfl rfl rfl rfl rfl rfl ?_) | refine WA.effN 13 rfl qK rfl rfl (Ef.store 1 tab_ok rfl rfl rfl rfl rfl rfl rfl rfl ?_) | refine WA.effN 13 rfl qK rfl rfl (Ef.store 2 tab_ok rfl rfl rfl rfl rfl rfl rfl rfl ?_) | refine WA.effN 13 rfl qK rfl rfl (Ef.store 3 tab_ok rfl rfl rfl rfl rfl rfl rfl rfl ?_) | refine WA.effN 13 rfl qK rfl rfl (Ef.store 4 tab_ok rfl rfl rfl rfl rfl rfl rfl rfl ?_) | refine WA.effN 13 rfl qK rfl rfl (Ef.store 5 tab_ok rfl rfl rfl rfl rfl rfl rfl rfl ?_)
           refine ⟨qR, qS, ?_⟩
           refine WA.done qK ?_
           refine zL ?_
           refine WE.again ((qs ++ [nth qs ((qs.length : Int) - 1).toNat], a46, c46, cn + 1)) (⟨by simp, by simp only [List.length_append, List.length_cons, List.length_nil]; omega⟩) (by simp only [List.length_append, List.length_cons, List.length_nil]; omega) ⟨rfl, rfl, rfl, rfl⟩ (RLe.refl _) qS
          ·
           refine' WS.yl rfl rfl rfl qD (Yl.load1 tab_ok rfl rfl rfl (fun _ => rfl) ?r42 rfl ?h42) qS qR ?_
           case r42 => apply Rd.add; (first | exact Rd.blk 0 rfl | exact Rd.blk 1 rfl | exact Rd.blk 2 rfl | exact Rd.blk 3 rfl | exact Rd.blk 4 rfl | exact Rd.blk 5 rfl | (apply RS.rdD; assumption; ((try dsimp only) <;> omega)) | exact Rd.slD 0 rfl qX | exact Rd.slD 1 rfl qX | exact Rd.slD 2 rfl qX | exact Rd.slD 3 rfl qX | exact Rd.slD 4 rfl qX | exact Rd.slD 5 rfl qX)
           case h42 => rfl
           refine WA.br2 (i := 1) (j := 8) qK ?_ ?_
           ·
            refine' WS.yl rfl rfl rfl qD (Yl.load1 tab_ok rfl rfl rfl (fun _ => rfl) ?r43 rfl ?h43) qS qR ?_
            case r43 => apply Rd.add; (first | exact Rd.blk 0 rfl | exact Rd.blk 1 rfl | exact Rd.blk 2 rfl | exact Rd.blk 3 rfl | exact Rd.blk 4 rfl | exact Rd.blk 5 rfl | (apply RS.rdD; assumption; ((try dsimp only) <;> omega)) | exact Rd.slD 0 rfl qX | exact Rd.slD 1 rfl qX | exact Rd.slD 2 rfl qX | exact Rd.slD 3 rfl qX | exact Rd.slD 4 rfl qX | exact Rd.slD 5 rfl qX)
            case h43 => rfl
            refine WA.yl 8 rfl qK rfl rfl qD (Yl.index tab_ok rfl rfl rfl rfl rfl rfl (fun _ => rfl) qA (by intro _; first | exact fun _ _ _ _ => ha10 qO | exact qI)) qS qR ?_
            refine' WA.yl 9 rfl qK rfl rfl qD (Yl.load1 tab_ok rfl rfl rfl (fun _ => rfl) ?r44 rfl ?h44) qS qR ?_
            case r44 => (first | (apply RS.rdD; assumption; ((try dsimp only) <;> omega)) | exact Rd.slD 0 rfl qX | exact Rd.slD 1 rfl qX | exact Rd.slD 2 rfl qX | exact Rd.slD 3 rfl qX | exact Rd.slD 4 rfl qX | exact Rd.slD 5 rfl qX)
            case h44 => rfl
            refine WA.eff 10 rfl qK rfl rfl qD (Ef.buildSliceD (enc := encI) (parts := [.tmp 44]) [_] tab_ok rfl rfl rfl rfl rfl rfl rfl rfl qD qD (fun a45 => ?_))
            refine ⟨qR, qS, ?_⟩
            first | refine WA.eff 11 rfl (by kernel_rfl) rfl rfl (by decide) (Ef.appendD 1 0 tab_ok rfl rfl rfl rfl rfl rfl rfl rfl rfl rfl rfl (fun _ _ => rfl) (by simp only [List.length_cons, List.length_nil]; omega) (by simp only [List.length_cons, List.length_nil]; omega) (fun a46 c46 ha46 => ?_)) | refine WA.eff 11 rfl (by kernel_rfl) rfl rfl (by decide) (Ef.appendD 2 0 tab_ok rfl rfl rfl rfl rfl rfl rfl rfl rfl rfl rfl (fun _ _ => rfl) (by simp only [List.length_cons, List.length_nil]; omega) (by simp only [List.length_cons, List.length_nil]; omega) (fun a46 c46 ha46 => ?_)) | refine WA.eff 11 rfl (by kernel_rfl) rfl rfl (by decide) (Ef.appendD 3 0 tab_ok rfl rfl rfl rfl rfl rfl rfl rfl rfl rfl rfl (fun _ _ => rfl) (by simp only [List.length_cons, List.length_nil]; omega) (by simp only [List.length_cons, List.length_nil]; omega) (fun a46 c46 ha46 => ?_)) | refine WA.eff 11 rfl (by kernel_rfl) rfl rfl (by decide) (Ef.appendD 4 0 tab_ok rfl rfl rfl rfl rfl rfl rfl rfl rfl rfl rfl (fun _ _ => rfl) (by simp only [List.length_cons, List.length_nil]; omega) (by simp only [List.length_cons, List.length_nil]; omega) (fun a46 c46 ha46 => ?_)) | refine WA.eff 11 rfl (by kernel_rfl) rfl rfl (by decide) (Ef.appendD 5 0 tab_ok rfl rfl rfl rfl rfl rfl rfl rfl rfl rfl rfl (fun _ _ => rfl) (by simp only [List.length_cons, List.length_nil]; omega) (by simp only [List.length_cons, List.length_nil]; omega) (fun a46 c46 ha46 => ?_)) | refine WA.eff 11 rfl (by kernel_rfl) rfl rfl (by decide) (Ef.appendR 0 tab_ok rfl rfl rfl rfl rfl rfl rfl rfl rfl rfl (by assumption) (fun _ _ => rfl) (by (try dsimp only); omega) (by omega) (fun a46 c46 ha46 => ?_)) | refine WA.eff 11 rfl (by kernel_rfl) rfl rfl (by decide) (Ef.appendR 1 tab_ok rfl rfl rfl rfl rfl rfl rfl rfl rfl rfl (by assumption) (fun _ _ => rfl) (by (try dsimp only); omega) (by omega) (fun a46 c46 ha46 => ?_)) | refine WA.eff 11 rfl (by kernel_rfl) rfl rfl (by decide) (Ef.appendR 2 tab_ok rfl rfl rfl rfl rfl rfl rfl rfl rfl rfl (by assumption) (fun _ _ => rfl) (by (try dsimp only); omega) (by omega) (fun a46 c46 ha46 => ?_)) | refine WA.eff 11 rfl (by kernel_rfl) rfl rfl (by decide) (Ef.appendR 3 tab_ok rfl rfl rfl rfl rfl rfl rfl rfl rfl rfl (by assumption) (fun _ _ => rfl) (by (try dsimp only); omega) (by omega) (fun a46 c46 ha46 => ?_)) | refine WA.eff 11 rfl (by kernel_rfl) rfl rfl (by decide) (Ef.appendR 4 tab_ok rfl rfl rfl rfl rfl rfl rfl rfl rfl rfl (by assumption) (fun _ _ => rfl) (by (try dsimp only); omega) (by omega) (fun a46 c46 ha46 => ?_)) | refine WA.eff 11 rfl (by kernel_rfl) rfl rfl (by decide) (Ef.appendR 5 tab_ok rfl rfl rfl rfl rfl rfl rfl rfl rfl rfl (by assumption) (fun _ _ => rfl) (by (try dsimp only); omega) (by omega) (fun a46 c46 ha46 => ?_))
            refine ⟨qR, qS, ?_⟩
            refine tP 12 ?_
            first | refine WA.effN 13 rfl qK rfl rfl (Ef.store 0 tab_ok rfl rfl rfl rfl rfl rfl rfl rfl ?_) | refine WA.effN 13 rfl qK rfl rfl (Ef.store 1 tab_ok rfl rfl rfl rfl rfl rfl rfl rfl ?_) | refine WA.effN 13 rfl qK rfl rfl (Ef.store 2 tab_ok rfl rfl rfl rfl rfl rfl rfl rfl ?_) | refine WA.effN 13 rfl qK rfl rfl (Ef.store 3 tab_ok rfl rfl rfl rfl rfl rfl rfl rfl ?_) | refine WA.effN 13 rfl qK rfl rfl (Ef.store 4 tab_ok rfl rfl rfl rfl rfl rfl rfl rfl ?_) | refine WA.effN 13 rfl qK rfl rfl (Ef.store 5 tab_ok rfl rfl rfl rfl rfl rfl rfl rfl ?_)
            refine ⟨qR, qS, ?_⟩
            refine WA.done qK ?_
            refine zL ?_
            refine WE.again ((qs ++ [nth qs ((qs.length : Int) - 1).toNat], a46, c46, cn + 1)) (⟨by simp, by simp only [List.length_append, List.length_cons, List.length_nil]; omega⟩) (by simp only [List.length_append, List.length_cons, List.length_nil]; omega) ⟨rfl, rfl, rfl, rfl⟩ (RLe.refl _) qS
           ·
            refine WS.yl rfl rfl rfl qD (Yl.index tab_ok rfl rfl rfl rfl rfl rfl (fun _ => rfl) qA (by intro _; first | exact fun _ _ _ _ => ha10 qO | exact qI)) qS qR ?_
            refine WA.br2 (i := 1) (j := 9) qK ?_ ?_
            ·
             refine' WS.yl rfl rfl rfl qD (Yl.load1 tab_ok rfl rfl rfl (fun _ => rfl) ?r45 rfl ?h45) qS qR ?_
             case r45 => apply Rd.add; (first | exact Rd.blk 0 rfl | exact Rd.blk 1 rfl | exact Rd.blk 2 rfl | exact Rd.blk 3 rfl | exact Rd.blk 4 rfl | exact Rd.blk 5 rfl | (apply RS.rdD; assumption; ((try dsimp only) <;> omega)) | exact Rd.slD 0 rfl qX | exact Rd.slD 1 rfl qX | exact Rd.slD 2 rfl qX | exact Rd.slD 3 rfl qX | exact Rd.slD 4 rfl qX | exact Rd.slD 5 rfl qX)
             case h45 => rfl
             refine' WA.yl 9 rfl qK rfl rfl qD (Yl.load1 tab_ok rfl rfl rfl (fun _ => rfl) ?r46 rfl ?h46) qS qR ?_
             case r46 => (first | (apply RS.rdD; assumption; ((try dsimp only) <;> omega)) | exact Rd.slD 0 rfl qX | exact Rd.slD 1 rfl qX | exact Rd.slD 2 rfl qX | exact Rd.slD 3 rfl qX | exact Rd.slD 4 rfl qX | exact Rd.slD 5 rfl qX)
             case h46 => rfl
             refine WA.eff 10 rfl qK rfl rfl qD (Ef.buildSliceD (enc := encI) (parts := [.tmp 44]) [_] tab_ok rfl rfl rfl rfl rfl rfl rfl rfl qD qD (fun a45 => ?_))
             refine ⟨qR, qS, ?_⟩
             first | refine WA.eff 11 rfl (by kernel_rfl) rfl rfl (by decide) (Ef.appendD 1 0 tab_ok rfl rfl rfl rfl rfl rfl rfl rfl rfl rfl rfl (fun _ _ => rfl) (by simp only [List.length_cons, List.length_nil]; omega) (by simp only [List.length_cons, List.length_nil]; omega) (fun a46 c46 ha46 => ?_)) | refine WA.eff 11 rfl (by kernel_rfl) rfl rfl (by decide) (Ef.appendD 2 0 tab_ok rfl rfl rfl rfl rfl rfl rfl rfl rfl rfl rfl (fun _ _ => rfl) (by simp only [List.length_cons, List.length_nil]; omega) (by simp only [List.length_cons, List.length_nil]; omega) (fun a46 c46 ha46 => ?_)) | refine WA.eff 11 rfl (by kernel_rfl) rfl rfl (by decide) (Ef.appendD 3 0 tab_ok rfl rfl rfl rfl rfl rfl rfl rfl rfl rfl rfl (fun _ _ => rfl) (by simp only [List.length_cons, List.length_nil]; omega) (by simp only [List.length_cons, List.length_nil]; omega) (fun a46 c46 ha46 => ?_)) | refine WA.eff 11 rfl (by kernel_rfl) rfl rfl (by decide) (Ef.appendD 4 0 tab_ok rfl rfl rfl rfl rfl rfl rfl rfl rfl rfl rfl (fun _ _ => rfl) (by simp only [List.length_cons, List.length_nil]; omega) (by simp only [List.length_cons, List.length_nil]; omega) (fun a46 c46 ha46 => ?_)) | refine WA.eff 11 rfl (by kernel_rfl) rfl rfl (by decide) (Ef.appendD 5 0 tab_ok rfl rfl rfl rfl rfl rfl rfl rfl rfl rfl rfl (fun _ _ => rfl) (by simp only [List.length_cons, List.length_nil]; omega) (by simp only [List.length_cons, List.length_nil]; omega) (fun a46 c46 ha46 => ?_)) | refine WA.eff 11 rfl (by kernel_rfl) rfl rfl (by decide) (Ef.appendR 0 tab_ok rfl rfl rfl rfl rfl rfl rfl rfl rfl rfl (by assumption) (fun _ _ => rfl) (by (try dsimp only); omega) (by omega) (fun a46 c46 ha46 => ?_)) | refine WA.eff 11 rfl (by kernel_rfl) rfl rfl (by decide) (Ef.appendR 1 tab_ok rfl rfl rfl rfl rfl rfl rfl rfl rfl rfl (by assumption) (fun _ _ => rfl) (by (try dsimp only); omega) (by omega) (fun a46 c46 ha46 => ?_)) | refine WA.eff 11 rfl (by kernel_rfl) rfl rfl (by decide) (Ef.appendR 2 tab_ok rfl rfl rfl rfl rfl rfl rfl rfl rfl rfl (by assumption) (fun _ _ => rfl) (by (try dsimp only); omega) (by omega) (fun a46 c46 ha46 => ?_)) | refine WA.eff 11 rfl (by kernel_rfl) rfl rfl (by decide) (Ef.appendR 3 tab_ok rfl rfl rfl rfl rfl rfl rfl rfl rfl rfl (by assumption) (fun _ _ => rfl) (by (try dsimp only); omega) (by omega) (fun a46 c46 ha46 => ?_)) | refine WA.eff 11 rfl (by kernel_rfl) rfl rfl (by decide) (Ef.appendR 4 tab_ok rfl rfl rfl rfl rfl rfl rfl rfl rfl rfl (by assumption) (fun _ _ => rfl) (by (try dsimp only); omega) (by omega) (fun a46 c46 ha46 => ?_)) | refine WA.eff 11 rfl (by kernel_rfl) rfl rfl (by decide) (Ef.appendR 5 tab_ok rfl rfl rfl rfl rfl rfl rfl rfl rfl rfl (by assumption) (fun _ _ => rfl) (by (try dsimp only); omega) (by omega) (fun a46 c46 ha46 => ?_))
             refine ⟨qR, qS, ?_⟩
             refine tP 12 ?_
             first | refine WA.effN 13 rfl qK rfl rfl (Ef.store 0 tab_ok rfl rfl rfl rfl rfl rfl rfl rfl ?_) | refine WA.effN 13 rfl qK rfl rfl (Ef.store 1 tab_ok rfl rfl rfl rfl rfl rfl rfl rfl ?_) | refine WA.effN 13 rfl qK rfl rfl (Ef.store 2 tab_ok rfl rfl rfl rfl rfl rfl rfl rfl ?_) | refine WA.effN 13 rfl qK rfl rfl (Ef.store 3 tab_ok rfl rfl rfl rfl rfl rfl rfl rfl ?_) | refine WA.effN 13 rfl qK rfl rfl (Ef.store 4 tab_ok rfl rfl rfl rfl rfl rfl rfl rfl ?_) | refine WA.effN 13 rfl qK rfl rfl (Ef.store 5 tab_ok rfl rfl rfl rfl rfl rfl rfl rfl ?_)
             refine ⟨qR, qS, ?_⟩
             refine WA.done qK ?_
             refine zL ?_
             refine WE.again ((qs ++ [nth qs ((qs.length : Int) - 1).toNat], a46, c46, cn + 1)) (⟨by simp, by simp only [List.length_append, List.length_cons, List.length_nil]; omega⟩) (by simp only [List.length_append, List.length_cons, List.length_nil]; omega) ⟨rfl, rfl, rfl, rfl⟩ (RLe.refl _) qS
            ·
             refine' WS.yl rfl rfl rfl qD (Yl.load1 tab_ok rfl rfl rfl (fun _ => rfl) ?r47 rfl ?h47) qS qR ?_
             case r47 => (first | (apply RS.rdD; assumption; ((try dsimp only) <;> omega)) | exact Rd.slD 0 rfl qX | exact Rd.slD 1 rfl qX | exact Rd.slD 2 rfl qX | exact Rd.slD 3 rfl qX | exact Rd.slD 4 rfl qX | exact Rd.slD 5 rfl qX)
             case h47 => rfl
             refine WA.br2 (i := 1) (j := 10) qK ?_ ?_
             ·
              refine' WS.yl rfl rfl rfl qD (Yl.load1 tab_ok rfl rfl rfl (fun _ => rfl) ?r48 rfl ?h48) qS qR ?_
              case r48 => apply Rd.add; (first | exact Rd.blk 0 rfl | exact Rd.blk 1 rfl | exact Rd.blk 2 rfl | exact Rd.blk 3 rfl | exact Rd.blk 4 rfl | exact Rd.blk 5 rfl | (apply RS.rdD; assumption; ((try dsimp only) <;> omega)) | exact Rd.slD 0 rfl qX | exact Rd.slD 1 rfl qX | exact Rd.slD 2 rfl qX | exact Rd.slD 3 rfl qX | exact Rd.slD 4 rfl qX | exact Rd.slD 5 rfl qX)
              case h48 => rfl
              refine WA.eff 10 rfl qK rfl rfl qD (Ef.buildSliceD (enc := encI) (parts := [.tmp 44]) [_] tab_ok rfl rfl rfl rfl rfl rfl rfl rfl qD qD (fun a45 => ?_))
              refine ⟨qR, qS, ?_⟩
              first | refine WA.eff 11 rfl (by kernel_rfl) rfl rfl (by decide) (Ef.appendD 1 0 tab_ok rfl rfl rfl rfl rfl rfl rfl rfl rfl rfl rfl (fun _ _ => rfl) (by simp only [List.length_cons, List.length_nil]; omega) (by simp only [List.length_cons, List.length_nil]; omega) (fun a46 c46 ha46 => ?_)) | refine WA.eff 11 rfl (by kernel_rfl) rfl rfl (by decide) (Ef.appendD 2 0 tab_ok rfl rfl rfl rfl rfl rfl rfl rfl rfl rfl rfl (fun _ _ => rfl) (by simp only [List.length_cons, List.length_nil]; omega) (by simp only [List.length_cons, List.length_nil]; omega) (fun a46 c46 ha46 => ?_)) | refine WA.eff 11 rfl (by kernel_rfl) rfl rfl (by decide) (Ef.appendD 3 0 tab_ok rfl rfl rfl rfl rfl rfl rfl rfl rfl rfl rfl (fun _ _ => rfl) (by simp only [List.length_cons, List.length_nil]; omega) (by simp only [List.length_cons, List.length_nil]; omega) (fun a46 c46 ha46 => ?_)) | refine WA.eff 11 rfl (by kernel_rfl) rfl rfl (by decide) (Ef.appendD 4 0 tab_ok rfl rfl rfl rfl rfl rfl rfl rfl rfl rfl rfl (fun _ _ => rfl) (by simp only [List.length_cons, List.length_nil]; omega) (by simp only [List.length_cons, List.length_nil]; omega) (fun a46 c46 ha46 => ?_)) | refine WA.eff 11 rfl (by kernel_rfl) rfl rfl (by decide) (Ef.appendD 5 0 tab_ok rfl rfl rfl rfl rfl rfl rfl rfl rfl rfl rfl (fun _ _ => rfl) (by simp only [List.length_cons, List.length_nil]; omega) (by simp only [List.length_cons, List.length_nil]; omega) (fun a46 c46 ha46 => ?_)) | refine WA.eff 11 rfl (by kernel_rfl) rfl rfl (by decide) (Ef.appendR 0 tab_ok rfl rfl rfl rfl rfl rfl rfl rfl rfl rfl (by assumption) (fun _ _ => rfl) (by (try dsimp only); omega) (by omega) (fun a46 c46 ha46 => ?_)) | refine WA.eff 11 rfl (by kernel_rfl) rfl rfl (by decide) (Ef.appendR 1 tab_ok rfl rfl rfl rfl rfl rfl rfl rfl rfl rfl (by assumption) (fun _ _ => rfl) (by (try dsimp only); omega) (by omega) (fun a46 c46 ha46 => ?_)) | refine WA.eff 11 rfl (by kernel_rfl) rfl rfl (by decide) (Ef.appendR 2 tab_ok rfl rfl rfl rfl rfl rfl rfl rfl rfl rfl (by assumption) (fun _ _ => rfl) (by (try dsimp only); omega) (by omega) (fun a46 c46 ha46 => ?_)) | refine WA.eff 11 rfl (by kernel_rfl) rfl rfl (by decide) (Ef.appendR 3 tab_ok rfl rfl rfl rfl rfl rfl rfl rfl rfl rfl (by assumption) (fun _ _ => rfl) (by (try dsimp only); omega) (by omega) (fun a46 c46 ha46 => ?_)) | refine WA.eff 11 rfl (by kernel_rfl) rfl rfl (by decide) (Ef.appendR 4 tab_ok rfl rfl rfl rfl rfl rfl rfl rfl rfl rfl (by assumption) (fun _ _ => rfl) (by (try dsimp only); omega) (by omega) (fun a46 c46 ha46 => ?_)) | refine WA.eff 11 rfl (by kernel_rfl) rfl rfl (by decide) (Ef.appendR 5 tab_ok rfl rfl rfl rfl rfl rfl rfl rfl rfl rfl (by assumption) (fun _ _ => rfl) (by (try dsimp only); omega) (by omega) (fun a46 c46 ha46 => ?_))
              refine ⟨qR, qS, ?_⟩
              refine tP 12 ?_
              first | refine WA.effN 13 rfl qK rfl rfl (Ef.store 0 tab_ok rfl rfl rfl rfl rfl rfl rfl rfl ?_) | refine WA.effN 13 rfl qK rfl rfl (Ef.store 1 tab_ok rfl rfl rfl rfl rfl rfl rfl rfl ?_) | refine WA.effN 13 rfl qK rfl rfl (Ef.store 2 tab_ok rfl rfl rfl rfl rfl rfl rfl rfl ?_) | refine WA.effN 13 rfl qK rfl rfl (Ef.store 3 tab_ok rfl rfl rfl rfl rfl rfl rfl rfl ?_) | refine WA.effN 13 rfl qK rfl rfl (Ef.store 4 tab_ok rfl rfl rfl rfl rfl rfl rfl rfl ?_) | refine WA.effN 13 rfl qK rfl rfl (Ef.store 5 tab_ok rfl rfl rfl rfl rfl rfl rfl rfl ?_)
              refine ⟨qR, qS, ?_⟩
              refine WA.done qK ?_
              refine zL ?_
              refine WE.again ((qs ++ [nth qs ((qs.length : Int) - 1).toNat], a46, c46, cn + 1)) (⟨by simp, by simp only [List.length_append, List.length_cons, List.length_nil]; omega⟩) (by simp only [List.length_append, List.length_cons, List.length_nil]; omega) ⟨rfl, rfl, rfl, rfl⟩ (RLe.refl _) qS
             ·
              refine WS.eff rfl rfl rfl qD (Ef.buildSliceD (enc := encI) (parts := [.tmp 44]) [_] tab_ok rfl rfl rfl rfl rfl rfl rfl rfl qD qD (fun a45 => ?_))
              refine ⟨qR, qS, ?_⟩
              refine' WA.yl 1 rfl qK rfl rfl qD (Yl.load1 tab_ok rfl rfl rfl (fun _ => rfl) ?r49 rfl ?h49) qS qR ?_
              case r49 => apply Rd.add; (first | exact Rd.blk 0 rfl | exact Rd.blk 1 rfl | exact Rd.blk 2 rfl | exact Rd.blk 3 rfl | exact Rd.blk 4 rfl | exact Rd.blk 5 rfl | (apply RS.rdD; assumption; ((try dsimp only) <;> omega)) | exact Rd.slD 0 rfl qX | exact Rd.slD 1 rfl qX | exact Rd.slD 2 rfl qX | exact Rd.slD 3 rfl qX | exact Rd.slD 4 rfl qX | exact Rd.slD 5 rfl qX)
              case h49 => rfl
              first | refine WA.eff 11 rfl (by kernel_rfl) rfl rfl (by decide) (Ef.appendD 1 0 tab_ok rfl rfl rfl rfl rfl rfl rfl rfl rfl rfl rfl (fun _ _ => rfl) (by simp only [List.length_cons, List.length_nil]; omega) (by simp only [List.length_cons, List.length_nil]; omega) (fun a46 c46 ha46 => ?_)) | refine WA.eff 11 rfl (by kernel_rfl) rfl rfl (by decide) (Ef.appendD 2 0 tab_ok rfl rfl rfl rfl rfl rfl rfl rfl rfl rfl rfl (fun _ _ => rfl) (by simp only [List.length_cons, List.length_nil]; omega) (by simp only [List.length_cons, List.length_nil]; omega) (fun a46 c46 ha46 => ?_)) | refine WA.eff 11 rfl (by kernel_rfl) rfl rfl (by decide) (Ef.appendD 3 0 tab_ok rfl rfl rfl rfl rfl rfl rfl rfl rfl rfl rfl (fun _ _ => rfl) (by simp only [List.length_cons, List.length_nil]; omega) (by simp only [List.length_cons, List.length_nil]; omega) (fun a46 c46 ha46 => ?_)) | refine WA.eff 11 rfl (by kernel_rfl) rfl rfl (by decide) (Ef.appendD 4 0 tab_ok rfl rfl rfl rfl rfl rfl rfl rfl rfl rfl rfl (fun _ _ => rfl) (by simp only [List.length_cons, List.length_nil]; omega) (by simp only [List.length_cons, List.length_nil]; omega) (fun a46 c46 ha46 => ?_)) | refine WA.eff 11 rfl (by kernel_rfl) rfl rfl (by decide) (Ef.appendD 5 0 tab_ok rfl rfl rfl rfl rfl rfl rfl rfl rfl rfl rfl (fun _ _ => rfl) (by simp only [List.length_cons, List.length_nil]; omega) (by simp only [List.length_cons, List.length_nil]; omega) (fun a46 c46 ha46 => ?_)) | refine WA.eff 11 rfl (by kernel_rfl) rfl rfl (by decide) (Ef.appendR 0 tab_ok rfl rfl rfl rfl rfl rfl rfl rfl rfl rfl (by assumption) (fun _ _ => rfl) (by (try dsimp only); omega) (by omega) (fun a46 c46 ha46 => ?_)) | refine WA.eff 11 rfl (by kernel_rfl) rfl rfl (by decide) (Ef.appendR 1 tab_ok rfl rfl rfl rfl rfl rfl rfl rfl rfl rfl (by assumption) (fun _ _ => rfl) (by (try dsimp only); omega) (by omega) (fun a46 c46 ha46 => ?_)) | refine WA.eff 11 rfl (by kernel_rfl) rfl rfl (by decide) (Ef.appendR 2 tab_ok rfl rfl rfl rfl rfl rfl rfl rfl rfl rfl (by assumption) (fun _ _ => rfl) (by (try dsimp only); omega) (by omega) (fun a46 c46 ha46 => ?_)) | refine WA.eff 11 rfl (by kernel_rfl) rfl rfl (by decide) (Ef.appendR 3 tab_ok rfl rfl rfl rfl rfl rfl rfl rfl rfl rfl (by assumption) (fun _ _ => rfl) (by (try dsimp only); omega) (by omega) (fun a46 c46 ha46 => ?_)) | refine WA.eff 11 rfl (by kernel_rfl) rfl rfl (by decide) (Ef.appendR 4 tab_ok rfl rfl rfl rfl rfl rfl rfl rfl rfl rfl (by assumption) (fun _ _ => rfl) (by (try dsimp only); omega) (by omega) (fun a46 c46 ha46 => ?_)) | refine WA.eff 11 rfl (by kernel_rfl) rfl rfl (by decide) (Ef.appendR 5 tab_ok rfl rfl rfl rfl rfl rfl rfl rfl rfl rfl (by assumption) (fun _ _ => rfl) (by (try dsimp only); omega) (by omega) (fun a46 c46 ha46 => ?_))
              refine ⟨qR, qS, ?_⟩
              refine tP 12 ?_
              first | refine WA.effN 13 rfl qK rfl rfl (Ef.store 0 tab_ok rfl rfl rfl rfl rfl rfl rfl rfl ?_) | refine WA.effN 13 rfl qK rfl rfl (Ef.store 1 tab_ok rfl rfl rfl rfl rfl rfl rfl rfl ?_) | refine WA.effN 13 rfl qK rfl rfl (Ef.store 2 tab_ok rfl rfl rfl rfl rfl rfl rfl rfl ?_) | refine WA.effN 13 rfl qK rfl rfl (Ef.store 3 tab_ok rfl rfl rfl rfl rfl rfl rfl rfl ?_) | refine WA.effN 13 rfl qK rfl rfl (Ef.store 4 tab_ok rfl rfl rfl rfl rfl rfl rfl rfl ?_) | refine WA.effN 13 rfl qK rfl rfl (Ef.store 5 tab_ok rfl rfl rfl rfl rfl rfl rfl rfl ?_)
              refine ⟨qR, qS, ?_⟩
              refine WA.done qK ?_
              refine zL ?_
              refine WE.again ((qs ++ [nth qs ((qs.length : Int) - 1).toNat], a46, c46, cn + 1)) (⟨by simp, by simp only [List.length_append, List.length_cons, List.length_nil]; omega⟩) (by simp only [List.length_append, List.length_cons, List.length_nil]; omega) ⟨rfl, rfl, rfl, rfl⟩ (RLe.refl _) qS
        ·try dsimp only at hc6
         refine zX ?_
         refine wx (wx (zY (zL (zU ?_))))
         first | (refine W.cap 2 rfl ?_; intro hcp; rw [List.length_map] at hcp; (try rw [List.length_set] at hcp); refine W.freeze (enc := encI) 2 rfl ?_; intro R1 hR1 hfz) | (refine W.cap 1 rfl ?_; intro hcp; rw [List.length_map] at hcp; (try rw [List.length_set] at hcp); refine W.freeze (enc := encI) 1 rfl ?_; intro R1 hR1 hfz) | skip
         refine zQ (zG ?_)
         refine' WG.y rfl rfl qD (Yl.load1 tab_ok rfl rfl rfl (fun _ => rfl) ?r50 rfl ?h50) ?_
         case r50 => (first | exact Rd.blk 0 rfl | exact Rd.blk 1 rfl | exact Rd.blk 2 rfl | exact Rd.blk 3 rfl | exact Rd.blk 4 rfl | exact Rd.blk 5 rfl | (apply RS.rdD; assumption; ((try dsimp only) <;> omega)) | exact Rd.slD 0 rfl qX | exact Rd.slD 1 rfl qX | exact Rd.slD 2 rfl qX | exact Rd.slD 3 rfl qX | exact Rd.slD 4 rfl qX | exact Rd.slD 5 rfl qX)
         case h50 => rfl
         first | refine WL.efN rfl rfl (Ef.store0 0 tab_ok rfl rfl rfl rfl rfl rfl rfl rfl ?_) | refine WL.efN rfl rfl (Ef.store0 1 tab_ok rfl rfl rfl rfl rfl rfl rfl rfl ?_) | refine WL.efN rfl rfl (Ef.store0 2 tab_ok rfl rfl rfl rfl rfl rfl rfl rfl ?_) | refine WL.efN rfl rfl (Ef.store0 3 tab_ok rfl rfl rfl rfl rfl rfl rfl rfl ?_) | refine WL.efN rfl rfl (Ef.store0 4 tab_ok rfl rfl rfl rfl rfl rfl rfl rfl ?_) | refine WL.efN rfl rfl (Ef.store0 5 tab_ok rfl rfl rfl rfl rfl rfl rfl rfl ?_)
         refine zN (zU (zT ?_))
         refine WE.retFS (E' := srcE b a cp xs (cn + 1) :: F) qS tab_ok [_] rfl ⟨⟨_, _, _, rfl, rfl, rfl, qB, rfl⟩, trivial⟩ (hR1) ?_
         exact ⟨_, [], rfl, aq, cq, _, ⟨qs, c1.per, c1.inc⟩, rfl, hfz, by (try dsimp only); (try rw [List.length_set]); omega, by (try dsimp only); (try rw [List.length_set]); omega, rfl, rfl⟩
 ·
  refine W.regionH _ (ES := [.blk b3 [.slice fa c1.vals.length fc, .int .i64 c1.per, .int .i64 c1.inc]]) mixed ?_
  refine tP 1 ?_
  refine' WA.take 2 rfl qK qK qK rfl rfl qD (Yl.load1 tab_ok rfl rfl rfl (fun _ => rfl) ?r51 rfl ?h51) qS qR ?_
  case r51 => apply Rd.add; (first | exact Rd.blk 0 rfl | exact Rd.blk 1 rfl | exact Rd.blk 2 rfl | exact Rd.blk 3 rfl | exact Rd.blk 4 rfl | exact Rd.blk 5 rfl)
  case h51 => rfl
  refine tP 4 ?_
  refine' WA.take 5 rfl qK qK qK rfl rfl qD (Yl.load1 tab_ok rfl rfl rfl (fun _ => rfl) ?r52 rfl ?h52) qS qR ?_
  case r52 => apply Rd.add; (first | exact Rd.blk 0 rfl | exact Rd.blk 1 rfl | exact Rd.blk 2 rfl | exact Rd.blk 3 rfl | exact Rd.blk 4 rfl | exact Rd.blk 5 rfl)
  case h52 => rfl
  refine tP 6 ?_
  refine' WA.take 7 rfl qK qK qK rfl rfl qD (Yl.load1 tab_ok rfl rfl rfl (fun _ => rfl) ?r53 rfl ?h53) qS qR ?_
  case r53 => apply Rd.add; (first | exact Rd.blk 0 rfl | exact Rd.blk 1 rfl | exact Rd.blk 2 rfl | exact Rd.blk 3 rfl | exact Rd.blk 4 rfl | exact Rd.blk 5 rfl)
  case h53 => rfl
  refine WA.br2 (i := 0) (j := 9) qK ?_ ?_
  ·
   refine WS.eff rfl rfl rfl qD (Ef.buildSliceD (enc := encI) (parts := []) [] tab_ok rfl rfl rfl rfl rfl rfl rfl rfl qD qD (fun a7 => ?_))
   refine ⟨qR, qS, ?_⟩
   refine WA.br2 (i := 3) (j := 9) qK ?_ ?_
   ·
    first | refine WS.eff rfl rfl rfl qD (Ef.cloneL (enc := encI) 0 tab_ok rfl rfl rfl rfl rfl rfl rfl rfl rfl rfl hx (fun _ _ => rfl) (by dsimp only; omega) qO (fun a10 c10 ha10 => ?_)) | refine WS.eff rfl rfl rfl qD (Ef.cloneL (enc := encI) 1 tab_ok rfl rfl rfl rfl rfl rfl rfl rfl rfl rfl hx (fun _ _ => rfl) (by dsimp only; omega) qO (fun a10 c10 ha10 => ?_))
    refine ⟨qR, qS, ?_⟩
    -- build
    refine WA.take 8 rfl qK qK qK rfl rfl qD (Yl.build (parts := [(0, .tmp 10), (1, .tmp 12), (2, .tmp 14)]) tab_ok rfl rfl rfl rfl (fun _ => rfl) rfl rfl) qS qR ?_
    refine WA.eff 9 rfl qK rfl rfl qD (Ef.alloc tab_ok rfl rfl (fun b5 => ?_))
    refine ⟨qR, qS, ?_⟩
    first | refine WA.effN 10 rfl qK rfl rfl (Ef.store0 0 tab_ok rfl rfl rfl rfl rfl rfl rfl rfl ?_) | refine WA.effN 10 rfl qK rfl rfl (Ef.store0 1 tab_ok rfl rfl rfl rfl rfl rfl rfl rfl ?_) | refine WA.effN 10 rfl qK rfl rfl (Ef.store0 2 tab_ok rfl rfl rfl rfl rfl rfl rfl rfl ?_) | refine WA.effN 10 rfl qK rfl rfl (Ef.store0 3 tab_ok rfl rfl rfl rfl rfl rfl rfl rfl ?_) | refine WA.effN 10 rfl qK rfl rfl (Ef.store0 4 tab_ok rfl rfl rfl rfl rfl rfl rfl rfl ?_) | refine WA.effN 10 rfl qK rfl rfl (Ef.store0 5 tab_ok rfl rfl rfl rfl rfl rfl rfl rfl ?_)
    refine ⟨qR, qS, ?_⟩
    refine WA.done qK ?_
    refine WE.cutP (b5, a10, c10) trivial ⟨rfl, rfl, rfl, rfl⟩ (RLe.refl _) (by dsimp only; first | exact List.Perm.refl _ | exact List.Perm.swap _ _ _)
   ·
    refine WS.eff rfl rfl rfl qD (Ef.alloc tab_ok rfl rfl (fun b5 => ?_))
    refine ⟨qR, qS, ?_⟩
    first | refine WA.eff 3 rfl qK rfl rfl qD (Ef.cloneL (enc := encI) 0 tab_ok rfl rfl rfl rfl rfl rfl rfl rfl rfl rfl hx (fun _ _ => rfl) (by dsimp only; omega) qO (fun a10 c10 ha10 => ?_)) | refine WA.eff 3 rfl qK rfl rfl qD (Ef.cloneL (enc := encI) 1 tab_ok rfl rfl rfl rfl rfl rfl rfl rfl rfl rfl hx (fun _ _ => rfl) (by dsimp only; omega) qO (fun a10 c10 ha10 => ?_))
    refine ⟨qR, qS, ?_⟩
    -- build
    refine WA.take 8 rfl qK qK qK rfl rfl qD (Yl.build (parts := [(0, .tmp 10), (1, .tmp 12), (2, .tmp 14)]) tab_ok rfl rfl rfl rfl (fun _ => rfl) rfl rfl) qS qR ?_
    first | refine WA.effN 10 rfl qK rfl rfl (Ef.store0 0 tab_ok rfl rfl rfl rfl rfl rfl rfl rfl ?_) | refine WA.effN 10 rfl qK rfl rfl (Ef.store0 1 tab_ok rfl rfl rfl rfl rfl rfl rfl rfl ?_) | refine WA.effN 10 rfl qK rfl rfl (Ef.store0 2 tab_ok rfl rfl rfl rfl rfl rfl rfl rfl ?_) | refine WA.effN 10 rfl qK rfl rfl (Ef.store0 3 tab_ok rfl rfl rfl rfl rfl rfl rfl rfl ?_) | refine WA.effN 10 rfl qK rfl rfl (Ef.store0 4 tab_ok rfl rfl rfl rfl rfl rfl rfl rfl ?_) | refine WA.effN 10 rfl qK rfl rfl (Ef.store0 5 tab_ok rfl rfl rfl rfl rfl rfl rfl rfl ?_)
    refine ⟨qR, qS, ?_⟩
    refine WA.done qK ?_
    refine WE.cutP (b5, a10, c10) trivial ⟨rfl, rfl, rfl, rfl⟩ (RLe.refl _) (by dsimp only; first | exact List.Perm.refl _ | exact List.Perm.swap _ _ _)
  ·
   refine WS.eff rfl rfl rfl qD (Ef.alloc tab_ok rfl rfl (fun b5 => ?_))
   refine ⟨qR, qS, ?_⟩
   refine WA.eff 0 rfl qK rfl rfl qD (Ef.buildSliceD (enc := encI) (parts := []) [] tab_ok rfl rfl rfl rfl rfl rfl rfl rfl qD qD (fun a7 => ?_))
   refine ⟨qR, qS, ?_⟩
   first | refine WA.eff 3 rfl qK rfl rfl qD (Ef.cloneL (enc := encI) 0 tab_ok rfl rfl rfl rfl rfl rfl rfl rfl rfl rfl hx (fun _ _ => rfl) (by dsimp only; omega) qO (fun a10 c10 ha10 => ?_)) | refine WA.eff 3 rfl qK rfl rfl qD (Ef.cloneL (enc := encI) 1 tab_ok rfl rfl rfl rfl rfl rfl rfl rfl rfl rfl hx (fun _ _ => rfl) (by dsimp only; omega) qO (fun a10 c10 ha10 => ?_))
   refine ⟨qR, qS, ?_⟩
   -- build
   refine WA.take 8 rfl qK qK qK rfl rfl qD (Yl.build (parts := [(0, .tmp 10), (1, .tmp 12), (2, .tmp 14)]) tab_ok rfl rfl rfl rfl (fun _ => rfl) rfl rfl) qS qR ?_
   first | refine WA.effN 10 rfl qK rfl rfl (Ef.store0 0 tab_ok rfl rfl rfl rfl rfl rfl rfl rfl ?_) | refine WA.effN 10 rfl qK rfl rfl (Ef.store0 1 tab_ok rfl rfl rfl rfl rfl rfl rfl rfl ?_) | refine WA.effN 10 rfl qK rfl rfl (Ef.store0 2 tab_ok rfl rfl rfl rfl rfl rfl rfl rfl ?_) | refine WA.effN 10 rfl qK rfl rfl (Ef.store0 3 tab_ok rfl rfl rfl rfl rfl rfl rfl rfl ?_) | refine WA.effN 10 rfl qK rfl rfl (Ef.store0 4 tab_ok rfl rfl rfl rfl rfl rfl rfl rfl ?_) | refine WA.effN 10 rfl qK rfl rfl (Ef.store0 5 tab_ok rfl rfl rfl rfl rfl rfl rfl rfl ?_)
   refine ⟨qR, qS, ?_⟩
   refine WA.done qK ?_
   refine WE.cutP (b5, a10, c10) trivial ⟨rfl, rfl, rfl, rfl⟩ (RLe.refl _) (by dsimp only; first | exact List.Perm.refl _ | exact List.Perm.swap _ _ _)

end Go.Proofs.YtejpkjapmhpmpaaDoor

/- Functions that may panic with a value: their contracts, and the rules that take and pass a panic. No condition. -/
namespace Go.Proofs.YtejpkjapmhpmpaaDoor.K
open Go Go.RowKit
section
variable {P : Program} {T : Tab} {n : Nat} {env : Env} {w0 : World} {R : Ro} {E : List Ent} {Q : Exit → Act → World → Prop} {K : Act → World → Prop} {ch : List PanicEntry}
theorem WE.then_panic (h : WE Q (.panic ch) n env w0 R E) : WE (Exit.then K Q) (.panic ch) n env w0 R E := h
theorem WE.blk_panic {id : Nat} (h : WE Q (.panic ch) n env w0 R E) : WE (Exit.inBlock id Q) (.panic ch) n env w0 R E := h
/-- a function's contract: it returns, or it panics with a value -/
def FnXR (w0 : World) (R0 : Ro) (Post PX : Value → Ro → List Ent → Prop) : Ending → World → Prop :=
  fun e w' => (∃ v R' E', e = .returned v ∧ RLe R0 R' ∧ Mem w0 w' R' E' ∧ Post v R' E') ∨ (∃ v R' E', e = .panicked [{ v := v, recovered := false }] ∧ RLe R0 R' ∧ Mem w0 w' R' E' ∧ PX v R' E')
def FnX (P : Program) (f : FuncId) (args : List Value) (w0 : World) (R : Ro) (E : List Ent) (Post PX : Value → Ro → List Ent → Prop) : Prop :=
  ∀ w, Mem w0 w R E → Calls P f args.toArray w (FnXR w0 R Post PX)
def FnXAt (P : Program) (f : FuncId) (vs : List Value) (w0 : World) (R : Ro) (e : Ent) (Post : Value → Ro → Ent → List Ent → Prop) (PX : Value → Ro → Ent → Prop) : Prop :=
  ∀ F, FnX P f vs w0 R (e :: F) (fun v R' E' => ∃ e' N, E' = N ++ e' :: F ∧ Post v R' e' N) (fun v R' E' => ∃ e', E' = e' :: F ∧ PX v R' e')
theorem FnX.enter {f : FuncId} {fn : Func} {c : Code} {args : List Value} {Post PX : Value → Ro → List Ent → Prop} {n : Nat}
  (hf : P.funcs[f]? = some fn) (hb : fn.body = some c) (hn : fn.ntmps = n) (ha : args.length ≤ n) (hs : Nat.ble n 99999 = true)
  (h : W P c (bodyPost P fn (FnXR w0 R Post PX)) n (argEnv 0 args) w0 R E) : FnX P f args w0 R E Post PX := by
 intro w hm
 have hs := Nat.le_of_ble_eq_true hs
 refine calls_of_wp hf hb (h _ w ⟨?_, hs, (argEnv_mark 0 args (by omega)).symm, fun t p v ht => ?_⟩ hm)
 ·simp [hn]; omega
 ·obtain ⟨hp, _, hv⟩ := argEnv_look 0 args t p v ht
  simp only [Nat.sub_zero] at hv
  subst hp
  have hlt : t < args.length := (List.getElem?_eq_some_iff.1 hv).1
  rw [Array.getElem?_append_left (by simpa using hlt)]
  simpa using hv
theorem WE.retX (hT : TabOk P T) {fn : Func} {Post PX : Value → Ro → List Ent → Prop} {R0 : Ro} {rs : List ResultVar} (vs : List Value) (hr : fn.results = rs.toArray) (h : ResAll T env R E rs vs) (hR : RLe R0 R) (hp : Post (resVal vs) R E) (hds : markOf env = none := by rfl) :
  WE (bodyPost P fn (FnXR w0 R0 Post PX)) .ret n env w0 R E := fun _ _ hk hm => ⟨by rw [hk.defers]; unfold dsOf; rw [hds], resVal vs, results_ok hT hr hk hm h, .inl ⟨resVal vs, R, E, rfl, hR, hm, hp⟩⟩
theorem WE.endX (hT : TabOk P T) {fn : Func} {Post PX : Value → Ro → List Ent → Prop} {R0 : Ro} {rs : List ResultVar} (vs : List Value) (hr : fn.results = rs.toArray) (h : ResAll T env R E rs vs) (hR : RLe R0 R) (hp : Post (resVal vs) R E) (hds : markOf env = none := by rfl) :
  WE (bodyPost P fn (FnXR w0 R0 Post PX)) .normal n env w0 R E := fun _ _ hk hm => ⟨by rw [hk.defers]; unfold dsOf; rw [hds], resVal vs, results_ok hT hr hk hm h, .inl ⟨resVal vs, R, E, rfl, hR, hm, hp⟩⟩
theorem WE.panicX {fn : Func} {Post PX : Value → Ro → List Ent → Prop} {R0 : Ro} {v : Value} (hR : RLe R0 R) (hp : PX v R E) (hds : markOf env = none := by rfl) :
  WE (bodyPost P fn (FnXR w0 R0 Post PX)) (.panic [{ v := v, recovered := false }]) n env w0 R E := fun _ _ hk hm => ⟨by rw [hk.defers]; unfold dsOf; rw [hds], .inr ⟨v, R, E, rfl, hR, hm, hp⟩⟩
variable {o : Oper} {ops rest : List Oper}
/-- the text's own panic -/
theorem WL.panic {x : Operand} {t : TypeId} {u : Value} (hg : o.guard = none) (ho : o.op = .panic x) (hx : ev env x = some (true, .iface t u))
  (h : WE Q (.panic [{ v := .iface t u, recovered := false }]) n env w0 R E) : WG false P ops Q (o :: rest) n env w0 R E := by
 intro a w hk hm
 refine wpList_plain hg fun K hK => ?_
 have e : (execOp a.eval o).run P w = .halt (.panic (.iface t u)) w := by
  unfold execOp
  rw [ho]
  simp only [hk.ev hx rfl, Sem.run_bind, run_panic_iface]
  rfl
 unfold Oper.wp
 rw [e]
 exact h a w hk hm
/-- a call of a function that may panic -/
theorem WL.callX {d : Nat} {f : FuncId} {vs : List Value} {Post PX : Value → Ro → List Ent → Prop} (hf : Enters P f) (hg : o.guard = none) (hd : o.dst = some d) (hdn : d < n)
  (hc : CallOp env o.op true f vs) (hv : FnX P f vs w0 R E Post PX)
  (hx : ∀ v R' E', RLe R R' → PX v R' E' → WE Q (.panic [{ v := v, recovered := false }]) n env w0 R' E')
  (h : ∀ v R' E', RLe R R' → Post v R' E' → WG false P ops Q rest n ((d, true, v) :: env) w0 R' E') : WG false P ops Q (o :: rest) n env w0 R E := by
 intro a w hk hm
 refine wpList_plain hg fun K hK => ?_
 unfold Oper.wp
 rw [run_call hk hc rfl hf]
 refine (hv w hm).mono ?_
 rintro e w' (⟨v, R', E', rfl, hR, hm', hp⟩ | ⟨v, R', E', rfl, hR, hm', hp⟩)
 ·simp only [hd]
  exact hK _ _ (h v R' E' hR hp _ _ (hk.putT hdn v) hm')
 ·exact hx v R' E' hR hp _ _ hk hm'
/-- a call that turns the resource number i, or panics -/
theorem WL.callXAt {d : Nat} {f : FuncId} {vs : List Value} {e : Ent} {Post : Value → Ro → Ent → List Ent → Prop} {PX : Value → Ro → Ent → Prop} (i : Nat) (hf : Enters P f) (hg : o.guard = none) (hd : o.dst = some d) (hdn : d < n)
  (hc : CallOp env o.op true f vs) (hE : E[i]? = some e)
  (hv : FnX P f vs w0 R (e :: E.eraseIdx i) (fun v R' E' => ∃ e' N, E' = N ++ e' :: E.eraseIdx i ∧ Post v R' e' N) (fun v R' E' => ∃ e', E' = e' :: E.eraseIdx i ∧ PX v R' e'))
  (hx : ∀ v R' e', RLe R R' → PX v R' e' → WE Q (.panic [{ v := v, recovered := false }]) n env w0 R' (E.set i e'))
  (h : ∀ v R' e' N, RLe R R' → Post v R' e' N → WG false P ops Q rest n ((d, true, v) :: env) w0 R' (N ++ E.set i e')) : WG false P ops Q (o :: rest) n env w0 R E := by
 intro a w hk hm
 refine wpList_plain hg fun K hK => ?_
 unfold Oper.wp
 rw [run_call hk hc rfl hf]
 refine (hv w (hm.perm (perm_get hE))).mono ?_
 rintro e0 w' (⟨v, R', E', rfl, hR, hm', e', N, rfl, hp⟩ | ⟨v, R', E', rfl, hR, hm', e', rfl, hp⟩)
 ·simp only [hd]
  exact hK _ _ (h v R' e' N hR hp _ _ (hk.putT hdn v) (hm'.perm ((perm_set e' hE).append_left N)))
 ·exact hx v R' e' hR hp _ _ hk (hm'.perm (perm_set e' hE))
end
end Go.Proofs.YtejpkjapmhpmpaaDoor.K

/- The reader of words. No condition. -/
set_option maxRecDepth 4000
set_option linter.unusedSimpArgs false
set_option linter.unusedVariables false
namespace Go.Proofs.YtejpkjapmhpmpaaDoor
open Go Go.RowKit Go.Proofs.YtejpkjapmhpmpaaDoor.K Go.Proofs.YtejpkjapmhpmpaaDoor.M

def encT (l : List UInt8) : List Value := [.string (str l)]
def rdE (b : Nat) (a : Option Addr) (cp : Nat) (ws : List (List UInt8)) (k at' size : Nat) : Ent := .blk b [.slice a ws.length cp, .int .i64 (k : Int), .int .i64 (at' : Int), .int .i64 (size : Int)]
def failV (at' : Nat) (e : Int) : Value := .iface 67 (.agg #[.int .i64 (at' : Int), .int .i64 e])

theorem Peek_C {R : Ro} {b : Nat} {a : Option Addr} {cp : Nat} {ws : List (List UInt8)} {k at' size : Nat} (w0 : World) (hws : RS R 1 encT a ws) (hsz : size ≤ 1000000) : FnAt Tryd.prog 50 [.pointer (some ⟨b, 0, none⟩)] w0 R (rdE b a cp ws k at' size) (RdPost (.tuple #[.string (str (if k < ws.length then nth ws k else [])), .bool (decide (k < ws.length))]) R (rdE b a cp ws k at' size)) := by
 intro F
 have hwl := hws.len
 refine fE 24 Tryd.func50 ?_
 refine zQ (zG (zR 2 rfl (zN (zU (zQ (zQ ?_))))))
 refine W.regionQ _ mixed qK ?_
 refine zR 3 rfl ?_
 refine' WG.y rfl rfl qD (Yl.load1 tab_ok rfl rfl rfl (fun _ => rfl) ?r1 rfl ?h1) ?_
 case r1 => apply Rd.add; (first | exact Rd.blk 0 rfl | exact Rd.blk 1 rfl | (apply RS.rdD; assumption; ((try dsimp only) <;> omega)) | exact Rd.slD 0 rfl qX | exact Rd.slD 1 rfl qX)
 case h1 => rfl
 refine zR 3 rfl ?_
 refine' WG.y rfl rfl qD (Yl.load1 tab_ok rfl rfl rfl (fun _ => rfl) ?r2 rfl ?h2) ?_
 case r2 => apply Rd.add; (first | exact Rd.blk 0 rfl | exact Rd.blk 1 rfl | (apply RS.rdD; assumption; ((try dsimp only) <;> omega)) | exact Rd.slD 0 rfl qX | exact Rd.slD 1 rfl qX)
 case h2 => rfl
 refine zR 2 rfl (zN (zU ?_))
 refine W.condD rfl (fun hc0 => ?_) (fun hc0 => ?_)
 ·try dsimp only at hc0
  have hk : ¬ k < ws.length := by omega
  refine zQ (zG (zR 2 rfl (zN (zU (zT (wt ?_))))))
  refine WE.retF tab_ok [_, _] rfl ⟨rfl, rfl, trivial⟩ (RLe.refl _) ?_
  exact ⟨_, [], rfl, by rw [if_neg hk, decide_eq_false hk]; rfl, rfl, rfl, rfl⟩
 ·try dsimp only at hc0
  have hk : k < ws.length := by omega
  refine zK (zU (zQ ?_))
  refine W.regionQ _ mixed qK ?_
  refine zR 3 rfl ?_
  refine' WG.y rfl rfl qD (Yl.load1 tab_ok rfl rfl rfl (fun _ => rfl) ?r3 rfl ?h3) ?_
  case r3 => apply Rd.add; (first | exact Rd.blk 0 rfl | exact Rd.blk 1 rfl | (apply RS.rdD; assumption; ((try dsimp only) <;> omega)) | exact Rd.slD 0 rfl qX | exact Rd.slD 1 rfl qX)
  case h3 => rfl
  refine zR 3 rfl ?_
  refine' WG.y rfl rfl qD (Yl.load1 tab_ok rfl rfl rfl (fun _ => rfl) ?r4 rfl ?h4) ?_
  case r4 => apply Rd.add; (first | exact Rd.blk 0 rfl | exact Rd.blk 1 rfl | (apply RS.rdD; assumption; ((try dsimp only) <;> omega)) | exact Rd.slD 0 rfl qX | exact Rd.slD 1 rfl qX)
  case h4 => rfl
  refine WG.y rfl rfl qD (Yl.indexN tab_ok rfl rfl rfl rfl rfl rfl (fun _ => rfl) qN qH) ?_
  refine' WG.y rfl rfl qD (Yl.load1 tab_ok rfl rfl rfl (fun _ => rfl) ?r5 rfl ?h5) ?_
  case r5 => (first | (apply RS.rdD; assumption; ((try dsimp only) <;> omega)) | exact Rd.slD 0 rfl qX | exact Rd.slD 1 rfl qX)
  case h5 => rfl
  refine zR 2 rfl (zN (zU (zT ?_)))
  refine WE.retF tab_ok [_, _] rfl ⟨rfl, rfl, trivial⟩ (RLe.refl _) ?_
  exact ⟨_, [], rfl, by rw [if_pos hk, decide_eq_true hk]; rfl, rfl, rfl, rfl⟩

theorem Skip_C {R : Ro} {b : Nat} {a : Option Addr} {cp : Nat} {ws : List (List UInt8)} {k at' size : Nat} (w0 : World) (hws : RS R 1 encT a ws) (hsz : size ≤ 1000000) (hk : k < ws.length) (hat : at' + (nth ws k).length ≤ 2000000) : FnAt Tryd.prog 47 [.pointer (some ⟨b, 0, none⟩)] w0 R (rdE b a cp ws k at' size) (RdPost (.tuple #[]) R (rdE b a cp ws (k + 1) (at' + (nth ws k).length + 1) size)) := by
 intro F
 have hwl := hws.len
 have hss := str_size (nth ws k)
 refine fE 28 Tryd.func47 ?_
 refine zQ ?_
 refine W.regionH _ (ES := []) mixed ?_
 refine tP 0 ?_
 refine tP 1 ?_
 refine tP 2 ?_
 refine tP 4 ?_
 refine tP 5 ?_
 refine tP 6 ?_
 refine tP 8 ?_
 refine tP 9 ?_
 refine tP 10 ?_
 refine WA.br3 (i := 3) (j := 7) (k := 11) qK ?_ ?_ ?_
 ·
  refine' WS.yl rfl rfl rfl qD (Yl.load1 tab_ok rfl rfl rfl (fun _ => rfl) ?r1 rfl ?h1) qS qR ?_
  case r1 => apply Rd.add; (first | exact Rd.blk 0 rfl | exact Rd.blk 1 rfl | (apply RS.rdD; assumption; ((try dsimp only) <;> omega)) | exact Rd.slD 0 rfl qX | exact Rd.slD 1 rfl qX)
  case h1 => rfl
  refine WA.br2 (i := 7) (j := 11) qK ?_ ?_
  ·
   refine' WS.yl rfl rfl rfl qD (Yl.load1 tab_ok rfl rfl rfl (fun _ => rfl) ?r2 rfl ?h2) qS qR ?_
   case r2 => apply Rd.add; (first | exact Rd.blk 0 rfl | exact Rd.blk 1 rfl | (apply RS.rdD; assumption; ((try dsimp only) <;> omega)) | exact Rd.slD 0 rfl qX | exact Rd.slD 1 rfl qX)
   case h2 => rfl
   refine' WA.yl 11 rfl qK rfl rfl qD (Yl.load1 tab_ok rfl rfl rfl (fun _ => rfl) ?r3 rfl ?h3) qS qR ?_
   case r3 => apply Rd.add; (first | exact Rd.blk 0 rfl | exact Rd.blk 1 rfl | (apply RS.rdD; assumption; ((try dsimp only) <;> omega)) | exact Rd.slD 0 rfl qX | exact Rd.slD 1 rfl qX)
   case h3 => rfl
   refine WA.take 12 rfl qK qK qK rfl rfl qD (Yl.indexN tab_ok rfl rfl rfl rfl rfl rfl (fun _ => rfl) qN qH) qS qR ?_
   refine' WA.take 13 rfl qK qK qK rfl rfl qD (Yl.load1 tab_ok rfl rfl rfl (fun _ => rfl) ?r4 rfl ?h4) qS qR ?_
   case r4 => (first | (apply RS.rdD; assumption; ((try dsimp only) <;> omega)) | exact Rd.slD 0 rfl qX | exact Rd.slD 1 rfl qX)
   case h4 => rfl
   refine tP 14 ?_
   refine tA 15 ?_
   refine tA 16 ?_
   refine tP 17 ?_
   refine tP 18 ?_
   first | refine WA.effN 19 rfl qK rfl rfl (Ef.store 0 tab_ok rfl rfl rfl rfl rfl rfl rfl rfl ?_) | refine WA.effN 19 rfl qK rfl rfl (Ef.store 1 tab_ok rfl rfl rfl rfl rfl rfl rfl rfl ?_)
   refine ⟨qR, qS, ?_⟩
   refine WA.done qK ?_
   refine zU (zG (zR 3 rfl ?_))
   refine' WG.y rfl rfl qD (Yl.load1 tab_ok rfl rfl rfl (fun _ => rfl) ?r5 rfl ?h5) ?_
   case r5 => apply Rd.add; (first | exact Rd.blk 0 rfl | exact Rd.blk 1 rfl | (apply RS.rdD; assumption; ((try dsimp only) <;> omega)) | exact Rd.slD 0 rfl qX | exact Rd.slD 1 rfl qX)
   case h5 => rfl
   refine yA ?_
   refine zR 2 rfl ?_
   first | refine WL.efN rfl rfl (Ef.store 0 tab_ok rfl rfl rfl rfl rfl rfl rfl rfl ?_) | refine WL.efN rfl rfl (Ef.store 1 tab_ok rfl rfl rfl rfl rfl rfl rfl rfl ?_)
   refine zN ?_
   refine WE.endF tab_ok [] rfl trivial (RLe.refl _) ?_
   exact ⟨rdE b a cp ws (k + 1) (at' + (nth ws k).length + 1) size, [], by unfold rdE; rw [show ((at' + (nth ws k).length + 1 : Nat) : Int) = (at' : Int) + (((str (nth ws k)).size : Int) + 1) by rw [str_size]; omega]; rfl, rfl, rfl, rfl, rfl⟩
  ·
   refine' WS.yl rfl rfl rfl qD (Yl.load1 tab_ok rfl rfl rfl (fun _ => rfl) ?r6 rfl ?h6) qS qR ?_
   case r6 => apply Rd.add; (first | exact Rd.blk 0 rfl | exact Rd.blk 1 rfl | (apply RS.rdD; assumption; ((try dsimp only) <;> omega)) | exact Rd.slD 0 rfl qX | exact Rd.slD 1 rfl qX)
   case h6 => rfl
   refine' WA.yl 7 rfl qK rfl rfl qD (Yl.load1 tab_ok rfl rfl rfl (fun _ => rfl) ?r7 rfl ?h7) qS qR ?_
   case r7 => apply Rd.add; (first | exact Rd.blk 0 rfl | exact Rd.blk 1 rfl | (apply RS.rdD; assumption; ((try dsimp only) <;> omega)) | exact Rd.slD 0 rfl qX | exact Rd.slD 1 rfl qX)
   case h7 => rfl
   refine WA.take 12 rfl qK qK qK rfl rfl qD (Yl.indexN tab_ok rfl rfl rfl rfl rfl rfl (fun _ => rfl) qN qH) qS qR ?_
   refine' WA.take 13 rfl qK qK qK rfl rfl qD (Yl.load1 tab_ok rfl rfl rfl (fun _ => rfl) ?r8 rfl ?h8) qS qR ?_
   case r8 => (first | (apply RS.rdD; assumption; ((try dsimp only) <;> omega)) | exact Rd.slD 0 rfl qX | exact Rd.slD 1 rfl qX)
   case h8 => rfl
   refine tP 14 ?_
   refine tA 15 ?_
   refine tA 16 ?_
   refine tP 17 ?_
   refine tP 18 ?_
   first | refine WA.effN 19 rfl qK rfl rfl (Ef.store 0 tab_ok rfl rfl rfl rfl rfl rfl rfl rfl ?_) | refine WA.effN 19 rfl qK rfl rfl (Ef.store 1 tab_ok rfl rfl rfl rfl rfl rfl rfl rfl ?_)
   refine ⟨qR, qS, ?_⟩
   refine WA.done qK ?_
   refine zU (zG (zR 3 rfl ?_))
   refine' WG.y rfl rfl qD (Yl.load1 tab_ok rfl rfl rfl (fun _ => rfl) ?r9 rfl ?h9) ?_
   case r9 => apply Rd.add; (first | exact Rd.blk 0 rfl | exact Rd.blk 1 rfl | (apply RS.rdD; assumption; ((try dsimp only) <;> omega)) | exact Rd.slD 0 rfl qX | exact Rd.slD 1 rfl qX)
   case h9 => rfl
   refine yA ?_
   refine zR 2 rfl ?_
   first | refine WL.efN rfl rfl (Ef.store 0 tab_ok rfl rfl rfl rfl rfl rfl rfl rfl ?_) | refine WL.efN rfl rfl (Ef.store 1 tab_ok rfl rfl rfl rfl rfl rfl rfl rfl ?_)
   refine zN ?_
   refine WE.endF tab_ok [] rfl trivial (RLe.refl _) ?_
   exact ⟨rdE b a cp ws (k + 1) (at' + (nth ws k).length + 1) size, [], by unfold rdE; rw [show ((at' + (nth ws k).length + 1 : Nat) : Int) = (at' : Int) + (((str (nth ws k)).size : Int) + 1) by rw [str_size]; omega]; rfl, rfl, rfl, rfl, rfl⟩
 ·
  refine' WS.yl rfl rfl rfl qD (Yl.load1 tab_ok rfl rfl rfl (fun _ => rfl) ?r10 rfl ?h10) qS qR ?_
  case r10 => apply Rd.add; (first | exact Rd.blk 0 rfl | exact Rd.blk 1 rfl | (apply RS.rdD; assumption; ((try dsimp only) <;> omega)) | exact Rd.slD 0 rfl qX | exact Rd.slD 1 rfl qX)
  case h10 => rfl
  refine WA.br2 (i := 3) (j := 11) qK ?_ ?_
  ·
   refine' WS.yl rfl rfl rfl qD (Yl.load1 tab_ok rfl rfl rfl (fun _ => rfl) ?r11 rfl ?h11) qS qR ?_
   case r11 => apply Rd.add; (first | exact Rd.blk 0 rfl | exact Rd.blk 1 rfl | (apply RS.rdD; assumption; ((try dsimp only) <;> omega)) | exact Rd.slD 0 rfl qX | exact Rd.slD 1 rfl qX)
   case h11 => rfl
   refine' WA.yl 11 rfl qK rfl rfl qD (Yl.load1 tab_ok rfl rfl rfl (fun _ => rfl) ?r12 rfl ?h12) qS qR ?_
   case r12 => apply Rd.add; (first | exact Rd.blk 0 rfl | exact Rd.blk 1 rfl | (apply RS.rdD; assumption; ((try dsimp only) <;> omega)) | exact Rd.slD 0 rfl qX | exact Rd.slD 1 rfl qX)
   case h12 => rfl
   refine WA.take 12 rfl qK qK qK rfl rfl qD (Yl.indexN tab_ok rfl rfl rfl rfl rfl rfl (fun _ => rfl) qN qH) qS qR ?_
   refine' WA.take 13 rfl qK qK qK rfl rfl qD (Yl.load1 tab_ok rfl rfl rfl (fun _ => rfl) ?r13 rfl ?h13) qS qR ?_
   case r13 => (first | (apply RS.rdD; assumption; ((try dsimp only) <;> omega)) | exact Rd.slD 0 rfl qX | exact Rd.slD 1 rfl qX)
   case h13 => rfl
   refine tP 14 ?_
   refine tA 15 ?_
   refine tA 16 ?_
   refine tP 17 ?_
   refine tP 18 ?_
   first | refine WA.effN 19 rfl qK rfl rfl (Ef.store 0 tab_ok rfl rfl rfl rfl rfl rfl rfl rfl ?_) | refine WA.effN 19 rfl qK rfl rfl (Ef.store 1 tab_ok rfl rfl rfl rfl rfl rfl rfl rfl ?_)
   refine ⟨qR, qS, ?_⟩
   refine WA.done qK ?_
   refine zU (zG (zR 3 rfl ?_))
   refine' WG.y rfl rfl qD (Yl.load1 tab_ok rfl rfl rfl (fun _ => rfl) ?r14 rfl ?h14) ?_
   case r14 => apply Rd.add; (first | exact Rd.blk 0 rfl | exact Rd.blk 1 rfl | (apply RS.rdD; assumption; ((try dsimp only) <;> omega)) | exact Rd.slD 0 rfl qX | exact Rd.slD 1 rfl qX)
   case h14 => rfl
   refine yA ?_
   refine zR 2 rfl ?_
   first | refine WL.efN rfl rfl (Ef.store 0 tab_ok rfl rfl rfl rfl rfl rfl rfl rfl ?_) | refine WL.efN rfl rfl (Ef.store 1 tab_ok rfl rfl rfl rfl rfl rfl rfl rfl ?_)
   refine zN ?_
   refine WE.endF tab_ok [] rfl trivial (RLe.refl _) ?_
   exact ⟨rdE b a cp ws (k + 1) (at' + (nth ws k).length + 1) size, [], by unfold rdE; rw [show ((at' + (nth ws k).length + 1 : Nat) : Int) = (at' : Int) + (((str (nth ws k)).size : Int) + 1) by rw [str_size]; omega]; rfl, rfl, rfl, rfl, rfl⟩
  ·
   refine' WS.yl rfl rfl rfl qD (Yl.load1 tab_ok rfl rfl rfl (fun _ => rfl) ?r15 rfl ?h15) qS qR ?_
   case r15 => apply Rd.add; (first | exact Rd.blk 0 rfl | exact Rd.blk 1 rfl | (apply RS.rdD; assumption; ((try dsimp only) <;> omega)) | exact Rd.slD 0 rfl qX | exact Rd.slD 1 rfl qX)
   case h15 => rfl
   refine WA.take 12 rfl qK qK qK rfl rfl qD (Yl.indexN tab_ok rfl rfl rfl rfl rfl rfl (fun _ => rfl) qN qH) qS qR ?_
   refine' WA.take 13 rfl qK qK qK rfl rfl qD (Yl.load1 tab_ok rfl rfl rfl (fun _ => rfl) ?r16 rfl ?h16) qS qR ?_
   case r16 => (first | (apply RS.rdD; assumption; ((try dsimp only) <;> omega)) | exact Rd.slD 0 rfl qX | exact Rd.slD 1 rfl qX)
   case h16 => rfl
   refine tP 14 ?_
   refine tA 15 ?_
   refine' WA.yl 3 rfl qK rfl rfl qD (Yl.load1 tab_ok rfl rfl rfl (fun _ => rfl) ?r17 rfl ?h17) qS qR ?_
   case r17 => apply Rd.add; (first | exact Rd.blk 0 rfl | exact Rd.blk 1 rfl | (apply RS.rdD; assumption; ((try dsimp only) <;> omega)) | exact Rd.slD 0 rfl qX | exact Rd.slD 1 rfl qX)
   case h17 => rfl
   refine tA 16 ?_
   refine tP 17 ?_
   refine tP 18 ?_
   first | refine WA.effN 19 rfl qK rfl rfl (Ef.store 0 tab_ok rfl rfl rfl rfl rfl rfl rfl rfl ?_) | refine WA.effN 19 rfl qK rfl rfl (Ef.store 1 tab_ok rfl rfl rfl rfl rfl rfl rfl rfl ?_)
   refine ⟨qR, qS, ?_⟩
   refine WA.done qK ?_
   refine zU (zG (zR 3 rfl ?_))
   refine' WG.y rfl rfl qD (Yl.load1 tab_ok rfl rfl rfl (fun _ => rfl) ?r18 rfl ?h18) ?_
   case r18 => apply Rd.add; (first | exact Rd.blk 0 rfl | exact Rd.blk 1 rfl | (apply RS.rdD; assumption; ((try dsimp only) <;> omega)) | exact Rd.slD 0 rfl qX | exact Rd.slD 1 rfl qX)
   case h18 => rfl
   refine yA ?_
   refine zR 2 rfl ?_
   first | refine WL.efN rfl rfl (Ef.store 0 tab_ok rfl rfl rfl rfl rfl rfl rfl rfl ?_) | refine WL.efN rfl rfl (Ef.store 1 tab_ok rfl rfl rfl rfl rfl rfl rfl rfl ?_)
   refine zN ?_
   refine WE.endF tab_ok [] rfl trivial (RLe.refl _) ?_
   exact ⟨rdE b a cp ws (k + 1) (at' + (nth ws k).length + 1) size, [], by unfold rdE; rw [show ((at' + (nth ws k).length + 1 : Nat) : Int) = (at' : Int) + (((str (nth ws k)).size : Int) + 1) by rw [str_size]; omega]; rfl, rfl, rfl, rfl, rfl⟩
 ·
  refine' WS.yl rfl rfl rfl qD (Yl.load1 tab_ok rfl rfl rfl (fun _ => rfl) ?r19 rfl ?h19) qS qR ?_
  case r19 => apply Rd.add; (first | exact Rd.blk 0 rfl | exact Rd.blk 1 rfl | (apply RS.rdD; assumption; ((try dsimp only) <;> omega)) | exact Rd.slD 0 rfl qX | exact Rd.slD 1 rfl qX)
  case h19 => rfl
  refine WA.br2 (i := 3) (j := 7) qK ?_ ?_
  ·
   refine' WS.yl rfl rfl rfl qD (Yl.load1 tab_ok rfl rfl rfl (fun _ => rfl) ?r20 rfl ?h20) qS qR ?_
   case r20 => apply Rd.add; (first | exact Rd.blk 0 rfl | exact Rd.blk 1 rfl | (apply RS.rdD; assumption; ((try dsimp only) <;> omega)) | exact Rd.slD 0 rfl qX | exact Rd.slD 1 rfl qX)
   case h20 => rfl
   refine' WA.yl 7 rfl qK rfl rfl qD (Yl.load1 tab_ok rfl rfl rfl (fun _ => rfl) ?r21 rfl ?h21) qS qR ?_
   case r21 => apply Rd.add; (first | exact Rd.blk 0 rfl | exact Rd.blk 1 rfl | (apply RS.rdD; assumption; ((try dsimp only) <;> omega)) | exact Rd.slD 0 rfl qX | exact Rd.slD 1 rfl qX)
   case h21 => rfl
   refine WA.take 12 rfl qK qK qK rfl rfl qD (Yl.indexN tab_ok rfl rfl rfl rfl rfl rfl (fun _ => rfl) qN qH) qS qR ?_
   refine' WA.take 13 rfl qK qK qK rfl rfl qD (Yl.load1 tab_ok rfl rfl rfl (fun _ => rfl) ?r22 rfl ?h22) qS qR ?_
   case r22 => (first | (apply RS.rdD; assumption; ((try dsimp only) <;> omega)) | exact Rd.slD 0 rfl qX | exact Rd.slD 1 rfl qX)
   case h22 => rfl
   refine tP 14 ?_
   refine tA 15 ?_
   refine tA 16 ?_
   refine tP 17 ?_
   refine tP 18 ?_
   first | refine WA.effN 19 rfl qK rfl rfl (Ef.store 0 tab_ok rfl rfl rfl rfl rfl rfl rfl rfl ?_) | refine WA.effN 19 rfl qK rfl rfl (Ef.store 1 tab_ok rfl rfl rfl rfl rfl rfl rfl rfl ?_)
   refine ⟨qR, qS, ?_⟩
   refine WA.done qK ?_
   refine zU (zG (zR 3 rfl ?_))
   refine' WG.y rfl rfl qD (Yl.load1 tab_ok rfl rfl rfl (fun _ => rfl) ?r23 rfl ?h23) ?_
   case r23 => apply Rd.add; (first | exact Rd.blk 0 rfl | exact Rd.blk 1 rfl | (apply RS.rdD; assumption; ((try dsimp only) <;> omega)) | exact Rd.slD 0 rfl qX | exact Rd.slD 1 rfl qX)
   case h23 => rfl
   refine yA ?_
   refine zR 2 rfl ?_
   first | refine WL.efN rfl rfl (Ef.store 0 tab_ok rfl rfl rfl rfl rfl rfl rfl rfl ?_) | refine WL.efN rfl rfl (Ef.store 1 tab_ok rfl rfl rfl rfl rfl rfl rfl rfl ?_)
   refine zN ?_
   refine WE.endF tab_ok [] rfl trivial (RLe.refl _) ?_
   exact ⟨rdE b a cp ws (k + 1) (at' + (nth ws k).length + 1) size, [], by unfold rdE; rw [show ((at' + (nth ws k).length + 1 : Nat) : Int) = (at' : Int) + (((str (nth ws k)).size : Int) + 1) by rw [str_size]; omega]; rfl, rfl, rfl, rfl, rfl⟩
  ·
   refine' WS.yl rfl rfl rfl qD (Yl.load1 tab_ok rfl rfl rfl (fun _ => rfl) ?r24 rfl ?h24) qS qR ?_
   case r24 => apply Rd.add; (first | exact Rd.blk 0 rfl | exact Rd.blk 1 rfl | (apply RS.rdD; assumption; ((try dsimp only) <;> omega)) | exact Rd.slD 0 rfl qX | exact Rd.slD 1 rfl qX)
   case h24 => rfl
   refine WA.take 12 rfl qK qK qK rfl rfl qD (Yl.indexN tab_ok rfl rfl rfl rfl rfl rfl (fun _ => rfl) qN qH) qS qR ?_
   refine' WA.take 13 rfl qK qK qK rfl rfl qD (Yl.load1 tab_ok rfl rfl rfl (fun _ => rfl) ?r25 rfl ?h25) qS qR ?_
   case r25 => (first | (apply RS.rdD; assumption; ((try dsimp only) <;> omega)) | exact Rd.slD 0 rfl qX | exact Rd.slD 1 rfl qX)
   case h25 => rfl
   refine tP 14 ?_
   refine tA 15 ?_
   refine' WA.yl 3 rfl qK rfl rfl qD (Yl.load1 tab_ok rfl rfl rfl (fun _ => rfl) ?r26 rfl ?h26) qS qR ?_
   case r26 => apply Rd.add; (first | exact Rd.blk 0 rfl | exact Rd.blk 1 rfl | (apply RS.rdD; assumption; ((try dsimp only) <;> omega)) | exact Rd.slD 0 rfl qX | exact Rd.slD 1 rfl qX)
   case h26 => rfl
   refine tA 16 ?_
   refine tP 17 ?_
   refine tP 18 ?_
   first | refine WA.effN 19 rfl qK rfl rfl (Ef.store 0 tab_ok rfl rfl rfl rfl rfl rfl rfl rfl ?_) | refine WA.effN 19 rfl qK rfl rfl (Ef.store 1 tab_ok rfl rfl rfl rfl rfl rfl rfl rfl ?_)
   refine ⟨qR, qS, ?_⟩
   refine WA.done qK ?_
   refine zU (zG (zR 3 rfl ?_))
   refine' WG.y rfl rfl qD (Yl.load1 tab_ok rfl rfl rfl (fun _ => rfl) ?r27 rfl ?h27) ?_
   case r27 => apply Rd.add; (first | exact Rd.blk 0 rfl | exact Rd.blk 1 rfl | (apply RS.rdD; assumption; ((try dsimp only) <;> omega)) | exact Rd.slD 0 rfl qX | exact Rd.slD 1 rfl qX)
   case h27 => rfl
   refine yA ?_
   refine zR 2 rfl ?_
   first | refine WL.efN rfl rfl (Ef.store 0 tab_ok rfl rfl rfl rfl rfl rfl rfl rfl ?_) | refine WL.efN rfl rfl (Ef.store 1 tab_ok rfl rfl rfl rfl rfl rfl rfl rfl ?_)
   refine zN ?_
   refine WE.endF tab_ok [] rfl trivial (RLe.refl _) ?_
   exact ⟨rdE b a cp ws (k + 1) (at' + (nth ws k).length + 1) size, [], by unfold rdE; rw [show ((at' + (nth ws k).length + 1 : Nat) : Int) = (at' : Int) + (((str (nth ws k)).size : Int) + 1) by rw [str_size]; omega]; rfl, rfl, rfl, rfl, rfl⟩

theorem Need_C {R : Ro} {b : Nat} {a : Option Addr} {cp : Nat} {ws : List (List UInt8)} {k at' size : Nat} (w0 : World) (hws : RS R 1 encT a ws) (hsz : size ≤ 1000000) : FnXAt Tryd.prog 46 [.pointer (some ⟨b, 0, none⟩)] w0 R (rdE b a cp ws k at' size) (fun v R' e' N => v = .string (str (nth ws k)) ∧ k < ws.length ∧ R = R' ∧ e' = (rdE b a cp ws k at' size) ∧ N = []) (fun v R' e' => v = failV size 4 ∧ ¬ k < ws.length ∧ R = R' ∧ e' = (rdE b a cp ws k at' size)) := by
 intro F
 have hwl := hws.len
 refine FnX.enter (n := 19) Tryd.func46 rfl rfl (Nat.le_of_ble_eq_true rfl) rfl ?_
 refine zQ (zG (zR 1 rfl (zN (zU (zQ (zG (zR 1 rfl ?_)))))))
 refine WL.callAt 0 en50 rfl rfl qD (CallOp.mkT rfl rfl rfl rfl) rfl (Peek_C w0 hws hsz _) ?_
 rintro _ _ _ _ - ⟨rfl, rfl, rfl, rfl⟩
 refine zR 5 rfl (zN (zU (zQ (zQ (zG (zR 2 rfl (zN (zU ?_))))))))
 refine W.cond rfl (fun hc0 => ?_) (fun hc0 => ?_)
 ·try simp only [zk] at hc0
  have hk : ¬ k < ws.length := by simpa using hc0
  refine zG (zR 3 rfl ?_)
  refine' WG.y rfl rfl qD (Yl.load1 tab_ok rfl rfl rfl (fun _ => rfl) ?r1 rfl ?h1) ?_
  case r1 => apply Rd.add; (first | exact Rd.blk 0 rfl | exact Rd.blk 1 rfl | (apply RS.rdD; assumption; ((try dsimp only) <;> omega)) | exact Rd.slD 0 rfl qX | exact Rd.slD 1 rfl qX)
  case h1 => rfl
  -- build
  refine WG.y rfl rfl qD (Yl.build (parts := [(0, .tmp 15), (1, .const (.int .i64 4))]) tab_ok rfl rfl rfl rfl (fun _ => rfl) rfl rfl) ?_
  refine WG.y rfl rfl qD (Yl.toIface tab_ok rfl rfl rfl rfl (fun _ => rfl)) ?_
  refine WL.panic rfl rfl rfl ?_
  refine WE.then_panic ?_
  refine WE.panicX (RLe.refl _) ?_
  exact ⟨_, rfl, rfl, hk, rfl, rfl⟩
 ·try simp only [zk] at hc0
  have hk : k < ws.length := by simpa using hc0
  rw [if_pos hk]
  refine zK (zU (zQ (zG (zR 2 rfl (zN (zU (zT ?_)))))))
  refine WE.retX tab_ok [_] rfl ⟨rfl, trivial⟩ (RLe.refl _) ?_
  exact ⟨_, [], rfl, rfl, hk, rfl, rfl, rfl⟩

end Go.Proofs.YtejpkjapmhpmpaaDoor

/- A walk begins anew where nothing is owned: all that exists is read only and lies below; string(b) of bytes of one's own. No condition. -/
namespace Go.Proofs.YtejpkjapmhpmpaaDoor.K
open Go Go.RowKit
section
variable {P : Program} {n : Nat} {env : Env} {w0 w1 : World} {R R1 : Ro} {E : List Ent} {c : Code} {Q : Exit → Act → World → Prop} {e : Exit}
theorem W.rebase (h : ∀ w1, Mem w0 w1 R [] → RBelow w1 R → W P c Q n env w1 R []) : W P c Q n env w0 R [] := fun a w hk hm =>
 h w hm (fun _ _ hb => hm.ro_lt hb) a w hk ⟨Below.refl _ w, hm.ro, fun e he => (by cases he), fun e he => (by cases he), List.Pairwise.nil⟩
theorem WE.rebase (hb : Mem w0 w1 R1 []) (h : WE Q e n env w0 R1 []) : WE Q e n env w1 R E := fun a w hk hm => h a w hk (hb.belowAll hm.below)
end
end Go.Proofs.YtejpkjapmhpmpaaDoor.K

/- Finite curves: values, gains, validity. No condition. -/
set_option maxRecDepth 4000
set_option linter.unusedSimpArgs false
set_option linter.unusedVariables false
namespace Go.Proofs.YtejpkjapmhpmpaaDoor
open Go Go.RowKit Go.Proofs.YtejpkjapmhpmpaaDoor.K Go.Proofs.YtejpkjapmhpmpaaDoor.M





theorem CValidG_V {R : Ro} {fa : Option Addr} {fc : Nat} {c : Cv} (ha : RS R 1 encI fa c.vals) (hl : c.vals.length ≤ 100000) : FnV Tryd.prog 39 [.agg #[.slice fa c.vals.length fc, .int .i64 c.per, .int .i64 c.inc]] R (.bool (validB c)) := by
 refine Fn.toV (fun w0 E => ?_)
 refine fE 85 Tryd.func39 ?_
 refine zQ (zG ?_)
 refine zO fun b1 => ?_
 refine zR 1 rfl (zN (zU (zQ (zG (zR 1 rfl ?_)))))
 refine' WG.y rfl rfl qD (Yl.load1 tab_ok rfl rfl rfl (fun _ => rfl) ?r1 rfl ?h1) ?_
 case r1 => apply Rd.add; (first | exact Rd.blk 0 rfl | exact Rd.blk 1 rfl)
 case h1 => rfl
 refine zR 2 rfl (zN (zU (zQ (zQ (zG (zR 3 rfl ?_))))))
 refine yP ?_
 refine yP ?_
 refine yO ?_
 refine zR 1 rfl ?_
 refine yP ?_
 refine' WG.y rfl rfl qD (Yl.loadG tab_ok rfl rfl rfl qE ?r2 rfl ?h2 ?g2) ?_
 case r2 => apply Rd.addC; (first | exact Rd.blkC 0 rfl | exact Rd.blkC 1 rfl)
 case h2 => rfl
 case g2 => first | exact fun _ => trivial | (intro hg; (try simp only [zk] at hg); (try dsimp only); omega)
 refine yP ?_
 refine yO ?_
 refine zR 1 rfl ?_
 refine yP ?_
 refine' WG.y rfl rfl qD (Yl.loadG tab_ok rfl rfl rfl qE ?r3 rfl ?h3 ?g3) ?_
 case r3 => apply Rd.addC; (first | exact Rd.blkC 0 rfl | exact Rd.blkC 1 rfl)
 case h3 => rfl
 case g3 => first | exact fun _ => trivial | (intro hg; (try simp only [zk] at hg); (try dsimp only); omega)
 refine yP ?_
 refine yO ?_
 refine zR 1 rfl ?_
 refine yP ?_
 refine' WG.y rfl rfl qD (Yl.loadG tab_ok rfl rfl rfl qE ?r4 rfl ?h4 ?g4) ?_
 case r4 => apply Rd.addC; (first | exact Rd.blkC 0 rfl | exact Rd.blkC 1 rfl)
 case h4 => rfl
 case g4 => first | exact fun _ => trivial | (intro hg; (try simp only [zk] at hg); (try dsimp only); omega)
 refine yP ?_
 refine yP ?_
 refine yO ?_
 refine zR 1 rfl ?_
 refine yP ?_
 refine' WG.y rfl rfl qD (Yl.loadG tab_ok rfl rfl rfl qE ?r5 rfl ?h5 ?g5) ?_
 case r5 => apply Rd.addC; (first | exact Rd.blkC 0 rfl | exact Rd.blkC 1 rfl)
 case h5 => rfl
 case g5 => first | exact fun _ => trivial | (intro hg; (try simp only [zk] at hg); (try dsimp only); omega)
 refine yP ?_
 refine yO ?_
 refine zR 1 rfl ?_
 refine yP ?_
 refine' WG.y rfl rfl qD (Yl.loadG tab_ok rfl rfl rfl qE ?r6 rfl ?h6 ?g6) ?_
 case r6 => apply Rd.addC; (first | exact Rd.blkC 0 rfl | exact Rd.blkC 1 rfl)
 case h6 => rfl
 case g6 => first | exact fun _ => trivial | (intro hg; (try simp only [zk] at hg); (try dsimp only); omega)
 refine yP ?_
 refine yO ?_
 refine zN (zU ?_)
 refine W.cond rfl (fun hc0 => ?_) (fun hc0 => ?_)
 ·try simp only [zk] at hc0
  have hno : validB c = false := validB_false (fun h => by obtain ⟨⟨a1, a2, a3, a4, a5, a6, a7⟩, _⟩ := h; unfold MAXV at a7; omega)
  refine zQ (zG (zR 1 rfl (zN (zU (zT (wt ?_))))))
  refine sE (E := E) ?_
  refine WE.retF tab_ok [_] rfl ⟨rfl, trivial⟩ (RLe.refl _) ?_
  exact ⟨by rw [hno]; rfl, rfl⟩
 ·try simp only [zk] at hc0
  have hall : 1 ≤ c.vals.length ∧ c.vals.length ≤ 400 ∧ 1 ≤ c.per ∧ c.per ≤ 120 ∧ c.per ≤ c.vals.length ∧ 0 ≤ c.inc ∧ c.inc ≤ MAXV := by unfold MAXV; omega
  refine zK (zU (zQ (zG (zR 1 rfl (zN (zU (zQ (zQ (zG (zR 1 rfl ?_))))))))))
  refine' WG.y rfl rfl qD (Yl.load1 tab_ok rfl rfl rfl (fun _ => rfl) ?r7 rfl ?h7) ?_
  case r7 => apply Rd.add; (first | exact Rd.blk 0 rfl | exact Rd.blk 1 rfl)
  case h7 => rfl
  refine zR 2 rfl (zN (zU (zB ?_)))
  refine W.loopK (β := Nat) (fun t => t ≤ c.vals.length ∧ ∀ i, i < t → (nth c.vals i = INF ∨ (0 ≤ nth c.vals i ∧ nth c.vals i ≤ MAXV)) ∧ (i = 0 ∨ nth c.vals (i - 1) ≤ nth c.vals i)) (fun t => [(4, true, .int .i64 (lastV c.vals t)), (45, true, .int .i64 (t : Int))]) [1, 3, 43, 44] [_, _, _, _] [] _ rfl (fun t => []) (fun t => c.vals.length - t) (0) (⟨Nat.zero_le _, fun i hi => by omega⟩) ⟨rfl, rfl, rfl, rfl, rfl, rfl, rfl⟩ qS ?_
  intro t hst
  dsimp only [zipE, setAll, List.cons_append, List.nil_append, List.set_cons_zero, List.set_cons_succ] at hst ⊢
  have hlast : 0 ≤ lastV c.vals t ∧ (lastV c.vals t = INF ∨ lastV c.vals t ≤ MAXV) := by
   unfold lastV
   by_cases h : t = 0
   ·rw [if_pos h]; exact ⟨Int.le_refl _, .inr (by decide)⟩
   ·rw [if_neg h]
    have := (hst.2 (t - 1) (by omega)).1
    unfold INF MAXV at this ⊢
    omega
  refine zQ (zG (zR 1 rfl (zN (zU (zQ ?_)))))
  refine W.condD rfl (fun hc1 => ?_) (fun hc1 => ?_)
  ·try dsimp only at hc1
   have htl : t < c.vals.length := by omega
   refine zK (zU (zQ (zB (zQ (zG ?_)))))
   refine WG.y rfl rfl qD (Yl.indexN tab_ok rfl rfl rfl rfl rfl rfl (fun _ => rfl) qN qH) ?_
   refine' WG.y rfl rfl qD (Yl.load1 tab_ok rfl rfl rfl (fun _ => rfl) ?r8 rfl ?h8) ?_
   case r8 => (first | (apply RS.rdD; assumption; ((try dsimp only) <;> omega)) | exact Rd.slD 0 rfl qX | exact Rd.slD 1 rfl qX)
   case h8 => rfl
   refine zR 1 rfl (zN (zU (zQ (zQ (zG (zR 4 rfl ?_))))))
   refine yP ?_
   refine yP ?_
   refine yP ?_
   refine yP ?_
   refine yP ?_
   refine yN ?_
   refine yO ?_
   refine zN (zU ?_)
   refine W.cond rfl (fun hc2 => ?_) (fun hc2 => ?_)
   ·try simp only [zk] at hc2
    have hno : validB c = false := validB_false (fun h => by
     have h2 := h.2.1 t htl
     unfold lastV at hc2
     unfold INF MAXV at h2
     rcases hc2 with x | x
     ·split at x
      ·omega
      ·have := h2.2.resolve_left (by omega)
       omega
     ·omega)
    refine zQ (zG (zR 1 rfl (zN (zU (zT (wt (wb (wt (wt (wb (wt ?_)))))))))))
    refine sE (E := E) ?_
    refine WE.retF tab_ok [_] rfl ⟨rfl, trivial⟩ (RLe.refl _) ?_
    exact ⟨by rw [hno]; rfl, rfl⟩
   ·try simp only [zk] at hc2
    have hy : (nth c.vals t = INF ∨ (0 ≤ nth c.vals t ∧ nth c.vals t ≤ MAXV)) ∧ (t = 0 ∨ nth c.vals (t - 1) ≤ nth c.vals t) := by
     unfold INF MAXV
     have hle : lastV c.vals t ≤ nth c.vals t := by omega
     refine ⟨by omega, ?_⟩
     unfold lastV at hle
     by_cases h : t = 0
     ·exact .inl h
     ·rw [if_neg h] at hle; exact .inr hle
    refine zK (zU (zG (zR 2 rfl (zN (zL (zU (zG ?_)))))))
    refine yA ?_
    refine zR 1 rfl (zN ?_)
    refine WE.again (t + 1) (⟨by omega, fun i hi => by
     by_cases e : i = t
     ·subst e; exact hy
     ·exact hst.2 i (by omega)⟩) (by (try dsimp only); omega) ⟨vint (lastV_succ _ _), rfl, rfl, rfl, rfl, rfl, rfl⟩ (RLe.refl _) qS
  ·try dsimp only at hc1
   obtain rfl : t = c.vals.length := by omega
   obtain ⟨P, hP⟩ := Int.eq_ofNat_of_zero_le (show 0 ≤ c.per by omega)
   have hlv : lastV c.vals c.vals.length = nth c.vals (c.vals.length - 1) := if_neg (by omega)
   have e3 : ((c.vals.length : Int) - c.per).toNat = c.vals.length - c.per.toNat := by omega
   refine zX ?_
   refine wx (wx (zY (zU (zQ (zQ (zG (zR 2 rfl (zN (zU ?_)))))))))
   refine W.condE rfl (fun hc3 => ?_) (fun hc3 => ?_)
   ·try dsimp only at hc3
    have hif : (if nth c.vals (c.vals.length - 1) = INF then c.per = 1 ∧ c.inc = 0 else nth c.vals (c.vals.length - 1) ≤ nth c.vals (c.vals.length - c.per.toNat) + c.inc) ↔ (c.per = 1 ∧ c.inc = 0) := by rw [if_pos (by rw [← hlv]; exact hc3)]
    refine zQ (zG (zR 1 rfl ?_))
    refine' WG.y rfl rfl qD (Yl.load1 tab_ok rfl rfl rfl (fun _ => rfl) ?r9 rfl ?h9) ?_
    case r9 => apply Rd.add; (first | exact Rd.blk 0 rfl | exact Rd.blk 1 rfl)
    case h9 => rfl
    refine zR 2 rfl ?_
    refine yP ?_
    refine' WG.y rfl rfl qD (Yl.loadG tab_ok rfl rfl rfl qE ?r10 rfl ?h10 ?g10) ?_
    case r10 => apply Rd.addC; (first | exact Rd.blkC 0 rfl | exact Rd.blkC 1 rfl)
    case h10 => rfl
    case g10 => first | exact fun _ => trivial | (intro hg; (try simp only [zk] at hg); (try dsimp only); omega)
    refine yP ?_
    refine yN ?_
    refine zR 1 rfl (zN (zU (zT (wt ?_))))
    refine sE (E := E) ?_
    refine WE.retF tab_ok [_] rfl ⟨rfl, trivial⟩ (RLe.refl _) ?_
    refine ⟨congrArg Value.bool ?_, rfl⟩
    rw [Bool.eq_iff_iff, validB_iff, hif]
    simp only [Bool.and_eq_true, beq_iff_eq]
    exact ⟨fun h => ⟨hall, fun j hj => hst.2 j hj, h⟩, fun h => h.2.2⟩
   ·try dsimp only at hc3
    have hif : (if nth c.vals (c.vals.length - 1) = INF then c.per = 1 ∧ c.inc = 0 else nth c.vals (c.vals.length - 1) ≤ nth c.vals (c.vals.length - c.per.toNat) + c.inc) ↔ (nth c.vals (c.vals.length - 1) ≤ nth c.vals (c.vals.length - c.per.toNat) + c.inc) := by rw [if_neg (by rw [← hlv]; exact hc3)]
    have hx2 := (hst.2 (c.vals.length - c.per.toNat) (by omega)).1
    rw [← e3] at hx2
    unfold INF MAXV at hx2 hall
    refine zK (zU (zQ ?_))
    refine W.regionQ _ mixed qK ?_
    refine zR 1 rfl ?_
    refine' WG.y rfl rfl qD (Yl.load1 tab_ok rfl rfl rfl (fun _ => rfl) ?r11 rfl ?h11) ?_
    case r11 => apply Rd.add; (first | exact Rd.blk 0 rfl | exact Rd.blk 1 rfl)
    case h11 => rfl
    refine zR 2 rfl ?_
    refine' WG.y rfl rfl qD (Yl.load1 tab_ok rfl rfl rfl (fun _ => rfl) ?r12 rfl ?h12) ?_
    case r12 => apply Rd.add; (first | exact Rd.blk 0 rfl | exact Rd.blk 1 rfl)
    case h12 => rfl
    refine yS ?_
    refine WG.y rfl rfl qD (Yl.index tab_ok rfl rfl rfl rfl rfl rfl (fun _ => rfl) qA qH) ?_
    refine' WG.y rfl rfl qD (Yl.load1 tab_ok rfl rfl rfl (fun _ => rfl) ?r13 rfl ?h13) ?_
    case r13 => (first | (apply RS.rdD; assumption; ((try dsimp only) <;> omega)) | exact Rd.slD 0 rfl qX | exact Rd.slD 1 rfl qX)
    case h13 => rfl
    refine zR 1 rfl ?_
    refine' WG.y rfl rfl qD (Yl.load1 tab_ok rfl rfl rfl (fun _ => rfl) ?r14 rfl ?h14) ?_
    case r14 => apply Rd.add; (first | exact Rd.blk 0 rfl | exact Rd.blk 1 rfl)
    case h14 => rfl
    refine yA ?_
    refine zR 3 rfl (zN (zU (zT ?_)))
    refine sE (E := E) ?_
    refine WE.retF tab_ok [_] rfl ⟨rfl, trivial⟩ (RLe.refl _) ?_
    refine ⟨congrArg Value.bool ?_, rfl⟩
    rw [Bool.eq_iff_iff, validB_iff, hif, e3, hlv]
    simp only [decide_eq_true_eq]
    exact ⟨fun h => ⟨by unfold MAXV; omega, fun j hj => hst.2 j hj, by omega⟩, fun h => by have := h.2.2; omega⟩

end Go.Proofs.YtejpkjapmhpmpaaDoor

/- The contracts of the library that the walks take, laid at this translation. No condition. -/
namespace Go.Proofs.YtejpkjapmhpmpaaDoor
open Go.Shelf
def sh_laysC172_ren : Go.Shelf.Ren := ⟨fun | 172 => 57 | 244 => 63 | 245 => 64 | 247 => 71 | 279 => 72 | 280 => 73 | 281 => 74 | 282 => 75 | 287 => 82 | 316 => 83 | 171 => 85 | 205 => 84 | 321 => 91 | 322 => 92 | 243 => 93 | 246 => 96 | 283 => 76 | 284 => 77 | 285 => 78 | 286 => 79 | 129 => 87 | 317 => 86 | 318 => 88 | 319 => 89 | 320 => 90 | 337 => 94 | 338 => 95 | n => n, fun | 9 => 9 | 3 => 3 | 75 => 90 | 76 => 91 | 4 => 4 | 5 => 5 | 167 => 101 | 37 => 32 | 0 => 0 | 85 => 102 | 2 => 2 | 168 => 104 | 53 => 98 | 175 => 119 | 46 => 100 | 210 => 123 | 127 => 131 | 145 => 134 | 143 => 132 | 21 => 21 | 171 => 107 | 173 => 110 | 212 => 126 | 51 => 112 | 20 => 20 | 213 => 127 | 232 => 137 | 233 => 138 | 80 => 82 | n => n, fun | 15 => 3 | 16 => 4 | 17 => 5 | 18 => 6 | 19 => 7 | n => n⟩
theorem sh_laysC172 : Go.Proofs.LaysC.n172 Tryd.prog sh_laysC172_ren := {
  mixed := by kernel_rfl
  f129 := Tryd.func87.trans (congrArg some (by kernel_rfl))
  f171 := Tryd.func85.trans (congrArg some (by kernel_rfl))
  f172 := Tryd.func57.trans (congrArg some (by kernel_rfl))
  f205 := Tryd.func84.trans (congrArg some (by kernel_rfl))
  f243 := Tryd.func93.trans (congrArg some (by kernel_rfl))
  f244 := Tryd.func63.trans (congrArg some (by kernel_rfl))
  f245 := Tryd.func64.trans (congrArg some (by kernel_rfl))
  f246 := Tryd.func96.trans (congrArg some (by kernel_rfl))
  f247 := Tryd.func71.trans (congrArg some (by kernel_rfl))
  f279 := Tryd.func72.trans (congrArg some (by kernel_rfl))
  f280 := Tryd.func73.trans (congrArg some (by kernel_rfl))
  f281 := Tryd.func74.trans (congrArg some (by kernel_rfl))
  f282 := Tryd.func75.trans (congrArg some (by kernel_rfl))
  f283 := Tryd.func76.trans (congrArg some (by kernel_rfl))
  f284 := Tryd.func77.trans (congrArg some (by kernel_rfl))
  f285 := Tryd.func78.trans (congrArg some (by kernel_rfl))
  f286 := Tryd.func79.trans (congrArg some (by kernel_rfl))
  f287 := Tryd.func82.trans (congrArg some (by kernel_rfl))
  f316 := Tryd.func83.trans (congrArg some (by kernel_rfl))
  f317 := Tryd.func86.trans (congrArg some (by kernel_rfl))
  f318 := Tryd.func88.trans (congrArg some (by kernel_rfl))
  f319 := Tryd.func89.trans (congrArg some (by kernel_rfl))
  f320 := Tryd.func90.trans (congrArg some (by kernel_rfl))
  f321 := Tryd.func91.trans (congrArg some (by kernel_rfl))
  f322 := Tryd.func92.trans (congrArg some (by kernel_rfl))
  f337 := Tryd.func94.trans (congrArg some (by kernel_rfl))
  f338 := Tryd.func95.trans (congrArg some (by kernel_rfl))
  t0 := Tryd.underlying0
  a0 := Tryd.isAgg0
  z0 := Tryd.sizeOf0
  v0 := Tryd.zeroValue0
  t2 := Tryd.underlying2
  a2 := Tryd.isAgg2
  z2 := Tryd.sizeOf2
  v2 := Tryd.zeroValue2
  t3 := Tryd.underlying3
  a3 := Tryd.isAgg3
  z3 := Tryd.sizeOf3
  v3 := Tryd.zeroValue3
  t4 := Tryd.underlying4
  a4 := Tryd.isAgg4
  z4 := Tryd.sizeOf4
  v4 := Tryd.zeroValue4
  t5 := Tryd.underlying5
  a5 := Tryd.isAgg5
  z5 := Tryd.sizeOf5
  v5 := Tryd.zeroValue5
  t9 := Tryd.underlying9
  a9 := Tryd.isAgg9
  z9 := Tryd.sizeOf9
  v9 := Tryd.zeroValue9
  t20 := Tryd.underlying20
  a20 := Tryd.isAgg20
  z20 := Tryd.sizeOf20
  v20 := Tryd.zeroValue20
  t21 := Tryd.underlying21
  a21 := Tryd.isAgg21
  z21 := Tryd.sizeOf21
  v21 := Tryd.zeroValue21
  t37 := Tryd.underlying32
  a37 := Tryd.isAgg32
  z37 := Tryd.sizeOf32
  v37 := Tryd.zeroValue32
  t46 := Tryd.underlying100
  a46 := Tryd.isAgg100
  z46 := Tryd.sizeOf100
  v46 := Tryd.zeroValue100
  t51 := Tryd.underlying112
  a51 := Tryd.isAgg112
  z51 := Tryd.sizeOf112
  v51 := Tryd.zeroValue112
  t53 := Tryd.underlying98
  a53 := Tryd.isAgg98
  z53 := Tryd.sizeOf98
  v53 := Tryd.zeroValue98
  t75 := Tryd.underlying90
  a75 := Tryd.isAgg90
  z75 := Tryd.sizeOf90
  v75 := Tryd.zeroValue90
  t76 := Tryd.underlying91
  a76 := Tryd.isAgg91
  z76 := Tryd.sizeOf91
  v76 := Tryd.zeroValue91
  t85 := Tryd.underlying102
  a85 := Tryd.isAgg102
  z85 := Tryd.sizeOf102
  v85 := Tryd.zeroValue102
  t127 := Tryd.underlying131
  a127 := Tryd.isAgg131
  z127 := Tryd.sizeOf131
  v127 := Tryd.zeroValue131
  t143 := Tryd.underlying132
  a143 := Tryd.isAgg132
  z143 := Tryd.sizeOf132
  v143 := Tryd.zeroValue132
  t145 := Tryd.underlying134
  a145 := Tryd.isAgg134
  z145 := Tryd.sizeOf134
  v145 := Tryd.zeroValue134
  t167 := Tryd.underlying101
  a167 := Tryd.isAgg101
  z167 := Tryd.sizeOf101
  v167 := Tryd.zeroValue101
  t168 := Tryd.underlying104
  a168 := Tryd.isAgg104
  z168 := Tryd.sizeOf104
  v168 := Tryd.zeroValue104
  t171 := Tryd.underlying107
  a171 := Tryd.isAgg107
  z171 := Tryd.sizeOf107
  v171 := Tryd.zeroValue107
  t173 := Tryd.underlying110
  a173 := Tryd.isAgg110
  z173 := Tryd.sizeOf110
  v173 := Tryd.zeroValue110
  t175 := Tryd.underlying119
  a175 := Tryd.isAgg119
  z175 := Tryd.sizeOf119
  v175 := Tryd.zeroValue119
  t210 := Tryd.underlying123
  a210 := Tryd.isAgg123
  z210 := Tryd.sizeOf123
  v210 := Tryd.zeroValue123
  t212 := Tryd.underlying126
  a212 := Tryd.isAgg126
  z212 := Tryd.sizeOf126
  v212 := Tryd.zeroValue126
  t213 := Tryd.underlying127
  a213 := Tryd.isAgg127
  z213 := Tryd.sizeOf127
  t232 := Tryd.underlying137
  a232 := Tryd.isAgg137
  z232 := Tryd.sizeOf137
  v232 := Tryd.zeroValue137
  t233 := Tryd.underlying138
  a233 := Tryd.isAgg138
  z233 := Tryd.sizeOf138
  v233 := Tryd.zeroValue138
  g15 := by kernel_rfl
  g16 := by kernel_rfl
  g17 := by kernel_rfl
  g18 := by kernel_rfl
  g19 := by kernel_rfl
  t80 := Tryd.underlying82
  a80 := Tryd.isAgg82
  z80 := Tryd.sizeOf82
  v80 := Tryd.zeroValue82
  i0 := by kernel_rfl
  i2 := by kernel_rfl
  i3 := by kernel_rfl
  i4 := by kernel_rfl
  i5 := by kernel_rfl
  i9 := by kernel_rfl
  i20 := by kernel_rfl
  i21 := by kernel_rfl
  i37 := by kernel_rfl
  i46 := by kernel_rfl
  i51 := by kernel_rfl
  i53 := by kernel_rfl
  i75 := by kernel_rfl
  i76 := by kernel_rfl
  i80 := by kernel_rfl
  i85 := by kernel_rfl
  i127 := by kernel_rfl
  i143 := by kernel_rfl
  i145 := by kernel_rfl
  i167 := by kernel_rfl
  i168 := by kernel_rfl
  i171 := by kernel_rfl
  i173 := by kernel_rfl
  i175 := by kernel_rfl
  i210 := by kernel_rfl
  i212 := by kernel_rfl
  i232 := by kernel_rfl
  i233 := by kernel_rfl
  m15 := by kernel_rfl
  m16 := by kernel_rfl
  m17 := by kernel_rfl
  m18 := by kernel_rfl
  m19 := by kernel_rfl
  c0 := by kernel_rfl
  c2 := by kernel_rfl
  c3 := by kernel_rfl
  c4 := by kernel_rfl
  c5 := by kernel_rfl
  c9 := by kernel_rfl
  c20 := by kernel_rfl
  c21 := by kernel_rfl
  c37 := by kernel_rfl
  c46 := by kernel_rfl
  c51 := by kernel_rfl
  c53 := by kernel_rfl
  c75 := by kernel_rfl
  c76 := by kernel_rfl
  c80 := by kernel_rfl
  c85 := by kernel_rfl
  c127 := by kernel_rfl
  c143 := by kernel_rfl
  c145 := by kernel_rfl
  c167 := by kernel_rfl
  c168 := by kernel_rfl
  c171 := by kernel_rfl
  c173 := by kernel_rfl
  c175 := by kernel_rfl
  c210 := by kernel_rfl
  c212 := by kernel_rfl
  c213 := by kernel_rfl
  c232 := by kernel_rfl
  c233 := by kernel_rfl }
open Go.RowKit in
theorem sh_strconv_Atoi_ok (s : ByteArray) (hmax : s.size ≤ 9223372036854775806) (v : Int) (h : Lib.atoiAll s.data.toList = .ok v) (w : World) :
  Calls Tryd.prog 57 #[.string s] w fun e w' => e = .returned (.tuple #[.int .i64 v, .nilIface]) ∧ (w' = w ∨ ∃ t, w' = Lib.bytesWorld w 5 t) := Any.strconv_Atoi_ok sh_laysC172 s hmax v h w
open Go.RowKit in
theorem sh_strconv_Atoi_syntax (s : ByteArray) (hlim : s.size ≤ 281474976710656) (h : Lib.atoiAll s.data.toList = (Lib.NumEnd.ofOption none)) (ev : Value) (w : World) (hv : w.cell? ⟨3, 0, none⟩ = some ev) (hev : ev = .nilIface ∨ ∃ te pe, ev = .iface te pe) :
  Calls Tryd.prog 57 #[.string s] w fun e w' => ∃ N, e = .returned (.tuple #[.int .i64 (0), .iface 104 (.pointer (some ⟨N, 0, none⟩))]) ∧ w.heap.size ≤ N ∧ w'.heap[N]? = some (.cells #[.string ⟨#[65, 116, 111, 105]⟩, .string s, ev] 123 (0, 0)) ∧ Below w.heap.size w w' := Any.strconv_Atoi_syntax sh_laysC172 s hlim h ev w hv hev
open Go.RowKit in
theorem sh_strconv_Atoi_range (s : ByteArray) (hlim : s.size ≤ 281474976710656) (h : Lib.atoiAll s.data.toList = .range) (ev : Value) (w : World) (hv : w.cell? ⟨4, 0, none⟩ = some ev) (hev : ev = .nilIface ∨ ∃ te pe, ev = .iface te pe) :
  Calls Tryd.prog 57 #[.string s] w fun e w' => ∃ N, e = .returned (.tuple #[.int .i64 (Lib.atoiSat s.data.toList), .iface 104 (.pointer (some ⟨N, 0, none⟩))]) ∧ w.heap.size ≤ N ∧ w'.heap[N]? = some (.cells #[.string ⟨#[65, 116, 111, 105]⟩, .string s, ev] 123 (0, 0)) ∧ Below w.heap.size w w' := Any.strconv_Atoi_range sh_laysC172 s hlim h ev w hv hev
def sh_lays145_ren : Go.Shelf.Ren := ⟨fun | 145 => 43 | 220 => 52 | 219 => 59 | 217 => 66 | 225 => 67 | 224 => 68 | 267 => 69 | 266 => 80 | 314 => 81 | n => n, fun | 9 => 9 | 4 => 4 | 59 => 78 | 3 => 3 | 5 => 5 | 46 => 100 | 146 => 113 | 51 => 112 | n => n, fun | 1 => 0 | n => n⟩
theorem sh_lays145 : Go.Proofs.Lays.n145 Tryd.prog sh_lays145_ren := {
  mixed := by kernel_rfl
  f145 := Tryd.func43.trans (congrArg some (by kernel_rfl))
  f217 := Tryd.func66.trans (congrArg some (by kernel_rfl))
  f219 := Tryd.func59.trans (congrArg some (by kernel_rfl))
  f220 := Tryd.func52.trans (congrArg some (by kernel_rfl))
  f224 := Tryd.func68.trans (congrArg some (by kernel_rfl))
  f225 := Tryd.func67.trans (congrArg some (by kernel_rfl))
  f266 := Tryd.func80.trans (congrArg some (by kernel_rfl))
  f267 := Tryd.func69.trans (congrArg some (by kernel_rfl))
  f314 := Tryd.func81.trans (congrArg some (by kernel_rfl))
  t3 := Tryd.underlying3
  a3 := Tryd.isAgg3
  z3 := Tryd.sizeOf3
  v3 := Tryd.zeroValue3
  t4 := Tryd.underlying4
  a4 := Tryd.isAgg4
  z4 := Tryd.sizeOf4
  v4 := Tryd.zeroValue4
  t5 := Tryd.underlying5
  a5 := Tryd.isAgg5
  z5 := Tryd.sizeOf5
  v5 := Tryd.zeroValue5
  t9 := Tryd.underlying9
  a9 := Tryd.isAgg9
  z9 := Tryd.sizeOf9
  v9 := Tryd.zeroValue9
  t46 := Tryd.underlying100
  a46 := Tryd.isAgg100
  z46 := Tryd.sizeOf100
  v46 := Tryd.zeroValue100
  t51 := Tryd.underlying112
  a51 := Tryd.isAgg112
  z51 := Tryd.sizeOf112
  v51 := Tryd.zeroValue112
  t59 := Tryd.underlying78
  a59 := Tryd.isAgg78
  z59 := Tryd.sizeOf78
  v59 := Tryd.zeroValue78
  t146 := Tryd.underlying113
  a146 := Tryd.isAgg113
  z146 := Tryd.sizeOf113
  v146 := Tryd.zeroValue113
  g1 := by kernel_rfl }
open Go.RowKit Go.Lib in
theorem sh_strings_Cut (s sep : ByteArray) (m : Int) (w : World) (hs : s.size < 4294967281) (hm : w.cell? ⟨0, 0, none⟩ = some (.int .i64 m)) :
  Calls Tryd.prog 43 #[.string s, .string sep] w fun e w' => e = .returned (.tuple #[.string ⟨(Lib.cut s.data.toList sep.data.toList).1.toArray⟩, .string ⟨(Lib.cut s.data.toList sep.data.toList).2.1.toArray⟩, .bool (Lib.cut s.data.toList sep.data.toList).2.2]) ∧ ∃ n, w' = w.drewN n := Any.strings_Cut sh_lays145 s sep m w hs hm
def sh_laysM176_ren : Go.Shelf.Ren := ⟨fun | 176 => 51 | 249 => 58 | 288 => 65 | 283 => 76 | 284 => 77 | 285 => 78 | 286 => 79 | 129 => 87 | 317 => 86 | 318 => 88 | 319 => 89 | 320 => 90 | 337 => 94 | 338 => 95 | n => n, fun | 37 => 32 | 2 => 2 | 3 => 3 | 53 => 98 | 4 => 4 | 9 => 9 | 171 => 107 | 0 => 0 | 173 => 110 | 212 => 126 | 51 => 112 | 5 => 5 | 20 => 20 | 213 => 127 | 46 => 100 | 232 => 137 | 233 => 138 | n => n, fun | 17 => 5 | 18 => 6 | 19 => 7 | n => n⟩
theorem sh_laysM176 : Go.Proofs.LaysM.n176 Tryd.prog sh_laysM176_ren := {
  mixed := by kernel_rfl
  f129 := Tryd.func87.trans (congrArg some (by kernel_rfl))
  f176 := Tryd.func51.trans (congrArg some (by kernel_rfl))
  f249 := Tryd.func58.trans (congrArg some (by kernel_rfl))
  f283 := Tryd.func76.trans (congrArg some (by kernel_rfl))
  f284 := Tryd.func77.trans (congrArg some (by kernel_rfl))
  f285 := Tryd.func78.trans (congrArg some (by kernel_rfl))
  f286 := Tryd.func79.trans (congrArg some (by kernel_rfl))
  f288 := Tryd.func65.trans (congrArg some (by kernel_rfl))
  f317 := Tryd.func86.trans (congrArg some (by kernel_rfl))
  f318 := Tryd.func88.trans (congrArg some (by kernel_rfl))
  f319 := Tryd.func89.trans (congrArg some (by kernel_rfl))
  f320 := Tryd.func90.trans (congrArg some (by kernel_rfl))
  f337 := Tryd.func94.trans (congrArg some (by kernel_rfl))
  f338 := Tryd.func95.trans (congrArg some (by kernel_rfl))
  t0 := Tryd.underlying0
  a0 := Tryd.isAgg0
  z0 := Tryd.sizeOf0
  v0 := Tryd.zeroValue0
  t2 := Tryd.underlying2
  a2 := Tryd.isAgg2
  z2 := Tryd.sizeOf2
  v2 := Tryd.zeroValue2
  t3 := Tryd.underlying3
  a3 := Tryd.isAgg3
  z3 := Tryd.sizeOf3
  v3 := Tryd.zeroValue3
  t4 := Tryd.underlying4
  a4 := Tryd.isAgg4
  z4 := Tryd.sizeOf4
  v4 := Tryd.zeroValue4
  t5 := Tryd.underlying5
  a5 := Tryd.isAgg5
  z5 := Tryd.sizeOf5
  v5 := Tryd.zeroValue5
  t9 := Tryd.underlying9
  a9 := Tryd.isAgg9
  z9 := Tryd.sizeOf9
  v9 := Tryd.zeroValue9
  t20 := Tryd.underlying20
  a20 := Tryd.isAgg20
  z20 := Tryd.sizeOf20
  v20 := Tryd.zeroValue20
  t37 := Tryd.underlying32
  a37 := Tryd.isAgg32
  z37 := Tryd.sizeOf32
  v37 := Tryd.zeroValue32
  t46 := Tryd.underlying100
  a46 := Tryd.isAgg100
  z46 := Tryd.sizeOf100
  v46 := Tryd.zeroValue100
  t51 := Tryd.underlying112
  a51 := Tryd.isAgg112
  z51 := Tryd.sizeOf112
  v51 := Tryd.zeroValue112
  t53 := Tryd.underlying98
  a53 := Tryd.isAgg98
  z53 := Tryd.sizeOf98
  v53 := Tryd.zeroValue98
  t171 := Tryd.underlying107
  a171 := Tryd.isAgg107
  z171 := Tryd.sizeOf107
  v171 := Tryd.zeroValue107
  t173 := Tryd.underlying110
  a173 := Tryd.isAgg110
  z173 := Tryd.sizeOf110
  v173 := Tryd.zeroValue110
  t212 := Tryd.underlying126
  a212 := Tryd.isAgg126
  z212 := Tryd.sizeOf126
  v212 := Tryd.zeroValue126
  t213 := Tryd.underlying127
  a213 := Tryd.isAgg127
  z213 := Tryd.sizeOf127
  t232 := Tryd.underlying137
  a232 := Tryd.isAgg137
  z232 := Tryd.sizeOf137
  v232 := Tryd.zeroValue137
  t233 := Tryd.underlying138
  a233 := Tryd.isAgg138
  z233 := Tryd.sizeOf138
  v233 := Tryd.zeroValue138
  g17 := by kernel_rfl
  g18 := by kernel_rfl
  g19 := by kernel_rfl
  i0 := by kernel_rfl
  i2 := by kernel_rfl
  i3 := by kernel_rfl
  i4 := by kernel_rfl
  i5 := by kernel_rfl
  i9 := by kernel_rfl
  i20 := by kernel_rfl
  i37 := by kernel_rfl
  i46 := by kernel_rfl
  i51 := by kernel_rfl
  i53 := by kernel_rfl
  i171 := by kernel_rfl
  i173 := by kernel_rfl
  i212 := by kernel_rfl
  i232 := by kernel_rfl
  i233 := by kernel_rfl
  m17 := by kernel_rfl
  m18 := by kernel_rfl
  m19 := by kernel_rfl }
open Go.RowKit Go.Sort Go.Lib in
theorem sh_strconv_AppendInt_10 (B n : Nat) (i : Int) (h0 : -9223372036854775808 ≤ i) (h1 : i ≤ 9223372036854775807) (sv : Value) (xs : List Value) (w : World) (hown : w.ownsRow B 5 1 sv n xs) (hBw : B ≤ w.heap.size) (hlim : n + 21 ≤ 140737488355328) (htab : Lib.TabBelow Tryd.prog B w "internal/strconv.uint64pow10" .u64 Lib.pow10Tab) :
  Calls Tryd.prog 51 #[sv, .int .i64 i, .int .i64 10] w fun e w' => ∃ v', e = .returned v' ∧ w'.ownsRow B 5 1 v' (n + (Lib.itoa i).length) (xs ++ Lib.byteCells (Lib.itoa i)) ∧ Below B w w' ∧ Lib.OthersKept 5 none w w' := Any.strconv_AppendInt_10 sh_laysM176 B n i h0 h1 sv xs w hown hBw hlim htab
def sh_lays146_ren : Go.Shelf.Ren := ⟨fun | 146 => 37 | 221 => 45 | 268 => 53 | 138 => 54 | 143 => 55 | 195 => 60 | 197 => 61 | 218 => 62 | 219 => 59 | 260 => 70 | 217 => 66 | 225 => 67 | 224 => 68 | 267 => 69 | 266 => 80 | 314 => 81 | n => n, fun | 9 => 9 | 31 => 35 | 3 => 3 | 4 => 4 | 0 => 0 | 105 => 94 | 21 => 21 | 5 => 5 | 46 => 100 | 119 => 115 | 139 => 118 | 138 => 117 | 146 => 113 | 51 => 112 | n => n, fun | 1 => 0 | 3 => 1 | 4 => 2 | n => n⟩
theorem sh_lays146 : Go.Proofs.Lays.n146 Tryd.prog sh_lays146_ren := {
  mixed := by kernel_rfl
  f138 := Tryd.func54.trans (congrArg some (by kernel_rfl))
  f143 := Tryd.func55.trans (congrArg some (by kernel_rfl))
  f146 := Tryd.func37.trans (congrArg some (by kernel_rfl))
  f195 := Tryd.func60.trans (congrArg some (by kernel_rfl))
  f197 := Tryd.func61.trans (congrArg some (by kernel_rfl))
  f217 := Tryd.func66.trans (congrArg some (by kernel_rfl))
  f218 := Tryd.func62.trans (congrArg some (by kernel_rfl))
  f219 := Tryd.func59.trans (congrArg some (by kernel_rfl))
  f221 := Tryd.func45.trans (congrArg some (by kernel_rfl))
  f224 := Tryd.func68.trans (congrArg some (by kernel_rfl))
  f225 := Tryd.func67.trans (congrArg some (by kernel_rfl))
  f260 := Tryd.func70.trans (congrArg some (by kernel_rfl))
  f266 := Tryd.func80.trans (congrArg some (by kernel_rfl))
  f267 := Tryd.func69.trans (congrArg some (by kernel_rfl))
  f268 := Tryd.func53.trans (congrArg some (by kernel_rfl))
  f314 := Tryd.func81.trans (congrArg some (by kernel_rfl))
  t0 := Tryd.underlying0
  a0 := Tryd.isAgg0
  z0 := Tryd.sizeOf0
  v0 := Tryd.zeroValue0
  t3 := Tryd.underlying3
  a3 := Tryd.isAgg3
  z3 := Tryd.sizeOf3
  v3 := Tryd.zeroValue3
  t4 := Tryd.underlying4
  a4 := Tryd.isAgg4
  z4 := Tryd.sizeOf4
  v4 := Tryd.zeroValue4
  t5 := Tryd.underlying5
  a5 := Tryd.isAgg5
  z5 := Tryd.sizeOf5
  v5 := Tryd.zeroValue5
  t9 := Tryd.underlying9
  a9 := Tryd.isAgg9
  z9 := Tryd.sizeOf9
  v9 := Tryd.zeroValue9
  t21 := Tryd.underlying21
  a21 := Tryd.isAgg21
  z21 := Tryd.sizeOf21
  v21 := Tryd.zeroValue21
  t31 := Tryd.underlying35
  a31 := Tryd.isAgg35
  z31 := Tryd.sizeOf35
  v31 := Tryd.zeroValue35
  t46 := Tryd.underlying100
  a46 := Tryd.isAgg100
  z46 := Tryd.sizeOf100
  v46 := Tryd.zeroValue100
  t51 := Tryd.underlying112
  a51 := Tryd.isAgg112
  z51 := Tryd.sizeOf112
  v51 := Tryd.zeroValue112
  t105 := Tryd.underlying94
  a105 := Tryd.isAgg94
  z105 := Tryd.sizeOf94
  v105 := Tryd.zeroValue94
  t119 := Tryd.underlying115
  a119 := Tryd.isAgg115
  z119 := Tryd.sizeOf115
  t138 := Tryd.underlying117
  a138 := Tryd.isAgg117
  z138 := Tryd.sizeOf117
  v138 := Tryd.zeroValue117
  t139 := Tryd.underlying118
  a139 := Tryd.isAgg118
  z139 := Tryd.sizeOf118
  v139 := Tryd.zeroValue118
  t146 := Tryd.underlying113
  a146 := Tryd.isAgg113
  z146 := Tryd.sizeOf113
  v146 := Tryd.zeroValue113
  g1 := by kernel_rfl
  g3 := by kernel_rfl
  g4 := by kernel_rfl }
open Go.RowKit Go.Lib in
theorem sh_strings_Split (s sep : ByteArray) (m : Int) (w : World) (hs : s.size < 4294967281) (hm : w.cell? ⟨0, 0, none⟩ = some (.int .i64 m)) (h1 : 1 ≤ sep.size) :
  Calls Tryd.prog 37 #[.string s, .string sep] w fun e w' =>
   e = .returned (.slice (some ⟨w.heap.size, 0, none⟩) (Lib.countB s sep + 1) (Lib.countB s sep + 1)) ∧ w' = w.alloc (.cells ((Lib.splitB sep 0 (Lib.countB s sep) s).map Value.string).toArray 9) := Any.strings_Split sh_lays146 (by kernel_rfl) s sep m w hs hm h1
end Go.Proofs.YtejpkjapmhpmpaaDoor

/- The reader of words: a certain word; digits. No condition. -/
set_option maxRecDepth 4000
set_option linter.unusedSimpArgs false
set_option linter.unusedVariables false
namespace Go.Proofs.YtejpkjapmhpmpaaDoor
open Go Go.RowKit Go.Proofs.YtejpkjapmhpmpaaDoor.K Go.Proofs.YtejpkjapmhpmpaaDoor.M

theorem Word_C {R : Ro} {b : Nat} {a : Option Addr} {cp : Nat} {ws : List (List UInt8)} {k at' size : Nat} (w0 : World) (hws : RS R 1 encT a ws) (hsz : size ≤ 1000000) {want : List UInt8} (hat : k < ws.length → at' + (nth ws k).length ≤ 2000000) : FnXAt Tryd.prog 49 [.pointer (some ⟨b, 0, none⟩), .string (str want)] w0 R (rdE b a cp ws k at' size) (fun v R' e' N => v = .tuple #[] ∧ k < ws.length ∧ nth ws k = want ∧ R = R' ∧ e' = (rdE b a cp ws (k + 1) (at' + (nth ws k).length + 1) size) ∧ N = []) (fun v R' e' => v = failV (wordE ws want k at' size).1 (wordE ws want k at' size).2 ∧ (wordE ws want k at' size).2 ≠ 0 ∧ R = R' ∧ e' = (rdE b a cp ws k at' size)) := by
 intro F
 have hwl := hws.len
 refine FnX.enter (n := 16) Tryd.func49 rfl rfl (Nat.le_of_ble_eq_true rfl) rfl ?_
 refine zQ (zQ (zG (zR 1 rfl ?_)))
 refine WL.callXAt 0 en46 rfl rfl qD (CallOp.mkT rfl rfl rfl rfl) rfl (Need_C w0 hws hsz _) ?_ ?_
 ·
  rintro _ _ _ - ⟨rfl, hk, rfl, rfl⟩
  refine WE.then_panic ?_
  refine WE.then_panic ?_
  refine WE.panicX (RLe.refl _) ?_
  have hE : wordE ws want k at' size = (size, 4) := by unfold wordE; rw [if_neg hk]
  exact ⟨_, rfl, by rw [hE], by rw [hE]; show (4 : Int) ≠ 0; decide, rfl, rfl⟩
 rintro _ _ _ _ - ⟨rfl, hk, rfl, rfl, rfl⟩
 refine zR 1 rfl ?_
 refine WG.y rfl rfl qD (Yl.neS rfl rfl rfl (fun _ => rfl)) ?_
 refine zN (zU ?_)
 refine W.cond rfl (fun hc0 => ?_) (fun hc0 => ?_)
 ·try simp only [zk] at hc0
  have hne : nth ws k ≠ want := fun h => by rw [h] at hc0; simp at hc0
  have hE : wordE ws want k at' size = (at', 4) := by unfold wordE; rw [if_pos hk, if_neg hne]
  refine zG (zR 3 rfl ?_)
  refine' WG.y rfl rfl qD (Yl.load1 tab_ok rfl rfl rfl (fun _ => rfl) ?r1 rfl ?h1) ?_
  case r1 => apply Rd.add; (first | exact Rd.blk 0 rfl | exact Rd.blk 1 rfl | (apply RS.rdD; assumption; ((try dsimp only) <;> omega)) | exact Rd.slD 0 rfl qX | exact Rd.slD 1 rfl qX)
  case h1 => rfl
  -- build
  refine WG.y rfl rfl qD (Yl.build (parts := [(0, .tmp 11), (1, .const (.int .i64 4))]) tab_ok rfl rfl rfl rfl (fun _ => rfl) rfl rfl) ?_
  refine WG.y rfl rfl qD (Yl.toIface tab_ok rfl rfl rfl rfl (fun _ => rfl)) ?_
  refine WL.panic rfl rfl rfl ?_
  refine WE.then_panic ?_
  refine WE.panicX (RLe.refl _) ?_
  exact ⟨_, rfl, by rw [hE]; rfl, by rw [hE]; show (4 : Int) ≠ 0; decide, rfl, rfl⟩
 ·try simp only [zk] at hc0
  have hew : nth ws k = want := str_inj (by simpa using hc0)
  refine zK (zU (zG (zR 1 rfl ?_)))
  refine WL.callAt 0 en47 rfl rfl qD (CallOp.mkT rfl rfl rfl rfl) rfl (Skip_C w0 hws hsz hk (hat hk) _) ?_
  rintro _ _ _ _ - ⟨rfl, rfl, rfl, rfl⟩
  refine zN ?_
  refine WE.endX tab_ok [] rfl trivial (RLe.refl _) ?_
  exact ⟨_, [], rfl, rfl, hk, hew, rfl, rfl, rfl⟩

theorem Digs_V {R : Ro} {w : List UInt8} (hw : w.length ≤ 1000000) : FnV Tryd.prog 56 [.string (str w)] R (.bool (digs w)) := by
 refine Fn.toV (fun w0 E => ?_)
 have hss := str_size w
 have hse : str w = ⟨#[]⟩ ↔ w = [] := ⟨fun h => str_inj (b := []) h, fun h => by rw [h]; rfl⟩
 have h0l : w ≠ [] → 0 < w.length := List.length_pos_iff.2
 refine fE 32 Tryd.func56 ?_
 refine zQ (zG (zR 1 rfl (zN (zU (zQ (zQ (zG (zR 1 rfl ?_))))))))
 refine WG.y rfl rfl qD (Yl.eqS rfl rfl rfl (fun _ => rfl)) ?_
 refine zR 1 rfl ?_
 refine yP ?_
 refine yP ?_
 refine yP ?_
 refine yP ?_
 refine yP ?_
 refine WG.y rfl rfl (by decide) (Yl.sidx tab_ok rfl rfl rfl rfl rfl qE (by intro hg; (try simp only [zk] at hg); (have h1 := hg.2; constructor <;> omega))) ?_
 refine yP ?_
 refine yN ?_
 refine yO ?_
 refine zN (zU ?_)
 refine W.cond rfl (fun hc0 => ?_) (fun hc0 => ?_)
 ·try simp only [zk] at hc0
  have hno : digs w = false := by
   unfold digs
   rw [decide_eq_false_iff_not]
   rintro ⟨h1, h2, _⟩
   rcases hc0 with h | h
   ·exact h1 (hse.1 h)
   ·exact h2 ⟨by omega, h.2⟩
  refine zQ (zG (zR 1 rfl (zN (zU (zT (wt ?_))))))
  refine sE (E := E) ?_
  refine WE.retF tab_ok [_] rfl ⟨rfl, trivial⟩ (RLe.refl _) ?_
  exact ⟨by rw [hno]; rfl, rfl⟩
 ·try simp only [zk] at hc0
  have hy1 : w ≠ [] := fun h => by rw [h] at hc0; simp [str] at hc0
  have hy2 : ¬ (1 < w.length ∧ byteAt w 0 = 48) := fun h => by
   obtain ⟨h1, h2⟩ := hc0
   first | exact h2 qO h.2 | (have := h2 qO; omega) | (rcases h2 with h2 | h2; omega; exact h2 h.2)
  refine zK (zU (zQ (zQ (zG (zR 1 rfl (zN (zU (zB ?_))))))))
  refine W.loopK (β := Nat) (fun i => i ≤ w.length ∧ ∀ j, j < i → 48 ≤ byteAt w j ∧ byteAt w j ≤ 57) (fun i => [(3, true, .int .i64 (i : Int))]) [0] [_] [] _ rfl (fun i => []) (fun i => w.length - i) (0) (⟨Nat.zero_le _, fun j hj => by omega⟩) ⟨rfl, rfl, rfl⟩ qS ?_
  intro i hst
  dsimp only [zipE, setAll, List.cons_append, List.nil_append, List.set_cons_zero, List.set_cons_succ] at hst ⊢
  
  refine zQ (zQ (zG (zR 4 rfl (zN (zU ?_)))))
  refine W.condD rfl (fun hc1 => ?_) (fun hc1 => ?_)
  ·try dsimp only at hc1
   have hil : i < w.length := by omega
   have hbt : byteAt w ((i : Int)).toNat = byteAt w i := rfl
   refine zK (zU (zQ (zB (zQ (zG (zR 2 rfl ?_))))))
   refine WG.y rfl rfl qD (Yl.sidx tab_ok rfl rfl rfl rfl rfl (fun _ => rfl) qA) ?_
   refine zR 2 rfl ?_
   refine yP ?_
   refine yP ?_
   refine WG.y rfl rfl (by decide) (Yl.sidx tab_ok rfl rfl rfl rfl rfl qE (by intro hg; (try simp only [zk] at hg); constructor <;> (try dsimp only) <;> omega)) ?_
   refine yP ?_
   refine yO ?_
   refine zN (zU ?_)
   refine W.cond rfl (fun hc2 => ?_) (fun hc2 => ?_)
   ·try simp only [zk] at hc2
    have hno : digs w = false := by
     unfold digs
     rw [decide_eq_false_iff_not]
     rintro ⟨_, _, h3⟩
     have := h3 i hil
     rw [hbt] at hc2
     omega
    refine zQ (zG (zR 1 rfl (zN (zU (zT (wb (wt (wt (wb (wt ?_))))))))))
    refine sE (E := E) ?_
    refine WE.retF tab_ok [_] rfl ⟨rfl, trivial⟩ (RLe.refl _) ?_
    exact ⟨by rw [hno]; rfl, rfl⟩
   ·try simp only [zk] at hc2
    rw [hbt] at hc2
    have hy : 48 ≤ byteAt w i ∧ byteAt w i ≤ 57 := by omega
    refine zK (zL (zU (zG (zR 1 rfl ?_))))
    refine yA ?_
    refine zR 1 rfl (zN ?_)
    refine WE.again (i + 1) (⟨by omega, fun j hj => by
     by_cases e : j = i
     ·subst e; exact hy
     ·exact hst.2 j (by omega)⟩) (by (try dsimp only); omega) ⟨rfl, rfl, rfl⟩ (RLe.refl _) qS
  ·try dsimp only at hc1
   obtain rfl : i = w.length := by omega
   refine zX ?_
   refine wx (wx (zY (zU (zQ (zG (zR 1 rfl (zN (zU (zT ?_)))))))))
   refine sE (E := E) ?_
   refine WE.retF tab_ok [_] rfl ⟨rfl, trivial⟩ (RLe.refl _) ?_
   exact ⟨by rw [show digs w = true from decide_eq_true ⟨hy1, hy2, hst.2⟩]; rfl, rfl⟩



theorem nilI90 : Tryd.prog.underlying 90 = some (.interface (Tryd.prog.methodsAt 90)) := by kernel_rfl
structure GlobE (R : Ro) : Prop where
 m : ∃ (m : Int) (rest : List Value), R 0 = some (.int .i64 m :: rest)
 pow : R 5 = some (Lib.pow10Tab.map fun z => Value.int .u64 z)
 es : ∃ (t : TypeId) (p : Value), R 3 = some [.iface t p]
 er : ∃ (t : TypeId) (p : Value), R 4 = some [.iface t p]
theorem GlobE.mono {R R' : Ro} (h : GlobE R) (hR : RLe R R') : GlobE R' := ⟨by obtain ⟨m, r, h⟩ := h.m; exact ⟨m, r, hR _ _ h⟩, hR _ _ h.pow, by obtain ⟨t, p, h⟩ := h.es; exact ⟨t, p, hR _ _ h⟩, by obtain ⟨t, p, h⟩ := h.er; exact ⟨t, p, hR _ _ h⟩⟩
theorem AtoiA_C {R : Ro} (hE : GlobE R) {s : List UInt8} (hs : s.length ≤ 4000000000) (w0 : World) (E : List Ent) : K.Fn Tryd.prog 57 [.string (str s)] w0 R E (fun v R' E' => ∃ (n : Int) (t : TypeId) (p : Value), (atBad s = false → Lib.atoiAll s = .ok n ∧ n = atNum s) ∧ InR n ∧ v = .tuple #[.int .i64 n, errV (atBad s) t p] ∧ R = R' ∧ E = E') := by
 intro w hm
 have hsz := str_size s
 have hli := str_list s
 obtain ⟨t1, p1, h1⟩ := hE.es
 obtain ⟨t2, p2, h2⟩ := hE.er
 rcases h : Lib.atoiAll s with v | _ | _
 ·refine (sh_strconv_Atoi_ok (str s) (by omega) v (by rw [hli]; exact h) w).mono ?_
  obtain ⟨e1, e2⟩ := atBad_ok h
  rintro e w' ⟨rfl, hw⟩
  refine ⟨_, R, E, rfl, RLe.refl _, hm.belowAll ?_, v, 0, .nilIface, fun _ => ⟨rfl, e2.symm⟩, Lib.atoiAll_bounds h, by rw [e1]; rfl, rfl, rfl⟩
  rcases hw with rfl | ⟨t, rfl⟩
  ·exact Below.refl _ _
  ·exact Lib.bytesWorld_below w _ t
 ·refine (sh_strconv_Atoi_syntax (str s) (by omega) (by rw [hli]; exact h) _ w (hm.cell h1) (.inr ⟨_, _, rfl⟩)).mono ?_
  have e1 : atBad s = true := by unfold atBad; rw [h]
  rintro e w' ⟨N, rfl, _, _, hb⟩
  exact ⟨_, R, E, rfl, RLe.refl _, hm.belowAll hb, 0, _, _, fun hh => absurd (e1.symm.trans hh) (by decide), by constructor <;> decide, by rw [e1]; rfl, rfl, rfl⟩
 ·refine (sh_strconv_Atoi_range (str s) (by omega) (by rw [hli]; exact h) _ w (hm.cell h2) (.inr ⟨_, _, rfl⟩)).mono ?_
  have e1 : atBad s = true := by unfold atBad; rw [h]
  rintro e w' ⟨N, rfl, _, _, hb⟩
  exact ⟨_, R, E, rfl, RLe.refl _, hm.belowAll hb, Lib.atoiSat (str s).data.toList, _, _, fun hh => absurd (e1.symm.trans hh) (by decide), by unfold Lib.atoiSat; split <;> constructor <;> decide, by rw [e1]; rfl, rfl, rfl⟩

theorem Number_C {R : Ro} {b : Nat} {a : Option Addr} {cp : Nat} {ws : List (List UInt8)} {k at' size : Nat} (w0 : World) (hws : RS R 1 encT a ws) (hsz : size ≤ 1000000) (hG : GlobE R) (hlw : ∀ w ∈ ws, w.length ≤ 1000000) (hat : k < ws.length → at' + (nth ws k).length ≤ 2000000) : FnXAt Tryd.prog 48 [.pointer (some ⟨b, 0, none⟩)] w0 R (rdE b a cp ws k at' size) (fun v R' e' N => v = .int .i64 (numV (nth ws k) : Int) ∧ k < ws.length ∧ numE ws k at' size = (0, 0) ∧ R = R' ∧ e' = (rdE b a cp ws (k + 1) (at' + (nth ws k).length + 1) size) ∧ N = []) (fun v R' e' => v = failV (numE ws k at' size).1 (numE ws k at' size).2 ∧ (numE ws k at' size).2 ≠ 0 ∧ R = R' ∧ e' = (rdE b a cp ws k at' size)) := by
 intro F
 have hwl := hws.len
 refine FnX.enter (n := 37) Tryd.func48 rfl rfl (Nat.le_of_ble_eq_true rfl) rfl ?_
 refine zQ (zG (zR 1 rfl (zN (zU (zQ (zG (zR 1 rfl ?_)))))))
 refine WL.callXAt 0 en46 rfl rfl qD (CallOp.mkT rfl rfl rfl rfl) rfl (Need_C w0 hws hsz _) ?_ ?_
 ·
  rintro _ _ _ - ⟨rfl, hk, rfl, rfl⟩
  refine WE.then_panic ?_
  refine WE.panicX (RLe.refl _) ?_
  have hE : numE ws k at' size = (size, 4) := by unfold numE; rw [if_neg hk]
  exact ⟨_, rfl, by rw [hE], by rw [hE]; show (4 : Int) ≠ 0; decide, rfl, rfl⟩
 rintro _ _ _ _ - ⟨rfl, hk, rfl, rfl, rfl⟩
 refine zR 1 rfl (zN (zU (zQ (zQ (zG (zR 1 rfl ?_))))))
 refine WG.callV en56 rfl rfl qD (CallOp.mk' rfl rfl rfl rfl) (fun _ => rfl) (fun hg => Digs_V (hlw _ (nth_mem hk))) ?_
 refine zR 1 rfl (zN (zU ?_))
 refine W.cond rfl (fun hc0 => ?_) (fun hc0 => ?_)
 ·try simp only [zk] at hc0
  have hE : numE ws k at' size = (at', 4) := by unfold numE; rw [if_pos hk, if_neg (by rw [hc0]; decide)]
  refine zG (zR 3 rfl ?_)
  refine' WG.y rfl rfl qD (Yl.load1 tab_ok rfl rfl rfl (fun _ => rfl) ?r1 rfl ?h1) ?_
  case r1 => apply Rd.add; (first | exact Rd.blk 0 rfl | exact Rd.blk 1 rfl | exact Rd.blk 2 rfl | (apply RS.rdD; assumption; ((try dsimp only) <;> omega)) | exact Rd.slD 0 rfl qX | exact Rd.slD 1 rfl qX | exact Rd.slD 2 rfl qX)
  case h1 => rfl
  -- build
  refine WG.y rfl rfl qD (Yl.build (parts := [(0, .tmp 14), (1, .const (.int .i64 4))]) tab_ok rfl rfl rfl rfl (fun _ => rfl) rfl rfl) ?_
  refine WG.y rfl rfl qD (Yl.toIface tab_ok rfl rfl rfl rfl (fun _ => rfl)) ?_
  refine WL.panic rfl rfl rfl ?_
  refine WE.then_panic ?_
  refine WE.panicX (RLe.refl _) ?_
  exact ⟨_, rfl, by rw [hE]; rfl, by rw [hE]; show (4 : Int) ≠ 0; decide, rfl, rfl⟩
 ·try simp only [zk] at hc0
  refine zK (zU (zQ (zG (zR 1 rfl ?_))))
  refine WL.call en57 rfl rfl qD (CallOp.mkT rfl rfl rfl rfl) (AtoiA_C hG (s := nth ws k) (by have := hlw _ (nth_mem hk); omega) w0 _) ?_
  rintro _ _ _ - ⟨n, t, p, hn, hr, rfl, rfl, rfl⟩
  obtain ⟨hd1, hd2⟩ := digs_num hc0
  refine zR 5 rfl (zN (zU (zQ (zQ (zG (zR 1 rfl ?_))))))
  refine WG.y rfl rfl qD (Yl.neNilI nilI90 rfl rfl rfl (fun _ => rfl) (errV_cases _ _ _)) ?_
  refine zR 1 rfl ?_
  refine yP ?_
  refine yP ?_
  refine yO ?_
  refine zN (zU ?_)
  refine W.cond rfl (fun hc1 => ?_) (fun hc1 => ?_)
  ·try simp only [zk] at hc1
   have hE : numE ws k at' size = (at', 2) := by
    unfold numE
    rw [if_pos hk, if_pos hc0, if_pos]
    cases hb : atBad (nth ws k) with
    | true => exact hd2 hb
    | false => have e1 := hd1 hb; have e2 := (hn hb).2; rw [hb] at hc1; simp at hc1; omega
   refine zG (zR 3 rfl ?_)
   refine' WG.y rfl rfl qD (Yl.load1 tab_ok rfl rfl rfl (fun _ => rfl) ?r2 rfl ?h2) ?_
   case r2 => apply Rd.add; (first | exact Rd.blk 0 rfl | exact Rd.blk 1 rfl | exact Rd.blk 2 rfl | (apply RS.rdD; assumption; ((try dsimp only) <;> omega)) | exact Rd.slD 0 rfl qX | exact Rd.slD 1 rfl qX | exact Rd.slD 2 rfl qX)
   case h2 => rfl
   -- build
   refine WG.y rfl rfl qD (Yl.build (parts := [(0, .tmp 31), (1, .const (.int .i64 2))]) tab_ok rfl rfl rfl rfl (fun _ => rfl) rfl rfl) ?_
   refine WG.y rfl rfl qD (Yl.toIface tab_ok rfl rfl rfl rfl (fun _ => rfl)) ?_
   refine WL.panic rfl rfl rfl ?_
   refine WE.then_panic ?_
   refine WE.panicX (RLe.refl _) ?_
   exact ⟨_, rfl, by rw [hE]; rfl, by rw [hE]; show (2 : Int) ≠ 0; decide, rfl, rfl⟩
  ·try simp only [zk] at hc1
   have e1 := hd1 hc1.1
   have e2 := (hn hc1.1).2
   have hE : numE ws k at' size = (0, 0) := by unfold numE; rw [if_pos hk, if_pos hc0, if_neg (by omega)]
   have hnv : n = (numV (nth ws k) : Int) := by omega
   refine zK (zU (zQ (zG (zR 1 rfl ?_))))
   refine WL.callAt 0 en47 rfl rfl qD (CallOp.mkT rfl rfl rfl rfl) rfl (Skip_C w0 hws hsz hk (hat hk) _) ?_
   rintro _ _ _ _ - ⟨rfl, rfl, rfl, rfl⟩
   refine zN (zU (zQ (zG (zR 2 rfl (zN (zU (zT ?_)))))))
   refine WE.retX tab_ok [_] rfl ⟨rfl, trivial⟩ (RLe.refl _) ?_
   exact ⟨_, [], rfl, by rw [hnv]; rfl, hk, hE, rfl, rfl, rfl⟩



theorem tab_below {w0 w : World} {R : Ro} {E : List Ent} (h : Mem w0 w R E) (hb : RBelow w0 R) {b : Nat} {name : String} {k : IntKind} {zs : List Int} (hg : Tryd.prog.globalNamed name = some b) (hr : R b = some (zs.map fun z => Value.int k z)) : Lib.TabBelow Tryd.prog w0.heap.size w name k zs := by
 intro w' hw
 obtain ⟨T, fz, h1⟩ := h.ro b _ hr
 have h2 := hw.block b (hb _ _ hr)
 rw [h1] at h2
 unfold Lib.TabIs World.var?
 simp [hg, h2]
theorem AppInt_C {R : Ro} {a : Option Addr} {cap : Nat} {l : List UInt8} {i : Int} (hG : GlobE R) (w0 : World) (hb : RBelow w0 R) (hi : InR i) (hl : l.length ≤ 1000000) :
  K.Fn Tryd.prog 51 [.slice a l.length cap, .int .i64 i, .int .i64 10] w0 R [.sl 5 1 a cap ((l).map encY)] (fun r R' E' => ∃ (a' : Option Addr) (cap' : Nat), r = .slice a' (l ++ Lib.itoa i).length cap' ∧ R = R' ∧ E' = [.sl 5 1 a' cap' ((l ++ Lib.itoa i).map encY)]) := by
 intro w hm
 obtain ⟨_, _, h2⟩ := hm.own _ (List.mem_singleton.2 rfl)
 rw [List.length_map, encY_flat] at h2
 refine (sh_strconv_AppendInt_10 w0.heap.size l.length i hi.1 hi.2 _ _ w h2 hm.below.size qO (tab_below hm hb qK hG.pow)).mono ?_
 rintro e w' ⟨v', rfl, ho, hbl, _⟩
 have hll : (l ++ Lib.itoa i).length = l.length + (Lib.itoa i).length := List.length_append
 have hcells : (l.map fun c => Value.int .u8 c.toNat) ++ Lib.byteCells (Lib.itoa i) = ((l ++ Lib.itoa i).map encY).flatten := by
  rw [encY_flat, List.map_append]; rfl
 rw [hcells, ← hll] at ho
 have hmem : ∀ (a' : Option Addr) (cap' : Nat), v' = .slice a' (l ++ Lib.itoa i).length cap' → (∀ x, a' = some x → w0.heap.size ≤ x.block) → Mem w0 w' R [.sl 5 1 a' cap' ((l ++ Lib.itoa i).map encY)] := fun a' cap' hv hge => by
  refine ⟨hm.below.trans hbl, fun b cs hr => ?_, fun e he => ?_, fun e he b hbk => ?_, List.pairwise_singleton _ _⟩
  ·obtain ⟨T, fz, h1⟩ := hm.ro b cs hr
   exact ⟨T, fz, by rw [hbl.block b (hb _ _ hr)]; exact h1⟩
  ·obtain rfl := List.mem_singleton.1 he
   refine ⟨fun r hr => by obtain ⟨c, _, rfl⟩ := List.mem_map.1 hr; rfl, Nat.one_pos, ?_⟩
   rw [List.length_map, ← hv]
   exact ho
  ·obtain rfl := List.mem_singleton.1 he
   cases a' with
   | none => cases hbk
   | some x =>
    have hx := hge x rfl
    have : x.block = b := by simpa [Ent.block] using hbk
    cases hr : R b with
    | none => rfl
    | some cs => have := hb _ _ hr; omega
 have ho2 := ho.2
 rcases ho2 with ⟨rfl, hn⟩ | ⟨g, c2, cur, rfl, hg, _⟩
 ·refine ⟨_, R, _, rfl, RLe.refl _, hmem none 0 (by rw [hn]) (fun x h => by cases h), none, 0, by rw [hn], rfl, rfl⟩
 ·refine ⟨_, R, _, rfl, RLe.refl _, hmem (some ⟨g, 0, none⟩) c2 rfl (fun x h => by cases h; exact hg), some ⟨g, 0, none⟩, c2, rfl, rfl, rfl⟩

theorem Num03_C {R : Ro} {a : Option Addr} {cap : Nat} {l : List UInt8} {v : Int} (hG : GlobE R) (w0 : World) (hb : RBelow w0 R) (hv : InR v) (hl : l.length ≤ 1000000) : K.Fn Tryd.prog 40 [.slice a l.length cap, .int .i64 v] w0 R [.sl 5 1 a cap ((l).map encY)] (fun r R' E' => ∃ (a' : Option Addr) (cap' : Nat), r = .slice a' (l ++ wordV v).length cap' ∧ R = R' ∧ E' = [.sl 5 1 a' cap' ((l ++ wordV v).map encY)]) := by
 refine fE 12 Tryd.func40 ?_
 refine zQ (zG (zR 1 rfl (zN (zU (zQ (zQ (zG (zR 2 rfl (zN (zU ?_))))))))))
 refine W.condE rfl (fun hc0 => ?_) (fun hc0 => ?_)
 ·try dsimp only at hc0
  have e : wordV v = wInf := if_pos hc0
  refine zQ (zG (zR 1 rfl ?_))
  refine WL.ef rfl rfl qD (Ef.appendStr (l := wInf) 0 tab_ok rfl rfl rfl rfl rfl rfl qK rfl rfl rfl rfl rfl rfl (by show _ + 3 ≤ _; omega) (fun a8 c8 => ?_))
  refine zR 1 rfl (zN (zU (zT (wt ?_))))
  refine WE.retF tab_ok [_] rfl ⟨rfl, trivial⟩ (RLe.refl _) ?_
  exact ⟨a8, c8, by rw [e] <;> rfl, rfl, by rw [e] <;> rfl⟩
 ·try dsimp only at hc0
  have e : wordV v = Lib.itoa v := if_neg hc0
  refine zK (zU (zQ (zG (zR 2 rfl ?_))))
  refine WL.call en51 rfl rfl qD (CallOp.mkT rfl rfl rfl rfl) (AppInt_C hG w0 hb hv hl) ?_
  rintro _ _ _ - ⟨a8, c8, rfl, rfl, rfl⟩
  refine zR 1 rfl (zN (zU (zT ?_)))
  refine WE.retF tab_ok [_] rfl ⟨rfl, trivial⟩ (RLe.refl _) ?_
  exact ⟨a8, c8, by rw [e] <;> rfl, rfl, by rw [e] <;> rfl⟩



theorem fmtVals_snoc : ∀ (xs : List Int) (v : Int), fmtVals (xs ++ [v]) = (fmtVals xs ++ wordV v) ++ [32]
 | [], v => by simp [fmtVals]
 | x :: xs, v => by rw [List.cons_append, fmtVals, fmtVals, fmtVals_snoc xs v]; simp
theorem wordV_len {v : Int} (h : v = INF ∨ (0 ≤ v ∧ v ≤ 1073741824)) : (wordV v).length ≤ 11 := by
 unfold wordV
 split
 ·decide
 ·rename_i e; have := h.resolve_left e; exact itoa_len (by omega)
theorem fmtVals_len : ∀ (xs : List Int), (∀ v ∈ xs, v = INF ∨ (0 ≤ v ∧ v ≤ 1073741824)) → (fmtVals xs).length ≤ 12 * xs.length
 | [], _ => Nat.le_refl 0
 | x :: xs, h => by
  have h1 := wordV_len (h x (by simp))
  have h2 := fmtVals_len xs (fun v hv => h v (by simp [hv]))
  rw [fmtVals, List.length_append, List.length_cons, List.length_cons]
  omega
theorem valid_vals {c : Cv} (hv : validB c = true) : ∀ v ∈ c.vals, v = INF ∨ (0 ≤ v ∧ v ≤ 1073741824) := fun v hv' => by
 obtain ⟨i, hi, rfl⟩ := List.getElem_of_mem hv'
 have := valid_each hv i hi
 rw [nth_eq hi] at this
 exact this
theorem fmtC_len {c : Cv} (hv : validB c = true) : 0 < (fmtC c).length ∧ (fmtC c).length ≤ 5000 := by
 obtain ⟨_, _, h3, h4, h5, h6, h7, h8⟩ := valid_range hv
 have h1 := fmtVals_len _ (valid_vals hv)
 have h2 := itoa_len (n := c.per) (by omega)
 have h9 := itoa_len (n := c.inc) (by omega)
 unfold fmtC
 simp only [List.length_append, List.length_cons, show wPer.length = 3 from rfl, show wInc.length = 3 from rfl]
 omega

set_option maxHeartbeats 1000000 in
theorem Fmt03_V {R : Ro} {fa : Option Addr} {fc : Nat} {c : Cv} (hG : GlobE R) (ha : RS R 1 encI fa c.vals) (hl : c.vals.length ≤ 100000) : FnV Tryd.prog 16 [.agg #[.slice fa c.vals.length fc, .int .i64 c.per, .int .i64 c.inc]] R (.tuple #[.string (str (formatR c).1), .int .i64 (formatR c).2]) := by
 refine FnV.ofOwn (fun w0 hb => ?_)
 refine fE 38 Tryd.func16 ?_
 refine zQ (zG ?_)
 refine zO fun b1 => ?_
 refine zR 2 rfl (zN (zU (zQ (zQ (zG ?_)))))
 refine' WG.y rfl rfl qD (Yl.load1 tab_ok rfl rfl rfl (fun _ => rfl) ?r1 rfl ?h1) ?_
 case r1 => (first | exact Rd.ro qU | exact Rd.blk 0 rfl | exact Rd.blk 1 rfl | exact Rd.blk 2 rfl)
 case h1 => rfl
 refine WG.callV en39 rfl rfl qD (CallOp.mk' rfl rfl rfl rfl) (fun _ => rfl) (fun hg => CValidG_V ha hl) ?_
 refine zR 1 rfl (zN (zU ?_))
 refine W.cond rfl (fun hc0 => ?_) (fun hc0 => ?_)
 ·try simp only [zk] at hc0
  have hf : formatR c = ([], 1) := if_pos (by simpa using hc0)
  refine zQ (zG (zR 2 rfl (zN (zU (zT (wt ?_))))))
  refine WE.retF tab_ok [_, _] rfl ⟨rfl, rfl, trivial⟩ (by first | exact RLe.refl _ | exact hR1) ?_
  rw [hf]; rfl
 ·try simp only [zk] at hc0
  have hv : validB c = true := by simpa using hc0
  refine zK (zU ?_)
  refine W.freezeBlk 0 rfl ?_
  intro R1 hR1 hb1
  refine W.rebase (fun w1 hm1 hb2 => ?_)
  refine W.nil 5 1 qD ?_
  have hG := hG.mono hR1
  have ha := ha.mono hR1
  have hvrg := valid_range hv
  have hfcl := fmtC_len hv
  refine zQ (zG (zR 1 rfl (zN (zU (zQ (zQ (zG (zR 1 rfl ?_))))))))
  refine' WG.y rfl rfl qD (Yl.load1 tab_ok rfl rfl rfl (fun _ => rfl) ?r2 rfl ?h2) ?_
  case r2 => apply Rd.add; (first | exact Rd.ro qU | exact Rd.blk 0 rfl | exact Rd.blk 1 rfl | exact Rd.blk 2 rfl)
  case h2 => rfl
  refine zR 2 rfl (zN (zU (zB ?_)))
  refine W.loopK (β := Nat × Option Addr × Nat) (fun (j, a, cp) => j ≤ c.vals.length) (fun (j, a, cp) => [(4, true, .slice a (fmtVals (c.vals.take j)).length cp), (13, true, .int .i64 (j : Int))]) [1, 11, 12] [_, _, _] [] _ rfl (fun (j, a, cp) => [(0, .sl 5 1 a cp ((fmtVals (c.vals.take j)).map encY))]) (fun (j, a, cp) => c.vals.length - j) ((0, none, 0)) (Nat.zero_le _) ⟨rfl, rfl, rfl, rfl, rfl, rfl⟩ qS ?_
  intro zz hst
  obtain ⟨j, a, cp⟩ := zz
  dsimp only [zipE, setAll, List.cons_append, List.nil_append, List.set_cons_zero, List.set_cons_succ] at hst ⊢
  
  refine zQ (zG (zR 1 rfl (zN (zU (zQ ?_)))))
  refine W.condD rfl (fun hc1 => ?_) (fun hc1 => ?_)
  ·try dsimp only at hc1
   have hjl : j < c.vals.length := by omega
   have hwl := wordV_len (valid_vals hv _ (nth_mem hjl))
   have hfl := fmtVals_len (c.vals.take j) (fun v h => valid_vals hv v (List.mem_of_mem_take h))
   rw [List.length_take] at hfl
   have hvr : InR (nth c.vals j) := by
    have := hvrg.1 _ (nth_mem hjl)
    constructor <;> omega
   have hsn : fmtVals (c.vals.take (j + 1)) = (fmtVals (c.vals.take j) ++ wordV (nth c.vals j)) ++ [32] := by
    rw [← fmtVals_snoc, nth_eq hjl, List.take_succ_eq_append_getElem hjl]
   refine zK (zU (zQ (zB (zQ (zG ?_)))))
   refine WG.y rfl rfl qD (Yl.indexN tab_ok rfl rfl rfl rfl rfl rfl (fun _ => rfl) qN qH) ?_
   refine' WG.y rfl rfl qD (Yl.load1 tab_ok rfl rfl rfl (fun _ => rfl) ?r3 rfl ?h3) ?_
   case r3 => (first | (apply RS.rdD; assumption; ((try dsimp only) <;> omega)) | exact Rd.slD 0 rfl qX | exact Rd.slD 1 rfl qX | exact Rd.slD 2 rfl qX)
   case h3 => rfl
   refine zR 1 rfl (zN (zU (zG (zR 2 rfl ?_))))
   refine WL.call en40 rfl rfl qD (CallOp.mkT rfl rfl rfl rfl) (Num03_C hG w1 hb2 hvr qO) ?_
   rintro _ _ _ - ⟨a8, c8, rfl, rfl, rfl⟩
   refine WL.ef rfl rfl qD (Ef.buildSliceD (enc := encY) (parts := [.const (.int .u8 32)]) [(32 : UInt8)] tab_ok rfl rfl rfl rfl rfl rfl rfl rfl qD qD (fun a20 => ?_))
   refine WL.ef rfl rfl (by decide) (Ef.appendD (enc := encY) 1 0 tab_ok rfl rfl rfl rfl rfl rfl rfl rfl rfl rfl rfl (fun _ _ => rfl) (by simp only [List.length_append, List.length_cons, List.length_nil]; omega) (by simp only [List.length_append, List.length_cons, List.length_nil]; omega) (fun a21 c21 ha21 => ?_))
   refine zR 1 rfl ?_
   rw [← hsn]
   refine zN (zL (zU (zG ?_)))
   refine yA ?_
   refine zR 1 rfl (zN ?_)
   refine WE.again ((j + 1, a21, c21)) (by (try dsimp only); omega) (by (try dsimp only); omega) ⟨rfl, rfl, rfl, rfl, rfl, rfl⟩ (RLe.refl _) qS
  ·try dsimp only at hc1
   obtain rfl : j = c.vals.length := by omega
   rw [List.take_length]
   have hfl := fmtVals_len c.vals (valid_vals hv)
   have hwp := wordV_len (v := c.per) (.inr (by omega))
   refine zX ?_
   refine wx (wx (zY (zU (zQ ?_))))
   refine W.regionH _ (ES := []) mixed ?_
   refine tP 0 ?_
   refine tP 2 ?_
   refine' WA.take 3 rfl qK qK qK rfl rfl qD (Yl.load1 tab_ok rfl rfl rfl (fun _ => rfl) ?r4 rfl ?h4) qS qR ?_
   case r4 => apply Rd.add; (first | exact Rd.ro qU | exact Rd.blk 0 rfl | exact Rd.blk 1 rfl | exact Rd.blk 2 rfl)
   case h4 => rfl
   refine WA.eff 1 rfl qK rfl rfl qD (Ef.appendStr (l := [112, 101, 114, 32]) 0 tab_ok rfl rfl rfl rfl rfl rfl qK rfl rfl rfl rfl rfl rfl (by show _ + 4 ≤ _; omega) (fun a8 c8 => ?_))
   refine ⟨qR, qS, ?_⟩
   refine WA.callG 4 rfl (by kernel_rfl) en40 rfl (by first | rfl | decide) rfl (by decide) (CallOp.mkT rfl rfl rfl rfl) (Num03_C hG w1 hb2 (by constructor <;> omega) (by (try simp only [List.length_append, List.length_cons, List.length_nil]); omega)) ?_
   rintro _ _ _ - ⟨a8, c8, rfl, rfl, rfl⟩
   refine ⟨RLe.refl _, List.nil_sublist _, ?_⟩
   refine WA.eff 5 rfl (by kernel_rfl) rfl rfl (by decide) (Ef.appendStr (l := [32, 105, 110, 99, 32]) 0 tab_ok rfl rfl rfl rfl rfl rfl (by kernel_rfl) rfl rfl rfl rfl rfl rfl (by (try simp only [List.length_append, List.length_cons, List.length_nil]); omega) (fun a9 c9 => ?_))
   refine ⟨qR, qS, ?_⟩
   refine tP 6 ?_
   refine WA.done qK ?_
   refine zU (zQ (zG (zR 2 rfl ?_)))
   refine' WG.y rfl rfl qD (Yl.load1 tab_ok rfl rfl rfl (fun _ => rfl) ?r5 rfl ?h5) ?_
   case r5 => apply Rd.add; (first | exact Rd.ro qU | exact Rd.blk 0 rfl | exact Rd.blk 1 rfl | exact Rd.blk 2 rfl)
   case h5 => rfl
   refine WL.call en40 rfl rfl (by decide) (CallOp.mkT rfl rfl rfl rfl) (Num03_C hG w1 hb2 (by constructor <;> omega) (by (try simp only [List.length_append, List.length_cons, List.length_nil]); omega)) ?_
   rintro _ _ _ - ⟨a8, c8, rfl, rfl, rfl⟩
   refine zR 1 rfl (zN (zU (zQ ?_)))
   have efc : (((fmtVals c.vals ++ [112, 101, 114, 32]) ++ wordV c.per) ++ [32, 105, 110, 99, 32]) ++ wordV c.inc = fmtC c := by
    unfold fmtC wordV
    rw [if_neg (by unfold INF; omega), if_neg (by unfold INF; omega)]
    simp [wPer, wInc]
   rw [efc]
   refine zQ (zG (zR 3 rfl (zN (zU ?_))))
   refine W.condD rfl (fun hc2 => ?_) (fun hc2 => ?_)
   ·try dsimp only at hc2
    have hf : formatR c = ([], 3) := by unfold formatR; rw [if_neg (by rw [hv]; decide), if_pos (by omega)]
    refine zQ (zG (zR 2 rfl (zN (zU (zT (wt ?_))))))
    refine WE.rebase hm1 ?_
    refine WE.retF tab_ok [_, _] rfl ⟨rfl, rfl, trivial⟩ (by first | exact RLe.refl _ | exact hR1) ?_
    rw [hf]; rfl
   ·try dsimp only at hc2
    have hf : formatR c = (fmtC c, 0) := by unfold formatR; rw [if_neg (by rw [hv]; decide), if_neg (by omega)]
    refine zK (zU (zQ (zG (zR 1 rfl ?_))))
    refine WG.y rfl rfl qD (Yl.bytesStr (l := fmtC c) 0 tab_ok rfl rfl rfl rfl rfl rfl rfl rfl rfl rfl qO (fun _ => rfl)) ?_
    refine zR 2 rfl (zN (zU (zT ?_)))
    refine WE.rebase hm1 ?_
    refine WE.retF tab_ok [_, _] rfl ⟨rfl, rfl, trivial⟩ (by first | exact RLe.refl _ | exact hR1) ?_
    rw [hf]; rfl

end Go.Proofs.YtejpkjapmhpmpaaDoor

/- A function that defers a closure which recovers: its contract, and the closure's. No condition. -/
namespace Go.Proofs.YtejpkjapmhpmpaaDoor.K
open Go Go.RowKit
section
variable {P : Program} {T : Tab} {n : Nat} {env : Env} {w0 : World} {R : Ro} {E : List Ent} {Q : Exit → Act → World → Prop} {o : Oper} {ops rest : List Oper}
/-- a closure is laid among the deferred calls -/
theorem WL.defer {c : Call} {x : Operand} {fv : Go.Fn} {ca : Array Value} (hg : o.guard = none) (hd : o.dst = none) (ho : o.op = .defer c) (hc : c.callee = .value x) (hca : c.args = #[]) (hx : ev env x = some (true, .func fv #[] ca)) (hmk : markOf env = none)
  (h : WG false P ops Q rest n ((99999, true, .func fv #[] ca) :: env) w0 R E) : WG false P ops Q (o :: rest) n env w0 R E := by
 intro a w hk hm
 refine wpList_plain hg fun K hK => ?_
 have e : (execOp a.eval o).run P w = .ok (.defer { target := .fn fv ca, args := #[] }) w := by
  unfold execOp
  rw [ho]
  have hev := hk.ev hx rfl
  simp [resolve, hc, hca, hev, Deferred.ofValue]
 unfold Oper.wp
 rw [e]
 simp only [Oper.upon, hd]
 refine hK _ _ (h _ _ ⟨by simpa [Act.put] using hk.size, hk.small, ?_, fun t p v ht => ?_⟩ hm)
 ·simp only [Act.put, hk.defers]
  unfold dsOf
  rw [hmk]
  rfl
 ·have h9 : Nat.beq 99999 t = false := by
   cases h9 : Nat.beq 99999 t with
   | false => rfl
   | true => simp [look, ← beq_true h9] at ht
  simp only [look, h9, cond_false] at ht
  simpa [Act.put] using hk.val t p v ht
theorem Fn.enterD {f : FuncId} {fn : Func} {c : Code} {args : List Value} {Post : Value → Ro → List Ent → Prop} {n : Nat}
  (hf : P.funcs[f]? = some fn) (hb : fn.body = some c) (hn : fn.ntmps = n) (ha : args.length ≤ n) (hs : Nat.ble n 99999 = true)
  (h : W P c (bodyPostD P fn (FnR w0 R Post)) n (argEnv 0 args) w0 R E) : Fn P f args w0 R E Post := by
 intro w hm
 have hs := Nat.le_of_ble_eq_true hs
 refine calls_of_wp_defers hf hb (h _ w ⟨?_, hs, (argEnv_mark 0 args (by omega)).symm, fun t p v ht => ?_⟩ hm)
 ·simp [hn]; omega
 ·obtain ⟨hp, _, hv⟩ := argEnv_look 0 args t p v ht
  simp only [Nat.sub_zero] at hv
  subst hp
  have hlt : t < args.length := (List.getElem?_eq_some_iff.1 hv).1
  rw [Array.getElem?_append_left (by simpa using hlt)]
  simpa using hv
/-- a deferred closure's contract: it returns; what it makes of its caller's mode -/
def FnDR (P : Program) (f : FuncId) (args : List Value) (w0 : World) (R : Ro) (E : List Ent) (u : FrameMode) (Post : Ro → List Ent → FrameMode → Prop) : Prop :=
  ∀ w, Mem w0 w R E → CallsD P f args.toArray u w fun e u' w' => ∃ v R' E', e = .returned v ∧ RLe R R' ∧ Mem w0 w' R' E' ∧ Post R' E' u'
theorem leavesD (hT : TabOk P T) {fn : Func} {Post : Value → Ro → List Ent → Prop} {R0 : Ro} {rs : List ResultVar} {f : FuncId} {ca : List Value} {u : FrameMode} (hr : fn.results = rs.toArray) (hds : markOf env = some (.func (.func f) #[] ca.toArray)) (hf : Enters P f) (hu : u ≠ .run)
  (hc : FnDR P f ca w0 R E u (fun R' E' u' => settle u' = .returning ∧ RLe R0 R' ∧ ∃ vs, ResAll T env R' E' rs vs ∧ Post (resVal vs) R' E'))
  {a : Act} {w : World} (hk : Kn n env a) (hm : Mem w0 w R E) : Leaves P fn a.tmps (FnR w0 R0 Post) a.defers u w := by
 have hd : a.defers = [{ target := .fn (.func f) ca.toArray, args := #[] }] := by rw [hk.defers]; unfold dsOf; rw [hds]
 rw [hd]
 refine ⟨hu, .func f, ca.toArray, f, ca.toArray, rfl, ?_, ?_⟩
 ·have := hf ca.toArray w
  simpa [invoke] using this
 ·intro c cs hcu
  obtain ⟨e, u', w', fr, ⟨v, R', E', rfl, hR, hm', hs, hR0, vs, hv, hp⟩, h2, h3, h4⟩ := hc w hm c cs hcu
  refine ⟨_, u', w', fr, ?_, h2, h3, h4⟩
  show Leaves P fn a.tmps (FnR w0 R0 Post) [] (settle u') w'
  rw [hs]
  exact ⟨_, results_ok hT hr hk hm' hv, resVal vs, R', E', rfl, hR0, hm', hp⟩
theorem WE.retD (hT : TabOk P T) {fn : Func} {Post : Value → Ro → List Ent → Prop} {R0 : Ro} {rs : List ResultVar} {f : FuncId} {ca : List Value} (hr : fn.results = rs.toArray) (hds : markOf env = some (.func (.func f) #[] ca.toArray)) (hf : Enters P f)
  (hc : FnDR P f ca w0 R E .returning (fun R' E' u' => settle u' = .returning ∧ RLe R0 R' ∧ ∃ vs, ResAll T env R' E' rs vs ∧ Post (resVal vs) R' E')) :
  WE (bodyPostD P fn (FnR w0 R0 Post)) .ret n env w0 R E := fun _ _ hk hm => leavesD hT hr hds hf (by simp) hc hk hm
theorem WE.panicD (hT : TabOk P T) {fn : Func} {Post : Value → Ro → List Ent → Prop} {R0 : Ro} {rs : List ResultVar} {f : FuncId} {ca : List Value} {ch : List PanicEntry} (hr : fn.results = rs.toArray) (hds : markOf env = some (.func (.func f) #[] ca.toArray)) (hf : Enters P f)
  (hc : FnDR P f ca w0 R E (.panicking ch) (fun R' E' u' => settle u' = .returning ∧ RLe R0 R' ∧ ∃ vs, ResAll T env R' E' rs vs ∧ Post (resVal vs) R' E')) :
  WE (bodyPostD P fn (FnR w0 R0 Post)) (.panic ch) n env w0 R E := fun _ _ hk hm => leavesD hT hr hds hf (by simp) hc hk hm
/-- where nothing is deferred yet -/
theorem WE.retD0 (hT : TabOk P T) {fn : Func} {Post : Value → Ro → List Ent → Prop} {R0 : Ro} {rs : List ResultVar} (vs : List Value) (hr : fn.results = rs.toArray) (h : ResAll T env R E rs vs) (hR : RLe R0 R) (hp : Post (resVal vs) R E) (hds : markOf env = none := by rfl) :
  WE (bodyPostD P fn (FnR w0 R0 Post)) .ret n env w0 R E := fun a w hk hm => by
 show Leaves P fn a.tmps (FnR w0 R0 Post) a.defers .returning w
 rw [hk.defers]
 unfold dsOf
 rw [hds]
 exact ⟨resVal vs, results_ok hT hr hk hm h, resVal vs, R, E, rfl, hR, hm, hp⟩

/-! ### the closure -/
def WD (P : Program) (c : Code) (Q : Exit → Act → List Frame → World → Prop) (n : Nat) (env : Env) (w0 : World) (R : Ro) (E : List Ent) (cs : List Frame) : Prop :=
  ∀ a w, Kn n env a → Mem w0 w R E → c.wpS P Q a cs w
def WDG (P : Program) (ops : Array Oper) (Q : Exit → Act → List Frame → World → Prop) (l : List Nat) (n : Nat) (env : Env) (w0 : World) (R : Ro) (E : List Ent) (cs : List Frame) : Prop :=
  ∀ a w, Kn n env a → Mem w0 w R E → wpOpsS P ops Q l a cs w
variable {QS : Exit → Act → List Frame → World → Prop} {cs : List Frame} {x y : Code} {aops : Array Oper} {il : List Nat}
theorem WD.seq (h : WD P x (Exit.thenS (y.wpS P QS) QS) n env w0 R E cs) : WD P (.seq x y) QS n env w0 R E cs := fun a w hk hm => wpS_seq (h a w hk hm)
theorem WD.region {id : Nat} (h : WDG P aops QS (List.range aops.size) n env w0 R E cs) : WD P (.region id aops false) QS n env w0 R E cs := fun a w hk hm => wpS_region (h a w hk hm)
theorem WD.plain (h : W P x (fun e a w => QS e a cs w) n env w0 R E) : WD P x QS n env w0 R E cs := fun a w hk hm => wpS_of_wp (h a w hk hm)
theorem WDG.nil (h : WD P y QS n env w0 R E cs) : WDG P aops (Exit.thenS (y.wpS P QS) QS) [] n env w0 R E cs := fun a w hk hm => h a w hk hm
theorem WDG.yl {i d : Nat} {v : Value} (hi : aops[i]? = some o) (hg : o.guard = none) (hd : o.dst = some d) (hdn : d < n) (hy : Yl P n env w0 R E o true v)
  (h : WDG P aops QS il n ((d, true, v) :: env) w0 R E cs) : WDG P aops QS (i :: il) n env w0 R E cs := by
 intro a w hk hm
 have e := hy a w hk hm rfl
 have h2 := h _ _ (hk.putT hdn v) hm
 unfold wpOpsS
 rw [hi]
 simp only [Region.wanted, hg, if_true, e, Oper.upon, hd]
 exact h2
/-- recover, in a deferred closure -/
theorem WDG.recover {i d : Nat} {c : Call} {v : Value} {cs' : List Frame} (hi : aops[i]? = some o) (hg : o.guard = none) (hd : o.dst = some d) (hdn : d < n) (ho : o.op = .call c) (hc : c.callee = .builtin .recover)
  (hr : (recoverD cs).getD (.nilIface, cs) = (v, cs'))
  (h : WDG P aops QS il n ((d, true, v) :: env) w0 R E cs') : WDG P aops QS (i :: il) n env w0 R E cs := by
 intro a w hk hm
 have h2 := h _ _ (hk.putT hdn v) hm
 have e : (execOp a.eval o).run P w = .ok .recover w := by
  unfold execOp
  rw [ho]
  simp [resolve, hc, invoke, builtin]
 unfold wpOpsS
 rw [hi]
 simp only [Region.wanted, hg, if_true, e, hd]
 cases hrd : recoverD cs with
 | none => rw [hrd] at hr; simp at hr; obtain ⟨rfl, rfl⟩ := hr; exact h2
 | some q => rw [hrd] at hr; simp at hr; subst hr; exact h2
theorem FnDR.enter {f : FuncId} {fn : Func} {c : Code} {args : List Value} {u : FrameMode} {Post : Ro → List Ent → FrameMode → Prop} {n : Nat}
  (hf : P.funcs[f]? = some fn) (hb : fn.body = some c) (hn : fn.ntmps = n) (ha : args.length ≤ n) (hs : Nat.ble n 99999 = true)
  (h : ∀ (c0 : Frame) (cs : List Frame), c0.mode = u → WD P c (bodyPostS P fn c0 cs (fun e u' w' => ∃ v R' E', e = .returned v ∧ RLe R R' ∧ Mem w0 w' R' E' ∧ Post R' E' u')) n (argEnv 0 args) w0 R E (c0 :: cs)) : FnDR P f args w0 R E u Post := by
 intro w hm
 have hs := Nat.le_of_ble_eq_true hs
 refine callsD_of_wpS hf hb (fun c0 cs hc => h c0 cs hc _ w ⟨?_, hs, (argEnv_mark 0 args (by omega)).symm, fun t p v ht => ?_⟩ hm)
 ·simp [hn]; omega
 ·obtain ⟨hp, _, hv⟩ := argEnv_look 0 args t p v ht
  simp only [Nat.sub_zero] at hv
  subst hp
  have hlt : t < args.length := (List.getElem?_eq_some_iff.1 hv).1
  rw [Array.getElem?_append_left (by simpa using hlt)]
  simpa using hv
/-- the closure's end: it has no result -/
theorem WE.retDR {fn : Func} {c0 : Frame} {cs : List Frame} {u' : FrameMode} {R0 : Ro} {Post : Ro → List Ent → FrameMode → Prop} (hr : fn.results = #[]) (hR : RLe R0 R) (hp : Post R E u') (hds : markOf env = none := by rfl) :
  WE (fun e a w => bodyPostS P fn c0 cs (fun e u' w' => ∃ v R' E', e = .returned v ∧ RLe R0 R' ∧ Mem w0 w' R' E' ∧ Post R' E' u') e a ({ c0 with mode := u' } :: cs) w) .ret n env w0 R E := fun a w hk hm =>
 ⟨by rw [hk.defers]; unfold dsOf; rw [hds], u', rfl, .tuple #[], by unfold results; simp [hr], .tuple #[], R, E, rfl, hR, hm, hp⟩
theorem WE.endDR {fn : Func} {c0 : Frame} {cs : List Frame} {u' : FrameMode} {R0 : Ro} {Post : Ro → List Ent → FrameMode → Prop} (hr : fn.results = #[]) (hR : RLe R0 R) (hp : Post R E u') (hds : markOf env = none := by rfl) :
  WE (fun e a w => bodyPostS P fn c0 cs (fun e u' w' => ∃ v R' E', e = .returned v ∧ RLe R0 R' ∧ Mem w0 w' R' E' ∧ Post R' E' u') e a ({ c0 with mode := u' } :: cs) w) .normal n env w0 R E := fun a w hk hm =>
 ⟨by rw [hk.defers]; unfold dsOf; rw [hds], u', rfl, .tuple #[], by unfold results; simp [hr], .tuple #[], R, E, rfl, hR, hm, hp⟩
end
end Go.Proofs.YtejpkjapmhpmpaaDoor.K

/- A deferred closure's contract made weaker; an interface against nil; a value out of an interface. No condition. -/
namespace Go.Proofs.YtejpkjapmhpmpaaDoor.K
open Go Go.RowKit
section
variable {P : Program} {T : Tab} {n : Nat} {env : Env} {w0 : World} {R : Ro} {E : List Ent} {o : Oper} {pc p : Bool}
theorem FnDR.mono {f : FuncId} {args : List Value} {u : FrameMode} {Post Post' : Ro → List Ent → FrameMode → Prop} (h : FnDR P f args w0 R E u Post) (hp : ∀ R' E' u', RLe R R' → Post R' E' u' → Post' R' E' u') : FnDR P f args w0 R E u Post' := by
 intro w hm c cs hc
 obtain ⟨e, u', w', fr, ⟨v, R', E', he, hR, hm', hq⟩, h2, h3, h4⟩ := h w hm c cs hc
 exact ⟨e, u', w', fr, ⟨v, R', E', he, hR, hm', hp _ _ _ hR hq⟩, h2, h3, h4⟩
theorem Yl.eqNilI {t t' x y} {v : Value} {r : Bool} (hu : P.underlying t = some (.interface (P.methodsAt t))) (ho : o.op = .binOp .eql t x y t') (hc : y = .const .nilIface) (hx : ev env x = some (p, v))
  (hpq : pc = true → p = true) (hv : (v = .nilIface ∧ r = true) ∨ ((∃ u z, v = .iface u z) ∧ r = false)) : Yl P n env w0 R E o pc (.bool r) := by
 intro ac w hkn hm hp
 subst hc
 have hy : ac.eval (.const .nilIface) = .nilIface := rfl
 unfold execOp
 rcases hv with ⟨rfl, rfl⟩ | ⟨⟨u, z, rfl⟩, rfl⟩
 ·have e := run_equal_nil_nil w t hu
  simp [ho, hkn.ev hx (hpq hp), hy, eqGuard, binOp, e]
 ·have e := run_equal_held_nil w t u z hu
  simp [ho, hkn.ev hx (hpq hp), hy, eqGuard, binOp, e]
theorem Yl.assert {t xt : TypeId} {x : Operand} {u v : Value} (ho : o.op = .typeAssert x xt t true) (hx : ev env x = some (p, u)) (hr : ∀ w, (Instr.typeAssert u xt t true).run P w = .ok v w) (hpq : pc = true → p = true) : Yl P n env w0 R E o pc v := by
 intro ac w hkn hm hp
 unfold execOp
 simp [ho, hkn.ev hx (hpq hp), hr w]
end
end Go.Proofs.YtejpkjapmhpmpaaDoor.K

/- Regions of which an order is drawn and in which a call may panic. No condition. -/
namespace Go.Proofs.YtejpkjapmhpmpaaDoor.K
open Go Go.RowKit
section
variable {P : Program} {n : Nat} {env : Env} {w0 : World} {R : Ro} {E : List Ent} {Q : Exit → Act → World → Prop} {o : Oper} {ops : List Oper} {ES : List Ent} {R0 : Ro} {fuel : Nat} {listed : Array Bool}
/-- at a panic: nothing is deferred, and Q whatever the frame's places hold -/
def OnP (n : Nat) (Q : Exit → Act → World → Prop) : Exit → Act → World → Prop
  | .panic c, a, w => a.defers = [] ∧ a.tmps.size = n ∧ ∀ a' : Act, a'.defers = [] → a'.tmps.size = n → Q (.panic c) a' w
  | e, a, w => Q e a w
theorem OnP.imp : ∀ (e : Exit) (a : Act) (w : World), OnP n Q e a w → Q e a w := fun e a w h => by
 cases e <;> first | exact h | exact h.2.2 a h.1 h.2.1
theorem OnP.of : ∀ (e : Exit) (a : Act) (w : World), NoPanic Q e a w → OnP n Q e a w := fun e a w h => by
 cases e <;> first | exact h | exact (h : False).elim
theorem wp_monoQ {Q' : Exit → Act → World → Prop} (h : ∀ e a w, Q e a w → Q' e a w) {a : Act} {w : World} {K : Act → World → Prop} (hh : o.wp P a w K Q) : o.wp P a w K Q' := by
 unfold Oper.wp at *
 generalize (execOp a.eval o).run P w = r at *
 have hl : LetsOut Q → LetsOut Q' := fun ⟨a, w, hq⟩ => ⟨a, w, h _ _ _ hq⟩
 cases r with
 | ok n w' =>
  cases n <;> simp only [Oper.upon] at hh ⊢ <;>
   first
    | exact hh
    | exact Calls.mono hh (fun e w'' he => by cases e <;> first | exact he | exact h _ _ _ he | exact hl he)
 | halt x w' => cases x <;> simp only [Oper.upon] at hh ⊢ <;> first | exact hh | exact h _ _ _ hh
theorem wpOp_monoQ {Q' : Exit → Act → World → Prop} (h : ∀ e a w, Q e a w → Q' e a w) {l : Array Oper} {i : Nat} {a : Act} {w : World} {K : Act → World → Prop} (hh : wpOp P l Q i K a w) : wpOp P l Q' i K a w := by
 have hl : LetsOut Q → LetsOut Q' := fun ⟨a, w, hq⟩ => ⟨a, w, h _ _ _ hq⟩
 unfold wpOp at *
 split
 ·rename_i ho; simp only [ho] at hh; exact hh
 ·rename_i o ho
  simp only [ho] at hh
  split
  ·rename_i hw; simp only [hw, if_true] at hh; exact hh.imp (wp_monoQ h) (fun ⟨x, y⟩ => ⟨x, hl y⟩)
  ·rename_i hw; simp only [hw] at hh; exact hh
theorem wpAnyH_monoQ {Q' : Exit → Act → World → Prop} (h : ∀ e a w, Q e a w → Q' e a w) {l : Array Oper} {S : World → Prop} : ∀ (fuel : Nat) (listed : Array Bool) (a : Act) (w : World), wpAnyH P .any l Q S fuel listed a w → wpAnyH P .any l Q' S fuel listed a w
 | 0, _, _, _, hh => ⟨hh.1, h _ _ _ hh.2⟩
 | fuel + 1, _, _, _, hh => ⟨fun hr => h _ _ _ (hh.1 hr), fun i hi => wpOp_monoQ h (wpOp_mono (fun a' w' h' => ⟨h'.1, wpAnyH_monoQ h fuel _ a' w' h'.2⟩) (hh.2 i hi))⟩
def WAX (P : Program) (ops : List Oper) (Q : Exit → Act → World → Prop) (ES : List Ent) (R0 : Ro) (w0 : World) (fuel : Nat) (listed : Array Bool) (n : Nat) (env : Env) (R : Ro) (E : List Ent) : Prop :=
  ∀ a w, Kn n env a → Mem w0 w R E → wpAnyH P .any ops.toArray (OnP n Q) (fun w => Mem w0 w R0 ES) fuel listed a w
def WSX (P : Program) (ops : List Oper) (Q : Exit → Act → World → Prop) (ES : List Ent) (R0 : Ro) (w0 : World) (fuel : Nat) (listed : Array Bool) (n : Nat) (env : Env) (R : Ro) (E : List Ent) (i : Nat) : Prop :=
  ∀ a w, Kn n env a → Mem w0 w R E → wpOp P ops.toArray (OnP n Q) i (fun a' w' => Mem w0 w' R0 ES ∧ wpAnyH P .any ops.toArray (OnP n Q) (fun w => Mem w0 w R0 ES) fuel (listed.setIfInBounds i true) a' w') a w
theorem W.regionX (id : Nat) {l : List Oper} {ES : List Ent} (hm : P.follows .mixedOrders = true)
  (h : WAX P l Q ES R w0 l.toArray.size (Array.replicate l.toArray.size false) n env R E) : W P (.region id l.toArray true) Q n env w0 R E := by
 intro a w hk hw
 refine Code.wp_mono (Q := OnP n Q) OnP.imp (wp_region_held (S := fun w => Mem w0 w R ES) hm ?_)
 exact h a _ hk hw.drew
theorem WAX.of (h : WA P ops Q ES R0 w0 fuel listed n env R E) : WAX P ops Q ES R0 w0 fuel listed n env R E := fun a w hk hm => wpAnyH_monoQ OnP.of _ _ _ _ (h a w hk hm)
theorem WAX.take {v : Value} {d : Nat} {pc : Bool} (i : Nat) (hi : ops.toArray[i]? = some o) (hs : Region.noSelect ops.toArray = true) (hf : Region.free .any ops.toArray listed i = true) (hr : (Region.ready .any ops.toArray listed).contains i = true)
  (hg : gpc ops env o = some pc) (hd : o.dst = some d) (hdn : d < n) (hy : Yl P n env w0 R0 ES o pc v) (hsub : ES.Sublist E) (hR : RLe R0 R)
  (h : WAX P ops Q ES R0 w0 fuel (listed.setIfInBounds i true) n ((d, pc, v) :: env) R E) : WAX P ops Q ES R0 w0 (fuel + 1) listed n env R E := by
 intro a w hk hm
 have hput := hk.put hdn pc v
 refine wpAnyH_take (v := if pc then v else undef) hi hs hf hr (fun c a' w' h' => ?_) ?_ (hm.sub hR hsub) ?_
 ·obtain ⟨h1, h2, h3⟩ := h'
  refine ⟨?_, ?_, h3⟩
  ·unfold Act.put at h1; cases hdd : o.dst <;> simp only [hdd] at h1 <;> exact h1
  ·unfold Act.put at h2; cases hdd : o.dst <;> simp only [hdd] at h2 <;> simpa using h2
 ·cases pc with
  | true => exact .inl ⟨hk.wanted hg, fun w hm => by simpa using hy a w hk hm rfl⟩
  | false => exact .inr ⟨hk.wanted hg, rfl⟩
 ·rw [hd]
  exact h _ _ hput hm
theorem WAX.br2 {i j : Nat} (hr : Region.ready .any ops.toArray listed = [i, j]) (h1 : WSX P ops Q ES R0 w0 fuel listed n env R E i) (h2 : WSX P ops Q ES R0 w0 fuel listed n env R E j) : WAX P ops Q ES R0 w0 (fuel + 1) listed n env R E := by
 intro a w hk hm
 refine wpAnyH_all hr (by simp) fun m hm' => ?_
 rcases List.mem_cons.1 hm' with rfl | hm'
 ·exact h1 a w hk hm
 ·obtain rfl : m = j := by simpa using hm'
  exact h2 a w hk hm
theorem WAX.one {i : Nat} (hr : Region.ready .any ops.toArray listed = [i]) (h1 : WSX P ops Q ES R0 w0 fuel listed n env R E i) : WAX P ops Q ES R0 w0 (fuel + 1) listed n env R E := by
 intro a w hk hm
 refine wpAnyH_all hr (by simp) fun m hm' => ?_
 obtain rfl : m = i := by simpa using hm'
 exact h1 a w hk hm
theorem WSX.yl {v : Value} {d : Nat} {i : Nat} (hi : ops.toArray[i]? = some o) (hg : o.guard = none) (hd : o.dst = some d) (hdn : d < n) (hy : Yl P n env w0 R E o true v) (hsub : ES.Sublist E) (hR : RLe R0 R)
  (h : WAX P ops Q ES R0 w0 fuel (listed.setIfInBounds i true) n ((d, true, v) :: env) R E) : WSX P ops Q ES R0 w0 fuel listed n env R E i := by
 intro a w hk hm
 unfold wpOp
 rw [hi]
 simp only [Region.wanted, hg, if_true]
 left
 unfold Oper.wp
 rw [hy a w hk hm rfl]
 simp only [Oper.upon, hd]
 exact ⟨hm.sub hR hsub, h _ _ (hk.putT hdn v) hm⟩
theorem WSX.callXAt {d : Nat} {f : FuncId} {vs : List Value} {e : Ent} {Post : Value → Ro → Ent → List Ent → Prop} {PX : Value → Ro → Ent → Prop} (k : Nat) {i : Nat} (hi : ops.toArray[i]? = some o) (hf : Enters P f) (hg : o.guard = none) (hd : o.dst = some d) (hdn : d < n)
  (hc : CallOp env o.op true f vs) (hE : E[k]? = some e)
  (hv : FnX P f vs w0 R (e :: E.eraseIdx k) (fun v R' E' => ∃ e' N, E' = N ++ e' :: E.eraseIdx k ∧ Post v R' e' N) (fun v R' E' => ∃ e', E' = e' :: E.eraseIdx k ∧ PX v R' e'))
  (hx : ∀ v R' e', RLe R R' → PX v R' e' → WE Q (.panic [{ v := v, recovered := false }]) n [] w0 R' (E.set k e'))
  (h : ∀ v R' e' N, RLe R R' → Post v R' e' N → RLe R0 R' ∧ ES.Sublist (N ++ E.set k e') ∧ WA P ops Q ES R0 w0 fuel (listed.setIfInBounds i true) n ((d, true, v) :: env) R' (N ++ E.set k e')) (hds : markOf env = none := by rfl) : WSX P ops Q ES R0 w0 fuel listed n env R E i := by
 intro a w hk hm
 unfold wpOp
 rw [hi]
 simp only [Region.wanted, hg, if_true]
 left
 unfold Oper.wp
 rw [run_call hk hc rfl hf]
 refine (hv w (hm.perm (perm_get hE))).mono ?_
 rintro e0 w' (⟨v, R', E', rfl, hR, hm', e', N, rfl, hp⟩ | ⟨v, R', E', rfl, hR, hm', e', rfl, hp⟩)
 ·obtain ⟨g1, g2, g3⟩ := h v R' e' N hR hp
  have hm2 := hm'.perm ((perm_set e' hE).append_left N)
  simp only [hd]
  exact ⟨hm2.sub g1 g2, wpAnyH_monoQ OnP.of _ _ _ _ (g3 _ _ (hk.putT hdn v) hm2)⟩
 ·refine ⟨by rw [hk.defers]; unfold dsOf; rw [hds], hk.size, fun a' h1 h2 => hx v R' e' hR hp a' w' ⟨h2, hk.small, by rw [h1]; rfl, fun t p v ht => by cases ht⟩ (hm'.perm (perm_set e' hE))⟩
end
end Go.Proofs.YtejpkjapmhpmpaaDoor.K

/- The reader of words beside the plain reading of a text. Plain. No condition. -/
namespace Go.Proofs.YtejpkjapmhpmpaaDoor.M
open Go Go.Proofs.YtejpkjapmhpmpaaDoor.K
/-- how many bytes the words that are left take -/
def remL : List (List UInt8) → Nat
  | [] => 0
  | w :: ws => w.length + 1 + remL ws
theorem remL_spl : ∀ s : List UInt8, remL (spl s) = s.length + 1
 | [] => rfl
 | c :: s => by
  have ih := remL_spl s
  unfold spl
  split
  ·show 0 + 1 + remL (spl s) = _; rw [ih, List.length_cons]; omega
  ·cases h : spl s with
   | nil => exact absurd h (spl_ne s)
   | cons w ws =>
    rw [h] at ih
    show w.length + 1 + 1 + remL ws = _
    have : w.length + 1 + remL ws = s.length + 1 := ih
    rw [List.length_cons]; omega
theorem remL_len : ∀ ws : List (List UInt8), ws.length ≤ remL ws
 | [] => Nat.le_refl 0
 | w :: ws => by have := remL_len ws; show ws.length + 1 ≤ w.length + 1 + remL ws; omega
theorem remL_mem {w : List UInt8} : ∀ {ws : List (List UInt8)}, w ∈ ws → w.length ≤ remL ws
 | [], h => by cases h
 | v :: ws, h => by
  show _ ≤ v.length + 1 + remL ws
  rcases List.mem_cons.1 h with rfl | h
  ·omega
  ·have := remL_mem h; omega
/-- where reading stands: what is left -/
structure Rdr (size : Nat) (ws : List (List UInt8)) (wh : Nat) (vals : List Int) (per inc : Int) (at' k : Nat) : Prop where
  go : parseGo size 0 [] 0 0 0 ws = parseGo size wh vals per inc at' (ws.drop k)
  le : k ≤ ws.length
  rem : at' + remL (ws.drop k) ≤ 10000
  len : vals.length ≤ k
theorem Rdr.start {size : Nat} {ws : List (List UInt8)} (h : remL ws ≤ 10000) : Rdr size ws 0 [] 0 0 0 0 := ⟨rfl, Nat.zero_le _, by rw [List.drop_zero]; omega, Nat.le_refl _⟩
section
variable {size : Nat} {ws : List (List UInt8)} {wh : Nat} {vals : List Int} {per inc : Int} {at' k : Nat}
theorem Rdr.eof (h : Rdr size ws wh vals per inc at' k) (hk : ¬ k < ws.length) (hw : wh ≠ 5) : parseGo size 0 [] 0 0 0 ws = (zcv, size, 4) := by
 rw [h.go, List.drop_eq_nil_of_le (by omega), parseGo, if_neg hw]
theorem Rdr.fin (h : Rdr size ws 5 vals per inc at' k) (hk : ¬ k < ws.length) : parseGo size 0 [] 0 0 0 ws = (⟨vals, per, inc⟩, 0, 0) := by
 rw [h.go, List.drop_eq_nil_of_le (by omega), parseGo, if_pos rfl]
theorem Rdr.cons (h : Rdr size ws wh vals per inc at' k) (hk : k < ws.length) : parseGo size 0 [] 0 0 0 ws = parseGo size wh vals per inc at' (nth ws k :: ws.drop (k + 1)) ∧ at' + (nth ws k).length + 1 + remL (ws.drop (k + 1)) ≤ 10000 := by
 have e : ws.drop k = nth ws k :: ws.drop (k + 1) := by rw [nth_eq hk]; exact List.drop_eq_getElem_cons hk
 have h1 := h.go
 have h2 := h.rem
 rw [e] at h1 h2
 exact ⟨h1, by have : remL (nth ws k :: ws.drop (k + 1)) = (nth ws k).length + 1 + remL (ws.drop (k + 1)) := rfl; omega⟩
theorem Rdr.at_le (h : Rdr size ws wh vals per inc at' k) : k < ws.length → at' + (nth ws k).length ≤ 2000000 := fun hk => by have := (h.cons hk).2; omega
theorem Rdr.infS (h : Rdr size ws wh vals per inc at' k) (hk : k < ws.length) (hw : wh ≤ 1) (e : nth ws k = wInf) : Rdr size ws 1 (vals ++ [INF]) per inc (at' + (nth ws k).length + 1) (k + 1) := by
 obtain ⟨h1, h2⟩ := h.cons hk
 have h3 := h.len
 refine ⟨?_, by omega, h2, by rw [List.length_append]; show _ + 1 ≤ _; omega⟩
 rw [h1, parseGo, if_pos ⟨hw, e⟩]
theorem Rdr.perS (h : Rdr size ws 1 vals per inc at' k) (hk : k < ws.length) (e : nth ws k = wPer) : Rdr size ws 2 vals per inc (at' + (nth ws k).length + 1) (k + 1) := by
 obtain ⟨h1, h2⟩ := h.cons hk
 have h3 := h.len
 refine ⟨?_, by omega, h2, by omega⟩
 rw [h1, parseGo, if_neg (fun hh => by rw [e] at hh; exact absurd hh.2 (by decide)), if_pos ⟨rfl, e⟩]
theorem Rdr.incS (h : Rdr size ws 3 vals per inc at' k) (hk : k < ws.length) (e : nth ws k = wInc) : Rdr size ws 4 vals per inc (at' + (nth ws k).length + 1) (k + 1) := by
 obtain ⟨h1, h2⟩ := h.cons hk
 have h3 := h.len
 refine ⟨?_, by omega, h2, by omega⟩
 rw [h1, parseGo, if_neg (fun hh => absurd hh.1 (by decide)), if_neg (fun hh => absurd hh.1 (by decide)), if_pos ⟨rfl, e⟩]
theorem Rdr.incErr (h : Rdr size ws 3 vals per inc at' k) (hn : (wordE ws wInc k at' size).2 ≠ 0) : parseGo size 0 [] 0 0 0 ws = (zcv, wordE ws wInc k at' size) := by
 unfold wordE at hn ⊢
 by_cases hk : k < ws.length
 ·rw [if_pos hk] at hn ⊢
  by_cases e : nth ws k = wInc
  ·rw [if_pos e] at hn; exact absurd rfl hn
  ·rw [if_neg e]
   rw [(h.cons hk).1, parseGo, if_neg (fun hh => absurd hh.1 (by decide)), if_neg (fun hh => absurd hh.1 (by decide)), if_neg (fun hh => e hh.2), if_neg (fun hh => hh.2.1 rfl)]
 ·rw [if_neg hk, h.eof hk (by decide)]
/-- a number is read -/
theorem Rdr.numOk (h : Rdr size ws wh vals per inc at' k) (hk : k < ws.length) (hn : numE ws k at' size = (0, 0)) : digs (nth ws k) = true ∧ ¬ 1073741824 < numV (nth ws k) := by
 unfold numE at hn
 rw [if_pos hk] at hn
 by_cases hd : digs (nth ws k) = true
 ·rw [if_pos hd] at hn
  by_cases hb : 1073741824 < numV (nth ws k)
  ·rw [if_pos hb] at hn; cases hn
  ·exact ⟨hd, hb⟩
 ·rw [if_neg hd] at hn; cases hn
theorem digs_ne {w : List UInt8} (h : digs w = true) : w ≠ wInf ∧ w ≠ wPer ∧ w ≠ wInc :=
 ⟨fun e => (by rw [e, wInf_no] at h; cases h), fun e => (by rw [e, wPer_no] at h; cases h), fun e => (by rw [e, wInc_no] at h; cases h)⟩
theorem Rdr.step (h : Rdr size ws wh vals per inc at' k) (hk : k < ws.length) (hd : digs (nth ws k) = true) (hb : ¬ 1073741824 < numV (nth ws k)) (hw : wh ≠ 3 ∧ wh ≠ 5) :
  parseGo size 0 [] 0 0 0 ws = if wh = 2 then parseGo size 3 vals (numV (nth ws k)) inc (at' + (nth ws k).length + 1) (ws.drop (k + 1))
   else if wh = 4 then parseGo size 5 vals per (numV (nth ws k)) (at' + (nth ws k).length + 1) (ws.drop (k + 1))
   else parseGo size 1 (vals ++ [(numV (nth ws k) : Int)]) per inc (at' + (nth ws k).length + 1) (ws.drop (k + 1)) := by
 obtain ⟨n1, n2, n3⟩ := digs_ne hd
 rw [(h.cons hk).1, parseGo, if_neg (fun hh => n1 hh.2), if_neg (fun hh => n2 hh.2), if_neg (fun hh => n3 hh.2), if_pos ⟨hd, hw⟩, if_neg hb]
theorem Rdr.val (h : Rdr size ws wh vals per inc at' k) (hk : k < ws.length) (hw : wh ≤ 1) (hn : numE ws k at' size = (0, 0)) : Rdr size ws 1 (vals ++ [(numV (nth ws k) : Int)]) per inc (at' + (nth ws k).length + 1) (k + 1) := by
 obtain ⟨hd, hb⟩ := h.numOk hk hn
 have h3 := h.len
 exact ⟨by rw [h.step hk hd hb (by omega), if_neg (by omega), if_neg (by omega)], by omega, (h.cons hk).2, by rw [List.length_append]; show _ + 1 ≤ _; omega⟩
theorem Rdr.num2 (h : Rdr size ws 2 vals per inc at' k) (hk : k < ws.length) (hn : numE ws k at' size = (0, 0)) : Rdr size ws 3 vals (numV (nth ws k)) inc (at' + (nth ws k).length + 1) (k + 1) := by
 obtain ⟨hd, hb⟩ := h.numOk hk hn
 have h3 := h.len
 exact ⟨by rw [h.step hk hd hb (by omega), if_pos rfl], by omega, (h.cons hk).2, by omega⟩
theorem Rdr.num4 (h : Rdr size ws 4 vals per inc at' k) (hk : k < ws.length) (hn : numE ws k at' size = (0, 0)) : Rdr size ws 5 vals per (numV (nth ws k)) (at' + (nth ws k).length + 1) (k + 1) := by
 obtain ⟨hd, hb⟩ := h.numOk hk hn
 have h3 := h.len
 exact ⟨by rw [h.step hk hd hb (by omega), if_neg (by omega), if_pos rfl], by omega, (h.cons hk).2, by omega⟩
/-- a number that is not read -/
theorem Rdr.numErr (h : Rdr size ws wh vals per inc at' k) (hw : wh ≠ 3 ∧ wh ≠ 5) (h1 : k < ws.length → wh ≤ 1 → nth ws k ≠ wInf) (h2 : k < ws.length → wh = 1 → nth ws k ≠ wPer) (hn : (numE ws k at' size).2 ≠ 0) : parseGo size 0 [] 0 0 0 ws = (zcv, numE ws k at' size) := by
 unfold numE at hn ⊢
 by_cases hk : k < ws.length
 ·rw [if_pos hk] at hn ⊢
  by_cases hd : digs (nth ws k) = true
  ·rw [if_pos hd] at hn ⊢
   by_cases hb : 1073741824 < numV (nth ws k)
   ·rw [if_pos hb]
    obtain ⟨n1, n2, n3⟩ := digs_ne hd
    rw [(h.cons hk).1, parseGo, if_neg (fun hh => n1 hh.2), if_neg (fun hh => n2 hh.2), if_neg (fun hh => n3 hh.2), if_pos ⟨hd, hw⟩, if_pos hb]
   ·rw [if_neg hb] at hn; exact absurd rfl hn
  ·rw [if_neg hd]
   rw [(h.cons hk).1, parseGo, if_neg (fun hh => h1 hk hh.1 hh.2), if_neg (fun hh => h2 hk hh.1 hh.2), if_neg (fun hh => hw.1 hh.1), if_neg (fun hh => hd hh.1)]
 ·rw [if_neg hk, h.eof hk hw.2]
/-- a word too much -/
theorem Rdr.more (h : Rdr size ws 5 vals per inc at' k) (hk : k < ws.length) : parseGo size 0 [] 0 0 0 ws = (zcv, at', 4) := by
 rw [(h.cons hk).1, parseGo, if_neg (fun hh => absurd hh.1 (by decide)), if_neg (fun hh => absurd hh.1 (by decide)), if_neg (fun hh => absurd hh.1 (by decide)), if_neg (fun hh => hh.2.2 rfl)]
end
def whV (vs : List Int) : Nat := if vs = [] then 0 else 1
theorem whV_le (vs : List Int) : whV vs ≤ 1 := by unfold whV; split <;> omega
theorem whV_snoc (vs : List Int) (v : Int) : whV (vs ++ [v]) = 1 := if_neg (by simp)
end Go.Proofs.YtejpkjapmhpmpaaDoor.M
