/- Rules and walks, joined from 15 texts: the first of them says: A curve in which one thing is changed. No condition. -/
import Derived.Test.YtnackbfnmhkodaaG5
/- A curve in which one thing is changed. No condition. -/
set_option maxRecDepth 4000
set_option linter.unusedSimpArgs false
set_option linter.unusedVariables false
namespace Go.Proofs.Ytnackbfnmhkodaa
open Go Go.RowKit Go.Proofs.Ytnackbfnmhkodaa.K Go.Proofs.Ytnackbfnmhkodaa.M

theorem Bent_C {R : Ro} {b : Nat} {a : Option Addr} {cp : Nat} {xs : List Int} {c : Nat} {fa : Option Addr} {fc : Nat} {c1 : Cv} (w0 : World) (ha : RS R 1 encI a xs) (hv : validB c1 = true) (hx : RS R 1 encI fa c1.vals) : FnAt Try.prog 9 [.pointer (some ⟨b, 0, none⟩), .agg #[.slice fa c1.vals.length fc, .int .i64 c1.per, .int .i64 c1.inc]] w0 R (srcE b a cp xs c) (fun v R' e' N => ∃ (f : Option Addr) (fc cn : Nat) (cv : Cv), v = .agg #[.slice f cv.vals.length fc, .int .i64 cv.per, .int .i64 cv.inc] ∧ RS R' 1 encI f cv.vals ∧ cv.vals.length ≤ 500 ∧ cv.vals.length ≤ fc ∧ e' = srcE b a cp xs cn ∧ N = []) := by
 intro F
 obtain ⟨hvr, hl1, hl4, hp1, hp2, hp3, hi1, hi2⟩ := valid_range hv
 refine Fn.enter (n := 96) Try.func9 rfl rfl (Nat.le_of_ble_eq_true rfl) rfl ?_
 refine W.seq (W.region _ ?_)
 refine WL.ef rfl rfl qD (Ef.box rfl rfl (fun b3 => ?_))
 refine WL.ef rfl rfl qD (Ef.alloc tab_ok rfl rfl (fun b4 => ?_))
 refine WG.nil (WE.nxt ?_)
 refine W.seqCut (β := Nat × Option Addr × Nat) (fun (b5, a10, c10) => True) (fun (b5, a10, c10) => [(0, true, .pointer (some ⟨b, 0, none⟩)), (4, true, .pointer (some ⟨b4, 0, none⟩)), (5, true, .pointer (some ⟨b5, 0, none⟩))]) (fun _ => R) (fun (b5, a10, c10) => .blk b5 [.slice a10 c1.vals.length c10, .int .i64 c1.per, .int .i64 c1.inc] :: .sl 3 1 a10 c10 ((c1.vals).map encI) :: .blk b4 [.slice none 0 0, .int .i64 0, .int .i64 0] :: .blk b3 [.slice fa c1.vals.length fc, .int .i64 c1.per, .int .i64 c1.inc] :: srcE b a cp xs c :: F) ?_ ?_
 ·
  intro st hst
  obtain ⟨b5, a10, c10⟩ := st
  dsimp only
  refine W.seq (W.seq (W.region _ (WG.run tab_ok 1 rfl ?_)))
  refine' WG.y rfl rfl qD (Yl.load1 tab_ok rfl rfl rfl (fun _ => rfl) ?r1 rfl ?h1) ?_
  case r1 => apply Rd.add; (exact Rd.blk 0 rfl)
  case h1 => rfl
  refine WG.run tab_ok 2 rfl (WG.nil (WE.nxt ?_))
  refine W.condE rfl (fun hc0 => ?_) (fun hc0 => ?_)
  ·try dsimp only at hc0
   omega
  ·try dsimp only at hc0
   refine W.skip (WE.nxt (W.seq (W.region _ (WG.run tab_ok 2 rfl ?_))))
   refine' WG.y rfl rfl qD (Yl.load1 tab_ok rfl rfl rfl (fun _ => rfl) ?r2 rfl ?h2) ?_
   case r2 => apply Rd.add; (exact Rd.blk 0 rfl)
   case h2 => rfl
   refine WG.run tab_ok 1 rfl ?_
   refine WL.callAt 4 en12 rfl rfl qD (CallOp.mkT rfl rfl rfl rfl) rfl (N_C w0 ha (by constructor <;> omega) _) ?_
   rintro _ _ _ _ - ⟨rfl, rfl, rfl, rfl⟩
   have hm1 := mod_range (nth xs c) (show (1 : Int) ≤ (c1.vals.length : Int) by omega)
   obtain ⟨i, hi⟩ := Int.eq_ofNat_of_zero_le (show 0 ≤ mod (nth xs c) (c1.vals.length : Int) by omega)
   rw [hi] at hm1 ⊢
   have hbi := hvr _ (nth_mem (xs := c1.vals) (k := i) (by omega))
   have hbj : -2305843009213693952 ≤ nth c1.vals ((i : Int)).toNat ∧ nth c1.vals ((i : Int)).toNat ≤ 4611686018427387904 := hbi
   have hin : ((i : Int)).toNat = i := rfl
   refine WG.run tab_ok 1 rfl (WG.nil (WE.nxt (W.seq (W.seq (W.region _ (WG.run tab_ok 1 rfl ?_))))))
   refine WL.callAt 4 en12 rfl rfl qD (CallOp.mkT rfl rfl rfl rfl) rfl (N_C w0 ha (by constructor <;> decide) _) ?_
   rintro _ _ _ _ - ⟨rfl, rfl, rfl, rfl⟩
   refine WG.nil (WE.nxt (W.block (W.seq (W.region _ (WG.run tab_ok 2 rfl (WG.nil (WE.nxt ?_)))))))
   refine W.condE rfl (fun hc1 => ?_) (fun hc1 => ?_)
   ·try dsimp only at hc1
    refine W.regionH _ (ES := [.blk b5 [.slice a10 c1.vals.length c10, .int .i64 c1.per, .int .i64 c1.inc]]) mixed ?_
    refine WA.take 0 rfl qK qK qK rfl rfl qD (pureV_ok tab_ok rfl (fun _ => rfl)) qS qR ?_
    refine' WA.take 1 rfl qK qK qK rfl rfl qD (Yl.load1 tab_ok rfl rfl rfl (fun _ => rfl) ?r3 rfl ?h3) qS qR ?_
    case r3 => apply Rd.add; (exact Rd.blk 0 rfl)
    case h3 => rfl
    refine WA.take 2 rfl qK qK qK rfl rfl qD (pureV_ok tab_ok rfl (fun _ => rfl)) qS qR ?_
    refine WA.take 3 rfl qK qK qK rfl rfl qD (pureV_ok tab_ok rfl (fun _ => rfl)) qS qR ?_
    refine WA.eff 4 rfl qK rfl rfl qD (Ef.buildSliceD (enc := encI) (parts := [.const (.int .i64 (-1)), .const (.int .i64 0), .const (.int .i64 1073741824), .const (.int .i64 1073741825), .const (.int .i64 4611686018427387904), .const (.int .i64 4611686018427387905)]) [_, _, _, _, _, _] tab_ok rfl rfl rfl rfl rfl rfl rfl rfl qD qD (fun a54 => ?_))
    refine ⟨by first | exact RLe.refl _ | assumption, qS, ?_⟩
    refine WA.callAt 5 5 rfl qK en13 rfl rfl qD (CallOp.mkT rfl rfl rfl rfl) rfl (PickM_C (j := 0) w0 ([-1, 0, 1073741824, 1073741825, 4611686018427387904, 4611686018427387905] : List Int) rfl qD qD ha rfl) ?_
    rintro _ _ _ _ - ⟨rfl, rfl, rfl, rfl⟩
    refine ⟨RLe.refl _, qS, ?_⟩
    refine WA.yl 6 rfl qK rfl rfl qD (Yl.index tab_ok rfl rfl rfl rfl rfl rfl (fun _ => rfl) qA (by intro _; first | exact fun _ _ _ _ => ha10 qO | exact fun _ _ _ _ => rfl | exact RS.has qU | exact fun _ _ _ _ => qU | exact HasMem.ownD 0 rfl | exact HasMem.ownD 1 rfl | exact HasMem.ownD 2 rfl | exact HasMem.ownD 3 rfl | exact HasMem.ownD 4 rfl | exact HasMem.ownD 5 rfl)) qS qR ?_
    refine WA.effN 7 rfl qK rfl rfl (Ef.storeD _ 2 tab_ok rfl rfl rfl rfl rfl qX rfl rfl rfl rfl ?_)
    refine ⟨by first | exact RLe.refl _ | assumption, qS, ?_⟩
    refine WA.done qK ?_
    refine WE.blk _ (WE.nxt ?_)
    (refine W.cap 2 rfl ?_; intro hcp; rw [List.length_map] at hcp; (try rw [List.length_set] at hcp); refine W.freeze (enc := encI) 2 rfl ?_; intro R1 hR1 hfz)
    refine W.seq (W.region _ ?_)
    refine' WG.y rfl rfl qD (Yl.load1 tab_ok rfl rfl rfl (fun _ => rfl) ?r4 rfl ?h4) ?_
    case r4 => (exact Rd.blk 1 rfl)
    case h4 => rfl
    refine WL.efN rfl rfl (Ef.store0 2 tab_ok rfl rfl rfl rfl rfl rfl rfl rfl ?_)
    refine WG.nil (WE.nxt (W.ret ?_))
    refine WE.retFS (E' := srcE b a cp xs (c + 1 + 1 + 1) :: F) qS tab_ok [_] rfl ⟨⟨_, _, _, rfl, rfl, rfl, ((by first | exact Rd.blk 0 rfl | exact Rd.blk 1 rfl | exact Rd.blk 2 rfl | exact Rd.blk 3 rfl | exact Rd.blk 4 rfl | exact Rd.blk 5 rfl)), rfl⟩, trivial⟩ (hR1) ?_
    exact ⟨_, [], rfl, a10, c10, _, ⟨c1.vals.set ((i : Int)).toNat (_), c1.per, c1.inc⟩, by (try dsimp only); rw [List.length_set]; rfl, hfz, by (try dsimp only); (try rw [List.length_set]); omega, by (try dsimp only); (try rw [List.length_set]); omega, rfl, rfl⟩
   ·try dsimp only at hc1
    refine W.seq (W.region _ (WG.run tab_ok 2 rfl (WG.nil (WE.nxt ?_))))
    refine W.condE rfl (fun hc2 => ?_) (fun hc2 => ?_)
    ·try dsimp only at hc2
     refine W.region _ (WG.run tab_ok 2 rfl ?_)
     refine' WG.y rfl rfl qD (Yl.load1 tab_ok rfl rfl rfl (fun _ => rfl) ?r5 rfl ?h5) ?_
     case r5 => apply Rd.add; (exact Rd.blk 0 rfl)
     case h5 => rfl
     refine WG.run tab_ok 2 rfl ?_
     refine' WG.y rfl rfl qD (Yl.load1 tab_ok rfl rfl rfl (fun _ => rfl) ?r6 rfl ?h6) ?_
     case r6 => apply Rd.add; (exact Rd.blk 0 rfl)
     case h6 => rfl
     refine WG.run tab_ok 1 rfl ?_
     refine WG.y rfl rfl qD (Yl.add rfl rfl rfl (fun _ => rfl) qA) ?_
     refine WL.ef rfl rfl qD (Ef.buildSliceD (enc := encI) (parts := [.const (.int .i64 (-1)), .const (.int .i64 0), .const (.int .i64 1), .tmp 62, .tmp 66, .const (.int .i64 121)]) [_, _, _, _, _, _] tab_ok rfl rfl rfl rfl rfl rfl rfl rfl qD qD (fun a67 => ?_))
     refine WL.callAt 5 en13 rfl rfl qD (CallOp.mkT rfl rfl rfl rfl) rfl (PickM_C (j := 0) w0 ([-1, 0, 1, (c1.vals.length : Int), (c1.vals.length : Int) + 1, 121] : List Int) rfl qD qD ha rfl) ?_
     rintro _ _ _ _ - ⟨rfl, rfl, rfl, rfl⟩
     refine WG.run tab_ok 1 rfl ?_
     refine WL.efN rfl rfl (Ef.store 1 tab_ok rfl rfl rfl rfl rfl rfl rfl rfl ?_)
     refine WG.nil (WE.blk _ (WE.nxt ?_))
     (refine W.cap 2 rfl ?_; intro hcp; rw [List.length_map] at hcp; (try rw [List.length_set] at hcp); refine W.freeze (enc := encI) 2 rfl ?_; intro R1 hR1 hfz)
     refine W.seq (W.region _ ?_)
     refine' WG.y rfl rfl qD (Yl.load1 tab_ok rfl rfl rfl (fun _ => rfl) ?r7 rfl ?h7) ?_
     case r7 => (exact Rd.blk 1 rfl)
     case h7 => rfl
     refine WL.efN rfl rfl (Ef.store0 2 tab_ok rfl rfl rfl rfl rfl rfl rfl rfl ?_)
     refine WG.nil (WE.nxt (W.ret ?_))
     refine WE.retFS (E' := srcE b a cp xs (c + 1 + 1 + 1) :: F) qS tab_ok [_] rfl ⟨⟨_, _, _, rfl, rfl, rfl, ((by first | exact Rd.blk 0 rfl | exact Rd.blk 1 rfl | exact Rd.blk 2 rfl | exact Rd.blk 3 rfl | exact Rd.blk 4 rfl | exact Rd.blk 5 rfl)), rfl⟩, trivial⟩ (hR1) ?_
     exact ⟨_, [], rfl, a10, c10, _, ⟨c1.vals, nth ([-1, 0, 1, (c1.vals.length : Int), (c1.vals.length : Int) + 1, 121] : List Int) (mod (nth xs (c + 1 + 1)) ((6 : Nat) : Int)).toNat, c1.inc⟩, rfl, hfz, by (try dsimp only); (try rw [List.length_set]); omega, by (try dsimp only); (try rw [List.length_set]); omega, rfl, rfl⟩
    ·try dsimp only at hc2
     refine W.seq (W.region _ (WG.run tab_ok 2 rfl (WG.nil (WE.nxt ?_))))
     refine W.condE rfl (fun hc3 => ?_) (fun hc3 => ?_)
     ·try dsimp only at hc3
      refine W.region _ (WG.run tab_ok 1 rfl ?_)
      refine WL.ef rfl rfl qD (Ef.buildSliceD (enc := encI) (parts := [.const (.int .i64 (-1)), .const (.int .i64 0), .const (.int .i64 1073741824), .const (.int .i64 1073741825)]) [_, _, _, _] tab_ok rfl rfl rfl rfl rfl rfl rfl rfl qD qD (fun a73 => ?_))
      refine WL.callAt 5 en13 rfl rfl qD (CallOp.mkT rfl rfl rfl rfl) rfl (PickM_C (j := 0) w0 ([-1, 0, 1073741824, 1073741825] : List Int) rfl qD qD ha rfl) ?_
      rintro _ _ _ _ - ⟨rfl, rfl, rfl, rfl⟩
      refine WG.run tab_ok 1 rfl ?_
      refine WL.efN rfl rfl (Ef.store 1 tab_ok rfl rfl rfl rfl rfl rfl rfl rfl ?_)
      refine WG.nil (WE.blk _ (WE.nxt ?_))
      (refine W.cap 2 rfl ?_; intro hcp; rw [List.length_map] at hcp; (try rw [List.length_set] at hcp); refine W.freeze (enc := encI) 2 rfl ?_; intro R1 hR1 hfz)
      refine W.seq (W.region _ ?_)
      refine' WG.y rfl rfl qD (Yl.load1 tab_ok rfl rfl rfl (fun _ => rfl) ?r8 rfl ?h8) ?_
      case r8 => (exact Rd.blk 1 rfl)
      case h8 => rfl
      refine WL.efN rfl rfl (Ef.store0 2 tab_ok rfl rfl rfl rfl rfl rfl rfl rfl ?_)
      refine WG.nil (WE.nxt (W.ret ?_))
      refine WE.retFS (E' := srcE b a cp xs (c + 1 + 1 + 1) :: F) qS tab_ok [_] rfl ⟨⟨_, _, _, rfl, rfl, rfl, ((by first | exact Rd.blk 0 rfl | exact Rd.blk 1 rfl | exact Rd.blk 2 rfl | exact Rd.blk 3 rfl | exact Rd.blk 4 rfl | exact Rd.blk 5 rfl)), rfl⟩, trivial⟩ (hR1) ?_
      exact ⟨_, [], rfl, a10, c10, _, ⟨c1.vals, c1.per, nth ([-1, 0, 1073741824, 1073741825] : List Int) (mod (nth xs (c + 1 + 1)) ((4 : Nat) : Int)).toNat⟩, rfl, hfz, by (try dsimp only); (try rw [List.length_set]); omega, by (try dsimp only); (try rw [List.length_set]); omega, rfl, rfl⟩
     ·try dsimp only at hc3
      refine W.seq (W.region _ (WG.run tab_ok 2 rfl (WG.nil (WE.nxt ?_))))
      refine W.condE rfl (fun hc4 => ?_) (fun hc4 => ?_)
      ·try dsimp only at hc4
       refine W.cap 1 rfl ?_
       intro hcp
       rw [List.length_map] at hcp
       (try rw [List.length_set] at hcp)
       refine W.freeze (enc := encI) 1 rfl ?_
       intro R1 hR1 hfz
       refine W.region _ (WG.run tab_ok 1 rfl ?_)
       refine' WG.y rfl rfl qD (Yl.load1 tab_ok rfl rfl rfl (fun _ => rfl) ?r9 rfl ?h9) ?_
       case r9 => apply Rd.add; (exact Rd.blk 0 rfl)
       case h9 => rfl
       refine WG.run tab_ok 1 rfl ?_
       refine WG.y rfl rfl qD (Yl.sliceH tab_ok rfl rfl rfl rfl rfl (fun _ => rfl) (by intro _; omega) rfl) ?_
       refine WG.run tab_ok 1 rfl ?_
       refine WL.efN rfl rfl (Ef.store 0 tab_ok rfl rfl rfl rfl rfl rfl rfl rfl ?_)
       refine WG.nil (WE.blk _ (WE.nxt ?_))
       skip
       refine W.seq (W.region _ ?_)
       refine' WG.y rfl rfl qD (Yl.load1 tab_ok rfl rfl rfl (fun _ => rfl) ?r10 rfl ?h10) ?_
       case r10 => (exact Rd.blk 0 rfl)
       case h10 => rfl
       refine WL.efN rfl rfl (Ef.store0 1 tab_ok rfl rfl rfl rfl rfl rfl rfl rfl ?_)
       refine WG.nil (WE.nxt (W.ret ?_))
       refine WE.retFS (E' := srcE b a cp xs (c + 1 + 1) :: F) qS tab_ok [_] rfl ⟨⟨_, _, _, rfl, rfl, rfl, ((by first | exact Rd.blk 0 rfl | exact Rd.blk 1 rfl | exact Rd.blk 2 rfl | exact Rd.blk 3 rfl | exact Rd.blk 4 rfl | exact Rd.blk 5 rfl)), rfl⟩, trivial⟩ (hR1) ?_
       exact ⟨_, [], rfl, a10, c10, _, ⟨c1.vals.take ((i : Int)).toNat, c1.per, c1.inc⟩, by (try dsimp only); rw [List.length_take, Nat.min_eq_left (by omega)]; rfl, hfz.take _, by (try dsimp only); rw [List.length_take]; omega, by (try dsimp only); rw [List.length_take]; omega, rfl, rfl⟩
      ·try dsimp only at hc4
       refine W.seq (W.region _ (WG.run tab_ok 2 rfl (WG.nil (WE.nxt ?_))))
       refine W.condE rfl (fun hc5 => ?_) (fun hc5 => ?_)
       ·try dsimp only at hc5
        have hm2 := mod_range (nth xs (c + 1 + 1)) (show (1 : Int) ≤ 5 by decide)
        refine W.regionH _ (ES := [.blk b5 [.slice a10 c1.vals.length c10, .int .i64 c1.per, .int .i64 c1.inc]]) mixed ?_
        refine WA.take 0 rfl qK qK qK rfl rfl qD (pureV_ok tab_ok rfl (fun _ => rfl)) qS qR ?_
        refine' WA.take 1 rfl qK qK qK rfl rfl qD (Yl.load1 tab_ok rfl rfl rfl (fun _ => rfl) ?r11 rfl ?h11) qS qR ?_
        case r11 => apply Rd.add; (exact Rd.blk 0 rfl)
        case h11 => rfl
        refine WA.take 2 rfl qK qK qK rfl rfl qD (pureV_ok tab_ok rfl (fun _ => rfl)) qS qR ?_
        refine WA.take 5 rfl qK qK qK rfl rfl qD (pureV_ok tab_ok rfl (fun _ => rfl)) qS qR ?_
        refine WA.br2 (i := 3) (j := 6) qK ?_ ?_
        ·
         refine WS.yl rfl rfl rfl qD (Yl.index tab_ok rfl rfl rfl rfl rfl rfl (fun _ => rfl) qA (by intro _; first | exact fun _ _ _ _ => ha10 qO | exact fun _ _ _ _ => rfl | exact RS.has qU | exact fun _ _ _ _ => qU | exact HasMem.ownD 0 rfl | exact HasMem.ownD 1 rfl | exact HasMem.ownD 2 rfl | exact HasMem.ownD 3 rfl | exact HasMem.ownD 4 rfl | exact HasMem.ownD 5 rfl)) qS qR ?_
         refine WA.br2 (i := 4) (j := 6) qK ?_ ?_
         ·
          refine' WS.yl rfl rfl rfl qD (Yl.load1 tab_ok rfl rfl rfl (fun _ => rfl) ?r12 rfl ?h12) qS qR ?_
          case r12 => (exact Rd.slD 1 rfl qX)
          case h12 => rfl
          refine WA.callAt 4 6 rfl qK en12 rfl rfl qD (CallOp.mkT rfl rfl rfl rfl) rfl (N_C w0 ha (by constructor <;> decide) _) ?_
          rintro _ _ _ _ - ⟨rfl, rfl, rfl, rfl⟩
          refine ⟨RLe.refl _, qS, ?_⟩
          refine WA.take 7 rfl qK qK qK rfl rfl qD (Yl.sub rfl rfl rfl (fun _ => rfl) qA) qS qR ?_
          refine WA.yl 8 rfl qK rfl rfl qD (Yl.add rfl rfl rfl (fun _ => rfl) qA) qS qR ?_
          refine WA.yl 9 rfl qK rfl rfl qD (Yl.index tab_ok rfl rfl rfl rfl rfl rfl (fun _ => rfl) qA (by intro _; first | exact fun _ _ _ _ => ha10 qO | exact fun _ _ _ _ => rfl | exact RS.has qU | exact fun _ _ _ _ => qU | exact HasMem.ownD 0 rfl | exact HasMem.ownD 1 rfl | exact HasMem.ownD 2 rfl | exact HasMem.ownD 3 rfl | exact HasMem.ownD 4 rfl | exact HasMem.ownD 5 rfl)) qS qR ?_
          refine WA.effN 10 rfl qK rfl rfl (Ef.storeD _ 1 tab_ok rfl rfl rfl rfl rfl qX rfl rfl rfl rfl ?_)
          refine ⟨by first | exact RLe.refl _ | assumption, qS, ?_⟩
          refine WA.done qK ?_
          refine WE.blk _ (WE.nxt ?_)
          (refine W.cap 1 rfl ?_; intro hcp; rw [List.length_map] at hcp; (try rw [List.length_set] at hcp); refine W.freeze (enc := encI) 1 rfl ?_; intro R1 hR1 hfz)
          refine W.seq (W.region _ ?_)
          refine' WG.y rfl rfl qD (Yl.load1 tab_ok rfl rfl rfl (fun _ => rfl) ?r13 rfl ?h13) ?_
          case r13 => (exact Rd.blk 0 rfl)
          case h13 => rfl
          refine WL.efN rfl rfl (Ef.store0 1 tab_ok rfl rfl rfl rfl rfl rfl rfl rfl ?_)
          refine WG.nil (WE.nxt (W.ret ?_))
          refine WE.retFS (E' := srcE b a cp xs (c + 1 + 1 + 1) :: F) qS tab_ok [_] rfl ⟨⟨_, _, _, rfl, rfl, rfl, ((by first | exact Rd.blk 0 rfl | exact Rd.blk 1 rfl | exact Rd.blk 2 rfl | exact Rd.blk 3 rfl | exact Rd.blk 4 rfl | exact Rd.blk 5 rfl)), rfl⟩, trivial⟩ (hR1) ?_
          exact ⟨_, [], rfl, a10, c10, _, ⟨c1.vals.set ((i : Int)).toNat (_), c1.per, c1.inc⟩, by (try dsimp only); rw [List.length_set]; rfl, hfz, by (try dsimp only); (try rw [List.length_set]); omega, by (try dsimp only); (try rw [List.length_set]); omega, rfl, rfl⟩
         ·
          refine WS.callAt 4 rfl en12 rfl rfl qD (CallOp.mkT rfl rfl rfl rfl) rfl (N_C w0 ha (by constructor <;> decide) _) ?_
          rintro _ _ _ _ - ⟨rfl, rfl, rfl, rfl⟩
          refine ⟨by first | exact RLe.refl _ | assumption, qS, ?_⟩
          refine WA.take 7 rfl qK qK qK rfl rfl qD (Yl.sub rfl rfl rfl (fun _ => rfl) qA) qS qR ?_
          refine' WA.yl 4 rfl qK rfl rfl qD (Yl.load1 tab_ok rfl rfl rfl (fun _ => rfl) ?r14 rfl ?h14) qS qR ?_
          case r14 => (exact Rd.slD 1 rfl qX)
          case h14 => rfl
          refine WA.yl 8 rfl qK rfl rfl qD (Yl.add rfl rfl rfl (fun _ => rfl) qA) qS qR ?_
          refine WA.yl 9 rfl qK rfl rfl qD (Yl.index tab_ok rfl rfl rfl rfl rfl rfl (fun _ => rfl) qA (by intro _; first | exact fun _ _ _ _ => ha10 qO | exact fun _ _ _ _ => rfl | exact RS.has qU | exact fun _ _ _ _ => qU | exact HasMem.ownD 0 rfl | exact HasMem.ownD 1 rfl | exact HasMem.ownD 2 rfl | exact HasMem.ownD 3 rfl | exact HasMem.ownD 4 rfl | exact HasMem.ownD 5 rfl)) qS qR ?_
          refine WA.effN 10 rfl qK rfl rfl (Ef.storeD _ 1 tab_ok rfl rfl rfl rfl rfl qX rfl rfl rfl rfl ?_)
          refine ⟨by first | exact RLe.refl _ | assumption, qS, ?_⟩
          refine WA.done qK ?_
          refine WE.blk _ (WE.nxt ?_)
          (refine W.cap 1 rfl ?_; intro hcp; rw [List.length_map] at hcp; (try rw [List.length_set] at hcp); refine W.freeze (enc := encI) 1 rfl ?_; intro R1 hR1 hfz)
          refine W.seq (W.region _ ?_)
          refine' WG.y rfl rfl qD (Yl.load1 tab_ok rfl rfl rfl (fun _ => rfl) ?r15 rfl ?h15) ?_
          case r15 => (exact Rd.blk 0 rfl)
          case h15 => rfl
          refine WL.efN rfl rfl (Ef.store0 1 tab_ok rfl rfl rfl rfl rfl rfl rfl rfl ?_)
          refine WG.nil (WE.nxt (W.ret ?_))
          refine WE.retFS (E' := srcE b a cp xs (c + 1 + 1 + 1) :: F) qS tab_ok [_] rfl ⟨⟨_, _, _, rfl, rfl, rfl, ((by first | exact Rd.blk 0 rfl | exact Rd.blk 1 rfl | exact Rd.blk 2 rfl | exact Rd.blk 3 rfl | exact Rd.blk 4 rfl | exact Rd.blk 5 rfl)), rfl⟩, trivial⟩ (hR1) ?_
          exact ⟨_, [], rfl, a10, c10, _, ⟨c1.vals.set ((i : Int)).toNat (_), c1.per, c1.inc⟩, by (try dsimp only); rw [List.length_set]; rfl, hfz, by (try dsimp only); (try rw [List.length_set]); omega, by (try dsimp only); (try rw [List.length_set]); omega, rfl, rfl⟩
        ·
         refine WS.callAt 4 rfl en12 rfl rfl qD (CallOp.mkT rfl rfl rfl rfl) rfl (N_C w0 ha (by constructor <;> decide) _) ?_
         rintro _ _ _ _ - ⟨rfl, rfl, rfl, rfl⟩
         refine ⟨by first | exact RLe.refl _ | assumption, qS, ?_⟩
         refine WA.take 7 rfl qK qK qK rfl rfl qD (Yl.sub rfl rfl rfl (fun _ => rfl) qA) qS qR ?_
         refine WA.yl 3 rfl qK rfl rfl qD (Yl.index tab_ok rfl rfl rfl rfl rfl rfl (fun _ => rfl) qA (by intro _; first | exact fun _ _ _ _ => ha10 qO | exact fun _ _ _ _ => rfl | exact RS.has qU | exact fun _ _ _ _ => qU | exact HasMem.ownD 0 rfl | exact HasMem.ownD 1 rfl | exact HasMem.ownD 2 rfl | exact HasMem.ownD 3 rfl | exact HasMem.ownD 4 rfl | exact HasMem.ownD 5 rfl)) qS qR ?_
         refine' WA.yl 4 rfl qK rfl rfl qD (Yl.load1 tab_ok rfl rfl rfl (fun _ => rfl) ?r16 rfl ?h16) qS qR ?_
         case r16 => (exact Rd.slD 1 rfl qX)
         case h16 => rfl
         refine WA.yl 8 rfl qK rfl rfl qD (Yl.add rfl rfl rfl (fun _ => rfl) qA) qS qR ?_
         refine WA.yl 9 rfl qK rfl rfl qD (Yl.index tab_ok rfl rfl rfl rfl rfl rfl (fun _ => rfl) qA (by intro _; first | exact fun _ _ _ _ => ha10 qO | exact fun _ _ _ _ => rfl | exact RS.has qU | exact fun _ _ _ _ => qU | exact HasMem.ownD 0 rfl | exact HasMem.ownD 1 rfl | exact HasMem.ownD 2 rfl | exact HasMem.ownD 3 rfl | exact HasMem.ownD 4 rfl | exact HasMem.ownD 5 rfl)) qS qR ?_
         refine WA.effN 10 rfl qK rfl rfl (Ef.storeD _ 1 tab_ok rfl rfl rfl rfl rfl qX rfl rfl rfl rfl ?_)
         refine ⟨by first | exact RLe.refl _ | assumption, qS, ?_⟩
         refine WA.done qK ?_
         refine WE.blk _ (WE.nxt ?_)
         (refine W.cap 1 rfl ?_; intro hcp; rw [List.length_map] at hcp; (try rw [List.length_set] at hcp); refine W.freeze (enc := encI) 1 rfl ?_; intro R1 hR1 hfz)
         refine W.seq (W.region _ ?_)
         refine' WG.y rfl rfl qD (Yl.load1 tab_ok rfl rfl rfl (fun _ => rfl) ?r17 rfl ?h17) ?_
         case r17 => (exact Rd.blk 0 rfl)
         case h17 => rfl
         refine WL.efN rfl rfl (Ef.store0 1 tab_ok rfl rfl rfl rfl rfl rfl rfl rfl ?_)
         refine WG.nil (WE.nxt (W.ret ?_))
         refine WE.retFS (E' := srcE b a cp xs (c + 1 + 1 + 1) :: F) qS tab_ok [_] rfl ⟨⟨_, _, _, rfl, rfl, rfl, ((by first | exact Rd.blk 0 rfl | exact Rd.blk 1 rfl | exact Rd.blk 2 rfl | exact Rd.blk 3 rfl | exact Rd.blk 4 rfl | exact Rd.blk 5 rfl)), rfl⟩, trivial⟩ (hR1) ?_
         exact ⟨_, [], rfl, a10, c10, _, ⟨c1.vals.set ((i : Int)).toNat (_), c1.per, c1.inc⟩, by (try dsimp only); rw [List.length_set]; rfl, hfz, by (try dsimp only); (try rw [List.length_set]); omega, by (try dsimp only); (try rw [List.length_set]); omega, rfl, rfl⟩
       ·try dsimp only at hc5
        refine W.block ?_
        refine W.loopK (β := List Int × Option Addr × Nat × Nat) (fun (qs, aq, cq, cn) => 0 < qs.length ∧ qs.length ≤ 401) (fun (qs, aq, cq, cn) => []) [0, 4, 5] [_, _, _] [] _ rfl (fun (qs, aq, cq, cn) => [(0, .blk b5 [.slice aq qs.length cq, .int .i64 c1.per, .int .i64 c1.inc]), (1, .sl 3 1 aq cq ((qs).map encI)), (4, srcE b a cp xs cn)]) (fun (qs, aq, cq, cn) => 401 - qs.length) ((c1.vals, a10, c10, c + 1 + 1)) (⟨by (try dsimp only); omega, by (try dsimp only); omega⟩) ⟨rfl, rfl, rfl, rfl⟩ qS ?_
        intro zz hst
        obtain ⟨qs, aq, cq, cn⟩ := zz
        dsimp only [zipE, setAll, List.cons_append, List.nil_append, List.set_cons_zero, List.set_cons_succ] at hst ⊢
        obtain ⟨hq0, hq1⟩ := hst
        have hm3 := mod_range (nth xs cn) (show (1 : Int) ≤ 2 by decide)
        refine W.seq (W.seq ?_)
        refine W.regionH _ (ES := [.blk b5 [.slice aq qs.length cq, .int .i64 c1.per, .int .i64 c1.inc]]) mixed ?_
        refine WA.take 0 rfl qK qK qK rfl rfl qD (pureV_ok tab_ok rfl (fun _ => rfl)) qS qR ?_
        refine' WA.take 1 rfl qK qK qK rfl rfl qD (Yl.load1 tab_ok rfl rfl rfl (fun _ => rfl) ?r18 rfl ?h18) qS qR ?_
        case r18 => apply Rd.add; (exact Rd.blk 0 rfl)
        case h18 => rfl
        refine WA.take 2 rfl qK qK qK rfl rfl qD (pureV_ok tab_ok rfl (fun _ => rfl)) qS qR ?_
        refine WA.take 3 rfl qK qK qK rfl rfl qD (pureV_ok tab_ok rfl (fun _ => rfl)) qS qR ?_
        refine WA.callAt 4 4 rfl qK en12 rfl rfl qD (CallOp.mkT rfl rfl rfl rfl) rfl (N_C w0 ha (by constructor <;> decide) _) ?_
        rintro _ _ _ _ - ⟨rfl, rfl, rfl, rfl⟩
        refine ⟨RLe.refl _, qS, ?_⟩
        refine WA.take 5 rfl qK qK qK rfl rfl qD (Yl.add rfl rfl rfl (fun _ => rfl) qA) qS qR ?_
        refine WA.take 6 rfl qK qK qK rfl rfl qD (pureV_ok tab_ok rfl (fun _ => rfl)) qS qR ?_
        refine WA.done qK ?_
        refine WE.nxt ?_
        refine W.condD rfl (fun hc6 => ?_) (fun hc6 => ?_)
        ·try dsimp only at hc6
         refine W.skip (WE.nxt (W.block ?_))
         refine W.regionH _ (ES := []) mixed ?_
         refine WA.take 0 rfl qK qK qK rfl rfl qD (pureV_ok tab_ok rfl (fun _ => rfl)) qS qR ?_
         refine WA.take 2 rfl qK qK qK rfl rfl qD (pureV_ok tab_ok rfl (fun _ => rfl)) qS qR ?_
         refine WA.take 4 rfl qK qK qK rfl rfl qD (pureV_ok tab_ok rfl (fun _ => rfl)) qS qR ?_
         refine WA.br3 (i := 1) (j := 3) (k := 5) qK ?_ ?_ ?_
         ·
          refine' WS.yl rfl rfl rfl qD (Yl.load1 tab_ok rfl rfl rfl (fun _ => rfl) ?r19 rfl ?h19) qS qR ?_
          case r19 => apply Rd.add; (exact Rd.blk 0 rfl)
          case h19 => rfl
          refine WA.br2 (i := 3) (j := 5) qK ?_ ?_
          ·
           refine' WS.yl rfl rfl rfl qD (Yl.load1 tab_ok rfl rfl rfl (fun _ => rfl) ?r20 rfl ?h20) qS qR ?_
           case r20 => apply Rd.add; (exact Rd.blk 0 rfl)
           case h20 => rfl
           refine' WA.yl 5 rfl qK rfl rfl qD (Yl.load1 tab_ok rfl rfl rfl (fun _ => rfl) ?r21 rfl ?h21) qS qR ?_
           case r21 => apply Rd.add; (exact Rd.blk 0 rfl)
           case h21 => rfl
           refine WA.take 6 rfl qK qK qK rfl rfl qD (pureV_ok tab_ok rfl (fun _ => rfl)) qS qR ?_
           refine WA.take 7 rfl qK qK qK rfl rfl qD (Yl.sub rfl rfl rfl (fun _ => rfl) qA) qS qR ?_
           refine WA.yl 8 rfl qK rfl rfl qD (Yl.index tab_ok rfl rfl rfl rfl rfl rfl (fun _ => rfl) qA (by intro _; first | exact fun _ _ _ _ => ha10 qO | exact fun _ _ _ _ => rfl | exact RS.has qU | exact fun _ _ _ _ => qU | exact HasMem.ownD 0 rfl | exact HasMem.ownD 1 rfl | exact HasMem.ownD 2 rfl | exact HasMem.ownD 3 rfl | exact HasMem.ownD 4 rfl | exact HasMem.ownD 5 rfl)) qS qR ?_
           refine' WA.yl 9 rfl qK rfl rfl qD (Yl.load1 tab_ok rfl rfl rfl (fun _ => rfl) ?r22 rfl ?h22) qS qR ?_
           case r22 => (exact Rd.slD 1 rfl qX)
           case h22 => rfl
           refine WA.eff 10 rfl qK rfl rfl qD (Ef.buildSliceD (enc := encI) (parts := [.tmp 44]) [_] tab_ok rfl rfl rfl rfl rfl rfl rfl rfl qD qD (fun a45 => ?_))
           refine ⟨by first | exact RLe.refl _ | assumption, qS, ?_⟩
           refine WA.eff 11 rfl (by kernel_rfl) rfl rfl (by decide) (Ef.appendD 2 0 tab_ok rfl rfl rfl rfl rfl rfl rfl rfl rfl rfl rfl (fun _ _ => rfl) (by simp only [List.length_cons, List.length_nil]; omega) (by simp only [List.length_cons, List.length_nil]; omega) (fun a46 c46 ha46 => ?_))
           refine ⟨by first | exact RLe.refl _ | assumption, qS, ?_⟩
           refine WA.take 12 rfl qK qK qK rfl rfl qD (pureV_ok tab_ok rfl (fun _ => rfl)) qS qR ?_
           refine WA.effN 13 rfl qK rfl rfl (Ef.store 1 tab_ok rfl rfl rfl rfl rfl rfl rfl rfl ?_)
           refine ⟨by first | exact RLe.refl _ | assumption, qS, ?_⟩
           refine WA.done qK ?_
           refine WE.blk _ ?_
           refine WE.again ((qs ++ [nth qs ((qs.length : Int) - 1).toNat], a46, c46, cn + 1)) (⟨by simp, by simp only [List.length_append, List.length_cons, List.length_nil]; omega⟩) (by simp only [List.length_append, List.length_cons, List.length_nil]; omega) ⟨rfl, rfl, rfl, rfl⟩ (RLe.refl _) qS
          ·
           refine' WS.yl rfl rfl rfl qD (Yl.load1 tab_ok rfl rfl rfl (fun _ => rfl) ?r23 rfl ?h23) qS qR ?_
           case r23 => apply Rd.add; (exact Rd.blk 0 rfl)
           case h23 => rfl
           refine WA.take 6 rfl qK qK qK rfl rfl qD (pureV_ok tab_ok rfl (fun _ => rfl)) qS qR ?_
           refine WA.take 7 rfl qK qK qK rfl rfl qD (Yl.sub rfl rfl rfl (fun _ => rfl) qA) qS qR ?_
           refine' WA.yl 3 rfl qK rfl rfl qD (Yl.load1 tab_ok rfl rfl rfl (fun _ => rfl) ?r24 rfl ?h24) qS qR ?_
           case r24 => apply Rd.add; (exact Rd.blk 0 rfl)
           case h24 => rfl
           refine WA.yl 8 rfl qK rfl rfl qD (Yl.index tab_ok rfl rfl rfl rfl rfl rfl (fun _ => rfl) qA (by intro _; first | exact fun _ _ _ _ => ha10 qO | exact fun _ _ _ _ => rfl | exact RS.has qU | exact fun _ _ _ _ => qU | exact HasMem.ownD 0 rfl | exact HasMem.ownD 1 rfl | exact HasMem.ownD 2 rfl | exact HasMem.ownD 3 rfl | exact HasMem.ownD 4 rfl | exact HasMem.ownD 5 rfl)) qS qR ?_
           refine' WA.yl 9 rfl qK rfl rfl qD (Yl.load1 tab_ok rfl rfl rfl (fun _ => rfl) ?r25 rfl ?h25) qS qR ?_
           case r25 => (exact Rd.slD 1 rfl qX)
           case h25 => rfl
           refine WA.eff 10 rfl qK rfl rfl qD (Ef.buildSliceD (enc := encI) (parts := [.tmp 44]) [_] tab_ok rfl rfl rfl rfl rfl rfl rfl rfl qD qD (fun a45 => ?_))
           refine ⟨by first | exact RLe.refl _ | assumption, qS, ?_⟩
           refine WA.eff 11 rfl (by kernel_rfl) rfl rfl (by decide) (Ef.appendD 2 0 tab_ok rfl rfl rfl rfl rfl rfl rfl rfl rfl rfl rfl (fun _ _ => rfl) (by simp only [List.length_cons, List.length_nil]; omega) (by simp only [List.length_cons, List.length_nil]; omega) (fun a46 c46 ha46 => ?_))
           refine ⟨by first | exact RLe.refl _ | assumption, qS, ?_⟩
           refine WA.take 12 rfl qK qK qK rfl rfl qD (pureV_ok tab_ok rfl (fun _ => rfl)) qS qR ?_
           refine WA.effN 13 rfl qK rfl rfl (Ef.store 1 tab_ok rfl rfl rfl rfl rfl rfl rfl rfl ?_)
           refine ⟨by first | exact RLe.refl _ | assumption, qS, ?_⟩
           refine WA.done qK ?_
           refine WE.blk _ ?_
           refine WE.again ((qs ++ [nth qs ((qs.length : Int) - 1).toNat], a46, c46, cn + 1)) (⟨by simp, by simp only [List.length_append, List.length_cons, List.length_nil]; omega⟩) (by simp only [List.length_append, List.length_cons, List.length_nil]; omega) ⟨rfl, rfl, rfl, rfl⟩ (RLe.refl _) qS
         ·
          refine' WS.yl rfl rfl rfl qD (Yl.load1 tab_ok rfl rfl rfl (fun _ => rfl) ?r26 rfl ?h26) qS qR ?_
          case r26 => apply Rd.add; (exact Rd.blk 0 rfl)
          case h26 => rfl
          refine WA.br2 (i := 1) (j := 5) qK ?_ ?_
          ·
           refine' WS.yl rfl rfl rfl qD (Yl.load1 tab_ok rfl rfl rfl (fun _ => rfl) ?r27 rfl ?h27) qS qR ?_
           case r27 => apply Rd.add; (exact Rd.blk 0 rfl)
           case h27 => rfl
           refine' WA.yl 5 rfl qK rfl rfl qD (Yl.load1 tab_ok rfl rfl rfl (fun _ => rfl) ?r28 rfl ?h28) qS qR ?_
           case r28 => apply Rd.add; (exact Rd.blk 0 rfl)
           case h28 => rfl
           refine WA.take 6 rfl qK qK qK rfl rfl qD (pureV_ok tab_ok rfl (fun _ => rfl)) qS qR ?_
           refine WA.take 7 rfl qK qK qK rfl rfl qD (Yl.sub rfl rfl rfl (fun _ => rfl) qA) qS qR ?_
           refine WA.yl 8 rfl qK rfl rfl qD (Yl.index tab_ok rfl rfl rfl rfl rfl rfl (fun _ => rfl) qA (by intro _; first | exact fun _ _ _ _ => ha10 qO | exact fun _ _ _ _ => rfl | exact RS.has qU | exact fun _ _ _ _ => qU | exact HasMem.ownD 0 rfl | exact HasMem.ownD 1 rfl | exact HasMem.ownD 2 rfl | exact HasMem.ownD 3 rfl | exact HasMem.ownD 4 rfl | exact HasMem.ownD 5 rfl)) qS qR ?_
           refine' WA.yl 9 rfl qK rfl rfl qD (Yl.load1 tab_ok rfl rfl rfl (fun _ => rfl) ?r29 rfl ?h29) qS qR ?_
           case r29 => (exact Rd.slD 1 rfl qX)
           case h29 => rfl
           refine WA.eff 10 rfl qK rfl rfl qD (Ef.buildSliceD (enc := encI) (parts := [.tmp 44]) [_] tab_ok rfl rfl rfl rfl rfl rfl rfl rfl qD qD (fun a45 => ?_))
           refine ⟨by first | exact RLe.refl _ | assumption, qS, ?_⟩
           refine WA.eff 11 rfl (by kernel_rfl) rfl rfl (by decide) (Ef.appendD 2 0 tab_ok rfl rfl rfl rfl rfl rfl rfl rfl rfl rfl rfl (fun _ _ => rfl) (by simp only [List.length_cons, List.length_nil]; omega) (by simp only [List.length_cons, List.length_nil]; omega) (fun a46 c46 ha46 => ?_))
           refine ⟨by first | exact RLe.refl _ | assumption, qS, ?_⟩
           refine WA.take 12 rfl qK qK qK rfl rfl qD (pureV_ok tab_ok rfl (fun _ => rfl)) qS qR ?_
           refine WA.effN 13 rfl qK rfl rfl (Ef.store 1 tab_ok rfl rfl rfl rfl rfl rfl rfl rfl ?_)
           refine ⟨by first | exact RLe.refl _ | assumption, qS, ?_⟩
           refine WA.done qK ?_
           refine WE.blk _ ?_
           refine WE.again ((qs ++ [nth qs ((qs.length : Int) - 1).toNat], a46, c46, cn + 1)) (⟨by simp, by simp only [List.length_append, List.length_cons, List.length_nil]; omega⟩) (by simp only [List.length_append, List.length_cons, List.length_nil]; omega) ⟨rfl, rfl, rfl, rfl⟩ (RLe.refl _) qS
          ·
           refine' WS.yl rfl rfl rfl qD (Yl.load1 tab_ok rfl rfl rfl (fun _ => rfl) ?r30 rfl ?h30) qS qR ?_
           case r30 => apply Rd.add; (exact Rd.blk 0 rfl)
           case h30 => rfl
           refine WA.take 6 rfl qK qK qK rfl rfl qD (pureV_ok tab_ok rfl (fun _ => rfl)) qS qR ?_
           refine WA.take 7 rfl qK qK qK rfl rfl qD (Yl.sub rfl rfl rfl (fun _ => rfl) qA) qS qR ?_
           refine WA.br2 (i := 1) (j := 8) qK ?_ ?_
           ·
            refine' WS.yl rfl rfl rfl qD (Yl.load1 tab_ok rfl rfl rfl (fun _ => rfl) ?r31 rfl ?h31) qS qR ?_
            case r31 => apply Rd.add; (exact Rd.blk 0 rfl)
            case h31 => rfl
            refine WA.yl 8 rfl qK rfl rfl qD (Yl.index tab_ok rfl rfl rfl rfl rfl rfl (fun _ => rfl) qA (by intro _; first | exact fun _ _ _ _ => ha10 qO | exact fun _ _ _ _ => rfl | exact RS.has qU | exact fun _ _ _ _ => qU | exact HasMem.ownD 0 rfl | exact HasMem.ownD 1 rfl | exact HasMem.ownD 2 rfl | exact HasMem.ownD 3 rfl | exact HasMem.ownD 4 rfl | exact HasMem.ownD 5 rfl)) qS qR ?_
            refine' WA.yl 9 rfl qK rfl rfl qD (Yl.load1 tab_ok rfl rfl rfl (fun _ => rfl) ?r32 rfl ?h32) qS qR ?_
            case r32 => (exact Rd.slD 1 rfl qX)
            case h32 => rfl
            refine WA.eff 10 rfl qK rfl rfl qD (Ef.buildSliceD (enc := encI) (parts := [.tmp 44]) [_] tab_ok rfl rfl rfl rfl rfl rfl rfl rfl qD qD (fun a45 => ?_))
            refine ⟨by first | exact RLe.refl _ | assumption, qS, ?_⟩
            refine WA.eff 11 rfl (by kernel_rfl) rfl rfl (by decide) (Ef.appendD 2 0 tab_ok rfl rfl rfl rfl rfl rfl rfl rfl rfl rfl rfl (fun _ _ => rfl) (by simp only [List.length_cons, List.length_nil]; omega) (by simp only [List.length_cons, List.length_nil]; omega) (fun a46 c46 ha46 => ?_))
            refine ⟨by first | exact RLe.refl _ | assumption, qS, ?_⟩
            refine WA.take 12 rfl qK qK qK rfl rfl qD (pureV_ok tab_ok rfl (fun _ => rfl)) qS qR ?_
            refine WA.effN 13 rfl qK rfl rfl (Ef.store 1 tab_ok rfl rfl rfl rfl rfl rfl rfl rfl ?_)
            refine ⟨by first | exact RLe.refl _ | assumption, qS, ?_⟩
            refine WA.done qK ?_
            refine WE.blk _ ?_
            refine WE.again ((qs ++ [nth qs ((qs.length : Int) - 1).toNat], a46, c46, cn + 1)) (⟨by simp, by simp only [List.length_append, List.length_cons, List.length_nil]; omega⟩) (by simp only [List.length_append, List.length_cons, List.length_nil]; omega) ⟨rfl, rfl, rfl, rfl⟩ (RLe.refl _) qS
           ·
            refine WS.yl rfl rfl rfl qD (Yl.index tab_ok rfl rfl rfl rfl rfl rfl (fun _ => rfl) qA (by intro _; first | exact fun _ _ _ _ => ha10 qO | exact fun _ _ _ _ => rfl | exact RS.has qU | exact fun _ _ _ _ => qU | exact HasMem.ownD 0 rfl | exact HasMem.ownD 1 rfl | exact HasMem.ownD 2 rfl | exact HasMem.ownD 3 rfl | exact HasMem.ownD 4 rfl | exact HasMem.ownD 5 rfl)) qS qR ?_
            refine WA.br2 (i := 1) (j := 9) qK ?_ ?_
            ·
             refine' WS.yl rfl rfl rfl qD (Yl.load1 tab_ok rfl rfl rfl (fun _ => rfl) ?r33 rfl ?h33) qS qR ?_
             case r33 => apply Rd.add; (exact Rd.blk 0 rfl)
             case h33 => rfl
             refine' WA.yl 9 rfl qK rfl rfl qD (Yl.load1 tab_ok rfl rfl rfl (fun _ => rfl) ?r34 rfl ?h34) qS qR ?_
             case r34 => (exact Rd.slD 1 rfl qX)
             case h34 => rfl
             refine WA.eff 10 rfl qK rfl rfl qD (Ef.buildSliceD (enc := encI) (parts := [.tmp 44]) [_] tab_ok rfl rfl rfl rfl rfl rfl rfl rfl qD qD (fun a45 => ?_))
             refine ⟨by first | exact RLe.refl _ | assumption, qS, ?_⟩
             refine WA.eff 11 rfl (by kernel_rfl) rfl rfl (by decide) (Ef.appendD 2 0 tab_ok rfl rfl rfl rfl rfl rfl rfl rfl rfl rfl rfl (fun _ _ => rfl) (by simp only [List.length_cons, List.length_nil]; omega) (by simp only [List.length_cons, List.length_nil]; omega) (fun a46 c46 ha46 => ?_))
             refine ⟨by first | exact RLe.refl _ | assumption, qS, ?_⟩
             refine WA.take 12 rfl qK qK qK rfl rfl qD (pureV_ok tab_ok rfl (fun _ => rfl)) qS qR ?_
             refine WA.effN 13 rfl qK rfl rfl (Ef.store 1 tab_ok rfl rfl rfl rfl rfl rfl rfl rfl ?_)
             refine ⟨by first | exact RLe.refl _ | assumption, qS, ?_⟩
             refine WA.done qK ?_
             refine WE.blk _ ?_
             refine WE.again ((qs ++ [nth qs ((qs.length : Int) - 1).toNat], a46, c46, cn + 1)) (⟨by simp, by simp only [List.length_append, List.length_cons, List.length_nil]; omega⟩) (by simp only [List.length_append, List.length_cons, List.length_nil]; omega) ⟨rfl, rfl, rfl, rfl⟩ (RLe.refl _) qS
            ·
             refine' WS.yl rfl rfl rfl qD (Yl.load1 tab_ok rfl rfl rfl (fun _ => rfl) ?r35 rfl ?h35) qS qR ?_
             case r35 => (exact Rd.slD 1 rfl qX)
             case h35 => rfl
             refine WA.br2 (i := 1) (j := 10) qK ?_ ?_
             ·
              refine' WS.yl rfl rfl rfl qD (Yl.load1 tab_ok rfl rfl rfl (fun _ => rfl) ?r36 rfl ?h36) qS qR ?_
              case r36 => apply Rd.add; (exact Rd.blk 0 rfl)
              case h36 => rfl
              refine WA.eff 10 rfl qK rfl rfl qD (Ef.buildSliceD (enc := encI) (parts := [.tmp 44]) [_] tab_ok rfl rfl rfl rfl rfl rfl rfl rfl qD qD (fun a45 => ?_))
              refine ⟨by first | exact RLe.refl _ | assumption, qS, ?_⟩
              refine WA.eff 11 rfl (by kernel_rfl) rfl rfl (by decide) (Ef.appendD 2 0 tab_ok rfl rfl rfl rfl rfl rfl rfl rfl rfl rfl rfl (fun _ _ => rfl) (by simp only [List.length_cons, List.length_nil]; omega) (by simp only [List.length_cons, List.length_nil]; omega) (fun a46 c46 ha46 => ?_))
              refine ⟨by first | exact RLe.refl _ | assumption, qS, ?_⟩
              refine WA.take 12 rfl qK qK qK rfl rfl qD (pureV_ok tab_ok rfl (fun _ => rfl)) qS qR ?_
              refine WA.effN 13 rfl qK rfl rfl (Ef.store 1 tab_ok rfl rfl rfl rfl rfl rfl rfl rfl ?_)
              refine ⟨by first | exact RLe.refl _ | assumption, qS, ?_⟩
              refine WA.done qK ?_
              refine WE.blk _ ?_
              refine WE.again ((qs ++ [nth qs ((qs.length : Int) - 1).toNat], a46, c46, cn + 1)) (⟨by simp, by simp only [List.length_append, List.length_cons, List.length_nil]; omega⟩) (by simp only [List.length_append, List.length_cons, List.length_nil]; omega) ⟨rfl, rfl, rfl, rfl⟩ (RLe.refl _) qS
             ·
              refine WS.eff rfl rfl rfl qD (Ef.buildSliceD (enc := encI) (parts := [.tmp 44]) [_] tab_ok rfl rfl rfl rfl rfl rfl rfl rfl qD qD (fun a45 => ?_))
              refine ⟨by first | exact RLe.refl _ | assumption, qS, ?_⟩
              refine' WA.yl 1 rfl qK rfl rfl qD (Yl.load1 tab_ok rfl rfl rfl (fun _ => rfl) ?r37 rfl ?h37) qS qR ?_
              case r37 => apply Rd.add; (exact Rd.blk 1 rfl)
              case h37 => rfl
              refine WA.eff 11 rfl (by kernel_rfl) rfl rfl (by decide) (Ef.appendD 2 0 tab_ok rfl rfl rfl rfl rfl rfl rfl rfl rfl rfl rfl (fun _ _ => rfl) (by simp only [List.length_cons, List.length_nil]; omega) (by simp only [List.length_cons, List.length_nil]; omega) (fun a46 c46 ha46 => ?_))
              refine ⟨by first | exact RLe.refl _ | assumption, qS, ?_⟩
              refine WA.take 12 rfl qK qK qK rfl rfl qD (pureV_ok tab_ok rfl (fun _ => rfl)) qS qR ?_
              refine WA.effN 13 rfl qK rfl rfl (Ef.store 1 tab_ok rfl rfl rfl rfl rfl rfl rfl rfl ?_)
              refine ⟨by first | exact RLe.refl _ | assumption, qS, ?_⟩
              refine WA.done qK ?_
              refine WE.blk _ ?_
              refine WE.again ((qs ++ [nth qs ((qs.length : Int) - 1).toNat], a46, c46, cn + 1)) (⟨by simp, by simp only [List.length_append, List.length_cons, List.length_nil]; omega⟩) (by simp only [List.length_append, List.length_cons, List.length_nil]; omega) ⟨rfl, rfl, rfl, rfl⟩ (RLe.refl _) qS
         ·
          refine' WS.yl rfl rfl rfl qD (Yl.load1 tab_ok rfl rfl rfl (fun _ => rfl) ?r38 rfl ?h38) qS qR ?_
          case r38 => apply Rd.add; (exact Rd.blk 0 rfl)
          case h38 => rfl
          refine WA.take 6 rfl qK qK qK rfl rfl qD (pureV_ok tab_ok rfl (fun _ => rfl)) qS qR ?_
          refine WA.take 7 rfl qK qK qK rfl rfl qD (Yl.sub rfl rfl rfl (fun _ => rfl) qA) qS qR ?_
          refine WA.br2 (i := 1) (j := 3) qK ?_ ?_
          ·
           refine' WS.yl rfl rfl rfl qD (Yl.load1 tab_ok rfl rfl rfl (fun _ => rfl) ?r39 rfl ?h39) qS qR ?_
           case r39 => apply Rd.add; (exact Rd.blk 0 rfl)
           case h39 => rfl
           refine' WA.yl 3 rfl qK rfl rfl qD (Yl.load1 tab_ok rfl rfl rfl (fun _ => rfl) ?r40 rfl ?h40) qS qR ?_
           case r40 => apply Rd.add; (exact Rd.blk 0 rfl)
           case h40 => rfl
           refine WA.yl 8 rfl qK rfl rfl qD (Yl.index tab_ok rfl rfl rfl rfl rfl rfl (fun _ => rfl) qA (by intro _; first | exact fun _ _ _ _ => ha10 qO | exact fun _ _ _ _ => rfl | exact RS.has qU | exact fun _ _ _ _ => qU | exact HasMem.ownD 0 rfl | exact HasMem.ownD 1 rfl | exact HasMem.ownD 2 rfl | exact HasMem.ownD 3 rfl | exact HasMem.ownD 4 rfl | exact HasMem.ownD 5 rfl)) qS qR ?_
           refine' WA.yl 9 rfl qK rfl rfl qD (Yl.load1 tab_ok rfl rfl rfl (fun _ => rfl) ?r41 rfl ?h41) qS qR ?_
           case r41 => (exact Rd.slD 1 rfl qX)
           case h41 => rfl
           refine WA.eff 10 rfl qK rfl rfl qD (Ef.buildSliceD (enc := encI) (parts := [.tmp 44]) [_] tab_ok rfl rfl rfl rfl rfl rfl rfl rfl qD qD (fun a45 => ?_))
           refine ⟨by first | exact RLe.refl _ | assumption, qS, ?_⟩
           refine WA.eff 11 rfl (by kernel_rfl) rfl rfl (by decide) (Ef.appendD 2 0 tab_ok rfl rfl rfl rfl rfl rfl rfl rfl rfl rfl rfl (fun _ _ => rfl) (by simp only [List.length_cons, List.length_nil]; omega) (by simp only [List.length_cons, List.length_nil]; omega) (fun a46 c46 ha46 => ?_))
           refine ⟨by first | exact RLe.refl _ | assumption, qS, ?_⟩
           refine WA.take 12 rfl qK qK qK rfl rfl qD (pureV_ok tab_ok rfl (fun _ => rfl)) qS qR ?_
           refine WA.effN 13 rfl qK rfl rfl (Ef.store 1 tab_ok rfl rfl rfl rfl rfl rfl rfl rfl ?_)
           refine ⟨by first | exact RLe.refl _ | assumption, qS, ?_⟩
           refine WA.done qK ?_
           refine WE.blk _ ?_
           refine WE.again ((qs ++ [nth qs ((qs.length : Int) - 1).toNat], a46, c46, cn + 1)) (⟨by simp, by simp only [List.length_append, List.length_cons, List.length_nil]; omega⟩) (by simp only [List.length_append, List.length_cons, List.length_nil]; omega) ⟨rfl, rfl, rfl, rfl⟩ (RLe.refl _) qS
          ·
           refine' WS.yl rfl rfl rfl qD (Yl.load1 tab_ok rfl rfl rfl (fun _ => rfl) ?r42 rfl ?h42) qS qR ?_
           case r42 => apply Rd.add; (exact Rd.blk 0 rfl)
           case h42 => rfl
           refine WA.br2 (i := 1) (j := 8) qK ?_ ?_
           ·
            refine' WS.yl rfl rfl rfl qD (Yl.load1 tab_ok rfl rfl rfl (fun _ => rfl) ?r43 rfl ?h43) qS qR ?_
            case r43 => apply Rd.add; (exact Rd.blk 0 rfl)
            case h43 => rfl
            refine WA.yl 8 rfl qK rfl rfl qD (Yl.index tab_ok rfl rfl rfl rfl rfl rfl (fun _ => rfl) qA (by intro _; first | exact fun _ _ _ _ => ha10 qO | exact fun _ _ _ _ => rfl | exact RS.has qU | exact fun _ _ _ _ => qU | exact HasMem.ownD 0 rfl | exact HasMem.ownD 1 rfl | exact HasMem.ownD 2 rfl | exact HasMem.ownD 3 rfl | exact HasMem.ownD 4 rfl | exact HasMem.ownD 5 rfl)) qS qR ?_
            refine' WA.yl 9 rfl qK rfl rfl qD (Yl.load1 tab_ok rfl rfl rfl (fun _ => rfl) ?r44 rfl ?h44) qS qR ?_
            case r44 => (exact Rd.slD 1 rfl qX)
            case h44 => rfl
            refine WA.eff 10 rfl qK rfl rfl qD (Ef.buildSliceD (enc := encI) (parts := [.tmp 44]) [_] tab_ok rfl rfl rfl rfl rfl rfl rfl rfl qD qD (fun a45 => ?_))
            refine ⟨by first | exact RLe.refl _ | assumption, qS, ?_⟩
            refine WA.eff 11 rfl (by kernel_rfl) rfl rfl (by decide) (Ef.appendD 2 0 tab_ok rfl rfl rfl rfl rfl rfl rfl rfl rfl rfl rfl (fun _ _ => rfl) (by simp only [List.length_cons, List.length_nil]; omega) (by simp only [List.length_cons, List.length_nil]; omega) (fun a46 c46 ha46 => ?_))
            refine ⟨by first | exact RLe.refl _ | assumption, qS, ?_⟩
            refine WA.take 12 rfl qK qK qK rfl rfl qD (pureV_ok tab_ok rfl (fun _ => rfl)) qS qR ?_
            refine WA.effN 13 rfl qK rfl rfl (Ef.store 1 tab_ok rfl rfl rfl rfl rfl rfl rfl rfl ?_)
            refine ⟨by first | exact RLe.refl _ | assumption, qS, ?_⟩
            refine WA.done qK ?_
            refine WE.blk _ ?_
            refine WE.again ((qs ++ [nth qs ((qs.length : Int) - 1).toNat], a46, c46, cn + 1)) (⟨by simp, by simp only [List.length_append, List.length_cons, List.length_nil]; omega⟩) (by simp only [List.length_append, List.length_cons, List.length_nil]; omega) ⟨rfl, rfl, rfl, rfl⟩ (RLe.refl _) qS
           ·
            refine WS.yl rfl rfl rfl qD (Yl.index tab_ok rfl rfl rfl rfl rfl rfl (fun _ => rfl) qA (by intro _; first | exact fun _ _ _ _ => ha10 qO | exact fun _ _ _ _ => rfl | exact RS.has qU | exact fun _ _ _ _ => qU | exact HasMem.ownD 0 rfl | exact HasMem.ownD 1 rfl | exact HasMem.ownD 2 rfl | exact HasMem.ownD 3 rfl | exact HasMem.ownD 4 rfl | exact HasMem.ownD 5 rfl)) qS qR ?_
            refine WA.br2 (i := 1) (j := 9) qK ?_ ?_
            ·
             refine' WS.yl rfl rfl rfl qD (Yl.load1 tab_ok rfl rfl rfl (fun _ => rfl) ?r45 rfl ?h45) qS qR ?_
             case r45 => apply Rd.add; (exact Rd.blk 0 rfl)
             case h45 => rfl
             refine' WA.yl 9 rfl qK rfl rfl qD (Yl.load1 tab_ok rfl rfl rfl (fun _ => rfl) ?r46 rfl ?h46) qS qR ?_
             case r46 => (exact Rd.slD 1 rfl qX)
             case h46 => rfl
             refine WA.eff 10 rfl qK rfl rfl qD (Ef.buildSliceD (enc := encI) (parts := [.tmp 44]) [_] tab_ok rfl rfl rfl rfl rfl rfl rfl rfl qD qD (fun a45 => ?_))
             refine ⟨by first | exact RLe.refl _ | assumption, qS, ?_⟩
             refine WA.eff 11 rfl (by kernel_rfl) rfl rfl (by decide) (Ef.appendD 2 0 tab_ok rfl rfl rfl rfl rfl rfl rfl rfl rfl rfl rfl (fun _ _ => rfl) (by simp only [List.length_cons, List.length_nil]; omega) (by simp only [List.length_cons, List.length_nil]; omega) (fun a46 c46 ha46 => ?_))
             refine ⟨by first | exact RLe.refl _ | assumption, qS, ?_⟩
             refine WA.take 12 rfl qK qK qK rfl rfl qD (pureV_ok tab_ok rfl (fun _ => rfl)) qS qR ?_
             refine WA.effN 13 rfl qK rfl rfl (Ef.store 1 tab_ok rfl rfl rfl rfl rfl rfl rfl rfl ?_)
             refine ⟨by first | exact RLe.refl _ | assumption, qS, ?_⟩
             refine WA.done qK ?_
             refine WE.blk _ ?_
             refine WE.again ((qs ++ [nth qs ((qs.length : Int) - 1).toNat], a46, c46, cn + 1)) (⟨by simp, by simp only [List.length_append, List.length_cons, List.length_nil]; omega⟩) (by simp only [List.length_append, List.length_cons, List.length_nil]; omega) ⟨rfl, rfl, rfl, rfl⟩ (RLe.refl _) qS
            ·
             refine' WS.yl rfl rfl rfl qD (Yl.load1 tab_ok rfl rfl rfl (fun _ => rfl) ?r47 rfl ?h47) qS qR ?_
             case r47 => (exact Rd.slD 1 rfl qX)
             case h47 => rfl
             refine WA.br2 (i := 1) (j := 10) qK ?_ ?_
             ·
              refine' WS.yl rfl rfl rfl qD (Yl.load1 tab_ok rfl rfl rfl (fun _ => rfl) ?r48 rfl ?h48) qS qR ?_
              case r48 => apply Rd.add; (exact Rd.blk 0 rfl)
              case h48 => rfl
              refine WA.eff 10 rfl qK rfl rfl qD (Ef.buildSliceD (enc := encI) (parts := [.tmp 44]) [_] tab_ok rfl rfl rfl rfl rfl rfl rfl rfl qD qD (fun a45 => ?_))
              refine ⟨by first | exact RLe.refl _ | assumption, qS, ?_⟩
              refine WA.eff 11 rfl (by kernel_rfl) rfl rfl (by decide) (Ef.appendD 2 0 tab_ok rfl rfl rfl rfl rfl rfl rfl rfl rfl rfl rfl (fun _ _ => rfl) (by simp only [List.length_cons, List.length_nil]; omega) (by simp only [List.length_cons, List.length_nil]; omega) (fun a46 c46 ha46 => ?_))
              refine ⟨by first | exact RLe.refl _ | assumption, qS, ?_⟩
              refine WA.take 12 rfl qK qK qK rfl rfl qD (pureV_ok tab_ok rfl (fun _ => rfl)) qS qR ?_
              refine WA.effN 13 rfl qK rfl rfl (Ef.store 1 tab_ok rfl rfl rfl rfl rfl rfl rfl rfl ?_)
              refine ⟨by first | exact RLe.refl _ | assumption, qS, ?_⟩
              refine WA.done qK ?_
              refine WE.blk _ ?_
              refine WE.again ((qs ++ [nth qs ((qs.length : Int) - 1).toNat], a46, c46, cn + 1)) (⟨by simp, by simp only [List.length_append, List.length_cons, List.length_nil]; omega⟩) (by simp only [List.length_append, List.length_cons, List.length_nil]; omega) ⟨rfl, rfl, rfl, rfl⟩ (RLe.refl _) qS
             ·
              refine WS.eff rfl rfl rfl qD (Ef.buildSliceD (enc := encI) (parts := [.tmp 44]) [_] tab_ok rfl rfl rfl rfl rfl rfl rfl rfl qD qD (fun a45 => ?_))
              refine ⟨by first | exact RLe.refl _ | assumption, qS, ?_⟩
              refine' WA.yl 1 rfl qK rfl rfl qD (Yl.load1 tab_ok rfl rfl rfl (fun _ => rfl) ?r49 rfl ?h49) qS qR ?_
              case r49 => apply Rd.add; (exact Rd.blk 1 rfl)
              case h49 => rfl
              refine WA.eff 11 rfl (by kernel_rfl) rfl rfl (by decide) (Ef.appendD 2 0 tab_ok rfl rfl rfl rfl rfl rfl rfl rfl rfl rfl rfl (fun _ _ => rfl) (by simp only [List.length_cons, List.length_nil]; omega) (by simp only [List.length_cons, List.length_nil]; omega) (fun a46 c46 ha46 => ?_))
              refine ⟨by first | exact RLe.refl _ | assumption, qS, ?_⟩
              refine WA.take 12 rfl qK qK qK rfl rfl qD (pureV_ok tab_ok rfl (fun _ => rfl)) qS qR ?_
              refine WA.effN 13 rfl qK rfl rfl (Ef.store 1 tab_ok rfl rfl rfl rfl rfl rfl rfl rfl ?_)
              refine ⟨by first | exact RLe.refl _ | assumption, qS, ?_⟩
              refine WA.done qK ?_
              refine WE.blk _ ?_
              refine WE.again ((qs ++ [nth qs ((qs.length : Int) - 1).toNat], a46, c46, cn + 1)) (⟨by simp, by simp only [List.length_append, List.length_cons, List.length_nil]; omega⟩) (by simp only [List.length_append, List.length_cons, List.length_nil]; omega) ⟨rfl, rfl, rfl, rfl⟩ (RLe.refl _) qS
        ·try dsimp only at hc6
         refine W.exit ?_
         refine WE.then_exit (WE.then_exit (WE.blk_exit (WE.blk _ (WE.nxt ?_))))
         (refine W.cap 1 rfl ?_; intro hcp; rw [List.length_map] at hcp; (try rw [List.length_set] at hcp); refine W.freeze (enc := encI) 1 rfl ?_; intro R1 hR1 hfz)
         refine W.seq (W.region _ ?_)
         refine' WG.y rfl rfl qD (Yl.load1 tab_ok rfl rfl rfl (fun _ => rfl) ?r50 rfl ?h50) ?_
         case r50 => (exact Rd.blk 0 rfl)
         case h50 => rfl
         refine WL.efN rfl rfl (Ef.store0 1 tab_ok rfl rfl rfl rfl rfl rfl rfl rfl ?_)
         refine WG.nil (WE.nxt (W.ret ?_))
         refine WE.retFS (E' := srcE b a cp xs (cn + 1) :: F) qS tab_ok [_] rfl ⟨⟨_, _, _, rfl, rfl, rfl, ((by first | exact Rd.blk 0 rfl | exact Rd.blk 1 rfl | exact Rd.blk 2 rfl | exact Rd.blk 3 rfl | exact Rd.blk 4 rfl | exact Rd.blk 5 rfl)), rfl⟩, trivial⟩ (hR1) ?_
         exact ⟨_, [], rfl, aq, cq, _, ⟨qs, c1.per, c1.inc⟩, rfl, hfz, by (try dsimp only); (try rw [List.length_set]); omega, by (try dsimp only); (try rw [List.length_set]); omega, rfl, rfl⟩
 ·
  refine W.regionH _ (ES := [.blk b3 [.slice fa c1.vals.length fc, .int .i64 c1.per, .int .i64 c1.inc]]) mixed ?_
  refine WA.take 1 rfl qK qK qK rfl rfl qD (pureV_ok tab_ok rfl (fun _ => rfl)) qS qR ?_
  refine' WA.take 2 rfl qK qK qK rfl rfl qD (Yl.load1 tab_ok rfl rfl rfl (fun _ => rfl) ?r51 rfl ?h51) qS qR ?_
  case r51 => apply Rd.add; (exact Rd.blk 0 rfl)
  case h51 => rfl
  refine WA.take 4 rfl qK qK qK rfl rfl qD (pureV_ok tab_ok rfl (fun _ => rfl)) qS qR ?_
  refine' WA.take 5 rfl qK qK qK rfl rfl qD (Yl.load1 tab_ok rfl rfl rfl (fun _ => rfl) ?r52 rfl ?h52) qS qR ?_
  case r52 => apply Rd.add; (exact Rd.blk 0 rfl)
  case h52 => rfl
  refine WA.take 6 rfl qK qK qK rfl rfl qD (pureV_ok tab_ok rfl (fun _ => rfl)) qS qR ?_
  refine' WA.take 7 rfl qK qK qK rfl rfl qD (Yl.load1 tab_ok rfl rfl rfl (fun _ => rfl) ?r53 rfl ?h53) qS qR ?_
  case r53 => apply Rd.add; (exact Rd.blk 0 rfl)
  case h53 => rfl
  refine WA.br2 (i := 0) (j := 9) qK ?_ ?_
  ·
   refine WS.eff rfl rfl rfl qD (Ef.buildSliceD (enc := encI) (parts := []) [] tab_ok rfl rfl rfl rfl rfl rfl rfl rfl qD qD (fun a7 => ?_))
   refine ⟨by first | exact RLe.refl _ | assumption, qS, ?_⟩
   refine WA.br2 (i := 3) (j := 9) qK ?_ ?_
   ·
    refine WS.eff rfl rfl rfl qD (Ef.cloneL (enc := encI) 0 tab_ok rfl rfl rfl rfl rfl rfl rfl rfl rfl rfl hx (fun _ _ => rfl) (by dsimp only; omega) qO (fun a10 c10 ha10 => ?_))
    refine ⟨by first | exact RLe.refl _ | assumption, qS, ?_⟩
    -- build
    refine WA.take 8 rfl qK qK qK rfl rfl qD (Yl.build (parts := [(0, .tmp 10), (1, .tmp 12), (2, .tmp 14)]) tab_ok rfl rfl rfl rfl (fun _ => rfl) rfl rfl) qS qR ?_
    refine WA.eff 9 rfl qK rfl rfl qD (Ef.alloc tab_ok rfl rfl (fun b5 => ?_))
    refine ⟨by first | exact RLe.refl _ | assumption, qS, ?_⟩
    refine WA.effN 10 rfl qK rfl rfl (Ef.store0 0 tab_ok rfl rfl rfl rfl rfl rfl rfl rfl ?_)
    refine ⟨by first | exact RLe.refl _ | assumption, qS, ?_⟩
    refine WA.done qK ?_
    refine WE.cutP (b5, a10, c10) trivial ⟨rfl, rfl, rfl, rfl⟩ (RLe.refl _) (by dsimp only; first | exact List.Perm.refl _ | exact List.Perm.swap _ _ _)
   ·
    refine WS.eff rfl rfl rfl qD (Ef.alloc tab_ok rfl rfl (fun b5 => ?_))
    refine ⟨by first | exact RLe.refl _ | assumption, qS, ?_⟩
    refine WA.eff 3 rfl qK rfl rfl qD (Ef.cloneL (enc := encI) 1 tab_ok rfl rfl rfl rfl rfl rfl rfl rfl rfl rfl hx (fun _ _ => rfl) (by dsimp only; omega) qO (fun a10 c10 ha10 => ?_))
    refine ⟨by first | exact RLe.refl _ | assumption, qS, ?_⟩
    -- build
    refine WA.take 8 rfl qK qK qK rfl rfl qD (Yl.build (parts := [(0, .tmp 10), (1, .tmp 12), (2, .tmp 14)]) tab_ok rfl rfl rfl rfl (fun _ => rfl) rfl rfl) qS qR ?_
    refine WA.effN 10 rfl qK rfl rfl (Ef.store0 0 tab_ok rfl rfl rfl rfl rfl rfl rfl rfl ?_)
    refine ⟨by first | exact RLe.refl _ | assumption, qS, ?_⟩
    refine WA.done qK ?_
    refine WE.cutP (b5, a10, c10) trivial ⟨rfl, rfl, rfl, rfl⟩ (RLe.refl _) (by dsimp only; first | exact List.Perm.refl _ | exact List.Perm.swap _ _ _)
  ·
   refine WS.eff rfl rfl rfl qD (Ef.alloc tab_ok rfl rfl (fun b5 => ?_))
   refine ⟨by first | exact RLe.refl _ | assumption, qS, ?_⟩
   refine WA.eff 0 rfl qK rfl rfl qD (Ef.buildSliceD (enc := encI) (parts := []) [] tab_ok rfl rfl rfl rfl rfl rfl rfl rfl qD qD (fun a7 => ?_))
   refine ⟨by first | exact RLe.refl _ | assumption, qS, ?_⟩
   refine WA.eff 3 rfl qK rfl rfl qD (Ef.cloneL (enc := encI) 0 tab_ok rfl rfl rfl rfl rfl rfl rfl rfl rfl rfl hx (fun _ _ => rfl) (by dsimp only; omega) qO (fun a10 c10 ha10 => ?_))
   refine ⟨by first | exact RLe.refl _ | assumption, qS, ?_⟩
   -- build
   refine WA.take 8 rfl qK qK qK rfl rfl qD (Yl.build (parts := [(0, .tmp 10), (1, .tmp 12), (2, .tmp 14)]) tab_ok rfl rfl rfl rfl (fun _ => rfl) rfl rfl) qS qR ?_
   refine WA.effN 10 rfl qK rfl rfl (Ef.store0 1 tab_ok rfl rfl rfl rfl rfl rfl rfl rfl ?_)
   refine ⟨by first | exact RLe.refl _ | assumption, qS, ?_⟩
   refine WA.done qK ?_
   refine WE.cutP (b5, a10, c10) trivial ⟨rfl, rfl, rfl, rfl⟩ (RLe.refl _) (by dsimp only; first | exact List.Perm.refl _ | exact List.Perm.swap _ _ _)

end Go.Proofs.Ytnackbfnmhkodaa

/- What the references add up and raise, for any valid curves: the same as the program's. Plain. No condition. -/
namespace Go.Proofs.Ytnackbfnmhkodaa.M
open Go Go.Proofs.Ytnackbfnmhkodaa.K
theorem gain_bound {c : Cv} (h : validB c = true) {L : Nat} (hL : L ≤ 120) : 0 ≤ gainC c L ∧ gainC c L ≤ 120 * 1073741824 := by
  obtain ⟨_, _, _, p1, p2, p3, p4, p5⟩ := valid_range h
  unfold gainC
  have hd0 : 0 ≤ (L : Int) / c.per := Int.ediv_nonneg (by omega) (by omega)
  have hd1 : (L : Int) / c.per ≤ L := Int.ediv_le_self _ (by omega)
  exact ⟨Int.mul_nonneg hd0 p4, Int.mul_le_mul (by omega) p5 p4 (by omega)⟩
theorem plus_bound {a b : Cv} (ha : validB a = true) (hb : validB b = true) {t : Nat} (ht : t ≤ 100000) : 0 ≤ plusF a b t ∧ (plusF a b t = INF ∨ plusF a b t ≤ 1073741824 * (2 * (t : Int) + 4)) := by
  unfold plusF
  split
  · exact ⟨by decide, .inl rfl⟩
  · rename_i h
    have h1 := fin_part ha (t := t) (fun x => h (.inl x)) (by omega)
    have h2 := fin_part hb (t := t) (fun x => h (.inr x)) (by omega)
    omega
theorem sum_ref {a b : Cv} (ha : validB a = true) (hb : validB b = true) (hl : lcmC a b ≤ 120) {n : Nat} (hn : a.vals.length ≤ n ∧ b.vals.length ≤ n) (hn2 : n ≤ 400) :
    mbuild (plusF a b) (max (stN a) (stN b)) (lcmC a b) (gainC a (lcmC a b) + gainC b (lcmC a b)) = madeR ⟨fvals (plusF a b) (n + lcmC a b), (lcmC a b : Int), gainC a (lcmC a b) + gainC b (lcmC a b)⟩
      ∧ MadeOk (fvals (plusF a b) (n + lcmC a b)) (lcmC a b : Int) (gainC a (lcmC a b) + gainC b (lcmC a b)) := by
  have s1 := stN_lt ha
  have s2 := stN_lt hb
  obtain ⟨_, _, _, p1, p2, _⟩ := valid_range ha
  obtain ⟨_, _, _, q1, q2, _⟩ := valid_range hb
  have hL : 0 < lcmC a b := (lcm_mod (show 0 < a.per.toNat by omega) (show 0 < b.per.toNat by omega)).2.2
  have g1 := gain_bound ha hl
  have g2 := gain_bound hb hl
  by_cases h : finB a = true ∧ finB b = true
  · have r1 := plus_fin ha hb h.1 h.2 (show lcmC a b ≤ 10000 by omega) (S := max (stN a) (stN b)) (by omega) (by omega)
    have r2 := plus_fin ha hb h.1 h.2 (show lcmC a b ≤ 10000 by omega) (S := n) (by omega) (by omega)
    refine ⟨build_made_fin r1.hP r1.hI r1.hg r2.hP r2.hI r2.hg r1.hm r1.h0 r1.hf r2.hf, madeOk_fin (by omega) (by omega) (by omega) r2.hg (fun t ht => ?_)⟩
    have hp := plus_bound ha hb (t := t) (by omega)
    refine ⟨hp.1, ?_⟩
    unfold plusF at hp ⊢
    rw [if_neg (by rintro (x | x) <;> exact isInf_fin (by first | exact h.1 | exact h.2) t x)] at hp ⊢
    have h1 := fin_part ha (isInf_fin h.1 t) (show t ≤ 1000000000 by omega)
    have h2 := fin_part hb (isInf_fin h.2 t) (show t ≤ 1000000000 by omega)
    omega
  · obtain ⟨m, r⟩ := plus_inf ha hb h (m := max (stN a) (stN b) + lcmC a b) (by omega)
    refine ⟨build_made_inf r.hn (by have := r.hn; omega) (r.hi m (Nat.le_refl _)) r.hf (fun t _ => r.hm t), madeOk_inf (n := m) (by have := r.hn; omega) (by omega) (by omega) (by omega) (r.hi m (Nat.le_refl _)) r.hf (fun t _ => ?_)⟩
    by_cases ht : m ≤ t
    · rw [r.hi t ht]; exact ⟨by decide, Int.le_refl _⟩
    · have := r.hf t (by omega); omega
theorem raise_bound {a : Cv} (ha : validB a = true) {k : Int} (hk : 0 ≤ k ∧ k ≤ MAXV) {t : Nat} (ht : t ≤ 100000) : 0 ≤ raiseF a k t ∧ (raiseF a k t = INF ∨ raiseF a k t ≤ 1073741824 * ((t : Int) + 3)) := by
  unfold raiseF
  unfold MAXV at hk
  split
  · omega
  · split
    · exact ⟨by decide, .inl rfl⟩
    · rename_i h
      have := fin_part ha h (show t ≤ 1000000000 by omega)
      omega
theorem raise_ref {a : Cv} (ha : validB a = true) {k : Int} (hk : 0 ≤ k ∧ k ≤ MAXV) :
    mbuild (raiseF a k) (max 1 (stN a)) a.per.toNat a.inc = madeR ⟨fvals (raiseF a k) (a.vals.length + a.per.toNat + 1), a.per, a.inc⟩ ∧ MadeOk (fvals (raiseF a k) (a.vals.length + a.per.toNat + 1)) a.per a.inc := by
  have s1 := stN_lt ha
  obtain ⟨_, _, _, p1, p2, p3, i1, i2⟩ := valid_range ha
  have hper : ((a.per.toNat : Nat) : Int) = a.per := by omega
  have e1 : a.vals.length + a.per.toNat + 1 = (a.vals.length + 1) + a.per.toNat := by omega
  rw [e1]
  by_cases h : finB a = true
  · have r1 := raise_fin ha h hk (S := max 1 (stN a)) (by omega) (by omega)
    have r2 := raise_fin ha h hk (S := a.vals.length + 1) (by omega) (by omega)
    have h3 := build_made_fin r1.hP r1.hI r1.hg r2.hP r2.hI r2.hg r1.hm r1.h0 r1.hf r2.hf
    have h4 := madeOk_fin (by omega) (by omega) (by omega) r2.hg (fun t ht => by
      have hb := raise_bound ha hk (t := t) (by omega)
      refine ⟨hb.1, ?_⟩
      rcases hb.2 with h5 | h5
      · unfold raiseF at h5
        split at h5
        · exact absurd h5 (by decide)
        · split at h5
          · rename_i h6
            exact absurd h6 (isInf_fin h t)
          · have := fin_part ha (isInf_fin h t) (show t ≤ 1000000000 by omega)
            unfold INF at h5
            unfold MAXV at hk
            omega
      · omega)
    rw [hper] at h3 h4
    exact ⟨h3, h4⟩
  · obtain ⟨m, r⟩ := raise_inf ha (by simpa using h) hk (m := max 1 (stN a) + a.per.toNat) (by omega)
    refine ⟨build_made_inf r.hn (by have := r.hn; omega) (r.hi m (Nat.le_refl _)) r.hf (fun t _ => r.hm t), madeOk_inf (n := m) (by have := r.hn; omega) (by omega) (by omega) (by omega) (r.hi m (Nat.le_refl _)) r.hf (fun t _ => ?_)⟩
    by_cases ht : m ≤ t
    · rw [r.hi t ht]; exact ⟨by decide, Int.le_refl _⟩
    · have := r.hf t (by omega); omega
/-- what the reference's rest wants -/
theorem rest_madeOk {cap : Int} {b : Cv} (hc : 0 ≤ cap ∧ cap ≤ 4000) (hb : validB b = true) (h2 : ¬ restF cap b (400 + b.per.toNat) ≠ restF cap b 400 + gainL cap b) : MadeOk (fvals (restF cap b) (400 + b.per.toNat)) b.per (gainL cap b) := by
  have hst := stN_lt hb
  obtain ⟨_, _, q0, q1, q2, _, i1, i2⟩ := valid_range hb
  have hper : ((b.per.toNat : Nat) : Int) = b.per := by omega
  have hbd : ∀ t, t ≤ 400 + b.per.toNat + b.per.toNat → 0 ≤ restF cap b t ∧ restF cap b t ≤ 10000000000000 := fun t ht => by
    have h1 := restF_bound hc.1 hb t
    have h3 := mulB (a := cap) (b := (t : Int)) (A := 4000) (B := 10000) (by omega) (by omega)
    omega
  by_cases h : finB b = true ∧ 0 < driftL cap b
  · have hgn : gainL cap b = driftL cap b := by unfold gainL; rw [if_pos h.1]; have := h.2; omega
    rw [hgn] at h2 ⊢
    have hdb : driftL cap b ≤ 120 * 4000 := by
      unfold driftL
      have := mulB (a := b.per) (b := cap) (A := 120) (B := 4000) (by omega) (by omega)
      omega
    have e1 := most_tail (f := rawL cap b) (s := stN b) (400 - stN b)
    have e2 := most_tail (f := rawL cap b) (s := stN b) (400 - stN b + b.per.toNat)
    rw [show stN b + (400 - stN b) + 1 = 400 + 1 by omega] at e1
    rw [show stN b + (400 - stN b + b.per.toNat) + 1 = 400 + b.per.toNat + 1 by omega] at e2
    have e3 := tail_shift (s := stN b) (P := b.per.toNat) (by omega) (by omega) (raw_shift (cap := cap) hb h.1) (d := 400 - stN b) (by omega)
    have hd := h.2
    have h3 : ¬ tailF (rawL cap b) (stN b) (400 - stN b) < mostF (rawL cap b) (stN b) := fun h3 => by
      apply h2
      unfold restF
      omega
    have hr := rest_rep1 hc hb h.1 h.2 h3
    have := madeOk_fin (by omega) (by omega) (by omega) hr.hg hbd
    rw [hper] at this
    exact this
  · have hgn : gainL cap b = 0 := by
      unfold gainL
      split
      · rename_i hf
        have : ¬ 0 < driftL cap b := fun hh => h ⟨hf, hh⟩
        omega
      · rfl
    rw [hgn]
    have hr := rest_rep2 (cap := cap) hc hb h (S := 400) (by omega) (by omega) (P := b.per.toNat) (by omega)
    have := madeOk_fin (by omega) (by omega) (by omega) hr.hg hbd
    rw [hper] at this
    exact this
end Go.Proofs.Ytnackbfnmhkodaa.M

/- Rules: calls that hand back one value and leave memory, under any guard, in regions that draw their order and write; what is not wanted. No condition. -/
namespace Go.Proofs.Ytnackbfnmhkodaa.K
open Go Go.RowKit
section
variable {P : Program} {ops : List Oper} {o : Oper} {Q : Exit → Act → World → Prop} {ES : List Ent} {R0 : Ro} {w0 : World} {fuel : Nat} {listed : Array Bool} {n : Nat} {env : Env} {R : Ro} {E : List Ent} {pc q : Bool}
theorem WA.callV {v : Value} {d : Nat} {f : FuncId} {vs : List Value} (i : Nat) (hi : ops.toArray[i]? = some o) (hr : Region.ready .any ops.toArray listed = [i]) (hf : Enters P f) (hg : gpc ops env o = some pc) (hd : o.dst = some d) (hdn : d < n)
    (hc : CallOp env o.op q f vs) (hq : pc = true → q = true) (hv : pc = true → FnV P f vs R v) (hsub : ES.Sublist E) (hR : RLe R0 R)
    (h : WA P ops Q ES R0 w0 fuel (listed.setIfInBounds i true) n ((d, pc, v) :: env) R E) : WA P ops Q ES R0 w0 (fuel + 1) listed n env R E := by
  intro a w hk hm
  refine wpAnyH_all hr (by simp) fun j hj => ?_
  obtain rfl : j = i := by simpa using hj
  unfold wpOp
  rw [hi]
  have hput := hk.put hdn pc v
  have hw := hk.wanted hg
  cases pc with
  | true =>
    simp only [hw, if_true]
    left
    unfold Oper.wp
    rw [run_call hk hc (hq rfl) hf]
    refine (hv rfl w0 E w hm).mono ?_
    rintro e w' ⟨rfl, hm'⟩
    simp only [hd]
    exact ⟨hm'.sub hR hsub, h _ _ (by simpa using hput) hm'⟩
  | false =>
    simp only [hw, Bool.false_eq_true, if_false, hd]
    exact ⟨hm.sub hR hsub, h _ _ (by simpa using hput) hm⟩
theorem WS.callV {v : Value} {d : Nat} {f : FuncId} {vs : List Value} {i : Nat} (hi : ops.toArray[i]? = some o) (hf : Enters P f) (hg : gpc ops env o = some pc) (hd : o.dst = some d) (hdn : d < n)
    (hc : CallOp env o.op q f vs) (hq : pc = true → q = true) (hv : pc = true → FnV P f vs R v) (hsub : ES.Sublist E) (hR : RLe R0 R)
    (h : WA P ops Q ES R0 w0 fuel (listed.setIfInBounds i true) n ((d, pc, v) :: env) R E) : WS P ops Q ES R0 w0 fuel listed n env R E i := by
  intro a w hk hm
  unfold wpOp
  rw [hi]
  have hput := hk.put hdn pc v
  have hw := hk.wanted hg
  cases pc with
  | true =>
    simp only [hw, if_true]
    left
    unfold Oper.wp
    rw [run_call hk hc (hq rfl) hf]
    refine (hv rfl w0 E w hm).mono ?_
    rintro e w' ⟨rfl, hm'⟩
    simp only [hd]
    exact ⟨hm'.sub hR hsub, h _ _ (by simpa using hput) hm'⟩
  | false =>
    simp only [hw, Bool.false_eq_true, if_false, hd]
    exact ⟨hm.sub hR hsub, h _ _ (by simpa using hput) hm⟩
theorem Yl.off {v : Value} (h : pc = false) : Yl P n env w0 R E o pc v := fun _ _ _ _ hp => by rw [h] at hp; cases hp
end
end Go.Proofs.Ytnackbfnmhkodaa.K

/- What one valid curve leaves of another one behind a theta, plain: the program and the reference make the same. No condition. -/
namespace Go.Proofs.Ytnackbfnmhkodaa.M
open Go Go.Proofs.Ytnackbfnmhkodaa.K

/-- the least of n values from a place on, as the program looks for it -/
def leastG (f : Nat → Int) (a : Nat) : Nat → Int
  | 0 => 4611686018427387904
  | n + 1 => min (leastG f a n) (f (a + n))
/-- the least from s to s + d -/
def minF (f : Nat → Int) (s : Nat) : Nat → Int
  | 0 => f s
  | d + 1 => min (minF f s d) (f (s + (d + 1)))
section
variable {f : Nat → Int} {s a : Nat} {D : Int}
end
/-! ### the differences -/
def rawG (b o : Cv) (th u : Nat) : Int := if isInf o (u - th) then 0 else if isInf b u then INF else cvF b u - cvF o (u - th)
def driftG (b o : Cv) : Int := gainC b (lcmC b o) - gainC o (lcmC b o)
def frG (b o : Cv) (th : Nat) : Nat := max (max (stN b) (stN o + th)) (th + 1)
def hG (b o : Cv) (th u : Nat) : Int := if u ≤ th then 0 else max 0 (minF (rawG b o th) u (max (frG b o th) u - u + (lcmC b o - 1)))
section
variable {b o : Cv} {th : Nat}
/-- the differences do not fall over a common period -/
def UpG (b o : Cv) : Prop := finB o = true ∧ (finB b = true → 0 ≤ driftG b o)
/-! ### what Rest makes -/
def flatB (b o : Cv) (th : Nat) : Prop := finB o = false ∨ (finB b = true ∧ (driftG b o < 0 ∨ (driftG b o = 0 ∧ minF (rawG b o th) (frG b o th) (lcmC b o - 1) ≤ 0)))
instance (b o : Cv) (th : Nat) : Decidable (flatB b o th) := by unfold flatB; infer_instance
def shareN (b o : Cv) (th : Nat) : Cv × Int :=
  if 120 < lcmC b o then (zcv, 3)
  else if flatB b o th then (zeroC, 0)
  else if 400 ≤ th then (zcv, 3)
  else if finB b = true ∧ 0 < driftG b o then
    (if minF (rawG b o th) (max (frG b o th) 400) (lcmC b o - 1) < 0 then (zcv, 3) else mbuild (hG b o th) (max (frG b o th) 400) (lcmC b o) (driftG b o))
  else mbuild (hG b o th) (frG b o th) 1 0
/-! ### what the reference makes -/
def leftG (b o : Cv) (th u : Nat) : Int := if u ≤ th then 0 else max 0 (rawG b o th u)
def bothB (b o : Cv) : Prop := finB b = true ∧ finB o = true
instance (b o : Cv) : Decidable (bothB b o) := by unfold bothB; infer_instance
def flatQ (b o : Cv) (th : Nat) : Prop := (bothB b o ∧ driftG b o < 0) ∨ finB o = false ∨ (bothB b o ∧ driftG b o = 0 ∧ minF (leftG b o th) (th + 400) (lcmC b o - 1) = 0)
instance (b o : Cv) (th : Nat) : Decidable (flatQ b o th) := by unfold flatQ; infer_instance
def incQ (b o : Cv) : Int := if bothB b o then driftG b o else 0
def shareQ (b o : Cv) (th : Nat) : Cv × Int :=
  if 120 < lcmC b o then (zcv, 3)
  else if flatQ b o th then (zeroC, 0)
  else if 400 ≤ th then (zcv, 3)
  else if bothB b o ∧ 0 < driftG b o ∧ minF (rawG b o th) (th + 400) (lcmC b o - 1) < 0 then (zcv, 3)
  else madeR ⟨fvals (hG b o th) (th + 400 + lcmC b o), lcmC b o, incQ b o⟩
end
end Go.Proofs.Ytnackbfnmhkodaa.M

/- Any valid curve: what the references make of it. No condition. -/
set_option maxRecDepth 4000
set_option linter.unusedSimpArgs false
set_option linter.unusedVariables false
namespace Go.Proofs.Ytnackbfnmhkodaa
open Go Go.RowKit Go.Proofs.Ytnackbfnmhkodaa.K Go.Proofs.Ytnackbfnmhkodaa.M

theorem AtG_V {R : Ro} {fa : Option Addr} {fc : Nat} {c : Cv} (hv : validB c = true) (ha : RS R 1 encI fa c.vals) {t : Nat} (ht : t ≤ 1000000000) : FnV Try.prog 28 [.agg #[.slice fa c.vals.length fc, .int .i64 c.per, .int .i64 c.inc], .int .i64 (t : Int)] R (.int .i64 (cvF c t)) := by
 obtain ⟨h1, h2, h3, h4, h5, h6, h7, h8⟩ := valid_range hv
 exact At_V ha (by constructor <;> omega) ⟨by constructor <;> omega, by omega⟩ qO h1
theorem ValidG_V {R : Ro} {fa : Option Addr} {fc : Nat} {c : Cv} (hv : validB c = true) (ha : RS R 1 encI fa c.vals) : FnV Try.prog 27 [.agg #[.slice fa c.vals.length fc, .int .i64 c.per, .int .i64 c.inc]] R (.bool true) := by
 obtain ⟨h1, h2, h3, h4, h5, h6, h7, h8⟩ := valid_range hv
 have h := Valid_V (c := fc) (per := c.per) (inc := c.inc) ha (by constructor <;> omega) (by constructor <;> omega) h1
 rw [show validB ⟨c.vals, c.per, c.inc⟩ = true from hv] at h
 exact h
theorem MadeGK_C {R : Ro} {a : Option Addr} {cc : Nat} {v : List Int} {per inc : Int} (ha : RS R 1 encI a v) (hl : v.length ≤ 100000) (hok : MadeOk v per inc) (hac : v.length ≤ cc) (w0 : World) (E : List Ent) : K.Fn Try.prog 47 [.agg #[.slice a v.length cc, .int .i64 per, .int .i64 inc]] w0 R E (fun r R' E' => ∃ (f : Option Addr) (fc : Nat), r = cvV f fc (madeR ⟨v, per, inc⟩) ∧ RS R' 1 encI f (madeR ⟨v, per, inc⟩).1.vals ∧ (madeR ⟨v, per, inc⟩).1.vals.length ≤ fc ∧ E.Sublist E') :=
 MadeK_C ha ⟨hl, hok.hper.2.2⟩ (fun _ => hac) ⟨hok.hper.1, by have := hok.hper; omega⟩ hok.hinc hok.vals hok.self hok.at_ hok.nb w0 E

theorem Normal02_C {R : Ro} {fa : Option Addr} {fc : Nat} {c : Cv} (hv : validB c = true) (ha : RS R 1 encI fa c.vals) (hcap : c.vals.length ≤ fc) (w0 : World) (E : List Ent) : K.Fn Try.prog 73 [.agg #[.slice fa c.vals.length fc, .int .i64 c.per, .int .i64 c.inc]] w0 R E (fun r R' E' => ∃ (f : Option Addr) (fc : Nat), r = cvV f fc (normR c, 0) ∧ RS R' 1 encI f (normR c).vals ∧ E.Sublist E') := by
 obtain ⟨h1, h2, h3, h4, h5, h6, h7, h8⟩ := valid_range hv
 have hok := valid_madeOk hv
 refine Fn.enter (n := 10) Try.func73 rfl rfl (Nat.le_of_ble_eq_true rfl) rfl ?_
 refine W.seq (W.region _ ?_)
 refine WL.ef rfl rfl qD (Ef.box rfl rfl (fun b1 => ?_))
 refine WL.ef rfl rfl qD (Ef.alloc tab_ok rfl rfl (fun b2 => ?_))
 refine WG.run tab_ok 1 rfl (WG.nil (WE.nxt (W.seq (W.seq (W.region _ ?_)))))
 refine' WG.y rfl rfl qD (Yl.load1 tab_ok rfl rfl rfl (fun _ => rfl) ?r1 rfl ?h1) ?_
 case r1 => (exact Rd.blk 1 rfl)
 case h1 => rfl
 refine WG.callV (v := .bool true) en27 rfl rfl qD (CallOp.mk' rfl rfl rfl rfl) (fun _ => rfl) (fun hg => ValidG_V hv ha) ?_
 refine WG.run tab_ok 1 rfl (WG.nil (WE.nxt ?_))
 refine W.cond rfl (fun hc0 => ?_) (fun hc0 => ?_)
 ·try simp only [kk] at hc0
  (simp at hc0; done)
 ·try simp only [kk] at hc0
  refine W.skip (WE.nxt (W.seq (W.region _ ?_)))
  refine' WG.y rfl rfl qD (Yl.load1 tab_ok rfl rfl rfl (fun _ => rfl) ?r2 rfl ?h2) ?_
  case r2 => (exact Rd.blk 1 rfl)
  case h2 => rfl
  refine WL.call en75 rfl rfl qD (CallOp.mkT rfl rfl rfl rfl) (Least02_C ha ⟨by omega, by omega⟩ (fun _ => hcap) ⟨by omega, by omega⟩ hok.hinc hok.vals hok.self hok.at_ w0 _) ?_
  rintro _ R1 E1 hR1 ⟨f, fc2, rfl, hf, hsub⟩
  refine WL.subE hsub ?_
  unfold cuV
  refine WL.efN rfl rfl (Ef.store0 0 tab_ok rfl rfl rfl rfl rfl rfl rfl rfl ?_)
  refine WG.run tab_ok 1 rfl (WG.nil (WE.nxt (W.ret ?_)))
  refine WE.retF tab_ok [_, _] rfl ⟨⟨_, _, _, rfl, rfl, rfl, ((by first | exact Rd.blk 0 rfl | exact Rd.blk 1 rfl | exact Rd.blk 2 rfl | exact Rd.blk 3 rfl)), rfl⟩, rfl, trivial⟩ (hR1) ?_
  exact ⟨f, fc2, rfl, hf, qS⟩

theorem FiniteG_V {R : Ro} {fa : Option Addr} {fc : Nat} {c : Cv} (hv : validB c = true) (ha : RS R 1 encI fa c.vals) : FnV Try.prog 43 [.agg #[.slice fa c.vals.length fc, .int .i64 c.per, .int .i64 c.inc]] R (.bool (finB c)) := by
 refine Fn.toV (fun w0 E => ?_)
 obtain ⟨h1, h2, h3, h4, h5, h6, h7, h8⟩ := valid_range hv
 have hl : ((c.vals.length : Int) - 1).toNat = c.vals.length - 1 := by omega
 refine Fn.enter (n := 16) Try.func43 rfl rfl (Nat.le_of_ble_eq_true rfl) rfl ?_
 refine W.seq (W.region _ ?_)
 refine WL.ef rfl rfl qD (Ef.box rfl rfl (fun b1 => ?_))
 refine WG.run tab_ok 1 rfl (WG.nil (WE.nxt (W.seq (W.region _ ?_))))
 refine' WG.y rfl rfl qD (Yl.load1 tab_ok rfl rfl rfl (fun _ => rfl) ?r1 rfl ?h1) ?_
 case r1 => (exact Rd.blk 0 rfl)
 case h1 => rfl
 refine WG.callV (v := .bool true) en27 rfl rfl qD (CallOp.mk' rfl rfl rfl rfl) (fun _ => rfl) (fun hg => ValidG_V hv ha) ?_
 refine WG.run tab_ok 1 rfl ?_
 refine WL.guardT rfl (by rfl) ?_
 refine WG.y rfl rfl qD (pureV_ok tab_ok rfl (fun _ => rfl)) ?_
 refine WL.guardT rfl (by rfl) ?_
 refine' WG.y rfl rfl qD (Yl.load1 tab_ok rfl rfl rfl (fun _ => rfl) ?r2 rfl ?h2) ?_
 case r2 => apply Rd.add; (exact Rd.blk 0 rfl)
 case h2 => rfl
 refine WL.guardT rfl (by rfl) ?_
 refine WG.y rfl rfl qD (pureV_ok tab_ok rfl (fun _ => rfl)) ?_
 refine WL.guardT rfl (by rfl) ?_
 refine' WG.y rfl rfl qD (Yl.load1 tab_ok rfl rfl rfl (fun _ => rfl) ?r3 rfl ?h3) ?_
 case r3 => apply Rd.add; (exact Rd.blk 0 rfl)
 case h3 => rfl
 refine WL.guardT rfl (by rfl) ?_
 refine WG.y rfl rfl qD (pureV_ok tab_ok rfl (fun _ => rfl)) ?_
 refine WL.guardT rfl (by rfl) ?_
 refine WG.y rfl rfl qD (Yl.sub rfl rfl rfl (fun _ => rfl) qA) ?_
 refine WL.guardT rfl (by rfl) ?_
 refine WG.y rfl rfl qD (Yl.index tab_ok rfl rfl rfl rfl rfl rfl (fun _ => rfl) qA qH) ?_
 refine WL.guardT rfl (by rfl) ?_
 refine' WG.y rfl rfl qD (Yl.load1 tab_ok rfl rfl rfl (fun _ => rfl) ?r4 rfl ?h4) ?_
 case r4 => ((apply RS.rdD; assumption; ((try dsimp only) <;> omega)))
 case h4 => rfl
 refine WL.guardT rfl (by rfl) ?_
 refine WG.y rfl rfl qD (pureV_ok tab_ok rfl (fun _ => rfl)) ?_
 refine WG.y rfl rfl (by decide) (Yl.pand rfl rfl rfl (fun _ => rfl) (by intro h1 h2; simp_all <;> omega)) ?_
 refine WG.run tab_ok 1 rfl (WG.nil (WE.nxt (W.ret ?_)))
 refine WE.subE (E' := E) qS ?_
 refine WE.retF tab_ok [_] rfl ⟨rfl, trivial⟩ (RLe.refl _) ?_
 exact ⟨by rw [hl]; rfl, rfl⟩

end Go.Proofs.Ytnackbfnmhkodaa

/- Sizes of a trace. No condition. -/
set_option maxRecDepth 4000
set_option linter.unusedSimpArgs false
set_option linter.unusedVariables false
namespace Go.Proofs.Ytnackbfnmhkodaa
open Go Go.RowKit Go.Proofs.Ytnackbfnmhkodaa.K Go.Proofs.Ytnackbfnmhkodaa.M

def szPre (z : List Sz) (p : Pkt) : List Sz := if (nth z p.flow.toNat).most = 0 then z.set p.flow.toNat ⟨p.size, p.size⟩ else z
def szPut (z1 : List Sz) (p : Pkt) : List Sz := z1.set p.flow.toNat ⟨(if p.size < (nth z1 p.flow.toNat).least then p.size else (nth z1 p.flow.toNat).least), (if (nth z1 p.flow.toNat).most < p.size then p.size else (nth z1 p.flow.toNat).most)⟩
def szAdd (n : Nat) (z : List Sz) (p : Pkt) : List Sz := if p.flow < 0 ∨ p.flow ≥ (n : Int) then z else szPut (szPre z p) p
def sizesL (n : Nat) (ps : List Pkt) : List Sz := ps.foldl (szAdd n) (List.replicate n ⟨0, 0⟩)
theorem szPre_len (z : List Sz) (p : Pkt) : (szPre z p).length = z.length := by unfold szPre; split <;> simp
theorem szPut_len (z : List Sz) (p : Pkt) : (szPut z p).length = z.length := by simp [szPut]
theorem szAdd_len (n : Nat) (z : List Sz) (p : Pkt) : (szAdd n z p).length = z.length := by unfold szAdd; split; rfl; rw [szPut_len, szPre_len]

theorem Sizes_C {R : Ro} {pa : Option Addr} {pc pl : Nat} {ps : List Pkt} (hp : RS R 3 encP pa ps) (hpl : ps.length = pl) {n : Nat} (hn : n ≤ 1000) (w0 : World) (E : List Ent) :
  K.Fn Try.prog 20 [.slice pa pl pc, .int .i64 (n : Int)] w0 R E (fun v R' E' => ∃ (a2 : Option Addr) (c2 : Nat), v = .slice a2 (sizesL n ps).length c2 ∧ R = R' ∧ (.sl 88 2 a2 c2 ((sizesL n ps).map encZ) :: E).Sublist E') := by
 subst hpl
 have hla := hp.len
 have hen : ((n : Int)).toNat = n := by omega
 refine Fn.enter (n := 64) Try.func20 rfl rfl (Nat.le_of_ble_eq_true rfl) rfl ?_
 refine W.seq (W.region _ (WG.run tab_ok 1 rfl (WG.nil (WE.nxt (W.seq (W.region _ (WG.run tab_ok 1 rfl ?_)))))))
 refine WL.ef rfl rfl qD (Ef.makeSliceD (enc := encZ) ⟨0, 0⟩ tab_ok rfl rfl rfl rfl rfl rfl qX qX qX qX qD rfl rfl (fun a10 => ?_))
 refine WG.run tab_ok 1 rfl (WG.nil (WE.nxt (W.seq (W.seq (W.region _ (WG.run tab_ok 3 rfl (WG.nil (WE.nxt (W.block ?_)))))))))
 refine W.loopK (β := Nat × List Sz) (fun (i, z) => i ≤ ps.length ∧ z = (ps.take i).foldl (szAdd n) (List.replicate n (⟨0, 0⟩ : Sz)) ∧ z.length = n) (fun (i, z) => [(13, true, .int .i64 (i : Int))]) [1, 5, 11, 12] [_, _, _, _] [] _ rfl (fun (i, z) => [(0, .sl 88 2 (some ⟨a10, 0, none⟩) n (z.map encZ))]) (fun (i, z) => ps.length - i) ((0, (List.replicate n (⟨0, 0⟩ : Sz)))) (⟨Nat.zero_le _, rfl, by simp⟩) ⟨rfl, rfl, rfl, rfl, rfl, rfl⟩ qS ?_
 intro st hst
 obtain ⟨i, z⟩ := st
 dsimp only [zipE, setAll, List.cons_append, List.nil_append, List.set_cons_zero, List.set_cons_succ] at hst ⊢
 obtain ⟨hi, hz, hzl⟩ := hst
 refine W.seq (W.region _ (WG.run tab_ok 1 rfl (WG.nil (WE.nxt (W.seq ?_)))))
 refine W.condD rfl (fun hc0 => ?_) (fun hc0 => ?_)
 ·try dsimp only at hc0
  have hil : i < ps.length := by omega
  have hnx : szAdd n z (nth ps i) = (ps.take (i + 1)).foldl (szAdd n) (List.replicate n (⟨0, 0⟩ : Sz)) := by rw [take_nth hil, List.foldl_append, ← hz]; rfl
  have hnl : (szAdd n z (nth ps i)).length = n := by rw [szAdd_len]; exact hzl
  refine W.skip (WE.nxt (W.seq (W.block (W.seq (W.region _ ?_)))))
  refine WG.y rfl rfl qD (Yl.indexN tab_ok rfl rfl rfl rfl rfl rfl (fun _ => rfl) qN qH) ?_
  refine' WG.y rfl rfl qD (Yl.load1 tab_ok rfl rfl rfl (fun _ => rfl) ?r1 rfl ?h1) ?_
  case r1 => ((apply RS.rdD; assumption; ((try dsimp only) <;> omega)))
  case h1 => rfl
  refine WL.ef rfl rfl qD (Ef.alloc tab_ok rfl rfl (fun b7 => ?_))
  refine WL.efN rfl rfl (Ef.store0 0 tab_ok rfl rfl rfl rfl rfl rfl rfl rfl ?_)
  refine WG.nil (WE.nxt (W.seq (W.seq (W.region _ (WG.run tab_ok 1 rfl ?_)))))
  refine' WG.y rfl rfl qD (Yl.load1 tab_ok rfl rfl rfl (fun _ => rfl) ?r2 rfl ?h2) ?_
  case r2 => apply Rd.add; (exact Rd.blk 0 rfl)
  case h2 => rfl
  refine WG.run tab_ok 2 rfl ?_
  refine WG.y rfl rfl qD (pureV_ok tab_ok rfl qE) ?_
  refine' WG.y rfl rfl qD (Yl.loadG tab_ok rfl rfl rfl qE ?r3 rfl ?h3 ?g3) ?_
  case r3 => apply Rd.addC; (exact Rd.blkC 0 rfl)
  case h3 => rfl
  case g3 => exact fun _ => trivial
  refine WG.y rfl rfl qD (pureV_ok tab_ok rfl qE) ?_
  refine WG.y rfl rfl qD (pureV_ok tab_ok rfl qE) ?_
  refine WG.y rfl rfl (by decide) (Yl.por rfl rfl rfl (fun _ => rfl) (by intro h1 h2; simp_all <;> omega)) ?_
  refine WG.nil (WE.nxt ?_)
  refine W.cond rfl (fun hc1 => ?_) (fun hc1 => ?_)
  ·try simp only [kk] at hc1
   have hsame : szAdd n z (nth ps i) = z := if_pos hc1
   refine W.exit ?_
   refine WE.then_exit (WE.blk_exit (WE.nxt (W.region _ ?_)))
   refine WG.y rfl rfl qD (Yl.add rfl rfl rfl (fun _ => rfl) qA) ?_
   refine WG.run tab_ok 1 rfl (WG.nil ?_)
   refine WE.again ((i + 1, szAdd n z (nth ps i))) (⟨by dsimp only; omega, hnx, hnl⟩) (by (try dsimp only); omega) ⟨rfl, rfl, rfl, rfl, rfl, rfl⟩ (RLe.refl _) (by dsimp only [setAll, List.set_cons_zero, List.set_cons_succ]; first | (rw [hsame]; exact qS) | (rw [← hfin]; exact qS))
  ·try simp only [kk] at hc1
   have hadd : szAdd n z (nth ps i) = szPut (szPre z (nth ps i)) (nth ps i) := if_neg (by omega)
   have hf0 : 0 ≤ (nth ps i).flow ∧ (nth ps i).flow < n := by omega
   have hfz : (nth ps i).flow.toNat < z.length := by omega
   refine W.skip (WE.nxt (W.seq (W.region _ (WG.run tab_ok 2 rfl ?_))))
   refine' WG.y rfl rfl qD (Yl.load1 tab_ok rfl rfl rfl (fun _ => rfl) ?r4 rfl ?h4) ?_
   case r4 => apply Rd.add; (exact Rd.blk 0 rfl)
   case h4 => rfl
   refine WG.y rfl rfl qD (Yl.index tab_ok rfl rfl rfl rfl rfl rfl (fun _ => rfl) qA qH) ?_
   refine WG.run tab_ok 1 rfl (WG.nil (WE.nxt ?_))
   refine W.seqCut (β := List Sz) (fun z1 => z1 = szPre z (nth ps i)) (fun z1 => [(1, true, .int .i64 (n : Int)), (5, true, .slice (some ⟨a10, 0, none⟩) n n), (7, true, .pointer (some ⟨b7, 0, none⟩)), (8, true, .pointer (some (eaddr (some ⟨a10, 0, none⟩) 2 (nth ps i).flow.toNat))), (11, true, .slice pa ps.length pc), (12, true, .int .i64 (ps.length : Int)), (13, true, .int .i64 (i : Int))]) (fun _ => R) (fun z1 => .blk b7 (encP (nth ps i)) :: .sl 88 2 (some ⟨a10, 0, none⟩) n (z1.map encZ) :: E) ?_ ?_
   ·
    intro z1 hst
    have hst : z1 = szPre z (nth ps i) := hst
    have hl1 : z1.length = n := by rw [hst, szPre_len]; exact hzl
    have hns : nth (z1.set (nth ps i).flow.toNat (⟨(if (nth ps i).size < (nth z1 (nth ps i).flow.toNat).least then (nth ps i).size else (nth z1 (nth ps i).flow.toNat).least), (nth z1 (nth ps i).flow.toNat).most⟩ : Sz)) (nth ps i).flow.toNat = (⟨(if (nth ps i).size < (nth z1 (nth ps i).flow.toNat).least then (nth ps i).size else (nth z1 (nth ps i).flow.toNat).least), (nth z1 (nth ps i).flow.toNat).most⟩ : Sz) := nth_set_self (by omega)
    have hfin : (z1.set (nth ps i).flow.toNat (⟨(if (nth ps i).size < (nth z1 (nth ps i).flow.toNat).least then (nth ps i).size else (nth z1 (nth ps i).flow.toNat).least), (nth z1 (nth ps i).flow.toNat).most⟩ : Sz)).set (nth ps i).flow.toNat (⟨(if (nth ps i).size < (nth z1 (nth ps i).flow.toNat).least then (nth ps i).size else (nth z1 (nth ps i).flow.toNat).least), (if (nth z1 (nth ps i).flow.toNat).most < (nth ps i).size then (nth ps i).size else (nth z1 (nth ps i).flow.toNat).most)⟩ : Sz) = szAdd n z (nth ps i) := by rw [hadd, ← hst, List.set_set]; rfl
    refine W.regionH _ (ES := [.blk b7 (encP (nth ps i))]) mixed ?_
    refine WA.take 0 rfl qK qK qK rfl rfl qD (pureV_ok tab_ok rfl (fun _ => rfl)) qS qR ?_
    refine WA.take 1 rfl qK qK qK rfl rfl qD (pureV_ok tab_ok rfl (fun _ => rfl)) qS qR ?_
    refine WA.take 2 rfl qK qK qK rfl rfl qD (pureV_ok tab_ok rfl (fun _ => rfl)) qS qR ?_
    refine WA.take 3 rfl qK qK qK rfl rfl qD (pureV_ok tab_ok rfl (fun _ => rfl)) qS qR ?_
    refine WA.take 4 rfl qK qK qK rfl rfl qD (pureV_ok tab_ok rfl (fun _ => rfl)) qS qR ?_
    refine WA.take 6 rfl qK qK qK rfl rfl qD (pureV_ok tab_ok rfl (fun _ => rfl)) qS qR ?_
    refine' WA.take 7 rfl qK qK qK rfl rfl qD (Yl.load1 tab_ok rfl rfl rfl (fun _ => rfl) ?r5 rfl ?h5) qS qR ?_
    case r5 => apply Rd.add; (exact Rd.blk 0 rfl)
    case h5 => rfl
    refine WA.take 9 rfl qK qK qK rfl rfl qD (pureV_ok tab_ok rfl (fun _ => rfl)) qS qR ?_
    refine WA.take 10 rfl qK qK qK rfl rfl qD (pureV_ok tab_ok rfl (fun _ => rfl)) qS qR ?_
    refine WA.take 11 rfl qK qK qK rfl rfl qD (pureV_ok tab_ok rfl (fun _ => rfl)) qS qR ?_
    refine WA.take 13 rfl qK qK qK rfl rfl qD (pureV_ok tab_ok rfl (fun _ => rfl)) qS qR ?_
    refine' WA.take 14 rfl qK qK qK rfl rfl qD (Yl.load1 tab_ok rfl rfl rfl (fun _ => rfl) ?r6 rfl ?h6) qS qR ?_
    case r6 => apply Rd.add; (exact Rd.blk 0 rfl)
    case h6 => rfl
    refine WA.br2 (i := 5) (j := 12) qK ?_ ?_
    ·
     refine' WS.yl rfl rfl rfl qD (Yl.load1 tab_ok rfl rfl rfl (fun _ => rfl) ?r7 rfl ?h7) qS qR ?_
     case r7 => apply Rd.add; exact Rd.slD 1 rfl qO
     case h7 => rfl
     refine WA.take 8 rfl qK qK qK rfl rfl qD (pureV_ok tab_ok rfl (fun _ => rfl)) qS qR ?_
     refine' WA.yl 12 rfl qK rfl rfl qD (Yl.load1 tab_ok rfl rfl rfl (fun _ => rfl) ?r8 rfl ?h8) qS qR ?_
     case r8 => apply Rd.add; exact Rd.slD 1 rfl (by (try rw [List.length_set]); omega)
     case h8 => rfl
     refine WA.take 15 rfl qK qK qK rfl rfl qD (pureV_ok tab_ok rfl (fun _ => rfl)) qS qR ?_
     refine WA.take 16 rfl qK qK qK rfl rfl qD (pureV_ok tab_ok rfl (fun _ => rfl)) qS qR ?_
     refine WA.take 17 rfl qK qK qK rfl rfl qD (pureV_ok tab_ok rfl (fun _ => rfl)) qS qR ?_
     refine WA.effN 18 rfl qK rfl rfl (Ef.storeF (enc := encZ) (xs := z1) (⟨(if (nth ps i).size < (nth z1 (nth ps i).flow.toNat).least then (nth ps i).size else (nth z1 (nth ps i).flow.toNat).least), (nth z1 (nth ps i).flow.toNat).most⟩ : Sz) 1 tab_ok rfl rfl rfl rfl rfl qO rfl rfl qD rfl ?_)
     refine ⟨by first | exact RLe.refl _ | assumption, qS, ?_⟩
     refine WA.take 19 rfl qK qK qK rfl rfl qD (pureV_ok tab_ok rfl (fun _ => rfl)) qS qR ?_
     refine WA.take 20 rfl qK qK qK rfl rfl qD (pureV_ok tab_ok rfl (fun _ => rfl)) qS qR ?_
     refine WA.effN 21 rfl (by kernel_rfl) rfl rfl (Ef.storeF (enc := encZ) (xs := z1.set (nth ps i).flow.toNat (⟨(if (nth ps i).size < (nth z1 (nth ps i).flow.toNat).least then (nth ps i).size else (nth z1 (nth ps i).flow.toNat).least), (nth z1 (nth ps i).flow.toNat).most⟩ : Sz)) (⟨(if (nth ps i).size < (nth z1 (nth ps i).flow.toNat).least then (nth ps i).size else (nth z1 (nth ps i).flow.toNat).least), (if (nth z1 (nth ps i).flow.toNat).most < (nth ps i).size then (nth ps i).size else (nth z1 (nth ps i).flow.toNat).most)⟩ : Sz) 1 tab_ok rfl rfl rfl rfl rfl (by rw [List.length_set]; omega) (by rw [hns]; rfl) rfl (by decide) rfl ?_)
     refine ⟨by first | exact RLe.refl _ | assumption, qS, ?_⟩
     refine WA.done qK ?_
     refine WE.blk _ (WE.nxt (W.region _ ?_))
     refine WG.y rfl rfl qD (Yl.add rfl rfl rfl (fun _ => rfl) qA) ?_
     refine WG.run tab_ok 1 rfl (WG.nil ?_)
     refine WE.again ((i + 1, szAdd n z (nth ps i))) (⟨by dsimp only; omega, hnx, hnl⟩) (by (try dsimp only); omega) ⟨rfl, rfl, rfl, rfl, rfl, rfl⟩ (RLe.refl _) (by dsimp only [setAll, List.set_cons_zero, List.set_cons_succ]; first | (rw [hsame]; exact qS) | (rw [← hfin]; exact qS))
    ·
     refine' WS.yl rfl rfl rfl qD (Yl.load1 tab_ok rfl rfl rfl (fun _ => rfl) ?r9 rfl ?h9) qS qR ?_
     case r9 => apply Rd.add; exact Rd.slD 1 rfl (by (try rw [List.length_set]); omega)
     case h9 => rfl
     refine WA.take 15 rfl qK qK qK rfl rfl qD (pureV_ok tab_ok rfl (fun _ => rfl)) qS qR ?_
     refine' WA.yl 5 rfl qK rfl rfl qD (Yl.load1 tab_ok rfl rfl rfl (fun _ => rfl) ?r10 rfl ?h10) qS qR ?_
     case r10 => apply Rd.add; exact Rd.slD 1 rfl qO
     case h10 => rfl
     refine WA.take 8 rfl qK qK qK rfl rfl qD (pureV_ok tab_ok rfl (fun _ => rfl)) qS qR ?_
     refine WA.take 16 rfl qK qK qK rfl rfl qD (pureV_ok tab_ok rfl (fun _ => rfl)) qS qR ?_
     refine WA.take 17 rfl qK qK qK rfl rfl qD (pureV_ok tab_ok rfl (fun _ => rfl)) qS qR ?_
     refine WA.effN 18 rfl qK rfl rfl (Ef.storeF (enc := encZ) (xs := z1) (⟨(if (nth ps i).size < (nth z1 (nth ps i).flow.toNat).least then (nth ps i).size else (nth z1 (nth ps i).flow.toNat).least), (nth z1 (nth ps i).flow.toNat).most⟩ : Sz) 1 tab_ok rfl rfl rfl rfl rfl qO rfl rfl qD rfl ?_)
     refine ⟨by first | exact RLe.refl _ | assumption, qS, ?_⟩
     refine WA.take 19 rfl qK qK qK rfl rfl qD (pureV_ok tab_ok rfl (fun _ => rfl)) qS qR ?_
     refine WA.take 20 rfl qK qK qK rfl rfl qD (pureV_ok tab_ok rfl (fun _ => rfl)) qS qR ?_
     refine WA.effN 21 rfl (by kernel_rfl) rfl rfl (Ef.storeF (enc := encZ) (xs := z1.set (nth ps i).flow.toNat (⟨(if (nth ps i).size < (nth z1 (nth ps i).flow.toNat).least then (nth ps i).size else (nth z1 (nth ps i).flow.toNat).least), (nth z1 (nth ps i).flow.toNat).most⟩ : Sz)) (⟨(if (nth ps i).size < (nth z1 (nth ps i).flow.toNat).least then (nth ps i).size else (nth z1 (nth ps i).flow.toNat).least), (if (nth z1 (nth ps i).flow.toNat).most < (nth ps i).size then (nth ps i).size else (nth z1 (nth ps i).flow.toNat).most)⟩ : Sz) 1 tab_ok rfl rfl rfl rfl rfl (by rw [List.length_set]; omega) (by rw [hns]; rfl) rfl (by decide) rfl ?_)
     refine ⟨by first | exact RLe.refl _ | assumption, qS, ?_⟩
     refine WA.done qK ?_
     refine WE.blk _ (WE.nxt (W.region _ ?_))
     refine WG.y rfl rfl qD (Yl.add rfl rfl rfl (fun _ => rfl) qA) ?_
     refine WG.run tab_ok 1 rfl (WG.nil ?_)
     refine WE.again ((i + 1, szAdd n z (nth ps i))) (⟨by dsimp only; omega, hnx, hnl⟩) (by (try dsimp only); omega) ⟨rfl, rfl, rfl, rfl, rfl, rfl⟩ (RLe.refl _) (by dsimp only [setAll, List.set_cons_zero, List.set_cons_succ]; first | (rw [hsame]; exact qS) | (rw [← hfin]; exact qS))
   ·
    refine W.seq (W.region _ (WG.run tab_ok 3 rfl ?_))
    refine' WG.y rfl rfl qD (Yl.load1 tab_ok rfl rfl rfl (fun _ => rfl) ?r11 rfl ?h11) ?_
    case r11 => apply Rd.add; exact Rd.slD 1 rfl qO
    case h11 => rfl
    refine WG.run tab_ok 1 rfl (WG.nil (WE.nxt ?_))
    refine W.condE rfl (fun hc2 => ?_) (fun hc2 => ?_)
    ·try dsimp only at hc2
     refine W.region _ (WG.run tab_ok 2 rfl ?_)
     refine' WG.y rfl rfl qD (Yl.load1 tab_ok rfl rfl rfl (fun _ => rfl) ?r12 rfl ?h12) ?_
     case r12 => apply Rd.add; (exact Rd.blk 0 rfl)
     case h12 => rfl
     refine WG.run tab_ok 1 rfl ?_
     refine' WG.y rfl rfl qD (Yl.load1 tab_ok rfl rfl rfl (fun _ => rfl) ?r13 rfl ?h13) ?_
     case r13 => apply Rd.add; (exact Rd.blk 0 rfl)
     case h13 => rfl
     -- build
     refine WG.y rfl rfl qD (Yl.build (parts := [(0, .tmp 37), (1, .tmp 39)]) tab_ok rfl rfl rfl rfl (fun _ => rfl) rfl rfl) ?_
     refine WG.run tab_ok 1 rfl ?_
     refine WL.efN rfl rfl (Ef.storeD (enc := encZ) (xs := z) (⟨(nth ps i).size, (nth ps i).size⟩ : Sz) 1 tab_ok rfl rfl rfl rfl rfl qO rfl rfl rfl rfl ?_)
     refine WG.nil ?_
     refine WE.cut (z.set (nth ps i).flow.toNat ⟨(nth ps i).size, (nth ps i).size⟩) (show _ = szPre z (nth ps i) from by unfold szPre; rw [if_pos hc2]) ⟨rfl, rfl, rfl, rfl, rfl, rfl, rfl, rfl⟩ (RLe.refl _) qS
    ·try dsimp only at hc2
     refine W.skip ?_
     refine WE.cut z (show _ = szPre z (nth ps i) from by unfold szPre; rw [if_neg hc2]) ⟨rfl, rfl, rfl, rfl, rfl, rfl, rfl, rfl⟩ (RLe.refl _) qS
 ·try dsimp only at hc0
  obtain rfl : i = ps.length := by omega
  rw [List.take_length] at hz
  have hz2 : z = sizesL n ps := hz
  subst hz2
  refine W.exit ?_
  refine WE.then_exit (WE.then_exit (WE.blk_exit (WE.nxt (W.seq (W.region _ (WG.run tab_ok 2 rfl (WG.nil (WE.nxt (W.ret ?_)))))))))
  refine WE.retF tab_ok [_] rfl ⟨rfl, trivial⟩ (RLe.refl _) ?_
  exact ⟨some ⟨a10, 0, none⟩, n, by rw [hzl]; rfl, rfl, qS⟩

end Go.Proofs.Ytnackbfnmhkodaa

/- Reference 04: a curve that is never above another. No condition. -/
set_option maxRecDepth 4000
set_option linter.unusedSimpArgs false
set_option linter.unusedVariables false
namespace Go.Proofs.Ytnackbfnmhkodaa
open Go Go.RowKit Go.Proofs.Ytnackbfnmhkodaa.K Go.Proofs.Ytnackbfnmhkodaa.M

theorem Lcm_V {R : Ro} {a b : Nat} (ha : 0 < a ∧ a ≤ 1000000) (hb : 0 < b ∧ b ≤ 1000000) : FnV Try.prog 74 [.int .i64 (a : Int), .int .i64 (b : Int)] R (.int .i64 (lcmN a b : Int)) := by
 refine Fn.toV (fun w0 E => ?_)
 have hg : 0 < Nat.gcd a b := Nat.gcd_pos_of_pos_right _ hb.1
 have hq : ((a : Int) / (Nat.gcd a b : Int) * (b : Int)) ≤ 1000000 * 1000000 ∧ 0 ≤ ((a : Int) / (Nat.gcd a b : Int) * (b : Int)) := by
  have h1 : a / Nat.gcd a b * b ≤ 1000000 * 1000000 := Nat.mul_le_mul (Nat.le_trans (Nat.div_le_self _ _) ha.2) hb.2
  have e : ((a : Int) / (Nat.gcd a b : Int) * (b : Int)) = ((a / Nat.gcd a b * b : Nat) : Int) := rfl
  omega
 refine Fn.enter (n := 12) Try.func74 rfl rfl (Nat.le_of_ble_eq_true rfl) rfl ?_
 refine W.seq (W.region _ (WG.run tab_ok 1 rfl (WG.nil (WE.nxt (W.seq (W.region _ (WG.run tab_ok 3 rfl ?_)))))))
 refine WG.callV en99 rfl rfl qD (CallOp.mk' rfl rfl rfl rfl) (fun _ => rfl) (fun hg => Gcd_V) ?_
 refine WG.y rfl rfl qD (Yl.quo rfl rfl rfl (fun _ => rfl) qA (by intro _; omega)) ?_
 refine WG.run tab_ok 1 rfl ?_
 refine WG.y rfl rfl qD (Yl.mul rfl rfl rfl (fun _ => rfl) qA) ?_
 refine WG.run tab_ok 1 rfl (WG.nil (WE.nxt (W.ret ?_)))
 refine WE.subE (E' := E) qS ?_
 refine WE.retF tab_ok [_] rfl ⟨rfl, trivial⟩ (RLe.refl _) ?_
 exact ⟨rfl, rfl⟩

end Go.Proofs.Ytnackbfnmhkodaa

/- Two valid curves in normal form. No condition. -/
set_option maxRecDepth 4000
set_option linter.unusedSimpArgs false
set_option linter.unusedVariables false
namespace Go.Proofs.Ytnackbfnmhkodaa
open Go Go.RowKit Go.Proofs.Ytnackbfnmhkodaa.K Go.Proofs.Ytnackbfnmhkodaa.M

theorem Pair05_C {R : Ro} {fa : Option Addr} {fc : Nat} {c : Cv} (hv : validB c = true) (ha : RS R 1 encI fa c.vals) (hcap : c.vals.length ≤ fc) {ga : Option Addr} {gc : Nat} {d : Cv} (hw : validB d = true) (hb : RS R 1 encI ga d.vals) (hcapd : d.vals.length ≤ gc) (w0 : World) (E : List Ent) : K.Fn Try.prog 42 [.agg #[.slice fa c.vals.length fc, .int .i64 c.per, .int .i64 c.inc], .agg #[.slice ga d.vals.length gc, .int .i64 d.per, .int .i64 d.inc]] w0 R E (fun v R' E' => ∃ (f1 : Option Addr) (k1 : Nat) (f2 : Option Addr) (k2 : Nat), v = .tuple #[.agg #[.slice f1 (normR c).vals.length k1, .int .i64 (normR c).per, .int .i64 (normR c).inc], .agg #[.slice f2 (normR d).vals.length k2, .int .i64 (normR d).per, .int .i64 (normR d).inc], .int .i64 (if 120 < lcmC (normR c) (normR d) then 0 else (lcmC (normR c) (normR d) : Int)), .int .i64 (if 120 < lcmC (normR c) (normR d) then 3 else 0)] ∧ RS R' 1 encI f1 (normR c).vals ∧ RS R' 1 encI f2 (normR d).vals ∧ E.Sublist E') := by
 have hnv := (norm_valid hv).1
 have hnw := (norm_valid hw).1
 obtain ⟨_, _, _, p1, p2, _⟩ := valid_range hnv
 obtain ⟨_, _, _, q1, q2, _⟩ := valid_range hnw
 refine Fn.enter (n := 43) Try.func42 rfl rfl (Nat.le_of_ble_eq_true rfl) rfl ?_
 refine W.seq (W.region _ ?_)
 refine WL.ef rfl rfl qD (Ef.box rfl rfl (fun b2 => ?_))
 refine WL.ef rfl rfl qD (Ef.box rfl rfl (fun b3 => ?_))
 refine WL.ef rfl rfl qD (Ef.alloc tab_ok rfl rfl (fun b4 => ?_))
 refine WL.ef rfl rfl qD (Ef.alloc tab_ok rfl rfl (fun b5 => ?_))
 refine WG.run tab_ok 2 rfl (WG.nil (WE.nxt (W.seq (W.region _ ?_))))
 refine' WG.y rfl rfl qD (Yl.load1 tab_ok rfl rfl rfl (fun _ => rfl) ?r1 rfl ?h1) ?_
 case r1 => (exact Rd.blk 3 rfl)
 case h1 => rfl
 refine WL.call en73 rfl rfl qD (CallOp.mkT rfl rfl rfl rfl) (Normal02_C hv ha hcap w0 _) ?_
 rintro _ R1 E1 hR1 ⟨f1, k1, rfl, hf1, hsub1⟩
 refine WL.subE hsub1 ?_
 unfold cvV
 have hb := hb.mono hR1
 refine WG.run tab_ok 3 rfl ?_
 refine WL.ef rfl rfl qD (Ef.alloc tab_ok rfl rfl (fun b8 => ?_))
 refine WL.efN rfl rfl (Ef.store0 0 tab_ok rfl rfl rfl rfl rfl rfl rfl rfl ?_)
 refine WG.run tab_ok 1 rfl (WG.nil (WE.nxt (W.seq (W.region _ ?_))))
 refine' WG.y rfl rfl qD (Yl.load1 tab_ok rfl rfl rfl (fun _ => rfl) ?r2 rfl ?h2) ?_
 case r2 => (exact Rd.blk 3 rfl)
 case h2 => rfl
 refine WL.call en73 rfl rfl qD (CallOp.mkT rfl rfl rfl rfl) (Normal02_C hw hb hcapd w0 _) ?_
 rintro _ R2 E2 hR2 ⟨f2, k2, rfl, hf2, hsub2⟩
 refine WL.subE hsub2 ?_
 unfold cvV
 have hf1 := hf1.mono hR2
 generalize normR c = m1 at *
 generalize normR d = m2 at *
 refine WG.run tab_ok 3 rfl ?_
 refine WL.ef rfl rfl qD (Ef.alloc tab_ok rfl rfl (fun b10 => ?_))
 refine WL.efN rfl rfl (Ef.store0 0 tab_ok rfl rfl rfl rfl rfl rfl rfl rfl ?_)
 refine WG.run tab_ok 1 rfl (WG.nil (WE.nxt (W.seq (W.seq (W.region _ (WG.run tab_ok 3 rfl ?_))))))
 refine WL.guardT rfl (by rfl) ?_
 refine WG.y rfl rfl qD (pureV_ok tab_ok rfl (fun _ => rfl)) ?_
 refine WL.guardT rfl (by rfl) ?_
 refine WG.y rfl rfl qD (pureV_ok tab_ok rfl (fun _ => rfl)) ?_
 refine WG.y rfl rfl (by decide) (Yl.por rfl rfl rfl (fun _ => rfl) (by intro h1 h2; simp_all <;> omega)) ?_
 refine WG.nil (WE.nxt ?_)
 refine W.cond rfl (fun hc0 => ?_) (fun hc0 => ?_)
 ·try simp only [kk] at hc0
  (simp at hc0; done)
 ·try simp only [kk] at hc0
  refine W.skip (WE.nxt (W.seq (W.region _ (WG.run tab_ok 1 rfl ?_))))
  refine' WG.y rfl rfl qD (Yl.load1 tab_ok rfl rfl rfl (fun _ => rfl) ?r3 rfl ?h3) ?_
  case r3 => apply Rd.add; (exact Rd.blk 1 rfl)
  case h3 => rfl
  refine WG.run tab_ok 1 rfl ?_
  refine' WG.y rfl rfl qD (Yl.load1 tab_ok rfl rfl rfl (fun _ => rfl) ?r4 rfl ?h4) ?_
  case r4 => apply Rd.add; (exact Rd.blk 0 rfl)
  case h4 => rfl
  refine WG.callV (v := .int .i64 (lcmC m1 m2 : Int)) en74 rfl rfl (by decide) (CallOp.mk' rfl rfl rfl rfl) (fun _ => rfl) (fun hg => by have h := Lcm_V (R := R2) (a := m1.per.toNat) (b := m2.per.toNat) (by omega) (by omega); rw [Int.toNat_of_nonneg (by omega), Int.toNat_of_nonneg (by omega)] at h; exact h) ?_
  refine WG.run tab_ok 1 rfl (WG.nil (WE.nxt (W.seq (W.seq (W.region _ (WG.run tab_ok 2 rfl (WG.nil (WE.nxt ?_))))))))
  refine W.condD rfl (fun hc1 => ?_) (fun hc1 => ?_)
  ·try dsimp only at hc1
   have hL : 120 < lcmC m1 m2 := by omega
   refine W.seq ?_
   refine W.regionH _ (ES := [.blk b10 [.slice f2 m2.vals.length k2, .int .i64 m2.per, .int .i64 m2.inc], .blk b8 [.slice f1 m1.vals.length k1, .int .i64 m1.per, .int .i64 m1.inc]]) mixed ?_
   refine' WA.take 0 rfl qK qK qK rfl rfl qD (Yl.load1 tab_ok rfl rfl rfl (fun _ => rfl) ?r5 rfl ?h5) qS qR ?_
   case r5 => (exact Rd.blk 1 rfl)
   case h5 => rfl
   refine' WA.take 1 rfl qK qK qK rfl rfl qD (Yl.load1 tab_ok rfl rfl rfl (fun _ => rfl) ?r6 rfl ?h6) qS qR ?_
   case r6 => (exact Rd.blk 0 rfl)
   case h6 => rfl
   refine WA.effN 2 rfl qK rfl rfl (Ef.store0 3 tab_ok rfl rfl rfl rfl rfl rfl rfl rfl ?_)
   refine ⟨by first | exact RLe.refl _ | assumption, qS, ?_⟩
   refine WA.effN 3 rfl qK rfl rfl (Ef.store0 2 tab_ok rfl rfl rfl rfl rfl rfl rfl rfl ?_)
   refine ⟨by first | exact RLe.refl _ | assumption, qS, ?_⟩
   refine WA.take 4 rfl qK qK qK rfl rfl qD (pureV_ok tab_ok rfl (fun _ => rfl)) qS qR ?_
   refine WA.take 5 rfl qK qK qK rfl rfl qD (pureV_ok tab_ok rfl (fun _ => rfl)) qS qR ?_
   refine WA.done qK ?_
   refine WE.nxt (W.ret (WE.then_ret ?_))
   refine WE.retF tab_ok [_, _, _, _] rfl ⟨⟨_, _, _, rfl, rfl, rfl, ((by first | exact Rd.blk 0 rfl | exact Rd.blk 1 rfl | exact Rd.blk 2 rfl | exact Rd.blk 3 rfl | exact Rd.blk 4 rfl | exact Rd.blk 5 rfl | exact Rd.blk 6 rfl | exact Rd.blk 7 rfl)), rfl⟩, ⟨_, _, _, rfl, rfl, rfl, ((by first | exact Rd.blk 0 rfl | exact Rd.blk 1 rfl | exact Rd.blk 2 rfl | exact Rd.blk 3 rfl | exact Rd.blk 4 rfl | exact Rd.blk 5 rfl | exact Rd.blk 6 rfl | exact Rd.blk 7 rfl)), rfl⟩, rfl, rfl, trivial⟩ (hR1.trans hR2) ?_
   exact ⟨f1, k1, f2, k2, by rw [if_pos hL, if_pos hL]; rfl, hf1, hf2, qS⟩
  ·try dsimp only at hc1
   have hL : ¬ 120 < lcmC m1 m2 := by omega
   refine W.skip (WE.nxt (W.seq ?_))
   refine W.regionH _ (ES := [.blk b10 [.slice f2 m2.vals.length k2, .int .i64 m2.per, .int .i64 m2.inc], .blk b8 [.slice f1 m1.vals.length k1, .int .i64 m1.per, .int .i64 m1.inc]]) mixed ?_
   refine' WA.take 0 rfl qK qK qK rfl rfl qD (Yl.load1 tab_ok rfl rfl rfl (fun _ => rfl) ?r7 rfl ?h7) qS qR ?_
   case r7 => (exact Rd.blk 1 rfl)
   case h7 => rfl
   refine' WA.take 1 rfl qK qK qK rfl rfl qD (Yl.load1 tab_ok rfl rfl rfl (fun _ => rfl) ?r8 rfl ?h8) qS qR ?_
   case r8 => (exact Rd.blk 0 rfl)
   case h8 => rfl
   refine WA.take 2 rfl qK qK qK rfl rfl qD (pureV_ok tab_ok rfl (fun _ => rfl)) qS qR ?_
   refine WA.effN 3 rfl qK rfl rfl (Ef.store0 3 tab_ok rfl rfl rfl rfl rfl rfl rfl rfl ?_)
   refine ⟨by first | exact RLe.refl _ | assumption, qS, ?_⟩
   refine WA.effN 4 rfl qK rfl rfl (Ef.store0 2 tab_ok rfl rfl rfl rfl rfl rfl rfl rfl ?_)
   refine ⟨by first | exact RLe.refl _ | assumption, qS, ?_⟩
   refine WA.take 5 rfl qK qK qK rfl rfl qD (pureV_ok tab_ok rfl (fun _ => rfl)) qS qR ?_
   refine WA.take 6 rfl qK qK qK rfl rfl qD (pureV_ok tab_ok rfl (fun _ => rfl)) qS qR ?_
   refine WA.done qK ?_
   refine WE.nxt (W.ret ?_)
   refine WE.retF tab_ok [_, _, _, _] rfl ⟨⟨_, _, _, rfl, rfl, rfl, ((by first | exact Rd.blk 0 rfl | exact Rd.blk 1 rfl | exact Rd.blk 2 rfl | exact Rd.blk 3 rfl | exact Rd.blk 4 rfl | exact Rd.blk 5 rfl | exact Rd.blk 6 rfl | exact Rd.blk 7 rfl)), rfl⟩, ⟨_, _, _, rfl, rfl, rfl, ((by first | exact Rd.blk 0 rfl | exact Rd.blk 1 rfl | exact Rd.blk 2 rfl | exact Rd.blk 3 rfl | exact Rd.blk 4 rfl | exact Rd.blk 5 rfl | exact Rd.blk 6 rfl | exact Rd.blk 7 rfl)), rfl⟩, rfl, rfl, trivial⟩ (hR1.trans hR2) ?_
   exact ⟨f1, k1, f2, k2, by rw [if_neg hL, if_neg hL]; rfl, hf1, hf2, qS⟩

theorem Plus05_V {R : Ro} {x y : Int} (hx : x = INF ∨ (0 ≤ x ∧ x ≤ 2000000000000000000)) (hy : y = INF ∨ (0 ≤ y ∧ y ≤ 2000000000000000000)) : FnV Try.prog 97 [.int .i64 x, .int .i64 y] R (.int .i64 (if x = INF ∨ y = INF then INF else x + y)) := by
 unfold INF at *
 refine Fn.toV (fun w0 E => ?_)
 refine Fn.enter (n := 14) Try.func97 rfl rfl (Nat.le_of_ble_eq_true rfl) rfl ?_
 refine W.seq (W.region _ (WG.run tab_ok 1 rfl (WG.nil (WE.nxt (W.seq (W.seq (W.region _ (WG.run tab_ok 3 rfl ?_))))))))
 refine WG.y rfl rfl qD (pureV_ok tab_ok rfl qE) ?_
 refine WG.y rfl rfl qD (pureV_ok tab_ok rfl qE) ?_
 refine WG.y rfl rfl (by decide) (Yl.por rfl rfl rfl (fun _ => rfl) (by intro h1 h2; simp_all <;> omega)) ?_
 refine WG.nil (WE.nxt ?_)
 refine W.cond rfl (fun hc0 => ?_) (fun hc0 => ?_)
 ·try simp only [kk] at hc0
  have hh : x = 4611686018427387904 ∨ y = 4611686018427387904 := by first | exact hc0 | omega
  refine W.seq (W.region _ (WG.run tab_ok 1 rfl (WG.nil (WE.nxt (W.ret (WE.then_ret ?_))))))
  refine WE.subE (E' := E) qS ?_
  refine WE.retF tab_ok [_] rfl ⟨rfl, trivial⟩ (RLe.refl _) ?_
  exact ⟨by rw [if_pos hh]; rfl, rfl⟩
 ·try simp only [kk] at hc0
  have hh : ¬ (x = 4611686018427387904 ∨ y = 4611686018427387904) := by first | exact hc0 | omega
  refine W.skip (WE.nxt (W.seq (W.region _ (WG.run tab_ok 2 rfl ?_))))
  refine WG.y rfl rfl qD (Yl.add rfl rfl rfl (fun _ => rfl) qA) ?_
  refine WG.run tab_ok 1 rfl (WG.nil (WE.nxt (W.ret ?_)))
  refine WE.subE (E' := E) qS ?_
  refine WE.retF tab_ok [_] rfl ⟨rfl, trivial⟩ (RLe.refl _) ?_
  exact ⟨by rw [if_neg hh]; rfl, rfl⟩

end Go.Proofs.Ytnackbfnmhkodaa

/- The share: differences and their least. No condition. -/
set_option maxRecDepth 4000
set_option linter.unusedSimpArgs false
set_option linter.unusedVariables false
namespace Go.Proofs.Ytnackbfnmhkodaa
open Go Go.RowKit Go.Proofs.Ytnackbfnmhkodaa.K Go.Proofs.Ytnackbfnmhkodaa.M

end Go.Proofs.Ytnackbfnmhkodaa

/- Reference 17: parts. No condition. -/
set_option maxRecDepth 4000
set_option linter.unusedSimpArgs false
set_option linter.unusedVariables false
namespace Go.Proofs.Ytnackbfnmhkodaa
open Go Go.RowKit Go.Proofs.Ytnackbfnmhkodaa.K Go.Proofs.Ytnackbfnmhkodaa.M

theorem Slopes05_V {R : Ro} {a1 : Option Addr} {c1 : Nat} {m1 : Cv} (hv1 : validB m1 = true) (hx1 : RS R 1 encI a1 m1.vals) {a2 : Option Addr} {c2 : Nat} {m2 : Cv} (hv2 : validB m2 = true) (hx2 : RS R 1 encI a2 m2.vals) {L : Nat} (hL : L ≤ 10000) : FnV Try.prog 44 [.agg #[.slice a1 m1.vals.length c1, .int .i64 m1.per, .int .i64 m1.inc], .agg #[.slice a2 m2.vals.length c2, .int .i64 m2.per, .int .i64 m2.inc], .int .i64 (L : Int)] R (.int .i64 (gainC m1 L - gainC m2 L)) := by
 refine Fn.toV (fun w0 E => ?_)
 obtain ⟨_, _, _, p1, p2, p3, p4, p5⟩ := valid_range hv1
 obtain ⟨_, _, _, q1, q2, q3, q4, q5⟩ := valid_range hv2
 have d0 : 0 ≤ (L : Int) / m1.per := Int.ediv_nonneg (by omega) (by omega)
 have d1 : (L : Int) / m1.per ≤ L := Int.ediv_le_self _ (by omega)
 have e0 : 0 ≤ (L : Int) / m2.per := Int.ediv_nonneg (by omega) (by omega)
 have e1 : (L : Int) / m2.per ≤ L := Int.ediv_le_self _ (by omega)
 have h1 := mulB (a := m1.inc) (b := (L : Int) / m1.per) (A := 1073741824) (B := 10000) (by omega) (by omega)
 have h2 := mulB (a := m2.inc) (b := (L : Int) / m2.per) (A := 1073741824) (B := 10000) (by omega) (by omega)
 have hr : m1.inc * ((L : Int) / m1.per) - m2.inc * ((L : Int) / m2.per) = gainC m1 L - gainC m2 L := by unfold gainC; rw [Int.mul_comm m1.inc, Int.mul_comm m2.inc]
 refine Fn.enter (n := 22) Try.func44 rfl rfl (Nat.le_of_ble_eq_true rfl) rfl ?_
 refine W.seq (W.region _ ?_)
 refine WL.ef rfl rfl qD (Ef.box rfl rfl (fun b3 => ?_))
 refine WL.ef rfl rfl qD (Ef.box rfl rfl (fun b4 => ?_))
 refine WG.run tab_ok 1 rfl (WG.nil (WE.nxt (W.seq ?_)))
 refine W.regionQ _ mixed qK ?_
 refine WG.run tab_ok 1 rfl ?_
 refine' WG.y rfl rfl qD (Yl.load1 tab_ok rfl rfl rfl (fun _ => rfl) ?r1 rfl ?h1) ?_
 case r1 => apply Rd.add; (exact Rd.blk 1 rfl)
 case h1 => rfl
 refine WG.run tab_ok 2 rfl ?_
 refine' WG.y rfl rfl qD (Yl.load1 tab_ok rfl rfl rfl (fun _ => rfl) ?r2 rfl ?h2) ?_
 case r2 => apply Rd.add; (exact Rd.blk 1 rfl)
 case h2 => rfl
 refine WG.y rfl rfl qD (Yl.quo rfl rfl rfl (fun _ => rfl) qA (by intro _; omega)) ?_
 refine WG.y rfl rfl qD (Yl.mul rfl rfl rfl (fun _ => rfl) qA) ?_
 refine WG.run tab_ok 1 rfl ?_
 refine' WG.y rfl rfl qD (Yl.load1 tab_ok rfl rfl rfl (fun _ => rfl) ?r3 rfl ?h3) ?_
 case r3 => apply Rd.add; (exact Rd.blk 0 rfl)
 case h3 => rfl
 refine WG.run tab_ok 2 rfl ?_
 refine' WG.y rfl rfl qD (Yl.load1 tab_ok rfl rfl rfl (fun _ => rfl) ?r4 rfl ?h4) ?_
 case r4 => apply Rd.add; (exact Rd.blk 0 rfl)
 case h4 => rfl
 refine WG.y rfl rfl qD (Yl.quo rfl rfl rfl (fun _ => rfl) qA (by intro _; omega)) ?_
 refine WG.y rfl rfl qD (Yl.mul rfl rfl rfl (fun _ => rfl) qA) ?_
 refine WG.y rfl rfl qD (Yl.sub rfl rfl rfl (fun _ => rfl) qA) ?_
 refine WG.run tab_ok 1 rfl (WG.nil (WE.nxt (W.ret ?_)))
 refine WE.subE (E' := E) qS ?_
 refine WE.retF tab_ok [_] rfl ⟨rfl, trivial⟩ (RLe.refl _) ?_
 exact ⟨by rw [← hr]; rfl, rfl⟩

theorem Flat02K_C {R : Ro} {k : Int} (hk : 0 ≤ k ∧ k ≤ 1073741824) (w0 : World) (E : List Ent) : K.Fn Try.prog 46 [.int .i64 k] w0 R E (fun r R' E' => ∃ (f : Option Addr) (fc : Nat), r = cvV f fc (flatC k) ∧ RS R' 1 encI f (flatC k).1.vals ∧ (flatC k).1.vals.length ≤ fc ∧ E.Sublist E') := by
 have hmn : (if (1073741825 : Int) < k then (1073741825 : Int) else k) = k := if_neg (by omega)
 have hg1 : Grows (flatF k) 1 1 0 := fun t ht => by unfold flatF; rw [if_neg (by omega), if_neg (by omega)]; omega
 have hm : ∀ t, flatF k t ≤ flatF k (t + 1) := fun t => by unfold flatF; rw [if_neg (show ¬ t + 1 = 0 by omega)]; split <;> omega
 have hfb : ∀ t, 0 ≤ flatF k t ∧ flatF k t ≤ 1073741824 := fun t => by unfold flatF; split <;> omega
 have hv2 : fvals (flatF k) (1 + 1) = [0, k] := by simp [fvals, flatF, List.range_succ]
 have hd : flatC k = madeR ⟨[0, k], ((1 : Nat) : Int), 0⟩ := by
  have := build_made_fin (F := flatF k) (S := 1) (P := 1) (S' := 1) (P' := 1) (by decide) (by decide) hg1 (by decide) (by decide) hg1 hm (hfb 0).1 (fun t _ => by have := hfb t; unfold INF; omega) (fun t _ => by have := hfb t; unfold INF; omega)
  rw [hv2] at this
  exact this
 have hmk : MadeOk [0, k] ((1 : Nat) : Int) 0 := by
  have := madeOk_fin (F := flatF k) (S := 1) (P := 1) (I := 0) ⟨by decide, by decide⟩ (by decide) ⟨by decide, by decide⟩ hg1 (fun t _ => by have := hfb t; omega)
  rw [hv2] at this
  exact this
 refine Fn.enter (n := 14) Try.func46 rfl rfl (Nat.le_of_ble_eq_true rfl) rfl ?_
 refine W.seq (W.region _ ?_)
 refine WL.ef rfl rfl qD (Ef.alloc tab_ok rfl rfl (fun b2 => ?_))
 refine WG.run tab_ok 1 rfl (WG.nil (WE.nxt (W.seq (W.seq (W.region _ (WG.run tab_ok 2 rfl (WG.nil (WE.nxt ?_))))))))
 refine W.condD rfl (fun hc0 => ?_) (fun hc0 => ?_)
 ·try dsimp only at hc0
  omega
 ·try dsimp only at hc0
  refine W.skip (WE.nxt (W.seq (W.region _ (WG.run tab_ok 2 rfl ?_))))
  rw [hmn]
  refine WL.ef rfl rfl qD (Ef.buildSliceD (enc := encI) (parts := [.const (.int .i64 0), .tmp 8]) [0, k] tab_ok rfl rfl rfl rfl rfl rfl rfl rfl qD qD (fun a9 => ?_))
  -- build
  refine WG.y rfl rfl qD (Yl.build (parts := [(0, .tmp 9), (1, .const (.int .i64 1))]) tab_ok rfl rfl rfl rfl (fun _ => rfl) rfl rfl) ?_
  refine WL.freeze (enc := encI) (xs := [0, k]) 0 rfl ?_
  intro R1 hR1 hv0
  refine WL.call en47 rfl rfl qD (CallOp.mkT rfl rfl rfl rfl) (MadeGK_C (cc := 2) hv0 (by show 2 ≤ 100000; decide) hmk (Nat.le_refl 2) w0 _) ?_
  rintro _ R4 E4 hR4 ⟨f, fc4, rfl, hf4, hcp4, hsub4⟩
  refine WL.subE hsub4 ?_
  rw [← hd] at hf4 hcp4 ⊢
  unfold cvV
  refine WG.run tab_ok 2 rfl ?_
  refine WL.efN rfl rfl (Ef.store0 0 tab_ok rfl rfl rfl rfl rfl rfl rfl rfl ?_)
  refine WG.run tab_ok 1 rfl (WG.nil (WE.nxt (W.ret ?_)))
  refine WE.retF tab_ok [_, _] rfl ⟨⟨_, _, _, rfl, rfl, rfl, ((by first | exact Rd.blk 0 rfl | exact Rd.blk 1 rfl | exact Rd.blk 2 rfl | exact Rd.blk 3 rfl)), rfl⟩, rfl, trivial⟩ (hR1.trans hR4) ?_
  exact ⟨f, fc4, rfl, hf4, hcp4, qS⟩

theorem MadeGLK_C {R : Ro} {a : Option Addr} {cc l : Nat} {v : List Int} {per inc : Int} (ha : RS R 1 encI a v) (hvl : v.length = l) (hl : l ≤ 100000) (hok : MadeOk v per inc) (hac : l ≤ cc) (w0 : World) (E : List Ent) : K.Fn Try.prog 47 [.agg #[.slice a l cc, .int .i64 per, .int .i64 inc]] w0 R E (fun r R' E' => ∃ (f : Option Addr) (fc : Nat), r = cvV f fc (madeR ⟨v, per, inc⟩) ∧ RS R' 1 encI f (madeR ⟨v, per, inc⟩).1.vals ∧ (madeR ⟨v, per, inc⟩).1.vals.length ≤ fc ∧ E.Sublist E') := by
 subst hvl
 exact MadeGK_C ha hl hok hac w0 E

end Go.Proofs.Ytnackbfnmhkodaa

/- The reference sums any valid curves. No condition. -/
set_option maxRecDepth 4000
set_option linter.unusedSimpArgs false
set_option linter.unusedVariables false
namespace Go.Proofs.Ytnackbfnmhkodaa
open Go Go.RowKit Go.Proofs.Ytnackbfnmhkodaa.K Go.Proofs.Ytnackbfnmhkodaa.M

set_option maxHeartbeats 4000000 in
theorem SumG05_C {R : Ro} {fa : Option Addr} {fc : Nat} {c : Cv} (hv : validB c = true) (ha : RS R 1 encI fa c.vals) (hcap : c.vals.length ≤ fc) {ga : Option Addr} {gc : Nat} {d : Cv} (hw : validB d = true) (hb : RS R 1 encI ga d.vals) (hcapd : d.vals.length ≤ gc) (w0 : World) (E : List Ent) : K.Fn Try.prog 96 [.agg #[.slice fa c.vals.length fc, .int .i64 c.per, .int .i64 c.inc], .agg #[.slice ga d.vals.length gc, .int .i64 d.per, .int .i64 d.inc]] w0 R E (fun r R' E' => ∃ (f : Option Addr) (fc : Nat), r = cvV f fc (sumC c d) ∧ RS R' 1 encI f (sumC c d).1.vals ∧ (sumC c d).1.vals.length ≤ fc ∧ E.Sublist E') := by
 have hnv := (norm_valid hv).1
 have hnw := (norm_valid hw).1
 refine Fn.enter (n := 70) Try.func96 rfl rfl (Nat.le_of_ble_eq_true rfl) rfl ?_
 refine W.seq (W.region _ ?_)
 refine WL.ef rfl rfl qD (Ef.box rfl rfl (fun b2 => ?_))
 refine WL.ef rfl rfl qD (Ef.box rfl rfl (fun b3 => ?_))
 refine WL.ef rfl rfl qD (Ef.alloc tab_ok rfl rfl (fun b4 => ?_))
 refine WG.run tab_ok 1 rfl (WG.nil (WE.nxt (W.seq (W.region _ ?_))))
 refine' WG.y rfl rfl qD (Yl.load1 tab_ok rfl rfl rfl (fun _ => rfl) ?r1 rfl ?h1) ?_
 case r1 => (exact Rd.blk 2 rfl)
 case h1 => rfl
 refine' WG.y rfl rfl qD (Yl.load1 tab_ok rfl rfl rfl (fun _ => rfl) ?r2 rfl ?h2) ?_
 case r2 => (exact Rd.blk 1 rfl)
 case h2 => rfl
 refine WL.call en42 rfl rfl qD (CallOp.mkT rfl rfl rfl rfl) (Pair05_C hv ha hcap hw hb hcapd w0 _) ?_
 rintro _ R1 E1 hR1 ⟨f1, k1, f2, k2, rfl, hf1, hf2, hsub1⟩
 refine WL.subE hsub1 ?_
 have hun : sumC c d = if 120 < lcmC (normR c) (normR d) then (zcv, 3) else mbuild (plusF (normR c) (normR d)) (max (stN (normR c)) (stN (normR d))) (lcmC (normR c) (normR d)) (gainC (normR c) (lcmC (normR c) (normR d)) + gainC (normR d) (lcmC (normR c) (normR d))) := by unfold sumC; rw [if_neg (by rw [hv, hw]; simp)]
 generalize normR c = m1 at *
 generalize normR d = m2 at *
 obtain ⟨_, _, s1, p1, p2, p3, p4, p5⟩ := valid_range hnv
 obtain ⟨_, _, s2, q1, q2, q3, q4, q5⟩ := valid_range hnw
 refine WG.run tab_ok 5 rfl ?_
 refine WL.ef rfl rfl qD (Ef.alloc tab_ok rfl rfl (fun b6 => ?_))
 refine WL.ef rfl rfl qD (Ef.alloc tab_ok rfl rfl (fun b7 => ?_))
 refine WL.efN rfl rfl (Ef.store0 1 tab_ok rfl rfl rfl rfl rfl rfl rfl rfl ?_)
 refine WL.efN rfl rfl (Ef.store0 0 tab_ok rfl rfl rfl rfl rfl rfl rfl rfl ?_)
 refine WG.run tab_ok 2 rfl (WG.nil (WE.nxt (W.seq (W.seq (W.region _ (WG.run tab_ok 2 rfl (WG.nil (WE.nxt ?_))))))))
 refine W.condN rfl (fun hc0 => ?_) (fun hc0 => ?_)
 ·try dsimp only at hc0
  have hL : 120 < lcmC m1 m2 := by
   apply Classical.byContradiction; intro h
   rw [if_neg h] at hc0; exact hc0 rfl
  have hd : sumC c d = (zcv, 3) := by rw [hun, if_pos hL]
  refine W.seq (W.region _ ?_)
  -- build
  refine WG.y rfl rfl qD (Yl.build (parts := []) tab_ok rfl rfl rfl rfl (fun _ => rfl) rfl rfl) ?_
  refine WG.run tab_ok 1 rfl ?_
  refine WL.efN rfl rfl (Ef.store0 2 tab_ok rfl rfl rfl rfl rfl rfl rfl rfl ?_)
  refine WG.run tab_ok 1 rfl (WG.nil (WE.nxt (W.ret (WE.then_ret ?_))))
  refine WE.retF tab_ok [_, _] rfl ⟨⟨_, _, _, rfl, rfl, rfl, ((by first | exact Rd.blk 0 rfl | exact Rd.blk 1 rfl | exact Rd.blk 2 rfl | exact Rd.blk 3 rfl | exact Rd.blk 4 rfl | exact Rd.blk 5 rfl | exact Rd.blk 6 rfl | exact Rd.blk 7 rfl)), rfl⟩, rfl, trivial⟩ ((by first | exact hR1 | exact hR1.trans (hR2.trans hR4))) ?_
  rw [if_pos hL]
  exact ⟨none, 0, by rw [hd]; rfl, by rw [hd]; exact rs_nil, by rw [hd]; exact Nat.le_refl _, qS⟩
 ·try dsimp only at hc0
  have hL : ¬ 120 < lcmC m1 m2 := fun h => by rw [if_pos h] at hc0; exact absurd hc0 (by decide)
  rw [if_neg hL] at hun
  have hLp : 0 < lcmC m1 m2 := (lcm_mod (show 0 < m1.per.toNat by omega) (show 0 < m2.per.toNat by omega)).2.2
  obtain ⟨hmade, hmok⟩ := sum_ref hnv hnw (by omega) (n := (max m1.vals.length m2.vals.length)) (by omega) (by omega)
  have hgb1 := gain_bound hnv (L := lcmC m1 m2) (by omega)
  have hgb2 := gain_bound hnw (L := lcmC m1 m2) (by omega)
  have hgi : (gainC m1 (lcmC m1 m2) + gainC m2 (lcmC m1 m2)) = m1.inc * ((lcmC m1 m2 : Int) / m1.per) + m2.inc * ((lcmC m1 m2 : Int) / m2.per) := by unfold gainC; rw [Int.mul_comm m1.inc, Int.mul_comm m2.inc]
  have hd1 : 0 ≤ (lcmC m1 m2 : Int) / m1.per ∧ (lcmC m1 m2 : Int) / m1.per ≤ 120 := ⟨Int.ediv_nonneg (by omega) (by omega), by have := Int.ediv_le_self (a := (lcmC m1 m2 : Int)) m1.per (by omega); omega⟩
  have hd2 : 0 ≤ (lcmC m1 m2 : Int) / m2.per ∧ (lcmC m1 m2 : Int) / m2.per ≤ 120 := ⟨Int.ediv_nonneg (by omega) (by omega), by have := Int.ediv_le_self (a := (lcmC m1 m2 : Int)) m2.per (by omega); omega⟩
  have hq1 := mulB (a := m1.inc) (b := (lcmC m1 m2 : Int) / m1.per) (A := 1073741824) (B := 120) (by omega) (by omega)
  have hq2 := mulB (a := m2.inc) (b := (lcmC m1 m2 : Int) / m2.per) (A := 1073741824) (B := 120) (by omega) (by omega)
  have hle : ∀ t, t ≤ 100000 → plusF m1 m2 t = (if cvF m1 t = INF ∨ cvF m2 t = INF then INF else cvF m1 t + cvF m2 t) ∧ (cvF m1 t = INF ∨ (0 ≤ cvF m1 t ∧ cvF m1 t ≤ 2000000000000000000)) ∧ (cvF m2 t = INF ∨ (0 ≤ cvF m2 t ∧ cvF m2 t ≤ 2000000000000000000)) := fun t ht => by
   have b1 := cvF_bound hnv t
   have b2 := cvF_bound hnw t
   have i1 := isInf_iff hnv (t := t) (by omega)
   have i2 := isInf_iff hnw (t := t) (by omega)
   refine ⟨?_, by omega, by omega⟩
   unfold plusF
   by_cases h : cvF m1 t = INF ∨ cvF m2 t = INF
   ·rw [if_pos h, if_pos (h.imp i1.2 i2.2)]
   ·rw [if_neg h, if_neg (fun x => h (x.imp i1.1 i2.1))]
  rw [if_neg hL, if_neg hL]
  refine W.skip (WE.nxt (W.seq ?_))
  refine W.regionH _ (ES := [.blk b7 [.slice f2 m2.vals.length k2, .int .i64 m2.per, .int .i64 m2.inc], .blk b6 [.slice f1 m1.vals.length k1, .int .i64 m1.per, .int .i64 m1.inc]]) mixed ?_
  refine WA.take 0 rfl qK qK qK rfl rfl qD (pureV_ok tab_ok rfl (fun _ => rfl)) qS qR ?_
  refine WA.take 1 rfl qK qK qK rfl rfl qD (pureV_ok tab_ok rfl (fun _ => rfl)) qS qR ?_
  refine' WA.take 2 rfl qK qK qK rfl rfl qD (Yl.load1 tab_ok rfl rfl rfl (fun _ => rfl) ?r3 rfl ?h3) qS qR ?_
  case r3 => apply Rd.add; (exact Rd.blk 1 rfl)
  case h3 => rfl
  refine WA.take 3 rfl qK qK qK rfl rfl qD (pureV_ok tab_ok rfl (fun _ => rfl)) qS qR ?_
  refine WA.take 4 rfl qK qK qK rfl rfl qD (pureV_ok tab_ok rfl (fun _ => rfl)) qS qR ?_
  refine' WA.take 5 rfl qK qK qK rfl rfl qD (Yl.load1 tab_ok rfl rfl rfl (fun _ => rfl) ?r4 rfl ?h4) qS qR ?_
  case r4 => apply Rd.add; (exact Rd.blk 1 rfl)
  case h4 => rfl
  refine WA.take 6 rfl qK qK qK rfl rfl qD (Yl.quo rfl rfl rfl (fun _ => rfl) qA (by intro _; omega)) qS qR ?_
  refine WA.take 7 rfl qK qK qK rfl rfl qD (Yl.mul rfl rfl rfl (fun _ => rfl) qA) qS qR ?_
  refine WA.take 8 rfl qK qK qK rfl rfl qD (pureV_ok tab_ok rfl (fun _ => rfl)) qS qR ?_
  refine' WA.take 9 rfl qK qK qK rfl rfl qD (Yl.load1 tab_ok rfl rfl rfl (fun _ => rfl) ?r5 rfl ?h5) qS qR ?_
  case r5 => apply Rd.add; (exact Rd.blk 0 rfl)
  case h5 => rfl
  refine WA.take 10 rfl qK qK qK rfl rfl qD (pureV_ok tab_ok rfl (fun _ => rfl)) qS qR ?_
  refine WA.take 11 rfl qK qK qK rfl rfl qD (pureV_ok tab_ok rfl (fun _ => rfl)) qS qR ?_
  refine' WA.take 12 rfl qK qK qK rfl rfl qD (Yl.load1 tab_ok rfl rfl rfl (fun _ => rfl) ?r6 rfl ?h6) qS qR ?_
  case r6 => apply Rd.add; (exact Rd.blk 0 rfl)
  case h6 => rfl
  refine WA.take 13 rfl qK qK qK rfl rfl qD (Yl.quo rfl rfl rfl (fun _ => rfl) qA (by intro _; omega)) qS qR ?_
  refine WA.take 14 rfl qK qK qK rfl rfl qD (Yl.mul rfl rfl rfl (fun _ => rfl) qA) qS qR ?_
  refine WA.take 15 rfl qK qK qK rfl rfl qD (Yl.add rfl rfl rfl (fun _ => rfl) qA) qS qR ?_
  -- build
  refine WA.take 16 rfl qK qK qK rfl rfl qD (Yl.build (parts := [(1, .tmp 24), (2, .tmp 39)]) tab_ok rfl rfl rfl rfl (fun _ => rfl) rfl rfl) qS qR ?_
  refine WA.eff 17 rfl qK rfl rfl qD (Ef.alloc tab_ok rfl rfl (fun b10 => ?_))
  refine ⟨by first | exact RLe.refl _ | assumption, qS, ?_⟩
  refine WA.effN 18 rfl qK rfl rfl (Ef.store0 0 tab_ok rfl rfl rfl rfl rfl rfl rfl rfl ?_)
  refine ⟨by first | exact RLe.refl _ | assumption, qS, ?_⟩
  refine WA.done qK ?_
  refine WE.nxt (W.seq ?_)
  rw [← hgi]
  generalize (gainC m1 (lcmC m1 m2) + gainC m2 (lcmC m1 m2)) = G at *
  generalize hLL : lcmC m1 m2 = L at *
  refine W.nil 3 1 qD ?_
  refine W.seq (W.region _ (WG.run tab_ok 1 rfl (WG.nil (WE.nxt (W.block ?_)))))
  refine W.loopK (β := Nat × Option Addr × Nat) (fun (t, a9, c9) => t ≤ (max m1.vals.length m2.vals.length) + L) (fun (t, a9, c9) => [(11, true, .int .i64 (t : Int))]) [4, 6, 7, 8, 10] [_, _, _, _, _] [] _ rfl (fun (t, a9, c9) => [(0, .sl 3 1 a9 c9 ((fvals (plusF m1 m2) t).map encI)), (1, .blk b10 [.slice a9 (fvals (plusF m1 m2) t).length c9, .int .i64 (L : Int), .int .i64 G])]) (fun (t, a9, c9) => (max m1.vals.length m2.vals.length) + L - t) ((0, none, 0)) (Nat.zero_le _) ⟨rfl, rfl, rfl, rfl, rfl, rfl, rfl⟩ qS ?_
  intro st hst
  obtain ⟨t, a9, c9⟩ := st
  dsimp only [zipE, setAll, List.cons_append, List.nil_append, List.set_cons_zero, List.set_cons_succ] at hst ⊢
  have hfl := fvals_len (plusF m1 m2) t
  refine W.seq (W.seq (W.region _ (WG.run tab_ok 2 rfl ?_)))
  refine' WG.y rfl rfl qD (Yl.load1 tab_ok rfl rfl rfl (fun _ => rfl) ?r7 rfl ?h7) ?_
  case r7 => apply Rd.add; (exact Rd.blk 3 rfl)
  case h7 => rfl
  refine WG.run tab_ok 2 rfl ?_
  refine' WG.y rfl rfl qD (Yl.load1 tab_ok rfl rfl rfl (fun _ => rfl) ?r8 rfl ?h8) ?_
  case r8 => apply Rd.add; (exact Rd.blk 2 rfl)
  case h8 => rfl
  refine WG.run tab_ok 3 rfl ?_
  refine WG.y rfl rfl qD (Yl.add rfl rfl rfl (fun _ => rfl) qA) ?_
  refine WG.run tab_ok 1 rfl (WG.nil (WE.nxt ?_))
  refine W.condD rfl (fun hc1 => ?_) (fun hc1 => ?_)
  ·try dsimp only at hc1
   have htM : t < (max m1.vals.length m2.vals.length) + L := by split at hc1 <;> omega
   obtain ⟨x1, x2, x3⟩ := hle t (by omega)
   have e1 : fvals (plusF m1 m2) (t + 1) = fvals (plusF m1 m2) t ++ [(if cvF m1 t = INF ∨ cvF m2 t = INF then INF else cvF m1 t + cvF m2 t)] := by rw [fvals_snoc, x1]
   refine W.skip (WE.nxt (W.seq (W.block ?_)))
   refine W.regionH _ (ES := [.blk b7 [.slice f2 m2.vals.length k2, .int .i64 m2.per, .int .i64 m2.inc], .blk b6 [.slice f1 m1.vals.length k1, .int .i64 m1.per, .int .i64 m1.inc]]) mixed ?_
   refine WA.take 0 rfl qK qK qK rfl rfl qD (pureV_ok tab_ok rfl (fun _ => rfl)) qS qR ?_
   refine' WA.take 2 rfl qK qK qK rfl rfl qD (Yl.load1 tab_ok rfl rfl rfl (fun _ => rfl) ?r9 rfl ?h9) qS qR ?_
   case r9 => (exact Rd.blk 1 rfl)
   case h9 => rfl
   refine WA.take 3 rfl qK qK qK rfl rfl qD (pureV_ok tab_ok rfl (fun _ => rfl)) qS qR ?_
   refine' WA.take 5 rfl qK qK qK rfl rfl qD (Yl.load1 tab_ok rfl rfl rfl (fun _ => rfl) ?r10 rfl ?h10) qS qR ?_
   case r10 => (exact Rd.blk 0 rfl)
   case h10 => rfl
   refine WA.take 6 rfl qK qK qK rfl rfl qD (pureV_ok tab_ok rfl (fun _ => rfl)) qS qR ?_
   refine WA.br2 (i := 1) (j := 4) qK ?_ ?_
   ·
    refine' WS.yl rfl rfl rfl qD (Yl.load1 tab_ok rfl rfl rfl (fun _ => rfl) ?r11 rfl ?h11) qS qR ?_
    case r11 => apply Rd.add; (exact Rd.blk 1 rfl)
    case h11 => rfl
    refine WA.callG 4 rfl qK en28 rfl (by first | rfl | decide) rfl qD (CallOp.mkT rfl rfl rfl rfl) (FnV.toFn (AtG_V (fc := k1) hnv hf1 (t := t) qO)) ?_
    rintro _ _ _ - ⟨rfl, rfl, rfl⟩
    refine ⟨by first | exact RLe.refl _ | assumption, qS, ?_⟩
    refine WA.callG 7 rfl qK en28 rfl (by first | rfl | decide) rfl qD (CallOp.mkT rfl rfl rfl rfl) (FnV.toFn (AtG_V (fc := k2) hnw hf2 (t := t) qO)) ?_
    rintro _ _ _ - ⟨rfl, rfl, rfl⟩
    refine ⟨by first | exact RLe.refl _ | assumption, qS, ?_⟩
    refine WA.callG 8 rfl qK en97 rfl (by first | rfl | decide) rfl qD (CallOp.mkT rfl rfl rfl rfl) (FnV.toFn (Plus05_V x2 x3)) ?_
    rintro _ _ _ - ⟨rfl, rfl, rfl⟩
    refine ⟨by first | exact RLe.refl _ | assumption, qS, ?_⟩
    refine WA.eff 9 rfl qK rfl rfl qD (Ef.buildSliceD (enc := encI) (parts := [.tmp 62]) [_] tab_ok rfl rfl rfl rfl rfl rfl rfl rfl qD qD (fun a63 => ?_))
    refine ⟨by first | exact RLe.refl _ | assumption, qS, ?_⟩
    refine WA.eff 10 rfl (by kernel_rfl) rfl rfl (by decide) (Ef.appendD 1 0 tab_ok rfl rfl rfl rfl rfl rfl rfl rfl rfl rfl rfl (fun _ _ => rfl) (by simp only [List.length_cons, List.length_nil]; omega) (by simp only [List.length_cons, List.length_nil]; omega) (fun a64 c64 ha64 => ?_))
    refine ⟨by first | exact RLe.refl _ | assumption, qS, ?_⟩
    refine WA.take 11 rfl qK qK qK rfl rfl qD (pureV_ok tab_ok rfl (fun _ => rfl)) qS qR ?_
    refine WA.effN 12 rfl qK rfl rfl (Ef.store 2 tab_ok rfl rfl rfl rfl rfl rfl rfl rfl ?_)
    refine ⟨by first | exact RLe.refl _ | assumption, qS, ?_⟩
    refine WA.done qK ?_
    refine WE.blk _ (WE.nxt (W.region _ (WG.run tab_ok 1 rfl ?_)))
    refine WG.y rfl rfl qD (Yl.add rfl rfl rfl (fun _ => rfl) qA) ?_
    refine WG.run tab_ok 1 rfl (WG.nil ?_)
    refine WE.again ((t + 1, a64, c64)) (by dsimp only; omega) (by (try dsimp only); omega) ⟨rfl, rfl, rfl, rfl, rfl, rfl, rfl⟩ (RLe.refl _) (by dsimp only [setAll, List.set_cons_zero, List.set_cons_succ]; rw [e1, List.length_append]; exact qS)
   ·
    refine WS.callG rfl en28 rfl (by first | rfl | decide) rfl qD (CallOp.mkT rfl rfl rfl rfl) (FnV.toFn (AtG_V (fc := k1) hnv hf1 (t := t) qO)) ?_
    rintro _ _ _ - ⟨rfl, rfl, rfl⟩
    refine ⟨by first | exact RLe.refl _ | assumption, qS, ?_⟩
    refine WA.br2 (i := 1) (j := 7) qK ?_ ?_
    ·
     refine' WS.yl rfl rfl rfl qD (Yl.load1 tab_ok rfl rfl rfl (fun _ => rfl) ?r12 rfl ?h12) qS qR ?_
     case r12 => apply Rd.add; (exact Rd.blk 1 rfl)
     case h12 => rfl
     refine WA.callG 7 rfl qK en28 rfl (by first | rfl | decide) rfl qD (CallOp.mkT rfl rfl rfl rfl) (FnV.toFn (AtG_V (fc := k2) hnw hf2 (t := t) qO)) ?_
     rintro _ _ _ - ⟨rfl, rfl, rfl⟩
     refine ⟨by first | exact RLe.refl _ | assumption, qS, ?_⟩
     refine WA.callG 8 rfl qK en97 rfl (by first | rfl | decide) rfl qD (CallOp.mkT rfl rfl rfl rfl) (FnV.toFn (Plus05_V x2 x3)) ?_
     rintro _ _ _ - ⟨rfl, rfl, rfl⟩
     refine ⟨by first | exact RLe.refl _ | assumption, qS, ?_⟩
     refine WA.eff 9 rfl qK rfl rfl qD (Ef.buildSliceD (enc := encI) (parts := [.tmp 62]) [_] tab_ok rfl rfl rfl rfl rfl rfl rfl rfl qD qD (fun a63 => ?_))
     refine ⟨by first | exact RLe.refl _ | assumption, qS, ?_⟩
     refine WA.eff 10 rfl (by kernel_rfl) rfl rfl (by decide) (Ef.appendD 1 0 tab_ok rfl rfl rfl rfl rfl rfl rfl rfl rfl rfl rfl (fun _ _ => rfl) (by simp only [List.length_cons, List.length_nil]; omega) (by simp only [List.length_cons, List.length_nil]; omega) (fun a64 c64 ha64 => ?_))
     refine ⟨by first | exact RLe.refl _ | assumption, qS, ?_⟩
     refine WA.take 11 rfl qK qK qK rfl rfl qD (pureV_ok tab_ok rfl (fun _ => rfl)) qS qR ?_
     refine WA.effN 12 rfl qK rfl rfl (Ef.store 2 tab_ok rfl rfl rfl rfl rfl rfl rfl rfl ?_)
     refine ⟨by first | exact RLe.refl _ | assumption, qS, ?_⟩
     refine WA.done qK ?_
     refine WE.blk _ (WE.nxt (W.region _ (WG.run tab_ok 1 rfl ?_)))
     refine WG.y rfl rfl qD (Yl.add rfl rfl rfl (fun _ => rfl) qA) ?_
     refine WG.run tab_ok 1 rfl (WG.nil ?_)
     refine WE.again ((t + 1, a64, c64)) (by dsimp only; omega) (by (try dsimp only); omega) ⟨rfl, rfl, rfl, rfl, rfl, rfl, rfl⟩ (RLe.refl _) (by dsimp only [setAll, List.set_cons_zero, List.set_cons_succ]; rw [e1, List.length_append]; exact qS)
    ·
     refine WS.callG rfl en28 rfl (by first | rfl | decide) rfl qD (CallOp.mkT rfl rfl rfl rfl) (FnV.toFn (AtG_V (fc := k2) hnw hf2 (t := t) qO)) ?_
     rintro _ _ _ - ⟨rfl, rfl, rfl⟩
     refine ⟨by first | exact RLe.refl _ | assumption, qS, ?_⟩
     refine WA.br2 (i := 1) (j := 8) qK ?_ ?_
     ·
      refine' WS.yl rfl rfl rfl qD (Yl.load1 tab_ok rfl rfl rfl (fun _ => rfl) ?r13 rfl ?h13) qS qR ?_
      case r13 => apply Rd.add; (exact Rd.blk 1 rfl)
      case h13 => rfl
      refine WA.callG 8 rfl qK en97 rfl (by first | rfl | decide) rfl qD (CallOp.mkT rfl rfl rfl rfl) (FnV.toFn (Plus05_V x2 x3)) ?_
      rintro _ _ _ - ⟨rfl, rfl, rfl⟩
      refine ⟨by first | exact RLe.refl _ | assumption, qS, ?_⟩
      refine WA.eff 9 rfl qK rfl rfl qD (Ef.buildSliceD (enc := encI) (parts := [.tmp 62]) [_] tab_ok rfl rfl rfl rfl rfl rfl rfl rfl qD qD (fun a63 => ?_))
      refine ⟨by first | exact RLe.refl _ | assumption, qS, ?_⟩
      refine WA.eff 10 rfl (by kernel_rfl) rfl rfl (by decide) (Ef.appendD 1 0 tab_ok rfl rfl rfl rfl rfl rfl rfl rfl rfl rfl rfl (fun _ _ => rfl) (by simp only [List.length_cons, List.length_nil]; omega) (by simp only [List.length_cons, List.length_nil]; omega) (fun a64 c64 ha64 => ?_))
      refine ⟨by first | exact RLe.refl _ | assumption, qS, ?_⟩
      refine WA.take 11 rfl qK qK qK rfl rfl qD (pureV_ok tab_ok rfl (fun _ => rfl)) qS qR ?_
      refine WA.effN 12 rfl qK rfl rfl (Ef.store 2 tab_ok rfl rfl rfl rfl rfl rfl rfl rfl ?_)
      refine ⟨by first | exact RLe.refl _ | assumption, qS, ?_⟩
      refine WA.done qK ?_
      refine WE.blk _ (WE.nxt (W.region _ (WG.run tab_ok 1 rfl ?_)))
      refine WG.y rfl rfl qD (Yl.add rfl rfl rfl (fun _ => rfl) qA) ?_
      refine WG.run tab_ok 1 rfl (WG.nil ?_)
      refine WE.again ((t + 1, a64, c64)) (by dsimp only; omega) (by (try dsimp only); omega) ⟨rfl, rfl, rfl, rfl, rfl, rfl, rfl⟩ (RLe.refl _) (by dsimp only [setAll, List.set_cons_zero, List.set_cons_succ]; rw [e1, List.length_append]; exact qS)
     ·
      refine WS.callG rfl en97 rfl (by first | rfl | decide) rfl qD (CallOp.mkT rfl rfl rfl rfl) (FnV.toFn (Plus05_V x2 x3)) ?_
      rintro _ _ _ - ⟨rfl, rfl, rfl⟩
      refine ⟨by first | exact RLe.refl _ | assumption, qS, ?_⟩
      refine WA.br2 (i := 1) (j := 9) qK ?_ ?_
      ·
       refine' WS.yl rfl rfl rfl qD (Yl.load1 tab_ok rfl rfl rfl (fun _ => rfl) ?r14 rfl ?h14) qS qR ?_
       case r14 => apply Rd.add; (exact Rd.blk 1 rfl)
       case h14 => rfl
       refine WA.eff 9 rfl qK rfl rfl qD (Ef.buildSliceD (enc := encI) (parts := [.tmp 62]) [_] tab_ok rfl rfl rfl rfl rfl rfl rfl rfl qD qD (fun a63 => ?_))
       refine ⟨by first | exact RLe.refl _ | assumption, qS, ?_⟩
       refine WA.eff 10 rfl (by kernel_rfl) rfl rfl (by decide) (Ef.appendD 1 0 tab_ok rfl rfl rfl rfl rfl rfl rfl rfl rfl rfl rfl (fun _ _ => rfl) (by simp only [List.length_cons, List.length_nil]; omega) (by simp only [List.length_cons, List.length_nil]; omega) (fun a64 c64 ha64 => ?_))
       refine ⟨by first | exact RLe.refl _ | assumption, qS, ?_⟩
       refine WA.take 11 rfl qK qK qK rfl rfl qD (pureV_ok tab_ok rfl (fun _ => rfl)) qS qR ?_
       refine WA.effN 12 rfl qK rfl rfl (Ef.store 2 tab_ok rfl rfl rfl rfl rfl rfl rfl rfl ?_)
       refine ⟨by first | exact RLe.refl _ | assumption, qS, ?_⟩
       refine WA.done qK ?_
       refine WE.blk _ (WE.nxt (W.region _ (WG.run tab_ok 1 rfl ?_)))
       refine WG.y rfl rfl qD (Yl.add rfl rfl rfl (fun _ => rfl) qA) ?_
       refine WG.run tab_ok 1 rfl (WG.nil ?_)
       refine WE.again ((t + 1, a64, c64)) (by dsimp only; omega) (by (try dsimp only); omega) ⟨rfl, rfl, rfl, rfl, rfl, rfl, rfl⟩ (RLe.refl _) (by dsimp only [setAll, List.set_cons_zero, List.set_cons_succ]; rw [e1, List.length_append]; exact qS)
      ·
       refine WS.eff rfl rfl rfl qD (Ef.buildSliceD (enc := encI) (parts := [.tmp 62]) [_] tab_ok rfl rfl rfl rfl rfl rfl rfl rfl qD qD (fun a63 => ?_))
       refine ⟨by first | exact RLe.refl _ | assumption, qS, ?_⟩
       refine' WA.yl 1 rfl qK rfl rfl qD (Yl.load1 tab_ok rfl rfl rfl (fun _ => rfl) ?r15 rfl ?h15) qS qR ?_
       case r15 => apply Rd.add; (exact Rd.blk 2 rfl)
       case h15 => rfl
       refine WA.eff 10 rfl (by kernel_rfl) rfl rfl (by decide) (Ef.appendD 1 0 tab_ok rfl rfl rfl rfl rfl rfl rfl rfl rfl rfl rfl (fun _ _ => rfl) (by simp only [List.length_cons, List.length_nil]; omega) (by simp only [List.length_cons, List.length_nil]; omega) (fun a64 c64 ha64 => ?_))
       refine ⟨by first | exact RLe.refl _ | assumption, qS, ?_⟩
       refine WA.take 11 rfl qK qK qK rfl rfl qD (pureV_ok tab_ok rfl (fun _ => rfl)) qS qR ?_
       refine WA.effN 12 rfl qK rfl rfl (Ef.store 2 tab_ok rfl rfl rfl rfl rfl rfl rfl rfl ?_)
       refine ⟨by first | exact RLe.refl _ | assumption, qS, ?_⟩
       refine WA.done qK ?_
       refine WE.blk _ (WE.nxt (W.region _ (WG.run tab_ok 1 rfl ?_)))
       refine WG.y rfl rfl qD (Yl.add rfl rfl rfl (fun _ => rfl) qA) ?_
       refine WG.run tab_ok 1 rfl (WG.nil ?_)
       refine WE.again ((t + 1, a64, c64)) (by dsimp only; omega) (by (try dsimp only); omega) ⟨rfl, rfl, rfl, rfl, rfl, rfl, rfl⟩ (RLe.refl _) (by dsimp only [setAll, List.set_cons_zero, List.set_cons_succ]; rw [e1, List.length_append]; exact qS)
  ·try dsimp only at hc1
   obtain rfl : t = (max m1.vals.length m2.vals.length) + L := by split at hc1 <;> omega
   refine W.cap 0 rfl ?_
   intro hcp
   rw [List.length_map] at hcp
   refine W.freeze (enc := encI) (xs := fvals (plusF m1 m2) ((max m1.vals.length m2.vals.length) + L)) 0 rfl ?_
   intro R2 hR2 hv0
   refine W.exit ?_
   refine WE.then_exit (WE.then_exit (WE.blk_exit (WE.nxt (W.seq (W.region _ ?_)))))
   refine' WG.y rfl rfl qD (Yl.load1 tab_ok rfl rfl rfl (fun _ => rfl) ?r16 rfl ?h16) ?_
   case r16 => (exact Rd.blk 0 rfl)
   case h16 => rfl
   refine WL.call en47 rfl rfl (by decide) (CallOp.mkT rfl rfl rfl rfl) (MadeGLK_C hv0 rfl (by rw [fvals_len]; omega) hmok hcp w0 _) ?_
   rintro _ R4 E4 hR4 ⟨f, fc4, rfl, hf4, hcp4, hsub4⟩
   refine WL.subE hsub4 ?_
   rw [← hmade, ← hun] at hf4 hcp4 ⊢
   unfold cvV
   refine WG.run tab_ok 2 rfl ?_
   refine WL.efN rfl rfl (Ef.store0 3 tab_ok rfl rfl rfl rfl rfl rfl rfl rfl ?_)
   refine WG.run tab_ok 1 rfl (WG.nil (WE.nxt (W.ret ?_)))
   refine WE.retF tab_ok [_, _] rfl ⟨⟨_, _, _, rfl, rfl, rfl, ((by first | exact Rd.blk 0 rfl | exact Rd.blk 1 rfl | exact Rd.blk 2 rfl | exact Rd.blk 3 rfl | exact Rd.blk 4 rfl | exact Rd.blk 5 rfl | exact Rd.blk 6 rfl | exact Rd.blk 7 rfl)), rfl⟩, rfl, trivial⟩ ((by first | exact hR1 | exact hR1.trans (hR2.trans hR4))) ?_
   exact ⟨f, fc4, rfl, hf4, hcp4, qS⟩

end Go.Proofs.Ytnackbfnmhkodaa

/- The reference raises and adds up any valid curves. No condition. -/
set_option maxRecDepth 4000
set_option linter.unusedSimpArgs false
set_option linter.unusedVariables false
namespace Go.Proofs.Ytnackbfnmhkodaa
open Go Go.RowKit Go.Proofs.Ytnackbfnmhkodaa.K Go.Proofs.Ytnackbfnmhkodaa.M

set_option maxHeartbeats 4000000 in
theorem RaiseG05_C {R : Ro} {fa : Option Addr} {fc : Nat} {c : Cv} (hv : validB c = true) (ha : RS R 1 encI fa c.vals) (hcap : c.vals.length ≤ fc) {k : Int} (hk : 0 ≤ k ∧ k ≤ MAXV) (w0 : World) (E : List Ent) : K.Fn Try.prog 60 [.agg #[.slice fa c.vals.length fc, .int .i64 c.per, .int .i64 c.inc], .int .i64 k] w0 R E (fun r R' E' => ∃ (f : Option Addr) (fc : Nat), r = cvV f fc (raiseC c k) ∧ RS R' 1 encI f (raiseC c k).1.vals ∧ (raiseC c k).1.vals.length ≤ fc ∧ E.Sublist E') := by
 have hun : raiseC c k = mbuild (raiseF (normR c) k) (max 1 (stN (normR c))) (normR c).per.toNat (normR c).inc := by unfold raiseC; rw [if_neg (by rw [hv]; decide), if_neg (by omega)]
 have hnv := (norm_valid hv).1
 have hk2 := hk
 unfold MAXV at hk2
 refine Fn.enter (n := 57) Try.func60 rfl rfl (Nat.le_of_ble_eq_true rfl) rfl ?_
 refine W.seq (W.region _ ?_)
 refine WL.ef rfl rfl qD (Ef.box rfl rfl (fun b2 => ?_))
 refine WL.ef rfl rfl qD (Ef.alloc tab_ok rfl rfl (fun b4 => ?_))
 refine WG.run tab_ok 1 rfl (WG.nil (WE.nxt (W.seq (W.region _ ?_))))
 refine' WG.y rfl rfl qD (Yl.load1 tab_ok rfl rfl rfl (fun _ => rfl) ?r1 rfl ?h1) ?_
 case r1 => (exact Rd.blk 1 rfl)
 case h1 => rfl
 refine WL.call en73 rfl rfl qD (CallOp.mkT rfl rfl rfl rfl) (Normal02_C hv ha hcap w0 _) ?_
 rintro _ R1 E1 hR1 ⟨f1, k1, rfl, hf1, hsub1⟩
 refine WL.subE hsub1 ?_
 unfold cvV
 generalize normR c = m at *
 obtain ⟨hmade, hmok⟩ := raise_ref hnv hk
 rw [hmade] at hun
 obtain ⟨_, _, s1, p1, p2, p3, p4, p5⟩ := valid_range hnv
 refine WG.run tab_ok 3 rfl ?_
 refine WL.ef rfl rfl qD (Ef.alloc tab_ok rfl rfl (fun b6 => ?_))
 refine WL.efN rfl rfl (Ef.store0 0 tab_ok rfl rfl rfl rfl rfl rfl rfl rfl ?_)
 refine WG.run tab_ok 1 rfl (WG.nil (WE.nxt (W.seq (W.seq (W.region _ (WG.run tab_ok 2 rfl (WG.nil (WE.nxt ?_))))))))
 refine W.condN rfl (fun hc0 => ?_) (fun hc0 => ?_)
 ·try dsimp only at hc0
  (simp at hc0; done)
 ·try dsimp only at hc0
  refine W.skip (WE.nxt (W.seq (W.seq (W.region _ (WG.run tab_ok 3 rfl ?_)))))
  refine WG.y rfl rfl qD (pureV_ok tab_ok rfl qE) ?_
  refine WG.y rfl rfl qD (pureV_ok tab_ok rfl qE) ?_
  refine WG.y rfl rfl (by decide) (Yl.por rfl rfl rfl (fun _ => rfl) (by intro h1 h2; simp_all <;> omega)) ?_
  refine WG.nil (WE.nxt ?_)
  refine W.cond rfl (fun hc1 => ?_) (fun hc1 => ?_)
  ·try simp only [kk] at hc1
   omega
  ·try simp only [kk] at hc1
   refine W.skip (WE.nxt (W.seq (W.region _ (WG.run tab_ok 1 rfl ?_))))
   refine' WG.y rfl rfl qD (Yl.load1 tab_ok rfl rfl rfl (fun _ => rfl) ?r2 rfl ?h2) ?_
   case r2 => apply Rd.add; (exact Rd.blk 0 rfl)
   case h2 => rfl
   refine WG.run tab_ok 1 rfl ?_
   refine' WG.y rfl rfl qD (Yl.load1 tab_ok rfl rfl rfl (fun _ => rfl) ?r3 rfl ?h3) ?_
   case r3 => apply Rd.add; (exact Rd.blk 0 rfl)
   case h3 => rfl
   refine WL.ef rfl rfl qD (Ef.buildSliceD (enc := encI) (parts := [.const (.int .i64 0)]) [_] tab_ok rfl rfl rfl rfl rfl rfl rfl rfl qD qD (fun a30 => ?_))
   -- build
   refine WG.y rfl rfl qD (Yl.build (parts := [(1, .tmp 27), (2, .tmp 29), (0, .tmp 30)]) tab_ok rfl rfl rfl rfl (fun _ => rfl) rfl rfl) ?_
   refine WL.ef rfl rfl qD (Ef.alloc tab_ok rfl rfl (fun b8 => ?_))
   refine WL.efN rfl rfl (Ef.store0 0 tab_ok rfl rfl rfl rfl rfl rfl rfl rfl ?_)
   refine WG.nil (WE.nxt (W.seq (W.seq (W.region _ (WG.run tab_ok 1 rfl (WG.nil (WE.nxt (W.block ?_))))))))
   refine W.loopK (β := Nat × Option Addr × Nat) (fun (t, a9, c9) => 1 ≤ t ∧ t ≤ (m.vals.length + m.per.toNat + 1)) (fun (t, a9, c9) => [(9, true, .int .i64 (t : Int))]) [1, 4, 6, 8] [_, _, _, _] [] _ rfl (fun (t, a9, c9) => [(0, .blk b8 [.slice a9 (fvals (raiseF m k) t).length c9, .int .i64 m.per, .int .i64 m.inc]), (1, .sl 3 1 a9 c9 ((fvals (raiseF m k) t).map encI))]) (fun (t, a9, c9) => (m.vals.length + m.per.toNat + 1) - t) ((1, some ⟨a30, 0, none⟩, 1)) (⟨Nat.le_refl _, by (try dsimp only); omega⟩) ⟨rfl, rfl, rfl, rfl, rfl, rfl⟩ qS ?_
   intro zz hst
   obtain ⟨t, a9, c9⟩ := zz
   dsimp only [zipE, setAll, List.cons_append, List.nil_append, List.set_cons_zero, List.set_cons_succ] at hst ⊢
   obtain ⟨ht1, htm⟩ := hst
   have hfl := fvals_len (raiseF m k) t
   refine W.seq (W.seq (W.region _ (WG.run tab_ok 2 rfl ?_)))
   refine' WG.y rfl rfl qD (Yl.load1 tab_ok rfl rfl rfl (fun _ => rfl) ?r4 rfl ?h4) ?_
   case r4 => apply Rd.add; (exact Rd.blk 2 rfl)
   case h4 => rfl
   refine WG.run tab_ok 2 rfl ?_
   refine' WG.y rfl rfl qD (Yl.load1 tab_ok rfl rfl rfl (fun _ => rfl) ?r5 rfl ?h5) ?_
   case r5 => apply Rd.add; (exact Rd.blk 2 rfl)
   case h5 => rfl
   refine WG.y rfl rfl qD (Yl.add rfl rfl rfl (fun _ => rfl) qA) ?_
   refine WG.y rfl rfl qD (Yl.add rfl rfl rfl (fun _ => rfl) qA) ?_
   refine WG.run tab_ok 1 rfl (WG.nil (WE.nxt ?_))
   refine W.condD rfl (fun hc2 => ?_) (fun hc2 => ?_)
   ·try dsimp only at hc2
    have htn : t < (m.vals.length + m.per.toNat + 1) := by omega
    have b1 := cvF_bound hnv t
    have i1 := isInf_iff hnv (t := t) (by omega)
    have x1 : raiseF m k t = (if cvF m t = INF ∨ k = INF then INF else cvF m t + k) := by
     unfold raiseF
     rw [if_neg (by omega)]
     by_cases h : cvF m t = INF
     ·rw [if_pos (i1.2 h), if_pos (.inl h)]
     ·rw [if_neg (fun x => h (i1.1 x)), if_neg (by rintro (x | x); exact h x; unfold INF at x; omega)]
    have e1 : fvals (raiseF m k) (t + 1) = fvals (raiseF m k) t ++ [(if cvF m t = INF ∨ k = INF then INF else cvF m t + k)] := by rw [fvals_snoc, x1]
    refine W.skip (WE.nxt (W.seq (W.block ?_)))
    refine W.regionH _ (ES := [.blk b6 [.slice f1 m.vals.length k1, .int .i64 m.per, .int .i64 m.inc]]) mixed ?_
    refine WA.take 0 rfl qK qK qK rfl rfl qD (pureV_ok tab_ok rfl (fun _ => rfl)) qS qR ?_
    refine' WA.take 2 rfl qK qK qK rfl rfl qD (Yl.load1 tab_ok rfl rfl rfl (fun _ => rfl) ?r6 rfl ?h6) qS qR ?_
    case r6 => (exact Rd.blk 0 rfl)
    case h6 => rfl
    refine WA.take 3 rfl qK qK qK rfl rfl qD (pureV_ok tab_ok rfl (fun _ => rfl)) qS qR ?_
    refine WA.take 5 rfl qK qK qK rfl rfl qD (pureV_ok tab_ok rfl (fun _ => rfl)) qS qR ?_
    refine WA.br2 (i := 1) (j := 4) qK ?_ ?_
    ·
     refine' WS.yl rfl rfl rfl qD (Yl.load1 tab_ok rfl rfl rfl (fun _ => rfl) ?r7 rfl ?h7) qS qR ?_
     case r7 => apply Rd.add; (exact Rd.blk 0 rfl)
     case h7 => rfl
     refine WA.callG 4 rfl qK en28 rfl (by first | rfl | decide) rfl qD (CallOp.mkT rfl rfl rfl rfl) (FnV.toFn (AtG_V (fc := k1) hnv hf1 (t := t) qO)) ?_
     rintro _ _ _ - ⟨rfl, rfl, rfl⟩
     refine ⟨by first | exact RLe.refl _ | assumption, qS, ?_⟩
     refine WA.callG 6 rfl qK en97 rfl (by first | rfl | decide) rfl qD (CallOp.mkT rfl rfl rfl rfl) (FnV.toFn (Plus05_V (by unfold INF at *; omega) (.inr ⟨hk2.1, by omega⟩))) ?_
     rintro _ _ _ - ⟨rfl, rfl, rfl⟩
     refine ⟨by first | exact RLe.refl _ | assumption, qS, ?_⟩
     refine WA.eff 7 rfl qK rfl rfl qD (Ef.buildSliceD (enc := encI) (parts := [.tmp 49]) [_] tab_ok rfl rfl rfl rfl rfl rfl rfl rfl qD qD (fun a50 => ?_))
     refine ⟨by first | exact RLe.refl _ | assumption, qS, ?_⟩
     refine WA.eff 8 rfl (by kernel_rfl) rfl rfl (by decide) (Ef.appendD 2 0 tab_ok rfl rfl rfl rfl rfl rfl rfl rfl rfl rfl rfl (fun _ _ => rfl) (by simp only [List.length_cons, List.length_nil]; omega) (by simp only [List.length_cons, List.length_nil]; omega) (fun a51 c51 ha51 => ?_))
     refine ⟨by first | exact RLe.refl _ | assumption, qS, ?_⟩
     refine WA.take 9 rfl qK qK qK rfl rfl qD (pureV_ok tab_ok rfl (fun _ => rfl)) qS qR ?_
     refine WA.effN 10 rfl qK rfl rfl (Ef.store 1 tab_ok rfl rfl rfl rfl rfl rfl rfl rfl ?_)
     refine ⟨by first | exact RLe.refl _ | assumption, qS, ?_⟩
     refine WA.done qK ?_
     refine WE.blk _ (WE.nxt (W.region _ (WG.run tab_ok 1 rfl ?_)))
     refine WG.y rfl rfl qD (Yl.add rfl rfl rfl (fun _ => rfl) qA) ?_
     refine WG.run tab_ok 1 rfl (WG.nil ?_)
     refine WE.again ((t + 1, a51, c51)) (⟨by (try dsimp only); omega, by (try dsimp only); omega⟩) (by (try dsimp only); omega) ⟨rfl, rfl, rfl, rfl, rfl, rfl⟩ (RLe.refl _) (by dsimp only [setAll, List.set_cons_zero, List.set_cons_succ]; rw [e1, List.length_append]; exact qS)
    ·
     refine WS.callG rfl en28 rfl (by first | rfl | decide) rfl qD (CallOp.mkT rfl rfl rfl rfl) (FnV.toFn (AtG_V (fc := k1) hnv hf1 (t := t) qO)) ?_
     rintro _ _ _ - ⟨rfl, rfl, rfl⟩
     refine ⟨by first | exact RLe.refl _ | assumption, qS, ?_⟩
     refine WA.br2 (i := 1) (j := 6) qK ?_ ?_
     ·
      refine' WS.yl rfl rfl rfl qD (Yl.load1 tab_ok rfl rfl rfl (fun _ => rfl) ?r8 rfl ?h8) qS qR ?_
      case r8 => apply Rd.add; (exact Rd.blk 0 rfl)
      case h8 => rfl
      refine WA.callG 6 rfl qK en97 rfl (by first | rfl | decide) rfl qD (CallOp.mkT rfl rfl rfl rfl) (FnV.toFn (Plus05_V (by unfold INF at *; omega) (.inr ⟨hk2.1, by omega⟩))) ?_
      rintro _ _ _ - ⟨rfl, rfl, rfl⟩
      refine ⟨by first | exact RLe.refl _ | assumption, qS, ?_⟩
      refine WA.eff 7 rfl qK rfl rfl qD (Ef.buildSliceD (enc := encI) (parts := [.tmp 49]) [_] tab_ok rfl rfl rfl rfl rfl rfl rfl rfl qD qD (fun a50 => ?_))
      refine ⟨by first | exact RLe.refl _ | assumption, qS, ?_⟩
      refine WA.eff 8 rfl (by kernel_rfl) rfl rfl (by decide) (Ef.appendD 2 0 tab_ok rfl rfl rfl rfl rfl rfl rfl rfl rfl rfl rfl (fun _ _ => rfl) (by simp only [List.length_cons, List.length_nil]; omega) (by simp only [List.length_cons, List.length_nil]; omega) (fun a51 c51 ha51 => ?_))
      refine ⟨by first | exact RLe.refl _ | assumption, qS, ?_⟩
      refine WA.take 9 rfl qK qK qK rfl rfl qD (pureV_ok tab_ok rfl (fun _ => rfl)) qS qR ?_
      refine WA.effN 10 rfl qK rfl rfl (Ef.store 1 tab_ok rfl rfl rfl rfl rfl rfl rfl rfl ?_)
      refine ⟨by first | exact RLe.refl _ | assumption, qS, ?_⟩
      refine WA.done qK ?_
      refine WE.blk _ (WE.nxt (W.region _ (WG.run tab_ok 1 rfl ?_)))
      refine WG.y rfl rfl qD (Yl.add rfl rfl rfl (fun _ => rfl) qA) ?_
      refine WG.run tab_ok 1 rfl (WG.nil ?_)
      refine WE.again ((t + 1, a51, c51)) (⟨by (try dsimp only); omega, by (try dsimp only); omega⟩) (by (try dsimp only); omega) ⟨rfl, rfl, rfl, rfl, rfl, rfl⟩ (RLe.refl _) (by dsimp only [setAll, List.set_cons_zero, List.set_cons_succ]; rw [e1, List.length_append]; exact qS)
     ·
      refine WS.callG rfl en97 rfl (by first | rfl | decide) rfl qD (CallOp.mkT rfl rfl rfl rfl) (FnV.toFn (Plus05_V (by unfold INF at *; omega) (.inr ⟨hk2.1, by omega⟩))) ?_
      rintro _ _ _ - ⟨rfl, rfl, rfl⟩
      refine ⟨by first | exact RLe.refl _ | assumption, qS, ?_⟩
      refine WA.br2 (i := 1) (j := 7) qK ?_ ?_
      ·
       refine' WS.yl rfl rfl rfl qD (Yl.load1 tab_ok rfl rfl rfl (fun _ => rfl) ?r9 rfl ?h9) qS qR ?_
       case r9 => apply Rd.add; (exact Rd.blk 0 rfl)
       case h9 => rfl
       refine WA.eff 7 rfl qK rfl rfl qD (Ef.buildSliceD (enc := encI) (parts := [.tmp 49]) [_] tab_ok rfl rfl rfl rfl rfl rfl rfl rfl qD qD (fun a50 => ?_))
       refine ⟨by first | exact RLe.refl _ | assumption, qS, ?_⟩
       refine WA.eff 8 rfl (by kernel_rfl) rfl rfl (by decide) (Ef.appendD 2 0 tab_ok rfl rfl rfl rfl rfl rfl rfl rfl rfl rfl rfl (fun _ _ => rfl) (by simp only [List.length_cons, List.length_nil]; omega) (by simp only [List.length_cons, List.length_nil]; omega) (fun a51 c51 ha51 => ?_))
       refine ⟨by first | exact RLe.refl _ | assumption, qS, ?_⟩
       refine WA.take 9 rfl qK qK qK rfl rfl qD (pureV_ok tab_ok rfl (fun _ => rfl)) qS qR ?_
       refine WA.effN 10 rfl qK rfl rfl (Ef.store 1 tab_ok rfl rfl rfl rfl rfl rfl rfl rfl ?_)
       refine ⟨by first | exact RLe.refl _ | assumption, qS, ?_⟩
       refine WA.done qK ?_
       refine WE.blk _ (WE.nxt (W.region _ (WG.run tab_ok 1 rfl ?_)))
       refine WG.y rfl rfl qD (Yl.add rfl rfl rfl (fun _ => rfl) qA) ?_
       refine WG.run tab_ok 1 rfl (WG.nil ?_)
       refine WE.again ((t + 1, a51, c51)) (⟨by (try dsimp only); omega, by (try dsimp only); omega⟩) (by (try dsimp only); omega) ⟨rfl, rfl, rfl, rfl, rfl, rfl⟩ (RLe.refl _) (by dsimp only [setAll, List.set_cons_zero, List.set_cons_succ]; rw [e1, List.length_append]; exact qS)
      ·
       refine WS.eff rfl rfl rfl qD (Ef.buildSliceD (enc := encI) (parts := [.tmp 49]) [_] tab_ok rfl rfl rfl rfl rfl rfl rfl rfl qD qD (fun a50 => ?_))
       refine ⟨by first | exact RLe.refl _ | assumption, qS, ?_⟩
       refine' WA.yl 1 rfl qK rfl rfl qD (Yl.load1 tab_ok rfl rfl rfl (fun _ => rfl) ?r10 rfl ?h10) qS qR ?_
       case r10 => apply Rd.add; (exact Rd.blk 1 rfl)
       case h10 => rfl
       refine WA.eff 8 rfl (by kernel_rfl) rfl rfl (by decide) (Ef.appendD 2 0 tab_ok rfl rfl rfl rfl rfl rfl rfl rfl rfl rfl rfl (fun _ _ => rfl) (by simp only [List.length_cons, List.length_nil]; omega) (by simp only [List.length_cons, List.length_nil]; omega) (fun a51 c51 ha51 => ?_))
       refine ⟨by first | exact RLe.refl _ | assumption, qS, ?_⟩
       refine WA.take 9 rfl qK qK qK rfl rfl qD (pureV_ok tab_ok rfl (fun _ => rfl)) qS qR ?_
       refine WA.effN 10 rfl qK rfl rfl (Ef.store 1 tab_ok rfl rfl rfl rfl rfl rfl rfl rfl ?_)
       refine ⟨by first | exact RLe.refl _ | assumption, qS, ?_⟩
       refine WA.done qK ?_
       refine WE.blk _ (WE.nxt (W.region _ (WG.run tab_ok 1 rfl ?_)))
       refine WG.y rfl rfl qD (Yl.add rfl rfl rfl (fun _ => rfl) qA) ?_
       refine WG.run tab_ok 1 rfl (WG.nil ?_)
       refine WE.again ((t + 1, a51, c51)) (⟨by (try dsimp only); omega, by (try dsimp only); omega⟩) (by (try dsimp only); omega) ⟨rfl, rfl, rfl, rfl, rfl, rfl⟩ (RLe.refl _) (by dsimp only [setAll, List.set_cons_zero, List.set_cons_succ]; rw [e1, List.length_append]; exact qS)
   ·try dsimp only at hc2
    obtain rfl : t = (m.vals.length + m.per.toNat + 1) := by omega
    refine W.cap 1 rfl ?_
    intro hcp
    rw [List.length_map] at hcp
    refine W.freeze (enc := encI) (xs := fvals (raiseF m k) (m.vals.length + m.per.toNat + 1)) 1 rfl ?_
    intro R2 hR2 hv0
    refine W.exit ?_
    refine WE.then_exit (WE.then_exit (WE.blk_exit (WE.nxt (W.seq (W.region _ ?_)))))
    refine' WG.y rfl rfl qD (Yl.load1 tab_ok rfl rfl rfl (fun _ => rfl) ?r11 rfl ?h11) ?_
    case r11 => (exact Rd.blk 0 rfl)
    case h11 => rfl
    refine WL.call en47 rfl rfl (by decide) (CallOp.mkT rfl rfl rfl rfl) (MadeGLK_C hv0 rfl (by rw [fvals_len]; omega) hmok (by first | exact hcp | (rw [fvals_len]; exact hcp)) w0 _) ?_
    rintro _ R4 E4 hR4 ⟨f, fc4, rfl, hf4, hcp4, hsub4⟩
    refine WL.subE hsub4 ?_
    rw [← hun] at hf4 hcp4 ⊢
    unfold cvV
    refine WG.run tab_ok 2 rfl ?_
    refine WL.efN rfl rfl (Ef.store0 2 tab_ok rfl rfl rfl rfl rfl rfl rfl rfl ?_)
    refine WG.run tab_ok 1 rfl (WG.nil (WE.nxt (W.ret ?_)))
    refine WE.retF tab_ok [_, _] rfl ⟨⟨_, _, _, rfl, rfl, rfl, ((by first | exact Rd.blk 0 rfl | exact Rd.blk 1 rfl | exact Rd.blk 2 rfl | exact Rd.blk 3 rfl | exact Rd.blk 4 rfl | exact Rd.blk 5 rfl | exact Rd.blk 6 rfl | exact Rd.blk 7 rfl)), rfl⟩, rfl, trivial⟩ (hR1.trans (hR2.trans hR4)) ?_
    exact ⟨f, fc4, rfl, hf4, hcp4, qS⟩

set_option maxHeartbeats 2000000 in
theorem TotalG05_C {R : Ro} {la : Option Addr} {lc l : Nat} {ls : List CvS} (hl : ls.length = l) (hla : RS R 3 encC la ls) (hls : ∀ x ∈ ls, RS R 1 encI x.a x.cv.vals ∧ validB x.cv = true ∧ x.cv.vals.length ≤ x.cap) (w0 : World) (E : List Ent) : K.Fn Try.prog 59 [.slice la l lc] w0 R E (fun r R' E' => ∃ (f : Option Addr) (fc : Nat), r = cvV f fc (totalC (ls.map CvS.cv)) ∧ RS R' 1 encI f (totalC (ls.map CvS.cv)).1.vals ∧ (totalC (ls.map CvS.cv)).1.vals.length ≤ fc ∧ E.Sublist E') := by
 subst hl
 have hll := hla.len
 have hz0 : flatC 0 = (zeroC, 0) := flat_zero
 refine Fn.enter (n := 34) Try.func59 rfl rfl (Nat.le_of_ble_eq_true rfl) rfl ?_
 refine W.seq (W.region _ ?_)
 refine WL.ef rfl rfl qD (Ef.alloc tab_ok rfl rfl (fun b2 => ?_))
 refine WG.run tab_ok 1 rfl (WG.nil (WE.nxt (W.seq (W.region _ ?_))))
 refine WL.call en46 rfl rfl qD (CallOp.mkT rfl rfl rfl rfl) (Flat02K_C (k := 0) qD w0 _) ?_
 rintro _ R1 _ hR1 ⟨fz, fzc, rfl, hfz, hcz, hsub⟩
 refine WL.subE hsub ?_
 rw [hz0] at hfz hcz ⊢
 unfold cvV
 dsimp only at hfz hcz ⊢
 refine WG.run tab_ok 3 rfl ?_
 refine WL.ef rfl rfl qD (Ef.alloc tab_ok rfl rfl (fun b4 => ?_))
 refine WL.efN rfl rfl (Ef.store0 0 tab_ok rfl rfl rfl rfl rfl rfl rfl rfl ?_)
 refine WG.run tab_ok 1 rfl (WG.nil (WE.nxt (W.seq (W.seq (W.region _ (WG.run tab_ok 1 rfl (WG.nil (WE.nxt (W.block ?_)))))))))
 refine W.loopR (β := Nat × Cv × Option Addr × Nat × Ro) (fun (i, s, sa, sc, Rk) => i ≤ ls.length ∧ RLe R1 Rk ∧ Nrm s ∧ RS Rk 1 encI sa s.vals ∧ s.vals.length ≤ sc ∧ totalC (ls.map CvS.cv) = totalGo s ((ls.map CvS.cv).drop i)) (fun (i, s, sa, sc, Rk) => [(6, true, .int .i64 (i : Int))]) [0, 2, 4] [_, _, _] [] _ rfl (fun (i, s, sa, sc, Rk) => [(0, .blk b4 [.slice sa s.vals.length sc, .int .i64 s.per, .int .i64 s.inc])]) (fun (i, s, sa, sc, Rk) => Rk) (fun (i, s, sa, sc, Rk) => ls.length - i) ((0, zeroC, fz, fzc, R1)) (⟨Nat.zero_le _, RLe.refl _, zero_nrm, hfz, hcz, rfl⟩) ⟨rfl, rfl, rfl, rfl, rfl⟩ (RLe.refl _) qS ?_
 intro zz hst
 obtain ⟨i, s, sa, sc, Rk⟩ := zz
 dsimp only [zipE, setAll, List.cons_append, List.nil_append, List.set_cons_zero, List.set_cons_succ] at hst ⊢
 obtain ⟨hi, hRk, hns, hsa, hsc, htot⟩ := hst
 have hla := hla.mono (hR1.trans hRk)
 refine W.seq (W.seq (W.region _ (WG.run tab_ok 4 rfl (WG.nil (WE.nxt ?_)))))
 refine W.condD rfl (fun hc0 => ?_) (fun hc0 => ?_)
 ·try dsimp only at hc0
  have hil : i < ls.length := by omega
  have hxi := hls _ (nth_mem hil)
  have hvx := hxi.2.1
  have hxa := hxi.1.mono (hR1.trans hRk)
  refine W.skip (WE.nxt (W.seq (W.block ?_)))
  refine W.seqCut (β := Nat × Option Addr × Nat × Ro) (fun (b7, fr, frc, R2) => RLe Rk R2 ∧ RS R2 1 encI fr (sumC s (nth ls i).cv).1.vals ∧ (sumC s (nth ls i).cv).1.vals.length ≤ frc) (fun (b7, fr, frc, R2) => [(0, true, .slice la ls.length lc), (2, true, .pointer (some ⟨b2, 0, none⟩)), (4, true, .pointer (some ⟨b4, 0, none⟩)), (6, true, .int .i64 (i : Int)), (7, true, .pointer (some ⟨b7, 0, none⟩)), (8, true, .int .i64 (sumC s (nth ls i).cv).2)]) (fun (b7, fr, frc, R2) => R2) (fun (b7, fr, frc, R2) => .blk b7 [.slice fr (sumC s (nth ls i).cv).1.vals.length frc, .int .i64 (sumC s (nth ls i).cv).1.per, .int .i64 (sumC s (nth ls i).cv).1.inc] :: .blk b4 [.slice sa s.vals.length sc, .int .i64 s.per, .int .i64 s.inc] :: .blk b2 [.slice none 0 0, .int .i64 0, .int .i64 0] :: E) ?_ ?_
  ·
   intro yy hst
   obtain ⟨b7, fr, frc, R2⟩ := yy
   obtain ⟨hR2, hfr, hcr⟩ := hst
   dsimp only at hR2 hfr hcr ⊢
   have hgo : totalC (ls.map CvS.cv) = if (sumC s (nth ls i).cv).2 ≠ 0 then (zcv, (sumC s (nth ls i).cv).2) else totalGo (sumC s (nth ls i).cv).1 ((ls.map CvS.cv).drop (i + 1)) := by
    rw [htot, drop_map_cons hil]
    rfl
   have hsr := sum_res hns.valid hvx
   generalize sumC s (nth ls i).cv = sr at hfr hcr hgo hsr ⊢
   obtain ⟨sv, se⟩ := sr
   dsimp only at hfr hcr hgo hsr ⊢
   refine W.seq (W.seq (W.region _ (WG.run tab_ok 2 rfl (WG.nil (WE.nxt ?_)))))
   refine W.condN rfl (fun hc1 => ?_) (fun hc1 => ?_)
   ·try dsimp only at hc1
    have hd : totalC (ls.map CvS.cv) = (zcv, se) := by rw [hgo, if_pos hc1]
    refine W.seq (W.region _ ?_)
    -- build
    refine WG.y rfl rfl qD (Yl.build (parts := []) tab_ok rfl rfl rfl rfl (fun _ => rfl) rfl rfl) ?_
    refine WG.run tab_ok 1 rfl ?_
    refine WL.efN rfl rfl (Ef.store0 2 tab_ok rfl rfl rfl rfl rfl rfl rfl rfl ?_)
    refine WG.run tab_ok 1 rfl (WG.nil (WE.nxt (W.ret (WE.then_ret (WE.blk_ret (WE.then_ret (WE.then_ret (WE.blk_ret (WE.then_ret ?_)))))))))
    refine WE.retF tab_ok [_, _] rfl ⟨⟨_, _, _, rfl, rfl, rfl, ((by first | exact Rd.blk 0 rfl | exact Rd.blk 1 rfl | exact Rd.blk 2 rfl | exact Rd.blk 3 rfl | exact Rd.blk 4 rfl | exact Rd.blk 5 rfl)), rfl⟩, rfl, trivial⟩ ((by first | exact hR1.trans (hRk.trans hR2) | exact hR1.trans hRk)) ?_
    exact ⟨none, 0, by rw [hd]; rfl, by rw [hd]; exact rs_nil, by rw [hd]; exact Nat.le_refl _, qS⟩
   ·try dsimp only at hc1
    have hd2 : totalC (ls.map CvS.cv) = totalGo sv ((ls.map CvS.cv).drop (i + 1)) := by rw [hgo, if_neg (fun h => h hc1)]
    obtain ⟨rfl, hnsv⟩ : se = 0 ∧ Nrm sv := by
     rcases hsr with h | ⟨c, h1, h2, _⟩
     ·have := congrArg Prod.snd h; dsimp only at this; omega
     ·have e1 := congrArg Prod.fst h1
      have e2 := congrArg Prod.snd h1
      dsimp only at e1 e2
      exact ⟨e2, by rw [e1]; exact h2⟩
    refine W.skip (WE.nxt (W.region _ ?_))
    refine' WG.y rfl rfl qD (Yl.load1 tab_ok rfl rfl rfl (fun _ => rfl) ?r1 rfl ?h1) ?_
    case r1 => (exact Rd.blk 0 rfl)
    case h1 => rfl
    refine WL.efN rfl rfl (Ef.store0 1 tab_ok rfl rfl rfl rfl rfl rfl rfl rfl ?_)
    refine WG.nil (WE.blk _ (WE.nxt (W.region _ (WG.run tab_ok 1 rfl ?_))))
    refine WG.y rfl rfl qD (Yl.add rfl rfl rfl (fun _ => rfl) qA) ?_
    refine WG.run tab_ok 1 rfl (WG.nil ?_)
    refine WE.again ((i + 1, sv, fr, frc, R2)) (⟨by dsimp only; omega, hRk.trans hR2, hnsv, hfr, hcr, hd2⟩) (by (try dsimp only); omega) ⟨rfl, rfl, rfl, rfl, rfl⟩ (RLe.refl _) qS
  ·
   refine W.regionH _ (ES := [.blk b4 [.slice sa s.vals.length sc, .int .i64 s.per, .int .i64 s.inc]]) mixed ?_
   refine' WA.take 0 rfl qK qK qK rfl rfl qD (Yl.load1 tab_ok rfl rfl rfl (fun _ => rfl) ?r2 rfl ?h2) qS qR ?_
   case r2 => (exact Rd.blk 0 rfl)
   case h2 => rfl
   refine WA.take 1 rfl qK qK qK rfl rfl qD (pureV_ok tab_ok rfl (fun _ => rfl)) qS qR ?_
   refine WA.take 2 rfl qK qK qK rfl rfl qD (pureV_ok tab_ok rfl (fun _ => rfl)) qS qR ?_
   refine WA.take 3 rfl qK qK qK rfl rfl qD (Yl.indexN tab_ok rfl rfl rfl rfl rfl rfl (fun _ => rfl) qN qH) qS qR ?_
   refine' WA.take 4 rfl qK qK qK rfl rfl qD (Yl.load1 tab_ok rfl rfl rfl (fun _ => rfl) ?r3 rfl ?h3) qS qR ?_
   case r3 => ((apply RS.rdD; assumption; ((try dsimp only) <;> omega)))
   case h3 => rfl
   refine WA.br2 (i := 5) (j := 9) qK ?_ ?_
   ·
    refine WS.callG rfl en96 rfl (by first | rfl | decide) rfl qD (CallOp.mkT rfl rfl rfl rfl) (SumG05_C hns.valid hsa hsc hvx hxa hxi.2.2 w0 _) ?_
    rintro _ R2 _ hR2 ⟨fr, frc, rfl, hfr, hcr, hsub⟩
    refine ⟨hR2, List.Sublist.trans qS hsub, ?_⟩
    refine WA.subE hsub ?_
    unfold cvV
    refine WA.take 6 rfl qK qK qK rfl rfl qD (pureV_ok tab_ok rfl (fun _ => rfl)) qS qR ?_
    refine WA.take 7 rfl qK qK qK rfl rfl qD (pureV_ok tab_ok rfl (fun _ => rfl)) qS qR ?_
    refine WA.take 8 rfl qK qK qK rfl rfl qD (pureV_ok tab_ok rfl (fun _ => rfl)) qS qR ?_
    refine WA.eff 9 rfl qK rfl rfl qD (Ef.alloc tab_ok rfl rfl (fun b7 => ?_))
    refine ⟨by first | exact RLe.refl _ | assumption, qS, ?_⟩
    refine WA.effN 10 rfl qK rfl rfl (Ef.store0 0 tab_ok rfl rfl rfl rfl rfl rfl rfl rfl ?_)
    refine ⟨by first | exact RLe.refl _ | assumption, qS, ?_⟩
    refine WA.take 11 rfl qK qK qK rfl rfl qD (pureV_ok tab_ok rfl (fun _ => rfl)) qS qR ?_
    refine WA.done qK ?_
    refine WE.cut (b7, fr, frc, R2) ⟨hR2, hfr, hcr⟩ ⟨rfl, rfl, rfl, rfl, rfl, rfl, rfl⟩ (RLe.refl _) qS
   ·
    refine WS.eff rfl rfl rfl qD (Ef.alloc tab_ok rfl rfl (fun b7 => ?_))
    refine ⟨by first | exact RLe.refl _ | assumption, qS, ?_⟩
    refine WA.callG 5 rfl qK en96 rfl (by first | rfl | decide) rfl qD (CallOp.mkT rfl rfl rfl rfl) (SumG05_C hns.valid hsa hsc hvx hxa hxi.2.2 w0 _) ?_
    rintro _ R2 _ hR2 ⟨fr, frc, rfl, hfr, hcr, hsub⟩
    refine ⟨hR2, List.Sublist.trans qS hsub, ?_⟩
    refine WA.subE hsub ?_
    unfold cvV
    refine WA.take 6 rfl qK qK qK rfl rfl qD (pureV_ok tab_ok rfl (fun _ => rfl)) qS qR ?_
    refine WA.take 7 rfl qK qK qK rfl rfl qD (pureV_ok tab_ok rfl (fun _ => rfl)) qS qR ?_
    refine WA.take 8 rfl qK qK qK rfl rfl qD (pureV_ok tab_ok rfl (fun _ => rfl)) qS qR ?_
    refine WA.effN 10 rfl qK rfl rfl (Ef.store0 0 tab_ok rfl rfl rfl rfl rfl rfl rfl rfl ?_)
    refine ⟨by first | exact RLe.refl _ | assumption, qS, ?_⟩
    refine WA.take 11 rfl qK qK qK rfl rfl qD (pureV_ok tab_ok rfl (fun _ => rfl)) qS qR ?_
    refine WA.done qK ?_
    refine WE.cut (b7, fr, frc, R2) ⟨hR2, hfr, hcr⟩ ⟨rfl, rfl, rfl, rfl, rfl, rfl, rfl⟩ (RLe.refl _) qS
 ·try dsimp only at hc0
  obtain rfl : i = ls.length := by omega
  have hd : totalC (ls.map CvS.cv) = (s, 0) := by rw [htot, List.drop_eq_nil_of_le (by simp)]; rfl
  refine W.exit ?_
  refine WE.then_exit (WE.then_exit (WE.blk_exit (WE.nxt (W.seq (W.region _ ?_)))))
  refine' WG.y rfl rfl qD (Yl.load1 tab_ok rfl rfl rfl (fun _ => rfl) ?r4 rfl ?h4) ?_
  case r4 => (exact Rd.blk 0 rfl)
  case h4 => rfl
  refine WL.efN rfl rfl (Ef.store0 1 tab_ok rfl rfl rfl rfl rfl rfl rfl rfl ?_)
  refine WG.run tab_ok 1 rfl (WG.nil (WE.nxt (W.ret ?_)))
  refine WE.retF tab_ok [_, _] rfl ⟨⟨_, _, _, rfl, rfl, rfl, ((by first | exact Rd.blk 0 rfl | exact Rd.blk 1 rfl | exact Rd.blk 2 rfl | exact Rd.blk 3 rfl | exact Rd.blk 4 rfl | exact Rd.blk 5 rfl)), rfl⟩, rfl, trivial⟩ ((by first | exact hR1.trans (hRk.trans hR2) | exact hR1.trans hRk)) ?_
  exact ⟨sa, sc, by rw [hd]; rfl, by rw [hd]; exact hsa, by rw [hd]; exact hsc, qS⟩

end Go.Proofs.Ytnackbfnmhkodaa

/- The reference rest of a line. No condition. -/
set_option maxRecDepth 4000
set_option linter.unusedSimpArgs false
set_option linter.unusedVariables false
namespace Go.Proofs.Ytnackbfnmhkodaa
open Go Go.RowKit Go.Proofs.Ytnackbfnmhkodaa.K Go.Proofs.Ytnackbfnmhkodaa.M

theorem lcm_line {cap : Int} {b : Cv} : lcmC (lineC cap) b = b.per.toNat := by
 unfold lcmC lcmN lineC
 simp
theorem drift_line {cap : Int} {b : Cv} (hb : validB b = true) : driftG (lineC cap) b = driftL cap b := by
 obtain ⟨_, _, _, p1, _⟩ := valid_range hb
 unfold driftG gainC driftL
 rw [lcm_line, Int.toNat_of_nonneg (by omega), Int.ediv_self (by omega)]
 unfold lineC
 simp

theorem DiffL06_V {R : Ro} {a1 : Option Addr} {c1 : Nat} {cap : Int} (hcap : 1 ≤ cap ∧ cap ≤ 4000) (hx1 : RS R 1 encI a1 (lineC cap).vals) {a2 : Option Addr} {c2 : Nat} {b : Cv} (hvb : validB b = true) (hx2 : RS R 1 encI a2 b.vals) {t : Nat} (ht : t ≤ 10000) : FnV Try.prog 98 [.agg #[.slice a1 (lineC cap).vals.length c1, .int .i64 (lineC cap).per, .int .i64 (lineC cap).inc], .agg #[.slice a2 b.vals.length c2, .int .i64 b.per, .int .i64 b.inc], .int .i64 (t : Int)] R (.int .i64 (max 0 (rawL cap b t))) := by
 refine Fn.toV (fun w0 E => ?_)
 obtain ⟨hln, hlcv, hlf, hls⟩ := line_facts (cap := cap) (by omega)
 have hlnn : normR (lineC cap) = lineC cap := hln.norm
 have hbb := cvF_bound hvb t
 have i1 := isInf_iff hvb (t := t) (by omega)
 have hm := mulB (a := cap) (b := (t : Int)) (A := 4000) (B := 10000) (by omega) (by omega)
 have hlt : cvF (lineC cap) t = cap * (t : Int) := by rw [hlcv]
 unfold INF at hbb
 refine Fn.enter (n := 25) Try.func98 rfl rfl (Nat.le_of_ble_eq_true rfl) rfl ?_
 refine W.seq (W.region _ ?_)
 refine WL.ef rfl rfl qD (Ef.box rfl rfl (fun b3 => ?_))
 refine WL.ef rfl rfl qD (Ef.box rfl rfl (fun b4 => ?_))
 refine WG.run tab_ok 1 rfl (WG.nil (WE.nxt (W.seq ?_)))
 refine W.regionQ _ mixed qK ?_
 refine' WG.y rfl rfl qD (Yl.load1 tab_ok rfl rfl rfl (fun _ => rfl) ?r1 rfl ?h1) ?_
 case r1 => (exact Rd.blk 1 rfl)
 case h1 => rfl
 refine WG.run tab_ok 1 rfl ?_
 refine WG.callV (v := .int .i64 (cap * (t : Int))) en28 rfl rfl (by decide) (CallOp.mk' rfl rfl rfl rfl) (fun _ => rfl) (fun hg => by have h := AtG_V (fc := c1) hln.valid hx1 (t := t) (by omega); rw [hlt] at h; exact h) ?_
 refine' WG.y rfl rfl qD (Yl.load1 tab_ok rfl rfl rfl (fun _ => rfl) ?r2 rfl ?h2) ?_
 case r2 => (exact Rd.blk 0 rfl)
 case h2 => rfl
 refine WG.run tab_ok 1 rfl ?_
 refine WG.callV (v := .int .i64 (cvF b t)) en28 rfl rfl qD (CallOp.mk' rfl rfl rfl rfl) (fun _ => rfl) (fun hg => AtG_V hvb hx2 qO) ?_
 refine WG.run tab_ok 2 rfl (WG.nil (WE.nxt (W.seq (W.block (W.seq (W.region _ (WG.run tab_ok 3 rfl (WG.nil (WE.nxt ?_)))))))))
 refine W.condE rfl (fun hc0 => ?_) (fun hc0 => ?_)
 ·try dsimp only at hc0
  have hr : rawL cap b t = 0 := if_pos (i1.2 hc0)
  refine W.seq (W.region _ (WG.run tab_ok 1 rfl (WG.nil (WE.nxt (W.ret (WE.blk_ret (WE.then_ret ?_)))))))
  refine WE.subE (E' := E) qS ?_
  refine WE.retF tab_ok [_] rfl ⟨rfl, trivial⟩ (RLe.refl _) ?_
  exact ⟨by rw [hr]; rfl, rfl⟩
 ·try dsimp only at hc0
  have hr : rawL cap b t = cap * (t : Int) - cvF b t := if_neg (fun h => hc0 (i1.1 h))
  have hr2 : max 0 (rawL cap b t) = if 0 < cap * (t : Int) - cvF b t then cap * (t : Int) - cvF b t else 0 := by rw [hr]; split <;> omega
  refine W.seq (W.region _ (WG.run tab_ok 3 rfl (WG.nil (WE.nxt ?_))))
  refine W.condE rfl (fun hc1 => ?_) (fun hc1 => ?_)
  ·try dsimp only at hc1
   exfalso; omega
  ·try dsimp only at hc1
   refine W.skip (WE.blk _ (WE.nxt (W.seq (W.region _ (WG.run tab_ok 2 rfl ?_)))))
   refine WG.y rfl rfl qD (Yl.sub rfl rfl rfl (fun _ => rfl) qA) ?_
   refine WG.run tab_ok 2 rfl (WG.nil (WE.nxt (W.ret ?_)))
   refine WE.subE (E' := E) qS ?_
   refine WE.retF tab_ok [_] rfl ⟨rfl, trivial⟩ (RLe.refl _) ?_
   exact ⟨by rw [hr2]; rfl, rfl⟩

set_option maxHeartbeats 1000000 in
theorem RestR06_C {R : Ro} {la : Option Addr} {lc : Nat} {cap : Int} (hcap : 1 ≤ cap ∧ cap ≤ 4000) (hla : RS R 1 encI la (lineC cap).vals) {ga : Option Addr} {gc : Nat} {cg : Cv} (hvg : validB cg = true) (hb : RS R 1 encI ga cg.vals) (hlc : (lineC cap).vals.length ≤ lc) (hgc : cg.vals.length ≤ gc) (w0 : World) (E : List Ent) : K.Fn Try.prog 63 [.agg #[.slice la (lineC cap).vals.length lc, .int .i64 (lineC cap).per, .int .i64 (lineC cap).inc], .agg #[.slice ga cg.vals.length gc, .int .i64 cg.per, .int .i64 cg.inc]] w0 R E (fun r R' E' => ∃ (f : Option Addr) (fc : Nat), r = cvV f fc (restC cap cg) ∧ RS R' 1 encI f (restC cap cg).1.vals ∧ (restC cap cg).1.vals.length ≤ fc ∧ E.Sublist E') := by
 obtain ⟨hln, hlcv, hlf, hls⟩ := line_facts (cap := cap) (by omega)
 have hlnn : normR (lineC cap) = lineC cap := hln.norm
 have hun := rest_ref (cap := cap) (g := cg) (by omega) hvg
 have hnv := (norm_valid hvg).1
 refine Fn.enter (n := 83) Try.func63 rfl rfl (Nat.le_of_ble_eq_true rfl) rfl ?_
 refine W.seq (W.region _ ?_)
 refine WL.ef rfl rfl qD (Ef.box rfl rfl (fun b2 => ?_))
 refine WL.ef rfl rfl qD (Ef.box rfl rfl (fun b3 => ?_))
 refine WL.ef rfl rfl qD (Ef.alloc tab_ok rfl rfl (fun b4 => ?_))
 refine WG.run tab_ok 1 rfl (WG.nil (WE.nxt (W.seq (W.region _ ?_))))
 refine' WG.y rfl rfl qD (Yl.load1 tab_ok rfl rfl rfl (fun _ => rfl) ?r1 rfl ?h1) ?_
 case r1 => (exact Rd.blk 2 rfl)
 case h1 => rfl
 refine' WG.y rfl rfl qD (Yl.load1 tab_ok rfl rfl rfl (fun _ => rfl) ?r2 rfl ?h2) ?_
 case r2 => (exact Rd.blk 1 rfl)
 case h2 => rfl
 refine WL.call en42 rfl rfl qD (CallOp.mkT rfl rfl rfl rfl) (Pair05_C hln.valid hla hlc hvg hb hgc w0 _) ?_
 rintro _ R1 E1 hR1 ⟨f1, k1, f2, k2, rfl, hf1, hf2, hsub1⟩
 refine WL.subE hsub1 ?_
 rw [hlnn] at hf1 ⊢
 unfold restQ at hun
 generalize normR cg = m at *
 obtain ⟨_, _, s1, p1, p2, p3, p4, p5⟩ := valid_range hnv
 have hnoL : ¬ 120 < lcmC (lineC cap) m := by rw [lcm_line]; omega
 have hper : ((m.per.toNat : Nat) : Int) = m.per := by omega
 rw [if_neg hnoL, if_neg hnoL, lcm_line, hper]
 have hbd : ∀ t, t ≤ 10000 → 0 ≤ restF cap m t ∧ restF cap m t ≤ 4000 * 10000 := fun t ht => by
  have h1 := restF_bound (cap := cap) (by omega) hnv t
  have h3 := mulB (a := cap) (b := (t : Int)) (A := 4000) (B := 10000) (by omega) (by omega)
  omega
 refine WG.run tab_ok 5 rfl ?_
 refine WL.ef rfl rfl qD (Ef.alloc tab_ok rfl rfl (fun b6 => ?_))
 refine WL.ef rfl rfl qD (Ef.alloc tab_ok rfl rfl (fun b7 => ?_))
 refine WL.efN rfl rfl (Ef.store0 1 tab_ok rfl rfl rfl rfl rfl rfl rfl rfl ?_)
 refine WL.efN rfl rfl (Ef.store0 0 tab_ok rfl rfl rfl rfl rfl rfl rfl rfl ?_)
 refine WG.run tab_ok 2 rfl (WG.nil (WE.nxt (W.seq (W.seq (W.region _ (WG.run tab_ok 2 rfl (WG.nil (WE.nxt ?_))))))))
 refine W.condN rfl (fun hc0 => ?_) (fun hc0 => ?_)
 ·try dsimp only at hc0
  (simp at hc0; done)
 ·try dsimp only at hc0
  refine W.skip (WE.nxt (W.seq (W.region _ (WG.run tab_ok 1 rfl (WG.nil (WE.nxt (W.seq (W.region _ (WG.run tab_ok 1 rfl (WG.nil (WE.nxt (W.seq ?_))))))))))))
  refine W.nil 3 1 qD ?_
  refine W.seq (W.region _ (WG.run tab_ok 1 rfl (WG.nil (WE.nxt (W.block ?_)))))
  refine W.loopK (β := Nat × Option Addr × Nat) (fun (t, a10, c10) => t ≤ (400 + m.per.toNat) + 1) (fun (t, a10, c10) => [(10, true, .slice a10 (fvals (restF cap m) t).length c10), (11, true, .int .i64 (mostF (rawL cap m) t)), (12, true, .int .i64 (t : Int))]) [4, 6, 7, 8] [_, _, _, _] [] _ rfl (fun (t, a10, c10) => [(0, .sl 3 1 a10 c10 ((fvals (restF cap m) t).map encI))]) (fun (t, a10, c10) => (400 + m.per.toNat) + 1 - t) ((0, none, 0)) (Nat.zero_le _) ⟨rfl, rfl, rfl, rfl, rfl, rfl, rfl, rfl⟩ qS ?_
  intro st hst
  obtain ⟨t, a10, c10⟩ := st
  dsimp only [zipE, setAll, List.cons_append, List.nil_append, List.set_cons_zero, List.set_cons_succ] at hst ⊢
  have hfl := fvals_len (restF cap m) t
  refine W.seq (W.seq (W.region _ (WG.run tab_ok 2 rfl ?_)))
  refine WG.y rfl rfl qD (Yl.add rfl rfl rfl (fun _ => rfl) qA) ?_
  refine WG.run tab_ok 1 rfl (WG.nil (WE.nxt ?_))
  refine W.condD rfl (fun hc1 => ?_) (fun hc1 => ?_)
  ·try dsimp only at hc1
   have htn : t ≤ (400 + m.per.toNat) := by omega
   have hb1 := hbd t (by omega)
   have hbt : restF cap m t = max (mostF (rawL cap m) t) (rawL cap m t) := rfl
   have hmn := mostF_nonneg (f := rawL cap m) t
   have hmx : (if (mostF (rawL cap m) t) < max 0 (rawL cap m t) then max 0 (rawL cap m t) else (mostF (rawL cap m) t)) = restF cap m t := by rw [hbt]; split <;> omega
   have e1 : fvals (restF cap m) (t + 1) = fvals (restF cap m) t ++ [restF cap m t] := fvals_snoc _ _
   refine W.skip (WE.nxt (W.seq (W.block (W.seq (W.region _ (WG.run tab_ok 1 rfl ?_))))))
   refine' WG.y rfl rfl qD (Yl.load1 tab_ok rfl rfl rfl (fun _ => rfl) ?r3 rfl ?h3) ?_
   case r3 => (exact Rd.blk 2 rfl)
   case h3 => rfl
   refine' WG.y rfl rfl qD (Yl.load1 tab_ok rfl rfl rfl (fun _ => rfl) ?r4 rfl ?h4) ?_
   case r4 => (exact Rd.blk 1 rfl)
   case h4 => rfl
   refine WG.run tab_ok 1 rfl ?_
   refine WG.callV en98 rfl rfl qD (CallOp.mk' rfl rfl rfl rfl) (fun _ => rfl) (fun hg => DiffL06_V hcap hf1 hnv hf2 qO) ?_
   refine WG.run tab_ok 2 rfl ?_
   rw [hmx]
   refine WG.nil (WE.nxt (W.region _ (WG.run tab_ok 2 rfl ?_)))
   refine WL.ef rfl rfl qD (Ef.buildSliceD (enc := encI) (parts := [.tmp 39]) [_] tab_ok rfl rfl rfl rfl rfl rfl rfl rfl qD qD (fun a40 => ?_))
   refine WL.ef rfl rfl (by decide) (Ef.appendD 1 0 tab_ok rfl rfl rfl rfl rfl rfl rfl rfl rfl rfl rfl (fun _ _ => rfl) (by simp only [List.length_cons, List.length_nil]; omega) (by simp only [List.length_cons, List.length_nil]; omega) (fun a41 c41 ha41 => ?_))
   refine WG.run tab_ok 1 rfl (WG.nil (WE.blk _ (WE.nxt (W.region _ (WG.run tab_ok 1 rfl ?_)))))
   refine WG.y rfl rfl qD (Yl.add rfl rfl rfl (fun _ => rfl) qA) ?_
   refine WG.run tab_ok 1 rfl (WG.nil ?_)
   refine WE.again ((t + 1, a41, c41)) (by (try dsimp only); omega) (by (try dsimp only); omega) ⟨by rw [e1, List.length_append]; rfl, rfl, rfl, rfl, rfl, rfl, rfl, rfl⟩ (RLe.refl _) (by dsimp only [setAll, List.set_cons_zero, List.set_cons_succ]; rw [e1]; exact qS)
  ·try dsimp only at hc1
   obtain rfl : t = (400 + m.per.toNat) + 1 := by omega
   have hbl : mostF (rawL cap m) ((400 + m.per.toNat) + 1) = restF cap m (400 + m.per.toNat) := rfl
   rw [hbl]
   have hbe := hbd (400 + m.per.toNat) (by omega)
   have hb4 := hbd 400 (by omega)
   refine W.cap 0 rfl ?_
   intro hcp
   rw [List.length_map] at hcp
   refine W.freeze (enc := encI) (xs := fvals (restF cap m) ((400 + m.per.toNat) + 1)) 0 rfl ?_
   intro R2 hR2 hv0
   have hfl := fvals_len (restF cap m) ((400 + m.per.toNat) + 1)
   have hf1 := hf1.mono hR2
   have hf2 := hf2.mono hR2
   refine W.exit ?_
   refine WE.then_exit (WE.then_exit (WE.blk_exit (WE.nxt (W.seq (W.region _ (WG.run tab_ok 3 rfl ?_))))))
   refine WG.y rfl rfl qD (Yl.add rfl rfl rfl (fun _ => rfl) qA) ?_
   refine WG.y rfl rfl qD (Yl.sliceH tab_ok rfl rfl rfl rfl rfl (fun _ => rfl) (by intro _; omega) rfl) ?_
   rw [show ((400 : Int) + m.per).toNat = (400 + m.per.toNat) by omega]
   -- build
   refine WG.y rfl rfl qD (Yl.build (parts := [(1, .tmp 42), (0, .tmp 46)]) tab_ok rfl rfl rfl rfl (fun _ => rfl) rfl rfl) ?_
   refine WL.ef rfl rfl qD (Ef.alloc tab_ok rfl rfl (fun b13 => ?_))
   refine WL.efN rfl rfl (Ef.store0 0 tab_ok rfl rfl rfl rfl rfl rfl rfl rfl ?_)
   refine WG.nil (WE.nxt (W.seq (W.seq (W.region _ (WG.run tab_ok 2 rfl (WG.nil (WE.nxt ?_)))))))
   refine W.condE rfl (fun hc2 => ?_) (fun hc2 => ?_)
   ·try dsimp only at hc2
    omega
   ·try dsimp only at hc2
    refine W.skip (WE.nxt ?_)
    refine W.seqCut (β := Unit) (fun _u => True) (fun _u => [(4, true, .pointer (some ⟨b4, 0, none⟩)), (8, true, .int .i64 m.per), (10, true, .slice a10 (fvals (restF cap m) ((400 + m.per.toNat) + 1)).length c10), (13, true, .pointer (some ⟨b13, 0, none⟩))]) (fun _ => R2) (fun _ => .blk b13 [.slice a10 (400 + m.per.toNat) c10, .int .i64 m.per, .int .i64 (gainL cap m)] :: .blk b7 [.slice f2 m.vals.length k2, .int .i64 m.per, .int .i64 m.inc] :: .blk b6 [.slice f1 (lineC cap).vals.length k1, .int .i64 (lineC cap).per, .int .i64 (lineC cap).inc] :: .blk b4 [.slice none 0 0, .int .i64 0, .int .i64 0] :: E) ?_ ?_
    ·
     intro _u hst
     have hgl : 0 ≤ gainL cap m ∧ gainL cap m ≤ 1000000 := by
      unfold gainL driftL
      have := mulB (a := m.per) (b := cap) (A := 120) (B := 4000) (by omega) (by omega)
      split <;> omega
     refine W.seq (W.seq ?_)
     refine W.regionQ _ mixed qK ?_
     refine WG.run tab_ok 2 rfl ?_
     refine WG.y rfl rfl qD (Yl.add rfl rfl rfl (fun _ => rfl) qA) ?_
     rw [show (400 : Int) + m.per = (((400 + m.per.toNat) : Nat) : Int) by omega]
     refine WG.y rfl rfl qD (Yl.indexN tab_ok rfl rfl rfl rfl rfl rfl (fun _ => rfl) qN qH) ?_
     refine' WG.y rfl rfl qD (Yl.load1 tab_ok rfl rfl rfl (fun _ => rfl) ?r5 rfl ?h5) ?_
     case r5 => ((apply RS.rdD; assumption; ((try dsimp only) <;> omega)))
     case h5 => rfl
     rw [fvals_nth (restF cap m) (show (400 + m.per.toNat) < (400 + m.per.toNat) + 1 by omega)]
     refine WG.run tab_ok 1 rfl ?_
     refine WG.y rfl rfl qD (Yl.index tab_ok rfl rfl rfl rfl rfl rfl (fun _ => rfl) qA qH) ?_
     refine' WG.y rfl rfl qD (Yl.load1 tab_ok rfl rfl rfl (fun _ => rfl) ?r6 rfl ?h6) ?_
     case r6 => ((apply RS.rdD; assumption; ((try dsimp only) <;> omega)))
     case h6 => rfl
     rw [show ((400 : Int)).toNat = 400 from rfl, fvals_nth (restF cap m) (show 400 < (400 + m.per.toNat) + 1 by omega)]
     refine WG.run tab_ok 1 rfl ?_
     refine' WG.y rfl rfl qD (Yl.load1 tab_ok rfl rfl rfl (fun _ => rfl) ?r7 rfl ?h7) ?_
     case r7 => apply Rd.add; (exact Rd.blk 0 rfl)
     case h7 => rfl
     refine WG.y rfl rfl qD (Yl.add rfl rfl rfl (fun _ => rfl) qA) ?_
     refine WG.run tab_ok 1 rfl (WG.nil (WE.nxt ?_))
     refine W.condN rfl (fun hc3 => ?_) (fun hc3 => ?_)
     ·try dsimp only at hc3
      rw [if_pos hc3] at hun
      refine W.seq (W.region _ ?_)
      -- build
      refine WG.y rfl rfl qD (Yl.build (parts := []) tab_ok rfl rfl rfl rfl (fun _ => rfl) rfl rfl) ?_
      refine WL.efN rfl rfl (Ef.store0 3 tab_ok rfl rfl rfl rfl rfl rfl rfl rfl ?_)
      refine WG.run tab_ok 1 rfl (WG.nil (WE.nxt (W.ret (WE.then_ret ?_))))
      refine WE.retF tab_ok [_, _] rfl ⟨⟨_, _, _, rfl, rfl, rfl, ((by first | exact Rd.blk 0 rfl | exact Rd.blk 1 rfl | exact Rd.blk 2 rfl | exact Rd.blk 3 rfl | exact Rd.blk 4 rfl | exact Rd.blk 5 rfl | exact Rd.blk 6 rfl | exact Rd.blk 7 rfl)), rfl⟩, rfl, trivial⟩ ((by first | exact hR1 | exact hR1.trans (hR2.trans hR4) | exact hR1.trans hR2)) ?_
      exact ⟨none, 0, by rw [hun]; rfl, by rw [hun]; exact rs_nil, by rw [hun]; exact Nat.le_refl _, qS⟩
     ·try dsimp only at hc3
      have hc3e := hc3
      rw [if_neg (fun h => h hc3)] at hun
      have htk : (fvals (restF cap m) ((400 + m.per.toNat) + 1)).take (400 + m.per.toNat) = fvals (restF cap m) (400 + m.per.toNat) := by rw [fvals_snoc, List.take_left' (fvals_len _ _)]
      have hv1 := hv0.take (400 + m.per.toNat)
      rw [htk] at hv1
      have hmk2 := rest_madeOk (cap := cap) (by omega) hnv (fun h => h hc3)
      refine W.skip (WE.nxt (W.seq (W.region _ ?_)))
      refine' WG.y rfl rfl qD (Yl.load1 tab_ok rfl rfl rfl (fun _ => rfl) ?r8 rfl ?h8) ?_
      case r8 => (exact Rd.blk 0 rfl)
      case h8 => rfl
      refine WL.call en47 rfl rfl (by decide) (CallOp.mkT rfl rfl rfl rfl) (MadeGLK_C hv1 (fvals_len _ _) (by omega) hmk2 (by rw [hfl] at hcp; omega) w0 _) ?_
      rintro _ R4 E4 hR4 ⟨f, fc4, rfl, hf4, hcp4, hsub4⟩
      refine WL.subE hsub4 ?_
      rw [← hun] at hf4 hcp4 ⊢
      unfold cvV
      refine WG.run tab_ok 2 rfl ?_
      refine WL.efN rfl rfl (Ef.store0 3 tab_ok rfl rfl rfl rfl rfl rfl rfl rfl ?_)
      refine WG.run tab_ok 1 rfl (WG.nil (WE.nxt (W.ret ?_)))
      refine WE.retF tab_ok [_, _] rfl ⟨⟨_, _, _, rfl, rfl, rfl, ((by first | exact Rd.blk 0 rfl | exact Rd.blk 1 rfl | exact Rd.blk 2 rfl | exact Rd.blk 3 rfl | exact Rd.blk 4 rfl | exact Rd.blk 5 rfl | exact Rd.blk 6 rfl | exact Rd.blk 7 rfl)), rfl⟩, rfl, trivial⟩ ((by first | exact hR1 | exact hR1.trans (hR2.trans hR4) | exact hR1.trans hR2)) ?_
      exact ⟨f, fc4, rfl, hf4, hcp4, qS⟩
    ·
     refine W.seq (W.region _ ?_)
     refine' WG.y rfl rfl qD (Yl.load1 tab_ok rfl rfl rfl (fun _ => rfl) ?r9 rfl ?h9) ?_
     case r9 => (exact Rd.blk 2 rfl)
     case h9 => rfl
     refine WG.callV (v := .bool true) en43 rfl rfl (by decide) (CallOp.mk' rfl rfl rfl rfl) (fun _ => rfl) (fun hg => by have h := FiniteG_V (fc := k1) hln.valid hf1; rw [hlf] at h; exact h) ?_
     refine WG.run tab_ok 1 rfl ?_
     refine' WG.y rfl rfl qD (Yl.loadG tab_ok rfl rfl rfl qE ?r10 rfl ?h10 ?g10) ?_
     case r10 => (exact Rd.blkC 1 rfl)
     case h10 => rfl
     case g10 => exact fun _ => trivial
     refine WG.callV (v := .bool (finB m)) en43 rfl rfl qD (CallOp.mk' rfl rfl rfl rfl) qE (fun hg => FiniteG_V hnv hf2) ?_
     refine WG.y rfl rfl (by decide) (Yl.pand rfl rfl rfl (fun _ => rfl) (by intro h1 h2; simp_all <;> omega)) ?_
     refine WG.nil (WE.nxt ?_)
     refine W.cond rfl (fun hc4 => ?_) (fun hc4 => ?_)
     ·try simp only [kk] at hc4
      refine W.region _ ?_
      refine' WG.y rfl rfl qD (Yl.load1 tab_ok rfl rfl rfl (fun _ => rfl) ?r11 rfl ?h11) ?_
      case r11 => (exact Rd.blk 2 rfl)
      case h11 => rfl
      refine' WG.y rfl rfl qD (Yl.load1 tab_ok rfl rfl rfl (fun _ => rfl) ?r12 rfl ?h12) ?_
      case r12 => (exact Rd.blk 1 rfl)
      case h12 => rfl
      refine WG.run tab_ok 1 rfl ?_
      refine WG.callV (v := .int .i64 (driftL cap m)) en44 rfl rfl (by decide) (CallOp.mk' rfl rfl rfl rfl) (fun _ => rfl) (fun hg => by have h := Slopes05_V (c1 := k1) (c2 := k2) hln.valid hf1 hnv hf2 (L := lcmC (lineC cap) m) (by rw [lcm_line]; omega); rw [show ((lcmC (lineC cap) m : Nat) : Int) = m.per by rw [lcm_line, hper], show gainC (lineC cap) (lcmC (lineC cap) m) - gainC m (lcmC (lineC cap) m) = driftL cap m from drift_line hnv] at h; exact h) ?_
      refine WG.run tab_ok 2 rfl ?_
      refine WL.efN rfl rfl (Ef.store 0 tab_ok rfl rfl rfl rfl rfl rfl rfl rfl ?_)
      refine WG.nil ?_
      have hg1 : gainL cap m = max 0 (driftL cap m) := if_pos (by simpa using hc4)
      rw [show (if (0 : Int) < driftL cap m then driftL cap m else 0) = gainL cap m by rw [hg1]; split <;> omega]
      refine WE.cut () trivial ⟨rfl, rfl, rfl, rfl, rfl⟩ (RLe.refl _) qS
     ·try simp only [kk] at hc4
      refine W.skip ?_
      have hg0 : gainL cap m = 0 := if_neg (by simpa using hc4)
      refine WE.cut () trivial ⟨rfl, rfl, rfl, rfl, rfl⟩ (RLe.refl _) (by rw [hg0]; exact qS)

end Go.Proofs.Ytnackbfnmhkodaa

/- The reference of the curves of priorities. No condition. -/
set_option maxRecDepth 4000
set_option linter.unusedSimpArgs false
set_option linter.unusedVariables false
namespace Go.Proofs.Ytnackbfnmhkodaa
open Go Go.RowKit Go.Proofs.Ytnackbfnmhkodaa.K Go.Proofs.Ytnackbfnmhkodaa.M

theorem Valid18_V {R : Ro} {la : Option Addr} {lc : Nat} {ls : List CvS} (hla : RS R 3 encC la ls) (hls : ∀ x ∈ ls, RS R 1 encI x.a x.cv.vals ∧ x.cv.vals.length ≤ 100000 ∧ x.cv.vals.length ≤ x.cap) : FnV Try.prog 58 [.slice la ls.length lc] R (.bool (allV (ls.map CvS.cv))) := by
 have hll := hla.len
 refine Fn.toV (fun w0 E => ?_)
 refine Fn.enter (n := 16) Try.func58 rfl rfl (Nat.le_of_ble_eq_true rfl) rfl ?_
 refine W.seq (W.region _ (WG.run tab_ok 1 rfl (WG.nil (WE.nxt (W.seq (W.seq (W.region _ (WG.run tab_ok 1 rfl (WG.nil (WE.nxt (W.block ?_)))))))))))
 refine W.loopK (β := Nat) (fun i => i ≤ ls.length ∧ ∀ j, j < i → validB (nth ls j).cv = true) (fun i => [(3, true, .int .i64 (i : Int))]) [0] [_] [] _ rfl (fun i => []) (fun i => ls.length - i) (0) (⟨Nat.zero_le _, fun j hj => by omega⟩) ⟨rfl, rfl, rfl⟩ qS ?_
 intro i hst
 dsimp only [zipE, setAll, List.cons_append, List.nil_append, List.set_cons_zero, List.set_cons_succ] at hst ⊢
 
 refine W.seq (W.seq (W.region _ (WG.run tab_ok 4 rfl (WG.nil (WE.nxt ?_)))))
 refine W.condD rfl (fun hc0 => ?_) (fun hc0 => ?_)
 ·try dsimp only at hc0
  have hil : i < ls.length := by omega
  refine W.skip (WE.nxt (W.seq (W.block (W.seq (W.region _ (WG.run tab_ok 2 rfl ?_))))))
  refine WG.y rfl rfl qD (Yl.indexN tab_ok rfl rfl rfl rfl rfl rfl (fun _ => rfl) qN qH) ?_
  refine' WG.y rfl rfl qD (Yl.load1 tab_ok rfl rfl rfl (fun _ => rfl) ?r1 rfl ?h1) ?_
  case r1 => ((apply RS.rdD; assumption; ((try dsimp only) <;> omega)))
  case h1 => rfl
  refine WG.callV (v := .bool (validB (nth ls i).cv)) en27 rfl rfl qD (CallOp.mk' rfl rfl rfl rfl) (fun _ => rfl) (fun hg => ValidA_V (c := (nth ls i).cap) (hls _ (nth_mem (xs := ls) (k := i) qO)).1) ?_
  refine WG.run tab_ok 1 rfl (WG.nil (WE.nxt ?_))
  refine W.cond rfl (fun hc1 => ?_) (fun hc1 => ?_)
  ·try simp only [kk] at hc1
   have hno : allV (ls.map CvS.cv) = false := by
    rw [← Bool.not_eq_true, allV_iff]
    intro h
    have := h _ (List.mem_map_of_mem (nth_mem hil))
    simp [this] at hc1
   refine W.seq (W.region _ (WG.run tab_ok 1 rfl (WG.nil (WE.nxt (W.ret (WE.blk_ret (WE.then_ret (WE.then_ret (WE.blk_ret (WE.then_ret ?_))))))))))
   refine WE.subE (E' := E) qS ?_
   refine WE.retF tab_ok [_] rfl ⟨rfl, trivial⟩ (RLe.refl _) ?_
   exact ⟨by rw [hno]; rfl, rfl⟩
  ·try simp only [kk] at hc1
   have hvi : validB (nth ls i).cv = true := by simpa using hc1
   refine W.skip (WE.blk _ (WE.nxt (W.region _ (WG.run tab_ok 1 rfl ?_))))
   refine WG.y rfl rfl qD (Yl.add rfl rfl rfl (fun _ => rfl) qA) ?_
   refine WG.run tab_ok 1 rfl (WG.nil ?_)
   refine WE.again (i + 1) (⟨by omega, fun j hj => by
    by_cases e : j = i
    ·subst e; exact hvi
    ·exact hst.2 j (by omega)⟩) (by (try dsimp only); omega) ⟨rfl, rfl, rfl⟩ (RLe.refl _) qS
 ·try dsimp only at hc0
  obtain rfl : i = ls.length := by omega
  have hav : allV (ls.map CvS.cv) = true := allV_iff.2 (fun c hc => by
   obtain ⟨x, hx, rfl⟩ := List.mem_map.1 hc
   obtain ⟨j, hj, rfl⟩ := List.getElem_of_mem hx
   have := hst.2 j hj
   rw [nth_eq hj] at this
   exact this)
  refine W.exit ?_
  refine WE.then_exit (WE.then_exit (WE.blk_exit (WE.nxt (W.seq (W.region _ (WG.run tab_ok 1 rfl (WG.nil (WE.nxt (W.ret ?_)))))))))
  refine WE.subE (E' := E) qS ?_
  refine WE.retF tab_ok [_] rfl ⟨rfl, trivial⟩ (RLe.refl _) ?_
  exact ⟨by rw [hav]; rfl, rfl⟩

theorem Block18_V {R : Ro} {za : Option Addr} {zc : Nat} {z : List Sz} (hzr : RS R 2 encZ za z) {k : Nat} (hk : k < z.length ∧ z.length ≤ 6) (hz : ∀ s ∈ z, 0 ≤ s.least ∧ s.least ≤ s.most ∧ s.most ≤ 1500) : FnV Try.prog 61 [.int .i64 (k : Int), .slice za z.length zc] R (.int .i64 (blkN (k : Int) z)) := by
 refine Fn.toV (fun w0 E => ?_)
 have hk1 : ((k : Int) + 1).toNat = k + 1 := by omega
 refine Fn.enter (n := 24) Try.func61 rfl rfl (Nat.le_of_ble_eq_true rfl) rfl ?_
 refine W.seq (W.region _ (WG.run tab_ok 1 rfl (WG.nil (WE.nxt (W.seq (W.region _ (WG.run tab_ok 1 rfl (WG.nil (WE.nxt (W.seq (W.seq (W.region _ (WG.run tab_ok 1 rfl ?_)))))))))))))
 refine WG.y rfl rfl qD (Yl.add rfl rfl rfl (fun _ => rfl) qA) ?_
 refine WG.run tab_ok 1 rfl (WG.nil (WE.nxt (W.block ?_)))
 refine W.loopK (β := Nat) (fun n => k + 1 + n ≤ z.length) (fun n => [(5, true, .int .i64 (mostF (blkF (k : Int) z) n)), (6, true, .int .i64 ((k + 1 + n : Nat) : Int))]) [1] [_] [] _ rfl (fun n => []) (fun n => z.length - n) (0) (by (try dsimp only); omega) ⟨rfl, vint qO, rfl, rfl⟩ qS ?_
 intro n hst
 dsimp only [zipE, setAll, List.cons_append, List.nil_append, List.set_cons_zero, List.set_cons_succ] at hst ⊢
 
 refine W.seq (W.seq (W.region _ (WG.run tab_ok 4 rfl (WG.nil (WE.nxt ?_)))))
 refine W.condD rfl (fun hc0 => ?_) (fun hc0 => ?_)
 ·try dsimp only at hc0
  have hnl : k + 1 + n < z.length := by omega
  have hdn : nth (z.drop ((k : Int) + 1).toNat) n = nth z (k + 1 + n) := by rw [hk1]; unfold nth; rw [List.getD_eq_getElem?_getD, List.getD_eq_getElem?_getD, List.getElem?_drop]
  have hzi := hz _ (nth_mem hnl)
  have hmk := blk_range (cls := (k : Int)) hz (n := n) (by omega)
  have hmx : (if (mostF (blkF (k : Int) z) n) < (nth z (k + 1 + n)).most - 1 then (nth z (k + 1 + n)).most - 1 else (mostF (blkF (k : Int) z) n)) = mostF (blkF (k : Int) z) (n + 1) := by
   show _ = max (mostF (blkF (k : Int) z) n) (blkF (k : Int) z n)
   unfold blkF
   rw [hdn]
   split <;> omega
  refine W.skip (WE.nxt (W.seq (W.block (W.region _ (WG.run tab_ok 3 rfl ?_)))))
  refine WG.y rfl rfl qD (Yl.indexN tab_ok rfl rfl rfl rfl rfl rfl (fun _ => rfl) qN qH) ?_
  refine WG.run tab_ok 1 rfl ?_
  refine' WG.y rfl rfl qD (Yl.load1 tab_ok rfl rfl rfl (fun _ => rfl) ?r1 rfl ?h1) ?_
  case r1 => apply Rd.add; ((apply RS.rdD; assumption; ((try dsimp only) <;> omega)))
  case h1 => rfl
  refine WG.y rfl rfl qD (Yl.sub rfl rfl rfl (fun _ => rfl) qA) ?_
  refine WG.run tab_ok 2 rfl (WG.nil (WE.blk _ (WE.nxt (W.region _ (WG.run tab_ok 1 rfl ?_)))))
  refine WG.y rfl rfl qD (Yl.add rfl rfl rfl (fun _ => rfl) qA) ?_
  refine WG.run tab_ok 1 rfl (WG.nil ?_)
  refine WE.again (n + 1) qO (by (try dsimp only); omega) ⟨vint hmx, vint qO, rfl, rfl⟩ (RLe.refl _) qS
 ·try dsimp only at hc0
  have hn : n = z.length - ((k : Int) + 1).toNat := by omega
  refine W.exit ?_
  refine WE.then_exit (WE.then_exit (WE.blk_exit (WE.nxt (W.seq (W.region _ (WG.run tab_ok 2 rfl (WG.nil (WE.nxt (W.ret ?_)))))))))
  refine WE.subE (E' := E) qS ?_
  refine WE.retF tab_ok [_] rfl ⟨rfl, trivial⟩ (RLe.refl _) ?_
  exact ⟨by rw [hn]; rfl, rfl⟩

theorem ServeL_ok {R : Ro} {cap : Int} (hc : 1 ≤ cap ∧ cap ≤ 4000) (w0 : World) (E : List Ent) :
  K.Fn Try.prog 62 [.int .i64 cap] w0 R E (fun v R' E' => ∃ f : Option Addr, v = .tuple #[.agg #[.slice f 1 1, .int .i64 1, .int .i64 cap], .int .i64 0] ∧ RS R' 1 encI f [0] ∧ E.Sublist E') := by
 refine Fn.enter (n := 14) Try.func62 rfl rfl (Nat.le_of_ble_eq_true rfl) rfl ?_
 refine W.seq (W.region _ ?_)
 refine WL.ef rfl rfl qD (Ef.alloc tab_ok rfl rfl (fun b2 => ?_))
 refine WG.run tab_ok 1 rfl (WG.nil (WE.nxt (W.seq (W.seq (W.region _ (WG.run tab_ok 3 rfl ?_))))))
 refine WG.y rfl rfl qD (pureV_ok tab_ok rfl qE) ?_
 refine WG.y rfl rfl qD (pureV_ok tab_ok rfl qE) ?_
 refine WG.y rfl rfl (by decide) (Yl.por rfl rfl rfl (fun _ => rfl) (by intro h1 h2; simp_all <;> omega)) ?_
 refine WG.nil (WE.nxt ?_)
 refine W.cond rfl (fun hc0 => ?_) (fun hc0 => ?_)
 ·try simp only [kk] at hc0
  omega
 ·try simp only [kk] at hc0
  refine W.skip (WE.nxt (W.seq (W.region _ ?_)))
  refine WL.ef rfl rfl qD (Ef.buildSliceD (enc := encI) (parts := [.const (.int .i64 0)]) [_] tab_ok rfl rfl rfl rfl rfl rfl rfl rfl qD qD (fun a11 => ?_))
  refine WL.freeze (enc := encI) (xs := [0]) 0 rfl ?_
  intro R1 hR1 hsv
  refine WG.run tab_ok 1 rfl ?_
  -- build
  refine WG.y rfl rfl qD (Yl.build (parts := [(0, .tmp 11), (1, .const (.int .i64 1)), (2, .tmp 12)]) tab_ok rfl rfl rfl rfl (fun _ => rfl) rfl rfl) ?_
  refine WL.efN rfl rfl (Ef.store0 0 tab_ok rfl rfl rfl rfl rfl rfl rfl rfl ?_)
  refine WG.run tab_ok 1 rfl (WG.nil (WE.nxt (W.ret ?_)))
  refine WE.retF tab_ok [_, _] rfl ⟨⟨_, _, _, rfl, rfl, rfl, ((by first | exact Rd.blk 0 rfl | exact Rd.blk 1 rfl | exact Rd.blk 2 rfl)), rfl⟩, rfl, trivial⟩ (hR1) ?_
  exact ⟨_, rfl, hsv, qS⟩

set_option maxHeartbeats 2000000 in
theorem RCurve18_C {R : Ro} {la : Option Addr} {lc : Nat} {ls : List CvS} (hla : RS R 3 encC la ls) (hlc : ls.length ≤ lc) (hls : ∀ x ∈ ls, RS R 1 encI x.a x.cv.vals ∧ x.cv.vals.length ≤ 100000 ∧ x.cv.vals.length ≤ x.cap) {za : Option Addr} {zc : Nat} {z : List Sz} (hzr : RS R 2 encZ za z) (cap cls : Int) (w0 : World) (E : List Ent) : K.Fn Try.prog 24 [.int .i64 cap, .int .i64 cls, .slice la ls.length lc, .slice za z.length zc] w0 R E (fun r R' E' => ∃ (f : Option Addr) (fc : Nat), r = cvV f fc (prioC cap cls (ls.map CvS.cv) z) ∧ RS R' 1 encI f (prioC cap cls (ls.map CvS.cv) z).1.vals ∧ (prioC cap cls (ls.map CvS.cv) z).1.vals.length ≤ fc ∧ E.Sublist E') := by
 have hll := hla.len
 have hlz := hzr.len
 have hmap : (ls.map CvS.cv).length = ls.length := by simp
 refine Fn.enter (n := 66) Try.func24 rfl rfl (Nat.le_of_ble_eq_true rfl) rfl ?_
 refine W.seq (W.region _ ?_)
 refine WL.ef rfl rfl qD (Ef.alloc tab_ok rfl rfl (fun b8 => ?_))
 refine WG.run tab_ok 1 rfl (WG.nil (WE.nxt (W.seq (W.seq (W.region _ (WG.run tab_ok 3 rfl ?_))))))
 refine WG.callV (v := .int .i64 (chk18 cap cls z)) en26 rfl rfl qD (CallOp.mk' rfl rfl rfl rfl) (fun _ => rfl) (fun hg => Check18_V hzr) ?_
 refine WG.run tab_ok 1 rfl (WG.nil (WE.nxt (W.seq (W.region _ (WG.run tab_ok 2 rfl (WG.nil (WE.nxt ?_)))))))
 refine W.condN rfl (fun hc0 => ?_) (fun hc0 => ?_)
 ·try dsimp only at hc0
  have hd : (prioC cap cls (ls.map CvS.cv) z) = (zcv, chk18 cap cls z) := if_pos hc0
  refine W.seq (W.region _ ?_)
  -- build
  refine WG.y rfl rfl qD (Yl.build (parts := []) tab_ok rfl rfl rfl rfl (fun _ => rfl) rfl rfl) ?_
  refine WG.run tab_ok 1 rfl ?_
  refine WL.efN rfl rfl (Ef.store0 0 tab_ok rfl rfl rfl rfl rfl rfl rfl rfl ?_)
  refine WG.run tab_ok 1 rfl (WG.nil (WE.nxt (W.ret (WE.then_ret ?_))))
  refine WE.retF tab_ok [_, _] rfl ⟨⟨_, _, _, rfl, rfl, rfl, ((by first | exact Rd.blk 0 rfl | exact Rd.blk 1 rfl | exact Rd.blk 2 rfl | exact Rd.blk 3 rfl | exact Rd.blk 4 rfl | exact Rd.blk 5 rfl | exact Rd.blk 6 rfl)), rfl⟩, rfl, trivial⟩ ((by first | exact RLe.refl _ | assumption | exact hR1.trans hR2 | exact hR1.trans (hR2.trans (hR3.trans hR4)))) ?_
  exact ⟨none, 0, by rw [hd]; rfl, by rw [hd]; exact rs_nil, by rw [hd]; exact Nat.le_refl _, qS⟩
 ·try dsimp only at hc0
  obtain ⟨p1, p2, p3, p4, p5, hz⟩ := chk18_ok hc0
  obtain ⟨k, rfl⟩ := Int.eq_ofNat_of_zero_le p3
  refine W.skip (WE.nxt (W.seq (W.seq (W.region _ (WG.run tab_ok 5 rfl (WG.nil (WE.nxt ?_)))))))
  refine W.condN rfl (fun hc1 => ?_) (fun hc1 => ?_)
  ·try dsimp only at hc1
   have hd : prioC cap (k : Int) (ls.map CvS.cv) z = (zcv, 2) := by unfold prioC; rw [if_neg (fun h => h hc0), if_pos (by rw [hmap]; omega)]
   refine W.seq (W.region _ ?_)
   -- build
   refine WG.y rfl rfl qD (Yl.build (parts := []) tab_ok rfl rfl rfl rfl (fun _ => rfl) rfl rfl) ?_
   refine WL.efN rfl rfl (Ef.store0 0 tab_ok rfl rfl rfl rfl rfl rfl rfl rfl ?_)
   refine WG.run tab_ok 1 rfl (WG.nil (WE.nxt (W.ret (WE.then_ret ?_))))
   refine WE.retF tab_ok [_, _] rfl ⟨⟨_, _, _, rfl, rfl, rfl, ((by first | exact Rd.blk 0 rfl | exact Rd.blk 1 rfl | exact Rd.blk 2 rfl | exact Rd.blk 3 rfl | exact Rd.blk 4 rfl | exact Rd.blk 5 rfl | exact Rd.blk 6 rfl)), rfl⟩, rfl, trivial⟩ ((by first | exact RLe.refl _ | assumption | exact hR1.trans hR2 | exact hR1.trans (hR2.trans (hR3.trans hR4)))) ?_
   exact ⟨none, 0, by rw [hd]; rfl, by rw [hd]; exact rs_nil, by rw [hd]; exact Nat.le_refl _, qS⟩
  ·try dsimp only at hc1
   have hle : ls.length = z.length := by omega
   refine W.skip (WE.nxt (W.seq (W.seq (W.region _ (WG.run tab_ok 1 rfl ?_)))))
   refine WG.callV (v := .bool (allV (ls.map CvS.cv))) en58 rfl rfl qD (CallOp.mk' rfl rfl rfl rfl) (fun _ => rfl) (fun hg => Valid18_V hla hls) ?_
   refine WG.run tab_ok 1 rfl (WG.nil (WE.nxt ?_))
   refine W.cond rfl (fun hc2 => ?_) (fun hc2 => ?_)
   ·try simp only [kk] at hc2
    have hno : allV (ls.map CvS.cv) = false := by simpa using hc2
    have hd : prioC cap (k : Int) (ls.map CvS.cv) z = (zcv, 1) := by unfold prioC; rw [if_neg (fun h => h hc0), if_neg (by rw [hmap]; omega), if_pos hno]
    refine W.seq (W.region _ ?_)
    -- build
    refine WG.y rfl rfl qD (Yl.build (parts := []) tab_ok rfl rfl rfl rfl (fun _ => rfl) rfl rfl) ?_
    refine WL.efN rfl rfl (Ef.store0 0 tab_ok rfl rfl rfl rfl rfl rfl rfl rfl ?_)
    refine WG.run tab_ok 1 rfl (WG.nil (WE.nxt (W.ret (WE.then_ret ?_))))
    refine WE.retF tab_ok [_, _] rfl ⟨⟨_, _, _, rfl, rfl, rfl, ((by first | exact Rd.blk 0 rfl | exact Rd.blk 1 rfl | exact Rd.blk 2 rfl | exact Rd.blk 3 rfl | exact Rd.blk 4 rfl | exact Rd.blk 5 rfl | exact Rd.blk 6 rfl)), rfl⟩, rfl, trivial⟩ ((by first | exact RLe.refl _ | assumption | exact hR1.trans hR2 | exact hR1.trans (hR2.trans (hR3.trans hR4)))) ?_
    exact ⟨none, 0, by rw [hd]; rfl, by rw [hd]; exact rs_nil, by rw [hd]; exact Nat.le_refl _, qS⟩
   ·try simp only [kk] at hc2
    have hav2 : allV (ls.map CvS.cv) = true := by simpa using hc2
    have hav := allV_iff.1 hav2
    have hbk : 0 ≤ blkN (k : Int) z ∧ blkN (k : Int) z ≤ 1499 := blk_range hz (Nat.le_refl _)
    have hmr := mid_res (l := (ls.map CvS.cv).take k) (fun c hc => hav c (List.mem_of_mem_take hc)) (k := blkN (k : Int) z) (by unfold MAXV; omega)
    have htr := total_res ((ls.map CvS.cv).take k) zeroC zero_nrm.valid zero_nrm (fun c hc => hav c (List.mem_of_mem_take hc))
    have hun : prioC cap (k : Int) (ls.map CvS.cv) z = if (midC (totalC ((ls.map CvS.cv).take k)) (blkN (k : Int) z)).2 ≠ 0 then (zcv, (midC (totalC ((ls.map CvS.cv).take k)) (blkN (k : Int) z)).2) else restC cap (midC (totalC ((ls.map CvS.cv).take k)) (blkN (k : Int) z)).1 := by
     unfold prioC
     rw [if_neg (fun h => h hc0), if_neg (by rw [hmap]; omega), if_neg (by rw [hav2]; decide)]
     rfl
    refine W.skip (WE.nxt (W.seq (W.region _ (WG.run tab_ok 2 rfl ?_))))
    refine WG.y rfl rfl qD (Yl.sliceH tab_ok rfl rfl rfl rfl rfl (fun _ => rfl) (by intro _; omega) rfl) ?_
    refine WL.call en59 rfl rfl (by decide) (CallOp.mkT rfl rfl rfl rfl) (TotalG05_C (ls := ls.take k) (by rw [List.length_take]; omega) (hla.take _) (fun x hx => ⟨(hls x (List.mem_of_mem_take hx)).1, hav x.cv (List.mem_map_of_mem (List.mem_of_mem_take hx)), (hls x (List.mem_of_mem_take hx)).2.2⟩) w0 _) ?_
    rintro _ R1 _ hR1 ⟨ft, ftc, rfl, hft, hct, hsub⟩
    refine WL.subE hsub ?_
    rw [List.map_take] at hft hct ⊢
    unfold cvV
    have hzr1 := hzr.mono hR1
    refine WG.run tab_ok 3 rfl ?_
    refine WL.ef rfl rfl qD (Ef.alloc tab_ok rfl rfl (fun b11 => ?_))
    refine WL.efN rfl rfl (Ef.store0 0 tab_ok rfl rfl rfl rfl rfl rfl rfl rfl ?_)
    refine WG.run tab_ok 1 rfl (WG.nil (WE.nxt (W.seq (W.seq (W.region _ (WG.run tab_ok 2 rfl (WG.nil (WE.nxt ?_))))))))
    refine W.condN rfl (fun hc3 => ?_) (fun hc3 => ?_)
    ·try dsimp only at hc3
     have hme : (midC (totalC ((ls.map CvS.cv).take k)) (blkN (k : Int) z)) = (totalC ((ls.map CvS.cv).take k)) := if_neg hc3
     have hd : prioC cap (k : Int) (ls.map CvS.cv) z = (zcv, (totalC ((ls.map CvS.cv).take k)).2) := by rw [hun, hme, if_pos hc3]
     refine W.seq (W.region _ ?_)
     -- build
     refine WG.y rfl rfl qD (Yl.build (parts := []) tab_ok rfl rfl rfl rfl (fun _ => rfl) rfl rfl) ?_
     refine WG.run tab_ok 1 rfl ?_
     refine WL.efN rfl rfl (Ef.store0 1 tab_ok rfl rfl rfl rfl rfl rfl rfl rfl ?_)
     refine WG.run tab_ok 1 rfl (WG.nil (WE.nxt (W.ret (WE.then_ret ?_))))
     refine WE.retF tab_ok [_, _] rfl ⟨⟨_, _, _, rfl, rfl, rfl, ((by first | exact Rd.blk 0 rfl | exact Rd.blk 1 rfl | exact Rd.blk 2 rfl | exact Rd.blk 3 rfl | exact Rd.blk 4 rfl | exact Rd.blk 5 rfl | exact Rd.blk 6 rfl)), rfl⟩, rfl, trivial⟩ ((by first | exact RLe.refl _ | assumption | exact hR1.trans hR2 | exact hR1.trans (hR2.trans (hR3.trans hR4)))) ?_
     exact ⟨none, 0, by rw [hd]; rfl, by rw [hd]; exact rs_nil, by rw [hd]; exact Nat.le_refl _, qS⟩
    ·try dsimp only at hc3
     have hme : (midC (totalC ((ls.map CvS.cv).take k)) (blkN (k : Int) z)) = (raiseC (totalC ((ls.map CvS.cv).take k)).1 (blkN (k : Int) z)) := if_pos (by first | exact hc3 | simpa using hc3)
     rw [hme] at hun hmr
     have htv : validB (totalC ((ls.map CvS.cv).take k)).1 = true := by
      rcases htr with h | ⟨c, h1, h2, _⟩
      ·rw [show (totalC ((ls.map CvS.cv).take k)) = (zcv, 3) from h] at hc3; exact absurd hc3 (by decide)
      ·rw [show (totalC ((ls.map CvS.cv).take k)) = (c, 0) from h1]; exact h2.valid
     refine W.skip (WE.nxt ?_)
     refine W.seqCut (β := Option Addr × Nat × Ro) (fun (fm, fmc, R2) => RLe R1 R2 ∧ RS R2 1 encI fm (raiseC (totalC ((ls.map CvS.cv).take k)).1 (blkN (k : Int) z)).1.vals ∧ (raiseC (totalC ((ls.map CvS.cv).take k)).1 (blkN (k : Int) z)).1.vals.length ≤ fmc) (fun (fm, fmc, R2) => [(0, true, .int .i64 cap), (8, true, .pointer (some ⟨b8, 0, none⟩)), (11, true, .pointer (some ⟨b11, 0, none⟩)), (12, true, .int .i64 (raiseC (totalC ((ls.map CvS.cv).take k)).1 (blkN (k : Int) z)).2)]) (fun (fm, fmc, R2) => R2) (fun (fm, fmc, R2) => .blk b11 [.slice fm (raiseC (totalC ((ls.map CvS.cv).take k)).1 (blkN (k : Int) z)).1.vals.length fmc, .int .i64 (raiseC (totalC ((ls.map CvS.cv).take k)).1 (blkN (k : Int) z)).1.per, .int .i64 (raiseC (totalC ((ls.map CvS.cv).take k)).1 (blkN (k : Int) z)).1.inc] :: .blk b8 [.slice none 0 0, .int .i64 0, .int .i64 0] :: E) ?_ ?_
     ·
      intro yy hst
      obtain ⟨fm, fmc, R2⟩ := yy
      obtain ⟨hR2, hfm, hcm⟩ := hst
      dsimp only at hR2 hfm hcm ⊢
      refine W.seq (W.seq (W.region _ (WG.run tab_ok 2 rfl (WG.nil (WE.nxt ?_)))))
      refine W.condN rfl (fun hc4 => ?_) (fun hc4 => ?_)
      ·try dsimp only at hc4
       have hd : prioC cap (k : Int) (ls.map CvS.cv) z = (zcv, (raiseC (totalC ((ls.map CvS.cv).take k)).1 (blkN (k : Int) z)).2) := by rw [hun, if_pos hc4]
       refine W.seq (W.region _ ?_)
       -- build
       refine WG.y rfl rfl qD (Yl.build (parts := []) tab_ok rfl rfl rfl rfl (fun _ => rfl) rfl rfl) ?_
       refine WG.run tab_ok 1 rfl ?_
       refine WL.efN rfl rfl (Ef.store0 1 tab_ok rfl rfl rfl rfl rfl rfl rfl rfl ?_)
       refine WG.run tab_ok 1 rfl (WG.nil (WE.nxt (W.ret (WE.then_ret ?_))))
       refine WE.retF tab_ok [_, _] rfl ⟨⟨_, _, _, rfl, rfl, rfl, ((by first | exact Rd.blk 0 rfl | exact Rd.blk 1 rfl | exact Rd.blk 2 rfl | exact Rd.blk 3 rfl | exact Rd.blk 4 rfl | exact Rd.blk 5 rfl | exact Rd.blk 6 rfl)), rfl⟩, rfl, trivial⟩ ((by first | exact RLe.refl _ | assumption | exact hR1.trans hR2 | exact hR1.trans (hR2.trans (hR3.trans hR4)))) ?_
       exact ⟨none, 0, by rw [hd]; rfl, by rw [hd]; exact rs_nil, by rw [hd]; exact Nat.le_refl _, qS⟩
      ·try dsimp only at hc4
       rw [if_neg (fun h => h hc4)] at hun
       have hmv : validB (raiseC (totalC ((ls.map CvS.cv).take k)).1 (blkN (k : Int) z)).1 = true := by
        rcases hmr with h | ⟨c, h1, h2⟩
        ·rw [h] at hc4; exact absurd hc4 (by decide)
        ·rw [h1]; exact h2.valid
       refine W.skip (WE.nxt (W.seq (W.region _ (WG.run tab_ok 1 rfl ?_))))
       refine WL.call en62 rfl rfl qD (CallOp.mkT rfl rfl rfl rfl) (ServeL_ok (cap := cap) qO w0 _) ?_
       rintro _ R3 _ hR3 ⟨fl, rfl, hfl1, hsub⟩
       refine WL.subE hsub ?_
       have hfm := hfm.mono hR3
       refine WG.run tab_ok 3 rfl ?_
       refine WL.ef rfl rfl qD (Ef.alloc tab_ok rfl rfl (fun b13 => ?_))
       refine WL.efN rfl rfl (Ef.store0 0 tab_ok rfl rfl rfl rfl rfl rfl rfl rfl ?_)
       refine WG.run tab_ok 1 rfl (WG.nil (WE.nxt (W.seq (W.region _ ?_))))
       refine' WG.y rfl rfl qD (Yl.load1 tab_ok rfl rfl rfl (fun _ => rfl) ?r1 rfl ?h1) ?_
       case r1 => (exact Rd.blk 0 rfl)
       case h1 => rfl
       refine' WG.y rfl rfl qD (Yl.load1 tab_ok rfl rfl rfl (fun _ => rfl) ?r2 rfl ?h2) ?_
       case r2 => (exact Rd.blk 1 rfl)
       case h2 => rfl
       refine WL.call en63 rfl rfl qD (CallOp.mkT rfl rfl rfl rfl) (RestR06_C (lc := 1) qO hfl1 (cg := (raiseC (totalC ((ls.map CvS.cv).take k)).1 (blkN (k : Int) z)).1) hmv hfm (Nat.le_refl _) hcm w0 _) ?_
       rintro _ R4 E4 hR4 ⟨fr, frc, rfl, hfr, hcr, hsub⟩
       refine WL.subE hsub ?_
       unfold cvV
       refine WG.run tab_ok 2 rfl ?_
       refine WL.efN rfl rfl (Ef.store0 2 tab_ok rfl rfl rfl rfl rfl rfl rfl rfl ?_)
       refine WG.run tab_ok 1 rfl (WG.nil (WE.nxt (W.ret ?_)))
       refine WE.retF tab_ok [_, _] rfl ⟨⟨_, _, _, rfl, rfl, rfl, ((by first | exact Rd.blk 0 rfl | exact Rd.blk 1 rfl | exact Rd.blk 2 rfl | exact Rd.blk 3 rfl | exact Rd.blk 4 rfl | exact Rd.blk 5 rfl | exact Rd.blk 6 rfl)), rfl⟩, rfl, trivial⟩ ((by first | exact RLe.refl _ | assumption | exact hR1.trans hR2 | exact hR1.trans (hR2.trans (hR3.trans hR4)))) ?_
       exact ⟨fr, frc, by rw [hun]; rfl, by rw [hun]; exact hfr, by rw [hun]; exact hcr, qS⟩
     ·
      refine W.regionH _ (ES := []) mixed ?_
      refine WA.take 1 rfl qK qK qK rfl rfl qD (pureV_ok tab_ok rfl (fun _ => rfl)) qS qR ?_
      refine WA.take 2 rfl qK qK qK rfl rfl qD (pureV_ok tab_ok rfl (fun _ => rfl)) qS qR ?_
      refine WA.br2 (i := 0) (j := 3) qK ?_ ?_
      ·
       refine' WS.yl rfl rfl rfl qD (Yl.load1 tab_ok rfl rfl rfl (fun _ => rfl) ?r3 rfl ?h3) qS qR ?_
       case r3 => (exact Rd.blk 0 rfl)
       case h3 => rfl
       refine WA.callG 3 rfl qK en61 rfl (by first | rfl | decide) rfl qD (CallOp.mkT rfl rfl rfl rfl) (FnV.toFn (Block18_V (k := k) hzr1 qO hz)) ?_
       rintro _ _ _ - ⟨rfl, rfl, rfl⟩
       refine ⟨by first | exact RLe.refl _ | assumption, qS, ?_⟩
       refine WA.callG 4 rfl qK en60 rfl (by first | rfl | decide) rfl qD (CallOp.mkT rfl rfl rfl rfl) (RaiseG05_C (c := (totalC ((ls.map CvS.cv).take k)).1) (k := blkN (k : Int) z) htv hft hct (by unfold MAXV; omega) w0 _) ?_
       rintro _ R2 _ hR2 ⟨fm, fmc, rfl, hfm, hcm, hsub⟩
       refine ⟨hR2, List.nil_sublist _, ?_⟩
       refine WA.subE hsub ?_
       unfold cvV
       refine WA.take 5 rfl qK qK qK rfl rfl qD (pureV_ok tab_ok rfl (fun _ => rfl)) qS qR ?_
       refine WA.take 6 rfl qK qK qK rfl rfl qD (pureV_ok tab_ok rfl (fun _ => rfl)) qS qR ?_
       refine WA.take 7 rfl qK qK qK rfl rfl qD (pureV_ok tab_ok rfl (fun _ => rfl)) qS qR ?_
       refine WA.effN 8 rfl qK rfl rfl (Ef.store0 0 tab_ok rfl rfl rfl rfl rfl rfl rfl rfl ?_)
       refine ⟨by first | exact RLe.refl _ | assumption, qS, ?_⟩
       refine WA.take 9 rfl qK qK qK rfl rfl qD (pureV_ok tab_ok rfl (fun _ => rfl)) qS qR ?_
       refine WA.done qK ?_
       refine WE.cut (fm, fmc, R2) ⟨hR2, hfm, hcm⟩ ⟨rfl, rfl, rfl, rfl, rfl⟩ (RLe.refl _) qS
      ·
       refine WS.callG rfl en61 rfl (by first | rfl | decide) rfl qD (CallOp.mkT rfl rfl rfl rfl) (FnV.toFn (Block18_V (k := k) hzr1 qO hz)) ?_
       rintro _ _ _ - ⟨rfl, rfl, rfl⟩
       refine ⟨by first | exact RLe.refl _ | assumption, qS, ?_⟩
       refine' WA.yl 0 rfl qK rfl rfl qD (Yl.load1 tab_ok rfl rfl rfl (fun _ => rfl) ?r4 rfl ?h4) qS qR ?_
       case r4 => (exact Rd.blk 0 rfl)
       case h4 => rfl
       refine WA.callG 4 rfl qK en60 rfl (by first | rfl | decide) rfl qD (CallOp.mkT rfl rfl rfl rfl) (RaiseG05_C (c := (totalC ((ls.map CvS.cv).take k)).1) (k := blkN (k : Int) z) htv hft hct (by unfold MAXV; omega) w0 _) ?_
       rintro _ R2 _ hR2 ⟨fm, fmc, rfl, hfm, hcm, hsub⟩
       refine ⟨hR2, List.nil_sublist _, ?_⟩
       refine WA.subE hsub ?_
       unfold cvV
       refine WA.take 5 rfl qK qK qK rfl rfl qD (pureV_ok tab_ok rfl (fun _ => rfl)) qS qR ?_
       refine WA.take 6 rfl qK qK qK rfl rfl qD (pureV_ok tab_ok rfl (fun _ => rfl)) qS qR ?_
       refine WA.take 7 rfl qK qK qK rfl rfl qD (pureV_ok tab_ok rfl (fun _ => rfl)) qS qR ?_
       refine WA.effN 8 rfl qK rfl rfl (Ef.store0 0 tab_ok rfl rfl rfl rfl rfl rfl rfl rfl ?_)
       refine ⟨by first | exact RLe.refl _ | assumption, qS, ?_⟩
       refine WA.take 9 rfl qK qK qK rfl rfl qD (pureV_ok tab_ok rfl (fun _ => rfl)) qS qR ?_
       refine WA.done qK ?_
       refine WE.cut (fm, fmc, R2) ⟨hR2, hfm, hcm⟩ ⟨rfl, rfl, rfl, rfl, rfl⟩ (RLe.refl _) qS

end Go.Proofs.Ytnackbfnmhkodaa

/- Sizes of which one is changed, with their room. No condition. -/
set_option maxRecDepth 4000
set_option linter.unusedSimpArgs false
set_option linter.unusedVariables false
namespace Go.Proofs.Ytnackbfnmhkodaa
open Go Go.RowKit Go.Proofs.Ytnackbfnmhkodaa.K Go.Proofs.Ytnackbfnmhkodaa.M

theorem TwistedK_C {R : Ro} {b : Nat} {a : Option Addr} {cp : Nat} {xs : List Int} {c : Nat} {za : Option Addr} {zc zl : Nat} {z : List Sz} (w0 : World) (ha : RS R 1 encI a xs) (hzr : RS R 2 encZ za z) (hzl : z.length = zl) (hl : zl ≤ 1000) (hb : ∀ s ∈ z, -1000000 ≤ s.most ∧ s.most ≤ 1000000) : FnAt Try.prog 22 [.pointer (some ⟨b, 0, none⟩), .slice za zl zc] w0 R (srcE b a cp xs c)
  (fun v R' e' N => ∃ (a' : Option Addr) (c' cn : Nat) (qs : List Sz), v = .slice a' qs.length c' ∧ RS R' 2 encZ a' qs ∧ qs.length ≤ c' ∧ e' = srcE b a cp xs cn ∧ N = []) := by
 intro F
 subst hzl
 refine Fn.enter (n := 65) Try.func22 rfl rfl (Nat.le_of_ble_eq_true rfl) rfl ?_
 refine W.seq (W.region _ (WG.run tab_ok 1 rfl (WG.nil (WE.nxt (W.seq (W.region _ ?_))))))
 refine WL.ef rfl rfl qD (Ef.buildSliceD (enc := encZ) (parts := []) [] tab_ok rfl rfl rfl rfl rfl rfl rfl rfl qD qD (fun a7 => ?_))
 refine WG.run tab_ok 1 rfl ?_
 refine WL.ef rfl rfl qD (Ef.cloneL (enc := encZ) 0 tab_ok rfl rfl rfl rfl rfl rfl rfl rfl rfl rfl hzr (fun _ _ => rfl) (by dsimp only; omega) qO (fun a9 c9 ha9 => ?_))
 refine WG.run tab_ok 1 rfl (WG.nil (WE.nxt (W.seq ?_)))
 refine W.cap 0 rfl ?_
 intro hcap0
 rw [List.length_map] at hcap0
 refine W.seq (W.region _ (WG.run tab_ok 3 rfl (WG.nil (WE.nxt ?_))))
 refine W.condE rfl (fun hc0 => ?_) (fun hc0 => ?_)
 ·try dsimp only at hc0
  refine W.freeze (enc := encZ) (xs := z) 0 rfl ?_
  intro R1 hR1 hqs
  refine W.seq (W.region _ (WG.run tab_ok 2 rfl (WG.nil (WE.nxt (W.ret (WE.then_ret ?_))))))
  refine WE.subE (E' := srcE b a cp xs (c) :: F) qS ?_
  refine WE.retF tab_ok [_] rfl ⟨rfl, trivial⟩ (hR1) ?_
  exact ⟨_, [], rfl, _, _, _, _, rfl, hqs, hcap0, rfl, rfl⟩
 ·try dsimp only at hc0
  have hm1 := mod_range (nth xs c) (show (1 : Int) ≤ z.length by omega)
  have hm2 := mod_range (nth xs (c + 1)) (show (1 : Int) ≤ 4 by decide)
  have hzi := hb _ (nth_mem (xs := z) (k := (mod (nth xs c) z.length).toNat) (by omega))
  refine W.skip (WE.nxt (W.seq (W.region _ (WG.run tab_ok 3 rfl ?_))))
  refine WL.callAt 1 en12 rfl rfl qD (CallOp.mkT rfl rfl rfl rfl) rfl (N_C w0 ha (by constructor <;> omega) _) ?_
  rintro _ _ _ _ - ⟨rfl, rfl, rfl, rfl⟩
  refine WG.run tab_ok 1 rfl (WG.nil (WE.nxt (W.seq (W.seq (W.region _ (WG.run tab_ok 1 rfl ?_))))))
  refine WL.callAt 1 en12 rfl rfl qD (CallOp.mkT rfl rfl rfl rfl) rfl (N_C w0 ha (by constructor <;> omega) _) ?_
  rintro _ _ _ _ - ⟨rfl, rfl, rfl, rfl⟩
  refine WG.nil (WE.nxt (W.block (W.seq (W.region _ (WG.run tab_ok 2 rfl (WG.nil (WE.nxt ?_)))))))
  refine W.condE rfl (fun hc1 => ?_) (fun hc1 => ?_)
  ·try dsimp only at hc1
   refine W.regionH _ (ES := []) mixed ?_
   refine WA.take 0 rfl qK qK qK rfl rfl qD (pureV_ok tab_ok rfl (fun _ => rfl)) qS qR ?_
   refine WA.take 1 rfl qK qK qK rfl rfl qD (pureV_ok tab_ok rfl (fun _ => rfl)) qS qR ?_
   refine WA.take 2 rfl qK qK qK rfl rfl qD (pureV_ok tab_ok rfl (fun _ => rfl)) qS qR ?_
   refine WA.take 3 rfl qK qK qK rfl rfl qD (pureV_ok tab_ok rfl (fun _ => rfl)) qS qR ?_
   refine WA.take 4 rfl qK qK qK rfl rfl qD (pureV_ok tab_ok rfl (fun _ => rfl)) qS qR ?_
   refine WA.take 5 rfl qK qK qK rfl rfl qD (Yl.index tab_ok rfl rfl rfl rfl rfl rfl (fun _ => rfl) qA (by intro _; first | exact fun _ _ _ h => ha9 h | exact fun _ _ _ _ => rfl | exact RS.has qU | exact fun _ _ _ _ => qU | exact HasMem.ownD 0 rfl | exact HasMem.ownD 1 rfl | exact HasMem.ownD 2 rfl | exact HasMem.ownD 3 rfl | exact HasMem.ownD 4 rfl)) qS qR ?_
   refine WA.take 6 rfl qK qK qK rfl rfl qD (pureV_ok tab_ok rfl (fun _ => rfl)) qS qR ?_
   refine WA.take 8 rfl qK qK qK rfl rfl qD (pureV_ok tab_ok rfl (fun _ => rfl)) qS qR ?_
   refine WA.take 9 rfl qK qK qK rfl rfl qD (pureV_ok tab_ok rfl (fun _ => rfl)) qS qR ?_
   refine WA.take 10 rfl qK qK qK rfl rfl qD (Yl.index tab_ok rfl rfl rfl rfl rfl rfl (fun _ => rfl) qA (by intro _; first | exact fun _ _ _ h => ha9 h | exact fun _ _ _ _ => rfl | exact RS.has qU | exact fun _ _ _ _ => qU | exact HasMem.ownD 0 rfl | exact HasMem.ownD 1 rfl | exact HasMem.ownD 2 rfl | exact HasMem.ownD 3 rfl | exact HasMem.ownD 4 rfl)) qS qR ?_
   refine WA.take 11 rfl qK qK qK rfl rfl qD (pureV_ok tab_ok rfl (fun _ => rfl)) qS qR ?_
   refine WA.br2 (i := 7) (j := 12) qK ?_ ?_
   ·
    refine' WS.yl rfl rfl rfl qD (Yl.load1 tab_ok rfl rfl rfl (fun _ => rfl) ?r1 rfl ?h1) qS qR ?_
    case r1 => apply Rd.add; exact Rd.slD 0 rfl qO
    case h1 => rfl
    refine' WA.yl 12 rfl qK rfl rfl qD (Yl.load1 tab_ok rfl rfl rfl (fun _ => rfl) ?r2 rfl ?h2) qS qR ?_
    case r2 => apply Rd.add; exact Rd.slD 0 rfl qO
    case h2 => rfl
    refine WA.take 13 rfl qK qK qK rfl rfl qD (Yl.add rfl rfl rfl (fun _ => rfl) qA) qS qR ?_
    refine WA.eff 14 rfl qK rfl rfl qD (Ef.buildSliceD (enc := encI) (parts := [.const (.int .i64 (-1)), .const (.int .i64 0), .tmp 39, .tmp 45]) [_, _, _, _] tab_ok rfl rfl rfl rfl rfl rfl rfl rfl qD qD (fun a46 => ?_))
    refine ⟨by first | exact RLe.refl _ | assumption, qS, ?_⟩
    refine WA.callAt 2 15 rfl qK en13 rfl rfl qD (CallOp.mkT rfl rfl rfl rfl) rfl (PickM_C (j := 0) w0 [-1, 0, (nth z (mod (nth xs c) z.length).toNat).most, (nth z (mod (nth xs c) z.length).toNat).most + 1] rfl qD qD ha rfl) ?_
    rintro _ _ _ _ - ⟨rfl, rfl, rfl, rfl⟩
    refine ⟨RLe.refl _, qS, ?_⟩
    refine WA.take 16 rfl qK qK qK rfl rfl qD (Yl.index tab_ok rfl rfl rfl rfl rfl rfl (fun _ => rfl) qA (by intro _; first | exact fun _ _ _ h => ha9 h | exact fun _ _ _ _ => rfl | exact RS.has qU | exact fun _ _ _ _ => qU | exact HasMem.ownD 0 rfl | exact HasMem.ownD 1 rfl | exact HasMem.ownD 2 rfl | exact HasMem.ownD 3 rfl | exact HasMem.ownD 4 rfl)) qS qR ?_
    refine WA.take 17 rfl qK qK qK rfl rfl qD (pureV_ok tab_ok rfl (fun _ => rfl)) qS qR ?_
    refine WA.effN 18 rfl qK rfl rfl (Ef.storeF (enc := encZ) (xs := z) (⟨(nth ([-1, 0, (nth z (mod (nth xs c) z.length).toNat).most, (nth z (mod (nth xs c) z.length).toNat).most + 1] : List Int) (mod (nth xs (c + 1 + 1)) ((4 : Nat) : Int)).toNat), (nth z (mod (nth xs c) z.length).toNat).most⟩ : Sz) 1 tab_ok rfl rfl rfl rfl rfl qO rfl rfl qD rfl ?_)
    refine ⟨by first | exact RLe.refl _ | assumption, qS, ?_⟩
    refine WA.done qK ?_
    refine WE.freeze (enc := encZ) (xs := z.set (mod (nth xs c) z.length).toNat (⟨(nth ([-1, 0, (nth z (mod (nth xs c) z.length).toNat).most, (nth z (mod (nth xs c) z.length).toNat).most + 1] : List Int) (mod (nth xs (c + 1 + 1)) ((4 : Nat) : Int)).toNat), (nth z (mod (nth xs c) z.length).toNat).most⟩ : Sz)) 1 rfl ?_
    intro R1 hR1 hqs
    refine WE.blk _ (WE.nxt (W.seq (W.region _ (WG.run tab_ok 2 rfl (WG.nil (WE.nxt (W.ret ?_)))))))
    refine WE.subE (E' := srcE b a cp xs (c + 1 + 1 + 1) :: F) qS ?_
    refine WE.retF tab_ok [_] rfl ⟨rfl, trivial⟩ (hR1) ?_
    refine ⟨_, [], rfl, a9, c9, _, _, ?_, hqs, by rw [List.length_set]; exact hcap0, rfl, rfl⟩
    rw [List.length_set]; rfl
   ·
    refine' WS.yl rfl rfl rfl qD (Yl.load1 tab_ok rfl rfl rfl (fun _ => rfl) ?r3 rfl ?h3) qS qR ?_
    case r3 => apply Rd.add; exact Rd.slD 0 rfl qO
    case h3 => rfl
    refine WA.take 13 rfl qK qK qK rfl rfl qD (Yl.add rfl rfl rfl (fun _ => rfl) qA) qS qR ?_
    refine' WA.yl 7 rfl qK rfl rfl qD (Yl.load1 tab_ok rfl rfl rfl (fun _ => rfl) ?r4 rfl ?h4) qS qR ?_
    case r4 => apply Rd.add; exact Rd.slD 0 rfl qO
    case h4 => rfl
    refine WA.eff 14 rfl qK rfl rfl qD (Ef.buildSliceD (enc := encI) (parts := [.const (.int .i64 (-1)), .const (.int .i64 0), .tmp 39, .tmp 45]) [_, _, _, _] tab_ok rfl rfl rfl rfl rfl rfl rfl rfl qD qD (fun a46 => ?_))
    refine ⟨by first | exact RLe.refl _ | assumption, qS, ?_⟩
    refine WA.callAt 2 15 rfl qK en13 rfl rfl qD (CallOp.mkT rfl rfl rfl rfl) rfl (PickM_C (j := 0) w0 [-1, 0, (nth z (mod (nth xs c) z.length).toNat).most, (nth z (mod (nth xs c) z.length).toNat).most + 1] rfl qD qD ha rfl) ?_
    rintro _ _ _ _ - ⟨rfl, rfl, rfl, rfl⟩
    refine ⟨RLe.refl _, qS, ?_⟩
    refine WA.take 16 rfl qK qK qK rfl rfl qD (Yl.index tab_ok rfl rfl rfl rfl rfl rfl (fun _ => rfl) qA (by intro _; first | exact fun _ _ _ h => ha9 h | exact fun _ _ _ _ => rfl | exact RS.has qU | exact fun _ _ _ _ => qU | exact HasMem.ownD 0 rfl | exact HasMem.ownD 1 rfl | exact HasMem.ownD 2 rfl | exact HasMem.ownD 3 rfl | exact HasMem.ownD 4 rfl)) qS qR ?_
    refine WA.take 17 rfl qK qK qK rfl rfl qD (pureV_ok tab_ok rfl (fun _ => rfl)) qS qR ?_
    refine WA.effN 18 rfl qK rfl rfl (Ef.storeF (enc := encZ) (xs := z) (⟨(nth ([-1, 0, (nth z (mod (nth xs c) z.length).toNat).most, (nth z (mod (nth xs c) z.length).toNat).most + 1] : List Int) (mod (nth xs (c + 1 + 1)) ((4 : Nat) : Int)).toNat), (nth z (mod (nth xs c) z.length).toNat).most⟩ : Sz) 1 tab_ok rfl rfl rfl rfl rfl qO rfl rfl qD rfl ?_)
    refine ⟨by first | exact RLe.refl _ | assumption, qS, ?_⟩
    refine WA.done qK ?_
    refine WE.freeze (enc := encZ) (xs := z.set (mod (nth xs c) z.length).toNat (⟨(nth ([-1, 0, (nth z (mod (nth xs c) z.length).toNat).most, (nth z (mod (nth xs c) z.length).toNat).most + 1] : List Int) (mod (nth xs (c + 1 + 1)) ((4 : Nat) : Int)).toNat), (nth z (mod (nth xs c) z.length).toNat).most⟩ : Sz)) 1 rfl ?_
    intro R1 hR1 hqs
    refine WE.blk _ (WE.nxt (W.seq (W.region _ (WG.run tab_ok 2 rfl (WG.nil (WE.nxt (W.ret ?_)))))))
    refine WE.subE (E' := srcE b a cp xs (c + 1 + 1 + 1) :: F) qS ?_
    refine WE.retF tab_ok [_] rfl ⟨rfl, trivial⟩ (hR1) ?_
    refine ⟨_, [], rfl, a9, c9, _, _, ?_, hqs, by rw [List.length_set]; exact hcap0, rfl, rfl⟩
    rw [List.length_set]; rfl
  ·try dsimp only at hc1
   refine W.seq (W.region _ (WG.run tab_ok 2 rfl (WG.nil (WE.nxt ?_))))
   refine W.condE rfl (fun hc2 => ?_) (fun hc2 => ?_)
   ·try dsimp only at hc2
    refine W.region _ (WG.run tab_ok 3 rfl ?_)
    refine WL.ef rfl rfl qD (Ef.buildSliceD (enc := encI) (parts := [.const (.int .i64 1500), .const (.int .i64 1501), .const (.int .i64 0), .const (.int .i64 (-1))]) [_, _, _, _] tab_ok rfl rfl rfl rfl rfl rfl rfl rfl qD qD (fun a55 => ?_))
    refine WL.callAt 2 en13 rfl rfl qD (CallOp.mkT rfl rfl rfl rfl) rfl (PickM_C (j := 0) w0 [1500, 1501, 0, -1] rfl qD qD ha rfl) ?_
    rintro _ _ _ _ - ⟨rfl, rfl, rfl, rfl⟩
    refine WG.y rfl rfl qD (Yl.index tab_ok rfl rfl rfl rfl rfl rfl (fun _ => rfl) qA (by intro _; first | exact fun _ _ _ h => ha9 h | exact fun _ _ _ _ => rfl | exact RS.has qU | exact fun _ _ _ _ => qU | exact HasMem.ownD 0 rfl | exact HasMem.ownD 1 rfl | exact HasMem.ownD 2 rfl | exact HasMem.ownD 3 rfl | exact HasMem.ownD 4 rfl)) ?_
    refine WG.run tab_ok 1 rfl ?_
    refine WL.efN rfl rfl (Ef.storeF (enc := encZ) (xs := z) (⟨(nth z (mod (nth xs c) z.length).toNat).least, (nth ([1500, 1501, 0, -1] : List Int) (mod (nth xs (c + 1 + 1)) ((4 : Nat) : Int)).toNat)⟩ : Sz) 1 tab_ok rfl rfl rfl rfl rfl qO rfl rfl qD rfl ?_)
    refine WL.freeze (enc := encZ) (xs := z.set (mod (nth xs c) z.length).toNat (⟨(nth z (mod (nth xs c) z.length).toNat).least, (nth ([1500, 1501, 0, -1] : List Int) (mod (nth xs (c + 1 + 1)) ((4 : Nat) : Int)).toNat)⟩ : Sz)) 1 rfl ?_
    intro R1 hR1 hqs
    refine WG.nil (WE.blk _ (WE.nxt (W.seq (W.region _ (WG.run tab_ok 2 rfl (WG.nil (WE.nxt (W.ret ?_))))))))
    refine WE.subE (E' := srcE b a cp xs (c + 1 + 1 + 1) :: F) qS ?_
    refine WE.retF tab_ok [_] rfl ⟨rfl, trivial⟩ (hR1) ?_
    refine ⟨_, [], rfl, a9, c9, _, _, ?_, hqs, by rw [List.length_set]; exact hcap0, rfl, rfl⟩
    rw [List.length_set]; rfl
   ·try dsimp only at hc2
    refine W.seq (W.region _ (WG.run tab_ok 2 rfl (WG.nil (WE.nxt ?_))))
    refine W.condE rfl (fun hc3 => ?_) (fun hc3 => ?_)
    ·try dsimp only at hc3
     refine W.region _ (WG.run tab_ok 2 rfl ?_)
     refine WL.cap 0 rfl ?_
     intro hcap
     rw [List.length_map] at hcap
     refine WG.y rfl rfl qD (Yl.sliceH tab_ok rfl rfl rfl rfl rfl (fun _ => rfl) (by intro _; omega) rfl) ?_
     refine WL.freeze (enc := encZ) (xs := z) 0 rfl ?_
     intro R1 hR1 hqs
     refine WG.run tab_ok 1 rfl (WG.nil (WE.blk _ (WE.nxt (W.seq (W.region _ (WG.run tab_ok 2 rfl (WG.nil (WE.nxt (W.ret ?_)))))))))
     refine WE.subE (E' := srcE b a cp xs (c + 1 + 1) :: F) qS ?_
     refine WE.retF tab_ok [_] rfl ⟨rfl, trivial⟩ (hR1) ?_
     refine ⟨_, [], rfl, a9, c9, _, z.take (mod (nth xs c) z.length).toNat, ?_, hqs.take _, by rw [List.length_take]; omega, rfl, rfl⟩
     rw [List.length_take, Nat.min_eq_left (by omega)]; rfl
    ·try dsimp only at hc3
     refine W.block ?_
     refine W.loop (β := List Sz × Option Addr × Nat × Nat) (fun (qs, aq, cq, cn) => qs.length ≤ 2000) (fun (qs, aq, cq, cn) => [(0, true, .pointer (some ⟨b, 0, none⟩)), (5, true, .slice aq qs.length cq)]) (fun _ => R) (fun (qs, aq, cq, cn) => .sl 88 2 aq cq (qs.map encZ) :: srcE b a cp xs cn :: F) (fun (qs, aq, cq, cn) => 2000 - qs.length) ((z, a9, c9, c + 1 + 1)) ((by dsimp only; omega)) ⟨rfl, rfl, rfl⟩ (RLe.refl _) qS ?_
     intro st hst
     obtain ⟨qs, aq, cq, cn⟩ := st
     dsimp only at hst ⊢
     have hm3 := mod_range (nth xs cn) (show (1 : Int) ≤ 2 by decide)
     refine W.seq (W.seq (W.region _ (WG.run tab_ok 3 rfl ?_)))
     refine WL.callAt 1 en12 rfl rfl qD (CallOp.mkT rfl rfl rfl rfl) rfl (N_C w0 ha (by constructor <;> omega) _) ?_
     rintro _ _ _ _ - ⟨rfl, rfl, rfl, rfl⟩
     refine WG.y rfl rfl qD (Yl.add rfl rfl rfl (fun _ => rfl) qA) ?_
     refine WG.run tab_ok 1 rfl (WG.nil (WE.nxt ?_))
     refine W.condD rfl (fun hc4 => ?_) (fun hc4 => ?_)
     ·try dsimp only at hc4
      refine W.skip (WE.nxt (W.block (W.region _ (WG.run tab_ok 1 rfl ?_))))
      -- build
      refine WG.y rfl rfl qD (Yl.build (parts := [(0, .const (.int .i64 1)), (1, .const (.int .i64 9))]) tab_ok rfl rfl rfl rfl (fun _ => rfl) rfl rfl) ?_
      refine WL.ef rfl rfl qD (Ef.buildSliceD (enc := encZ) (parts := [.tmp 27]) [⟨_, _⟩] tab_ok rfl rfl rfl rfl rfl rfl rfl rfl qD qD (fun a28 => ?_))
      refine WL.ef rfl rfl (by decide) (Ef.appendD 1 0 tab_ok rfl rfl rfl rfl rfl rfl rfl rfl rfl rfl rfl (fun _ _ => rfl) (by simp only [List.length_cons, List.length_nil]; omega) (by simp only [List.length_cons, List.length_nil]; omega) (fun a29 c29 ha29 => ?_))
      refine WG.run tab_ok 1 rfl (WG.nil (WE.blk _ ?_))
      refine WE.again ((qs ++ [(⟨1, 9⟩ : Sz)], a29, c29, cn + 1)) ((by dsimp only; simp only [List.length_append, List.length_cons, List.length_nil]; omega)) (by simp only [List.length_append, List.length_cons, List.length_nil]; omega) ⟨rfl, rfl, rfl⟩ (RLe.refl _) qS
     ·try dsimp only at hc4
      refine W.cap 0 rfl ?_
      intro hcap0
      rw [List.length_map] at hcap0
      refine W.freeze (enc := encZ) (xs := qs) 0 rfl ?_
      intro R1 hR1 hqs
      refine W.exit ?_
      refine WE.then_exit (WE.then_exit (WE.blk_exit (WE.blk _ (WE.nxt (W.seq (W.region _ (WG.run tab_ok 2 rfl (WG.nil (WE.nxt (W.ret ?_))))))))))
      refine WE.subE (E' := srcE b a cp xs (cn + 1) :: F) qS ?_
      refine WE.retF tab_ok [_] rfl ⟨rfl, trivial⟩ (hR1) ?_
      exact ⟨_, [], rfl, _, _, _, _, rfl, hqs, hcap0, rfl, rfl⟩

end Go.Proofs.Ytnackbfnmhkodaa
