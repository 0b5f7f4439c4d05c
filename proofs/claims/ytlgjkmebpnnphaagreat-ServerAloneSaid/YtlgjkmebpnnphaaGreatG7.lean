/- ServerAlone: for every list of numbers the law returns true, and the list reads afterwards as it read before. No condition. -/
import Derived.Test.YtlgjkmebpnnphaaGreatG6
/- Chapter 22: the lines that are drawn. No condition. -/
set_option maxRecDepth 4000
set_option linter.unusedSimpArgs false
set_option linter.unusedVariables false
namespace Go.Proofs.YtlgjkmebpnnphaaGreat
open Go Go.RowKit Go.Proofs.YtlgjkmebpnnphaaGreat.K Go.Proofs.YtlgjkmebpnnphaaGreat.M

set_option maxHeartbeats 1000000 in
theorem Draw_C {R : Ro} {b : Nat} {a : Option Addr} {cp : Nat} {xs : List Int} {c : Nat} (w0 : World) (ha : RS R 1 encI a xs) : FnAt Tryz.prog 14 [.pointer (some ⟨b, 0, none⟩)] w0 R (srcE b a cp xs c)
    (fun v R' e' N => ∃ (L : Ln) (aw at_ : Option Addr) (cw ct cn : Nat), v = .agg #[.int .i64 L.kind, .int .i64 L.cap, .int .i64 L.n, .slice aw L.w.length cw, .slice at_ L.tb.length ct] ∧ RS R' 1 encI aw L.w ∧ RS R' 1 encI at_ L.tb ∧ DrawOk L ∧ e' = srcE b a cp xs cn ∧ N = []) := by
  intro F
  refine Fn.enter (n := 59) Tryz.func14 rfl rfl (Nat.le_of_ble_eq_true rfl) rfl ?_
  refine W.seq ?_
  refine W.region _ ?_
  refine WL.ef rfl rfl (by decide) (Ef.alloc tab_ok rfl rfl (fun b2 => ?_))
  refine WG.nil ?_
  refine WE.nxt ?_
  refine W.seq ?_
  refine W.region _ ?_
  refine WG.run tab_ok 1 rfl ?_
  refine WL.callAt 1 en20 rfl rfl (by decide) (CallOp.mkT rfl rfl rfl rfl) rfl (N_C w0 ha (by constructor <;> decide) _) ?_
  rintro _ _ _ _ - ⟨rfl, rfl, rfl, rfl⟩
  have hm0 := mod_range (nth xs (c)) (show (1 : Int) ≤ 5 by decide)
  refine WG.y rfl rfl (by decide) (Yl.add rfl rfl rfl (fun _ => rfl) (by intro _; constructor <;> (try dsimp only) <;> omega)) ?_
  refine WG.run tab_ok 1 rfl ?_
  refine WL.callAt 1 en20 rfl rfl (by decide) (CallOp.mkT rfl rfl rfl rfl) rfl (N_C w0 ha (by constructor <;> decide) _) ?_
  rintro _ _ _ _ - ⟨rfl, rfl, rfl, rfl⟩
  have hm1 := mod_range (nth xs (c + 1)) (show (1 : Int) ≤ 40 by decide)
  refine WG.y rfl rfl (by decide) (Yl.add rfl rfl rfl (fun _ => rfl) (by intro _; constructor <;> (try dsimp only) <;> omega)) ?_
  -- build
  refine WG.y rfl rfl (by decide) (Yl.build (parts := [(0, .tmp 7), (1, .tmp 10), (2, .const (.int .i64 3))]) tab_ok rfl rfl rfl rfl (fun _ => rfl) rfl rfl) ?_
  refine WL.ef rfl rfl (by decide) (Ef.alloc tab_ok rfl rfl (fun b3 => ?_))
  refine WL.efN rfl rfl (Ef.store0 0 tab_ok rfl rfl rfl rfl rfl rfl rfl rfl ?_)
  refine WG.nil ?_
  refine WE.nxt ?_
  refine W.seq ?_
  refine W.seq ?_
  refine W.region _ ?_
  refine WG.run tab_ok 1 rfl ?_
  refine' WG.y rfl rfl (by decide) (Yl.load1 tab_ok rfl rfl rfl (fun _ => rfl) ?r1 rfl ?h1) ?_
  case r1 => apply Rd.add; (exact Rd.blk 0 rfl)
  case h1 => rfl
  refine WG.nil ?_
  refine WE.nxt ?_
  refine W.block ?_
  refine W.seq ?_
  refine W.region _ ?_
  refine WG.run tab_ok 2 rfl ?_
  refine WG.nil ?_
  refine WE.nxt ?_
  refine W.condE rfl (fun hc0 => ?_) (fun hc0 => ?_)
  · try dsimp only at hc0
    refine W.region _ ?_
    refine WG.run tab_ok 1 rfl ?_
    refine WL.callAt 2 en20 rfl rfl (by decide) (CallOp.mkT rfl rfl rfl rfl) rfl (N_C w0 ha (by constructor <;> decide) _) ?_
    rintro _ _ _ _ - ⟨rfl, rfl, rfl, rfl⟩
    have hm2 := mod_range (nth xs (c + 1 + 1)) (show (1 : Int) ≤ 3 by decide)
    refine WG.y rfl rfl (by decide) (Yl.add rfl rfl rfl (fun _ => rfl) (by intro _; constructor <;> (try dsimp only) <;> omega)) ?_
    refine WG.run tab_ok 1 rfl ?_
    refine WL.callAt 2 en20 rfl rfl (by decide) (CallOp.mkT rfl rfl rfl rfl) rfl (N_C w0 ha (by constructor <;> decide) _) ?_
    rintro _ _ _ _ - ⟨rfl, rfl, rfl, rfl⟩
    have hm3 := mod_range (nth xs (c + 1 + 1 + 1)) (show (1 : Int) ≤ 3 by decide)
    refine WG.y rfl rfl (by decide) (Yl.add rfl rfl rfl (fun _ => rfl) (by intro _; constructor <;> (try dsimp only) <;> omega)) ?_
    refine WG.run tab_ok 1 rfl ?_
    refine WL.callAt 2 en20 rfl rfl (by decide) (CallOp.mkT rfl rfl rfl rfl) rfl (N_C w0 ha (by constructor <;> decide) _) ?_
    rintro _ _ _ _ - ⟨rfl, rfl, rfl, rfl⟩
    have hm4 := mod_range (nth xs (c + 1 + 1 + 1 + 1)) (show (1 : Int) ≤ 3 by decide)
    refine WG.y rfl rfl (by decide) (Yl.add rfl rfl rfl (fun _ => rfl) (by intro _; constructor <;> (try dsimp only) <;> omega)) ?_
    refine WL.ef rfl rfl (by decide) (Ef.buildSliceD (enc := encI) (parts := [.tmp 18, .tmp 21, .tmp 24]) [_, _, _] tab_ok rfl rfl rfl rfl rfl rfl rfl rfl (by decide) (by decide) (fun a25 => ?_))
    refine WG.run tab_ok 1 rfl ?_
    refine WL.efN rfl rfl (Ef.store 1 tab_ok rfl rfl rfl rfl rfl rfl rfl rfl ?_)
    refine WL.freeze (enc := encI) (xs := ([1 + mod (nth xs (c + 1 + 1)) 3, 1 + mod (nth xs (c + 1 + 1 + 1)) 3, 1 + mod (nth xs (c + 1 + 1 + 1 + 1)) 3] : List Int)) 0 rfl ?_
    intro R1 hR1 hwz
    refine WG.nil ?_
    refine WE.blk _ ?_
    refine WE.nxt ?_
    refine W.seq ?_
    refine W.region _ ?_
    refine' WG.y rfl rfl (by decide) (Yl.load1 tab_ok rfl rfl rfl (fun _ => rfl) ?r2 rfl ?h2) ?_
    case r2 => (exact Rd.blk 0 rfl)
    case h2 => rfl
    refine WL.efN rfl rfl (Ef.store0 1 tab_ok rfl rfl rfl rfl rfl rfl rfl rfl ?_)
    refine WG.nil ?_
    refine WE.nxt ?_
    refine W.ret ?_
    refine WE.retFS (E' := srcE b a cp xs (c + 1 + 1 + 1 + 1 + 1) :: F) qS tab_ok [_] rfl ⟨⟨_, _, _, rfl, rfl, rfl, ((by first | exact Rd.blk 0 rfl | exact Rd.blk 1 rfl | exact Rd.blk 2 rfl | exact Rd.blk 3 rfl | exact Rd.blk 4 rfl | exact Rd.blk 5 rfl)), rfl⟩, trivial⟩ (by first | exact hR1 | exact RLe.refl _) ?_
    exact ⟨_, [], rfl, ⟨(1 + mod (nth xs c) 5), (3 + mod (nth xs (c + 1)) 40), 3, ([1 + mod (nth xs (c + 1 + 1)) 3, 1 + mod (nth xs (c + 1 + 1 + 1)) 3, 1 + mod (nth xs (c + 1 + 1 + 1 + 1)) 3] : List Int), []⟩, _, none, _, 0, _, rfl, hwz, rs_nil, ⟨by dsimp only; omega, rfl, by dsimp only; omega, fun h => by dsimp only at h; omega, fun _ => ⟨rfl, fun x hx => by simp only [List.mem_cons, List.not_mem_nil, or_false] at hx; rcases hx with rfl | rfl | rfl <;> omega, rfl⟩, fun h => by dsimp only at h; omega, fun h => by dsimp only at h; omega⟩, rfl, rfl⟩
  · try dsimp only at hc0
    refine W.seq ?_
    refine W.region _ ?_
    refine WG.run tab_ok 2 rfl ?_
    refine WG.nil ?_
    refine WE.nxt ?_
    refine W.condE rfl (fun hc1 => ?_) (fun hc1 => ?_)
    · try dsimp only at hc1
      refine W.region _ ?_
      refine WG.run tab_ok 1 rfl ?_
      refine WL.callAt 2 en20 rfl rfl (by decide) (CallOp.mkT rfl rfl rfl rfl) rfl (N_C w0 ha (by constructor <;> decide) _) ?_
      rintro _ _ _ _ - ⟨rfl, rfl, rfl, rfl⟩
      have hm2 := mod_range (nth xs (c + 1 + 1)) (show (1 : Int) ≤ 50 by decide)
      refine WG.y rfl rfl (by decide) (Yl.add rfl rfl rfl (fun _ => rfl) (by intro _; constructor <;> (try dsimp only) <;> omega)) ?_
      refine WG.run tab_ok 1 rfl ?_
      refine WL.callAt 2 en20 rfl rfl (by decide) (CallOp.mkT rfl rfl rfl rfl) rfl (N_C w0 ha (by constructor <;> decide) _) ?_
      rintro _ _ _ _ - ⟨rfl, rfl, rfl, rfl⟩
      have hm3 := mod_range (nth xs (c + 1 + 1 + 1)) (show (1 : Int) ≤ 50 by decide)
      refine WG.y rfl rfl (by decide) (Yl.add rfl rfl rfl (fun _ => rfl) (by intro _; constructor <;> (try dsimp only) <;> omega)) ?_
      refine WG.run tab_ok 1 rfl ?_
      refine WL.callAt 2 en20 rfl rfl (by decide) (CallOp.mkT rfl rfl rfl rfl) rfl (N_C w0 ha (by constructor <;> decide) _) ?_
      rintro _ _ _ _ - ⟨rfl, rfl, rfl, rfl⟩
      have hm4 := mod_range (nth xs (c + 1 + 1 + 1 + 1)) (show (1 : Int) ≤ 50 by decide)
      refine WG.y rfl rfl (by decide) (Yl.add rfl rfl rfl (fun _ => rfl) (by intro _; constructor <;> (try dsimp only) <;> omega)) ?_
      refine WL.ef rfl rfl (by decide) (Ef.buildSliceD (enc := encI) (parts := [.tmp 31, .tmp 34, .tmp 37]) [_, _, _] tab_ok rfl rfl rfl rfl rfl rfl rfl rfl (by decide) (by decide) (fun a38 => ?_))
      refine WG.run tab_ok 1 rfl ?_
      refine WL.efN rfl rfl (Ef.store 1 tab_ok rfl rfl rfl rfl rfl rfl rfl rfl ?_)
      refine WL.freeze (enc := encI) (xs := ([1 + mod (nth xs (c + 1 + 1)) 50, 1 + mod (nth xs (c + 1 + 1 + 1)) 50, 1 + mod (nth xs (c + 1 + 1 + 1 + 1)) 50] : List Int)) 0 rfl ?_
      intro R1 hR1 hwz
      refine WG.nil ?_
      refine WE.blk _ ?_
      refine WE.nxt ?_
      refine W.seq ?_
      refine W.region _ ?_
      refine' WG.y rfl rfl (by decide) (Yl.load1 tab_ok rfl rfl rfl (fun _ => rfl) ?r3 rfl ?h3) ?_
      case r3 => (exact Rd.blk 0 rfl)
      case h3 => rfl
      refine WL.efN rfl rfl (Ef.store0 1 tab_ok rfl rfl rfl rfl rfl rfl rfl rfl ?_)
      refine WG.nil ?_
      refine WE.nxt ?_
      refine W.ret ?_
      refine WE.retFS (E' := srcE b a cp xs (c + 1 + 1 + 1 + 1 + 1) :: F) qS tab_ok [_] rfl ⟨⟨_, _, _, rfl, rfl, rfl, ((by first | exact Rd.blk 0 rfl | exact Rd.blk 1 rfl | exact Rd.blk 2 rfl | exact Rd.blk 3 rfl | exact Rd.blk 4 rfl | exact Rd.blk 5 rfl)), rfl⟩, trivial⟩ (by first | exact hR1 | exact RLe.refl _) ?_
      exact ⟨_, [], rfl, ⟨(1 + mod (nth xs c) 5), (3 + mod (nth xs (c + 1)) 40), 3, ([1 + mod (nth xs (c + 1 + 1)) 50, 1 + mod (nth xs (c + 1 + 1 + 1)) 50, 1 + mod (nth xs (c + 1 + 1 + 1 + 1)) 50] : List Int), []⟩, _, none, _, 0, _, rfl, hwz, rs_nil, ⟨by dsimp only; omega, rfl, by dsimp only; omega, fun h => by dsimp only at h; omega, fun h => by dsimp only at h; omega, fun _ => ⟨rfl, fun x hx => by simp only [List.mem_cons, List.not_mem_nil, or_false] at hx; rcases hx with rfl | rfl | rfl <;> omega, rfl⟩, fun h => by dsimp only at h; omega⟩, rfl, rfl⟩
    · try dsimp only at hc1
      refine W.seq ?_
      refine W.region _ ?_
      refine WG.run tab_ok 2 rfl ?_
      refine WG.nil ?_
      refine WE.nxt ?_
      refine W.condE rfl (fun hc2 => ?_) (fun hc2 => ?_)
      · try dsimp only at hc2
        refine W.seq ?_
        refine W.region _ ?_
        refine WL.ef rfl rfl (by decide) (Ef.buildSliceD (enc := encI) (parts := [.const (.int .i64 0), .const (.int .i64 1), .const (.int .i64 2)]) [_, _, _] tab_ok rfl rfl rfl rfl rfl rfl rfl rfl (by decide) (by decide) (fun a42 => ?_))
        refine WG.run tab_ok 1 rfl ?_
        refine WL.efN rfl rfl (Ef.store 1 tab_ok rfl rfl rfl rfl rfl rfl rfl rfl ?_)
        refine WG.nil ?_
        refine WE.nxt ?_
        refine W.seq ?_
        refine W.region _ ?_
        refine WG.run tab_ok 1 rfl ?_
        refine WL.callAt 3 en20 rfl rfl (by decide) (CallOp.mkT rfl rfl rfl rfl) rfl (N_C w0 ha (by constructor <;> decide) _) ?_
        rintro _ _ _ _ - ⟨rfl, rfl, rfl, rfl⟩
        have hm8 := mod_range (nth xs (c + 1 + 1)) (show (1 : Int) ≤ 4 by decide)
        obtain ⟨k8, hk8⟩ := Int.eq_ofNat_of_zero_le hm8.1
        rw [hk8]
        refine WG.run tab_ok 1 rfl ?_
        refine WG.nil ?_
        refine WE.nxt ?_
        refine W.block ?_
        refine W.loopK (β := Nat × List Int × Nat × Option Addr × Nat) (fun (k, ys, cn, a9, c9) => 3 ≤ ys.length ∧ ys.length + k ≤ 6 ∧ ∀ y ∈ ys, -1 ≤ y ∧ y ≤ 2) (fun (k, ys, cn, a9, c9) => [(4, true, .int .i64 (k : Int))]) [0, 2, 3] [_, _, _] [] _ rfl (fun (k, ys, cn, a9, c9) => [(0, .sl 3 1 a9 c9 (ys.map encI)), (1, .blk b3 [.int .i64 (1 + mod (nth xs c) 5), .int .i64 (3 + mod (nth xs (c + 1)) 40), .int .i64 3, .slice none 0 0, .slice a9 ys.length c9]), (3, srcE b a cp xs cn)]) (fun (k, ys, cn, a9, c9) => k) ((k8, [0, 1, 2], c + 1 + 1 + 1, some ⟨a42, 0, none⟩, 3)) (⟨by decide, by dsimp only [List.length_cons, List.length_nil]; omega, by decide⟩) ⟨rfl, rfl, rfl, rfl, rfl⟩ qS ?_
        intro zz hst
        obtain ⟨k, ys, cn, a9, c9⟩ := zz
        dsimp only [zipE, setAll, List.cons_append, List.nil_append, List.set_cons_zero, List.set_cons_succ] at hst ⊢
        obtain ⟨hy1, hy2, hy3⟩ := hst
        refine W.seq ?_
        refine W.seq ?_
        refine W.region _ ?_
        refine WG.run tab_ok 2 rfl ?_
        refine WG.nil ?_
        refine WE.nxt ?_
        refine W.condD rfl (fun hc3 => ?_) (fun hc3 => ?_)
        · try dsimp only at hc3
          obtain ⟨k, rfl⟩ : ∃ j, k = j + 1 := ⟨k - 1, by omega⟩
          refine W.skip ?_
          refine WE.nxt ?_
          refine W.seq ?_
          refine W.block ?_
          refine W.regionH _ (ES := (.blk b2 [.int .i64 0, .int .i64 0, .int .i64 0, .slice none 0 0, .slice none 0 0] :: F)) mixed ?_
          refine WA.take 0 rfl (by kernel_rfl) (by kernel_rfl) (by kernel_rfl) rfl rfl (by decide) (pureV_ok tab_ok rfl (fun _ => rfl)) qS (by first | exact RLe.refl _ | assumption) ?_
          refine WA.take 2 rfl (by kernel_rfl) (by kernel_rfl) (by kernel_rfl) rfl rfl (by decide) (pureV_ok tab_ok rfl (fun _ => rfl)) qS (by first | exact RLe.refl _ | assumption) ?_
          refine WA.br2 (i := 1) (j := 3) (by kernel_rfl) ?_ ?_
          ·
            refine' WS.yl rfl rfl rfl (by decide) (Yl.load1 tab_ok rfl rfl rfl (fun _ => rfl) ?r4 rfl ?h4) qS (RLe.refl _) ?_
            case r4 => apply Rd.add; (exact Rd.blk 1 rfl)
            case h4 => rfl
            refine WA.callAt 3 3 rfl (by kernel_rfl) en20 rfl rfl (by decide) (CallOp.mkT rfl rfl rfl rfl) rfl (N_C w0 ha (by constructor <;> decide) _) ?_
            rintro _ _ _ _ - ⟨rfl, rfl, rfl, rfl⟩
            refine ⟨RLe.refl _, qS, ?_⟩
            have hm9 := mod_range (nth xs cn) (show (1 : Int) ≤ 4 by decide)
            refine WA.take 4 rfl (by kernel_rfl) (by kernel_rfl) (by kernel_rfl) rfl rfl (by decide) (Yl.sub rfl rfl rfl (fun _ => rfl) (by intro _; constructor <;> (try dsimp only) <;> omega)) qS (by first | exact RLe.refl _ | assumption) ?_
            refine WA.eff 5 rfl (by kernel_rfl) rfl rfl (by decide) (Ef.buildSliceD (enc := encI) (parts := [.tmp 54]) [_] tab_ok rfl rfl rfl rfl rfl rfl rfl rfl (by decide) (by decide) (fun a55 => ?_))
            refine ⟨by first | exact RLe.refl _ | assumption, qS, ?_⟩
            refine WA.eff 6 rfl (by kernel_rfl) rfl rfl (by decide) (Ef.appendD 1 0 tab_ok rfl rfl rfl rfl rfl rfl rfl rfl rfl rfl rfl (fun _ _ => rfl) (by simp only [List.length_cons, List.length_nil]; omega) (by simp only [List.length_cons, List.length_nil]; omega) (fun a56 c56 ha56 => ?_))
            refine ⟨by first | exact RLe.refl _ | assumption, qS, ?_⟩
            refine WA.take 7 rfl (by kernel_rfl) (by kernel_rfl) (by kernel_rfl) rfl rfl (by decide) (pureV_ok tab_ok rfl (fun _ => rfl)) qS (by first | exact RLe.refl _ | assumption) ?_
            refine WA.effN 8 rfl (by kernel_rfl) rfl rfl (Ef.store 2 tab_ok rfl rfl rfl rfl rfl rfl rfl rfl ?_)
            refine ⟨by first | exact RLe.refl _ | assumption, qS, ?_⟩
            refine WA.done (by kernel_rfl) ?_
            refine WE.blk _ ?_
            refine WE.nxt ?_
            refine W.region _ ?_
            refine WG.run tab_ok 1 rfl ?_
            refine WG.y rfl rfl (by decide) (Yl.sub rfl rfl rfl (fun _ => rfl) (by intro _; constructor <;> (try dsimp only) <;> omega)) ?_
            refine WG.run tab_ok 1 rfl ?_
            refine WG.nil ?_
            refine WE.again ((k, ys ++ [mod (nth xs cn) 4 - 1], cn + 1, a56, c56)) (⟨by simp only [List.length_append, List.length_cons, List.length_nil]; omega, by simp only [List.length_append, List.length_cons, List.length_nil]; omega, fun y hy => by rcases List.mem_append.1 hy with h | h; exact hy3 y h; have := List.mem_singleton.1 h; omega⟩) (by (try dsimp only); omega) ⟨vint (by omega), rfl, rfl, rfl, rfl⟩ (RLe.refl _) qS
          ·
            refine WS.callAt 3 rfl en20 rfl rfl (by decide) (CallOp.mkT rfl rfl rfl rfl) rfl (N_C w0 ha (by constructor <;> decide) _) ?_
            rintro _ _ _ _ - ⟨rfl, rfl, rfl, rfl⟩
            refine ⟨RLe.refl _, qS, ?_⟩
            have hm9 := mod_range (nth xs cn) (show (1 : Int) ≤ 4 by decide)
            refine WA.take 4 rfl (by kernel_rfl) (by kernel_rfl) (by kernel_rfl) rfl rfl (by decide) (Yl.sub rfl rfl rfl (fun _ => rfl) (by intro _; constructor <;> (try dsimp only) <;> omega)) qS (by first | exact RLe.refl _ | assumption) ?_
            refine WA.br2 (i := 1) (j := 5) (by kernel_rfl) ?_ ?_
            ·
              refine' WS.yl rfl rfl rfl (by decide) (Yl.load1 tab_ok rfl rfl rfl (fun _ => rfl) ?r5 rfl ?h5) qS (RLe.refl _) ?_
              case r5 => apply Rd.add; (exact Rd.blk 1 rfl)
              case h5 => rfl
              refine WA.eff 5 rfl (by kernel_rfl) rfl rfl (by decide) (Ef.buildSliceD (enc := encI) (parts := [.tmp 54]) [_] tab_ok rfl rfl rfl rfl rfl rfl rfl rfl (by decide) (by decide) (fun a55 => ?_))
              refine ⟨by first | exact RLe.refl _ | assumption, qS, ?_⟩
              refine WA.eff 6 rfl (by kernel_rfl) rfl rfl (by decide) (Ef.appendD 1 0 tab_ok rfl rfl rfl rfl rfl rfl rfl rfl rfl rfl rfl (fun _ _ => rfl) (by simp only [List.length_cons, List.length_nil]; omega) (by simp only [List.length_cons, List.length_nil]; omega) (fun a56 c56 ha56 => ?_))
              refine ⟨by first | exact RLe.refl _ | assumption, qS, ?_⟩
              refine WA.take 7 rfl (by kernel_rfl) (by kernel_rfl) (by kernel_rfl) rfl rfl (by decide) (pureV_ok tab_ok rfl (fun _ => rfl)) qS (by first | exact RLe.refl _ | assumption) ?_
              refine WA.effN 8 rfl (by kernel_rfl) rfl rfl (Ef.store 2 tab_ok rfl rfl rfl rfl rfl rfl rfl rfl ?_)
              refine ⟨by first | exact RLe.refl _ | assumption, qS, ?_⟩
              refine WA.done (by kernel_rfl) ?_
              refine WE.blk _ ?_
              refine WE.nxt ?_
              refine W.region _ ?_
              refine WG.run tab_ok 1 rfl ?_
              refine WG.y rfl rfl (by decide) (Yl.sub rfl rfl rfl (fun _ => rfl) (by intro _; constructor <;> (try dsimp only) <;> omega)) ?_
              refine WG.run tab_ok 1 rfl ?_
              refine WG.nil ?_
              refine WE.again ((k, ys ++ [mod (nth xs cn) 4 - 1], cn + 1, a56, c56)) (⟨by simp only [List.length_append, List.length_cons, List.length_nil]; omega, by simp only [List.length_append, List.length_cons, List.length_nil]; omega, fun y hy => by rcases List.mem_append.1 hy with h | h; exact hy3 y h; have := List.mem_singleton.1 h; omega⟩) (by (try dsimp only); omega) ⟨vint (by omega), rfl, rfl, rfl, rfl⟩ (RLe.refl _) qS
            ·
              refine WS.eff rfl rfl rfl (by decide) (Ef.buildSliceD (enc := encI) (parts := [.tmp 54]) [_] tab_ok rfl rfl rfl rfl rfl rfl rfl rfl (by decide) (by decide) (fun a55 => ?_))
              refine ⟨by first | exact RLe.refl _ | assumption, qS, ?_⟩
              refine' WA.yl 1 rfl (by kernel_rfl) rfl rfl (by decide) (Yl.load1 tab_ok rfl rfl rfl (fun _ => rfl) ?r6 rfl ?h6) qS (RLe.refl _) ?_
              case r6 => apply Rd.add; (exact Rd.blk 2 rfl)
              case h6 => rfl
              refine WA.eff 6 rfl (by kernel_rfl) rfl rfl (by decide) (Ef.appendD 1 0 tab_ok rfl rfl rfl rfl rfl rfl rfl rfl rfl rfl rfl (fun _ _ => rfl) (by simp only [List.length_cons, List.length_nil]; omega) (by simp only [List.length_cons, List.length_nil]; omega) (fun a56 c56 ha56 => ?_))
              refine ⟨by first | exact RLe.refl _ | assumption, qS, ?_⟩
              refine WA.take 7 rfl (by kernel_rfl) (by kernel_rfl) (by kernel_rfl) rfl rfl (by decide) (pureV_ok tab_ok rfl (fun _ => rfl)) qS (by first | exact RLe.refl _ | assumption) ?_
              refine WA.effN 8 rfl (by kernel_rfl) rfl rfl (Ef.store 2 tab_ok rfl rfl rfl rfl rfl rfl rfl rfl ?_)
              refine ⟨by first | exact RLe.refl _ | assumption, qS, ?_⟩
              refine WA.done (by kernel_rfl) ?_
              refine WE.blk _ ?_
              refine WE.nxt ?_
              refine W.region _ ?_
              refine WG.run tab_ok 1 rfl ?_
              refine WG.y rfl rfl (by decide) (Yl.sub rfl rfl rfl (fun _ => rfl) (by intro _; constructor <;> (try dsimp only) <;> omega)) ?_
              refine WG.run tab_ok 1 rfl ?_
              refine WG.nil ?_
              refine WE.again ((k, ys ++ [mod (nth xs cn) 4 - 1], cn + 1, a56, c56)) (⟨by simp only [List.length_append, List.length_cons, List.length_nil]; omega, by simp only [List.length_append, List.length_cons, List.length_nil]; omega, fun y hy => by rcases List.mem_append.1 hy with h | h; exact hy3 y h; have := List.mem_singleton.1 h; omega⟩) (by (try dsimp only); omega) ⟨vint (by omega), rfl, rfl, rfl, rfl⟩ (RLe.refl _) qS
        · try dsimp only at hc3
          refine W.freeze (enc := encI) (xs := ys) 0 rfl ?_
          intro R1 hR1 hwz
          refine W.exit ?_
          refine WE.then_exit ?_
          refine WE.then_exit ?_
          refine WE.blk_exit ?_
          refine WE.blk _ ?_
          refine WE.nxt ?_
          refine W.seq ?_
          refine W.region _ ?_
          refine' WG.y rfl rfl (by decide) (Yl.load1 tab_ok rfl rfl rfl (fun _ => rfl) ?r7 rfl ?h7) ?_
          case r7 => (exact Rd.blk 0 rfl)
          case h7 => rfl
          refine WL.efN rfl rfl (Ef.store0 1 tab_ok rfl rfl rfl rfl rfl rfl rfl rfl ?_)
          refine WG.nil ?_
          refine WE.nxt ?_
          refine W.ret ?_
          refine WE.retFS (E' := srcE b a cp xs (cn) :: F) qS tab_ok [_] rfl ⟨⟨_, _, _, rfl, rfl, rfl, ((by first | exact Rd.blk 0 rfl | exact Rd.blk 1 rfl | exact Rd.blk 2 rfl | exact Rd.blk 3 rfl | exact Rd.blk 4 rfl | exact Rd.blk 5 rfl)), rfl⟩, trivial⟩ (by first | exact hR1 | exact RLe.refl _) ?_
          exact ⟨_, [], rfl, ⟨(1 + mod (nth xs c) 5), (3 + mod (nth xs (c + 1)) 40), 3, [], ys⟩, none, _, 0, _, _, rfl, rs_nil, hwz, ⟨by dsimp only; omega, rfl, by dsimp only; omega, fun h => by dsimp only at h; omega, fun h => by dsimp only at h; omega, fun h => by dsimp only at h; omega, fun _ => ⟨rfl, hy1, by dsimp only; omega, hy3⟩⟩, rfl, rfl⟩
      · try dsimp only at hc2
        refine W.skip ?_
        refine WE.blk _ ?_
        refine WE.nxt ?_
        refine W.seq ?_
        refine W.region _ ?_
        refine' WG.y rfl rfl (by decide) (Yl.load1 tab_ok rfl rfl rfl (fun _ => rfl) ?r8 rfl ?h8) ?_
        case r8 => (exact Rd.blk 0 rfl)
        case h8 => rfl
        refine WL.efN rfl rfl (Ef.store0 1 tab_ok rfl rfl rfl rfl rfl rfl rfl rfl ?_)
        refine WG.nil ?_
        refine WE.nxt ?_
        refine W.ret ?_
        refine WE.retFS (E' := srcE b a cp xs (c + 1 + 1) :: F) qS tab_ok [_] rfl ⟨⟨_, _, _, rfl, rfl, rfl, ((by first | exact Rd.blk 0 rfl | exact Rd.blk 1 rfl | exact Rd.blk 2 rfl | exact Rd.blk 3 rfl | exact Rd.blk 4 rfl | exact Rd.blk 5 rfl)), rfl⟩, trivial⟩ (by first | exact hR1 | exact RLe.refl _) ?_
        exact ⟨_, [], rfl, ⟨(1 + mod (nth xs c) 5), (3 + mod (nth xs (c + 1)) 40), 3, [], []⟩, none, none, 0, 0, _, rfl, rs_nil, rs_nil, ⟨by dsimp only; omega, rfl, by dsimp only; omega, fun _ => ⟨rfl, rfl⟩, fun h => by dsimp only at h; omega, fun h => by dsimp only at h; omega, fun h => by dsimp only at h; omega⟩, rfl, rfl⟩

end Go.Proofs.YtlgjkmebpnnphaaGreat

/- Chapter 22: the sanity check. No condition. -/
set_option maxRecDepth 4000
set_option linter.unusedSimpArgs false
set_option linter.unusedVariables false
namespace Go.Proofs.YtlgjkmebpnnphaaGreat
open Go Go.RowKit Go.Proofs.YtlgjkmebpnnphaaGreat.K Go.Proofs.YtlgjkmebpnnphaaGreat.M

theorem srv_awake1 : curveL (⟨1, 10, 2, [], []⟩ : Ln) 1 [(⟨[0, 15], 1, 0⟩ : Cv), (⟨[0, 15], 1, 0⟩ : Cv)] [⟨15, 15⟩, ⟨15, 15⟩] = (⟨[0, 0, 0, INF], 1, 0⟩, 0) := by kernel_rfl
theorem srv_awake2 : srvE (⟨1, 10, 2, [], []⟩ : Ln) 4 ([⟨0, 0, 15⟩, ⟨1, 0, 15⟩] : List Pkt) = 0 := by kernel_rfl
theorem srv_awake3 : (srvL (⟨1, 10, 2, [], []⟩ : Ln) 4 ([⟨0, 0, 15⟩, ⟨1, 0, 15⟩] : List Pkt)).1 = [1, 2] := by kernel_rfl
theorem srv_awake4 : chkL (⟨1, 10, 2, [], []⟩ : Ln) = 0 := by kernel_rfl
theorem srv_awake5 : chkL ⟨0, 0, 0, [], []⟩ = 9 := by kernel_rfl

set_option maxHeartbeats 1000000 in
theorem Awake22_C {R : Ro} (w0 : World) (E : List Ent) : K.Fn Tryz.prog 19 [] w0 R E (fun v R' E' => v = .bool true ∧ E.Sublist E') := by
  refine Fn.enter (n := 57) Tryz.func19 rfl rfl (Nat.le_of_ble_eq_true rfl) rfl ?_
  refine W.seq ?_
  refine W.region _ ?_
  refine WG.run tab_ok 1 rfl ?_
  refine WG.nil ?_
  refine WE.nxt ?_
  refine W.seq ?_
  refine W.region _ ?_
  -- build
  refine WG.y rfl rfl (by decide) (Yl.build (parts := [(0, .const (.int .i64 1)), (1, .const (.int .i64 10)), (2, .const (.int .i64 2))]) tab_ok rfl rfl rfl rfl (fun _ => rfl) rfl rfl) ?_
  refine WL.ef rfl rfl (by decide) (Ef.alloc tab_ok rfl rfl (fun b1 => ?_))
  refine WL.efN rfl rfl (Ef.store0 0 tab_ok rfl rfl rfl rfl rfl rfl rfl rfl ?_)
  refine WG.nil ?_
  refine WE.nxt ?_
  refine W.seq ?_
  refine W.region _ ?_
  refine WL.ef rfl rfl (by decide) (Ef.buildSliceD (enc := encI) (parts := [.const (.int .i64 0), .const (.int .i64 15)]) [_, _] tab_ok rfl rfl rfl rfl rfl rfl rfl rfl (by decide) (by decide) (fun a8 => ?_))
  refine WL.freeze (enc := encI) (xs := ([0, 15] : List Int)) 0 rfl ?_
  intro R1 hR1 hc1
  -- build
  refine WG.y rfl rfl (by decide) (Yl.build (parts := [(0, .tmp 8), (1, .const (.int .i64 1))]) tab_ok rfl rfl rfl rfl (fun _ => rfl) rfl rfl) ?_
  refine WL.ef rfl rfl (by decide) (Ef.alloc tab_ok rfl rfl (fun b2 => ?_))
  refine WL.efN rfl rfl (Ef.store0 0 tab_ok rfl rfl rfl rfl rfl rfl rfl rfl ?_)
  refine WG.nil ?_
  refine WE.nxt ?_
  refine W.seq ?_
  refine W.region _ ?_
  refine' WG.y rfl rfl (by decide) (Yl.load1 tab_ok rfl rfl rfl (fun _ => rfl) ?r1 rfl ?h1) ?_
  case r1 => (exact Rd.blk 1 rfl)
  case h1 => rfl
  refine' WG.y rfl rfl (by decide) (Yl.load1 tab_ok rfl rfl rfl (fun _ => rfl) ?r2 rfl ?h2) ?_
  case r2 => (exact Rd.blk 0 rfl)
  case h2 => rfl
  refine' WG.y rfl rfl (by decide) (Yl.load1 tab_ok rfl rfl rfl (fun _ => rfl) ?r3 rfl ?h3) ?_
  case r3 => (exact Rd.blk 0 rfl)
  case h3 => rfl
  refine WL.ef rfl rfl (by decide) (Ef.buildSlice (parts := [.tmp 12, .tmp 13]) tab_ok rfl rfl rfl rfl rfl rfl rfl (by decide) (by decide) (fun a14 => ?_))
  refine WL.freeze (enc := encC) (xs := ([⟨some ⟨a8, 0, none⟩, 2, (⟨[0, 15], 1, 0⟩ : Cv)⟩, ⟨some ⟨a8, 0, none⟩, 2, (⟨[0, 15], 1, 0⟩ : Cv)⟩] : List CvS)) 0 rfl ?_
  intro R2 hR2 hlc
  -- build
  refine WG.y rfl rfl (by decide) (Yl.build (parts := [(0, .const (.int .i64 15)), (1, .const (.int .i64 15))]) tab_ok rfl rfl rfl rfl (fun _ => rfl) rfl rfl) ?_
  -- build
  refine WG.y rfl rfl (by decide) (Yl.build (parts := [(0, .const (.int .i64 15)), (1, .const (.int .i64 15))]) tab_ok rfl rfl rfl rfl (fun _ => rfl) rfl rfl) ?_
  refine WL.ef rfl rfl (by decide) (Ef.buildSliceD (enc := encZ) (parts := [.tmp 15, .tmp 16]) [⟨_, _⟩, ⟨_, _⟩] tab_ok rfl rfl rfl rfl rfl rfl rfl rfl (by decide) (by decide) (fun a17 => ?_))
  refine WL.freeze (enc := encZ) (xs := ([⟨15, 15⟩, ⟨15, 15⟩] : List Sz)) 0 rfl ?_
  intro R3 hR3 hzz
  have hlc := hlc.mono hR3
  have hc1 := hc1.mono (hR2.trans hR3)
  have hls : ∀ x ∈ ([⟨some ⟨a8, 0, none⟩, 2, (⟨[0, 15], 1, 0⟩ : Cv)⟩, ⟨some ⟨a8, 0, none⟩, 2, (⟨[0, 15], 1, 0⟩ : Cv)⟩] : List CvS), RS R3 1 encI x.a x.cv.vals ∧ x.cv.vals.length ≤ 100000 := fun x hx => by
    simp only [List.mem_cons, List.not_mem_nil, or_false] at hx
    rcases hx with rfl | rfl
    · exact ⟨hc1, by show 2 ≤ 100000; decide⟩
    · exact ⟨hc1, by show 2 ≤ 100000; decide⟩
  refine WL.call en36 rfl rfl (by decide) (CallOp.mkT rfl rfl rfl rfl) (CurveSrv1_C (L := (⟨1, 10, 2, [], []⟩ : Ln)) (ls := ([⟨some ⟨a8, 0, none⟩, 2, (⟨[0, 15], 1, 0⟩ : Cv)⟩, ⟨some ⟨a8, 0, none⟩, 2, (⟨[0, 15], 1, 0⟩ : Cv)⟩] : List CvS)) (z := ([⟨15, 15⟩, ⟨15, 15⟩] : List Sz)) (cls := 1) (aw := none) (at_ := none) (lw := 0) (cw := 0) (lt := 0) (ct := 0) rs_nil rfl rs_nil rfl hlc rfl (Nat.le_refl 2) hls hzz rfl (Nat.le_refl 2) rfl w0 _) ?_
  rintro _ R4 E3 hR4 ⟨f1, fc1, rfl, hf1, hsub2⟩
  rw [show List.map CvS.cv ([⟨some ⟨a8, 0, none⟩, 2, (⟨[0, 15], 1, 0⟩ : Cv)⟩, ⟨some ⟨a8, 0, none⟩, 2, (⟨[0, 15], 1, 0⟩ : Cv)⟩] : List CvS) = [(⟨[0, 15], 1, 0⟩ : Cv), (⟨[0, 15], 1, 0⟩ : Cv)] from rfl, srv_awake1] at hf1 ⊢
  refine WL.subE hsub2 ?_
  unfold cvV
  refine WG.run tab_ok 3 rfl ?_
  refine WL.ef rfl rfl (by decide) (Ef.alloc tab_ok rfl rfl (fun b3 => ?_))
  refine WL.efN rfl rfl (Ef.store0 0 tab_ok rfl rfl rfl rfl rfl rfl rfl rfl ?_)
  refine WG.run tab_ok 1 rfl ?_
  refine WG.nil ?_
  refine WE.nxt ?_
  refine W.seq ?_
  refine W.region _ ?_
  refine' WG.y rfl rfl (by decide) (Yl.load1 tab_ok rfl rfl rfl (fun _ => rfl) ?r4 rfl ?h4) ?_
  case r4 => (exact Rd.blk 2 rfl)
  case h4 => rfl
  -- build
  refine WG.y rfl rfl (by decide) (Yl.build (parts := [(2, .const (.int .i64 15))]) tab_ok rfl rfl rfl rfl (fun _ => rfl) rfl rfl) ?_
  -- build
  refine WG.y rfl rfl (by decide) (Yl.build (parts := [(0, .const (.int .i64 1)), (2, .const (.int .i64 15))]) tab_ok rfl rfl rfl rfl (fun _ => rfl) rfl rfl) ?_
  refine WL.ef rfl rfl (by decide) (Ef.buildSliceD (enc := encP) (parts := [.tmp 23, .tmp 24]) [⟨_, _, _⟩, ⟨_, _, _⟩] tab_ok rfl rfl rfl rfl rfl rfl rfl rfl (by decide) (by decide) (fun a25 => ?_))
  refine WL.freeze (enc := encP) (xs := ([⟨0, 0, 15⟩, ⟨1, 0, 15⟩] : List Pkt)) 0 rfl ?_
  intro R5 hR5 hp
  have hf1 := hf1.mono hR5
  refine WL.call en16 rfl rfl (by decide) (CallOp.mkT rfl rfl rfl rfl) (RunSrv_C (L := (⟨1, 10, 2, [], []⟩ : Ln)) (ps := ([⟨0, 0, 15⟩, ⟨1, 0, 15⟩] : List Pkt)) (ticks := 4) (aw := none) (at_ := none) (lw := 0) (cw := 0) (lt := 0) (ct := 0) hp rfl rs_nil rfl rs_nil rfl w0 _) ?_
  rintro _ R6 E4 hR6 ⟨da, oa, dc, oc, rows, rfl, hd, ho, hrw, hrx, hcp, hsub⟩
  refine WL.subE hsub ?_
  rw [srv_awake3] at hd ⊢
  rw [srv_awake2]
  have hf1 := hf1.mono hR6
  refine WG.run tab_ok 3 rfl ?_
  refine WL.ef rfl rfl (by decide) (Ef.alloc tab_ok rfl rfl (fun b5 => ?_))
  refine WL.efN rfl rfl (Ef.store0 0 tab_ok rfl rfl rfl rfl rfl rfl rfl rfl ?_)
  refine WG.run tab_ok 1 rfl ?_
  refine WG.nil ?_
  refine WE.nxt ?_
  refine W.seq ?_
  refine W.region _ ?_
  refine' WG.y rfl rfl (by decide) (Yl.load1 tab_ok rfl rfl rfl (fun _ => rfl) ?r5 rfl ?h5) ?_
  case r5 => (exact Rd.blk 3 rfl)
  case h5 => rfl
  refine WG.callV (v := .int .i64 0) en26 rfl rfl (by decide) (CallOp.mk' rfl rfl rfl rfl) (fun _ => rfl) (fun hg => by
    have h := ChkSrv_V (R := R6) (L := (⟨1, 10, 2, [], []⟩ : Ln)) (aw := none) (at_ := none) (cw := 0) (ct := 0) rs_nil rfl rs_nil rfl
    rw [srv_awake4] at h
    exact h) ?_
  refine WG.run tab_ok 2 rfl ?_
  refine WL.guardT rfl (by rfl) ?_
  refine WG.y rfl rfl (by decide) (pureV_ok tab_ok rfl (fun _ => rfl)) ?_
  refine WL.guardT rfl (by rfl) ?_
  refine WG.y rfl rfl (by decide) (pureV_ok tab_ok rfl (fun _ => rfl)) ?_
  refine WG.y rfl rfl (by decide) (Yl.pand rfl rfl rfl (fun _ => rfl) (by intro h1 h2; simp_all <;> omega)) ?_
  refine WG.run tab_ok 1 rfl ?_
  refine WL.guardT rfl (by rfl) ?_
  refine' WG.y rfl rfl (by decide) (Yl.load1 tab_ok rfl rfl rfl (fun _ => rfl) ?r6 rfl ?h6) ?_
  case r6 => (exact Rd.blk 1 rfl)
  case h6 => rfl
  refine WL.guardT rfl (by rfl) ?_
  refine WL.ef rfl rfl (by decide) (Ef.buildSliceD (enc := encI) (parts := [.const (.int .i64 0), .const (.int .i64 0), .const (.int .i64 0), .const (.int .i64 4611686018427387904)]) [_, _, _, _] tab_ok rfl rfl rfl rfl rfl rfl rfl rfl (by decide) (by decide) (fun a38 => ?_))
  refine WL.freeze (enc := encI) (xs := ([0, 0, 0, 4611686018427387904] : List Int)) 0 rfl ?_
  intro R7 hR7 hi1
  have hd := hd.mono hR7
  have hf1 := hf1.mono hR7
  refine WL.guardT rfl (by rfl) ?_
  -- build
  refine WG.y rfl rfl (by decide) (Yl.build (parts := [(0, .tmp 38), (1, .const (.int .i64 1))]) tab_ok rfl rfl rfl rfl (fun _ => rfl) rfl rfl) ?_
  refine WL.guardT rfl (by rfl) ?_
  refine WG.callV (v := .bool true) en43 rfl rfl (by decide) (CallOp.mk' rfl rfl rfl rfl) (fun _ => rfl) (fun hg => by
    have h := Same02_V (ca := fc1) (cb := 4) (p1 := 1) (i1 := 0) (p2 := 1) (i2 := 0) hf1 hi1
    rw [decide_eq_true ⟨rfl, rfl, rfl⟩] at h
    exact h) ?_
  refine WG.y rfl rfl (by decide) (Yl.pand rfl rfl rfl (fun _ => rfl) (by intro h1 h2; simp_all <;> omega)) ?_
  refine WG.run tab_ok 1 rfl ?_
  refine WL.guardT rfl (by rfl) ?_
  refine WG.y rfl rfl (by decide) (pureV_ok tab_ok rfl (fun _ => rfl)) ?_
  refine WL.guardT rfl (by rfl) ?_
  refine WG.y rfl rfl (by decide) (pureV_ok tab_ok rfl (fun _ => rfl)) ?_
  refine WG.y rfl rfl (by decide) (Yl.pand rfl rfl rfl (fun _ => rfl) (by intro h1 h2; simp_all <;> omega)) ?_
  refine WG.run tab_ok 1 rfl ?_
  refine WL.guardT rfl (by rfl) ?_
  refine WG.y rfl rfl (by decide) (pureV_ok tab_ok rfl (fun _ => rfl)) ?_
  refine WL.guardT rfl (by rfl) ?_
  refine' WG.y rfl rfl (by decide) (Yl.load1 tab_ok rfl rfl rfl (fun _ => rfl) ?r7 rfl ?h7) ?_
  case r7 => apply Rd.add; (exact Rd.blk 0 rfl)
  case h7 => rfl
  refine WL.guardT rfl (by rfl) ?_
  refine WL.ef rfl rfl (by decide) (Ef.buildSliceD (enc := encI) (parts := [.const (.int .i64 1), .const (.int .i64 2)]) [_, _] tab_ok rfl rfl rfl rfl rfl rfl rfl rfl (by decide) (by decide) (fun a49 => ?_))
  refine WL.freeze (enc := encI) (xs := ([1, 2] : List Int)) 0 rfl ?_
  intro R8 hR8 hl1
  have hd := hd.mono hR8
  refine WL.guardT rfl (by rfl) ?_
  refine WG.callV (v := .bool true) en21 rfl rfl (by decide) (CallOp.mk' rfl rfl rfl rfl) (fun _ => rfl) (fun hg => by
    have h := Ints_V (ca := dc) (cb := 2) hd hl1
    exact h) ?_
  refine WG.y rfl rfl (by decide) (Yl.pand rfl rfl rfl (fun _ => rfl) (by intro h1 h2; simp_all <;> omega)) ?_
  refine WG.run tab_ok 1 rfl ?_
  refine WL.guardT rfl (by rfl) ?_
  -- build
  refine WG.y rfl rfl (by decide) (Yl.build (parts := []) tab_ok rfl rfl rfl rfl (fun _ => rfl) rfl rfl) ?_
  refine WL.guardT rfl (by rfl) ?_
  refine WG.callV (v := .int .i64 9) en26 rfl rfl (by decide) (CallOp.mk' rfl rfl rfl rfl) (fun _ => rfl) (fun hg => by
    have h := ChkSrv_V (R := R8) (L := (⟨0, 0, 0, [], []⟩ : Ln)) (aw := none) (at_ := none) (cw := 0) (ct := 0) rs_nil rfl rs_nil rfl
    rw [srv_awake5] at h
    exact h) ?_
  refine WL.guardT rfl (by rfl) ?_
  refine WG.y rfl rfl (by decide) (pureV_ok tab_ok rfl (fun _ => rfl)) ?_
  refine WG.y rfl rfl (by decide) (Yl.pand rfl rfl rfl (fun _ => rfl) (by intro h1 h2; simp_all <;> omega)) ?_
  refine WG.run tab_ok 1 rfl ?_
  refine WG.nil ?_
  refine WE.nxt ?_
  refine W.ret ?_
  refine WE.retF tab_ok [_] rfl ⟨rfl, trivial⟩ (hR1.trans (hR2.trans (hR3.trans (hR4.trans (hR5.trans (hR6.trans (hR7.trans hR8))))))) ?_
  exact ⟨rfl, qS⟩

end Go.Proofs.YtlgjkmebpnnphaaGreat

/- Chapter 22: ServerAlone. No condition. -/
set_option maxRecDepth 4000
set_option linter.unusedSimpArgs false
set_option linter.unusedVariables false
namespace Go.Proofs.YtlgjkmebpnnphaaGreat
open Go Go.RowKit Go.Proofs.YtlgjkmebpnnphaaGreat.K Go.Proofs.YtlgjkmebpnnphaaGreat.M

set_option maxHeartbeats 1000000 in
theorem ServerAlone_F {R : Ro} {a : Option Addr} {c : Nat} {xs : List Int} (ha : RS R 1 encI a xs) (hc : xs.length ≤ c) (w0 : World) : K.Fn Tryz.prog 7 [.slice a xs.length c] w0 R [] (fun v _ _ => v = .bool true) := by
  refine Fn.enter (n := 67) Tryz.func7 rfl rfl (Nat.le_of_ble_eq_true rfl) rfl ?_
  refine W.seq ?_
  refine W.region _ ?_
  refine WG.run tab_ok 1 rfl ?_
  refine WG.nil ?_
  refine WE.nxt ?_
  refine W.seq ?_
  refine W.region _ ?_
  refine WG.run tab_ok 1 rfl ?_
  refine WL.call en13 rfl rfl (by decide) (CallOp.mkT rfl rfl rfl rfl) (New_C w0 _ hc) ?_
  rintro _ _ _ - ⟨b, rfl, rfl, rfl⟩
  have hz := ha.take 2000
  refine WG.run tab_ok 1 rfl ?_
  refine WG.nil ?_
  refine WE.nxt ?_
  refine W.seq ?_
  refine W.region _ ?_
  refine WG.run tab_ok 1 rfl ?_
  refine WL.callAt 0 en14 rfl rfl (by decide) (CallOp.mkT rfl rfl rfl rfl) rfl (Draw_C w0 hz _) ?_
  rintro _ R0 _ _ hR0 ⟨L, aw, at_, cw, ct, cn, rfl, hw, ht, hL, rfl, rfl⟩
  have hz := hz.mono hR0
  refine WG.run tab_ok 1 rfl ?_
  refine WL.callAt 0 en15 rfl rfl (by decide) (CallOp.mkT rfl rfl rfl rfl) rfl (Traffic_C w0 hz (by decide) (by constructor <;> decide) (by decide) _) ?_
  rintro _ _ _ _ - ⟨a2, c2, rfl, rfl, rfl, rfl⟩
  have hok := traffic_ok (xs.take 2000) (n := 12) (flows := 3) (most := 40) (by decide) (by decide) (by decide) cn
  have hat := traffic_at (xs.take 2000) (n := 12) (flows := 3) (most := 40) (by decide) (by decide) (by decide) cn
  have hlt := traffic_len (xs.take 2000) (n := 12) (flows := 3) (most := 40) (by decide) cn
  refine WG.run tab_ok 1 rfl ?_
  refine WL.callAt 1 en20 rfl rfl (by decide) (CallOp.mkT rfl rfl rfl rfl) rfl (N_C w0 hz (by constructor <;> decide) _) ?_
  rintro _ _ _ _ - ⟨rfl, rfl, rfl, rfl⟩
  have hm3 := mod_range (nth (xs.take 2000) ((cn + 1 + 3 * trafficK (xs.take 2000) 12 cn))) (show (1 : Int) ≤ 3 by decide)
  refine WL.ef rfl rfl (by decide) (Ef.alloc tab_ok rfl rfl (fun b4 => ?_))
  refine WL.efN rfl rfl (Ef.store0 0 tab_ok rfl rfl rfl rfl rfl rfl rfl rfl ?_)
  refine WG.run tab_ok 2 rfl ?_
  refine WG.nil ?_
  refine WE.nxt ?_
  refine W.seq ?_
  refine W.sub (env' := [(4, true, .pointer (some ⟨b4, 0, none⟩)), (5, true, .slice a2 (traffic (xs.take 2000) 12 3 40 cn).length c2), (6, true, .int .i64 (mod (nth (xs.take 2000) (cn + 1 + 3 * trafficK (xs.take 2000) 12 cn)) 3))]) (R' := R0) (E' := [.blk b4 [.int .i64 L.kind, .int .i64 L.cap, .int .i64 L.n, .slice aw L.w.length cw, .slice at_ L.tb.length ct], .sl 42 3 a2 c2 ((traffic (xs.take 2000) 12 3 40 cn).map encP)]) ⟨rfl, rfl, rfl, rfl⟩ (RLe.refl _) qS ?_
  have hcc : 0 ≤ (mod (nth (xs.take 2000) (cn + 1 + 3 * trafficK (xs.take 2000) 12 cn)) 3) ∧ (mod (nth (xs.take 2000) (cn + 1 + 3 * trafficK (xs.take 2000) 12 cn)) 3) < 3 := by omega
  generalize (mod (nth (xs.take 2000) (cn + 1 + 3 * trafficK (xs.take 2000) 12 cn)) 3) = cc at hcc ⊢
  generalize (traffic (xs.take 2000) 12 3 40 cn) = ps at hok hat hlt ⊢
  have hcap1 : 1 ≤ L.cap ∧ L.cap ≤ 42 := by have := hL.cap; omega
  have hp3 : P3 ps := ⟨fun p hp => by have := hat p hp; omega, fun p hp => by have := hat p hp; omega, hok.sorted, fun p hp => by have := hat p hp; omega⟩
  have hn3 := hL.n
  have hcap := hL.cap
  refine W.seq ?_
  refine W.region _ ?_
  refine WG.run tab_ok 3 rfl ?_
  refine WG.nil ?_
  refine WE.nxt ?_
  refine W.block ?_
  refine W.loopK (β := Nat) (fun j => j ≤ ps.length) (fun j => [(22, true, .int .i64 (j : Int))]) [4, 5, 6, 21] [_, _, _, _] [] _ rfl (fun j => [(1, .sl 42 3 a2 c2 (((ps.take j).map (flP cc) ++ ps.drop j).map encP))]) (fun j => ps.length - j) (0) (Nat.zero_le _) ⟨rfl, rfl, rfl, rfl, rfl, rfl⟩ qS ?_
  intro j hst
  dsimp only [zipE, setAll, List.cons_append, List.nil_append, List.set_cons_zero, List.set_cons_succ] at hst ⊢
  
  refine W.seq ?_
  refine W.region _ ?_
  refine WG.run tab_ok 1 rfl ?_
  refine WG.nil ?_
  refine WE.nxt ?_
  refine W.seq ?_
  refine W.condD rfl (fun hc0 => ?_) (fun hc0 => ?_)
  · try dsimp only at hc0
    refine W.skip ?_
    refine WE.nxt ?_
    refine W.seq ?_
    refine W.block ?_
    refine W.seq ?_
    refine W.region _ ?_
    refine WG.run tab_ok 2 rfl ?_
    refine WG.nil ?_
    refine WE.nxt ?_
    refine W.region _ ?_
    refine WG.run tab_ok 3 rfl ?_
    refine WG.y rfl rfl (by decide) (Yl.indexN tab_ok rfl rfl rfl rfl rfl rfl (fun _ => rfl) (by intro _; (try dsimp only) <;> omega) (by intro _; first | exact (fun w0 w hm hl => HasMem.ownD (enc := encP) (xs := ((ps.take j).map (flP cc) ++ ps.drop j)) 1 rfl w0 w hm (by simp; omega)) | exact fun _ _ _ _ => rfl | exact RS.has (by assumption) | exact fun _ _ _ _ => (by assumption) | exact HasMem.ownD 0 rfl | exact HasMem.ownD 1 rfl | exact HasMem.ownD 2 rfl | exact HasMem.ownD 3 rfl | exact HasMem.ownD 4 rfl | exact HasMem.ownD 5 rfl)) ?_
    refine WG.run tab_ok 1 rfl ?_
    refine WL.efN rfl rfl (Ef.storeF (flP cc (nth ps j)) 1 tab_ok rfl rfl rfl rfl rfl (by simp; omega) (by rw [map_mid_nth (by omega)]; rfl) rfl (by decide) rfl ?_)
    refine WG.nil ?_
    refine WE.blk _ ?_
    refine WE.nxt ?_
    refine W.region _ ?_
    refine WG.y rfl rfl (by decide) (Yl.add rfl rfl rfl (fun _ => rfl) (by intro _; constructor <;> (try dsimp only) <;> omega)) ?_
    refine WG.run tab_ok 1 rfl ?_
    refine WG.nil ?_
    refine WE.again (j + 1) (by omega) (by (try dsimp only); omega) ⟨rfl, rfl, rfl, rfl, rfl, rfl⟩ (RLe.refl _) (by (try dsimp only); rw [← map_mid_step (by omega)]; exact qS)
  · try dsimp only at hc0
    obtain rfl : j = ps.length := by omega
    rw [List.take_of_length_le (Nat.le_refl _), List.drop_eq_nil_of_le (Nat.le_refl _), List.append_nil]
    refine W.exit ?_
    refine WE.then_exit ?_
    refine WE.then_exit ?_
    refine WE.blk_exit ?_
    refine WE.nxt ?_
    refine W.freeze (enc := encP) (xs := (ps.map (flP cc))) 1 rfl ?_
    intro R2 hR2 hq
    have hw := hw.mono hR2
    have ht := ht.mono hR2
    refine W.seq ?_
    refine W.region _ ?_
    refine' WG.y rfl rfl (by decide) (Yl.load1 tab_ok rfl rfl rfl (fun _ => rfl) ?r1 rfl ?h1) ?_
    case r1 => (exact Rd.blk 0 rfl)
    case h1 => rfl
    refine WG.run tab_ok 1 rfl ?_
    refine WL.call en16 rfl rfl (by decide) (CallOp.mkT rfl rfl rfl rfl) (RunSrv_C (L := L) (ps := (ps.map (flP cc))) (ticks := 90) hq (List.length_map _) hw rfl ht rfl w0 _) ?_
    rintro _ R3 E2 hR3 ⟨da1, oa1, dc1, oc1, rows1, rfl, hd1, ho1, hrw1, hrx1, hcp1, hsub1⟩
    refine WL.subE hsub1 ?_
    obtain ⟨ee1, ev1⟩ := fine_run (L := L) (ps := (ps.map (flP cc))) hL.chk hn3 (flp_ok hok hcc) (fun p hp => by rw [flp_flow p hp]; exact hcc.2) (ticks := 90) (t := 90) rfl ⟨by decide, by decide⟩
    rw [ev1] at hd1 hrx1 ⊢
    rw [ee1]
    clear ee1 ev1
    have hq := hq.mono hR3
    obtain ⟨q1_1, q2_1, q3_1, q4_1⟩ := send_rows (L := L) (t := 90) hL (hp3.one hcc) (by have := hok.len; rw [List.length_map]; omega)
    have hrl1 : rows1.length = 3 := by rw [← q2_1, ← hrx1, List.length_map]
    rw [hrl1, q1_1]
    have hx1 : ∀ r ∈ rows1, r.xs.length = 90 + 1 := fun r hr => (q3_1 r.xs (by rw [← hrx1]; exact List.mem_map_of_mem hr)).1
    generalize hq1 : sendL L 90 (ps.map (flP cc)) = Q1 at hd1 hrx1 q1_1 q2_1 q3_1 q4_1 ⊢
    rw [List.length_map]
    rw [List.length_map] at q1_1
    refine WG.run tab_ok 3 rfl ?_
    refine WL.ef rfl rfl (by decide) (Ef.alloc tab_ok rfl rfl (fun b8 => ?_))
    refine WL.efN rfl rfl (Ef.store0 0 tab_ok rfl rfl rfl rfl rfl rfl rfl rfl ?_)
    refine WG.run tab_ok 1 rfl ?_
    refine WG.nil ?_
    refine WE.nxt ?_
    refine W.seq ?_
    refine W.region _ ?_
    refine WG.run tab_ok 1 rfl ?_
    refine' WG.y rfl rfl (by decide) (Yl.load1 tab_ok rfl rfl rfl (fun _ => rfl) ?r2 rfl ?h2) ?_
    case r2 => apply Rd.add; (exact Rd.blk 1 rfl)
    case h2 => rfl
    refine WG.run tab_ok 1 rfl ?_
    refine WL.call en23 rfl rfl (by decide) (CallOp.mkT rfl rfl rfl rfl) (RRun16_any (ps := (ps.map (flP cc))) (cap := L.cap) (classes := 3) (ticks := 90) hq (List.length_map _) w0 _) ?_
    rintro _ R4 E3 hR4 ⟨da2, oa2, dc2, oc2, rows2, rfl, hd2, ho2, hrw2, hrx2, hsub2⟩
    refine WL.subE hsub2 ?_
    have hl0 : lrunE L.cap 3 90 (ps.map (flP cc)) = 0 := by
      unfold lrunE
      rw [if_neg (fun h => h ((validate_ok _).2 (flp_ok hok hcc)))]
      exact checkE_of (by unfold BadC; omega) (fun p hp => by rw [flp_flow p hp]; exact hcc.2)
    have hlo : lineOut L.cap 3 90 (ps.map (flP cc)) = ((mrun (ps.map (flP cc)) (fifo (ps.map (flP cc))) L.cap 3 90 ()).done, (mrun (ps.map (flP cc)) (fifo (ps.map (flP cc))) L.cap 3 90 ()).sent) := by unfold lineOut; rw [if_neg (fun h => h hl0)]; rfl
    rw [hl0]
    have ho1 := ho1.mono hR4
    have hd1 := hd1.mono hR4
    have hrw1 : ∀ r ∈ rows1, RS R4 1 encI r.a r.xs := fun r hr => (hrw1 r hr).mono hR4
    refine WG.run tab_ok 3 rfl ?_
    refine WL.ef rfl rfl (by decide) (Ef.alloc tab_ok rfl rfl (fun b10 => ?_))
    refine WL.efN rfl rfl (Ef.store0 0 tab_ok rfl rfl rfl rfl rfl rfl rfl rfl ?_)
    refine WG.run tab_ok 1 rfl ?_
    refine WG.nil ?_
    refine WE.nxt ?_
    refine W.seq ?_
    refine W.seq ?_
    refine W.region _ ?_
    refine WG.run tab_ok 3 rfl ?_
    refine WL.guardT rfl (by rfl) ?_
    refine WG.y rfl rfl (by decide) (pureV_ok tab_ok rfl (fun _ => rfl)) ?_
    refine WL.guardT rfl (by rfl) ?_
    refine WG.y rfl rfl (by decide) (pureV_ok tab_ok rfl (fun _ => rfl)) ?_
    refine WG.y rfl rfl (by decide) (Yl.por rfl rfl rfl (fun _ => rfl) (by intro h1 h2; simp_all <;> omega)) ?_
    refine WG.run tab_ok 1 rfl ?_
    refine WL.guardT rfl (by rfl) ?_
    refine WG.y rfl rfl (by decide) (pureV_ok tab_ok rfl (fun _ => rfl)) ?_
    refine WL.guardT rfl (by rfl) ?_
    refine' WG.y rfl rfl (by decide) (Yl.load1 tab_ok rfl rfl rfl (fun _ => rfl) ?r3 rfl ?h3) ?_
    case r3 => (exact Rd.blk 1 rfl)
    case h3 => rfl
    refine WL.guardT rfl (by rfl) ?_
    refine WG.callV en17 rfl rfl (by decide) (CallOp.mk' rfl rfl rfl rfl) (fun _ => rfl) (fun hg => Sound_V (n := 3) ho1 hrl1 (by decide) (by decide) (fun r hr => by rw [hx1 r hr]; rfl)) ?_
    refine WL.guardT rfl (by rfl) ?_
    refine WG.y rfl rfl (by decide) (pureV_ok tab_ok rfl (fun _ => rfl)) ?_
    refine WG.y rfl rfl (by decide) (Yl.por rfl rfl rfl (fun _ => rfl) (by intro h1 h2; simp_all <;> omega)) ?_
    refine WG.nil ?_
    refine WE.nxt ?_
    refine W.cond rfl (fun hc1 => ?_) (fun hc1 => ?_)
    · try simp only [decide_eq_true_eq, decide_eq_false_iff_not, beq_iff_eq, bne_iff_ne, beq_eq_false_iff_ne, bne_eq_false_iff_eq, ne_eq, Bool.or_eq_true, Bool.or_eq_false_iff, Bool.and_eq_true, Bool.and_eq_false_imp, Bool.not_eq_true, Bool.not_eq_true', Bool.not_eq_false', Classical.not_not, Int.not_lt, Int.not_le, gt_iff_lt, ge_iff_le] at hc1
      (simp at hc1; done)
    · try simp only [decide_eq_true_eq, decide_eq_false_iff_not, beq_iff_eq, bne_iff_ne, beq_eq_false_iff_ne, bne_eq_false_iff_eq, ne_eq, Bool.or_eq_true, Bool.or_eq_false_iff, Bool.and_eq_true, Bool.and_eq_false_imp, Bool.not_eq_true, Bool.not_eq_true', Bool.not_eq_false', Classical.not_not, Int.not_lt, Int.not_le, gt_iff_lt, ge_iff_le] at hc1
      refine W.skip ?_
      refine WE.nxt ?_
      refine W.seq ?_
      refine W.region _ ?_
      refine WG.run tab_ok 1 rfl ?_
      refine' WG.y rfl rfl (by decide) (Yl.load1 tab_ok rfl rfl rfl (fun _ => rfl) ?r4 rfl ?h4) ?_
      case r4 => apply Rd.add; (exact Rd.blk 2 rfl)
      case h4 => rfl
      refine WG.run tab_ok 2 rfl ?_
      refine' WG.y rfl rfl (by decide) (Yl.loadG tab_ok rfl rfl rfl qE ?r5 rfl ?h5 ?g5) ?_
      case r5 => (exact Rd.blkC 1 rfl)
      case h5 => rfl
      case g5 => exact fun _ => trivial
      refine' WG.y rfl rfl (by decide) (Yl.loadG tab_ok rfl rfl rfl qE ?r6 rfl ?h6 ?g6) ?_
      case r6 => (exact Rd.blkC 0 rfl)
      case h6 => rfl
      case g6 => exact fun _ => trivial
      refine WG.callV (v := .bool true) en24 rfl rfl (by decide) (CallOp.mk' rfl rfl rfl rfl) qE (fun hg => by
        have h5 : L.kind ≠ 5 := by simpa using hg
        have hal := (alone_send (t := 90) hL (hp3.one hcc) h5 flp_flow).trans hlo.symm
        rw [hq1] at hal
        have h := Same16_V (dac := dc1) (dbc := dc2) (oac := oc1) (obc := oc2) hd1 hd2 ho1 ho2 hrw1 hrw2 (by rw [hal]) (by rw [hrx1, hrx2, hal])
        rw [q1_1, hrl1] at h
        exact h) ?_
      refine WG.y rfl rfl (by decide) (Yl.por rfl rfl rfl (fun _ => rfl) (by intro h1 h2; simp_all <;> omega)) ?_
      refine WG.run tab_ok 1 rfl ?_
      refine WL.guardT rfl (by first | rfl | simp) ?_
      refine WL.call en19 rfl rfl (by decide) (CallOp.mkT rfl rfl rfl rfl) (Awake22_C w0 _) ?_
      rintro _ R5 E9 hR5 ⟨rfl, hsub9⟩
      refine WL.subE hsub9 ?_
      refine WG.y rfl rfl (by decide) (Yl.pand rfl rfl rfl (fun _ => rfl) (by intro h1 h2; simp_all <;> omega)) ?_
      refine WG.run tab_ok 1 rfl ?_
      refine WG.nil ?_
      refine WE.nxt ?_
      refine W.ret ?_
      refine WE.retF tab_ok [_] rfl ⟨rfl, trivial⟩ (hR0.trans (hR2.trans (hR3.trans (hR4.trans hR5)))) ?_
      show Value.bool ((L.kind == 5 || true) && true) = Value.bool true
      exact congrArg Value.bool (by simp)

end Go.Proofs.YtlgjkmebpnnphaaGreat

/- ServerAlone: for every list of numbers the law returns true, and the list reads afterwards as it read before. No condition. -/
namespace Go.Proofs.YtlgjkmebpnnphaaGreat
open Go Go.RowKit Go.ChangeShapes Go.WideShapes Go.ChangeAt Go.WideElems Go.Maps Go.Proofs.YtlgjkmebpnnphaaGreat.K
namespace serverAlone
theorem law : LawI Tryz.prog 7 := fun ha hc w0 => ServerAlone_F ha hc w0
theorem own : ownKnob Tryz.prog.godebug = none := by kernel_rfl
theorem laidOut : laidOutB Tryz.prog = true := by kernel_rfl
theorem cellsI : Tryz.prog.cellsOf 3 = 1 := by kernel_rfl
set_option maxRecDepth 100000 in
theorem lifted (os : Os) (started : os.Started) (H : Type) (enc : TypeId × Value → H) :
    ReturnsInHanded {} Tryz.checked os 7 .any (Rows.serverAloneSpec.pre6 enc Tryz.prog Tryz.f7 Rows.serverAloneRow.domain false) (Rows.serverAloneSpec.post enc Tryz.prog Tryz.f7 false true false false) := by
  refine returnsInHanded_of_change (C := Tryz.checked) own started (by kernel_rfl) Tryz.func7
    (ChangeSpec.witness6 (enc := enc) (C := Tryz.checked) false ⟨#[], #[.slice none 0 0], []⟩ 8 (by kernel_rfl) (by kernel_rfl) (by kernel_rfl) (by kernel_rfl)) ?_
  intro W base args ds gs before hval0 hW _ _
  have hval : ∀ (j : Nat) t v, Tryz.f7.params[j]? = some t → args[j]? = some v → Value.okWide Tryz.prog W .any base t v := hval0
  have hW' := hW
  obtain ⟨p, q, hA0, hV, rfl, _, _⟩ := hW
  have hA : DataW.TrodAll enc Tryz.prog W 0 (fun _ => true) true Tryz.f7.params.toList args.toList ds p := hA0
  rw [Tryz.params7] at hA hval
  obtain ⟨v0, d0, rfl, rfl, h0⟩ := trodAll_one hA
  obtain ⟨rfl, rfl⟩ := trodVars_none hV
  have h0k := h0
  obtain ⟨fuel, hf⟩ := h0
  clear hA0 hval0
  simp only [List.append_nil] at hW'
  have hlt : ∀ x ∈ p, x.block < W.heap.size := fun x hx => by simpa using hW'.lt x hx
  have hargs : ∀ W', Below W.heap.size W W' → DataW.Trod enc Tryz.prog W' 0 (fun b => decide (b < W.heap.size)) true 22 v0 d0 p := fun W' hb =>
    Below.trod laidOut (by kernel_rfl) (of_decide_eq_true (by kernel_rfl)) h0k hb hlt
  obtain ⟨a0, len, cap, rfl⟩ := okWide_slice Tryz.underlying22 (hval 0 22 v0 rfl rfl)
  rcases open_ints Tryz.underlying22 Tryz.underlying3 cellsI hf with ⟨hcs, hx⟩ | ⟨a, len', cap', zs, hcs, _, hl, hm, hz, hx, hcell, hwz⟩
  · simp [Value.cells] at hcs
    obtain ⟨rfl, rfl, rfl⟩ := hcs
    simp only [Prod.mk.injEq] at hx
    obtain ⟨rfl, rfl⟩ := hx
    refine (law.nil W).mono fun e W' ⟨he, hb⟩ => ?_
    subst he
    exact ⟨_, rfl, ⟨_, _, _, [], _, [], hW', trodAll_mk1 (shut_bool Tryz.underlying4 _), trodAll_mk1 (hargs W' hb), rfl, hb.frame _, fun h => by cases h⟩⟩
  · simp [Value.cells] at hcs
    obtain ⟨rfl, rfl, rfl⟩ := hcs
    simp only [Prod.mk.injEq] at hx
    obtain ⟨rfl, rfl⟩ := hx
    simp only [if_true] at hz
    refine (law.some (len := len) hcell (by rw [hz]; simp only [maxLen] at hm; omega) hz hl).mono fun e W' ⟨he, hb⟩ => ?_
    subst he
    exact ⟨_, rfl, ⟨_, _, _, [], _, [], hW', trodAll_mk1 (shut_bool Tryz.underlying4 _), trodAll_mk1 (hargs W' hb), rfl, hb.frame _, fun h => by cases h⟩⟩
end serverAlone
theorem serverAlone_holds : Rows.ServerAloneSaid :=
  OpenClaim.holds_of_wide 7 Tryz.f7 rfl rfl rfl rfl rfl rfl rfl ⟨rfl, rfl, rfl, rfl, rfl⟩ rfl rfl rfl rfl rfl (by kernel_rfl) Tryz.func7 (by kernel_rfl)
    (of_decide_eq_true (by kernel_rfl)) (by unfold Func.isWrapper; first | (rw [if_pos (by decide +kernel)]; kernel_rfl) | (rw [if_neg (by decide +kernel)]; exact ⟨rfl, rfl⟩))
    (fun os started H enc _ => serverAlone.lifted os started H enc)
end Go.Proofs.YtlgjkmebpnnphaaGreat
