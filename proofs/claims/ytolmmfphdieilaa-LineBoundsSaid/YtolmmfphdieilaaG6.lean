/- LineBounds: for every list of numbers the law returns true, and the list reads afterwards as it read before. No condition. -/
import Derived.Test.YtolmmfphdieilaaG5
/- A small finite curve that a statement makes, 0 at the tick 0. No condition. -/
set_option linter.unusedSimpArgs false
set_option linter.unusedVariables false
namespace Go.Proofs.Ytolmmfphdieilaa
open Go Go.RowKit Go.Proofs.Ytolmmfphdieilaa.K Go.Proofs.Ytolmmfphdieilaa.M

theorem Zero_C {R : Ro} {b : Nat} {a : Option Addr} {cp : Nat} {xs : List Int} {c : Nat} (w0 : World) (ha : RS R 1 encI a xs) {most : Nat} (hmo : 1 ≤ most ∧ most ≤ 20) : FnAt Try.prog 11 [.pointer (some ⟨b, 0, none⟩), .int .i64 (most : Int)] w0 R (srcE b a cp xs c) (fun v R' e' N => ∃ (f : Option Addr) (fc cn : Nat) (cv : Cv), v = .agg #[.slice f cv.vals.length fc, .int .i64 cv.per, .int .i64 cv.inc] ∧ RS R' 1 encI f cv.vals ∧ SmallC cv ∧ finB cv = true ∧ nth cv.vals 0 = 0 ∧ cv.vals.length ≤ fc ∧ e' = srcE b a cp xs cn ∧ N = []) := by
  intro F
  refine Fn.enter (n := 58) Try.func11 rfl rfl (Nat.le_of_ble_eq_true rfl) rfl ?_
  refine W.seq ?_
  refine W.region _ ?_
  refine WL.ef rfl rfl (by decide) (Ef.alloc tab_ok rfl rfl (fun b4 => ?_))
  refine WG.nil ?_
  refine WE.nxt ?_
  refine W.seq ?_
  refine W.region _ ?_
  refine WG.run tab_ok 2 rfl ?_
  refine WL.callAt 1 en24 rfl rfl (by decide) (CallOp.mkT rfl rfl rfl rfl) rfl (KCurve_C w0 ha hmo _) ?_
  rintro _ RC _ _ hRC ⟨fa, fc, c1, cv, rfl, hfa, hsc, hcc, rfl, rfl⟩
  have ha := ha.mono hRC
  refine WL.ef rfl rfl (by decide) (Ef.alloc tab_ok rfl rfl (fun b5 => ?_))
  refine WL.efN rfl rfl (Ef.store0 0 tab_ok rfl rfl rfl rfl rfl rfl rfl rfl ?_)
  refine WG.nil ?_
  refine WE.nxt ?_
  refine W.seq ?_
  refine W.block ?_
  refine W.loopR (β := Cv × Option Addr × Nat × Nat × Ro) (fun (ck, fk, gk, cn, Rk) => RLe RC Rk ∧ RS Rk 1 encI fk ck.vals ∧ SmallC ck ∧ ck.vals.length ≤ gk) (fun (ck, fk, gk, cn, Rk) => []) [0, 4, 5] [_, _, _] [] _ rfl (fun (ck, fk, gk, cn, Rk) => [(0, .blk b5 [.slice fk ck.vals.length gk, .int .i64 ck.per, .int .i64 ck.inc]), (2, srcE b a cp xs cn)]) (fun (ck, fk, gk, cn, Rk) => Rk) (fun (ck, fk, gk, cn, Rk) => (if finB ck = true then 0 else 1)) ((cv, fa, fc, c1, RC)) (⟨RLe.refl _, hfa, hsc, hcc⟩) ⟨rfl, rfl, rfl, rfl⟩ (RLe.refl _) qS ?_
  intro zz hst
  obtain ⟨ck, fk, gk, cn, Rk⟩ := zz
  dsimp only [zipE, setAll, List.cons_append, List.nil_append, List.set_cons_zero, List.set_cons_succ] at hst ⊢
  obtain ⟨hRk, hfk, hsk, hgk⟩ := hst
  have ha := ha.mono hRk
  have hvr := valid_range hsk.valid
  refine W.seq ?_
  refine W.seq ?_
  refine W.region _ ?_
  refine WG.run tab_ok 1 rfl ?_
  refine' WG.y rfl rfl (by decide) (Yl.load1 tab_ok rfl rfl rfl (fun _ => rfl) ?r1 rfl ?h1) ?_
  case r1 => apply Rd.add; (exact Rd.blk 0 rfl)
  case h1 => rfl
  refine WG.run tab_ok 1 rfl ?_
  refine' WG.y rfl rfl (by decide) (Yl.load1 tab_ok rfl rfl rfl (fun _ => rfl) ?r2 rfl ?h2) ?_
  case r2 => apply Rd.add; (exact Rd.blk 0 rfl)
  case h2 => rfl
  refine WG.run tab_ok 1 rfl ?_
  refine WG.y rfl rfl (by decide) (Yl.sub rfl rfl rfl (fun _ => rfl) (by intro _; constructor <;> (try dsimp only) <;> omega)) ?_
  refine WG.y rfl rfl (by decide) (Yl.index tab_ok rfl rfl rfl rfl rfl rfl (fun _ => rfl) (by intro _; constructor <;> (try dsimp only) <;> omega) (by intro _; first | exact fun _ _ _ _ => ha40 (by omega) | exact fun _ _ _ _ => rfl | exact RS.has (by assumption) | exact fun _ _ _ _ => (by assumption) | exact HasMem.ownD 0 rfl | exact HasMem.ownD 1 rfl | exact HasMem.ownD 2 rfl | exact HasMem.ownD 3 rfl | exact HasMem.ownD 4 rfl | exact HasMem.ownD 5 rfl)) ?_
  refine' WG.y rfl rfl (by decide) (Yl.load1 tab_ok rfl rfl rfl (fun _ => rfl) ?r3 rfl ?h3) ?_
  case r3 => ((apply RS.rdD; assumption; ((try dsimp only) <;> omega)))
  case h3 => rfl
  refine WG.run tab_ok 1 rfl ?_
  refine WG.nil ?_
  refine WE.nxt ?_
  refine W.condE rfl (fun hc0 => ?_) (fun hc0 => ?_)
  · try dsimp only at hc0
    have hfF : finB ck = false := by unfold finB; rw [bne_eq_false_iff_eq, show ck.vals.length - 1 = ((ck.vals.length : Int) - 1).toNat by omega]; exact hc0
    refine W.skip ?_
    refine WE.nxt ?_
    refine W.block ?_
    refine W.region _ ?_
    refine WG.run tab_ok 1 rfl ?_
    refine WL.callAt 2 en12 rfl rfl (by decide) (CallOp.mkT rfl rfl rfl rfl) rfl (N_C w0 ha (by constructor <;> omega) _) ?_
    rintro _ _ _ _ - ⟨rfl, rfl, rfl, rfl⟩
    have hq1 := mod_range (nth xs cn) (show (1 : Int) ≤ 5 by decide)
    refine WG.y rfl rfl (by decide) (Yl.add rfl rfl rfl (fun _ => rfl) (by intro _; constructor <;> (try dsimp only) <;> omega)) ?_
    refine WL.ef rfl rfl (by decide) (Ef.buildSliceD (enc := encI) (parts := [.const (.int .i64 0), .const (.int .i64 4), .tmp 22]) [_, _, _] tab_ok rfl rfl rfl rfl rfl rfl rfl rfl (by decide) (by decide) (fun a23 => ?_))
    refine WG.run tab_ok 1 rfl ?_
    refine WL.callAt 3 en12 rfl rfl (by decide) (CallOp.mkT rfl rfl rfl rfl) rfl (N_C w0 ha (by constructor <;> omega) _) ?_
    rintro _ _ _ _ - ⟨rfl, rfl, rfl, rfl⟩
    have hq2 := mod_range (nth xs (cn + 1)) (show (1 : Int) ≤ 2 by decide)
    refine WG.y rfl rfl (by decide) (Yl.add rfl rfl rfl (fun _ => rfl) (by intro _; constructor <;> (try dsimp only) <;> omega)) ?_
    -- build
    refine WG.y rfl rfl (by decide) (Yl.build (parts := [(0, .tmp 23), (1, .tmp 26), (2, .const (.int .i64 8))]) tab_ok rfl rfl rfl rfl (fun _ => rfl) rfl rfl) ?_
    refine WL.efN rfl rfl (Ef.store0 1 tab_ok rfl rfl rfl rfl rfl rfl rfl rfl ?_)
    refine WL.freeze (enc := encI) (xs := [0, 4, 4 + mod (nth xs cn) 5]) 0 rfl ?_
    intro R1 hR1 hfz
    refine WG.nil ?_
    refine WE.blk _ ?_
    refine WE.again ((⟨[0, 4, 4 + mod (nth xs cn) 5], 1 + mod (nth xs (cn + 1)) 2, 8⟩, some ⟨a23, 0, none⟩, 3, cn + 1 + 1, R1)) (⟨hRk.trans hR1, hfz, (small_lit hq1 hq2).1, Nat.le_refl _⟩) (by dsimp only; rw [hfF, (small_lit hq1 hq2).2]; decide) ⟨rfl, rfl, rfl, rfl⟩ (RLe.refl _) qS
  · try dsimp only at hc0
    have hfT : finB ck = true := by unfold finB; rw [bne_iff_ne, show ck.vals.length - 1 = ((ck.vals.length : Int) - 1).toNat by omega]; exact hc0
    refine W.exit ?_
    refine WE.then_exit ?_
    refine WE.then_exit ?_
    refine WE.blk_exit ?_
    refine WE.nxt ?_
    refine W.seq ?_
    refine W.seq ?_
    refine W.region _ ?_
    refine WG.run tab_ok 1 rfl ?_
    refine' WG.y rfl rfl (by decide) (Yl.load1 tab_ok rfl rfl rfl (fun _ => rfl) ?r4 rfl ?h4) ?_
    case r4 => apply Rd.add; (exact Rd.blk 0 rfl)
    case h4 => rfl
    refine WG.y rfl rfl (by decide) (Yl.indexN tab_ok rfl rfl rfl rfl rfl rfl (fun _ => rfl) (by intro _; (try dsimp only) <;> omega) (by intro _; first | exact fun _ _ _ _ => ha40 (by omega) | exact fun _ _ _ _ => rfl | exact RS.has (by assumption) | exact fun _ _ _ _ => (by assumption) | exact HasMem.ownD 0 rfl | exact HasMem.ownD 1 rfl | exact HasMem.ownD 2 rfl | exact HasMem.ownD 3 rfl | exact HasMem.ownD 4 rfl | exact HasMem.ownD 5 rfl)) ?_
    refine' WG.y rfl rfl (by decide) (Yl.load1 tab_ok rfl rfl rfl (fun _ => rfl) ?r5 rfl ?h5) ?_
    case r5 => ((apply RS.rdD; assumption; ((try dsimp only) <;> omega)))
    case h5 => rfl
    refine WG.run tab_ok 1 rfl ?_
    refine WG.nil ?_
    refine WE.nxt ?_
    refine W.condD rfl (fun hc1 => ?_) (fun hc1 => ?_)
    · try dsimp only at hc1
      refine W.seq ?_
      refine W.region _ ?_
      refine WG.run tab_ok 1 rfl ?_
      refine' WG.y rfl rfl (by decide) (Yl.load1 tab_ok rfl rfl rfl (fun _ => rfl) ?r6 rfl ?h6) ?_
      case r6 => apply Rd.add; (exact Rd.blk 0 rfl)
      case h6 => rfl
      refine WG.y rfl rfl (by decide) (Yl.indexN tab_ok rfl rfl rfl rfl rfl rfl (fun _ => rfl) (by intro _; (try dsimp only) <;> omega) (by intro _; first | exact fun _ _ _ _ => ha40 (by omega) | exact fun _ _ _ _ => rfl | exact RS.has (by assumption) | exact fun _ _ _ _ => (by assumption) | exact HasMem.ownD 0 rfl | exact HasMem.ownD 1 rfl | exact HasMem.ownD 2 rfl | exact HasMem.ownD 3 rfl | exact HasMem.ownD 4 rfl | exact HasMem.ownD 5 rfl)) ?_
      refine' WG.y rfl rfl (by decide) (Yl.load1 tab_ok rfl rfl rfl (fun _ => rfl) ?r7 rfl ?h7) ?_
      case r7 => ((apply RS.rdD; assumption; ((try dsimp only) <;> omega)))
      case h7 => rfl
      refine WG.run tab_ok 1 rfl ?_
      refine WG.nil ?_
      refine WE.nxt ?_
      refine W.seq ?_
      refine W.region _ ?_
      refine WL.ef rfl rfl (by decide) (Ef.buildSliceD (enc := encI) (parts := []) [] tab_ok rfl rfl rfl rfl rfl rfl rfl rfl (by decide) (by decide) (fun a37 => ?_))
      refine WG.run tab_ok 1 rfl ?_
      refine' WG.y rfl rfl (by decide) (Yl.load1 tab_ok rfl rfl rfl (fun _ => rfl) ?r8 rfl ?h8) ?_
      case r8 => apply Rd.add; (exact Rd.blk 1 rfl)
      case h8 => rfl
      refine WL.ef rfl rfl (by decide) (Ef.cloneL (enc := encI) 0 tab_ok rfl rfl rfl rfl rfl rfl rfl rfl rfl rfl hfk (fun _ _ => rfl) (by dsimp only; omega) (by omega) (fun a40 c40 ha40 => ?_))
      refine WG.run tab_ok 1 rfl ?_
      refine WL.efN rfl rfl (Ef.store 1 tab_ok rfl rfl rfl rfl rfl rfl rfl rfl ?_)
      refine WG.nil ?_
      refine WE.nxt ?_
      refine W.seq ?_
      refine W.region _ ?_
      refine WG.run tab_ok 1 rfl ?_
      refine' WG.y rfl rfl (by decide) (Yl.load1 tab_ok rfl rfl rfl (fun _ => rfl) ?r9 rfl ?h9) ?_
      case r9 => apply Rd.add; (exact Rd.blk 1 rfl)
      case h9 => rfl
      refine WG.run tab_ok 2 rfl ?_
      refine WG.nil ?_
      refine WE.nxt ?_
      refine W.block ?_
      refine W.loopK (β := Nat × List Int) (fun (i, zs) => i ≤ zs.length ∧ zs.length = ck.vals.length ∧ ∀ j, j < ck.vals.length → nth zs j = (if j < i then nth ck.vals j - nth ck.vals 0 else nth ck.vals j)) (fun (i, zs) => [(45, true, .int .i64 (i : Int))]) [4, 5, 6, 44] [_, _, _, _] [] _ rfl (fun (i, zs) => [(0, .sl 3 1 a40 c40 (zs.map encI))]) (fun (i, zs) => zs.length - i) ((0, ck.vals)) (⟨Nat.zero_le _, rfl, fun j hj => by rw [if_neg (by omega)]⟩) ⟨rfl, rfl, rfl, rfl, rfl, rfl⟩ qS ?_
      intro st hst
      obtain ⟨i, zs⟩ := st
      dsimp only [zipE, setAll, List.cons_append, List.nil_append, List.set_cons_zero, List.set_cons_succ] at hst ⊢
      obtain ⟨hi, hzl, hz⟩ := hst
      refine W.seq ?_
      refine W.region _ ?_
      refine WG.run tab_ok 1 rfl ?_
      refine WG.nil ?_
      refine WE.nxt ?_
      refine W.seq ?_
      refine W.condD rfl (fun hc2 => ?_) (fun hc2 => ?_)
      · try dsimp only at hc2
        have hil : i < zs.length := by omega
        have hzi := hz i (by omega)
        rw [if_neg (by omega)] at hzi
        have hb1 := hvr.1 _ (nth_mem (xs := ck.vals) (k := i) (by omega))
        have hb0 := hvr.1 _ (nth_mem (xs := ck.vals) (k := 0) (by omega))
        refine W.skip ?_
        refine WE.nxt ?_
        refine W.seq ?_
        refine W.block ?_
        refine W.seq ?_
        refine W.region _ ?_
        refine WG.run tab_ok 2 rfl ?_
        refine WG.nil ?_
        refine WE.nxt ?_
        refine W.region _ ?_
        refine WG.run tab_ok 1 rfl ?_
        refine' WG.y rfl rfl (by decide) (Yl.load1 tab_ok rfl rfl rfl (fun _ => rfl) ?r10 rfl ?h10) ?_
        case r10 => apply Rd.add; (exact Rd.blk 1 rfl)
        case h10 => rfl
        refine WG.run tab_ok 1 rfl ?_
        refine WG.y rfl rfl (by decide) (Yl.indexN tab_ok rfl rfl rfl rfl rfl rfl (fun _ => rfl) (by intro _; (try dsimp only) <;> omega) (by intro _; first | exact fun _ _ _ _ => ha40 (by omega) | exact fun _ _ _ _ => rfl | exact RS.has (by assumption) | exact fun _ _ _ _ => (by assumption) | exact HasMem.ownD 0 rfl | exact HasMem.ownD 1 rfl | exact HasMem.ownD 2 rfl | exact HasMem.ownD 3 rfl | exact HasMem.ownD 4 rfl | exact HasMem.ownD 5 rfl)) ?_
        refine' WG.y rfl rfl (by decide) (Yl.load1 tab_ok rfl rfl rfl (fun _ => rfl) ?r11 rfl ?h11) ?_
        case r11 => (exact Rd.slD 0 rfl (by (try dsimp only) <;> omega))
        case h11 => rfl
        refine WG.run tab_ok 1 rfl ?_
        refine WG.y rfl rfl (by decide) (Yl.sub rfl rfl rfl (fun _ => rfl) (by intro _; constructor <;> (try dsimp only) <;> omega)) ?_
        refine WG.y rfl rfl (by decide) (Yl.indexN tab_ok rfl rfl rfl rfl rfl rfl (fun _ => rfl) (by intro _; (try dsimp only) <;> omega) (by intro _; first | exact fun _ _ _ _ => ha40 (by omega) | exact fun _ _ _ _ => rfl | exact RS.has (by assumption) | exact fun _ _ _ _ => (by assumption) | exact HasMem.ownD 0 rfl | exact HasMem.ownD 1 rfl | exact HasMem.ownD 2 rfl | exact HasMem.ownD 3 rfl | exact HasMem.ownD 4 rfl | exact HasMem.ownD 5 rfl)) ?_
        refine WL.efN rfl rfl (Ef.storeD _ 0 tab_ok rfl rfl rfl rfl rfl (by (try dsimp only) <;> omega) rfl rfl rfl rfl ?_)
        refine WG.nil ?_
        refine WE.blk _ ?_
        refine WE.nxt ?_
        refine W.region _ ?_
        refine WG.y rfl rfl (by decide) (Yl.add rfl rfl rfl (fun _ => rfl) (by intro _; constructor <;> (try dsimp only) <;> omega)) ?_
        refine WG.run tab_ok 1 rfl ?_
        refine WG.nil ?_
        refine WE.again ((i + 1, zs.set i (nth zs i - nth ck.vals 0))) (⟨by dsimp only; rw [List.length_set]; omega, by dsimp only; rw [List.length_set]; exact hzl, fun j hj => by
          by_cases e : i = j
          · subst e; rw [nth_set_self (by omega), if_pos (by omega), hzi]
          · rw [nth_set_ne e, hz j hj]
            by_cases h2 : j < i
            · rw [if_pos h2, if_pos (by omega)]
            · rw [if_neg h2, if_neg (by omega)]⟩) (by dsimp only; rw [List.length_set]; omega) ⟨rfl, rfl, rfl, rfl, rfl, rfl⟩ (RLe.refl _) qS
      · try dsimp only at hc2
        obtain hiE : i = zs.length := by omega
        refine W.cap 0 rfl ?_
        intro hcp
        rw [List.length_map] at hcp
        refine W.freeze (enc := encI) (xs := zs) 0 rfl ?_
        intro R2 hR2 hfz
        obtain ⟨hsz, hfz2, hz0⟩ := small_sub hsk hfT hzl (fun j hj => by rw [hz j hj, if_pos (by omega)])
        refine W.exit ?_
        refine WE.then_exit ?_
        refine WE.then_exit ?_
        refine WE.blk_exit ?_
        refine WE.nxt ?_
        refine W.seq ?_
        refine W.region _ ?_
        refine' WG.y rfl rfl (by decide) (Yl.load1 tab_ok rfl rfl rfl (fun _ => rfl) ?r12 rfl ?h12) ?_
        case r12 => (exact Rd.blk 0 rfl)
        case h12 => rfl
        refine WL.efN rfl rfl (Ef.store0 1 tab_ok rfl rfl rfl rfl rfl rfl rfl rfl ?_)
        refine WG.nil ?_
        refine WE.nxt ?_
        refine W.ret ?_
        refine WE.retFS (E' := srcE b a cp xs (cn) :: F) qS tab_ok [_] rfl ⟨⟨_, _, _, rfl, rfl, rfl, ((by first | exact Rd.blk 0 rfl | exact Rd.blk 1 rfl | exact Rd.blk 2 rfl | exact Rd.blk 3 rfl | exact Rd.blk 4 rfl | exact Rd.blk 5 rfl)), rfl⟩, trivial⟩ ((by first | exact hRC.trans (hRk.trans hR2) | exact hRC.trans hRk)) ?_
        exact ⟨_, [], rfl, a40, c40, cn, ⟨zs, ck.per, ck.inc⟩, by dsimp only; rw [hzl]; rfl, hfz, hsz, hfz2, hz0, hcp, rfl, rfl⟩
    · try dsimp only at hc1
      have h00 : nth ck.vals 0 = 0 := by have := valid_each hsk.valid 0 (by omega); unfold INF at this; omega
      refine W.skip ?_
      refine WE.nxt ?_
      refine W.seq ?_
      refine W.region _ ?_
      refine' WG.y rfl rfl (by decide) (Yl.load1 tab_ok rfl rfl rfl (fun _ => rfl) ?r13 rfl ?h13) ?_
      case r13 => (exact Rd.blk 0 rfl)
      case h13 => rfl
      refine WL.efN rfl rfl (Ef.store0 1 tab_ok rfl rfl rfl rfl rfl rfl rfl rfl ?_)
      refine WG.nil ?_
      refine WE.nxt ?_
      refine W.ret ?_
      refine WE.retFS (E' := srcE b a cp xs (cn) :: F) qS tab_ok [_] rfl ⟨⟨_, _, _, rfl, rfl, rfl, ((by first | exact Rd.blk 0 rfl | exact Rd.blk 1 rfl | exact Rd.blk 2 rfl | exact Rd.blk 3 rfl | exact Rd.blk 4 rfl | exact Rd.blk 5 rfl)), rfl⟩, trivial⟩ ((by first | exact hRC.trans (hRk.trans hR2) | exact hRC.trans hRk)) ?_
      exact ⟨_, [], rfl, fk, gk, cn, ck, rfl, hfk, hsk, hfT, h00, hgk, rfl, rfl⟩

end Go.Proofs.Ytolmmfphdieilaa

/- Finite curves: values, gains, validity. No condition. -/
set_option linter.unusedSimpArgs false
set_option linter.unusedVariables false
namespace Go.Proofs.Ytolmmfphdieilaa
open Go Go.RowKit Go.Proofs.Ytolmmfphdieilaa.K Go.Proofs.Ytolmmfphdieilaa.M

theorem WAt_V {R : Ro} {fa : Option Addr} {fc : Nat} {F : Nat → Int} {S P : Nat} {I : Int} (hf : FC F S P I) (ha : RS R 1 encI fa (fvals F (S + P))) {t : Nat} (ht : t ≤ 1000000000000000000) (hG : F t ≤ 4000000000000000000) : FnV Try.prog 68 [.agg #[.slice fa (fvals F (S + P)).length fc, .int .i64 (P : Int), .int .i64 I], .int .i64 (t : Int)] R (.int .i64 (F t)) := by
  have hfl := fvals_len F (S + P)
  have hP := hf.hP
  have hn := hf.hn
  have hI := hf.hI
  refine Fn.toV (fun w0 E => ?_)
  refine Fn.enter (n := 45) Try.func68 rfl rfl (Nat.le_of_ble_eq_true rfl) rfl ?_
  refine W.seq ?_
  refine W.region _ ?_
  refine WL.ef rfl rfl (by decide) (Ef.box rfl rfl (fun b2 => ?_))
  refine WG.run tab_ok 1 rfl ?_
  refine WG.nil ?_
  refine WE.nxt ?_
  refine W.seq ?_
  refine W.region _ ?_
  refine WG.run tab_ok 1 rfl ?_
  refine' WG.y rfl rfl (by decide) (Yl.load1 tab_ok rfl rfl rfl (fun _ => rfl) ?r1 rfl ?h1) ?_
  case r1 => apply Rd.add; (exact Rd.blk 0 rfl)
  case h1 => rfl
  refine WG.run tab_ok 2 rfl ?_
  refine WG.nil ?_
  refine WE.nxt ?_
  refine W.seq ?_
  refine W.seq ?_
  refine W.region _ ?_
  refine WG.run tab_ok 3 rfl ?_
  refine WG.nil ?_
  refine WE.nxt ?_
  refine W.condD rfl (fun hc0 => ?_) (fun hc0 => ?_)
  · try dsimp only at hc0
    have htl : t < S + P := by omega
    refine W.seq ?_
    refine W.region _ ?_
    refine WG.run tab_ok 1 rfl ?_
    refine' WG.y rfl rfl (by decide) (Yl.load1 tab_ok rfl rfl rfl (fun _ => rfl) ?r2 rfl ?h2) ?_
    case r2 => apply Rd.add; (exact Rd.blk 0 rfl)
    case h2 => rfl
    refine WG.run tab_ok 1 rfl ?_
    refine WG.y rfl rfl (by decide) (Yl.indexN tab_ok rfl rfl rfl rfl rfl rfl (fun _ => rfl) (by intro _; (try dsimp only) <;> omega) (by intro _; first | exact fun _ _ _ _ => rfl | exact RS.has (by assumption) | exact fun _ _ _ _ => (by assumption) | exact HasMem.ownD 0 rfl | exact HasMem.ownD 1 rfl)) ?_
    refine' WG.y rfl rfl (by decide) (Yl.load1 tab_ok rfl rfl rfl (fun _ => rfl) ?r3 rfl ?h3) ?_
    case r3 => ((apply RS.rdD; assumption; ((try dsimp only) <;> omega)))
    case h3 => rfl
    refine WG.run tab_ok 1 rfl ?_
    refine WG.nil ?_
    refine WE.nxt ?_
    refine W.ret ?_
    refine WE.then_ret ?_
    refine WE.subE (E' := E) qS ?_
    refine WE.retF tab_ok [_] rfl ⟨rfl, trivial⟩ (RLe.refl _) ?_
    exact ⟨by rw [fvals_nth F htl]; rfl, rfl⟩
  · try dsimp only at hc0
    obtain ⟨q, hq⟩ := Int.eq_ofNat_of_zero_le (show 0 ≤ ((t : Int) - ((fvals F (S + P)).length : Int)) / (P : Int) from Int.ediv_nonneg (by omega) (by omega))
    have hq1 : (q : Int) * P ≤ (t : Int) - (S + P : Nat) := by rw [← hfl, ← hq]; exact Int.ediv_mul_le _ (by omega)
    have hq2 : (t : Int) - (S + P : Nat) < P * (q : Int) + P := by rw [← hfl, ← hq]; exact Int.lt_mul_ediv_self_add (by omega)
    rw [Int.mul_comm] at hq2
    have hq3 : (q + 1) * P = q * P + P := by rw [Nat.add_mul]; omega
    have hq4 : ((q * P : Nat) : Int) = (q : Int) * P := by rw [Int.natCast_mul]
    have hq5 : ((q : Int) + 1) * (P : Int) = (((q + 1) * P : Nat) : Int) := by rw [Int.natCast_mul]; rfl
    have hqle : q ≤ t := Nat.le_trans (Nat.le_mul_of_pos_right q (show 0 < P by omega)) (by omega)
    have hgm := hf.hg.mul (q + 1) (t - (q + 1) * P) (by omega)
    rw [show t - (q + 1) * P + (q + 1) * P = t by omega, show ((q + 1 : Nat) : Int) = (q : Int) + 1 from rfl] at hgm
    have hF0 := hf.nonneg (t - (q + 1) * P)
    have hF1 := hf.fin (t := t - (q + 1) * P) (by omega)
    have hqI : 0 ≤ ((q : Int) + 1) * I := Int.mul_nonneg (by omega) (by omega)
    refine W.skip ?_
    refine WE.nxt ?_
    refine W.seq ?_
    refine W.region _ ?_
    refine WG.run tab_ok 2 rfl ?_
    refine WG.y rfl rfl (by decide) (Yl.sub rfl rfl rfl (fun _ => rfl) (by intro _; constructor <;> (try dsimp only) <;> omega)) ?_
    refine WG.run tab_ok 1 rfl ?_
    refine' WG.y rfl rfl (by decide) (Yl.load1 tab_ok rfl rfl rfl (fun _ => rfl) ?r4 rfl ?h4) ?_
    case r4 => apply Rd.add; (exact Rd.blk 0 rfl)
    case h4 => rfl
    refine WG.y rfl rfl (by decide) (Yl.quo rfl rfl rfl (fun _ => rfl) (by intro _; constructor <;> (try dsimp only) <;> omega) (by intro _; omega)) ?_
    refine WG.y rfl rfl (by decide) (Yl.add rfl rfl rfl (fun _ => rfl) (by intro _; constructor <;> (try dsimp only) <;> omega)) ?_
    refine WG.run tab_ok 1 rfl ?_
    refine WG.nil ?_
    refine WE.nxt ?_
    rw [hq]
    refine W.seq ?_
    refine W.region _ ?_
    refine WG.run tab_ok 1 rfl ?_
    refine' WG.y rfl rfl (by decide) (Yl.load1 tab_ok rfl rfl rfl (fun _ => rfl) ?r5 rfl ?h5) ?_
    case r5 => apply Rd.add; (exact Rd.blk 0 rfl)
    case h5 => rfl
    refine WG.run tab_ok 3 rfl ?_
    refine' WG.y rfl rfl (by decide) (Yl.load1 tab_ok rfl rfl rfl (fun _ => rfl) ?r6 rfl ?h6) ?_
    case r6 => apply Rd.add; (exact Rd.blk 0 rfl)
    case h6 => rfl
    refine WG.y rfl rfl (by decide) (Yl.mul rfl rfl rfl (fun _ => rfl) (by intro _; constructor <;> (try dsimp only) <;> omega)) ?_
    refine WG.y rfl rfl (by decide) (Yl.sub rfl rfl rfl (fun _ => rfl) (by intro _; constructor <;> (try dsimp only) <;> omega)) ?_
    rw [hq5, show (t : Int) - (((q + 1) * P : Nat) : Int) = ((t - (q + 1) * P : Nat) : Int) by omega]
    refine WG.y rfl rfl (by decide) (Yl.indexN tab_ok rfl rfl rfl rfl rfl rfl (fun _ => rfl) (by intro _; (try dsimp only) <;> omega) (by intro _; first | exact fun _ _ _ _ => rfl | exact RS.has (by assumption) | exact fun _ _ _ _ => (by assumption) | exact HasMem.ownD 0 rfl | exact HasMem.ownD 1 rfl)) ?_
    refine' WG.y rfl rfl (by decide) (Yl.load1 tab_ok rfl rfl rfl (fun _ => rfl) ?r7 rfl ?h7) ?_
    case r7 => ((apply RS.rdD; assumption; ((try dsimp only) <;> omega)))
    case h7 => rfl
    refine WG.run tab_ok 1 rfl ?_
    refine WG.nil ?_
    refine WE.nxt ?_
    refine W.seq ?_
    rw [fvals_nth F (show t - (q + 1) * P < S + P by omega)]
    refine W.seq ?_
    refine W.region _ ?_
    refine WG.run tab_ok 2 rfl ?_
    refine WG.nil ?_
    refine WE.nxt ?_
    refine W.condE rfl (fun hc1 => ?_) (fun hc1 => ?_)
    · try dsimp only at hc1
      exact absurd hc1 hF1
    · try dsimp only at hc1
      refine W.skip ?_
      refine WE.nxt ?_
      refine W.seq ?_
      refine W.region _ ?_
      refine WG.run tab_ok 3 rfl ?_
      refine' WG.y rfl rfl (by decide) (Yl.load1 tab_ok rfl rfl rfl (fun _ => rfl) ?r8 rfl ?h8) ?_
      case r8 => apply Rd.add; (exact Rd.blk 0 rfl)
      case h8 => rfl
      refine WG.y rfl rfl (by decide) (Yl.mul rfl rfl rfl (fun _ => rfl) (by intro _; constructor <;> (try dsimp only) <;> omega)) ?_
      refine WG.y rfl rfl (by decide) (Yl.add rfl rfl rfl (fun _ => rfl) (by intro _; constructor <;> (try dsimp only) <;> omega)) ?_
      refine WG.run tab_ok 1 rfl ?_
      refine WG.nil ?_
      refine WE.nxt ?_
      refine W.ret ?_
      refine WE.subE (E' := E) qS ?_
      refine WE.retF tab_ok [_] rfl ⟨rfl, trivial⟩ (RLe.refl _) ?_
      exact ⟨by rw [hgm]; rfl, rfl⟩

theorem WFinite_V {R : Ro} {fa : Option Addr} {fc : Nat} {F : Nat → Int} {S P : Nat} {I : Int} (hf : FC F S P I) (ha : RS R 1 encI fa (fvals F (S + P))) : FnV Try.prog 57 [.agg #[.slice fa (fvals F (S + P)).length fc, .int .i64 (P : Int), .int .i64 I]] R (.bool true) := by
  have hfl := fvals_len F (S + P)
  have hP := hf.hP
  have hn := hf.hn
  have hI := hf.hI
  refine Fn.toV (fun w0 E => ?_)
  refine Fn.enter (n := 12) Try.func57 rfl rfl (Nat.le_of_ble_eq_true rfl) rfl ?_
  refine W.seq ?_
  refine W.region _ ?_
  refine WL.ef rfl rfl (by decide) (Ef.box rfl rfl (fun b1 => ?_))
  refine WG.run tab_ok 1 rfl ?_
  refine WG.nil ?_
  refine WE.nxt ?_
  refine W.seq ?_
  refine W.region _ ?_
  refine WG.run tab_ok 1 rfl ?_
  refine' WG.y rfl rfl (by decide) (Yl.load1 tab_ok rfl rfl rfl (fun _ => rfl) ?r1 rfl ?h1) ?_
  case r1 => apply Rd.add; (exact Rd.blk 0 rfl)
  case h1 => rfl
  refine WG.run tab_ok 1 rfl ?_
  refine' WG.y rfl rfl (by decide) (Yl.load1 tab_ok rfl rfl rfl (fun _ => rfl) ?r2 rfl ?h2) ?_
  case r2 => apply Rd.add; (exact Rd.blk 0 rfl)
  case h2 => rfl
  refine WG.run tab_ok 1 rfl ?_
  refine WG.y rfl rfl (by decide) (Yl.sub rfl rfl rfl (fun _ => rfl) (by intro _; constructor <;> (try dsimp only) <;> omega)) ?_
  refine WG.y rfl rfl (by decide) (Yl.index tab_ok rfl rfl rfl rfl rfl rfl (fun _ => rfl) (by intro _; constructor <;> (try dsimp only) <;> omega) (by intro _; first | exact fun _ _ _ _ => rfl | exact RS.has (by assumption) | exact fun _ _ _ _ => (by assumption) | exact HasMem.ownD 0 rfl | exact HasMem.ownD 1 rfl)) ?_
  refine' WG.y rfl rfl (by decide) (Yl.load1 tab_ok rfl rfl rfl (fun _ => rfl) ?r3 rfl ?h3) ?_
  case r3 => ((apply RS.rdD; assumption; ((try dsimp only) <;> omega)))
  case h3 => rfl
  refine WG.run tab_ok 2 rfl ?_
  refine WG.nil ?_
  refine WE.nxt ?_
  refine W.ret ?_
  refine WE.subE (E' := E) qS ?_
  refine WE.retF tab_ok [_] rfl ⟨rfl, trivial⟩ (RLe.refl _) ?_
  have hne := hf.fin (t := S + P - 1) (by omega)
  exact ⟨by rw [show (((fvals F (S + P)).length : Int) - 1).toNat = S + P - 1 by omega, fvals_nth F (by omega)]; exact congrArg Value.bool (by simpa [INF] using hne), rfl⟩

theorem WStart_V {R : Ro} {fa : Option Addr} {fc : Nat} {F : Nat → Int} {S P : Nat} {I : Int} (hf : FC F S P I) (ha : RS R 1 encI fa (fvals F (S + P))) : FnV Try.prog 55 [.agg #[.slice fa (fvals F (S + P)).length fc, .int .i64 (P : Int), .int .i64 I]] R (.int .i64 (S : Int)) := by
  have hfl := fvals_len F (S + P)
  have hP := hf.hP
  have hn := hf.hn
  have hI := hf.hI
  refine Fn.toV (fun w0 E => ?_)
  refine Fn.enter (n := 9) Try.func55 rfl rfl (Nat.le_of_ble_eq_true rfl) rfl ?_
  refine W.seq ?_
  refine W.region _ ?_
  refine WL.ef rfl rfl (by decide) (Ef.box rfl rfl (fun b1 => ?_))
  refine WG.run tab_ok 1 rfl ?_
  refine WG.nil ?_
  refine WE.nxt ?_
  refine W.seq ?_
  refine W.region _ ?_
  refine WG.run tab_ok 1 rfl ?_
  refine' WG.y rfl rfl (by decide) (Yl.load1 tab_ok rfl rfl rfl (fun _ => rfl) ?r1 rfl ?h1) ?_
  case r1 => apply Rd.add; (exact Rd.blk 0 rfl)
  case h1 => rfl
  refine WG.run tab_ok 2 rfl ?_
  refine' WG.y rfl rfl (by decide) (Yl.load1 tab_ok rfl rfl rfl (fun _ => rfl) ?r2 rfl ?h2) ?_
  case r2 => apply Rd.add; (exact Rd.blk 0 rfl)
  case h2 => rfl
  refine WG.y rfl rfl (by decide) (Yl.sub rfl rfl rfl (fun _ => rfl) (by intro _; constructor <;> (try dsimp only) <;> omega)) ?_
  refine WG.run tab_ok 1 rfl ?_
  refine WG.nil ?_
  refine WE.nxt ?_
  refine W.ret ?_
  refine WE.subE (E' := E) qS ?_
  refine WE.retF tab_ok [_] rfl ⟨rfl, trivial⟩ (RLe.refl _) ?_
  exact ⟨congrArg (Value.int .i64) (by rw [hfl]; omega), rfl⟩

theorem WGain_V {R : Ro} {fa : Option Addr} {fc : Nat} {F : Nat → Int} {S P : Nat} {I : Int} (hf : FC F S P I) (ha : RS R 1 encI fa (fvals F (S + P))) {L : Nat} (hL : L ≤ 100000) : FnV Try.prog 54 [.agg #[.slice fa (fvals F (S + P)).length fc, .int .i64 (P : Int), .int .i64 I], .int .i64 (L : Int)] R (.int .i64 ((L : Int) / (P : Int) * I)) := by
  have hfl := fvals_len F (S + P)
  have hP := hf.hP
  have hn := hf.hn
  have hI := hf.hI
  have hd0 : 0 ≤ (L : Int) / (P : Int) := Int.ediv_nonneg (by omega) (by omega)
  have hd1 : (L : Int) / (P : Int) ≤ L := Int.ediv_le_self _ (by omega)
  have hd2 := mulB (a := (L : Int) / (P : Int)) (b := I) (A := 100000) (B := 1073741824) (by omega) (by omega)
  refine Fn.toV (fun w0 E => ?_)
  refine Fn.enter (n := 12) Try.func54 rfl rfl (Nat.le_of_ble_eq_true rfl) rfl ?_
  refine W.seq ?_
  refine W.region _ ?_
  refine WL.ef rfl rfl (by decide) (Ef.box rfl rfl (fun b2 => ?_))
  refine WG.run tab_ok 1 rfl ?_
  refine WG.nil ?_
  refine WE.nxt ?_
  refine W.seq ?_
  refine W.regionQ _ mixed (by kernel_rfl) ?_
  refine WG.run tab_ok 2 rfl ?_
  refine' WG.y rfl rfl (by decide) (Yl.load1 tab_ok rfl rfl rfl (fun _ => rfl) ?r1 rfl ?h1) ?_
  case r1 => apply Rd.add; (exact Rd.blk 0 rfl)
  case h1 => rfl
  refine WG.y rfl rfl (by decide) (Yl.quo rfl rfl rfl (fun _ => rfl) (by intro _; constructor <;> (try dsimp only) <;> omega) (by intro _; omega)) ?_
  refine WG.run tab_ok 1 rfl ?_
  refine' WG.y rfl rfl (by decide) (Yl.load1 tab_ok rfl rfl rfl (fun _ => rfl) ?r2 rfl ?h2) ?_
  case r2 => apply Rd.add; (exact Rd.blk 0 rfl)
  case h2 => rfl
  refine WG.y rfl rfl (by decide) (Yl.mul rfl rfl rfl (fun _ => rfl) (by intro _; constructor <;> (try dsimp only) <;> omega)) ?_
  refine WG.run tab_ok 1 rfl ?_
  refine WG.nil ?_
  refine WE.nxt ?_
  refine W.ret ?_
  refine WE.subE (E' := E) qS ?_
  refine WE.retF tab_ok [_] rfl ⟨rfl, trivial⟩ (RLe.refl _) ?_
  exact ⟨rfl, rfl⟩

theorem CValid_V {R : Ro} {fa : Option Addr} {fc : Nat} {F : Nat → Int} {S P : Nat} {I : Int} (hf : FC F S P I) (ha : RS R 1 encI fa (fvals F (S + P))) : FnV Try.prog 67 [.agg #[.slice fa (fvals F (S + P)).length fc, .int .i64 (P : Int), .int .i64 I]] R (.bool true) := by
  have hfl := fvals_len F (S + P)
  have hP := hf.hP
  have hn := hf.hn
  have hI := hf.hI
  refine Fn.toV (fun w0 E => ?_)
  refine Fn.enter (n := 85) Try.func67 rfl rfl (Nat.le_of_ble_eq_true rfl) rfl ?_
  refine W.seq ?_
  refine W.region _ ?_
  refine WL.ef rfl rfl (by decide) (Ef.box rfl rfl (fun b1 => ?_))
  refine WG.run tab_ok 1 rfl ?_
  refine WG.nil ?_
  refine WE.nxt ?_
  refine W.seq ?_
  refine W.region _ ?_
  refine WG.run tab_ok 1 rfl ?_
  refine' WG.y rfl rfl (by decide) (Yl.load1 tab_ok rfl rfl rfl (fun _ => rfl) ?r1 rfl ?h1) ?_
  case r1 => apply Rd.add; (exact Rd.blk 0 rfl)
  case h1 => rfl
  refine WG.run tab_ok 2 rfl ?_
  refine WG.nil ?_
  refine WE.nxt ?_
  refine W.seq ?_
  refine W.seq ?_
  refine W.region _ ?_
  refine WG.run tab_ok 3 rfl ?_
  refine WG.y rfl rfl (by decide) (pureV_ok tab_ok rfl qE) ?_
  refine WG.y rfl rfl (by decide) (pureV_ok tab_ok rfl qE) ?_
  refine WG.y rfl rfl (by decide) (Yl.por rfl rfl rfl (fun _ => rfl) (by intro h1 h2; simp_all <;> omega)) ?_
  refine WG.run tab_ok 1 rfl ?_
  refine WG.y rfl rfl (by decide) (pureV_ok tab_ok rfl qE) ?_
  refine' WG.y rfl rfl (by decide) (Yl.loadG tab_ok rfl rfl rfl qE ?r2 rfl ?h2 ?g2) ?_
  case r2 => apply Rd.addC; (exact Rd.blkC 0 rfl)
  case h2 => rfl
  case g2 => exact fun _ => trivial
  refine WG.y rfl rfl (by decide) (pureV_ok tab_ok rfl qE) ?_
  refine WG.y rfl rfl (by decide) (Yl.por rfl rfl rfl (fun _ => rfl) (by intro h1 h2; simp_all <;> omega)) ?_
  refine WG.run tab_ok 1 rfl ?_
  refine WG.y rfl rfl (by decide) (pureV_ok tab_ok rfl qE) ?_
  refine' WG.y rfl rfl (by decide) (Yl.loadG tab_ok rfl rfl rfl qE ?r3 rfl ?h3 ?g3) ?_
  case r3 => apply Rd.addC; (exact Rd.blkC 0 rfl)
  case h3 => rfl
  case g3 => exact fun _ => trivial
  refine WG.y rfl rfl (by decide) (pureV_ok tab_ok rfl qE) ?_
  refine WG.y rfl rfl (by decide) (Yl.por rfl rfl rfl (fun _ => rfl) (by intro h1 h2; simp_all <;> omega)) ?_
  refine WG.run tab_ok 1 rfl ?_
  refine WG.y rfl rfl (by decide) (pureV_ok tab_ok rfl qE) ?_
  refine' WG.y rfl rfl (by decide) (Yl.loadG tab_ok rfl rfl rfl qE ?r4 rfl ?h4 ?g4) ?_
  case r4 => apply Rd.addC; (exact Rd.blkC 0 rfl)
  case h4 => rfl
  case g4 => exact fun _ => trivial
  refine WG.y rfl rfl (by decide) (pureV_ok tab_ok rfl qE) ?_
  refine WG.y rfl rfl (by decide) (pureV_ok tab_ok rfl qE) ?_
  refine WG.y rfl rfl (by decide) (Yl.por rfl rfl rfl (fun _ => rfl) (by intro h1 h2; simp_all <;> omega)) ?_
  refine WG.run tab_ok 1 rfl ?_
  refine WG.y rfl rfl (by decide) (pureV_ok tab_ok rfl qE) ?_
  refine' WG.y rfl rfl (by decide) (Yl.loadG tab_ok rfl rfl rfl qE ?r5 rfl ?h5 ?g5) ?_
  case r5 => apply Rd.addC; (exact Rd.blkC 0 rfl)
  case h5 => rfl
  case g5 => exact fun _ => trivial
  refine WG.y rfl rfl (by decide) (pureV_ok tab_ok rfl qE) ?_
  refine WG.y rfl rfl (by decide) (Yl.por rfl rfl rfl (fun _ => rfl) (by intro h1 h2; simp_all <;> omega)) ?_
  refine WG.run tab_ok 1 rfl ?_
  refine WG.y rfl rfl (by decide) (pureV_ok tab_ok rfl qE) ?_
  refine' WG.y rfl rfl (by decide) (Yl.loadG tab_ok rfl rfl rfl qE ?r6 rfl ?h6 ?g6) ?_
  case r6 => apply Rd.addC; (exact Rd.blkC 0 rfl)
  case h6 => rfl
  case g6 => exact fun _ => trivial
  refine WG.y rfl rfl (by decide) (pureV_ok tab_ok rfl qE) ?_
  refine WG.y rfl rfl (by decide) (Yl.por rfl rfl rfl (fun _ => rfl) (by intro h1 h2; simp_all <;> omega)) ?_
  refine WG.nil ?_
  refine WE.nxt ?_
  refine W.cond rfl (fun hc0 => ?_) (fun hc0 => ?_)
  · try simp only [decide_eq_true_eq, decide_eq_false_iff_not, beq_iff_eq, bne_iff_ne, beq_eq_false_iff_ne, bne_eq_false_iff_eq, ne_eq, Bool.or_eq_true, Bool.or_eq_false_iff, Bool.and_eq_true, Bool.and_eq_false_imp, Bool.not_eq_true, Bool.not_eq_true', Bool.not_eq_false', Classical.not_not, Int.not_lt, Int.not_le, gt_iff_lt, ge_iff_le] at hc0
    omega
  · try simp only [decide_eq_true_eq, decide_eq_false_iff_not, beq_iff_eq, bne_iff_ne, beq_eq_false_iff_ne, bne_eq_false_iff_eq, ne_eq, Bool.or_eq_true, Bool.or_eq_false_iff, Bool.and_eq_true, Bool.and_eq_false_imp, Bool.not_eq_true, Bool.not_eq_true', Bool.not_eq_false', Classical.not_not, Int.not_lt, Int.not_le, gt_iff_lt, ge_iff_le] at hc0
    refine W.skip ?_
    refine WE.nxt ?_
    refine W.seq ?_
    refine W.region _ ?_
    refine WG.run tab_ok 1 rfl ?_
    refine WG.nil ?_
    refine WE.nxt ?_
    refine W.seq ?_
    refine W.seq ?_
    refine W.region _ ?_
    refine WG.run tab_ok 1 rfl ?_
    refine' WG.y rfl rfl (by decide) (Yl.load1 tab_ok rfl rfl rfl (fun _ => rfl) ?r7 rfl ?h7) ?_
    case r7 => apply Rd.add; (exact Rd.blk 0 rfl)
    case h7 => rfl
    refine WG.run tab_ok 2 rfl ?_
    refine WG.nil ?_
    refine WE.nxt ?_
    refine W.block ?_
    refine W.loopK (β := Nat × Int) (fun (t, last) => t ≤ S + P ∧ 0 ≤ last ∧ last ≤ F t ∧ last ≤ 1073741824) (fun (t, last) => [(4, true, .int .i64 last), (45, true, .int .i64 (t : Int))]) [1, 3, 43, 44] [_, _, _, _] [] _ rfl (fun (t, last) => []) (fun (t, last) => S + P - t) ((0, 0)) (⟨Nat.zero_le _, Int.le_refl _, hf.h0, by decide⟩) ⟨rfl, rfl, rfl, rfl, rfl, rfl, rfl⟩ qS ?_
    intro st hst
    obtain ⟨t, last⟩ := st
    dsimp only [zipE, setAll, List.cons_append, List.nil_append, List.set_cons_zero, List.set_cons_succ] at hst ⊢
    obtain ⟨ht, hl0, hl1, hl2⟩ := hst
    refine W.seq ?_
    refine W.region _ ?_
    refine WG.run tab_ok 1 rfl ?_
    refine WG.nil ?_
    refine WE.nxt ?_
    refine W.seq ?_
    refine W.condD rfl (fun hc1 => ?_) (fun hc1 => ?_)
    · try dsimp only at hc1
      have htl : t < S + P := by omega
      have hb := hf.hb t htl
      have hft := fvals_nth F htl
      have hm := hf.hm t
      refine W.skip ?_
      refine WE.nxt ?_
      refine W.seq ?_
      refine W.block ?_
      refine W.seq ?_
      refine W.region _ ?_
      refine WG.y rfl rfl (by decide) (Yl.indexN tab_ok rfl rfl rfl rfl rfl rfl (fun _ => rfl) (by intro _; (try dsimp only) <;> omega) (by intro _; first | exact fun _ _ _ _ => rfl | exact RS.has (by assumption) | exact fun _ _ _ _ => (by assumption) | exact HasMem.ownD 0 rfl | exact HasMem.ownD 1 rfl)) ?_
      refine' WG.y rfl rfl (by decide) (Yl.load1 tab_ok rfl rfl rfl (fun _ => rfl) ?r8 rfl ?h8) ?_
      case r8 => ((apply RS.rdD; assumption; ((try dsimp only) <;> omega)))
      case h8 => rfl
      refine WG.run tab_ok 1 rfl ?_
      refine WG.nil ?_
      refine WE.nxt ?_
      refine W.seq ?_
      refine W.seq ?_
      refine W.region _ ?_
      refine WG.run tab_ok 4 rfl ?_
      refine WG.y rfl rfl (by decide) (pureV_ok tab_ok rfl qE) ?_
      refine WG.y rfl rfl (by decide) (pureV_ok tab_ok rfl qE) ?_
      refine WG.y rfl rfl (by decide) (pureV_ok tab_ok rfl qE) ?_
      refine WG.y rfl rfl (by decide) (pureV_ok tab_ok rfl qE) ?_
      refine WG.y rfl rfl (by decide) (pureV_ok tab_ok rfl qE) ?_
      refine WG.y rfl rfl (by decide) (Yl.pand rfl rfl rfl qE (by intro h1 h2; simp_all <;> omega)) ?_
      refine WG.y rfl rfl (by decide) (Yl.por rfl rfl rfl (fun _ => rfl) (by intro h1 h2; simp_all <;> omega)) ?_
      refine WG.nil ?_
      refine WE.nxt ?_
      refine W.cond rfl (fun hc2 => ?_) (fun hc2 => ?_)
      · try simp only [decide_eq_true_eq, decide_eq_false_iff_not, beq_iff_eq, bne_iff_ne, beq_eq_false_iff_ne, bne_eq_false_iff_eq, ne_eq, Bool.or_eq_true, Bool.or_eq_false_iff, Bool.and_eq_true, Bool.and_eq_false_imp, Bool.not_eq_true, Bool.not_eq_true', Bool.not_eq_false', Classical.not_not, Int.not_lt, Int.not_le, gt_iff_lt, ge_iff_le] at hc2
        rw [hft] at hc2; omega
      · try simp only [decide_eq_true_eq, decide_eq_false_iff_not, beq_iff_eq, bne_iff_ne, beq_eq_false_iff_ne, bne_eq_false_iff_eq, ne_eq, Bool.or_eq_true, Bool.or_eq_false_iff, Bool.and_eq_true, Bool.and_eq_false_imp, Bool.not_eq_true, Bool.not_eq_true', Bool.not_eq_false', Classical.not_not, Int.not_lt, Int.not_le, gt_iff_lt, ge_iff_le] at hc2
        refine W.skip ?_
        refine WE.nxt ?_
        refine W.region _ ?_
        refine WG.run tab_ok 2 rfl ?_
        refine WG.nil ?_
        refine WE.blk _ ?_
        refine WE.nxt ?_
        refine W.region _ ?_
        refine WG.y rfl rfl (by decide) (Yl.add rfl rfl rfl (fun _ => rfl) (by intro _; constructor <;> (try dsimp only) <;> omega)) ?_
        refine WG.run tab_ok 1 rfl ?_
        refine WG.nil ?_
        refine WE.again ((t + 1, nth (fvals F (S + P)) t)) (⟨by dsimp only; omega, by dsimp only; rw [hft]; exact hf.nonneg t, by dsimp only; omega, by dsimp only; omega⟩) (by (try dsimp only); omega) ⟨rfl, rfl, rfl, rfl, rfl, rfl, rfl⟩ (RLe.refl _) qS
    · try dsimp only at hc1
      obtain rfl : t = S + P := by omega
      have hg := hf.hg S (Nat.le_refl _)
      have hlast := fvals_nth F (show S < S + P by omega)
      have hv14 : nth (fvals F (S + P)) ((((fvals F (S + P)).length : Int) - (P : Int)).toNat) = F S := by rw [show (((fvals F (S + P)).length : Int) - (P : Int)).toNat = S by omega, hlast]
      have hbS := hf.hb S (by omega)
      have hnS := hf.nonneg S
      refine W.exit ?_
      refine WE.then_exit ?_
      refine WE.then_exit ?_
      refine WE.blk_exit ?_
      refine WE.nxt ?_
      refine W.seq ?_
      refine W.seq ?_
      refine W.region _ ?_
      refine WG.run tab_ok 2 rfl ?_
      refine WG.nil ?_
      refine WE.nxt ?_
      refine W.condE rfl (fun hc3 => ?_) (fun hc3 => ?_)
      · try dsimp only at hc3
        omega
      · try dsimp only at hc3
        refine W.skip ?_
        refine WE.nxt ?_
        refine W.seq ?_
        refine W.regionQ _ mixed (by kernel_rfl) ?_
        refine WG.run tab_ok 1 rfl ?_
        refine' WG.y rfl rfl (by decide) (Yl.load1 tab_ok rfl rfl rfl (fun _ => rfl) ?r9 rfl ?h9) ?_
        case r9 => apply Rd.add; (exact Rd.blk 0 rfl)
        case h9 => rfl
        refine WG.run tab_ok 2 rfl ?_
        refine' WG.y rfl rfl (by decide) (Yl.load1 tab_ok rfl rfl rfl (fun _ => rfl) ?r10 rfl ?h10) ?_
        case r10 => apply Rd.add; (exact Rd.blk 0 rfl)
        case h10 => rfl
        refine WG.y rfl rfl (by decide) (Yl.sub rfl rfl rfl (fun _ => rfl) (by intro _; constructor <;> (try dsimp only) <;> omega)) ?_
        refine WG.y rfl rfl (by decide) (Yl.index tab_ok rfl rfl rfl rfl rfl rfl (fun _ => rfl) (by intro _; constructor <;> (try dsimp only) <;> omega) (by intro _; first | exact fun _ _ _ _ => rfl | exact RS.has (by assumption) | exact fun _ _ _ _ => (by assumption) | exact HasMem.ownD 0 rfl | exact HasMem.ownD 1 rfl)) ?_
        refine' WG.y rfl rfl (by decide) (Yl.load1 tab_ok rfl rfl rfl (fun _ => rfl) ?r11 rfl ?h11) ?_
        case r11 => ((apply RS.rdD; assumption; ((try dsimp only) <;> omega)))
        case h11 => rfl
        refine WG.run tab_ok 1 rfl ?_
        refine' WG.y rfl rfl (by decide) (Yl.load1 tab_ok rfl rfl rfl (fun _ => rfl) ?r12 rfl ?h12) ?_
        case r12 => apply Rd.add; (exact Rd.blk 0 rfl)
        case h12 => rfl
        refine WG.y rfl rfl (by decide) (Yl.add rfl rfl rfl (fun _ => rfl) (by intro _; constructor <;> (try dsimp only) <;> omega)) ?_
        refine WG.run tab_ok 3 rfl ?_
        refine WG.nil ?_
        refine WE.nxt ?_
        refine W.ret ?_
        refine WE.subE (E' := E) qS ?_
        refine WE.retF tab_ok [_] rfl ⟨rfl, trivial⟩ (RLe.refl _) ?_
        exact ⟨congrArg Value.bool (by rw [show (((fvals F (S + P)).length : Int) - (P : Int)).toNat = S by omega, hlast]; exact decide_eq_true (by omega)), rfl⟩

end Go.Proofs.Ytolmmfphdieilaa

/- Finite curves: normal forms. No condition. -/
set_option linter.unusedSimpArgs false
set_option linter.unusedVariables false
namespace Go.Proofs.Ytolmmfphdieilaa
open Go Go.RowKit Go.Proofs.Ytolmmfphdieilaa.K Go.Proofs.Ytolmmfphdieilaa.M

theorem CloneI_C {R : Ro} {fa : Option Addr} {fc : Nat} {xs : List Int} (ha : RS R 1 encI fa xs) (hx : 0 < xs.length) (hl : xs.length ≤ 100000) (w0 : World) (E : List Ent) : K.Fn Try.prog 106 [.slice fa xs.length fc] w0 R E (fun v R' E' => ∃ (a2 : Option Addr) (c2 : Nat), v = .slice a2 xs.length c2 ∧ R = R' ∧ (.sl 3 1 a2 c2 (xs.map encI) :: E).Sublist E') := by
  have hns := ha.some hx
  refine Fn.enter (n := 8) Try.func106 rfl rfl (Nat.le_of_ble_eq_true rfl) rfl ?_
  refine W.seq ?_
  refine W.region _ ?_
  refine WG.run tab_ok 1 rfl ?_
  refine WG.nil ?_
  refine WE.nxt ?_
  refine W.seq ?_
  refine W.seq ?_
  refine W.region _ ?_
  refine WG.run tab_ok 1 rfl ?_
  refine WG.y rfl rfl (by decide) (Yl.eqNilS Try.underlying22 rfl rfl rfl (fun _ => rfl)) ?_
  refine WG.nil ?_
  refine WE.nxt ?_
  refine W.cond rfl (fun hc0 => ?_) (fun hc0 => ?_)
  · try simp only [decide_eq_true_eq, decide_eq_false_iff_not, beq_iff_eq, bne_iff_ne, beq_eq_false_iff_ne, bne_eq_false_iff_eq, ne_eq, Bool.or_eq_true, Bool.or_eq_false_iff, Bool.and_eq_true, Bool.and_eq_false_imp, Bool.not_eq_true, Bool.not_eq_true', Bool.not_eq_false', Classical.not_not, Int.not_lt, Int.not_le, gt_iff_lt, ge_iff_le] at hc0
    rw [hns] at hc0; cases hc0
  · try simp only [decide_eq_true_eq, decide_eq_false_iff_not, beq_iff_eq, bne_iff_ne, beq_eq_false_iff_ne, bne_eq_false_iff_eq, ne_eq, Bool.or_eq_true, Bool.or_eq_false_iff, Bool.and_eq_true, Bool.and_eq_false_imp, Bool.not_eq_true, Bool.not_eq_true', Bool.not_eq_false', Classical.not_not, Int.not_lt, Int.not_le, gt_iff_lt, ge_iff_le] at hc0
    refine W.skip ?_
    refine WE.nxt ?_
    refine W.seq ?_
    refine W.region _ ?_
    refine WL.ef rfl rfl (by decide) (Ef.buildSliceD (enc := encI) (parts := []) [] tab_ok rfl rfl rfl rfl rfl rfl rfl rfl (by decide) (by decide) (fun a5 => ?_))
    refine WG.run tab_ok 1 rfl ?_
    refine WL.ef rfl rfl (by decide) (Ef.cloneL (enc := encI) 0 tab_ok rfl rfl rfl rfl rfl rfl rfl rfl rfl rfl ha (fun _ _ => rfl) (by dsimp only; omega) (by omega) (fun a7 c7 ha7 => ?_))
    refine WG.run tab_ok 1 rfl ?_
    refine WG.nil ?_
    refine WE.nxt ?_
    refine W.ret ?_
    refine WE.retF tab_ok [_] rfl ⟨rfl, trivial⟩ (RLe.refl _) ?_
    exact ⟨_, _, rfl, rfl, qS⟩

theorem NormF_V {R : Ro} {fa : Option Addr} {fc : Nat} {F : Nat → Int} {S P : Nat} {I : Int} (hf : FC F S P I) (ha : RS R 1 encI fa (fvals F (S + P))) {b1 : Nat} (h1 : R b1 = some [.slice fa (fvals F (S + P)).length fc, .int .i64 (P : Int), .int .i64 I]) {t : Nat} (ht : t ≤ 1000000) : FnV Try.prog 107 [.int .i64 (t : Int), .pointer (some ⟨b1, 0, none⟩)] R (.int .i64 (F t)) := by
  have hbd := hf.bound t
  refine Fn.toV (fun w0 E => ?_)
  refine Fn.enter (n := 7) Try.func107 rfl rfl (Nat.le_of_ble_eq_true rfl) rfl ?_
  refine W.seq ?_
  refine W.region _ ?_
  refine WG.run tab_ok 1 rfl ?_
  refine WG.nil ?_
  refine WE.nxt ?_
  refine W.seq ?_
  refine W.region _ ?_
  refine' WG.y rfl rfl (by decide) (Yl.load1 tab_ok rfl rfl rfl (fun _ => rfl) ?r1 rfl ?h1) ?_
  case r1 => (exact Rd.ro (by assumption))
  case h1 => rfl
  refine WG.run tab_ok 1 rfl ?_
  refine WG.callV en68 rfl rfl (by decide) (CallOp.mk' rfl rfl rfl rfl) (fun _ => rfl) (fun hg => WAt_V hf ha (by omega) (by omega)) ?_
  refine WG.run tab_ok 1 rfl ?_
  refine WG.nil ?_
  refine WE.nxt ?_
  refine W.ret ?_
  refine WE.subE (E' := E) qS ?_
  refine WE.retF tab_ok [_] rfl ⟨rfl, trivial⟩ (RLe.refl _) ?_
  exact ⟨rfl, rfl⟩

theorem Normal_C {R : Ro} {fa : Option Addr} {fc : Nat} {F : Nat → Int} {S P : Nat} {I : Int} (hf : FC F S P I) (ha : RS R 1 encI fa (fvals F (S + P))) (w0 : World) (E : List Ent) : K.Fn Try.prog 52 [.agg #[.slice fa (fvals F (S + P)).length fc, .int .i64 (P : Int), .int .i64 I]] w0 R E (fun r R' E' => ∃ (f : Option Addr) (fc : Nat), r = cvV f fc (mbuild F S P I) ∧ RS R' 1 encI f (mbuild F S P I).1.vals ∧ E.Sublist E') := by
  have hfl := fvals_len F (S + P)
  have hP := hf.hP
  have hn := hf.hn
  have hI := hf.hI
  have hbd := hf.bound
  refine Fn.enter (n := 22) Try.func52 rfl rfl (Nat.le_of_ble_eq_true rfl) rfl ?_
  refine W.seq ?_
  refine W.region _ ?_
  refine WL.ef rfl rfl (by decide) (Ef.box rfl rfl (fun b1 => ?_))
  refine WL.ef rfl rfl (by decide) (Ef.alloc tab_ok rfl rfl (fun b2 => ?_))
  refine WG.run tab_ok 1 rfl ?_
  refine WG.nil ?_
  refine WE.nxt ?_
  refine W.seq ?_
  refine W.seq ?_
  refine W.region _ ?_
  refine' WG.y rfl rfl (by decide) (Yl.load1 tab_ok rfl rfl rfl (fun _ => rfl) ?r1 rfl ?h1) ?_
  case r1 => (exact Rd.blk 1 rfl)
  case h1 => rfl
  refine WG.callV en67 rfl rfl (by decide) (CallOp.mk' rfl rfl rfl rfl) (fun _ => rfl) (fun hg => CValid_V hf ha) ?_
  refine WG.run tab_ok 1 rfl ?_
  refine WG.nil ?_
  refine WE.nxt ?_
  refine W.cond rfl (fun hc0 => ?_) (fun hc0 => ?_)
  · try simp only [decide_eq_true_eq, decide_eq_false_iff_not, beq_iff_eq, bne_iff_ne, beq_eq_false_iff_ne, bne_eq_false_iff_eq, ne_eq, Bool.or_eq_true, Bool.or_eq_false_iff, Bool.and_eq_true, Bool.and_eq_false_imp, Bool.not_eq_true, Bool.not_eq_true', Bool.not_eq_false', Classical.not_not, Int.not_lt, Int.not_le, gt_iff_lt, ge_iff_le] at hc0
    (simp at hc0; done)
  · try simp only [decide_eq_true_eq, decide_eq_false_iff_not, beq_iff_eq, bne_iff_ne, beq_eq_false_iff_ne, bne_eq_false_iff_eq, ne_eq, Bool.or_eq_true, Bool.or_eq_false_iff, Bool.and_eq_true, Bool.and_eq_false_imp, Bool.not_eq_true, Bool.not_eq_true', Bool.not_eq_false', Classical.not_not, Int.not_lt, Int.not_le, gt_iff_lt, ge_iff_le] at hc0
    refine W.skip ?_
    refine WE.nxt ?_
    refine W.seq ?_
    refine W.region _ ?_
    refine WG.run tab_ok 1 rfl ?_
    refine' WG.y rfl rfl (by decide) (Yl.load1 tab_ok rfl rfl rfl (fun _ => rfl) ?r2 rfl ?h2) ?_
    case r2 => apply Rd.add; (exact Rd.blk 1 rfl)
    case h2 => rfl
    refine WL.call en106 rfl rfl (by decide) (CallOp.mkT rfl rfl rfl rfl) (CloneI_C ha (by omega) (by omega) w0 _) ?_
    rintro _ _ E2 - ⟨a2, c2, rfl, rfl, hsub⟩
    refine WL.subE hsub ?_
    refine WG.run tab_ok 1 rfl ?_
    refine WL.efN rfl rfl (Ef.store 2 tab_ok rfl rfl rfl rfl rfl rfl rfl rfl ?_)
    refine WG.nil ?_
    refine WE.nxt ?_
    refine W.freeze (enc := encI) (xs := fvals F (S + P)) 0 rfl ?_
    intro R1 hR1 ha1
    refine W.freezeBlk 1 rfl ?_
    intro R2 hR2 hb1
    have ha2 := ha1.mono hR2
    have hF : ∀ t : Nat, t < S + P → FnV Try.prog 107 ((#[] : Array Value).toList ++ [.int .i64 (t : Int)] ++ (#[.pointer (some ⟨b1, 0, none⟩)] : Array Value).toList) R2 (.int .i64 (F t)) := fun t ht => NormF_V hf ha2 hb1 (by omega)
    refine W.seq ?_
    refine W.regionH _ (ES := []) mixed ?_
    refine WA.take 0 rfl (by kernel_rfl) (by kernel_rfl) (by kernel_rfl) rfl rfl (by decide) (Yl.makeFunc (fi := []) (ca := [.tmp 1]) rfl rfl rfl (fun _ => rfl)) qS (by first | exact RLe.refl _ | assumption) ?_
    refine' WA.take 1 rfl (by kernel_rfl) (by kernel_rfl) (by kernel_rfl) rfl rfl (by decide) (Yl.load1 tab_ok rfl rfl rfl (fun _ => rfl) ?r3 rfl ?h3) qS (by first | exact RLe.refl _ | assumption) ?_
    case r3 => (exact Rd.ro (by assumption))
    case h3 => rfl
    refine WA.take 3 rfl (by kernel_rfl) (by kernel_rfl) (by kernel_rfl) rfl rfl (by decide) (pureV_ok tab_ok rfl (fun _ => rfl)) qS (by first | exact RLe.refl _ | assumption) ?_
    refine' WA.take 4 rfl (by kernel_rfl) (by kernel_rfl) (by kernel_rfl) rfl rfl (by decide) (Yl.load1 tab_ok rfl rfl rfl (fun _ => rfl) ?r4 rfl ?h4) qS (by first | exact RLe.refl _ | assumption) ?_
    case r4 => apply Rd.add; (exact Rd.ro (by assumption))
    case h4 => rfl
    refine WA.take 5 rfl (by kernel_rfl) (by kernel_rfl) (by kernel_rfl) rfl rfl (by decide) (pureV_ok tab_ok rfl (fun _ => rfl)) qS (by first | exact RLe.refl _ | assumption) ?_
    refine' WA.take 6 rfl (by kernel_rfl) (by kernel_rfl) (by kernel_rfl) rfl rfl (by decide) (Yl.load1 tab_ok rfl rfl rfl (fun _ => rfl) ?r5 rfl ?h5) qS (by first | exact RLe.refl _ | assumption) ?_
    case r5 => apply Rd.add; (exact Rd.ro (by assumption))
    case h5 => rfl
    refine WA.callG 2 rfl (by kernel_rfl) en55 rfl (by first | rfl | decide) rfl (by decide) (CallOp.mkT rfl rfl rfl rfl) ((WStart_V hf ha2).toFn) ?_
    rintro _ _ _ - ⟨rfl, rfl, rfl⟩
    refine ⟨by first | exact RLe.refl _ | assumption, qS, ?_⟩
    refine WA.callG 7 rfl (by kernel_rfl) en60 rfl (by first | rfl | decide) rfl (by decide) (CallOp.mkT rfl rfl rfl rfl) (Build_C (S := S) (P := P) (F := F) en107 (by omega) (by omega) (by omega) (fun t ht => .inr (by have := hf.hb t ht; have := hf.nonneg t; omega)) hF w0 _) ?_
    rintro _ R4 E4 hR4 ⟨f, fc', rfl, hff, hsub⟩
    refine ⟨hR4, List.nil_sublist _, ?_⟩
    refine WA.subE hsub ?_
    unfold cvV
    refine WA.take 8 rfl (by kernel_rfl) (by kernel_rfl) (by kernel_rfl) rfl rfl (by decide) (pureV_ok tab_ok rfl (fun _ => rfl)) qS (by first | exact RLe.refl _ | assumption) ?_
    refine WA.take 9 rfl (by kernel_rfl) (by kernel_rfl) (by kernel_rfl) rfl rfl (by decide) (pureV_ok tab_ok rfl (fun _ => rfl)) qS (by first | exact RLe.refl _ | assumption) ?_
    refine WA.effN 10 rfl (by kernel_rfl) rfl rfl (Ef.store0 0 tab_ok rfl rfl rfl rfl rfl rfl rfl rfl ?_)
    refine ⟨by first | exact RLe.refl _ | assumption, qS, ?_⟩
    refine WA.take 11 rfl (by kernel_rfl) (by kernel_rfl) (by kernel_rfl) rfl rfl (by decide) (pureV_ok tab_ok rfl (fun _ => rfl)) qS (by first | exact RLe.refl _ | assumption) ?_
    refine WA.done (by kernel_rfl) ?_
    refine WE.nxt ?_
    refine W.ret ?_
    refine WE.retF tab_ok [_, _] rfl ⟨⟨_, _, _, rfl, rfl, rfl, ((by first | exact Rd.blk 0 rfl | exact Rd.blk 1 rfl | exact Rd.blk 2 rfl | exact Rd.blk 3 rfl)), rfl⟩, rfl, trivial⟩ (hR1.trans (hR2.trans hR4)) ?_
    exact ⟨f, fc', rfl, hff, qS⟩

end Go.Proofs.Ytolmmfphdieilaa

/- Finite curves: where a value is reached; the greatest distance. No condition. -/
set_option linter.unusedSimpArgs false
set_option linter.unusedVariables false
namespace Go.Proofs.Ytolmmfphdieilaa
open Go Go.RowKit Go.Proofs.Ytolmmfphdieilaa.K Go.Proofs.Ytolmmfphdieilaa.M

theorem ReachF_V {R : Ro} {fa : Option Addr} {fc : Nat} {F : Nat → Int} {S P : Nat} {I : Int} (hf : FC F S P I) (ha : RS R 1 encI fa (fvals F (S + P))) {v : Int} (hv : 0 ≤ v ∧ v ≤ 1000000000000000) : FnV Try.prog 89 [.agg #[.slice fa (fvals F (S + P)).length fc, .int .i64 (P : Int), .int .i64 I], .int .i64 v] R (.tuple #[.int .i64 (reachF F S P I v).1, .bool (reachF F S P I v).2]) := by
  have hfl := fvals_len F (S + P)
  have hP := hf.hP
  have hn := hf.hn
  have hI := hf.hI
  refine Fn.toV (fun w0 E => ?_)
  refine Fn.enter (n := 66) Try.func89 rfl rfl (Nat.le_of_ble_eq_true rfl) rfl ?_
  refine W.seq ?_
  refine W.region _ ?_
  refine WL.ef rfl rfl (by decide) (Ef.box rfl rfl (fun b2 => ?_))
  refine WG.run tab_ok 2 rfl ?_
  refine WG.nil ?_
  refine WE.nxt ?_
  refine W.seq ?_
  refine W.seq ?_
  refine W.region _ ?_
  refine WG.run tab_ok 1 rfl ?_
  refine' WG.y rfl rfl (by decide) (Yl.load1 tab_ok rfl rfl rfl (fun _ => rfl) ?r1 rfl ?h1) ?_
  case r1 => apply Rd.add; (first | exact Rd.blk 0 rfl | exact Rd.blk 1 rfl)
  case h1 => rfl
  refine WG.run tab_ok 2 rfl ?_
  refine WG.nil ?_
  refine WE.nxt ?_
  refine W.block ?_
  refine W.loopK (β := Nat) (fun t => t ≤ S + P ∧ ∀ j, j < t → F j < v) (fun t => [(15, true, .int .i64 (t : Int))]) [1, 2, 13, 14] [_, _, _, _] [] _ rfl (fun t => []) (fun t => S + P - t) (0) (⟨Nat.zero_le _, fun j hj => by omega⟩) ⟨rfl, rfl, rfl, rfl, rfl, rfl⟩ qS ?_
  intro t hst
  dsimp only [zipE, setAll, List.cons_append, List.nil_append, List.set_cons_zero, List.set_cons_succ] at hst ⊢
  obtain ⟨ht, hno⟩ := hst
  refine W.seq ?_
  refine W.region _ ?_
  refine WG.run tab_ok 1 rfl ?_
  refine WG.nil ?_
  refine WE.nxt ?_
  refine W.seq ?_
  refine W.condD rfl (fun hc0 => ?_) (fun hc0 => ?_)
  · try dsimp only at hc0
    have htl : t < S + P := by omega
    have hft := fvals_nth F htl
    refine W.skip ?_
    refine WE.nxt ?_
    refine W.seq ?_
    refine W.block ?_
    refine W.seq ?_
    refine W.region _ ?_
    refine WG.run tab_ok 1 rfl ?_
    refine WG.y rfl rfl (by decide) (Yl.indexN tab_ok rfl rfl rfl rfl rfl rfl (fun _ => rfl) (by intro _; (try dsimp only) <;> omega) (by intro _; first | exact fun _ _ _ _ => rfl | exact RS.has (by assumption) | exact fun _ _ _ _ => (by assumption) | exact HasMem.ownD 0 rfl | exact HasMem.ownD 1 rfl)) ?_
    refine' WG.y rfl rfl (by decide) (Yl.load1 tab_ok rfl rfl rfl (fun _ => rfl) ?r2 rfl ?h2) ?_
    case r2 => (first | (apply RS.rdD; assumption; ((try dsimp only) <;> omega)) | exact Rd.slD 0 rfl (by (try dsimp only) <;> omega) | exact Rd.slD 1 rfl (by (try dsimp only) <;> omega))
    case h2 => rfl
    refine WG.run tab_ok 2 rfl ?_
    refine WG.nil ?_
    refine WE.nxt ?_
    refine W.seq ?_
    refine W.region _ ?_
    refine WG.run tab_ok 3 rfl ?_
    refine WG.nil ?_
    refine WE.nxt ?_
    refine W.condD rfl (fun hc1 => ?_) (fun hc1 => ?_)
    · try dsimp only at hc1
      have hff : findFrom (fun t => decide (F t ≥ v)) (S + P) 0 = t := findFrom_some (Nat.zero_le _) (by omega) (decide_eq_true (by rw [← hft]; exact hc1)) (fun j _ hj => decide_eq_false (by have := hno j hj; omega))
      have hr : reachF F S P I v = ((t : Int), true) := by unfold reachF; rw [hff, if_pos (by omega)]
      refine W.seq ?_
      refine W.region _ ?_
      refine WG.run tab_ok 3 rfl ?_
      refine WG.nil ?_
      refine WE.nxt ?_
      refine W.ret ?_
      refine WE.blk_ret ?_
      refine WE.then_ret ?_
      refine WE.then_ret ?_
      refine WE.blk_ret ?_
      refine WE.then_ret ?_
      refine WE.subE (E' := E) qS ?_
      refine WE.retF tab_ok [_, _] rfl ⟨rfl, rfl, trivial⟩ (RLe.refl _) ?_
      exact ⟨by rw [hr]; rfl, rfl⟩
    · try dsimp only at hc1
      refine W.skip ?_
      refine WE.blk _ ?_
      refine WE.nxt ?_
      refine W.region _ ?_
      refine WG.y rfl rfl (by decide) (Yl.add rfl rfl rfl (fun _ => rfl) (by intro _; constructor <;> (try dsimp only) <;> omega)) ?_
      refine WG.run tab_ok 1 rfl ?_
      refine WG.nil ?_
      refine WE.again (t + 1) (⟨by omega, fun j hj => by
        by_cases e : j = t
        · subst e; rw [← hft]; omega
        · exact hno j (by omega)⟩) (by (try dsimp only); omega) ⟨rfl, rfl, rfl, rfl, rfl, rfl⟩ (RLe.refl _) qS
  · try dsimp only at hc0
    obtain rfl : t = S + P := by omega
    have hff : findFrom (fun t => decide (F t ≥ v)) (S + P) 0 = -1 := findFrom_none (fun j _ hj => decide_eq_false (by have := hno j (by omega); omega))
    have hlast := hno (S + P - 1) (by omega)
    have hvl : nth (fvals F (S + P)) ((((fvals F (S + P)).length : Int) - 1).toNat) = F (S + P - 1) := by rw [show (((fvals F (S + P)).length : Int) - 1).toNat = S + P - 1 by omega, fvals_nth F (by omega)]
    have hlb := hf.hb (S + P - 1) (by omega)
    have hl0 := hf.nonneg (S + P - 1)
    refine W.exit ?_
    refine WE.then_exit ?_
    refine WE.then_exit ?_
    refine WE.blk_exit ?_
    refine WE.nxt ?_
    refine W.seq ?_
    refine W.regionQ _ mixed (by kernel_rfl) ?_
    refine WG.run tab_ok 1 rfl ?_
    refine' WG.y rfl rfl (by decide) (Yl.load1 tab_ok rfl rfl rfl (fun _ => rfl) ?r3 rfl ?h3) ?_
    case r3 => apply Rd.add; (first | exact Rd.blk 0 rfl | exact Rd.blk 1 rfl)
    case h3 => rfl
    refine WG.run tab_ok 2 rfl ?_
    refine' WG.y rfl rfl (by decide) (Yl.load1 tab_ok rfl rfl rfl (fun _ => rfl) ?r4 rfl ?h4) ?_
    case r4 => apply Rd.add; (first | exact Rd.blk 0 rfl | exact Rd.blk 1 rfl)
    case h4 => rfl
    refine WG.run tab_ok 2 rfl ?_
    refine WG.nil ?_
    refine WE.nxt ?_
    refine W.seq ?_
    refine W.seq ?_
    refine W.region _ ?_
    refine WG.run tab_ok 3 rfl ?_
    refine WG.y rfl rfl (by decide) (pureV_ok tab_ok rfl qE) ?_
    refine' WG.y rfl rfl (by decide) (Yl.loadG tab_ok rfl rfl rfl qE ?r5 rfl ?h5 ?g5) ?_
    case r5 => apply Rd.addC; (first | exact Rd.blkC 0 rfl | exact Rd.blkC 1 rfl)
    case h5 => rfl
    case g5 => first | exact fun _ => trivial | (intro hg; (try simp only [decide_eq_true_eq, decide_eq_false_iff_not, beq_iff_eq, bne_iff_ne, beq_eq_false_iff_ne, bne_eq_false_iff_eq, ne_eq, Bool.or_eq_true, Bool.or_eq_false_iff, Bool.and_eq_true, Bool.and_eq_false_imp, Bool.not_eq_true, Bool.not_eq_true', Bool.not_eq_false', Classical.not_not, Int.not_lt, Int.not_le, gt_iff_lt, ge_iff_le] at hg); (try dsimp only); omega)
    refine WG.y rfl rfl (by decide) (pureV_ok tab_ok rfl qE) ?_
    refine WG.y rfl rfl (by decide) (Yl.por rfl rfl rfl (fun _ => rfl) (by intro h1 h2; simp_all <;> omega)) ?_
    refine WG.nil ?_
    refine WE.nxt ?_
    refine W.cond rfl (fun hc2 => ?_) (fun hc2 => ?_)
    · try simp only [decide_eq_true_eq, decide_eq_false_iff_not, beq_iff_eq, bne_iff_ne, beq_eq_false_iff_ne, bne_eq_false_iff_eq, ne_eq, Bool.or_eq_true, Bool.or_eq_false_iff, Bool.and_eq_true, Bool.and_eq_false_imp, Bool.not_eq_true, Bool.not_eq_true', Bool.not_eq_false', Classical.not_not, Int.not_lt, Int.not_le, gt_iff_lt, ge_iff_le] at hc2
      have hI0 : I = 0 := by rcases hc2 with h | h; omega; exact h
      have hr : reachF F S P I v = (0, false) := by unfold reachF; rw [hff, if_neg (fun hh => hh rfl), if_pos hI0]
      refine W.seq ?_
      refine W.region _ ?_
      refine WG.run tab_ok 2 rfl ?_
      refine WG.nil ?_
      refine WE.nxt ?_
      refine W.ret ?_
      refine WE.then_ret ?_
      refine WE.subE (E' := E) qS ?_
      refine WE.retF tab_ok [_, _] rfl ⟨rfl, rfl, trivial⟩ (RLe.refl _) ?_
      exact ⟨by rw [hr]; rfl, rfl⟩
    · try simp only [decide_eq_true_eq, decide_eq_false_iff_not, beq_iff_eq, bne_iff_ne, beq_eq_false_iff_ne, bne_eq_false_iff_eq, ne_eq, Bool.or_eq_true, Bool.or_eq_false_iff, Bool.and_eq_true, Bool.and_eq_false_imp, Bool.not_eq_true, Bool.not_eq_true', Bool.not_eq_false', Classical.not_not, Int.not_lt, Int.not_le, gt_iff_lt, ge_iff_le] at hc2
      have hI0 : I ≠ 0 := by
        intro h
        apply Classical.byContradiction
        intro hn
        simp_all
      obtain ⟨g1, g2, g3, g4⟩ := reach_facts hf hI0 hlast
      obtain ⟨k, hk⟩ := Int.eq_ofNat_of_zero_le (show 0 ≤ (v - F (S + P - 1) + I - 1) / I by omega)
      have hkv : (k : Int) ≤ v + I := by
        have : (k : Int) * 1 ≤ (k : Int) * I := Int.mul_le_mul_of_nonneg_left (by omega) (by omega)
        rw [hk] at g2; omega
      have hr : reachF F S P I v = (findFrom (fun t => decide (F t ≥ v)) (P + 1) (S + P + (k - 1) * P), true) := by unfold reachF; rw [hff, if_neg (fun hh => hh rfl), if_neg hI0, hk, Int.toNat_natCast]
      rw [hk, Int.toNat_natCast] at g3
      rw [hk] at g1 g2 g4
      have hkP : ((k - 1) * P : Nat) ≤ 1100000000000000 * 120 := Nat.mul_le_mul (by omega) (by omega)
      have hkP2 : ((k : Int) - 1) * (P : Int) = (((k - 1) * P : Nat) : Int) := by rw [Int.natCast_mul, show ((k - 1 : Nat) : Int) = (k : Int) - 1 by omega]
      generalize ht0 : S + P + (k - 1) * P = t0 at hr g3
      refine W.skip ?_
      refine WE.nxt ?_
      refine W.seq ?_
      refine W.regionQ _ mixed (by kernel_rfl) ?_
      refine WG.run tab_ok 2 rfl ?_
      refine' WG.y rfl rfl (by decide) (Yl.load1 tab_ok rfl rfl rfl (fun _ => rfl) ?r6 rfl ?h6) ?_
      case r6 => apply Rd.add; (first | exact Rd.blk 0 rfl | exact Rd.blk 1 rfl)
      case h6 => rfl
      refine WG.run tab_ok 1 rfl ?_
      refine WG.y rfl rfl (by decide) (Yl.sub rfl rfl rfl (fun _ => rfl) (by intro _; constructor <;> (try dsimp only) <;> omega)) ?_
      refine WG.y rfl rfl (by decide) (Yl.index tab_ok rfl rfl rfl rfl rfl rfl (fun _ => rfl) (by intro _; constructor <;> (try dsimp only) <;> omega) (by intro _; first | exact fun _ _ _ _ => rfl | exact RS.has (by assumption) | exact fun _ _ _ _ => (by assumption) | exact HasMem.ownD 0 rfl | exact HasMem.ownD 1 rfl)) ?_
      refine' WG.y rfl rfl (by decide) (Yl.load1 tab_ok rfl rfl rfl (fun _ => rfl) ?r7 rfl ?h7) ?_
      case r7 => (first | (apply RS.rdD; assumption; ((try dsimp only) <;> omega)) | exact Rd.slD 0 rfl (by (try dsimp only) <;> omega) | exact Rd.slD 1 rfl (by (try dsimp only) <;> omega))
      case h7 => rfl
      rw [hvl]
      refine WG.y rfl rfl (by decide) (Yl.sub rfl rfl rfl (fun _ => rfl) (by intro _; constructor <;> (try dsimp only) <;> omega)) ?_
      refine WG.run tab_ok 1 rfl ?_
      refine' WG.y rfl rfl (by decide) (Yl.load1 tab_ok rfl rfl rfl (fun _ => rfl) ?r8 rfl ?h8) ?_
      case r8 => apply Rd.add; (first | exact Rd.blk 0 rfl | exact Rd.blk 1 rfl)
      case h8 => rfl
      refine WG.y rfl rfl (by decide) (Yl.add rfl rfl rfl (fun _ => rfl) (by intro _; constructor <;> (try dsimp only) <;> omega)) ?_
      refine WG.y rfl rfl (by decide) (Yl.sub rfl rfl rfl (fun _ => rfl) (by intro _; constructor <;> (try dsimp only) <;> omega)) ?_
      refine WG.run tab_ok 1 rfl ?_
      refine' WG.y rfl rfl (by decide) (Yl.load1 tab_ok rfl rfl rfl (fun _ => rfl) ?r9 rfl ?h9) ?_
      case r9 => apply Rd.add; (first | exact Rd.blk 0 rfl | exact Rd.blk 1 rfl)
      case h9 => rfl
      refine WG.y rfl rfl (by decide) (Yl.quo rfl rfl rfl (fun _ => rfl) (by intro _; constructor <;> (try dsimp only) <;> omega) (by intro _; omega)) ?_
      refine WG.run tab_ok 1 rfl ?_
      refine WG.nil ?_
      refine WE.nxt ?_
      rw [hk]
      refine W.seq ?_
      refine W.region _ ?_
      refine WG.run tab_ok 2 rfl ?_
      refine WG.y rfl rfl (by decide) (Yl.sub rfl rfl rfl (fun _ => rfl) (by intro _; constructor <;> (try dsimp only) <;> omega)) ?_
      refine WG.run tab_ok 1 rfl ?_
      refine WG.y rfl rfl (by decide) (Yl.mul rfl rfl rfl (fun _ => rfl) (by intro _; constructor <;> (try dsimp only) <;> omega)) ?_
      refine WG.y rfl rfl (by decide) (Yl.add rfl rfl rfl (fun _ => rfl) (by intro _; constructor <;> (try dsimp only) <;> omega)) ?_
      rw [hkP2, show (((fvals F (S + P)).length : Int)) + (((k - 1) * P : Nat) : Int) = (t0 : Int) by omega]
      refine WG.run tab_ok 1 rfl ?_
      refine WG.nil ?_
      refine WE.nxt ?_
      refine W.seq ?_
      refine W.block ?_
      refine W.loopK (β := Nat) (fun t => t0 ≤ t ∧ t ≤ t0 + (P - 1) ∧ ∀ j, t0 ≤ j → j < t → F j < v) (fun t => [(11, true, .int .i64 (t : Int))]) [1, 2] [_, _] [] _ rfl (fun t => []) (fun t => t0 + P - t) (t0) (⟨Nat.le_refl _, by omega, fun j a b => by omega⟩) ⟨rfl, rfl, rfl, rfl⟩ qS ?_
      intro t hst
      dsimp only [zipE, setAll, List.cons_append, List.nil_append, List.set_cons_zero, List.set_cons_succ] at hst ⊢
      obtain ⟨ht1, ht2, hno2⟩ := hst
      have hmt := hf.mono ht2
      have hbt : F t ≤ v + 1073741824 := by omega
      refine W.seq ?_
      refine W.seq ?_
      refine W.region _ ?_
      refine' WG.y rfl rfl (by decide) (Yl.load1 tab_ok rfl rfl rfl (fun _ => rfl) ?r10 rfl ?h10) ?_
      case r10 => (first | exact Rd.blk 0 rfl | exact Rd.blk 1 rfl)
      case h10 => rfl
      refine WG.run tab_ok 1 rfl ?_
      refine WG.callV en68 rfl rfl (by decide) (CallOp.mk' rfl rfl rfl rfl) (fun _ => rfl) (fun hg => WAt_V hf ha (by omega) (by omega)) ?_
      refine WG.run tab_ok 2 rfl ?_
      refine WG.nil ?_
      refine WE.nxt ?_
      refine W.condD rfl (fun hc3 => ?_) (fun hc3 => ?_)
      · try dsimp only at hc3
        refine W.skip ?_
        refine WE.nxt ?_
        refine W.block ?_
        refine W.region _ ?_
        refine WG.run tab_ok 1 rfl ?_
        refine WG.y rfl rfl (by decide) (Yl.add rfl rfl rfl (fun _ => rfl) (by intro _; constructor <;> (try dsimp only) <;> omega)) ?_
        refine WG.run tab_ok 1 rfl ?_
        refine WG.nil ?_
        refine WE.blk _ ?_
        refine WE.again (t + 1) (⟨by omega, by
          apply Classical.byContradiction
          intro hn
          have e : t = t0 + (P - 1) := by omega
          rw [e, g3] at hc3
          omega, fun j a b => by
          by_cases e : j = t
          · subst e; exact hc3
          · exact hno2 j a (by omega)⟩) (by (try dsimp only); omega) ⟨rfl, rfl, rfl, rfl⟩ (RLe.refl _) qS
      · try dsimp only at hc3
        have hff2 : findFrom (fun t => decide (F t ≥ v)) (P + 1) t0 = t := findFrom_some ht1 (by omega) (decide_eq_true (by omega)) (fun j a b => decide_eq_false (by have := hno2 j a b; omega))
        rw [hff2] at hr
        refine W.exit ?_
        refine WE.then_exit ?_
        refine WE.then_exit ?_
        refine WE.blk_exit ?_
        refine WE.nxt ?_
        refine W.seq ?_
        refine W.region _ ?_
        refine WG.run tab_ok 3 rfl ?_
        refine WG.nil ?_
        refine WE.nxt ?_
        refine W.ret ?_
        refine WE.subE (E' := E) qS ?_
        refine WE.retF tab_ok [_, _] rfl ⟨rfl, rfl, trivial⟩ (RLe.refl _) ?_
        exact ⟨by rw [hr]; rfl, rfl⟩

theorem Greatest_V {R : Ro} {g : FuncId} {fi ca : Array Value} {f : Nat → Int × Bool} {n : Nat} (hE : Enters Try.prog g) (hF : ∀ t : Nat, t < n → FnV Try.prog g (fi.toList ++ [.int .i64 (t : Int)] ++ ca.toList) R (.tuple #[.int .i64 (f t).1, .bool (f t).2])) (hn : n ≤ 1000000) : FnV Try.prog 87 [.int .i64 (n : Int), .func (.func g) fi ca] R (.agg #[.bool (greatW f n 0 0 0).1, .int .i64 (greatW f n 0 0 0).2.1, .int .i64 (greatW f n 0 0 0).2.2]) := by
  refine Fn.toVS (fun w0 E => ?_)
  refine Fn.enter (n := 32) Try.func87 rfl rfl (Nat.le_of_ble_eq_true rfl) rfl ?_
  refine W.seq ?_
  refine W.region _ ?_
  refine WL.ef rfl rfl (by decide) (Ef.alloc tab_ok rfl rfl (fun b4 => ?_))
  refine WG.nil ?_
  refine WE.nxt ?_
  refine W.seq ?_
  refine W.region _ ?_
  refine WL.ef rfl rfl (by decide) (Ef.alloc tab_ok rfl rfl (fun b5 => ?_))
  refine WG.nil ?_
  refine WE.nxt ?_
  refine W.seq ?_
  refine W.seq ?_
  refine W.region _ ?_
  refine WG.run tab_ok 2 rfl ?_
  refine WG.nil ?_
  refine WE.nxt ?_
  refine W.block ?_
  refine W.loopK (β := Nat × Int × Int) (fun (t, v, a) => t ≤ n ∧ greatW f (n - t) t v a = greatW f n 0 0 0) (fun (t, v, a) => [(10, true, .int .i64 (t : Int))]) [1, 4, 5, 9] [_, _, _, _] [] _ rfl (fun (t, v, a) => [(0, .blk b5 [.bool false, .int .i64 v, .int .i64 a])]) (fun (t, v, a) => n - t) ((0, 0, 0)) (⟨Nat.zero_le _, by rfl⟩) ⟨rfl, rfl, rfl, rfl, rfl, rfl⟩ qS ?_
  intro st hst
  obtain ⟨t, v, a⟩ := st
  dsimp only [zipE, setAll, List.cons_append, List.nil_append, List.set_cons_zero, List.set_cons_succ] at hst ⊢
  obtain ⟨ht, hg⟩ := hst
  refine W.seq ?_
  refine W.region _ ?_
  refine WG.run tab_ok 1 rfl ?_
  refine WG.nil ?_
  refine WE.nxt ?_
  refine W.seq ?_
  refine W.condD rfl (fun hc0 => ?_) (fun hc0 => ?_)
  · try dsimp only at hc0
    have htl : t < n := by omega
    obtain ⟨m, hm⟩ : ∃ m, n - t = m + 1 := ⟨n - t - 1, by omega⟩
    have hm2 : n - (t + 1) = m := by omega
    rw [hm, greatW] at hg
    refine W.skip ?_
    refine WE.nxt ?_
    refine W.seq ?_
    refine W.block ?_
    refine W.seq ?_
    refine W.region _ ?_
    refine WG.run tab_ok 2 rfl ?_
    refine WG.nil ?_
    refine WE.nxt ?_
    refine W.seq ?_
    refine W.region _ ?_
    refine WG.run tab_ok 2 rfl ?_
    refine WG.callV (v := .tuple #[.int .i64 (f t).1, .bool (f t).2]) hE rfl rfl (by decide) (CallOp.mk' rfl rfl rfl rfl) (fun _ => rfl) (fun hg => hF t htl) ?_
    refine WG.run tab_ok 5 rfl ?_
    refine WG.nil ?_
    refine WE.nxt ?_
    refine W.seq ?_
    refine W.seq ?_
    refine W.region _ ?_
    refine WG.run tab_ok 2 rfl ?_
    refine WG.nil ?_
    refine WE.nxt ?_
    refine W.cond rfl (fun hc1 => ?_) (fun hc1 => ?_)
    · try simp only [decide_eq_true_eq, decide_eq_false_iff_not, beq_iff_eq, bne_iff_ne, beq_eq_false_iff_ne, bne_eq_false_iff_eq, ne_eq, Bool.or_eq_true, Bool.or_eq_false_iff, Bool.and_eq_true, Bool.and_eq_false_imp, Bool.not_eq_true, Bool.not_eq_true', Bool.not_eq_false', Classical.not_not, Int.not_lt, Int.not_le, gt_iff_lt, ge_iff_le] at hc1
      have hok : (f t).2 = false := by simpa using hc1
      rw [if_pos hok] at hg
      refine W.seq ?_
      refine W.region _ ?_
      -- build
      refine WG.y rfl rfl (by decide) (Yl.build (parts := [(0, .const (.bool true))]) tab_ok rfl rfl rfl rfl (fun _ => rfl) rfl rfl) ?_
      first | refine WL.efN rfl rfl (Ef.store0 0 tab_ok rfl rfl rfl rfl rfl rfl rfl rfl ?_) | refine WL.efN rfl rfl (Ef.store0 1 tab_ok rfl rfl rfl rfl rfl rfl rfl rfl ?_) | refine WL.efN rfl rfl (Ef.store0 2 tab_ok rfl rfl rfl rfl rfl rfl rfl rfl ?_)
      refine WG.nil ?_
      refine WE.nxt ?_
      refine W.ret ?_
      refine WE.then_ret ?_
      refine WE.blk_ret ?_
      refine WE.then_ret ?_
      refine WE.then_ret ?_
      refine WE.blk_ret ?_
      refine WE.then_ret ?_
      refine WE.retF tab_ok [_] rfl ⟨⟨_, _, _, rfl, rfl, rfl, ((by first | exact Rd.blk 0 rfl | exact Rd.blk 1 rfl | exact Rd.blk 2 rfl)), rfl⟩, trivial⟩ (RLe.refl _) ?_
      exact ⟨by rw [← hg]; rfl, qS⟩
    · try simp only [decide_eq_true_eq, decide_eq_false_iff_not, beq_iff_eq, bne_iff_ne, beq_eq_false_iff_ne, bne_eq_false_iff_eq, ne_eq, Bool.or_eq_true, Bool.or_eq_false_iff, Bool.and_eq_true, Bool.and_eq_false_imp, Bool.not_eq_true, Bool.not_eq_true', Bool.not_eq_false', Classical.not_not, Int.not_lt, Int.not_le, gt_iff_lt, ge_iff_le] at hc1
      have hok : ¬ (f t).2 = false := by simpa using hc1
      rw [if_neg hok] at hg
      refine W.skip ?_
      refine WE.nxt ?_
      refine W.seq ?_
      refine W.region _ ?_
      refine WG.run tab_ok 2 rfl ?_
      refine' WG.y rfl rfl (by decide) (Yl.load1 tab_ok rfl rfl rfl (fun _ => rfl) ?r1 rfl ?h1) ?_
      case r1 => apply Rd.add; (first | exact Rd.blk 0 rfl | exact Rd.blk 1 rfl | exact Rd.blk 2 rfl)
      case h1 => rfl
      refine WG.run tab_ok 1 rfl ?_
      refine WG.nil ?_
      refine WE.nxt ?_
      refine W.condD rfl (fun hc2 => ?_) (fun hc2 => ?_)
      · try dsimp only at hc2
        rw [if_pos hc2, ← hm2] at hg
        refine W.region _ ?_
        refine WG.run tab_ok 3 rfl ?_
        first | refine WL.efN rfl rfl (Ef.store 0 tab_ok rfl rfl rfl rfl rfl rfl rfl rfl ?_) | refine WL.efN rfl rfl (Ef.store 1 tab_ok rfl rfl rfl rfl rfl rfl rfl rfl ?_) | refine WL.efN rfl rfl (Ef.store 2 tab_ok rfl rfl rfl rfl rfl rfl rfl rfl ?_)
        refine WG.run tab_ok 1 rfl ?_
        first | refine WL.efN rfl rfl (Ef.store 0 tab_ok rfl rfl rfl rfl rfl rfl rfl rfl ?_) | refine WL.efN rfl rfl (Ef.store 1 tab_ok rfl rfl rfl rfl rfl rfl rfl rfl ?_) | refine WL.efN rfl rfl (Ef.store 2 tab_ok rfl rfl rfl rfl rfl rfl rfl rfl ?_)
        refine WG.nil ?_
        refine WE.blk _ ?_
        refine WE.nxt ?_
        refine W.region _ ?_
        refine WG.y rfl rfl (by decide) (Yl.add rfl rfl rfl (fun _ => rfl) (by intro _; constructor <;> (try dsimp only) <;> omega)) ?_
        refine WG.run tab_ok 1 rfl ?_
        refine WG.nil ?_
        refine WE.again ((t + 1, (f t).1, t)) (⟨by dsimp only; omega, hg⟩) (by (try dsimp only); omega) ⟨rfl, rfl, rfl, rfl, rfl, rfl⟩ (RLe.refl _) qS
      · try dsimp only at hc2
        rw [if_neg (by omega), ← hm2] at hg
        refine W.skip ?_
        refine WE.blk _ ?_
        refine WE.nxt ?_
        refine W.region _ ?_
        refine WG.y rfl rfl (by decide) (Yl.add rfl rfl rfl (fun _ => rfl) (by intro _; constructor <;> (try dsimp only) <;> omega)) ?_
        refine WG.run tab_ok 1 rfl ?_
        refine WG.nil ?_
        refine WE.again ((t + 1, v, a)) (⟨by dsimp only; omega, hg⟩) (by (try dsimp only); omega) ⟨rfl, rfl, rfl, rfl, rfl, rfl⟩ (RLe.refl _) qS
  · try dsimp only at hc0
    obtain rfl : t = n := by omega
    rw [Nat.sub_self, greatW] at hg
    refine W.exit ?_
    refine WE.then_exit ?_
    refine WE.then_exit ?_
    refine WE.blk_exit ?_
    refine WE.nxt ?_
    refine W.seq ?_
    refine W.region _ ?_
    refine' WG.y rfl rfl (by decide) (Yl.load1 tab_ok rfl rfl rfl (fun _ => rfl) ?r2 rfl ?h2) ?_
    case r2 => (first | exact Rd.blk 0 rfl | exact Rd.blk 1 rfl | exact Rd.blk 2 rfl)
    case h2 => rfl
    first | refine WL.efN rfl rfl (Ef.store0 0 tab_ok rfl rfl rfl rfl rfl rfl rfl rfl ?_) | refine WL.efN rfl rfl (Ef.store0 1 tab_ok rfl rfl rfl rfl rfl rfl rfl rfl ?_) | refine WL.efN rfl rfl (Ef.store0 2 tab_ok rfl rfl rfl rfl rfl rfl rfl rfl ?_)
    refine WG.nil ?_
    refine WE.nxt ?_
    refine W.ret ?_
    refine WE.retF tab_ok [_] rfl ⟨⟨_, _, _, rfl, rfl, rfl, ((by first | exact Rd.blk 0 rfl | exact Rd.blk 1 rfl | exact Rd.blk 2 rfl)), rfl⟩, trivial⟩ (RLe.refl _) ?_
    exact ⟨by rw [← hg]; rfl, qS⟩

end Go.Proofs.Ytolmmfphdieilaa

/- Two finite curves in normal form. No condition. -/
set_option linter.unusedSimpArgs false
set_option linter.unusedVariables false
namespace Go.Proofs.Ytolmmfphdieilaa
open Go Go.RowKit Go.Proofs.Ytolmmfphdieilaa.K Go.Proofs.Ytolmmfphdieilaa.M

end Go.Proofs.Ytolmmfphdieilaa

/- The delay of two finite curves. No condition. -/
set_option linter.unusedSimpArgs false
set_option linter.unusedVariables false
namespace Go.Proofs.Ytolmmfphdieilaa
open Go Go.RowKit Go.Proofs.Ytolmmfphdieilaa.K Go.Proofs.Ytolmmfphdieilaa.M

theorem DelayF_V {R : Ro} {f1 : Option Addr} {c1 : Nat} {F : Nat → Int} {s1 pp1 : Nat} {q1 : Int} (hf : FC F s1 pp1 q1) (ha : RS R 1 encI f1 (fvals F (s1 + pp1))) {f2 : Option Addr} {c2 : Nat} {G : Nat → Int} {s2 pp2 : Nat} {q2 : Int} (hfg : FC G s2 pp2 q2) (hb : RS R 1 encI f2 (fvals G (s2 + pp2))) {b6 : Nat} {tk : Int} {lo : Bool} (h6 : R b6 = some [.slice f1 (fvals F (s1 + pp1)).length c1, .int .i64 (pp1 : Int), .int .i64 q1, .slice f2 (fvals G (s2 + pp2)).length c2, .int .i64 (pp2 : Int), .int .i64 q2, .int .i64 tk, .bool lo]) {t : Nat} (ht : t ≤ 1000) : FnV Try.prog 88 [.int .i64 (t : Int), .pointer (some ⟨b6, 0, none⟩)] R (.tuple #[.int .i64 ((fun t : Nat => ((reachF G s2 pp2 q2 (F t)).1 - (t : Int), (reachF G s2 pp2 q2 (F t)).2)) t).1, .bool ((fun t : Nat => ((reachF G s2 pp2 q2 (F t)).1 - (t : Int), (reachF G s2 pp2 q2 (F t)).2)) t).2]) := by
  have hbd := hf.bound t
  have hn0 := hf.nonneg t
  have hrb := reach_bound hfg (v := F t) (by omega)
  refine Fn.toV (fun w0 E => ?_)
  refine Fn.enter (n := 21) Try.func88 rfl rfl (Nat.le_of_ble_eq_true rfl) rfl ?_
  refine W.seq ?_
  refine W.region _ ?_
  refine WG.run tab_ok 2 rfl ?_
  refine WG.nil ?_
  refine WE.nxt ?_
  refine W.seq ?_
  refine W.regionQ _ mixed (by kernel_rfl) ?_
  refine WG.run tab_ok 1 rfl ?_
  refine' WG.y rfl rfl (by decide) (Yl.load1 tab_ok rfl rfl rfl (fun _ => rfl) ?r1 rfl ?h1) ?_
  case r1 => apply Rd.add; (first | exact Rd.ro (by assumption) | exact Rd.blk 0 rfl | (apply RS.rdD; assumption; ((try dsimp only) <;> omega)) | exact Rd.slD 0 rfl (by (try dsimp only) <;> omega))
  case h1 => rfl
  refine WG.run tab_ok 1 rfl ?_
  refine' WG.y rfl rfl (by decide) (Yl.load1 tab_ok rfl rfl rfl (fun _ => rfl) ?r2 rfl ?h2) ?_
  case r2 => apply Rd.add; (first | exact Rd.ro (by assumption) | exact Rd.blk 0 rfl | (apply RS.rdD; assumption; ((try dsimp only) <;> omega)) | exact Rd.slD 0 rfl (by (try dsimp only) <;> omega))
  case h2 => rfl
  refine WG.run tab_ok 1 rfl ?_
  refine WG.callV en68 rfl rfl (by decide) (CallOp.mk' rfl rfl rfl rfl) (fun _ => rfl) (fun hg => WAt_V hf ha (by omega) (by omega)) ?_
  refine WG.callV en89 rfl rfl (by decide) (CallOp.mk' rfl rfl rfl rfl) (fun _ => rfl) (fun hg => ReachF_V hfg hb (by omega)) ?_
  refine WG.run tab_ok 5 rfl ?_
  refine WG.nil ?_
  refine WE.nxt ?_
  refine W.seq ?_
  refine W.region _ ?_
  refine WG.run tab_ok 2 rfl ?_
  refine WG.y rfl rfl (by decide) (Yl.sub rfl rfl rfl (fun _ => rfl) (by intro _; constructor <;> (try dsimp only) <;> omega)) ?_
  refine WG.run tab_ok 3 rfl ?_
  refine WG.nil ?_
  refine WE.nxt ?_
  refine W.ret ?_
  refine WE.subE (E' := E) qS ?_
  refine WE.retF tab_ok [_, _] rfl ⟨rfl, rfl, trivial⟩ (RLe.refl _) ?_
  exact ⟨rfl, rfl⟩

end Go.Proofs.Ytolmmfphdieilaa

/- The delay of two finite curves, one of period 1. No condition. -/
set_option linter.unusedSimpArgs false
set_option linter.unusedVariables false
namespace Go.Proofs.Ytolmmfphdieilaa
open Go Go.RowKit Go.Proofs.Ytolmmfphdieilaa.K Go.Proofs.Ytolmmfphdieilaa.M

theorem Both2_C {R : Ro} {fa : Option Addr} {fc : Nat} {F : Nat → Int} {S1 P1 : Nat} {I1 : Int} (hf : FC F S1 P1 I1) (ha : RS R 1 encI fa (fvals F (S1 + P1))) {ga : Option Addr} {gc : Nat} {G : Nat → Int} {S2 P2 : Nat} {I2 : Int} (hg : FC G S2 P2 I2) (hb : RS R 1 encI ga (fvals G (S2 + P2))) (hP1 : P1 ≤ 100) (hP2 : P2 ≤ 1) (w0 : World) (E : List Ent) : K.Fn Try.prog 86 [.agg #[.slice fa (fvals F (S1 + P1)).length fc, .int .i64 (P1 : Int), .int .i64 I1], .agg #[.slice ga (fvals G (S2 + P2)).length gc, .int .i64 (P2 : Int), .int .i64 I2]] w0 R E (fun v R' E' => ∃ (f1 : Option Addr) (n1 c1 : Nat) (p1 q1 : Int) (f2 : Option Addr) (n2 c2 : Nat) (p2 q2 tk : Int) (lo : Bool) (e : Int), v = .tuple #[.agg #[.slice f1 n1 c1, .int .i64 p1, .int .i64 q1, .slice f2 n2 c2, .int .i64 p2, .int .i64 q2, .int .i64 tk, .bool lo], .int .i64 e] ∧
      e = 0 ∧ (e = 0 → ∃ s1 pp1 s2 pp2 : Nat, n1 = (fvals F (s1 + pp1)).length ∧ p1 = (pp1 : Int) ∧ n2 = (fvals G (s2 + pp2)).length ∧ p2 = (pp2 : Int) ∧ FC F s1 pp1 q1 ∧ FC G s2 pp2 q2 ∧ RS R' 1 encI f1 (fvals F (s1 + pp1)) ∧ RS R' 1 encI f2 (fvals G (s2 + pp2)) ∧ lcmN pp1 pp2 ≤ 120 ∧ tk = ((max s1 s2 + lcmN pp1 pp2 : Nat) : Int) ∧
        lo = decide (((lcmN pp1 pp2 : Nat) : Int) / (pp1 : Int) * q1 > ((lcmN pp1 pp2 : Nat) : Int) / (pp2 : Int) * q2)) ∧ E.Sublist E') := by
  obtain ⟨s1, pp1, q1, hx1, hfc1, _, hle1⟩ := build_ok (by have := hf.hP; have := hf.hn; omega) (by have := hf.hI; omega) (by have := hf.hn; omega) hf.hg hf.hm hf.h0 hf.hb
  have hpp1 := hfc1.hP
  have hnn1 := hfc1.hn
  obtain ⟨s2, pp2, q2, hx2, hfc2, _, hle2⟩ := build_ok (by have := hg.hP; have := hg.hn; omega) (by have := hg.hI; omega) (by have := hg.hn; omega) hg.hg hg.hm hg.h0 hg.hb
  have hpp2 := hfc2.hP
  have hnn2 := hfc2.hn
  refine Fn.enter (n := 65) Try.func86 rfl rfl (Nat.le_of_ble_eq_true rfl) rfl ?_
  refine W.seq ?_
  refine W.region _ ?_
  refine WL.ef rfl rfl (by decide) (Ef.box rfl rfl (fun b2 => ?_))
  refine WL.ef rfl rfl (by decide) (Ef.box rfl rfl (fun b3 => ?_))
  refine WL.ef rfl rfl (by decide) (Ef.alloc tab_ok rfl rfl (fun b4 => ?_))
  refine WG.run tab_ok 1 rfl ?_
  refine WG.nil ?_
  refine WE.nxt ?_
  refine W.seq ?_
  refine W.region _ ?_
  refine' WG.y rfl rfl (by decide) (Yl.load1 tab_ok rfl rfl rfl (fun _ => rfl) ?r1 rfl ?h1) ?_
  case r1 => (first | exact Rd.blk 0 rfl | exact Rd.blk 1 rfl | exact Rd.blk 2 rfl | exact Rd.blk 3 rfl | exact Rd.blk 4 rfl | exact Rd.blk 5 rfl | exact Rd.blk 6 rfl)
  case h1 => rfl
  refine WL.call en52 rfl rfl (by decide) (CallOp.mkT rfl rfl rfl rfl) (Normal_C hf ha w0 _) ?_
  rintro _ R1 _ hR1 ⟨f1, c1, rfl, hr1, hsubR1⟩
  refine WL.subE hsubR1 ?_
  unfold cvV
  refine WG.run tab_ok 3 rfl ?_
  refine WL.ef rfl rfl (by decide) (Ef.alloc tab_ok rfl rfl (fun b6 => ?_))
  first | refine WL.efN rfl rfl (Ef.store0 0 tab_ok rfl rfl rfl rfl rfl rfl rfl rfl ?_) | refine WL.efN rfl rfl (Ef.store0 1 tab_ok rfl rfl rfl rfl rfl rfl rfl rfl ?_) | refine WL.efN rfl rfl (Ef.store0 2 tab_ok rfl rfl rfl rfl rfl rfl rfl rfl ?_) | refine WL.efN rfl rfl (Ef.store0 3 tab_ok rfl rfl rfl rfl rfl rfl rfl rfl ?_) | refine WL.efN rfl rfl (Ef.store0 4 tab_ok rfl rfl rfl rfl rfl rfl rfl rfl ?_) | refine WL.efN rfl rfl (Ef.store0 5 tab_ok rfl rfl rfl rfl rfl rfl rfl rfl ?_) | refine WL.efN rfl rfl (Ef.store0 6 tab_ok rfl rfl rfl rfl rfl rfl rfl rfl ?_)
  refine WG.run tab_ok 1 rfl ?_
  refine WG.nil ?_
  refine WE.nxt ?_
  refine W.seq ?_
  refine W.seq ?_
  refine W.region _ ?_
  refine WG.run tab_ok 2 rfl ?_
  refine WG.nil ?_
  refine WE.nxt ?_
  refine W.condN rfl (fun hc0 => ?_) (fun hc0 => ?_)
  · try dsimp only at hc0
    rw [hx1] at hc0; exact absurd rfl hc0
  · try dsimp only at hc0
    rw [hx1] at hr1 ⊢
    dsimp only at hr1 ⊢
    refine W.skip ?_
    refine WE.nxt ?_
    refine W.seq ?_
    refine W.region _ ?_
    refine' WG.y rfl rfl (by decide) (Yl.load1 tab_ok rfl rfl rfl (fun _ => rfl) ?r2 rfl ?h2) ?_
    case r2 => (first | exact Rd.blk 0 rfl | exact Rd.blk 1 rfl | exact Rd.blk 2 rfl | exact Rd.blk 3 rfl | exact Rd.blk 4 rfl | exact Rd.blk 5 rfl | exact Rd.blk 6 rfl)
    case h2 => rfl
    refine WL.call en52 rfl rfl (by decide) (CallOp.mkT rfl rfl rfl rfl) (Normal_C hg (hb.mono hR1) w0 _) ?_
    rintro _ R2 _ hR2 ⟨f2, c2, rfl, hr2, hsubR2⟩
    refine WL.subE hsubR2 ?_
    unfold cvV
    refine WG.run tab_ok 3 rfl ?_
    refine WL.ef rfl rfl (by decide) (Ef.alloc tab_ok rfl rfl (fun b8 => ?_))
    first | refine WL.efN rfl rfl (Ef.store0 0 tab_ok rfl rfl rfl rfl rfl rfl rfl rfl ?_) | refine WL.efN rfl rfl (Ef.store0 1 tab_ok rfl rfl rfl rfl rfl rfl rfl rfl ?_) | refine WL.efN rfl rfl (Ef.store0 2 tab_ok rfl rfl rfl rfl rfl rfl rfl rfl ?_) | refine WL.efN rfl rfl (Ef.store0 3 tab_ok rfl rfl rfl rfl rfl rfl rfl rfl ?_) | refine WL.efN rfl rfl (Ef.store0 4 tab_ok rfl rfl rfl rfl rfl rfl rfl rfl ?_) | refine WL.efN rfl rfl (Ef.store0 5 tab_ok rfl rfl rfl rfl rfl rfl rfl rfl ?_) | refine WL.efN rfl rfl (Ef.store0 6 tab_ok rfl rfl rfl rfl rfl rfl rfl rfl ?_)
    refine WG.run tab_ok 1 rfl ?_
    refine WG.nil ?_
    refine WE.nxt ?_
    refine W.seq ?_
    refine W.seq ?_
    refine W.region _ ?_
    refine WG.run tab_ok 2 rfl ?_
    refine WG.nil ?_
    refine WE.nxt ?_
    refine W.condN rfl (fun hc1 => ?_) (fun hc1 => ?_)
    · try dsimp only at hc1
      rw [hx2] at hc1; exact absurd rfl hc1
    · try dsimp only at hc1
      rw [hx2] at hr2 ⊢
      dsimp only at hr2 ⊢
      have hr1 := hr1.mono hR2
      refine W.skip ?_
      refine WE.nxt ?_
      refine W.seq ?_
      refine W.region _ ?_
      refine WG.run tab_ok 1 rfl ?_
      refine' WG.y rfl rfl (by decide) (Yl.load1 tab_ok rfl rfl rfl (fun _ => rfl) ?r3 rfl ?h3) ?_
      case r3 => apply Rd.add; (first | exact Rd.blk 0 rfl | exact Rd.blk 1 rfl | exact Rd.blk 2 rfl | exact Rd.blk 3 rfl | exact Rd.blk 4 rfl | exact Rd.blk 5 rfl | exact Rd.blk 6 rfl)
      case h3 => rfl
      refine WG.run tab_ok 1 rfl ?_
      refine' WG.y rfl rfl (by decide) (Yl.load1 tab_ok rfl rfl rfl (fun _ => rfl) ?r4 rfl ?h4) ?_
      case r4 => apply Rd.add; (first | exact Rd.blk 0 rfl | exact Rd.blk 1 rfl | exact Rd.blk 2 rfl | exact Rd.blk 3 rfl | exact Rd.blk 4 rfl | exact Rd.blk 5 rfl | exact Rd.blk 6 rfl)
      case h4 => rfl
      refine WG.callV en53 rfl rfl (by decide) (CallOp.mk' rfl rfl rfl rfl) (fun _ => rfl) (fun hg => Common_V (a := pp1) (b := pp2) (by omega) (by omega)) ?_
      refine WG.run tab_ok 1 rfl ?_
      refine WG.nil ?_
      refine WE.nxt ?_
      refine W.seq ?_
      have hL : lcmN pp1 pp2 = pp1 / Nat.gcd pp1 pp2 * pp2 := rfl
      generalize pp1 / Nat.gcd pp1 pp2 * pp2 = L at hL ⊢
      refine W.seq ?_
      refine W.region _ ?_
      refine WG.run tab_ok 2 rfl ?_
      refine WG.nil ?_
      refine WE.nxt ?_
      refine W.condD rfl (fun hc2 => ?_) (fun hc2 => ?_)
      · try dsimp only at hc2
        obtain rfl : pp2 = 1 := by omega
        have hl1 : lcmN pp1 1 = pp1 := by simp [lcmN]
        omega
      · try dsimp only at hc2
        have hL120 : L ≤ 120 := by omega
        refine W.skip ?_
        refine WE.nxt ?_
        refine W.seqCut (β := Nat × Int) (fun (b10, tk) => tk = ((max s1 s2 + L : Nat) : Int)) (fun (b10, tk) => [(4, true, .pointer (some ⟨b4, 0, none⟩)), (6, true, .pointer (some ⟨b6, 0, none⟩)), (8, true, .pointer (some ⟨b8, 0, none⟩)), (9, true, .int .i64 (L : Int)), (10, true, .pointer (some ⟨b10, 0, none⟩))]) (fun _ => R2) (fun (b10, tk) => .blk b10 [.slice f1 (fvals F (s1 + pp1)).length c1, .int .i64 (pp1 : Int), .int .i64 q1, .slice f2 (fvals G (s2 + pp2)).length c2, .int .i64 (pp2 : Int), .int .i64 q2, .int .i64 tk, .bool false] :: .blk b8 [.slice f2 (fvals G (s2 + pp2)).length c2, .int .i64 (pp2 : Int), .int .i64 q2] :: .blk b6 [.slice f1 (fvals F (s1 + pp1)).length c1, .int .i64 (pp1 : Int), .int .i64 q1] :: .blk b4 [.slice none 0 0, .int .i64 0, .int .i64 0, .slice none 0 0, .int .i64 0, .int .i64 0, .int .i64 0, .bool false] :: E) ?_ ?_
        ·
          intro st hst
          obtain ⟨b10, tk⟩ := st
          obtain rfl : tk = _ := hst
          dsimp only
          refine W.seq ?_
          refine W.regionH _ (ES := [.blk b8 [.slice f2 (fvals G (s2 + pp2)).length c2, .int .i64 (pp2 : Int), .int .i64 q2], .blk b6 [.slice f1 (fvals F (s1 + pp1)).length c1, .int .i64 (pp1 : Int), .int .i64 q1]]) mixed ?_
          refine' WA.take 0 rfl (by kernel_rfl) (by kernel_rfl) (by kernel_rfl) rfl rfl (by decide) (Yl.load1 tab_ok rfl rfl rfl (fun _ => rfl) ?r5 rfl ?h5) qS (by first | exact RLe.refl _ | assumption) ?_
          case r5 => (first | exact Rd.blk 0 rfl | exact Rd.blk 1 rfl | exact Rd.blk 2 rfl | exact Rd.blk 3 rfl | exact Rd.blk 4 rfl | exact Rd.blk 5 rfl | exact Rd.blk 6 rfl)
          case h5 => rfl
          refine WA.callG 1 rfl (by kernel_rfl) en57 rfl (by first | rfl | decide) rfl (by decide) (CallOp.mkT rfl rfl rfl rfl) ((WFinite_V hfc2 hr2).toFn) ?_
          rintro _ _ _ - ⟨rfl, rfl, rfl⟩
          refine ⟨by first | exact RLe.refl _ | assumption, qS, ?_⟩
          refine WA.take 2 rfl (by kernel_rfl) (by kernel_rfl) (by kernel_rfl) rfl rfl (by decide) (pureV_ok tab_ok rfl (fun _ => rfl)) qS (by first | exact RLe.refl _ | assumption) ?_
          refine' WA.take 3 rfl (by kernel_rfl) (by kernel_rfl) (by kernel_rfl) rfl rfl (by decide) (Yl.loadG tab_ok rfl rfl rfl qE ?r6 rfl ?h6 ?g6) qS (by first | exact RLe.refl _ | assumption) ?_
          case r6 => (first | exact Rd.blkC 0 rfl | exact Rd.blkC 1 rfl | exact Rd.blkC 2 rfl | exact Rd.blkC 3 rfl | exact Rd.blkC 4 rfl | exact Rd.blkC 5 rfl | exact Rd.blkC 6 rfl)
          case h6 => rfl
          case g6 => first | exact fun _ => trivial | (intro hg; (try simp only [decide_eq_true_eq, decide_eq_false_iff_not, beq_iff_eq, bne_iff_ne, beq_eq_false_iff_ne, bne_eq_false_iff_eq, ne_eq, Bool.or_eq_true, Bool.or_eq_false_iff, Bool.and_eq_true, Bool.and_eq_false_imp, Bool.not_eq_true, Bool.not_eq_true', Bool.not_eq_false', Classical.not_not, Int.not_lt, Int.not_le, gt_iff_lt, ge_iff_le] at hg); (try dsimp only); omega)
          refine WA.callG 4 rfl (by kernel_rfl) en57 rfl (by first | rfl | decide) rfl (by decide) (CallOp.mkT rfl rfl rfl rfl) ((WFinite_V hfc1 hr1).toFn) ?_
          rintro _ _ _ - ⟨rfl, rfl, rfl⟩
          refine ⟨by first | exact RLe.refl _ | assumption, qS, ?_⟩
          refine WA.take 5 rfl (by kernel_rfl) (by kernel_rfl) (by kernel_rfl) rfl rfl (by decide) (pureV_ok tab_ok rfl qE) qS (by first | exact RLe.refl _ | assumption) ?_
          refine WA.take 6 rfl (by kernel_rfl) (by kernel_rfl) (by kernel_rfl) rfl rfl (by decide) (pureV_ok tab_ok rfl qE) qS (by first | exact RLe.refl _ | assumption) ?_
          refine' WA.take 7 rfl (by kernel_rfl) (by kernel_rfl) (by kernel_rfl) rfl rfl (by decide) (Yl.loadG tab_ok rfl rfl rfl qE ?r7 rfl ?h7 ?g7) qS (by first | exact RLe.refl _ | assumption) ?_
          case r7 => (first | exact Rd.blkC 0 rfl | exact Rd.blkC 1 rfl | exact Rd.blkC 2 rfl | exact Rd.blkC 3 rfl | exact Rd.blkC 4 rfl | exact Rd.blkC 5 rfl | exact Rd.blkC 6 rfl)
          case h7 => rfl
          case g7 => first | exact fun _ => trivial | (intro hg; (try simp only [decide_eq_true_eq, decide_eq_false_iff_not, beq_iff_eq, bne_iff_ne, beq_eq_false_iff_ne, bne_eq_false_iff_eq, ne_eq, Bool.or_eq_true, Bool.or_eq_false_iff, Bool.and_eq_true, Bool.and_eq_false_imp, Bool.not_eq_true, Bool.not_eq_true', Bool.not_eq_false', Classical.not_not, Int.not_lt, Int.not_le, gt_iff_lt, ge_iff_le] at hg); (try dsimp only); omega)
          refine WA.take 8 rfl (by kernel_rfl) (by kernel_rfl) (by kernel_rfl) rfl rfl (by decide) (pureV_ok tab_ok rfl qE) qS (by first | exact RLe.refl _ | assumption) ?_
          refine' WA.take 10 rfl (by kernel_rfl) (by kernel_rfl) (by kernel_rfl) rfl rfl (by decide) (Yl.loadG tab_ok rfl rfl rfl qE ?r8 rfl ?h8 ?g8) qS (by first | exact RLe.refl _ | assumption) ?_
          case r8 => (first | exact Rd.blkC 0 rfl | exact Rd.blkC 1 rfl | exact Rd.blkC 2 rfl | exact Rd.blkC 3 rfl | exact Rd.blkC 4 rfl | exact Rd.blkC 5 rfl | exact Rd.blkC 6 rfl)
          case h8 => rfl
          case g8 => first | exact fun _ => trivial | (intro hg; (try simp only [decide_eq_true_eq, decide_eq_false_iff_not, beq_iff_eq, bne_iff_ne, beq_eq_false_iff_ne, bne_eq_false_iff_eq, ne_eq, Bool.or_eq_true, Bool.or_eq_false_iff, Bool.and_eq_true, Bool.and_eq_false_imp, Bool.not_eq_true, Bool.not_eq_true', Bool.not_eq_false', Classical.not_not, Int.not_lt, Int.not_le, gt_iff_lt, ge_iff_le] at hg); (try dsimp only); omega)
          refine WA.take 11 rfl (by kernel_rfl) (by kernel_rfl) (by kernel_rfl) rfl rfl (by decide) (pureV_ok tab_ok rfl qE) qS (by first | exact RLe.refl _ | assumption) ?_
          refine WA.callG 9 rfl (by kernel_rfl) en54 rfl (by first | rfl | decide) rfl (by decide) (CallOp.mkT rfl rfl rfl rfl) ((WGain_V hfc1 hr1 (L := L) (by omega)).toFn) ?_
          rintro _ _ _ - ⟨rfl, rfl, rfl⟩
          refine ⟨by first | exact RLe.refl _ | assumption, qS, ?_⟩
          refine WA.callG 12 rfl (by kernel_rfl) en54 rfl (by first | rfl | decide) rfl (by decide) (CallOp.mkT rfl rfl rfl rfl) ((WGain_V hfc2 hr2 (L := L) (by omega)).toFn) ?_
          rintro _ _ _ - ⟨rfl, rfl, rfl⟩
          refine ⟨by first | exact RLe.refl _ | assumption, qS, ?_⟩
          refine WA.take 13 rfl (by kernel_rfl) (by kernel_rfl) (by kernel_rfl) rfl rfl (by decide) (pureV_ok tab_ok rfl qE) qS (by first | exact RLe.refl _ | assumption) ?_
          refine WA.take 14 rfl (by kernel_rfl) (by kernel_rfl) (by kernel_rfl) rfl rfl (by decide) (Yl.por rfl rfl rfl qE (by intro h1 h2; simp_all <;> omega)) qS (by first | exact RLe.refl _ | assumption) ?_
          refine WA.take 15 rfl (by kernel_rfl) (by kernel_rfl) (by kernel_rfl) rfl rfl (by decide) (Yl.pand rfl rfl rfl (fun _ => rfl) (by intro h1 h2; simp_all <;> omega)) qS (by first | exact RLe.refl _ | assumption) ?_
          refine WA.take 16 rfl (by kernel_rfl) (by kernel_rfl) (by kernel_rfl) rfl rfl (by decide) (pureV_ok tab_ok rfl (fun _ => rfl)) qS (by first | exact RLe.refl _ | assumption) ?_
          first | refine WA.effN 17 rfl (by kernel_rfl) rfl rfl (Ef.store 0 tab_ok rfl rfl rfl rfl rfl rfl rfl rfl ?_) | refine WA.effN 17 rfl (by kernel_rfl) rfl rfl (Ef.store 1 tab_ok rfl rfl rfl rfl rfl rfl rfl rfl ?_) | refine WA.effN 17 rfl (by kernel_rfl) rfl rfl (Ef.store 2 tab_ok rfl rfl rfl rfl rfl rfl rfl rfl ?_) | refine WA.effN 17 rfl (by kernel_rfl) rfl rfl (Ef.store 3 tab_ok rfl rfl rfl rfl rfl rfl rfl rfl ?_) | refine WA.effN 17 rfl (by kernel_rfl) rfl rfl (Ef.store 4 tab_ok rfl rfl rfl rfl rfl rfl rfl rfl ?_) | refine WA.effN 17 rfl (by kernel_rfl) rfl rfl (Ef.store 5 tab_ok rfl rfl rfl rfl rfl rfl rfl rfl ?_) | refine WA.effN 17 rfl (by kernel_rfl) rfl rfl (Ef.store 6 tab_ok rfl rfl rfl rfl rfl rfl rfl rfl ?_)
          refine ⟨by first | exact RLe.refl _ | assumption, qS, ?_⟩
          refine WA.done (by kernel_rfl) ?_
          refine WE.nxt ?_
          refine W.seq ?_
          refine W.region _ ?_
          refine' WG.y rfl rfl (by decide) (Yl.load1 tab_ok rfl rfl rfl (fun _ => rfl) ?r9 rfl ?h9) ?_
          case r9 => (first | exact Rd.blk 0 rfl | exact Rd.blk 1 rfl | exact Rd.blk 2 rfl | exact Rd.blk 3 rfl | exact Rd.blk 4 rfl | exact Rd.blk 5 rfl | exact Rd.blk 6 rfl | (apply RS.rdD; assumption; ((try dsimp only) <;> omega)) | exact Rd.slD 0 rfl (by (try dsimp only) <;> omega) | exact Rd.slD 1 rfl (by (try dsimp only) <;> omega) | exact Rd.slD 2 rfl (by (try dsimp only) <;> omega) | exact Rd.slD 3 rfl (by (try dsimp only) <;> omega) | exact Rd.slD 4 rfl (by (try dsimp only) <;> omega) | exact Rd.slD 5 rfl (by (try dsimp only) <;> omega) | exact Rd.slD 6 rfl (by (try dsimp only) <;> omega))
          case h9 => rfl
          first | refine WL.efN rfl rfl (Ef.store0 0 tab_ok rfl rfl rfl rfl rfl rfl rfl rfl ?_) | refine WL.efN rfl rfl (Ef.store0 1 tab_ok rfl rfl rfl rfl rfl rfl rfl rfl ?_) | refine WL.efN rfl rfl (Ef.store0 2 tab_ok rfl rfl rfl rfl rfl rfl rfl rfl ?_) | refine WL.efN rfl rfl (Ef.store0 3 tab_ok rfl rfl rfl rfl rfl rfl rfl rfl ?_) | refine WL.efN rfl rfl (Ef.store0 4 tab_ok rfl rfl rfl rfl rfl rfl rfl rfl ?_) | refine WL.efN rfl rfl (Ef.store0 5 tab_ok rfl rfl rfl rfl rfl rfl rfl rfl ?_) | refine WL.efN rfl rfl (Ef.store0 6 tab_ok rfl rfl rfl rfl rfl rfl rfl rfl ?_)
          refine WG.run tab_ok 1 rfl ?_
          refine WG.nil ?_
          refine WE.nxt ?_
          refine W.ret ?_
          refine WE.retF tab_ok [_, _] rfl ⟨⟨_, _, _, rfl, rfl, rfl, ((by first | exact Rd.blk 0 rfl | exact Rd.blk 1 rfl | exact Rd.blk 2 rfl | exact Rd.blk 3 rfl | exact Rd.blk 4 rfl | exact Rd.blk 5 rfl | exact Rd.blk 6 rfl)), rfl⟩, rfl, trivial⟩ ((by first | exact hR1.trans hR2 | exact hR1)) ?_
          refine ⟨f1, _, c1, _, _, f2, _, c2, _, _, _, _, _, rfl, rfl, fun _ => ⟨s1, pp1, s2, pp2, rfl, rfl, rfl, rfl, hfc1, hfc2, hr1, hr2, by rw [hL]; exact hL120, ?_, ?_⟩, qS⟩
          · first | (rw [hL]; done) | (rw [hL]; first | rfl | omega | (split <;> omega))
          · first | (rw [hL]; done) | (rw [hL]; rfl)
        ·
          refine W.regionH _ (ES := [.blk b8 [.slice f2 (fvals G (s2 + pp2)).length c2, .int .i64 (pp2 : Int), .int .i64 q2], .blk b6 [.slice f1 (fvals F (s1 + pp1)).length c1, .int .i64 (pp1 : Int), .int .i64 q1]]) mixed ?_
          refine' WA.take 0 rfl (by kernel_rfl) (by kernel_rfl) (by kernel_rfl) rfl rfl (by decide) (Yl.load1 tab_ok rfl rfl rfl (fun _ => rfl) ?r10 rfl ?h10) qS (by first | exact RLe.refl _ | assumption) ?_
          case r10 => (first | exact Rd.blk 0 rfl | exact Rd.blk 1 rfl | exact Rd.blk 2 rfl | exact Rd.blk 3 rfl | exact Rd.blk 4 rfl | exact Rd.blk 5 rfl | exact Rd.blk 6 rfl)
          case h10 => rfl
          refine' WA.take 1 rfl (by kernel_rfl) (by kernel_rfl) (by kernel_rfl) rfl rfl (by decide) (Yl.load1 tab_ok rfl rfl rfl (fun _ => rfl) ?r11 rfl ?h11) qS (by first | exact RLe.refl _ | assumption) ?_
          case r11 => (first | exact Rd.blk 0 rfl | exact Rd.blk 1 rfl | exact Rd.blk 2 rfl | exact Rd.blk 3 rfl | exact Rd.blk 4 rfl | exact Rd.blk 5 rfl | exact Rd.blk 6 rfl)
          case h11 => rfl
          refine' WA.take 2 rfl (by kernel_rfl) (by kernel_rfl) (by kernel_rfl) rfl rfl (by decide) (Yl.load1 tab_ok rfl rfl rfl (fun _ => rfl) ?r12 rfl ?h12) qS (by first | exact RLe.refl _ | assumption) ?_
          case r12 => (first | exact Rd.blk 0 rfl | exact Rd.blk 1 rfl | exact Rd.blk 2 rfl | exact Rd.blk 3 rfl | exact Rd.blk 4 rfl | exact Rd.blk 5 rfl | exact Rd.blk 6 rfl)
          case h12 => rfl
          refine' WA.take 4 rfl (by kernel_rfl) (by kernel_rfl) (by kernel_rfl) rfl rfl (by decide) (Yl.load1 tab_ok rfl rfl rfl (fun _ => rfl) ?r13 rfl ?h13) qS (by first | exact RLe.refl _ | assumption) ?_
          case r13 => (first | exact Rd.blk 0 rfl | exact Rd.blk 1 rfl | exact Rd.blk 2 rfl | exact Rd.blk 3 rfl | exact Rd.blk 4 rfl | exact Rd.blk 5 rfl | exact Rd.blk 6 rfl)
          case h13 => rfl
          refine WA.take 7 rfl (by kernel_rfl) (by kernel_rfl) (by kernel_rfl) rfl rfl (by decide) (pureV_ok tab_ok rfl (fun _ => rfl)) qS (by first | exact RLe.refl _ | assumption) ?_
          refine WA.br2 (i := 3) (j := 10) (by kernel_rfl) ?_ ?_
          ·
            refine WS.callG rfl en55 rfl (by first | rfl | decide) rfl (by decide) (CallOp.mkT rfl rfl rfl rfl) ((WStart_V hfc1 hr1).toFn) ?_
            rintro _ _ _ - ⟨rfl, rfl, rfl⟩
            refine ⟨by first | exact RLe.refl _ | assumption, qS, ?_⟩
            refine WA.br2 (i := 5) (j := 10) (by kernel_rfl) ?_ ?_
            ·
              refine WS.callG rfl en55 rfl (by first | rfl | decide) rfl (by decide) (CallOp.mkT rfl rfl rfl rfl) ((WStart_V hfc2 hr2).toFn) ?_
              rintro _ _ _ - ⟨rfl, rfl, rfl⟩
              refine ⟨by first | exact RLe.refl _ | assumption, qS, ?_⟩
              refine WA.take 6 rfl (by kernel_rfl) (by kernel_rfl) (by kernel_rfl) rfl rfl (by decide) (pureV_ok tab_ok rfl (fun _ => rfl)) qS (by first | exact RLe.refl _ | assumption) ?_
              refine WA.take 8 rfl (by kernel_rfl) (by kernel_rfl) (by kernel_rfl) rfl rfl (by decide) (Yl.add rfl rfl rfl (fun _ => rfl) (by intro _; constructor <;> (try dsimp only) <;> omega)) qS (by first | exact RLe.refl _ | assumption) ?_
              -- build
              refine WA.take 9 rfl (by kernel_rfl) (by kernel_rfl) (by kernel_rfl) rfl rfl (by decide) (Yl.build (parts := [(0, .tmp 37), (1, .tmp 38), (2, .tmp 45)]) tab_ok rfl rfl rfl rfl (fun _ => rfl) rfl rfl) qS (by first | exact RLe.refl _ | assumption) ?_
              refine WA.eff 10 rfl (by kernel_rfl) rfl rfl (by decide) (Ef.alloc tab_ok rfl rfl (fun b10 => ?_))
              refine ⟨by first | exact RLe.refl _ | assumption, qS, ?_⟩
              first | refine WA.effN 11 rfl (by kernel_rfl) rfl rfl (Ef.store0 0 tab_ok rfl rfl rfl rfl rfl rfl rfl rfl ?_) | refine WA.effN 11 rfl (by kernel_rfl) rfl rfl (Ef.store0 1 tab_ok rfl rfl rfl rfl rfl rfl rfl rfl ?_) | refine WA.effN 11 rfl (by kernel_rfl) rfl rfl (Ef.store0 2 tab_ok rfl rfl rfl rfl rfl rfl rfl rfl ?_) | refine WA.effN 11 rfl (by kernel_rfl) rfl rfl (Ef.store0 3 tab_ok rfl rfl rfl rfl rfl rfl rfl rfl ?_) | refine WA.effN 11 rfl (by kernel_rfl) rfl rfl (Ef.store0 4 tab_ok rfl rfl rfl rfl rfl rfl rfl rfl ?_) | refine WA.effN 11 rfl (by kernel_rfl) rfl rfl (Ef.store0 5 tab_ok rfl rfl rfl rfl rfl rfl rfl rfl ?_) | refine WA.effN 11 rfl (by kernel_rfl) rfl rfl (Ef.store0 6 tab_ok rfl rfl rfl rfl rfl rfl rfl rfl ?_)
              refine ⟨by first | exact RLe.refl _ | assumption, qS, ?_⟩
              refine WA.done (by kernel_rfl) ?_
              refine WE.cut (b10, (if (s1 : Int) < (s2 : Int) then (s2 : Int) else (s1 : Int)) + (L : Int)) (by first | rfl | omega | (split <;> omega)) ⟨rfl, rfl, rfl, rfl, rfl, rfl⟩ (RLe.refl _) qS
            ·
              refine WS.eff rfl rfl rfl (by decide) (Ef.alloc tab_ok rfl rfl (fun b10 => ?_))
              refine ⟨by first | exact RLe.refl _ | assumption, qS, ?_⟩
              refine WA.callG 5 rfl (by kernel_rfl) en55 rfl (by first | rfl | decide) rfl (by decide) (CallOp.mkT rfl rfl rfl rfl) ((WStart_V hfc2 hr2).toFn) ?_
              rintro _ _ _ - ⟨rfl, rfl, rfl⟩
              refine ⟨by first | exact RLe.refl _ | assumption, qS, ?_⟩
              refine WA.take 6 rfl (by kernel_rfl) (by kernel_rfl) (by kernel_rfl) rfl rfl (by decide) (pureV_ok tab_ok rfl (fun _ => rfl)) qS (by first | exact RLe.refl _ | assumption) ?_
              refine WA.take 8 rfl (by kernel_rfl) (by kernel_rfl) (by kernel_rfl) rfl rfl (by decide) (Yl.add rfl rfl rfl (fun _ => rfl) (by intro _; constructor <;> (try dsimp only) <;> omega)) qS (by first | exact RLe.refl _ | assumption) ?_
              -- build
              refine WA.take 9 rfl (by kernel_rfl) (by kernel_rfl) (by kernel_rfl) rfl rfl (by decide) (Yl.build (parts := [(0, .tmp 37), (1, .tmp 38), (2, .tmp 45)]) tab_ok rfl rfl rfl rfl (fun _ => rfl) rfl rfl) qS (by first | exact RLe.refl _ | assumption) ?_
              first | refine WA.effN 11 rfl (by kernel_rfl) rfl rfl (Ef.store0 0 tab_ok rfl rfl rfl rfl rfl rfl rfl rfl ?_) | refine WA.effN 11 rfl (by kernel_rfl) rfl rfl (Ef.store0 1 tab_ok rfl rfl rfl rfl rfl rfl rfl rfl ?_) | refine WA.effN 11 rfl (by kernel_rfl) rfl rfl (Ef.store0 2 tab_ok rfl rfl rfl rfl rfl rfl rfl rfl ?_) | refine WA.effN 11 rfl (by kernel_rfl) rfl rfl (Ef.store0 3 tab_ok rfl rfl rfl rfl rfl rfl rfl rfl ?_) | refine WA.effN 11 rfl (by kernel_rfl) rfl rfl (Ef.store0 4 tab_ok rfl rfl rfl rfl rfl rfl rfl rfl ?_) | refine WA.effN 11 rfl (by kernel_rfl) rfl rfl (Ef.store0 5 tab_ok rfl rfl rfl rfl rfl rfl rfl rfl ?_) | refine WA.effN 11 rfl (by kernel_rfl) rfl rfl (Ef.store0 6 tab_ok rfl rfl rfl rfl rfl rfl rfl rfl ?_)
              refine ⟨by first | exact RLe.refl _ | assumption, qS, ?_⟩
              refine WA.done (by kernel_rfl) ?_
              refine WE.cut (b10, (if (s1 : Int) < (s2 : Int) then (s2 : Int) else (s1 : Int)) + (L : Int)) (by first | rfl | omega | (split <;> omega)) ⟨rfl, rfl, rfl, rfl, rfl, rfl⟩ (RLe.refl _) qS
          ·
            refine WS.eff rfl rfl rfl (by decide) (Ef.alloc tab_ok rfl rfl (fun b10 => ?_))
            refine ⟨by first | exact RLe.refl _ | assumption, qS, ?_⟩
            refine WA.callG 3 rfl (by kernel_rfl) en55 rfl (by first | rfl | decide) rfl (by decide) (CallOp.mkT rfl rfl rfl rfl) ((WStart_V hfc1 hr1).toFn) ?_
            rintro _ _ _ - ⟨rfl, rfl, rfl⟩
            refine ⟨by first | exact RLe.refl _ | assumption, qS, ?_⟩
            refine WA.callG 5 rfl (by kernel_rfl) en55 rfl (by first | rfl | decide) rfl (by decide) (CallOp.mkT rfl rfl rfl rfl) ((WStart_V hfc2 hr2).toFn) ?_
            rintro _ _ _ - ⟨rfl, rfl, rfl⟩
            refine ⟨by first | exact RLe.refl _ | assumption, qS, ?_⟩
            refine WA.take 6 rfl (by kernel_rfl) (by kernel_rfl) (by kernel_rfl) rfl rfl (by decide) (pureV_ok tab_ok rfl (fun _ => rfl)) qS (by first | exact RLe.refl _ | assumption) ?_
            refine WA.take 8 rfl (by kernel_rfl) (by kernel_rfl) (by kernel_rfl) rfl rfl (by decide) (Yl.add rfl rfl rfl (fun _ => rfl) (by intro _; constructor <;> (try dsimp only) <;> omega)) qS (by first | exact RLe.refl _ | assumption) ?_
            -- build
            refine WA.take 9 rfl (by kernel_rfl) (by kernel_rfl) (by kernel_rfl) rfl rfl (by decide) (Yl.build (parts := [(0, .tmp 37), (1, .tmp 38), (2, .tmp 45)]) tab_ok rfl rfl rfl rfl (fun _ => rfl) rfl rfl) qS (by first | exact RLe.refl _ | assumption) ?_
            first | refine WA.effN 11 rfl (by kernel_rfl) rfl rfl (Ef.store0 0 tab_ok rfl rfl rfl rfl rfl rfl rfl rfl ?_) | refine WA.effN 11 rfl (by kernel_rfl) rfl rfl (Ef.store0 1 tab_ok rfl rfl rfl rfl rfl rfl rfl rfl ?_) | refine WA.effN 11 rfl (by kernel_rfl) rfl rfl (Ef.store0 2 tab_ok rfl rfl rfl rfl rfl rfl rfl rfl ?_) | refine WA.effN 11 rfl (by kernel_rfl) rfl rfl (Ef.store0 3 tab_ok rfl rfl rfl rfl rfl rfl rfl rfl ?_) | refine WA.effN 11 rfl (by kernel_rfl) rfl rfl (Ef.store0 4 tab_ok rfl rfl rfl rfl rfl rfl rfl rfl ?_) | refine WA.effN 11 rfl (by kernel_rfl) rfl rfl (Ef.store0 5 tab_ok rfl rfl rfl rfl rfl rfl rfl rfl ?_) | refine WA.effN 11 rfl (by kernel_rfl) rfl rfl (Ef.store0 6 tab_ok rfl rfl rfl rfl rfl rfl rfl rfl ?_)
            refine ⟨by first | exact RLe.refl _ | assumption, qS, ?_⟩
            refine WA.done (by kernel_rfl) ?_
            refine WE.cut (b10, (if (s1 : Int) < (s2 : Int) then (s2 : Int) else (s1 : Int)) + (L : Int)) (by first | rfl | omega | (split <;> omega)) ⟨rfl, rfl, rfl, rfl, rfl, rfl⟩ (RLe.refl _) qS

theorem Delay2_C {R : Ro} {fa : Option Addr} {fc : Nat} {F : Nat → Int} {S1 P1 : Nat} {I1 : Int} (hf : FC F S1 P1 I1) (ha : RS R 1 encI fa (fvals F (S1 + P1))) {ga : Option Addr} {gc : Nat} {G : Nat → Int} {S2 P2 : Nat} {I2 : Int} (hg : FC G S2 P2 I2) (hb : RS R 1 encI ga (fvals G (S2 + P2))) (hP1 : P1 ≤ 100) (hP2 : P2 ≤ 1) (w0 : World) (E : List Ent) : K.Fn Try.prog 37 [.agg #[.slice fa (fvals F (S1 + P1)).length fc, .int .i64 (P1 : Int), .int .i64 I1], .agg #[.slice ga (fvals G (S2 + P2)).length gc, .int .i64 (P2 : Int), .int .i64 I2]] w0 R E (fun v R' E' => ∃ (inf : Bool) (val at' e : Int), v = .tuple #[.agg #[.bool inf, .int .i64 val, .int .i64 at'], .int .i64 e] ∧ e = 0 ∧ 0 ≤ val ∧ val ≤ 1000000000000000000 ∧ (e = 0 → inf = false → ∀ u : Nat, F u ≤ G (u + val.toNat)) ∧ E.Sublist E') := by
  refine Fn.enter (n := 25) Try.func37 rfl rfl (Nat.le_of_ble_eq_true rfl) rfl ?_
  refine W.seq ?_
  refine W.region _ ?_
  refine WL.ef rfl rfl (by decide) (Ef.box rfl rfl (fun b2 => ?_))
  refine WL.ef rfl rfl (by decide) (Ef.box rfl rfl (fun b3 => ?_))
  refine WL.ef rfl rfl (by decide) (Ef.alloc tab_ok rfl rfl (fun b4 => ?_))
  refine WG.run tab_ok 1 rfl ?_
  refine WG.nil ?_
  refine WE.nxt ?_
  refine W.seq ?_
  refine W.region _ ?_
  refine' WG.y rfl rfl (by decide) (Yl.load1 tab_ok rfl rfl rfl (fun _ => rfl) ?r1 rfl ?h1) ?_
  case r1 => (first | exact Rd.ro (by assumption) | exact Rd.blk 0 rfl | exact Rd.blk 1 rfl | exact Rd.blk 2 rfl | exact Rd.blk 3 rfl | exact Rd.blk 4 rfl | exact Rd.blk 5 rfl)
  case h1 => rfl
  refine' WG.y rfl rfl (by decide) (Yl.load1 tab_ok rfl rfl rfl (fun _ => rfl) ?r2 rfl ?h2) ?_
  case r2 => (first | exact Rd.ro (by assumption) | exact Rd.blk 0 rfl | exact Rd.blk 1 rfl | exact Rd.blk 2 rfl | exact Rd.blk 3 rfl | exact Rd.blk 4 rfl | exact Rd.blk 5 rfl)
  case h2 => rfl
  refine WL.call en86 rfl rfl (by decide) (CallOp.mkT rfl rfl rfl rfl) (Both2_C hf ha hg hb hP1 hP2 w0 _) ?_
  rintro _ R1 _ hR1 ⟨f1, n1, c1, p1, q1, f2, n2, c2, p2, q2, tk, lo, e, rfl, he0, hpair, hsub⟩
  refine WL.subE hsub ?_
  refine WG.run tab_ok 3 rfl ?_
  refine WL.ef rfl rfl (by decide) (Ef.alloc tab_ok rfl rfl (fun b6 => ?_))
  first | refine WL.efN rfl rfl (Ef.store0 0 tab_ok rfl rfl rfl rfl rfl rfl rfl rfl ?_) | refine WL.efN rfl rfl (Ef.store0 1 tab_ok rfl rfl rfl rfl rfl rfl rfl rfl ?_) | refine WL.efN rfl rfl (Ef.store0 2 tab_ok rfl rfl rfl rfl rfl rfl rfl rfl ?_) | refine WL.efN rfl rfl (Ef.store0 3 tab_ok rfl rfl rfl rfl rfl rfl rfl rfl ?_) | refine WL.efN rfl rfl (Ef.store0 4 tab_ok rfl rfl rfl rfl rfl rfl rfl rfl ?_) | refine WL.efN rfl rfl (Ef.store0 5 tab_ok rfl rfl rfl rfl rfl rfl rfl rfl ?_)
  refine WG.run tab_ok 1 rfl ?_
  refine WG.nil ?_
  refine WE.nxt ?_
  refine W.seq ?_
  refine W.seq ?_
  refine W.region _ ?_
  refine WG.run tab_ok 2 rfl ?_
  refine WG.nil ?_
  refine WE.nxt ?_
  refine W.condN rfl (fun hc0 => ?_) (fun hc0 => ?_)
  · try dsimp only at hc0
    exact absurd he0 hc0
  · try dsimp only at hc0
    obtain ⟨s1, pp1, s2, pp2, rfl, rfl, rfl, rfl, hfc1, hfc2, hr1, hr2, hL, rfl, hlo⟩ := hpair hc0
    have hm1 := hfc1.hn
    have hm2 := hfc2.hn
    refine W.skip ?_
    refine WE.nxt ?_
    refine W.seq ?_
    refine W.seq ?_
    refine W.region _ ?_
    refine WG.run tab_ok 1 rfl ?_
    refine' WG.y rfl rfl (by decide) (Yl.load1 tab_ok rfl rfl rfl (fun _ => rfl) ?r3 rfl ?h3) ?_
    case r3 => apply Rd.add; (first | exact Rd.ro (by assumption) | exact Rd.blk 0 rfl | exact Rd.blk 1 rfl | exact Rd.blk 2 rfl | exact Rd.blk 3 rfl | exact Rd.blk 4 rfl | exact Rd.blk 5 rfl)
    case h3 => rfl
    refine WG.nil ?_
    refine WE.nxt ?_
    refine W.cond rfl (fun hc1 => ?_) (fun hc1 => ?_)
    · try simp only [decide_eq_true_eq, decide_eq_false_iff_not, beq_iff_eq, bne_iff_ne, beq_eq_false_iff_ne, bne_eq_false_iff_eq, ne_eq, Bool.or_eq_true, Bool.or_eq_false_iff, Bool.and_eq_true, Bool.and_eq_false_imp, Bool.not_eq_true, Bool.not_eq_true', Bool.not_eq_false', Classical.not_not, Int.not_lt, Int.not_le, gt_iff_lt, ge_iff_le] at hc1
      have hlt : lo = true := hc1
      refine W.seq ?_
      refine W.region _ ?_
      -- build
      refine WG.y rfl rfl (by decide) (Yl.build (parts := [(0, .const (.bool true))]) tab_ok rfl rfl rfl rfl (fun _ => rfl) rfl rfl) ?_
      first | refine WL.efN rfl rfl (Ef.store0 0 tab_ok rfl rfl rfl rfl rfl rfl rfl rfl ?_) | refine WL.efN rfl rfl (Ef.store0 1 tab_ok rfl rfl rfl rfl rfl rfl rfl rfl ?_) | refine WL.efN rfl rfl (Ef.store0 2 tab_ok rfl rfl rfl rfl rfl rfl rfl rfl ?_) | refine WL.efN rfl rfl (Ef.store0 3 tab_ok rfl rfl rfl rfl rfl rfl rfl rfl ?_) | refine WL.efN rfl rfl (Ef.store0 4 tab_ok rfl rfl rfl rfl rfl rfl rfl rfl ?_) | refine WL.efN rfl rfl (Ef.store0 5 tab_ok rfl rfl rfl rfl rfl rfl rfl rfl ?_)
      refine WG.run tab_ok 1 rfl ?_
      refine WG.nil ?_
      refine WE.nxt ?_
      refine W.ret ?_
      refine WE.then_ret ?_
      refine WE.retF tab_ok [_, _] rfl ⟨⟨_, _, _, rfl, rfl, rfl, ((by first | exact Rd.blk 0 rfl | exact Rd.blk 1 rfl | exact Rd.blk 2 rfl | exact Rd.blk 3 rfl | exact Rd.blk 4 rfl | exact Rd.blk 5 rfl)), rfl⟩, rfl, trivial⟩ ((by first | exact hR1.trans hR2 | exact hR1)) ?_
      exact ⟨true, 0, 0, 0, rfl, rfl, by omega, by omega, (fun _ h => by cases h), qS⟩
    · try simp only [decide_eq_true_eq, decide_eq_false_iff_not, beq_iff_eq, bne_iff_ne, beq_eq_false_iff_ne, bne_eq_false_iff_eq, ne_eq, Bool.or_eq_true, Bool.or_eq_false_iff, Bool.and_eq_true, Bool.and_eq_false_imp, Bool.not_eq_true, Bool.not_eq_true', Bool.not_eq_false', Classical.not_not, Int.not_lt, Int.not_le, gt_iff_lt, ge_iff_le] at hc1
      have hlf : lo = false := by simpa using hc1
      have hslow : ¬ ((lcmN pp1 pp2 : Nat) : Int) / (pp1 : Int) * q1 > ((lcmN pp1 pp2 : Nat) : Int) / (pp2 : Int) * q2 := by rw [hlf] at hlo; exact of_decide_eq_false hlo.symm
      refine W.skip ?_
      refine WE.nxt ?_
      refine W.freezeBlk 0 rfl ?_
      intro R2 hR2 hb6
      have hF : ∀ t : Nat, t < max s1 s2 + lcmN pp1 pp2 → FnV Try.prog 88 ((#[] : Array Value).toList ++ [.int .i64 (t : Int)] ++ (#[.pointer (some ⟨b6, 0, none⟩)] : Array Value).toList) R2 (.tuple #[.int .i64 ((fun t : Nat => ((reachF G s2 pp2 q2 (F t)).1 - (t : Int), (reachF G s2 pp2 q2 (F t)).2)) t).1, .bool ((fun t : Nat => ((reachF G s2 pp2 q2 (F t)).1 - (t : Int), (reachF G s2 pp2 q2 (F t)).2)) t).2]) := fun t ht => DelayF_V hfc1 (hr1.mono hR2) hfc2 (hr2.mono hR2) hb6 (by omega)
      refine W.seq ?_
      refine W.region _ ?_
      refine WG.run tab_ok 1 rfl ?_
      refine' WG.y rfl rfl (by decide) (Yl.load1 tab_ok rfl rfl rfl (fun _ => rfl) ?r4 rfl ?h4) ?_
      case r4 => apply Rd.add; (first | exact Rd.ro (by assumption) | exact Rd.blk 0 rfl | exact Rd.blk 1 rfl | exact Rd.blk 2 rfl | exact Rd.blk 3 rfl | exact Rd.blk 4 rfl | exact Rd.blk 5 rfl)
      case h4 => rfl
      refine WG.run tab_ok 1 rfl ?_
      refine WG.callV en87 rfl rfl (by decide) (CallOp.mk' rfl rfl rfl rfl) (fun _ => rfl) (fun hg => Greatest_V (f := (fun t : Nat => ((reachF G s2 pp2 q2 (F t)).1 - (t : Int), (reachF G s2 pp2 q2 (F t)).2))) (n := max s1 s2 + lcmN pp1 pp2) en88 hF (by omega)) ?_
      first | refine WL.efN rfl rfl (Ef.store0 0 tab_ok rfl rfl rfl rfl rfl rfl rfl rfl ?_) | refine WL.efN rfl rfl (Ef.store0 1 tab_ok rfl rfl rfl rfl rfl rfl rfl rfl ?_) | refine WL.efN rfl rfl (Ef.store0 2 tab_ok rfl rfl rfl rfl rfl rfl rfl rfl ?_) | refine WL.efN rfl rfl (Ef.store0 3 tab_ok rfl rfl rfl rfl rfl rfl rfl rfl ?_) | refine WL.efN rfl rfl (Ef.store0 4 tab_ok rfl rfl rfl rfl rfl rfl rfl rfl ?_) | refine WL.efN rfl rfl (Ef.store0 5 tab_ok rfl rfl rfl rfl rfl rfl rfl rfl ?_)
      refine WG.run tab_ok 1 rfl ?_
      refine WG.nil ?_
      refine WE.nxt ?_
      refine W.ret ?_
      refine WE.retF tab_ok [_, _] rfl ⟨⟨_, _, _, rfl, rfl, rfl, ((by first | exact Rd.blk 0 rfl | exact Rd.blk 1 rfl | exact Rd.blk 2 rfl | exact Rd.blk 3 rfl | exact Rd.blk 4 rfl | exact Rd.blk 5 rfl)), rfl⟩, rfl, trivial⟩ ((by first | exact hR1.trans hR2 | exact hR1)) ?_
      have hgb := greatW_bound (f := (fun t : Nat => ((reachF G s2 pp2 q2 (F t)).1 - (t : Int), (reachF G s2 pp2 q2 (F t)).2))) (B := 200000000000000000) (max s1 s2 + lcmN pp1 pp2) 0 0 0 (fun u h1 h2 => by
        have hbd := hfc1.bound u
        have hn0 := hfc1.nonneg u
        have := (reach_bound hfc2 (v := F u) (by omega)).2
        dsimp only; omega) (by omega) (by omega) (by omega) (by omega)
      exact ⟨_, _, _, 0, rfl, rfl, hgb.1, by omega, fun _ hinf => delay_found hfc1 hfc2 rfl hslow hinf, qS⟩

end Go.Proofs.Ytolmmfphdieilaa

/- The backlog and the peak of two finite curves. No condition. -/
set_option linter.unusedSimpArgs false
set_option linter.unusedVariables false
namespace Go.Proofs.Ytolmmfphdieilaa
open Go Go.RowKit Go.Proofs.Ytolmmfphdieilaa.K Go.Proofs.Ytolmmfphdieilaa.M

theorem ahead_sound {F G : Nat → Int} {S1 P1 S2 P2 : Nat} {I1 I2 : Int} (ha : FC F S1 P1 I1) (hb : FC G S2 P2 I2) {dd n : Nat} {v : Int} (hn : n = max S1 S2 + lcmN P1 P2) (hslow : ¬ ((lcmN P1 P2 : Nat) : Int) / (P1 : Int) * I1 > ((lcmN P1 P2 : Nat) : Int) / (P2 : Int) * I2)
    (hle : ∀ t, t < n → F (t + dd) - G t ≤ v) (u : Nat) : F (u + dd) - G u ≤ v := by
  have hP1 := ha.hP
  have hP2 := hb.hP
  obtain ⟨h1, h2, _, h4⟩ := lcmN_facts (a := P1) (b := P2) (by omega) (by omega)
  have e1 : ((lcmN P1 P2 : Nat) : Int) / (P1 : Int) = ((P2 / Nat.gcd P1 P2 : Nat) : Int) := by
    rw [h1, Int.natCast_mul]; exact Int.mul_ediv_cancel _ (by omega)
  have e2 : ((lcmN P1 P2 : Nat) : Int) / (P2 : Int) = ((P1 / Nat.gcd P1 P2 : Nat) : Int) := by
    rw [h2, Int.natCast_mul]; exact Int.mul_ediv_cancel _ (by omega)
  rw [e1, e2] at hslow
  generalize P2 / Nat.gcd P1 P2 = a1 at h1 hslow
  generalize P1 / Nat.gcd P1 P2 = a2 at h2 hslow
  generalize lcmN P1 P2 = L at h1 h2 h4 hn
  induction u using Nat.strongRecOn with
  | _ u ih =>
    by_cases hu : u < n
    · exact hle u hu
    · have h3 := ih (u - L) (by omega)
      have f1 := ha.hg.mul a1 (u - L + dd) (by omega)
      have f2 := hb.hg.mul a2 (u - L) (by omega)
      rw [← h1, show u - L + dd + L = u + dd by omega] at f1
      rw [← h2, show u - L + L = u by omega] at f2
      omega

theorem AheadF_V {R : Ro} {f1 : Option Addr} {c1 : Nat} {F : Nat → Int} {s1 pp1 : Nat} {q1 : Int} (hf : FC F s1 pp1 q1) (ha : RS R 1 encI f1 (fvals F (s1 + pp1))) {f2 : Option Addr} {c2 : Nat} {G : Nat → Int} {s2 pp2 : Nat} {q2 : Int} (hfg : FC G s2 pp2 q2) (hb : RS R 1 encI f2 (fvals G (s2 + pp2))) {b6 b5 : Nat} {tk : Int} {lo : Bool} {dd : Nat} (h6 : R b6 = some [.slice f1 (fvals F (s1 + pp1)).length c1, .int .i64 (pp1 : Int), .int .i64 q1, .slice f2 (fvals G (s2 + pp2)).length c2, .int .i64 (pp2 : Int), .int .i64 q2, .int .i64 tk, .bool lo]) (h5 : R b5 = some [.int .i64 (dd : Int)]) (hdd : dd ≤ 10) {t : Nat} (ht : t ≤ 1000) : FnV Try.prog 122 [.int .i64 (t : Int), .pointer (some ⟨b6, 0, none⟩), .pointer (some ⟨b5, 0, none⟩)] R (.tuple #[.int .i64 ((fun t : Nat => (F (t + dd) - G t, true)) t).1, .bool ((fun t : Nat => (F (t + dd) - G t, true)) t).2]) := by
  have hbd := hf.bound (t + dd)
  have hn0 := hf.nonneg (t + dd)
  have hbg := hfg.bound t
  have hng := hfg.nonneg t
  refine Fn.toV (fun w0 E => ?_)
  refine Fn.enter (n := 25) Try.func122 rfl rfl (Nat.le_of_ble_eq_true rfl) rfl ?_
  refine W.seq ?_
  refine W.region _ ?_
  refine WG.run tab_ok 2 rfl ?_
  refine WG.nil ?_
  refine WE.nxt ?_
  refine W.seq ?_
  refine W.regionQ _ mixed (by kernel_rfl) ?_
  refine WG.run tab_ok 1 rfl ?_
  refine' WG.y rfl rfl (by decide) (Yl.load1 tab_ok rfl rfl rfl (fun _ => rfl) ?r1 rfl ?h1) ?_
  case r1 => apply Rd.add; (first | exact Rd.ro (by assumption) | exact Rd.blk 0 rfl | (apply RS.rdD; assumption; ((try dsimp only) <;> omega)) | exact Rd.slD 0 rfl (by (try dsimp only) <;> omega))
  case h1 => rfl
  refine WG.run tab_ok 1 rfl ?_
  refine' WG.y rfl rfl (by decide) (Yl.load1 tab_ok rfl rfl rfl (fun _ => rfl) ?r2 rfl ?h2) ?_
  case r2 => (first | exact Rd.ro (by assumption) | exact Rd.blk 0 rfl | (apply RS.rdD; assumption; ((try dsimp only) <;> omega)) | exact Rd.slD 0 rfl (by (try dsimp only) <;> omega))
  case h2 => rfl
  refine WG.y rfl rfl (by decide) (Yl.add rfl rfl rfl (fun _ => rfl) (by intro _; constructor <;> (try dsimp only) <;> omega)) ?_
  refine WG.callV (v := .int .i64 (F (t + dd))) en68 rfl rfl (by decide) (CallOp.mk' rfl rfl rfl rfl) (fun _ => rfl) (fun hg => WAt_V (t := t + dd) hf ha (by omega) (by omega)) ?_
  refine WG.run tab_ok 1 rfl ?_
  refine' WG.y rfl rfl (by decide) (Yl.load1 tab_ok rfl rfl rfl (fun _ => rfl) ?r3 rfl ?h3) ?_
  case r3 => apply Rd.add; (first | exact Rd.ro (by assumption) | exact Rd.blk 0 rfl | (apply RS.rdD; assumption; ((try dsimp only) <;> omega)) | exact Rd.slD 0 rfl (by (try dsimp only) <;> omega))
  case h3 => rfl
  refine WG.run tab_ok 1 rfl ?_
  refine WG.callV (v := .int .i64 (G t)) en68 rfl rfl (by decide) (CallOp.mk' rfl rfl rfl rfl) (fun _ => rfl) (fun hg => WAt_V (t := t) hfg hb (by omega) (by omega)) ?_
  refine WG.run tab_ok 2 rfl ?_
  refine WG.nil ?_
  refine WE.nxt ?_
  refine W.seq ?_
  refine W.seq ?_
  refine W.region _ ?_
  refine WG.run tab_ok 2 rfl ?_
  refine WG.nil ?_
  refine WE.nxt ?_
  refine W.condE rfl (fun hc0 => ?_) (fun hc0 => ?_)
  · try dsimp only at hc0
    omega
  · try dsimp only at hc0
    refine W.skip ?_
    refine WE.nxt ?_
    have hni : ((F (t + dd)) != (4611686018427387904 : Int)) = true := by rw [bne_iff_ne]; omega
    refine W.seq ?_
    refine W.region _ ?_
    refine WG.run tab_ok 2 rfl ?_
    refine WG.y rfl rfl (by decide) (Yl.sub rfl rfl rfl (fun _ => rfl) (by intro _; constructor <;> (try dsimp only) <;> omega)) ?_
    refine WG.run tab_ok 4 rfl ?_
    refine WG.nil ?_
    refine WE.nxt ?_
    refine W.ret ?_
    refine WE.subE (E' := E) qS ?_
    refine WE.retF tab_ok [_, _] rfl ⟨rfl, rfl, trivial⟩ (RLe.refl _) ?_
    exact ⟨by rw [hni]; rfl, rfl⟩

theorem Ahead_C {R : Ro} {fa : Option Addr} {fc : Nat} {F : Nat → Int} {S1 P1 : Nat} {I1 : Int} (hf : FC F S1 P1 I1) (ha : RS R 1 encI fa (fvals F (S1 + P1))) {ga : Option Addr} {gc : Nat} {G : Nat → Int} {S2 P2 : Nat} {I2 : Int} (hg : FC G S2 P2 I2) (hb : RS R 1 encI ga (fvals G (S2 + P2))) (hP1 : P1 ≤ 100) (hP2 : P2 ≤ 1) {dd : Nat} (hdd : dd ≤ 10) (w0 : World) (E : List Ent) : K.Fn Try.prog 90 [.agg #[.slice fa (fvals F (S1 + P1)).length fc, .int .i64 (P1 : Int), .int .i64 I1], .agg #[.slice ga (fvals G (S2 + P2)).length gc, .int .i64 (P2 : Int), .int .i64 I2], .int .i64 (dd : Int)] w0 R E (fun v R' E' => ∃ (inf : Bool) (val at' : Int), v = .tuple #[.agg #[.bool inf, .int .i64 val, .int .i64 at'], .int .i64 0] ∧ 0 ≤ val ∧ val ≤ 1000000000000000000 ∧ (inf = false → ∀ u : Nat, F (u + dd) - G u ≤ val) ∧ E.Sublist E') := by
  refine Fn.enter (n := 27) Try.func90 rfl rfl (Nat.le_of_ble_eq_true rfl) rfl ?_
  refine W.seq ?_
  refine W.region _ ?_
  refine WL.ef rfl rfl (by decide) (Ef.box rfl rfl (fun b3 => ?_))
  refine WL.ef rfl rfl (by decide) (Ef.box rfl rfl (fun b4 => ?_))
  refine WL.ef rfl rfl (by decide) (Ef.box rfl rfl (fun b5 => ?_))
  refine WL.ef rfl rfl (by decide) (Ef.alloc tab_ok rfl rfl (fun b6 => ?_))
  refine WG.run tab_ok 1 rfl ?_
  refine WG.nil ?_
  refine WE.nxt ?_
  refine W.seq ?_
  refine W.region _ ?_
  refine' WG.y rfl rfl (by decide) (Yl.load1 tab_ok rfl rfl rfl (fun _ => rfl) ?r1 rfl ?h1) ?_
  case r1 => (first | exact Rd.ro (by assumption) | exact Rd.blk 0 rfl | exact Rd.blk 1 rfl | exact Rd.blk 2 rfl | exact Rd.blk 3 rfl | exact Rd.blk 4 rfl | exact Rd.blk 5 rfl | exact Rd.blk 6 rfl | exact Rd.blk 7 rfl)
  case h1 => rfl
  refine' WG.y rfl rfl (by decide) (Yl.load1 tab_ok rfl rfl rfl (fun _ => rfl) ?r2 rfl ?h2) ?_
  case r2 => (first | exact Rd.ro (by assumption) | exact Rd.blk 0 rfl | exact Rd.blk 1 rfl | exact Rd.blk 2 rfl | exact Rd.blk 3 rfl | exact Rd.blk 4 rfl | exact Rd.blk 5 rfl | exact Rd.blk 6 rfl | exact Rd.blk 7 rfl)
  case h2 => rfl
  refine WL.call en86 rfl rfl (by decide) (CallOp.mkT rfl rfl rfl rfl) (Both2_C hf ha hg hb hP1 hP2 w0 _) ?_
  rintro _ R1 _ hR1 ⟨f1, n1, c1, p1, q1, f2, n2, c2, p2, q2, tk, lo, e, rfl, he0, hpair, hsub⟩
  refine WL.subE hsub ?_
  refine WG.run tab_ok 3 rfl ?_
  refine WL.ef rfl rfl (by decide) (Ef.alloc tab_ok rfl rfl (fun b8 => ?_))
  first | refine WL.efN rfl rfl (Ef.store0 0 tab_ok rfl rfl rfl rfl rfl rfl rfl rfl ?_) | refine WL.efN rfl rfl (Ef.store0 1 tab_ok rfl rfl rfl rfl rfl rfl rfl rfl ?_) | refine WL.efN rfl rfl (Ef.store0 2 tab_ok rfl rfl rfl rfl rfl rfl rfl rfl ?_) | refine WL.efN rfl rfl (Ef.store0 3 tab_ok rfl rfl rfl rfl rfl rfl rfl rfl ?_) | refine WL.efN rfl rfl (Ef.store0 4 tab_ok rfl rfl rfl rfl rfl rfl rfl rfl ?_) | refine WL.efN rfl rfl (Ef.store0 5 tab_ok rfl rfl rfl rfl rfl rfl rfl rfl ?_) | refine WL.efN rfl rfl (Ef.store0 6 tab_ok rfl rfl rfl rfl rfl rfl rfl rfl ?_) | refine WL.efN rfl rfl (Ef.store0 7 tab_ok rfl rfl rfl rfl rfl rfl rfl rfl ?_)
  refine WG.run tab_ok 1 rfl ?_
  refine WG.nil ?_
  refine WE.nxt ?_
  refine W.seq ?_
  refine W.seq ?_
  refine W.region _ ?_
  refine WG.run tab_ok 2 rfl ?_
  refine WG.nil ?_
  refine WE.nxt ?_
  refine W.condN rfl (fun hc0 => ?_) (fun hc0 => ?_)
  · try dsimp only at hc0
    exact absurd he0 hc0
  · try dsimp only at hc0
    obtain ⟨s1, pp1, s2, pp2, rfl, rfl, rfl, rfl, hfc1, hfc2, hr1, hr2, hL, rfl, hlo⟩ := hpair hc0
    have hm1 := hfc1.hn
    have hm2 := hfc2.hn
    refine W.skip ?_
    refine WE.nxt ?_
    refine W.seq ?_
    refine W.seq ?_
    refine W.region _ ?_
    refine WG.run tab_ok 1 rfl ?_
    refine' WG.y rfl rfl (by decide) (Yl.load1 tab_ok rfl rfl rfl (fun _ => rfl) ?r3 rfl ?h3) ?_
    case r3 => apply Rd.add; (first | exact Rd.ro (by assumption) | exact Rd.blk 0 rfl | exact Rd.blk 1 rfl | exact Rd.blk 2 rfl | exact Rd.blk 3 rfl | exact Rd.blk 4 rfl | exact Rd.blk 5 rfl | exact Rd.blk 6 rfl | exact Rd.blk 7 rfl)
    case h3 => rfl
    refine WG.nil ?_
    refine WE.nxt ?_
    refine W.cond rfl (fun hc1 => ?_) (fun hc1 => ?_)
    · try simp only [decide_eq_true_eq, decide_eq_false_iff_not, beq_iff_eq, bne_iff_ne, beq_eq_false_iff_ne, bne_eq_false_iff_eq, ne_eq, Bool.or_eq_true, Bool.or_eq_false_iff, Bool.and_eq_true, Bool.and_eq_false_imp, Bool.not_eq_true, Bool.not_eq_true', Bool.not_eq_false', Classical.not_not, Int.not_lt, Int.not_le, gt_iff_lt, ge_iff_le] at hc1
      have hlt : lo = true := hc1
      refine W.seq ?_
      refine W.region _ ?_
      -- build
      refine WG.y rfl rfl (by decide) (Yl.build (parts := [(0, .const (.bool true))]) tab_ok rfl rfl rfl rfl (fun _ => rfl) rfl rfl) ?_
      first | refine WL.efN rfl rfl (Ef.store0 0 tab_ok rfl rfl rfl rfl rfl rfl rfl rfl ?_) | refine WL.efN rfl rfl (Ef.store0 1 tab_ok rfl rfl rfl rfl rfl rfl rfl rfl ?_) | refine WL.efN rfl rfl (Ef.store0 2 tab_ok rfl rfl rfl rfl rfl rfl rfl rfl ?_) | refine WL.efN rfl rfl (Ef.store0 3 tab_ok rfl rfl rfl rfl rfl rfl rfl rfl ?_) | refine WL.efN rfl rfl (Ef.store0 4 tab_ok rfl rfl rfl rfl rfl rfl rfl rfl ?_) | refine WL.efN rfl rfl (Ef.store0 5 tab_ok rfl rfl rfl rfl rfl rfl rfl rfl ?_) | refine WL.efN rfl rfl (Ef.store0 6 tab_ok rfl rfl rfl rfl rfl rfl rfl rfl ?_) | refine WL.efN rfl rfl (Ef.store0 7 tab_ok rfl rfl rfl rfl rfl rfl rfl rfl ?_)
      refine WG.run tab_ok 1 rfl ?_
      refine WG.nil ?_
      refine WE.nxt ?_
      refine W.ret ?_
      refine WE.then_ret ?_
      refine WE.retF tab_ok [_, _] rfl ⟨⟨_, _, _, rfl, rfl, rfl, ((by first | exact Rd.blk 0 rfl | exact Rd.blk 1 rfl | exact Rd.blk 2 rfl | exact Rd.blk 3 rfl | exact Rd.blk 4 rfl | exact Rd.blk 5 rfl | exact Rd.blk 6 rfl | exact Rd.blk 7 rfl)), rfl⟩, rfl, trivial⟩ ((by first | exact hR1.trans (hR2.trans hR3) | exact hR1)) ?_
      exact ⟨true, 0, 0, rfl, by omega, by omega, (fun h => by cases h), qS⟩
    · try simp only [decide_eq_true_eq, decide_eq_false_iff_not, beq_iff_eq, bne_iff_ne, beq_eq_false_iff_ne, bne_eq_false_iff_eq, ne_eq, Bool.or_eq_true, Bool.or_eq_false_iff, Bool.and_eq_true, Bool.and_eq_false_imp, Bool.not_eq_true, Bool.not_eq_true', Bool.not_eq_false', Classical.not_not, Int.not_lt, Int.not_le, gt_iff_lt, ge_iff_le] at hc1
      have hlf : lo = false := by simpa using hc1
      have hslow : ¬ ((lcmN pp1 pp2 : Nat) : Int) / (pp1 : Int) * q1 > ((lcmN pp1 pp2 : Nat) : Int) / (pp2 : Int) * q2 := by rw [hlf] at hlo; exact of_decide_eq_false hlo.symm
      refine W.skip ?_
      refine WE.nxt ?_
      refine W.freezeBlk 0 rfl ?_
      intro R2 hR2 hb6
      refine W.freezeBlk 1 rfl ?_
      intro R3 hR3 hb5
      have hb6 := hR3 _ _ hb6
      have hF : ∀ t : Nat, t < max s1 s2 + lcmN pp1 pp2 → FnV Try.prog 122 ((#[] : Array Value).toList ++ [.int .i64 (t : Int)] ++ (#[.pointer (some ⟨b8, 0, none⟩), .pointer (some ⟨b5, 0, none⟩)] : Array Value).toList) R3 (.tuple #[.int .i64 ((fun t : Nat => (F (t + dd) - G t, true)) t).1, .bool ((fun t : Nat => (F (t + dd) - G t, true)) t).2]) := fun t ht => AheadF_V hfc1 (hr1.mono (hR2.trans hR3)) hfc2 (hr2.mono (hR2.trans hR3)) hb6 hb5 hdd (by omega)
      refine W.seq ?_
      refine W.region _ ?_
      refine WG.run tab_ok 1 rfl ?_
      refine' WG.y rfl rfl (by decide) (Yl.load1 tab_ok rfl rfl rfl (fun _ => rfl) ?r4 rfl ?h4) ?_
      case r4 => apply Rd.add; (first | exact Rd.ro (by assumption) | exact Rd.blk 0 rfl | exact Rd.blk 1 rfl | exact Rd.blk 2 rfl | exact Rd.blk 3 rfl | exact Rd.blk 4 rfl | exact Rd.blk 5 rfl | exact Rd.blk 6 rfl | exact Rd.blk 7 rfl)
      case h4 => rfl
      refine WG.run tab_ok 1 rfl ?_
      refine WG.callV en87 rfl rfl (by decide) (CallOp.mk' rfl rfl rfl rfl) (fun _ => rfl) (fun hg => Greatest_V (f := (fun t : Nat => (F (t + dd) - G t, true))) (n := max s1 s2 + lcmN pp1 pp2) en122 hF (by omega)) ?_
      first | refine WL.efN rfl rfl (Ef.store0 0 tab_ok rfl rfl rfl rfl rfl rfl rfl rfl ?_) | refine WL.efN rfl rfl (Ef.store0 1 tab_ok rfl rfl rfl rfl rfl rfl rfl rfl ?_) | refine WL.efN rfl rfl (Ef.store0 2 tab_ok rfl rfl rfl rfl rfl rfl rfl rfl ?_) | refine WL.efN rfl rfl (Ef.store0 3 tab_ok rfl rfl rfl rfl rfl rfl rfl rfl ?_) | refine WL.efN rfl rfl (Ef.store0 4 tab_ok rfl rfl rfl rfl rfl rfl rfl rfl ?_) | refine WL.efN rfl rfl (Ef.store0 5 tab_ok rfl rfl rfl rfl rfl rfl rfl rfl ?_) | refine WL.efN rfl rfl (Ef.store0 6 tab_ok rfl rfl rfl rfl rfl rfl rfl rfl ?_) | refine WL.efN rfl rfl (Ef.store0 7 tab_ok rfl rfl rfl rfl rfl rfl rfl rfl ?_)
      refine WG.run tab_ok 1 rfl ?_
      refine WG.nil ?_
      refine WE.nxt ?_
      refine W.ret ?_
      refine WE.retF tab_ok [_, _] rfl ⟨⟨_, _, _, rfl, rfl, rfl, ((by first | exact Rd.blk 0 rfl | exact Rd.blk 1 rfl | exact Rd.blk 2 rfl | exact Rd.blk 3 rfl | exact Rd.blk 4 rfl | exact Rd.blk 5 rfl | exact Rd.blk 6 rfl | exact Rd.blk 7 rfl)), rfl⟩, rfl, trivial⟩ ((by first | exact hR1.trans (hR2.trans hR3) | exact hR1)) ?_
      have hgb := greatW_bound (f := (fun t : Nat => (F (t + dd) - G t, true))) (B := 1000000000000000000) (max s1 s2 + lcmN pp1 pp2) 0 0 0 (fun u h1 h2 => by
        have hbd := hfc1.bound (u + dd)
        have hng := hfc2.nonneg u
        dsimp only; omega) (by omega) (by omega) (by omega) (by omega)
      exact ⟨_, _, _, rfl, hgb.1, by omega, fun hinf => ahead_sound hfc1 hfc2 rfl hslow (fun t ht => ((greatW_sound _ 0 0 0 hinf).2 t (Nat.zero_le _) (by omega)).2), qS⟩

theorem Backlog_C {R : Ro} {fa : Option Addr} {fc : Nat} {F : Nat → Int} {S1 P1 : Nat} {I1 : Int} (hf : FC F S1 P1 I1) (ha : RS R 1 encI fa (fvals F (S1 + P1))) {ga : Option Addr} {gc : Nat} {G : Nat → Int} {S2 P2 : Nat} {I2 : Int} (hg : FC G S2 P2 I2) (hb : RS R 1 encI ga (fvals G (S2 + P2))) (hP1 : P1 ≤ 100) (hP2 : P2 ≤ 1) (w0 : World) (E : List Ent) : K.Fn Try.prog 38 [.agg #[.slice fa (fvals F (S1 + P1)).length fc, .int .i64 (P1 : Int), .int .i64 I1], .agg #[.slice ga (fvals G (S2 + P2)).length gc, .int .i64 (P2 : Int), .int .i64 I2]] w0 R E (fun v R' E' => ∃ (inf : Bool) (val at' : Int), v = .tuple #[.agg #[.bool inf, .int .i64 val, .int .i64 at'], .int .i64 0] ∧ 0 ≤ val ∧ val ≤ 1000000000000000000 ∧ (inf = false → ∀ u : Nat, F (u + 0) - G u ≤ val) ∧ E.Sublist E') := by
  refine Fn.enter (n := 11) Try.func38 rfl rfl (Nat.le_of_ble_eq_true rfl) rfl ?_
  refine W.seq ?_
  refine W.region _ ?_
  refine WL.ef rfl rfl (by decide) (Ef.box rfl rfl (fun b2 => ?_))
  refine WL.ef rfl rfl (by decide) (Ef.box rfl rfl (fun b3 => ?_))
  refine WL.ef rfl rfl (by decide) (Ef.alloc tab_ok rfl rfl (fun b4 => ?_))
  refine WG.run tab_ok 1 rfl ?_
  refine WG.nil ?_
  refine WE.nxt ?_
  refine W.seq ?_
  refine W.region _ ?_
  refine' WG.y rfl rfl (by decide) (Yl.load1 tab_ok rfl rfl rfl (fun _ => rfl) ?r1 rfl ?h1) ?_
  case r1 => (first | exact Rd.blk 0 rfl | exact Rd.blk 1 rfl | exact Rd.blk 2 rfl | exact Rd.blk 3 rfl | exact Rd.blk 4 rfl)
  case h1 => rfl
  refine' WG.y rfl rfl (by decide) (Yl.load1 tab_ok rfl rfl rfl (fun _ => rfl) ?r2 rfl ?h2) ?_
  case r2 => (first | exact Rd.blk 0 rfl | exact Rd.blk 1 rfl | exact Rd.blk 2 rfl | exact Rd.blk 3 rfl | exact Rd.blk 4 rfl)
  case h2 => rfl
  refine WL.call en90 rfl rfl (by decide) (CallOp.mkT rfl rfl rfl rfl) (Ahead_C (dd := 0) hf ha hg hb hP1 hP2 (by decide) w0 _) ?_
  rintro _ R1 _ hR1 ⟨inf, val, at', rfl, hv0, hv1, hu, hsub⟩
  refine WL.subE hsub ?_
  refine WG.run tab_ok 2 rfl ?_
  first | refine WL.efN rfl rfl (Ef.store0 0 tab_ok rfl rfl rfl rfl rfl rfl rfl rfl ?_) | refine WL.efN rfl rfl (Ef.store0 1 tab_ok rfl rfl rfl rfl rfl rfl rfl rfl ?_) | refine WL.efN rfl rfl (Ef.store0 2 tab_ok rfl rfl rfl rfl rfl rfl rfl rfl ?_) | refine WL.efN rfl rfl (Ef.store0 3 tab_ok rfl rfl rfl rfl rfl rfl rfl rfl ?_) | refine WL.efN rfl rfl (Ef.store0 4 tab_ok rfl rfl rfl rfl rfl rfl rfl rfl ?_)
  refine WG.run tab_ok 1 rfl ?_
  refine WG.nil ?_
  refine WE.nxt ?_
  refine W.ret ?_
  refine WE.retF tab_ok [_, _] rfl ⟨⟨_, _, _, rfl, rfl, rfl, ((by first | exact Rd.blk 0 rfl | exact Rd.blk 1 rfl | exact Rd.blk 2 rfl | exact Rd.blk 3 rfl | exact Rd.blk 4 rfl)), rfl⟩, rfl, trivial⟩ (hR1) ?_
  exact ⟨inf, val, at', rfl, hv0, hv1, hu, qS⟩

theorem Peak_C {R : Ro} {fa : Option Addr} {fc : Nat} {F : Nat → Int} {S1 P1 : Nat} {I1 : Int} (hf : FC F S1 P1 I1) (ha : RS R 1 encI fa (fvals F (S1 + P1))) {ga : Option Addr} {gc : Nat} {G : Nat → Int} {S2 P2 : Nat} {I2 : Int} (hg : FC G S2 P2 I2) (hb : RS R 1 encI ga (fvals G (S2 + P2))) (hP1 : P1 ≤ 100) (hP2 : P2 ≤ 1) (w0 : World) (E : List Ent) : K.Fn Try.prog 39 [.agg #[.slice fa (fvals F (S1 + P1)).length fc, .int .i64 (P1 : Int), .int .i64 I1], .agg #[.slice ga (fvals G (S2 + P2)).length gc, .int .i64 (P2 : Int), .int .i64 I2]] w0 R E (fun v R' E' => ∃ (inf : Bool) (val at' : Int), v = .tuple #[.agg #[.bool inf, .int .i64 val, .int .i64 at'], .int .i64 0] ∧ 0 ≤ val ∧ val ≤ 1000000000000000000 ∧ (inf = false → ∀ u : Nat, F (u + 1) - G u ≤ val) ∧ E.Sublist E') := by
  refine Fn.enter (n := 11) Try.func39 rfl rfl (Nat.le_of_ble_eq_true rfl) rfl ?_
  refine W.seq ?_
  refine W.region _ ?_
  refine WL.ef rfl rfl (by decide) (Ef.box rfl rfl (fun b2 => ?_))
  refine WL.ef rfl rfl (by decide) (Ef.box rfl rfl (fun b3 => ?_))
  refine WL.ef rfl rfl (by decide) (Ef.alloc tab_ok rfl rfl (fun b4 => ?_))
  refine WG.run tab_ok 1 rfl ?_
  refine WG.nil ?_
  refine WE.nxt ?_
  refine W.seq ?_
  refine W.region _ ?_
  refine' WG.y rfl rfl (by decide) (Yl.load1 tab_ok rfl rfl rfl (fun _ => rfl) ?r1 rfl ?h1) ?_
  case r1 => (first | exact Rd.blk 0 rfl | exact Rd.blk 1 rfl | exact Rd.blk 2 rfl | exact Rd.blk 3 rfl | exact Rd.blk 4 rfl)
  case h1 => rfl
  refine' WG.y rfl rfl (by decide) (Yl.load1 tab_ok rfl rfl rfl (fun _ => rfl) ?r2 rfl ?h2) ?_
  case r2 => (first | exact Rd.blk 0 rfl | exact Rd.blk 1 rfl | exact Rd.blk 2 rfl | exact Rd.blk 3 rfl | exact Rd.blk 4 rfl)
  case h2 => rfl
  refine WL.call en90 rfl rfl (by decide) (CallOp.mkT rfl rfl rfl rfl) (Ahead_C (dd := 1) hf ha hg hb hP1 hP2 (by decide) w0 _) ?_
  rintro _ R1 _ hR1 ⟨inf, val, at', rfl, hv0, hv1, hu, hsub⟩
  refine WL.subE hsub ?_
  refine WG.run tab_ok 2 rfl ?_
  first | refine WL.efN rfl rfl (Ef.store0 0 tab_ok rfl rfl rfl rfl rfl rfl rfl rfl ?_) | refine WL.efN rfl rfl (Ef.store0 1 tab_ok rfl rfl rfl rfl rfl rfl rfl rfl ?_) | refine WL.efN rfl rfl (Ef.store0 2 tab_ok rfl rfl rfl rfl rfl rfl rfl rfl ?_) | refine WL.efN rfl rfl (Ef.store0 3 tab_ok rfl rfl rfl rfl rfl rfl rfl rfl ?_) | refine WL.efN rfl rfl (Ef.store0 4 tab_ok rfl rfl rfl rfl rfl rfl rfl rfl ?_)
  refine WG.run tab_ok 1 rfl ?_
  refine WG.nil ?_
  refine WE.nxt ?_
  refine W.ret ?_
  refine WE.retF tab_ok [_, _] rfl ⟨⟨_, _, _, rfl, rfl, rfl, ((by first | exact Rd.blk 0 rfl | exact Rd.blk 1 rfl | exact Rd.blk 2 rfl | exact Rd.blk 3 rfl | exact Rd.blk 4 rfl)), rfl⟩, rfl, trivial⟩ (hR1) ?_
  exact ⟨inf, val, at', rfl, hv0, hv1, hu, qS⟩

end Go.Proofs.Ytolmmfphdieilaa

/- Packets that a curve lets pass, one by one. No condition. -/
set_option linter.unusedSimpArgs false
set_option linter.unusedVariables false
namespace Go.Proofs.Ytolmmfphdieilaa
open Go Go.RowKit Go.Proofs.Ytolmmfphdieilaa.K Go.Proofs.Ytolmmfphdieilaa.M

theorem AtFC_V {R : Ro} {F : Nat → Int} {S P : Nat} {I : Int} {fa : Option Addr} {fc : Nat} (hf : FC F S P I) (hfa : RS R 1 encI fa (fvals F (S + P))) {t : Nat} (ht : t ≤ 2000) : FnV Try.prog 18 [.agg #[.slice fa (fvals F (S + P)).length fc, .int .i64 (P : Int), .int .i64 I], .int .i64 (t : Int)] R (.int .i64 (F t)) := by
  have hP := hf.hP
  have hI := hf.hI
  have h := At_V (c := fc) (per := (P : Int)) (inc := I) (t := (t : Int)) hfa (by constructor <;> omega) ⟨by constructor <;> omega, by omega⟩ ⟨by omega, by omega⟩ hf.forAt.1
  rw [hf.atR t] at h
  exact h
theorem ValidFC_V {R : Ro} {F : Nat → Int} {S P : Nat} {I : Int} {fa : Option Addr} {fc : Nat} (hf : FC F S P I) (hfa : RS R 1 encI fa (fvals F (S + P))) : FnV Try.prog 71 [.agg #[.slice fa (fvals F (S + P)).length fc, .int .i64 (P : Int), .int .i64 I]] R (.bool true) := by
  have hP := hf.hP
  have hI := hf.hI
  have h := Valid_V (c := fc) (per := (P : Int)) (inc := I) hfa (by constructor <;> omega) (by constructor <;> omega) hf.forAt.1
  rw [hf.valid'] at h
  exact h

theorem Bad14_V {R : Ro} {pa : Option Addr} {pc : Nat} {ps : List Pkt} (hp : RS R 3 encP pa ps) (hok : Ok ps) {F : Nat → Int} {S P : Nat} {I : Int} {fa : Option Addr} {fc : Nat} (hf : FC F S P I) (hfa : RS R 1 encI fa (fvals F (S + P))) : FnV Try.prog 84 [.slice pa ps.length pc, .int .i64 (-1), .agg #[.slice fa (fvals F (S + P)).length fc, .int .i64 (P : Int), .int .i64 I]] R (.int .i64 0) := by
  have hvv := (validate_ok ps).2 hok
  refine Fn.toVS (fun w0 E => ?_)
  refine Fn.enter (n := 18) Try.func84 rfl rfl (Nat.le_of_ble_eq_true rfl) rfl ?_
  refine W.seq ?_
  refine W.region _ ?_
  refine WL.ef rfl rfl (by decide) (Ef.box rfl rfl (fun b5 => ?_))
  refine WG.run tab_ok 1 rfl ?_
  refine WG.nil ?_
  refine WE.nxt ?_
  refine W.seq ?_
  refine W.seq ?_
  refine W.region _ ?_
  refine WG.run tab_ok 1 rfl ?_
  refine WG.callV en120 rfl rfl (by decide) (CallOp.mk' rfl rfl rfl rfl) (fun _ => rfl) (fun hg => hvv ▸ ValidateR_V hp) ?_
  refine WG.run tab_ok 1 rfl ?_
  refine WG.nil ?_
  refine WE.nxt ?_
  refine W.seq ?_
  refine W.region _ ?_
  refine WG.run tab_ok 2 rfl ?_
  refine WG.nil ?_
  refine WE.nxt ?_
  refine W.condN rfl (fun hc0 => ?_) (fun hc0 => ?_)
  · try dsimp only at hc0
    exact absurd rfl hc0
  · try dsimp only at hc0
    refine W.skip ?_
    refine WE.nxt ?_
    refine W.seq ?_
    refine W.seq ?_
    refine W.region _ ?_
    refine WG.run tab_ok 2 rfl ?_
    refine WG.nil ?_
    refine WE.nxt ?_
    refine W.condD rfl (fun hc1 => ?_) (fun hc1 => ?_)
    · try dsimp only at hc1
      omega
    · try dsimp only at hc1
      refine W.skip ?_
      refine WE.nxt ?_
      refine W.seq ?_
      refine W.seq ?_
      refine W.region _ ?_
      refine' WG.y rfl rfl (by decide) (Yl.load1 tab_ok rfl rfl rfl (fun _ => rfl) ?r1 rfl ?h1) ?_
      case r1 => (first | exact Rd.blk 0 rfl | exact Rd.blk 1 rfl | exact Rd.blk 2 rfl)
      case h1 => rfl
      refine WG.callV en71 rfl rfl (by decide) (CallOp.mk' rfl rfl rfl rfl) (fun _ => rfl) (fun hg => ValidFC_V hf hfa) ?_
      refine WG.run tab_ok 1 rfl ?_
      refine WG.nil ?_
      refine WE.nxt ?_
      refine W.cond rfl (fun hc2 => ?_) (fun hc2 => ?_)
      · try simp only [decide_eq_true_eq, decide_eq_false_iff_not, beq_iff_eq, bne_iff_ne, beq_eq_false_iff_ne, bne_eq_false_iff_eq, ne_eq, Bool.or_eq_true, Bool.or_eq_false_iff, Bool.and_eq_true, Bool.and_eq_false_imp, Bool.not_eq_true, Bool.not_eq_true', Bool.not_eq_false', Classical.not_not, Int.not_lt, Int.not_le, gt_iff_lt, ge_iff_le] at hc2
        exact absurd hc2 (by decide)
      · try simp only [decide_eq_true_eq, decide_eq_false_iff_not, beq_iff_eq, bne_iff_ne, beq_eq_false_iff_ne, bne_eq_false_iff_eq, ne_eq, Bool.or_eq_true, Bool.or_eq_false_iff, Bool.and_eq_true, Bool.and_eq_false_imp, Bool.not_eq_true, Bool.not_eq_true', Bool.not_eq_false', Classical.not_not, Int.not_lt, Int.not_le, gt_iff_lt, ge_iff_le] at hc2
        refine W.skip ?_
        refine WE.nxt ?_
        refine W.seq ?_
        refine W.region _ ?_
        refine WG.run tab_ok 1 rfl ?_
        refine WG.nil ?_
        refine WE.nxt ?_
        refine W.ret ?_
        refine WE.retF tab_ok [_] rfl ⟨rfl, trivial⟩ (RLe.refl _) ?_
        exact ⟨rfl, qS⟩

theorem Passes_E {R : Ro} {qa : Option Addr} {qc j : Nat} {qs : List Pkt} {p : Pkt} {E : List Ent} (hy : E[j]? = some (.sl 54 3 qa qc (qs.map encP))) (hql : qs.length ≤ 60) (hq : ∀ q ∈ qs, (0 ≤ q.time ∧ q.time ≤ p.time) ∧ 0 ≤ q.size ∧ q.size ≤ 1000000) (hpp : (0 ≤ p.time ∧ p.time ≤ 400) ∧ 0 ≤ p.size ∧ p.size ≤ 1000000) {F : Nat → Int} {S P : Nat} {I : Int} {fa : Option Addr} {fc : Nat} (hf : FC F S P I) (hfa : RS R 1 encI fa (fvals F (S + P))) (w0 : World) : FnE Try.prog 85 [.slice qa qs.length qc, .agg #[.int .i64 p.flow, .int .i64 p.time, .int .i64 p.size], .agg #[.slice fa (fvals F (S + P)).length fc, .int .i64 (P : Int), .int .i64 I]] w0 R E (.bool (passB F qs p)) := by
  refine Fn.toE ?_
  refine Fn.enter (n := 42) Try.func85 rfl rfl (Nat.le_of_ble_eq_true rfl) rfl ?_
  refine W.seq ?_
  refine W.region _ ?_
  refine WL.ef rfl rfl (by decide) (Ef.box rfl rfl (fun b4 => ?_))
  refine WL.ef rfl rfl (by decide) (Ef.box rfl rfl (fun b5 => ?_))
  refine WG.run tab_ok 1 rfl ?_
  refine WG.nil ?_
  refine WE.nxt ?_
  refine W.seq ?_
  refine W.region _ ?_
  refine WG.run tab_ok 1 rfl ?_
  refine' WG.y rfl rfl (by decide) (Yl.load1 tab_ok rfl rfl rfl (fun _ => rfl) ?r1 rfl ?h1) ?_
  case r1 => apply Rd.add; (first | exact Rd.slD (j + 2) hy (by omega) | exact Rd.blk 0 rfl | exact Rd.blk 1 rfl | exact Rd.blk 2 rfl | exact Rd.blk 3 rfl | exact Rd.blk 4 rfl)
  case h1 => rfl
  refine WG.run tab_ok 1 rfl ?_
  refine WG.nil ?_
  refine WE.nxt ?_
  refine W.seq ?_
  refine W.seq ?_
  refine W.region _ ?_
  refine WG.run tab_ok 1 rfl ?_
  refine' WG.y rfl rfl (by decide) (Yl.load1 tab_ok rfl rfl rfl (fun _ => rfl) ?r2 rfl ?h2) ?_
  case r2 => (first | exact Rd.slD (j + 2) hy (by omega) | exact Rd.blk 0 rfl | exact Rd.blk 1 rfl | exact Rd.blk 2 rfl | exact Rd.blk 3 rfl | exact Rd.blk 4 rfl)
  case h2 => rfl
  refine WG.callV (v := .int .i64 (F 1)) en18 rfl rfl (by decide) (CallOp.mk' rfl rfl rfl rfl) (fun _ => rfl) (fun hg => AtFC_V (t := 1) hf hfa (by decide)) ?_
  refine WG.run tab_ok 1 rfl ?_
  refine WG.nil ?_
  refine WE.nxt ?_
  refine W.condD rfl (fun hc0 => ?_) (fun hc0 => ?_)
  · try dsimp only at hc0
    have hno : passB F qs p = false := by
      cases h : passB F qs p with
      | false => rfl
      | true => have := (passB_iff.1 h).1; omega
    refine W.seq ?_
    refine W.region _ ?_
    refine WG.run tab_ok 1 rfl ?_
    refine WG.nil ?_
    refine WE.nxt ?_
    refine W.ret ?_
    refine WE.then_ret ?_
    refine WE.subE (E' := E) qS ?_
    refine WE.retF tab_ok [_] rfl ⟨rfl, trivial⟩ (RLe.refl _) ?_
    exact ⟨by rw [hno]; rfl, rfl⟩
  · try dsimp only at hc0
    refine W.skip ?_
    refine WE.nxt ?_
    refine W.seq ?_
    refine W.seq ?_
    refine W.region _ ?_
    refine WG.run tab_ok 2 rfl ?_
    refine WG.y rfl rfl (by decide) (Yl.sub rfl rfl rfl (fun _ => rfl) (by intro _; constructor <;> (try dsimp only) <;> omega)) ?_
    refine WG.run tab_ok 1 rfl ?_
    refine WG.nil ?_
    refine WE.nxt ?_
    refine W.block ?_
    refine W.loopK (β := Nat × Int) (fun (b, sm) => b ≤ qs.length ∧ sm = sumS (qs.drop b) + p.size ∧ (0 ≤ sumS (qs.drop b) ∧ sumS (qs.drop b) ≤ 1000000 * ((qs.length - b : Nat) : Int)) ∧ ∀ x, b ≤ x → x < qs.length → sumS (qs.drop x) + p.size ≤ F (p.time + 1 - (nth qs x).time).toNat) (fun (b, sm) => [(7, true, .int .i64 sm), (8, true, .int .i64 ((b : Int) - 1))]) [0, 4, 5] [_, _, _] [] _ rfl (fun (b, sm) => []) (fun (b, sm) => b) ((qs.length, p.size)) (⟨Nat.le_refl _, by simp [sumS], by simp [sumS], fun x h1 h2 => by (try dsimp only at h1); omega⟩) ⟨rfl, rfl, rfl, rfl, rfl, rfl⟩ qS ?_
    intro zz hst
    obtain ⟨b, sm⟩ := zz
    dsimp only [zipE, setAll, List.cons_append, List.nil_append, List.set_cons_zero, List.set_cons_succ] at hst ⊢
    obtain ⟨hb, hsm, hsb, hall⟩ := hst
    refine W.seq ?_
    refine W.seq ?_
    refine W.region _ ?_
    refine WG.run tab_ok 2 rfl ?_
    refine WG.nil ?_
    refine WE.nxt ?_
    refine W.condD rfl (fun hc1 => ?_) (fun hc1 => ?_)
    · try dsimp only at hc1
      obtain ⟨k, rfl⟩ : ∃ k, b = k + 1 := ⟨b - 1, by omega⟩
      have hkq := hq _ (nth_mem (xs := qs) (k := k) (by omega))
      have hix : (((k + 1 : Nat) : Int) - 1).toNat = k := by omega
      have hdr : sumS (qs.drop k) = (nth qs k).size + sumS (qs.drop (k + 1)) := by rw [drop_nth (xs := qs) (k := k) (by omega)]; rfl
      refine W.skip ?_
      refine WE.nxt ?_
      refine W.seq ?_
      refine W.block ?_
      refine W.seq ?_
      refine W.region _ ?_
      refine WG.run tab_ok 3 rfl ?_
      refine WG.y rfl rfl (by decide) (Yl.index tab_ok rfl rfl rfl rfl rfl rfl (fun _ => rfl) (by intro _; constructor <;> (try dsimp only) <;> omega) (by intro _; first | exact HasMem.ownD (j + 2) hy | exact fun _ _ _ _ => rfl | exact RS.has (by assumption) | exact fun _ _ _ _ => (by assumption) | exact HasMem.ownD 0 rfl | exact HasMem.ownD 1 rfl | exact HasMem.ownD 2 rfl | exact HasMem.ownD 3 rfl | exact HasMem.ownD 4 rfl)) ?_
      refine WG.run tab_ok 1 rfl ?_
      refine' WG.y rfl rfl (by decide) (Yl.load1 tab_ok rfl rfl rfl (fun _ => rfl) ?r3 rfl ?h3) ?_
      case r3 => apply Rd.add; (first | exact Rd.slD (j + 2) hy (by omega) | (apply RS.rdD; assumption; ((try dsimp only) <;> omega)) | exact Rd.slD 0 rfl (by (try dsimp only) <;> omega) | exact Rd.slD 1 rfl (by (try dsimp only) <;> omega) | exact Rd.slD 2 rfl (by (try dsimp only) <;> omega) | exact Rd.slD 3 rfl (by (try dsimp only) <;> omega) | exact Rd.slD 4 rfl (by (try dsimp only) <;> omega))
      case h3 => rfl
      rw [hix]
      refine WG.y rfl rfl (by decide) (Yl.add rfl rfl rfl (fun _ => rfl) (by intro _; constructor <;> (try dsimp only) <;> omega)) ?_
      refine WG.run tab_ok 1 rfl ?_
      refine WG.nil ?_
      refine WE.nxt ?_
      refine W.seq ?_
      refine W.regionQ _ mixed (by kernel_rfl) ?_
      refine WG.run tab_ok 1 rfl ?_
      refine' WG.y rfl rfl (by decide) (Yl.load1 tab_ok rfl rfl rfl (fun _ => rfl) ?r4 rfl ?h4) ?_
      case r4 => (first | exact Rd.slD (j + 2) hy (by omega) | exact Rd.blk 0 rfl | exact Rd.blk 1 rfl | exact Rd.blk 2 rfl | exact Rd.blk 3 rfl | exact Rd.blk 4 rfl)
      case h4 => rfl
      refine WG.run tab_ok 1 rfl ?_
      refine' WG.y rfl rfl (by decide) (Yl.load1 tab_ok rfl rfl rfl (fun _ => rfl) ?r5 rfl ?h5) ?_
      case r5 => apply Rd.add; (first | exact Rd.slD (j + 2) hy (by omega) | exact Rd.blk 0 rfl | exact Rd.blk 1 rfl | exact Rd.blk 2 rfl | exact Rd.blk 3 rfl | exact Rd.blk 4 rfl)
      case h5 => rfl
      refine WG.y rfl rfl (by decide) (Yl.add rfl rfl rfl (fun _ => rfl) (by intro _; constructor <;> (try dsimp only) <;> omega)) ?_
      refine WG.run tab_ok 2 rfl ?_
      refine WG.y rfl rfl (by decide) (Yl.index tab_ok rfl rfl rfl rfl rfl rfl (fun _ => rfl) (by intro _; constructor <;> (try dsimp only) <;> omega) (by intro _; first | exact HasMem.ownD (j + 2) hy | exact fun _ _ _ _ => rfl | exact RS.has (by assumption) | exact fun _ _ _ _ => (by assumption) | exact HasMem.ownD 0 rfl | exact HasMem.ownD 1 rfl | exact HasMem.ownD 2 rfl | exact HasMem.ownD 3 rfl | exact HasMem.ownD 4 rfl)) ?_
      refine WG.run tab_ok 1 rfl ?_
      refine' WG.y rfl rfl (by decide) (Yl.load1 tab_ok rfl rfl rfl (fun _ => rfl) ?r6 rfl ?h6) ?_
      case r6 => apply Rd.add; (first | exact Rd.slD (j + 2) hy (by omega) | (apply RS.rdD; assumption; ((try dsimp only) <;> omega)) | exact Rd.slD 0 rfl (by (try dsimp only) <;> omega) | exact Rd.slD 1 rfl (by (try dsimp only) <;> omega) | exact Rd.slD 2 rfl (by (try dsimp only) <;> omega) | exact Rd.slD 3 rfl (by (try dsimp only) <;> omega) | exact Rd.slD 4 rfl (by (try dsimp only) <;> omega))
      case h6 => rfl
      rw [hix]
      refine WG.y rfl rfl (by decide) (Yl.sub rfl rfl rfl (fun _ => rfl) (by intro _; constructor <;> (try dsimp only) <;> omega)) ?_
      refine WG.callV (v := .int .i64 (F (p.time + 1 - (nth qs k).time).toNat)) en18 rfl rfl (by decide) (CallOp.mk' rfl rfl rfl rfl) (fun _ => rfl) (fun hg => by
        have h := AtFC_V (fc := fc) (t := (p.time + 1 - (nth qs k).time).toNat) hf hfa (by omega)
        rw [Int.toNat_of_nonneg (by omega)] at h
        exact h) ?_
      refine WG.run tab_ok 1 rfl ?_
      refine WG.nil ?_
      refine WE.nxt ?_
      refine W.condD rfl (fun hc2 => ?_) (fun hc2 => ?_)
      · try dsimp only at hc2
        have hno : passB F qs p = false := by
          cases h : passB F qs p with
          | false => rfl
          | true => have := (passB_iff.1 h).2 k (by omega); omega
        refine W.seq ?_
        refine W.region _ ?_
        refine WG.run tab_ok 1 rfl ?_
        refine WG.nil ?_
        refine WE.nxt ?_
        refine W.ret ?_
        refine WE.blk_ret ?_
        refine WE.then_ret ?_
        refine WE.then_ret ?_
        refine WE.blk_ret ?_
        refine WE.then_ret ?_
        refine WE.subE (E' := E) qS ?_
        refine WE.retF tab_ok [_] rfl ⟨rfl, trivial⟩ (RLe.refl _) ?_
        exact ⟨by rw [hno]; rfl, rfl⟩
      · try dsimp only at hc2
        refine W.skip ?_
        refine WE.blk _ ?_
        refine WE.nxt ?_
        refine W.region _ ?_
        refine WG.run tab_ok 1 rfl ?_
        refine WG.y rfl rfl (by decide) (Yl.sub rfl rfl rfl (fun _ => rfl) (by intro _; constructor <;> (try dsimp only) <;> omega)) ?_
        refine WG.run tab_ok 1 rfl ?_
        refine WG.nil ?_
        rw [show ((k + 1 : Nat) : Int) - 1 - 1 = (k : Int) - 1 by omega]
        refine WE.again ((k, sm + (nth qs k).size)) (⟨by dsimp only; omega, by dsimp only; omega, by dsimp only; omega, fun x h1 h2 => by
          (try dsimp only at h1)
          by_cases e : x = k
          · subst e; omega
          · exact hall x (by omega) h2⟩) (by (try dsimp only); omega) ⟨rfl, rfl, rfl, rfl, rfl, rfl⟩ (RLe.refl _) qS
    · try dsimp only at hc1
      obtain rfl : b = 0 := by omega
      refine W.exit ?_
      refine WE.then_exit ?_
      refine WE.then_exit ?_
      refine WE.blk_exit ?_
      refine WE.nxt ?_
      refine W.seq ?_
      refine W.region _ ?_
      refine WG.run tab_ok 1 rfl ?_
      refine WG.nil ?_
      refine WE.nxt ?_
      refine W.ret ?_
      refine WE.subE (E' := E) qS ?_
      refine WE.retF tab_ok [_] rfl ⟨rfl, trivial⟩ (RLe.refl _) ?_
      exact ⟨by rw [passB_iff.2 ⟨by omega, fun x h => hall x (Nat.zero_le _) h⟩]; rfl, rfl⟩

end Go.Proofs.Ytolmmfphdieilaa

/- Packets that a curve lets pass. No condition. -/
set_option linter.unusedSimpArgs false
set_option linter.unusedVariables false
namespace Go.Proofs.Ytolmmfphdieilaa
open Go Go.RowKit Go.Proofs.Ytolmmfphdieilaa.K Go.Proofs.Ytolmmfphdieilaa.M

set_option maxHeartbeats 1000000 in
theorem Police_C {R : Ro} {pa : Option Addr} {pc : Nat} {ps : List Pkt} (hp : RS R 3 encP pa ps) (hok : Ok ps) (hb : ∀ p ∈ ps, (0 ≤ p.time ∧ p.time ≤ 400) ∧ 0 ≤ p.size ∧ p.size ≤ 1000000) {F : Nat → Int} {S P : Nat} {I : Int} {fa : Option Addr} {fc : Nat} (hf : FC F S P I) (hfa : RS R 1 encI fa (fvals F (S + P))) (w0 : World) (E : List Ent) : K.Fn Try.prog 36 [.slice pa ps.length pc, .int .i64 (-1), .agg #[.slice fa (fvals F (S + P)).length fc, .int .i64 (P : Int), .int .i64 I]] w0 R E (fun v R' E' => ∃ (a : Option Addr) (cp : Nat) (a' : Option Addr) (n' cp' : Nat), v = .tuple #[.slice a (polL F ps []).length cp, .slice a' n' cp', .int .i64 0] ∧ R = R' ∧ (.sl 54 3 a cp ((polL F ps []).map encP) :: E).Sublist E') := by
  have hpl := hok.len
  refine Fn.enter (n := 66) Try.func36 rfl rfl (Nat.le_of_ble_eq_true rfl) rfl ?_
  refine W.seq ?_
  refine W.region _ ?_
  refine WL.ef rfl rfl (by decide) (Ef.box rfl rfl (fun b5 => ?_))
  refine WG.run tab_ok 3 rfl ?_
  refine WG.nil ?_
  refine WE.nxt ?_
  refine W.seq ?_
  refine W.seq ?_
  refine W.region _ ?_
  refine WG.run tab_ok 2 rfl ?_
  refine' WG.y rfl rfl (by decide) (Yl.load1 tab_ok rfl rfl rfl (fun _ => rfl) ?r1 rfl ?h1) ?_
  case r1 => (first | exact Rd.blk 0 rfl | exact Rd.blk 1 rfl | exact Rd.blk 2 rfl | exact Rd.blk 3 rfl | exact Rd.blk 4 rfl)
  case h1 => rfl
  refine WG.callV en84 rfl rfl (by decide) (CallOp.mk' rfl rfl rfl rfl) (fun _ => rfl) (fun hg => Bad14_V hp hok hf hfa) ?_
  refine WG.run tab_ok 1 rfl ?_
  refine WG.nil ?_
  refine WE.nxt ?_
  refine W.seq ?_
  refine W.region _ ?_
  refine WG.run tab_ok 2 rfl ?_
  refine WG.nil ?_
  refine WE.nxt ?_
  refine W.condN rfl (fun hc0 => ?_) (fun hc0 => ?_)
  · try dsimp only at hc0
    exact absurd rfl hc0
  · try dsimp only at hc0
    refine W.skip ?_
    refine WE.nxt ?_
    refine W.seq ?_
    refine W.region _ ?_
    refine WG.run tab_ok 1 rfl ?_
    refine WL.nilE 54 3 (by decide) ?_
    refine WG.run tab_ok 1 rfl ?_
    refine WL.nilE 54 3 (by decide) ?_
    refine WG.nil ?_
    refine WE.nxt ?_
    refine W.seq ?_
    refine W.region _ ?_
    refine WG.run tab_ok 1 rfl ?_
    refine WL.nilE 3 1 (by decide) ?_
    refine WG.nil ?_
    refine WE.nxt ?_
    refine W.seq ?_
    refine W.seq ?_
    refine W.region _ ?_
    refine WG.run tab_ok 1 rfl ?_
    refine WG.nil ?_
    refine WE.nxt ?_
    refine W.block ?_
    refine W.loopK (β := Nat × List Pkt × List Int × Option Addr × Nat × Option Addr × Nat × Option Addr × Nat) (fun (i, acc, ls, a1, c1, a2, c2, a3, c3) => i ≤ ps.length ∧ polL F (ps.drop i) acc = polL F ps [] ∧ acc.Sublist (ps.take i) ∧ ls.length ≤ i) (fun (i, acc, ls, a1, c1, a2, c2, a3, c3) => [(10, true, .slice a1 acc.length c1), (11, true, .slice a2 acc.length c2), (12, true, .slice a3 ls.length c3), (13, true, .int .i64 (i : Int))]) [0, 1, 5] [_, _, _] [] _ rfl (fun (i, acc, ls, a1, c1, a2, c2, a3, c3) => [(0, .sl 3 1 a3 c3 (ls.map encI)), (1, .sl 54 3 a2 c2 (acc.map encP)), (2, .sl 54 3 a1 c1 (acc.map encP))]) (fun (i, acc, ls, a1, c1, a2, c2, a3, c3) => ps.length - i) ((0, [], [], none, 0, none, 0, none, 0)) (⟨Nat.zero_le _, rfl, List.Sublist.refl _, Nat.le_refl _⟩) ⟨rfl, rfl, rfl, rfl, rfl, rfl, rfl, rfl⟩ qS ?_
    intro zz hst
    obtain ⟨i, acc, ls, a1, c1, a2, c2, a3, c3⟩ := zz
    dsimp only [zipE, setAll, List.cons_append, List.nil_append, List.set_cons_zero, List.set_cons_succ] at hst ⊢
    obtain ⟨hi, hpo, hsub, hll⟩ := hst
    have hal := hsub.length_le
    rw [List.length_take] at hal
    have haq : ∀ q ∈ acc, q ∈ ps := fun q hq => List.mem_of_mem_take (hsub.subset hq)
    refine W.seq ?_
    refine W.seq ?_
    refine W.region _ ?_
    refine WG.run tab_ok 4 rfl ?_
    refine WG.nil ?_
    refine WE.nxt ?_
    refine W.condD rfl (fun hc1 => ?_) (fun hc1 => ?_)
    · try dsimp only at hc1
      have hil : i < ps.length := by omega
      have hpi : nth ps i ∈ ps := nth_mem hil
      have hdn := drop_nth (xs := ps) (k := i) hil
      have htn := take_nth (xs := ps) (k := i) hil
      rw [hdn, polL] at hpo
      have hle : ∀ q ∈ acc, q.time ≤ (nth ps i).time := fun q hq => by
        have h1 := hok.sorted
        rw [← List.take_append_drop i ps, hdn] at h1
        exact (List.pairwise_append.1 h1).2.2 q (hsub.subset hq) _ (by simp)
      refine W.skip ?_
      refine WE.nxt ?_
      refine W.seq ?_
      refine W.block ?_
      refine W.seq ?_
      refine W.seq ?_
      refine W.region _ ?_
      refine WG.run tab_ok 3 rfl ?_
      refine WG.y rfl rfl (by decide) (pureV_ok tab_ok rfl qE) ?_
      refine WG.y rfl rfl (by decide) (pureV_ok tab_ok rfl qE) ?_
      refine WG.y rfl rfl (by decide) (Yl.indexN tab_ok rfl rfl rfl rfl rfl rfl qE (by intro hg; (try simp only [decide_eq_true_eq, decide_eq_false_iff_not, beq_iff_eq, bne_iff_ne, beq_eq_false_iff_ne, bne_eq_false_iff_eq, ne_eq, Bool.or_eq_true, Bool.or_eq_false_iff, Bool.and_eq_true, Bool.and_eq_false_imp, Bool.not_eq_true, Bool.not_eq_true', Bool.not_eq_false', Classical.not_not, Int.not_lt, Int.not_le, gt_iff_lt, ge_iff_le] at hg); (try dsimp only) <;> omega) (by intro hg; (try simp only [decide_eq_true_eq, decide_eq_false_iff_not, beq_iff_eq, bne_iff_ne, beq_eq_false_iff_ne, bne_eq_false_iff_eq, ne_eq, Bool.or_eq_true, Bool.or_eq_false_iff, Bool.and_eq_true, Bool.and_eq_false_imp, Bool.not_eq_true, Bool.not_eq_true', Bool.not_eq_false', Classical.not_not, Int.not_lt, Int.not_le, gt_iff_lt, ge_iff_le] at hg); first | exact fun _ _ _ _ => rfl | exact RS.has (by assumption) | exact fun _ _ _ _ => (by assumption) | exact HasMem.ownD 0 rfl | exact HasMem.ownD 1 rfl | exact HasMem.ownD 2 rfl | exact HasMem.ownD 3 rfl | exact HasMem.ownD 4 rfl)) ?_
      refine WG.y rfl rfl (by decide) (pureV_ok tab_ok rfl qE) ?_
      refine' WG.y rfl rfl (by decide) (Yl.loadG tab_ok rfl rfl rfl qE ?r2 rfl ?h2 ?g2) ?_
      case r2 => apply Rd.addC; (first | (apply RS.rdC; assumption) | exact Rd.slC 0 rfl | exact Rd.slC 1 rfl | exact Rd.slC 2 rfl | exact Rd.slC 3 rfl | exact Rd.slC 4 rfl)
      case h2 => rfl
      case g2 => first | exact fun _ => trivial | (intro hg; (try simp only [decide_eq_true_eq, decide_eq_false_iff_not, beq_iff_eq, bne_iff_ne, beq_eq_false_iff_ne, bne_eq_false_iff_eq, ne_eq, Bool.or_eq_true, Bool.or_eq_false_iff, Bool.and_eq_true, Bool.and_eq_false_imp, Bool.not_eq_true, Bool.not_eq_true', Bool.not_eq_false', Classical.not_not, Int.not_lt, Int.not_le, gt_iff_lt, ge_iff_le] at hg); (try dsimp only); omega)
      refine WG.y rfl rfl (by decide) (pureV_ok tab_ok rfl qE) ?_
      refine WG.y rfl rfl (by decide) (pureV_ok tab_ok rfl qE) ?_
      refine WG.y rfl rfl (by decide) (Yl.por rfl rfl rfl (fun _ => rfl) (by intro h1 h2; simp_all <;> omega)) ?_
      refine WG.nil ?_
      refine WE.nxt ?_
      refine W.cond rfl (fun hc2 => ?_) (fun hc2 => ?_)
      · try simp only [decide_eq_true_eq, decide_eq_false_iff_not, beq_iff_eq, bne_iff_ne, beq_eq_false_iff_ne, bne_eq_false_iff_eq, ne_eq, Bool.or_eq_true, Bool.or_eq_false_iff, Bool.and_eq_true, Bool.and_eq_false_imp, Bool.not_eq_true, Bool.not_eq_true', Bool.not_eq_false', Classical.not_not, Int.not_lt, Int.not_le, gt_iff_lt, ge_iff_le] at hc2
        refine W.seq ?_
        refine W.seq ?_
        refine W.regionQ _ mixed (by kernel_rfl) ?_
        refine WG.run tab_ok 3 rfl ?_
        refine WG.y rfl rfl (by decide) (Yl.indexN tab_ok rfl rfl rfl rfl rfl rfl (fun _ => rfl) (by intro _; (try dsimp only) <;> omega) (by intro _; first | exact fun _ _ _ _ => rfl | exact RS.has (by assumption) | exact fun _ _ _ _ => (by assumption) | exact HasMem.ownD 0 rfl | exact HasMem.ownD 1 rfl | exact HasMem.ownD 2 rfl | exact HasMem.ownD 3 rfl | exact HasMem.ownD 4 rfl)) ?_
        refine' WG.y rfl rfl (by decide) (Yl.load1 tab_ok rfl rfl rfl (fun _ => rfl) ?r3 rfl ?h3) ?_
        case r3 => (first | (apply RS.rdD; assumption; ((try dsimp only) <;> omega)) | exact Rd.slD 0 rfl (by (try dsimp only) <;> omega) | exact Rd.slD 1 rfl (by (try dsimp only) <;> omega) | exact Rd.slD 2 rfl (by (try dsimp only) <;> omega) | exact Rd.slD 3 rfl (by (try dsimp only) <;> omega) | exact Rd.slD 4 rfl (by (try dsimp only) <;> omega))
        case h3 => rfl
        refine' WG.y rfl rfl (by decide) (Yl.load1 tab_ok rfl rfl rfl (fun _ => rfl) ?r4 rfl ?h4) ?_
        case r4 => (first | exact Rd.blk 0 rfl | exact Rd.blk 1 rfl | exact Rd.blk 2 rfl | exact Rd.blk 3 rfl | exact Rd.blk 4 rfl)
        case h4 => rfl
        refine WG.callE (v := .bool (passB F acc (nth ps i))) en85 rfl rfl (by decide) (CallOp.mk' rfl rfl rfl rfl) (fun _ => rfl) (fun hg => Passes_E (j := 1) (p := nth ps i) (qs := acc) rfl (by omega) (fun q hq => ⟨⟨(hb q (haq q hq)).1.1, hle q hq⟩, (hb q (haq q hq)).2⟩) (hb _ hpi) hf hfa w0) ?_
        refine WG.run tab_ok 1 rfl ?_
        refine WG.nil ?_
        refine WE.nxt ?_
        refine W.cond rfl (fun hc3 => ?_) (fun hc3 => ?_)
        · try simp only [decide_eq_true_eq, decide_eq_false_iff_not, beq_iff_eq, bne_iff_ne, beq_eq_false_iff_ne, bne_eq_false_iff_eq, ne_eq, Bool.or_eq_true, Bool.or_eq_false_iff, Bool.and_eq_true, Bool.and_eq_false_imp, Bool.not_eq_true, Bool.not_eq_true', Bool.not_eq_false', Classical.not_not, Int.not_lt, Int.not_le, gt_iff_lt, ge_iff_le] at hc3
          have hpb : passB F acc (nth ps i) = false := by simpa using hc3
          rw [if_neg (by rw [hpb]; decide)] at hpo
          refine W.seq ?_
          refine W.region _ ?_
          refine WG.run tab_ok 2 rfl ?_
          refine WL.ef rfl rfl (by decide) (Ef.buildSliceD (enc := encI) (parts := [.tmp 47]) [_] tab_ok rfl rfl rfl rfl rfl rfl rfl rfl (by decide) (by decide) (fun a48 => ?_))
          first | refine WL.ef rfl rfl (by decide) (Ef.appendD 1 0 tab_ok rfl rfl rfl rfl rfl rfl rfl rfl rfl rfl rfl (fun _ _ => rfl) (by simp only [List.length_cons, List.length_nil]; omega) (by simp only [List.length_cons, List.length_nil]; omega) (fun a49 c49 ha49 => ?_)) | refine WL.ef rfl rfl (by decide) (Ef.appendD 2 0 tab_ok rfl rfl rfl rfl rfl rfl rfl rfl rfl rfl rfl (fun _ _ => rfl) (by simp only [List.length_cons, List.length_nil]; omega) (by simp only [List.length_cons, List.length_nil]; omega) (fun a49 c49 ha49 => ?_)) | refine WL.ef rfl rfl (by decide) (Ef.appendD 3 0 tab_ok rfl rfl rfl rfl rfl rfl rfl rfl rfl rfl rfl (fun _ _ => rfl) (by simp only [List.length_cons, List.length_nil]; omega) (by simp only [List.length_cons, List.length_nil]; omega) (fun a49 c49 ha49 => ?_)) | refine WL.ef rfl rfl (by decide) (Ef.appendD 4 0 tab_ok rfl rfl rfl rfl rfl rfl rfl rfl rfl rfl rfl (fun _ _ => rfl) (by simp only [List.length_cons, List.length_nil]; omega) (by simp only [List.length_cons, List.length_nil]; omega) (fun a49 c49 ha49 => ?_)) | refine WL.ef rfl rfl (by decide) (Ef.appendR 0 tab_ok rfl rfl rfl rfl rfl rfl rfl rfl rfl rfl (by assumption) (fun _ _ => rfl) (by (try dsimp only); omega) (by omega) (fun a49 c49 ha49 => ?_)) | refine WL.ef rfl rfl (by decide) (Ef.appendR 1 tab_ok rfl rfl rfl rfl rfl rfl rfl rfl rfl rfl (by assumption) (fun _ _ => rfl) (by (try dsimp only); omega) (by omega) (fun a49 c49 ha49 => ?_)) | refine WL.ef rfl rfl (by decide) (Ef.appendR 2 tab_ok rfl rfl rfl rfl rfl rfl rfl rfl rfl rfl (by assumption) (fun _ _ => rfl) (by (try dsimp only); omega) (by omega) (fun a49 c49 ha49 => ?_)) | refine WL.ef rfl rfl (by decide) (Ef.appendR 3 tab_ok rfl rfl rfl rfl rfl rfl rfl rfl rfl rfl (by assumption) (fun _ _ => rfl) (by (try dsimp only); omega) (by omega) (fun a49 c49 ha49 => ?_)) | refine WL.ef rfl rfl (by decide) (Ef.appendR 4 tab_ok rfl rfl rfl rfl rfl rfl rfl rfl rfl rfl (by assumption) (fun _ _ => rfl) (by (try dsimp only); omega) (by omega) (fun a49 c49 ha49 => ?_))
          refine WG.run tab_ok 1 rfl ?_
          refine WG.nil ?_
          refine WE.nxt ?_
          refine W.exit ?_
          refine WE.then_exit ?_
          refine WE.then_exit ?_
          refine WE.blk_exit ?_
          refine WE.nxt ?_
          refine W.region _ ?_
          refine WG.run tab_ok 1 rfl ?_
          refine WG.y rfl rfl (by decide) (Yl.add rfl rfl rfl (fun _ => rfl) (by intro _; constructor <;> (try dsimp only) <;> omega)) ?_
          refine WG.run tab_ok 1 rfl ?_
          refine WG.nil ?_
          refine WE.again ((i + 1, acc, ls ++ [(i : Int)], a1, c1, a2, c2, a49, c49)) (⟨by dsimp only; omega, hpo, by dsimp only; rw [htn]; exact hsub.trans (List.sublist_append_left _ _), by dsimp only; simp only [List.length_append, List.length_cons, List.length_nil]; omega⟩) (by (try dsimp only); omega) ⟨rfl, rfl, rfl, rfl, rfl, rfl, rfl, rfl⟩ (RLe.refl _) qS
        · try simp only [decide_eq_true_eq, decide_eq_false_iff_not, beq_iff_eq, bne_iff_ne, beq_eq_false_iff_ne, bne_eq_false_iff_eq, ne_eq, Bool.or_eq_true, Bool.or_eq_false_iff, Bool.and_eq_true, Bool.and_eq_false_imp, Bool.not_eq_true, Bool.not_eq_true', Bool.not_eq_false', Classical.not_not, Int.not_lt, Int.not_le, gt_iff_lt, ge_iff_le] at hc3
          have hpb : passB F acc (nth ps i) = true := by simpa using hc3
          rw [if_pos hpb] at hpo
          refine W.skip ?_
          refine WE.nxt ?_
          refine W.region _ ?_
          refine WG.run tab_ok 3 rfl ?_
          refine WG.y rfl rfl (by decide) (Yl.indexN tab_ok rfl rfl rfl rfl rfl rfl (fun _ => rfl) (by intro _; (try dsimp only) <;> omega) (by intro _; first | exact fun _ _ _ _ => rfl | exact RS.has (by assumption) | exact fun _ _ _ _ => (by assumption) | exact HasMem.ownD 0 rfl | exact HasMem.ownD 1 rfl | exact HasMem.ownD 2 rfl | exact HasMem.ownD 3 rfl | exact HasMem.ownD 4 rfl)) ?_
          refine' WG.y rfl rfl (by decide) (Yl.load1 tab_ok rfl rfl rfl (fun _ => rfl) ?r5 rfl ?h5) ?_
          case r5 => (first | (apply RS.rdD; assumption; ((try dsimp only) <;> omega)) | exact Rd.slD 0 rfl (by (try dsimp only) <;> omega) | exact Rd.slD 1 rfl (by (try dsimp only) <;> omega) | exact Rd.slD 2 rfl (by (try dsimp only) <;> omega) | exact Rd.slD 3 rfl (by (try dsimp only) <;> omega) | exact Rd.slD 4 rfl (by (try dsimp only) <;> omega))
          case h5 => rfl
          refine WL.ef rfl rfl (by decide) (Ef.buildSliceD (enc := encP) (parts := [.tmp 54]) [nth ps i] tab_ok rfl rfl rfl rfl rfl rfl rfl rfl (by decide) (by decide) (fun a55 => ?_))
          refine WL.ef rfl rfl (by decide) (Ef.appendD (enc := encP) 2 0 tab_ok rfl rfl rfl rfl rfl rfl rfl rfl rfl rfl rfl (fun _ _ => rfl) (by simp only [List.length_cons, List.length_nil]; omega) (by simp only [List.length_cons, List.length_nil]; omega) (fun a56 c56 ha56 => ?_))
          refine WG.run tab_ok 1 rfl ?_
          refine WG.nil ?_
          refine WE.nxt ?_
          refine W.region _ ?_
          refine WG.run tab_ok 3 rfl ?_
          refine WG.y rfl rfl (by decide) (Yl.indexN tab_ok rfl rfl rfl rfl rfl rfl (fun _ => rfl) (by intro _; (try dsimp only) <;> omega) (by intro _; first | exact fun _ _ _ _ => rfl | exact RS.has (by assumption) | exact fun _ _ _ _ => (by assumption) | exact HasMem.ownD 0 rfl | exact HasMem.ownD 1 rfl | exact HasMem.ownD 2 rfl | exact HasMem.ownD 3 rfl | exact HasMem.ownD 4 rfl)) ?_
          refine' WG.y rfl rfl (by decide) (Yl.load1 tab_ok rfl rfl rfl (fun _ => rfl) ?r6 rfl ?h6) ?_
          case r6 => (first | (apply RS.rdD; assumption; ((try dsimp only) <;> omega)) | exact Rd.slD 0 rfl (by (try dsimp only) <;> omega) | exact Rd.slD 1 rfl (by (try dsimp only) <;> omega) | exact Rd.slD 2 rfl (by (try dsimp only) <;> omega) | exact Rd.slD 3 rfl (by (try dsimp only) <;> omega) | exact Rd.slD 4 rfl (by (try dsimp only) <;> omega))
          case h6 => rfl
          refine WL.ef rfl rfl (by decide) (Ef.buildSliceD (enc := encP) (parts := [.tmp 61]) [nth ps i] tab_ok rfl rfl rfl rfl rfl rfl rfl rfl (by decide) (by decide) (fun a62 => ?_))
          refine WL.ef rfl rfl (by decide) (Ef.appendD (enc := encP) 4 0 tab_ok rfl rfl rfl rfl rfl rfl rfl rfl rfl rfl rfl (fun _ _ => rfl) (by simp only [List.length_cons, List.length_nil]; omega) (by simp only [List.length_cons, List.length_nil]; omega) (fun a63 c63 ha63 => ?_))
          refine WG.run tab_ok 1 rfl ?_
          refine WG.nil ?_
          refine WE.blk _ ?_
          refine WE.nxt ?_
          refine W.region _ ?_
          refine WG.run tab_ok 1 rfl ?_
          refine WG.y rfl rfl (by decide) (Yl.add rfl rfl rfl (fun _ => rfl) (by intro _; constructor <;> (try dsimp only) <;> omega)) ?_
          refine WG.run tab_ok 1 rfl ?_
          refine WG.nil ?_
          refine WE.again ((i + 1, acc ++ [nth ps i], ls, a63, c63, a56, c56, a3, c3)) (⟨by dsimp only; omega, hpo, by dsimp only; rw [htn]; exact List.Sublist.append hsub (List.Sublist.refl _), by dsimp only; omega⟩) (by (try dsimp only); omega) ⟨rfl, rfl, rfl, rfl, rfl, rfl, rfl, rfl⟩ (RLe.refl _) qS
      · try simp only [decide_eq_true_eq, decide_eq_false_iff_not, beq_iff_eq, bne_iff_ne, beq_eq_false_iff_ne, bne_eq_false_iff_eq, ne_eq, Bool.or_eq_true, Bool.or_eq_false_iff, Bool.and_eq_true, Bool.and_eq_false_imp, Bool.not_eq_true, Bool.not_eq_true', Bool.not_eq_false', Classical.not_not, Int.not_lt, Int.not_le, gt_iff_lt, ge_iff_le] at hc2
        first | (simp at hc2; done) | exact absurd hc2 (by decide)
    · try dsimp only at hc1
      obtain rfl : i = ps.length := by omega
      rw [List.drop_length, polL] at hpo
      refine W.exit ?_
      refine WE.then_exit ?_
      refine WE.then_exit ?_
      refine WE.blk_exit ?_
      refine WE.nxt ?_
      refine W.seq ?_
      refine W.region _ ?_
      refine WG.run tab_ok 5 rfl ?_
      refine WG.nil ?_
      refine WE.nxt ?_
      refine W.ret ?_
      refine WE.retF tab_ok [_, _, _] rfl ⟨rfl, rfl, rfl, trivial⟩ (RLe.refl _) ?_
      exact ⟨a1, c1, a3, ls.length, c3, by rw [← hpo]; rfl, rfl, by rw [← hpo]; exact qS⟩

end Go.Proofs.Ytolmmfphdieilaa

/- The line in order of arrival: bounds. No condition. -/
set_option linter.unusedSimpArgs false
set_option linter.unusedVariables false
namespace Go.Proofs.Ytolmmfphdieilaa
open Go Go.RowKit Go.Proofs.Ytolmmfphdieilaa.K Go.Proofs.Ytolmmfphdieilaa.M

theorem selSum_all (t : Int) : ∀ (ls : List (List Int)) (c : Nat), selSum (-1) t c ls = colSum ls t.toNat
  | [], _ => rfl
  | l :: ls, c => by simp only [selSum, colSum]; rw [if_neg (by omega), selSum_all t ls (c + 1)]
theorem line_curve (C : Int) : fvals (fun t : Nat => C * (t : Int)) (0 + 1) = [0] := by simp [fvals]
theorem queue_line {ps : List Pkt} {C : Int} {m : Nat} {s : M.RS Unit} {t : Nat} (hs : s = mrun ps (fifo ps) C 3 m ()) (hsz : ∀ p ∈ ps, 1 ≤ p.size) (hfl : ∀ p ∈ ps, 0 ≤ p.flow ∧ p.flow < 3) (hsort : ps.Pairwise fun a b => a.time ≤ b.time) (hC : 0 ≤ C) (hl : ∀ l ∈ s.sent, l.length = m + 1) (hn : s.sent.length = 3) (ht : t ≤ m) : queueR ps s.sent (-1) (t : Int) = (pbytes (-1) (t : Int) ps - wsum C ps t, pbytes (-1) ((t : Int) + 1) ps - wsum C ps t) := by
  rw [queueR_is (m := m + 1) hl (by intro e; rw [e] at hn; cases hn), if_neg (by omega), selSum_all, Int.toNat_natCast, hs]
  rw [work_sum (goodFB_fair ps) hsz hfl hC (goodFB_start ps 3) (goodFB_busy hsort) ht]
theorem line_wait {ps : List Pkt} {C : Int} {m : Nat} {s : M.RS Unit} (hs : s = mrun ps (fifo ps) C 3 m ()) (hsz : ∀ p ∈ ps, 1 ≤ p.size) (hfl : ∀ p ∈ ps, 0 ≤ p.flow ∧ p.flow < 3) (hsort : ps.Pairwise fun a b => a.time ≤ b.time) (h0 : ∀ p ∈ ps, 0 ≤ p.time) (hC : 0 ≤ C) {F : Nat → Int} (hF : Conf F ps) {d : Nat} (hd : ∀ u : Nat, F u ≤ C * ((u + d : Nat) : Int)) {n : Nat} (hn : n < ps.length) (hT : (nth ps n).time + d < m) : 0 ≤ nth s.done n ∧ nth s.done n ≤ (nth ps n).time + d := by
  obtain ⟨T, hT2⟩ := Int.eq_ofNat_of_zero_le (h0 _ (nth_mem hn))
  apply Classical.byContradiction
  intro hne
  have h1 := late_all (m := m) (T := T) (t := T + d) (goodFB_fair ps) (goodFB_busy hsort) hsz hfl hsort hC (goodFB_start ps 3) hn hT2 (by omega) (by rw [← hs]; omega)
  have h2 := wait_bound (a := fun t => pbytes (-1) (t : Int) ps) (v := fun t => wsum C ps t) (F := F) (G := fun u : Nat => C * (u : Int)) (m := m) (T := T) (d := d) hF (fun x t hxt => pbytes_mono (by omega) ps (fun p hp => by have := hsz p hp; omega)) (fun t => Int.mul_nonneg hC (by omega)) (fun t _ => wsum_serv h0 t) hd (by omega)
  rw [show ((T + 1 : Nat) : Int) = (T : Int) + 1 by omega] at h2
  omega

set_option maxHeartbeats 4000000 in
theorem LineBounds_F {R : Ro} {a : Option Addr} {c : Nat} {xs : List Int} (ha : RS R 1 encI a xs) (hc : xs.length ≤ c) (w0 : World) : K.Fn Try.prog 6 [.slice a xs.length c] w0 R [] (fun v _ _ => v = .bool true) := by
  refine Fn.enter (n := 188) Try.func6 rfl rfl (Nat.le_of_ble_eq_true rfl) rfl ?_
  refine W.seq ?_
  refine W.region _ ?_
  refine WG.run tab_ok 1 rfl ?_
  refine WG.nil ?_
  refine WE.nxt ?_
  refine W.seq ?_
  refine W.region _ ?_
  refine WG.run tab_ok 1 rfl ?_
  refine WL.call en10 rfl rfl (by decide) (CallOp.mkT rfl rfl rfl rfl) (New_C w0 _ hc) ?_
  rintro _ _ _ - ⟨b, rfl, rfl, rfl⟩
  have hz := ha.take 2000
  refine WG.run tab_ok 1 rfl ?_
  refine WG.nil ?_
  refine WE.nxt ?_
  refine W.seq ?_
  refine W.region _ ?_
  refine WG.run tab_ok 1 rfl ?_
  refine WL.callAt 0 en30 rfl rfl (by decide) (CallOp.mkT rfl rfl rfl rfl) rfl (Traffic_C w0 hz (by decide) (by constructor <;> decide) (by decide) _) ?_
  rintro _ _ _ _ - ⟨a2, c2, rfl, rfl, rfl, rfl⟩
  refine WL.freeze (enc := encP) (xs := (traffic (xs.take 2000) 12 3 40 0)) 0 rfl ?_
  intro R1 hR1 hp
  have hz := hz.mono hR1
  have hok := traffic_ok (xs.take 2000) (n := 12) (flows := 3) (most := 40) (by decide) (by decide) (by decide) 0
  have hat := traffic_at (xs.take 2000) (n := 12) (flows := 3) (most := 40) (by decide) (by decide) (by decide) 0
  have hlt := traffic_len (xs.take 2000) (n := 12) (flows := 3) (most := 40) (by decide) 0
  refine WG.run tab_ok 1 rfl ?_
  refine WL.callAt 0 en12 rfl rfl (by decide) (CallOp.mkT rfl rfl rfl rfl) rfl (N_C w0 hz (by constructor <;> decide) _) ?_
  rintro _ _ _ _ - ⟨rfl, rfl, rfl, rfl⟩
  have hm30 := mod_range (nth (xs.take 2000) ((0 + 1 + 3 * trafficK (xs.take 2000) 12 0))) (show (1 : Int) ≤ 30 by decide)
  refine WG.y rfl rfl (by decide) (Yl.add rfl rfl rfl (fun _ => rfl) (by intro _; constructor <;> (try dsimp only) <;> omega)) ?_
  refine WG.run tab_ok 2 rfl ?_
  refine WG.nil ?_
  refine WE.nxt ?_
  refine W.seq ?_
  refine W.region _ ?_
  refine WG.run tab_ok 1 rfl ?_
  refine WL.call en32 rfl rfl (by decide) (CallOp.mkT rfl rfl rfl rfl) (Least1_C (flow := -1) hp hok (by decide) (fun p hp => by have := hat p hp; omega) w0 _) ?_
  rintro _ RL _ hRL ⟨fa0, fc0, F0, S0, P0, I0, rfl, hfa0, hfc0, hp10, hkeep0, hsubL⟩
  refine WL.subE hsubL ?_
  have hp := hp.mono hRL
  have hz := hz.mono hRL
  refine WG.run tab_ok 3 rfl ?_
  refine WL.ef rfl rfl (by decide) (Ef.alloc tab_ok rfl rfl (fun b6 => ?_))
  first | refine WL.efN rfl rfl (Ef.store0 0 tab_ok rfl rfl rfl rfl rfl rfl rfl rfl ?_) | refine WL.efN rfl rfl (Ef.store0 1 tab_ok rfl rfl rfl rfl rfl rfl rfl rfl ?_) | refine WL.efN rfl rfl (Ef.store0 2 tab_ok rfl rfl rfl rfl rfl rfl rfl rfl ?_) | refine WL.efN rfl rfl (Ef.store0 3 tab_ok rfl rfl rfl rfl rfl rfl rfl rfl ?_) | refine WL.efN rfl rfl (Ef.store0 4 tab_ok rfl rfl rfl rfl rfl rfl rfl rfl ?_) | refine WL.efN rfl rfl (Ef.store0 5 tab_ok rfl rfl rfl rfl rfl rfl rfl rfl ?_) | refine WL.efN rfl rfl (Ef.store0 6 tab_ok rfl rfl rfl rfl rfl rfl rfl rfl ?_) | refine WL.efN rfl rfl (Ef.store0 7 tab_ok rfl rfl rfl rfl rfl rfl rfl rfl ?_) | refine WL.efN rfl rfl (Ef.store0 8 tab_ok rfl rfl rfl rfl rfl rfl rfl rfl ?_) | refine WL.efN rfl rfl (Ef.store0 9 tab_ok rfl rfl rfl rfl rfl rfl rfl rfl ?_)
  refine WG.run tab_ok 1 rfl ?_
  refine WG.nil ?_
  refine WE.nxt ?_
  refine W.seqCut (β := Ro × List Pkt × Option Addr × Nat × (Nat → Int) × Nat × Nat × Int × Option Addr × Nat) (fun (Rk, qs, qa, qc, F, S, P, I, fa, fc) => RLe R1 Rk ∧ RS Rk 3 encP qa qs ∧ qs.Sublist (traffic (xs.take 2000) 12 3 40 0) ∧ FC F S P I ∧ P ≤ 100 ∧ RS Rk 1 encI fa (fvals F (S + P)) ∧ Conf F qs) (fun (Rk, qs, qa, qc, F, S, P, I, fa, fc) => [(4, true, .slice qa qs.length qc), (5, true, .int .i64 (1 + mod (nth (xs.take 2000) (0 + 1 + 3 * trafficK (xs.take 2000) 12 0)) 30)), (6, true, .pointer (some ⟨b6, 0, none⟩)), (7, true, .int .i64 0)]) (fun (Rk, qs, qa, qc, F, S, P, I, fa, fc) => Rk) (fun (Rk, qs, qa, qc, F, S, P, I, fa, fc) => [.blk b6 [.slice fa (fvals F (S + P)).length fc, .int .i64 (P : Int), .int .i64 I]]) ?_ ?_
  ·
    intro zz hst
    obtain ⟨Rk, qs, qa, qc, F, S, P, I, fa, fc⟩ := zz
    obtain ⟨hRLk, hq, hsubq, hfc, hP100, hfa, hconf⟩ := hst
    dsimp only at hRLk hq hsubq hfc hP100 hfa hconf ⊢
    have hC : 1 ≤ (1 + mod (nth (xs.take 2000) (0 + 1 + 3 * trafficK (xs.take 2000) 12 0)) 30) ∧ (1 + mod (nth (xs.take 2000) (0 + 1 + 3 * trafficK (xs.take 2000) 12 0)) 30) ≤ 30 := by have := mod_range (nth (xs.take 2000) (0 + 1 + 3 * trafficK (xs.take 2000) 12 0)) (show (1 : Int) ≤ 30 by decide); omega
    generalize (1 + mod (nth (xs.take 2000) (0 + 1 + 3 * trafficK (xs.take 2000) 12 0)) 30) = C at hC ⊢
    have hatq : ∀ p ∈ qs, _ := fun p hp => hat p (hsubq.subset hp)
    have hqlen := hsubq.length_le
    have hokq : Ok qs := ⟨by omega, fun p hp => hok.each p (hsubq.subset hp), hok.sorted.sublist hsubq⟩
    have hsz1 : ∀ p ∈ qs, 1 ≤ p.size := fun p hp => by have := hatq p hp; omega
    have hflq : ∀ p ∈ qs, 0 ≤ p.flow ∧ p.flow < 3 := fun p hp => by have := hatq p hp; omega
    refine W.seq ?_
    refine W.region _ ?_
    refine WG.run tab_ok 1 rfl ?_
    refine WL.call en31 rfl rfl (by decide) (CallOp.mkT rfl rfl rfl rfl) (Serve_ok (cap := C) w0 (by omega) _) ?_
    rintro _ _ E3 - ⟨gs, rfl, rfl, hsub2⟩
    refine WL.subE hsub2 ?_
    refine WL.freeze (enc := encI) (xs := [0]) 0 rfl ?_
    intro R3 hR3 hsv
    have hgl : FC (fun t : Nat => C * (t : Int)) 0 1 C := fc_line (by omega)
    have hgb : RS R3 1 encI (some ⟨gs, 0, none⟩) (fvals (fun t : Nat => C * (t : Int)) (0 + 1)) := by rw [line_curve]; exact hsv
    have hq := hq.mono hR3
    have hfa := hfa.mono hR3
    refine WG.run tab_ok 3 rfl ?_
    refine WL.ef rfl rfl (by decide) (Ef.alloc tab_ok rfl rfl (fun b8 => ?_))
    first | refine WL.efN rfl rfl (Ef.store0 0 tab_ok rfl rfl rfl rfl rfl rfl rfl rfl ?_) | refine WL.efN rfl rfl (Ef.store0 1 tab_ok rfl rfl rfl rfl rfl rfl rfl rfl ?_) | refine WL.efN rfl rfl (Ef.store0 2 tab_ok rfl rfl rfl rfl rfl rfl rfl rfl ?_) | refine WL.efN rfl rfl (Ef.store0 3 tab_ok rfl rfl rfl rfl rfl rfl rfl rfl ?_) | refine WL.efN rfl rfl (Ef.store0 4 tab_ok rfl rfl rfl rfl rfl rfl rfl rfl ?_) | refine WL.efN rfl rfl (Ef.store0 5 tab_ok rfl rfl rfl rfl rfl rfl rfl rfl ?_) | refine WL.efN rfl rfl (Ef.store0 6 tab_ok rfl rfl rfl rfl rfl rfl rfl rfl ?_) | refine WL.efN rfl rfl (Ef.store0 7 tab_ok rfl rfl rfl rfl rfl rfl rfl rfl ?_) | refine WL.efN rfl rfl (Ef.store0 8 tab_ok rfl rfl rfl rfl rfl rfl rfl rfl ?_) | refine WL.efN rfl rfl (Ef.store0 9 tab_ok rfl rfl rfl rfl rfl rfl rfl rfl ?_)
    refine WG.run tab_ok 1 rfl ?_
    refine WG.nil ?_
    refine WE.nxt ?_
    refine W.seq ?_
    refine W.region _ ?_
    refine WG.run tab_ok 2 rfl ?_
    refine WL.call en33 rfl rfl (by decide) (CallOp.mkT rfl rfl rfl rfl) (LRun_len (ps := qs) (cap := C) (classes := 3) (ticks := 300) hq rfl w0 hokq (checkE_of (by unfold BadC; omega) (fun p hp => (hatq p hp).2.1)) _) ?_
    rintro _ _ E2 - ⟨rows, gd, go, s, hs, rfl, rfl, h1, h2, h3, hsub⟩
    refine WL.subE hsub ?_
    refine WL.freeze (enc := encI) (xs := s.done) 0 rfl ?_
    intro R4a hR4a hdn1
    refine WL.freeze (enc := encS) (xs := rows) 0 rfl ?_
    intro R4b hR4b ho1
    refine WL.freezeRowsC (rows := rows) rfl ?_
    intro R4 hR4 hrr1 hcap1
    have hdn1 := hdn1.mono (hR4b.trans hR4)
    have ho1 := ho1.mono hR4
    have hq := hq.mono (hR4a.trans (hR4b.trans hR4))
    have hfa := hfa.mono (hR4a.trans (hR4b.trans hR4))
    have hgb := hgb.mono (hR4a.trans (hR4b.trans hR4))
    obtain ⟨hl1, hx1⟩ := rows_facts h1 h3
    refine WG.run tab_ok 3 rfl ?_
    refine WL.ef rfl rfl (by decide) (Ef.alloc tab_ok rfl rfl (fun b10 => ?_))
    first | refine WL.efN rfl rfl (Ef.store0 0 tab_ok rfl rfl rfl rfl rfl rfl rfl rfl ?_) | refine WL.efN rfl rfl (Ef.store0 1 tab_ok rfl rfl rfl rfl rfl rfl rfl rfl ?_) | refine WL.efN rfl rfl (Ef.store0 2 tab_ok rfl rfl rfl rfl rfl rfl rfl rfl ?_) | refine WL.efN rfl rfl (Ef.store0 3 tab_ok rfl rfl rfl rfl rfl rfl rfl rfl ?_) | refine WL.efN rfl rfl (Ef.store0 4 tab_ok rfl rfl rfl rfl rfl rfl rfl rfl ?_) | refine WL.efN rfl rfl (Ef.store0 5 tab_ok rfl rfl rfl rfl rfl rfl rfl rfl ?_) | refine WL.efN rfl rfl (Ef.store0 6 tab_ok rfl rfl rfl rfl rfl rfl rfl rfl ?_) | refine WL.efN rfl rfl (Ef.store0 7 tab_ok rfl rfl rfl rfl rfl rfl rfl rfl ?_) | refine WL.efN rfl rfl (Ef.store0 8 tab_ok rfl rfl rfl rfl rfl rfl rfl rfl ?_) | refine WL.efN rfl rfl (Ef.store0 9 tab_ok rfl rfl rfl rfl rfl rfl rfl rfl ?_)
    refine WG.run tab_ok 1 rfl ?_
    refine WG.nil ?_
    refine WE.nxt ?_
    refine W.seq ?_
    refine W.region _ ?_
    refine' WG.y rfl rfl (by decide) (Yl.load1 tab_ok rfl rfl rfl (fun _ => rfl) ?r1 rfl ?h1) ?_
    case r1 => (first | exact Rd.blk 0 rfl | exact Rd.blk 1 rfl | exact Rd.blk 2 rfl | exact Rd.blk 3 rfl | exact Rd.blk 4 rfl | exact Rd.blk 5 rfl | exact Rd.blk 6 rfl | exact Rd.blk 7 rfl | exact Rd.blk 8 rfl | exact Rd.blk 9 rfl)
    case h1 => rfl
    refine' WG.y rfl rfl (by decide) (Yl.load1 tab_ok rfl rfl rfl (fun _ => rfl) ?r2 rfl ?h2) ?_
    case r2 => (first | exact Rd.blk 0 rfl | exact Rd.blk 1 rfl | exact Rd.blk 2 rfl | exact Rd.blk 3 rfl | exact Rd.blk 4 rfl | exact Rd.blk 5 rfl | exact Rd.blk 6 rfl | exact Rd.blk 7 rfl | exact Rd.blk 8 rfl | exact Rd.blk 9 rfl)
    case h2 => rfl
    refine WL.call en37 rfl rfl (by decide) (CallOp.mkT rfl rfl rfl rfl) (Delay2_C hfc hfa hgl hgb hP100 (by decide) w0 _) ?_
    rintro _ R5 _ hR5 ⟨inf, val, at', ed, rfl, rfl, hv0, hv1, hdel, hsubD5⟩
    refine WL.subE hsubD5 ?_
    have hfa := hfa.mono hR5
    have hgb := hgb.mono hR5
    have hq := hq.mono hR5
    have hdn1 := hdn1.mono hR5
    have ho1 := ho1.mono hR5
    have hrr1 : ∀ r ∈ rows, RS R5 1 encI r.a r.xs := fun r hr => (hrr1 r hr).mono hR5
    refine WG.run tab_ok 3 rfl ?_
    refine WL.ef rfl rfl (by decide) (Ef.alloc tab_ok rfl rfl (fun b12 => ?_))
    first | refine WL.efN rfl rfl (Ef.store0 0 tab_ok rfl rfl rfl rfl rfl rfl rfl rfl ?_) | refine WL.efN rfl rfl (Ef.store0 1 tab_ok rfl rfl rfl rfl rfl rfl rfl rfl ?_) | refine WL.efN rfl rfl (Ef.store0 2 tab_ok rfl rfl rfl rfl rfl rfl rfl rfl ?_) | refine WL.efN rfl rfl (Ef.store0 3 tab_ok rfl rfl rfl rfl rfl rfl rfl rfl ?_) | refine WL.efN rfl rfl (Ef.store0 4 tab_ok rfl rfl rfl rfl rfl rfl rfl rfl ?_) | refine WL.efN rfl rfl (Ef.store0 5 tab_ok rfl rfl rfl rfl rfl rfl rfl rfl ?_) | refine WL.efN rfl rfl (Ef.store0 6 tab_ok rfl rfl rfl rfl rfl rfl rfl rfl ?_) | refine WL.efN rfl rfl (Ef.store0 7 tab_ok rfl rfl rfl rfl rfl rfl rfl rfl ?_) | refine WL.efN rfl rfl (Ef.store0 8 tab_ok rfl rfl rfl rfl rfl rfl rfl rfl ?_) | refine WL.efN rfl rfl (Ef.store0 9 tab_ok rfl rfl rfl rfl rfl rfl rfl rfl ?_)
    refine WG.run tab_ok 1 rfl ?_
    refine WG.nil ?_
    refine WE.nxt ?_
    refine W.seq ?_
    refine W.region _ ?_
    refine' WG.y rfl rfl (by decide) (Yl.load1 tab_ok rfl rfl rfl (fun _ => rfl) ?r3 rfl ?h3) ?_
    case r3 => (first | exact Rd.blk 0 rfl | exact Rd.blk 1 rfl | exact Rd.blk 2 rfl | exact Rd.blk 3 rfl | exact Rd.blk 4 rfl | exact Rd.blk 5 rfl | exact Rd.blk 6 rfl | exact Rd.blk 7 rfl | exact Rd.blk 8 rfl | exact Rd.blk 9 rfl)
    case h3 => rfl
    refine' WG.y rfl rfl (by decide) (Yl.load1 tab_ok rfl rfl rfl (fun _ => rfl) ?r4 rfl ?h4) ?_
    case r4 => (first | exact Rd.blk 0 rfl | exact Rd.blk 1 rfl | exact Rd.blk 2 rfl | exact Rd.blk 3 rfl | exact Rd.blk 4 rfl | exact Rd.blk 5 rfl | exact Rd.blk 6 rfl | exact Rd.blk 7 rfl | exact Rd.blk 8 rfl | exact Rd.blk 9 rfl)
    case h4 => rfl
    refine WL.call en38 rfl rfl (by decide) (CallOp.mkT rfl rfl rfl rfl) (Backlog_C hfc hfa hgl hgb hP100 (by decide) w0 _) ?_
    rintro _ R6 _ hR6 ⟨binf, bval, bat, rfl, hb0, hb1, hbk, hsubD6⟩
    refine WL.subE hsubD6 ?_
    have hfa := hfa.mono hR6
    have hgb := hgb.mono hR6
    have hq := hq.mono hR6
    have hdn1 := hdn1.mono hR6
    have ho1 := ho1.mono hR6
    have hrr1 : ∀ r ∈ rows, RS R6 1 encI r.a r.xs := fun r hr => (hrr1 r hr).mono hR6
    refine WG.run tab_ok 3 rfl ?_
    refine WL.ef rfl rfl (by decide) (Ef.alloc tab_ok rfl rfl (fun b14 => ?_))
    first | refine WL.efN rfl rfl (Ef.store0 0 tab_ok rfl rfl rfl rfl rfl rfl rfl rfl ?_) | refine WL.efN rfl rfl (Ef.store0 1 tab_ok rfl rfl rfl rfl rfl rfl rfl rfl ?_) | refine WL.efN rfl rfl (Ef.store0 2 tab_ok rfl rfl rfl rfl rfl rfl rfl rfl ?_) | refine WL.efN rfl rfl (Ef.store0 3 tab_ok rfl rfl rfl rfl rfl rfl rfl rfl ?_) | refine WL.efN rfl rfl (Ef.store0 4 tab_ok rfl rfl rfl rfl rfl rfl rfl rfl ?_) | refine WL.efN rfl rfl (Ef.store0 5 tab_ok rfl rfl rfl rfl rfl rfl rfl rfl ?_) | refine WL.efN rfl rfl (Ef.store0 6 tab_ok rfl rfl rfl rfl rfl rfl rfl rfl ?_) | refine WL.efN rfl rfl (Ef.store0 7 tab_ok rfl rfl rfl rfl rfl rfl rfl rfl ?_) | refine WL.efN rfl rfl (Ef.store0 8 tab_ok rfl rfl rfl rfl rfl rfl rfl rfl ?_) | refine WL.efN rfl rfl (Ef.store0 9 tab_ok rfl rfl rfl rfl rfl rfl rfl rfl ?_)
    refine WG.run tab_ok 1 rfl ?_
    refine WG.nil ?_
    refine WE.nxt ?_
    refine W.seq ?_
    refine W.region _ ?_
    refine' WG.y rfl rfl (by decide) (Yl.load1 tab_ok rfl rfl rfl (fun _ => rfl) ?r5 rfl ?h5) ?_
    case r5 => (first | exact Rd.blk 0 rfl | exact Rd.blk 1 rfl | exact Rd.blk 2 rfl | exact Rd.blk 3 rfl | exact Rd.blk 4 rfl | exact Rd.blk 5 rfl | exact Rd.blk 6 rfl | exact Rd.blk 7 rfl | exact Rd.blk 8 rfl | exact Rd.blk 9 rfl)
    case h5 => rfl
    refine' WG.y rfl rfl (by decide) (Yl.load1 tab_ok rfl rfl rfl (fun _ => rfl) ?r6 rfl ?h6) ?_
    case r6 => (first | exact Rd.blk 0 rfl | exact Rd.blk 1 rfl | exact Rd.blk 2 rfl | exact Rd.blk 3 rfl | exact Rd.blk 4 rfl | exact Rd.blk 5 rfl | exact Rd.blk 6 rfl | exact Rd.blk 7 rfl | exact Rd.blk 8 rfl | exact Rd.blk 9 rfl)
    case h6 => rfl
    refine WL.call en39 rfl rfl (by decide) (CallOp.mkT rfl rfl rfl rfl) (Peak_C hfc hfa hgl hgb hP100 (by decide) w0 _) ?_
    rintro _ R7 _ hR7 ⟨kinf, kval, kat, rfl, hk0, hk1, hpk, hsubD7⟩
    refine WL.subE hsubD7 ?_
    have hfa := hfa.mono hR7
    have hgb := hgb.mono hR7
    have hq := hq.mono hR7
    have hdn1 := hdn1.mono hR7
    have ho1 := ho1.mono hR7
    have hrr1 : ∀ r ∈ rows, RS R7 1 encI r.a r.xs := fun r hr => (hrr1 r hr).mono hR7
    refine WG.run tab_ok 3 rfl ?_
    refine WL.ef rfl rfl (by decide) (Ef.alloc tab_ok rfl rfl (fun b16 => ?_))
    first | refine WL.efN rfl rfl (Ef.store0 0 tab_ok rfl rfl rfl rfl rfl rfl rfl rfl ?_) | refine WL.efN rfl rfl (Ef.store0 1 tab_ok rfl rfl rfl rfl rfl rfl rfl rfl ?_) | refine WL.efN rfl rfl (Ef.store0 2 tab_ok rfl rfl rfl rfl rfl rfl rfl rfl ?_) | refine WL.efN rfl rfl (Ef.store0 3 tab_ok rfl rfl rfl rfl rfl rfl rfl rfl ?_) | refine WL.efN rfl rfl (Ef.store0 4 tab_ok rfl rfl rfl rfl rfl rfl rfl rfl ?_) | refine WL.efN rfl rfl (Ef.store0 5 tab_ok rfl rfl rfl rfl rfl rfl rfl rfl ?_) | refine WL.efN rfl rfl (Ef.store0 6 tab_ok rfl rfl rfl rfl rfl rfl rfl rfl ?_) | refine WL.efN rfl rfl (Ef.store0 7 tab_ok rfl rfl rfl rfl rfl rfl rfl rfl ?_) | refine WL.efN rfl rfl (Ef.store0 8 tab_ok rfl rfl rfl rfl rfl rfl rfl rfl ?_) | refine WL.efN rfl rfl (Ef.store0 9 tab_ok rfl rfl rfl rfl rfl rfl rfl rfl ?_)
    refine WG.run tab_ok 1 rfl ?_
    refine WG.nil ?_
    refine WE.nxt ?_
    refine W.seq ?_
    have hs3 : s.sent.length = 3 := by rw [← h1, List.length_map, hl1]
    have hdrg : ∀ d ∈ s.done, -1 ≤ d ∧ d < 300 := by rw [hs]; exact done_range _ _ _ _ 300 _
    refine W.seq ?_
    refine W.region _ ?_
    refine WG.run tab_ok 3 rfl ?_
    refine WL.guardT rfl (by first | rfl | decide | simp) ?_
    refine WG.y rfl rfl (by decide) (pureV_ok tab_ok rfl (fun _ => rfl)) ?_
    refine WL.guardT rfl (by first | rfl | decide | simp) ?_
    refine WG.y rfl rfl (by decide) (pureV_ok tab_ok rfl (fun _ => rfl)) ?_
    refine WG.y rfl rfl (by decide) (Yl.por rfl rfl rfl (fun _ => rfl) (by intro h1 h2; first | rfl | exact h2 | (simp [h2]; done) | (clear hbb hkk; simp_all <;> omega) | (simp_all <;> omega))) ?_
    refine WG.run tab_ok 1 rfl ?_
    refine WL.guardT rfl (by first | rfl | decide | simp) ?_
    refine WG.y rfl rfl (by decide) (pureV_ok tab_ok rfl (fun _ => rfl)) ?_
    refine WL.guardT rfl (by first | rfl | decide | simp) ?_
    refine WG.y rfl rfl (by decide) (pureV_ok tab_ok rfl (fun _ => rfl)) ?_
    refine WG.y rfl rfl (by decide) (Yl.por rfl rfl rfl (fun _ => rfl) (by intro h1 h2; first | rfl | exact h2 | (simp [h2]; done) | (clear hbb hkk; simp_all <;> omega) | (simp_all <;> omega))) ?_
    refine WG.run tab_ok 1 rfl ?_
    refine WL.guardT rfl (by first | rfl | decide | simp) ?_
    refine WG.y rfl rfl (by decide) (pureV_ok tab_ok rfl (fun _ => rfl)) ?_
    refine WL.guardT rfl (by first | rfl | decide | simp) ?_
    refine WG.y rfl rfl (by decide) (pureV_ok tab_ok rfl (fun _ => rfl)) ?_
    refine WG.y rfl rfl (by decide) (Yl.por rfl rfl rfl (fun _ => rfl) (by intro h1 h2; first | rfl | exact h2 | (simp [h2]; done) | (clear hbb hkk; simp_all <;> omega) | (simp_all <;> omega))) ?_
    refine WG.run tab_ok 1 rfl ?_
    refine WL.guardT rfl (by first | rfl | decide | simp) ?_
    refine WG.y rfl rfl (by decide) (pureV_ok tab_ok rfl (fun _ => rfl)) ?_
    refine WL.guardT rfl (by first | rfl | decide | simp) ?_
    refine WG.y rfl rfl (by decide) (pureV_ok tab_ok rfl (fun _ => rfl)) ?_
    refine WG.y rfl rfl (by decide) (Yl.por rfl rfl rfl (fun _ => rfl) (by intro h1 h2; first | rfl | exact h2 | (simp [h2]; done) | (clear hbb hkk; simp_all <;> omega) | (simp_all <;> omega))) ?_
    refine WG.run tab_ok 1 rfl ?_
    refine WL.guardT rfl (by first | rfl | decide | simp) ?_
    refine WG.y rfl rfl (by decide) (pureV_ok tab_ok rfl (fun _ => rfl)) ?_
    refine WL.guardT rfl (by first | rfl | decide | simp) ?_
    refine WG.y rfl rfl (by decide) (pureV_ok tab_ok rfl (fun _ => rfl)) ?_
    refine WG.y rfl rfl (by decide) (Yl.por rfl rfl rfl (fun _ => rfl) (by intro h1 h2; first | rfl | exact h2 | (simp [h2]; done) | (clear hbb hkk; simp_all <;> omega) | (simp_all <;> omega))) ?_
    refine WG.run tab_ok 1 rfl ?_
    refine WL.guardT rfl (by first | rfl | decide | simp) ?_
    refine WG.y rfl rfl (by decide) (pureV_ok tab_ok rfl (fun _ => rfl)) ?_
    refine WL.guardT rfl (by first | rfl | decide | simp) ?_
    refine' WG.y rfl rfl (by decide) (Yl.load1 tab_ok rfl rfl rfl (fun _ => rfl) ?r7 rfl ?h7) ?_
    case r7 => (first | exact Rd.blk 0 rfl | exact Rd.blk 1 rfl | exact Rd.blk 2 rfl | exact Rd.blk 3 rfl | exact Rd.blk 4 rfl | exact Rd.blk 5 rfl | exact Rd.blk 6 rfl | exact Rd.blk 7 rfl | exact Rd.blk 8 rfl | exact Rd.blk 9 rfl)
    case h7 => rfl
    refine WL.guardT rfl (by first | rfl | decide | simp) ?_
    refine WG.callV (v := .bool true) en34 rfl rfl (by decide) (CallOp.mk' rfl rfl rfl rfl) (fun _ => rfl) (fun hg => Sound_V (n := 3) (t := 300) ho1 hl1 (by decide) (by decide) (fun r hr => by rw [hx1 r hr]; rfl)) ?_
    refine WL.guardT rfl (by first | rfl | decide | simp) ?_
    refine WG.y rfl rfl (by decide) (pureV_ok tab_ok rfl (fun _ => rfl)) ?_
    refine WG.y rfl rfl (by decide) (Yl.por rfl rfl rfl (fun _ => rfl) (by intro h1 h2; first | rfl | exact h2 | (simp [h2]; done) | (clear hbb hkk; simp_all <;> omega) | (simp_all <;> omega))) ?_
    refine WG.nil ?_
    refine WE.nxt ?_
    refine W.cond rfl (fun hc0 => ?_) (fun hc0 => ?_)
    · try simp only [decide_eq_true_eq, decide_eq_false_iff_not, beq_iff_eq, bne_iff_ne, beq_eq_false_iff_ne, bne_eq_false_iff_eq, ne_eq, Bool.or_eq_true, Bool.or_eq_false_iff, Bool.and_eq_true, Bool.and_eq_false_imp, Bool.not_eq_true, Bool.not_eq_true', Bool.not_eq_false', Classical.not_not, Int.not_lt, Int.not_le, gt_iff_lt, ge_iff_le] at hc0
      first | (simp at hc0; done) | exact absurd hc0 (by decide) | (revert hc0; simp)
    · try simp only [decide_eq_true_eq, decide_eq_false_iff_not, beq_iff_eq, bne_iff_ne, beq_eq_false_iff_ne, bne_eq_false_iff_eq, ne_eq, Bool.or_eq_true, Bool.or_eq_false_iff, Bool.and_eq_true, Bool.and_eq_false_imp, Bool.not_eq_true, Bool.not_eq_true', Bool.not_eq_false', Classical.not_not, Int.not_lt, Int.not_le, gt_iff_lt, ge_iff_le] at hc0
      refine W.skip ?_
      refine WE.nxt ?_
      refine W.seq ?_
      refine W.seq ?_
      refine W.region _ ?_
      refine WG.run tab_ok 3 rfl ?_
      refine WG.nil ?_
      refine WE.nxt ?_
      refine W.block ?_
      refine W.loopK (β := Nat) (fun n => n ≤ qs.length) (fun n => [(105, true, .int .i64 (n : Int))]) [4, 10, 12, 14, 16, 104] [_, _, _, _, _, _] [] _ rfl (fun n => []) (fun n => qs.length - n) (0) (Nat.zero_le _) ⟨rfl, rfl, rfl, rfl, rfl, rfl, rfl, rfl⟩ qS ?_
      intro n hst
      dsimp only [zipE, setAll, List.cons_append, List.nil_append, List.set_cons_zero, List.set_cons_succ] at hst ⊢
      
      refine W.seq ?_
      refine W.region _ ?_
      refine WG.run tab_ok 1 rfl ?_
      refine WG.nil ?_
      refine WE.nxt ?_
      refine W.seq ?_
      refine W.condD rfl (fun hc1 => ?_) (fun hc1 => ?_)
      · try dsimp only at hc1
        have hnl : n < qs.length := by omega
        have hdl := h3.done
        have hdn := hdrg _ (nth_mem (xs := s.done) (k := n) (by omega))
        have hqn := hatq _ (nth_mem hnl)
        refine W.skip ?_
        refine WE.nxt ?_
        refine W.seq ?_
        refine W.block ?_
        refine W.seq ?_
        refine W.region _ ?_
        refine WG.run tab_ok 2 rfl ?_
        refine WG.nil ?_
        refine WE.nxt ?_
        refine W.seq ?_
        refine W.regionQ _ mixed (by kernel_rfl) ?_
        refine WG.run tab_ok 1 rfl ?_
        refine' WG.y rfl rfl (by decide) (Yl.load1 tab_ok rfl rfl rfl (fun _ => rfl) ?r8 rfl ?h8) ?_
        case r8 => apply Rd.add; (first | exact Rd.blk 0 rfl | exact Rd.blk 1 rfl | exact Rd.blk 2 rfl | exact Rd.blk 3 rfl | exact Rd.blk 4 rfl | exact Rd.blk 5 rfl | exact Rd.blk 6 rfl | exact Rd.blk 7 rfl | exact Rd.blk 8 rfl | exact Rd.blk 9 rfl)
        case h8 => rfl
        refine WG.run tab_ok 2 rfl ?_
        refine WG.y rfl rfl (by decide) (pureV_ok tab_ok rfl qE) ?_
        refine WG.y rfl rfl (by decide) (pureV_ok tab_ok rfl qE) ?_
        refine WG.y rfl rfl (by decide) (Yl.indexN tab_ok rfl rfl rfl rfl rfl rfl qE (by intro hg; (try simp only [decide_eq_true_eq, decide_eq_false_iff_not, beq_iff_eq, bne_iff_ne, beq_eq_false_iff_ne, bne_eq_false_iff_eq, ne_eq, Bool.or_eq_true, Bool.or_eq_false_iff, Bool.and_eq_true, Bool.and_eq_false_imp, Bool.not_eq_true, Bool.not_eq_true', Bool.not_eq_false', Classical.not_not, Int.not_lt, Int.not_le, gt_iff_lt, ge_iff_le] at hg); (try dsimp only) <;> omega) (by intro hg; (try simp only [decide_eq_true_eq, decide_eq_false_iff_not, beq_iff_eq, bne_iff_ne, beq_eq_false_iff_ne, bne_eq_false_iff_eq, ne_eq, Bool.or_eq_true, Bool.or_eq_false_iff, Bool.and_eq_true, Bool.and_eq_false_imp, Bool.not_eq_true, Bool.not_eq_true', Bool.not_eq_false', Classical.not_not, Int.not_lt, Int.not_le, gt_iff_lt, ge_iff_le] at hg); first | exact fun _ _ _ _ => rfl | exact RS.has (by assumption) | exact fun _ _ _ _ => (by assumption) | exact HasMem.ownD 0 rfl | exact HasMem.ownD 1 rfl | exact HasMem.ownD 2 rfl | exact HasMem.ownD 3 rfl | exact HasMem.ownD 4 rfl | exact HasMem.ownD 5 rfl | exact HasMem.ownD 6 rfl | exact HasMem.ownD 7 rfl | exact HasMem.ownD 8 rfl | exact HasMem.ownD 9 rfl)) ?_
        refine WG.y rfl rfl (by decide) (pureV_ok tab_ok rfl qE) ?_
        refine' WG.y rfl rfl (by decide) (Yl.loadG tab_ok rfl rfl rfl qE ?r9 rfl ?h9 ?g9) ?_
        case r9 => apply Rd.addC; (first | (apply RS.rdC; assumption) | exact Rd.slC 0 rfl | exact Rd.slC 1 rfl | exact Rd.slC 2 rfl | exact Rd.slC 3 rfl | exact Rd.slC 4 rfl | exact Rd.slC 5 rfl | exact Rd.slC 6 rfl | exact Rd.slC 7 rfl | exact Rd.slC 8 rfl | exact Rd.slC 9 rfl)
        case h9 => rfl
        case g9 => first | exact fun _ => trivial | (intro hg; (try simp only [decide_eq_true_eq, decide_eq_false_iff_not, beq_iff_eq, bne_iff_ne, beq_eq_false_iff_ne, bne_eq_false_iff_eq, ne_eq, Bool.or_eq_true, Bool.or_eq_false_iff, Bool.and_eq_true, Bool.and_eq_false_imp, Bool.not_eq_true, Bool.not_eq_true', Bool.not_eq_false', Classical.not_not, Int.not_lt, Int.not_le, gt_iff_lt, ge_iff_le] at hg); (try dsimp only); omega)
        refine WG.y rfl rfl (by decide) (pureV_ok tab_ok rfl qE) ?_
        refine' WG.y rfl rfl (by decide) (Yl.loadG tab_ok rfl rfl rfl qE ?r10 rfl ?h10 ?g10) ?_
        case r10 => apply Rd.addC; (first | exact Rd.blkC 0 rfl | exact Rd.blkC 1 rfl | exact Rd.blkC 2 rfl | exact Rd.blkC 3 rfl | exact Rd.blkC 4 rfl | exact Rd.blkC 5 rfl | exact Rd.blkC 6 rfl | exact Rd.blkC 7 rfl | exact Rd.blkC 8 rfl | exact Rd.blkC 9 rfl)
        case h10 => rfl
        case g10 => first | exact fun _ => trivial | (intro hg; (try simp only [decide_eq_true_eq, decide_eq_false_iff_not, beq_iff_eq, bne_iff_ne, beq_eq_false_iff_ne, bne_eq_false_iff_eq, ne_eq, Bool.or_eq_true, Bool.or_eq_false_iff, Bool.and_eq_true, Bool.and_eq_false_imp, Bool.not_eq_true, Bool.not_eq_true', Bool.not_eq_false', Classical.not_not, Int.not_lt, Int.not_le, gt_iff_lt, ge_iff_le] at hg); (try dsimp only); omega)
        refine WG.y rfl rfl (by decide) (Yl.add rfl rfl rfl qE (by intro hg; (try simp only [decide_eq_true_eq, decide_eq_false_iff_not, beq_iff_eq, bne_iff_ne, beq_eq_false_iff_ne, bne_eq_false_iff_eq, ne_eq, Bool.or_eq_true, Bool.or_eq_false_iff, Bool.and_eq_true, Bool.and_eq_false_imp, Bool.not_eq_true, Bool.not_eq_true', Bool.not_eq_false', Classical.not_not, Int.not_lt, Int.not_le, gt_iff_lt, ge_iff_le] at hg); constructor <;> (try dsimp only) <;> omega)) ?_
        refine WG.y rfl rfl (by decide) (pureV_ok tab_ok rfl qE) ?_
        refine WG.y rfl rfl (by decide) (Yl.pand rfl rfl rfl (fun _ => rfl) (by intro h1 h2; first | rfl | exact h2 | (simp [h2]; done) | (clear hbb hkk; simp_all <;> omega) | (simp_all <;> omega))) ?_
        refine WG.run tab_ok 1 rfl ?_
        refine WG.y rfl rfl (by decide) (pureV_ok tab_ok rfl qE) ?_
        refine' WG.y rfl rfl (by decide) (Yl.loadG tab_ok rfl rfl rfl qE ?r11 rfl ?h11 ?g11) ?_
        case r11 => apply Rd.addC; (first | exact Rd.blkC 0 rfl | exact Rd.blkC 1 rfl | exact Rd.blkC 2 rfl | exact Rd.blkC 3 rfl | exact Rd.blkC 4 rfl | exact Rd.blkC 5 rfl | exact Rd.blkC 6 rfl | exact Rd.blkC 7 rfl | exact Rd.blkC 8 rfl | exact Rd.blkC 9 rfl)
        case h11 => rfl
        case g11 => first | exact fun _ => trivial | (intro hg; (try simp only [decide_eq_true_eq, decide_eq_false_iff_not, beq_iff_eq, bne_iff_ne, beq_eq_false_iff_ne, bne_eq_false_iff_eq, ne_eq, Bool.or_eq_true, Bool.or_eq_false_iff, Bool.and_eq_true, Bool.and_eq_false_imp, Bool.not_eq_true, Bool.not_eq_true', Bool.not_eq_false', Classical.not_not, Int.not_lt, Int.not_le, gt_iff_lt, ge_iff_le] at hg); (try dsimp only); omega)
        refine WG.y rfl rfl (by decide) (pureV_ok tab_ok rfl qE) ?_
        refine WG.y rfl rfl (by decide) (Yl.indexN tab_ok rfl rfl rfl rfl rfl rfl qE (by intro hg; (try simp only [decide_eq_true_eq, decide_eq_false_iff_not, beq_iff_eq, bne_iff_ne, beq_eq_false_iff_ne, bne_eq_false_iff_eq, ne_eq, Bool.or_eq_true, Bool.or_eq_false_iff, Bool.and_eq_true, Bool.and_eq_false_imp, Bool.not_eq_true, Bool.not_eq_true', Bool.not_eq_false', Classical.not_not, Int.not_lt, Int.not_le, gt_iff_lt, ge_iff_le] at hg); (try dsimp only) <;> omega) (by intro hg; (try simp only [decide_eq_true_eq, decide_eq_false_iff_not, beq_iff_eq, bne_iff_ne, beq_eq_false_iff_ne, bne_eq_false_iff_eq, ne_eq, Bool.or_eq_true, Bool.or_eq_false_iff, Bool.and_eq_true, Bool.and_eq_false_imp, Bool.not_eq_true, Bool.not_eq_true', Bool.not_eq_false', Classical.not_not, Int.not_lt, Int.not_le, gt_iff_lt, ge_iff_le] at hg); first | exact fun _ _ _ _ => rfl | exact RS.has (by assumption) | exact fun _ _ _ _ => (by assumption) | exact HasMem.ownD 0 rfl | exact HasMem.ownD 1 rfl | exact HasMem.ownD 2 rfl | exact HasMem.ownD 3 rfl | exact HasMem.ownD 4 rfl | exact HasMem.ownD 5 rfl | exact HasMem.ownD 6 rfl | exact HasMem.ownD 7 rfl | exact HasMem.ownD 8 rfl | exact HasMem.ownD 9 rfl)) ?_
        refine' WG.y rfl rfl (by decide) (Yl.loadG tab_ok rfl rfl rfl qE ?r12 rfl ?h12 ?g12) ?_
        case r12 => (first | (apply RS.rdC; assumption) | exact Rd.slC 0 rfl | exact Rd.slC 1 rfl | exact Rd.slC 2 rfl | exact Rd.slC 3 rfl | exact Rd.slC 4 rfl | exact Rd.slC 5 rfl | exact Rd.slC 6 rfl | exact Rd.slC 7 rfl | exact Rd.slC 8 rfl | exact Rd.slC 9 rfl)
        case h12 => rfl
        case g12 => first | exact fun _ => trivial | (intro hg; (try simp only [decide_eq_true_eq, decide_eq_false_iff_not, beq_iff_eq, bne_iff_ne, beq_eq_false_iff_ne, bne_eq_false_iff_eq, ne_eq, Bool.or_eq_true, Bool.or_eq_false_iff, Bool.and_eq_true, Bool.and_eq_false_imp, Bool.not_eq_true, Bool.not_eq_true', Bool.not_eq_false', Classical.not_not, Int.not_lt, Int.not_le, gt_iff_lt, ge_iff_le] at hg); (try dsimp only); omega)
        refine WG.y rfl rfl (by decide) (pureV_ok tab_ok rfl qE) ?_
        refine WG.y rfl rfl (by decide) (pureV_ok tab_ok rfl qE) ?_
        refine WG.y rfl rfl (by decide) (pureV_ok tab_ok rfl qE) ?_
        refine' WG.y rfl rfl (by decide) (Yl.loadG tab_ok rfl rfl rfl qE ?r13 rfl ?h13 ?g13) ?_
        case r13 => apply Rd.addC; (first | exact Rd.blkC 0 rfl | exact Rd.blkC 1 rfl | exact Rd.blkC 2 rfl | exact Rd.blkC 3 rfl | exact Rd.blkC 4 rfl | exact Rd.blkC 5 rfl | exact Rd.blkC 6 rfl | exact Rd.blkC 7 rfl | exact Rd.blkC 8 rfl | exact Rd.blkC 9 rfl)
        case h13 => rfl
        case g13 => first | exact fun _ => trivial | (intro hg; (try simp only [decide_eq_true_eq, decide_eq_false_iff_not, beq_iff_eq, bne_iff_ne, beq_eq_false_iff_ne, bne_eq_false_iff_eq, ne_eq, Bool.or_eq_true, Bool.or_eq_false_iff, Bool.and_eq_true, Bool.and_eq_false_imp, Bool.not_eq_true, Bool.not_eq_true', Bool.not_eq_false', Classical.not_not, Int.not_lt, Int.not_le, gt_iff_lt, ge_iff_le] at hg); (try dsimp only); omega)
        refine WG.y rfl rfl (by decide) (pureV_ok tab_ok rfl qE) ?_
        refine WG.y rfl rfl (by decide) (Yl.indexN tab_ok rfl rfl rfl rfl rfl rfl qE (by intro hg; (try simp only [decide_eq_true_eq, decide_eq_false_iff_not, beq_iff_eq, bne_iff_ne, beq_eq_false_iff_ne, bne_eq_false_iff_eq, ne_eq, Bool.or_eq_true, Bool.or_eq_false_iff, Bool.and_eq_true, Bool.and_eq_false_imp, Bool.not_eq_true, Bool.not_eq_true', Bool.not_eq_false', Classical.not_not, Int.not_lt, Int.not_le, gt_iff_lt, ge_iff_le] at hg); (try dsimp only) <;> omega) (by intro hg; (try simp only [decide_eq_true_eq, decide_eq_false_iff_not, beq_iff_eq, bne_iff_ne, beq_eq_false_iff_ne, bne_eq_false_iff_eq, ne_eq, Bool.or_eq_true, Bool.or_eq_false_iff, Bool.and_eq_true, Bool.and_eq_false_imp, Bool.not_eq_true, Bool.not_eq_true', Bool.not_eq_false', Classical.not_not, Int.not_lt, Int.not_le, gt_iff_lt, ge_iff_le] at hg); first | exact fun _ _ _ _ => rfl | exact RS.has (by assumption) | exact fun _ _ _ _ => (by assumption) | exact HasMem.ownD 0 rfl | exact HasMem.ownD 1 rfl | exact HasMem.ownD 2 rfl | exact HasMem.ownD 3 rfl | exact HasMem.ownD 4 rfl | exact HasMem.ownD 5 rfl | exact HasMem.ownD 6 rfl | exact HasMem.ownD 7 rfl | exact HasMem.ownD 8 rfl | exact HasMem.ownD 9 rfl)) ?_
        refine' WG.y rfl rfl (by decide) (Yl.loadG tab_ok rfl rfl rfl qE ?r14 rfl ?h14 ?g14) ?_
        case r14 => (first | (apply RS.rdC; assumption) | exact Rd.slC 0 rfl | exact Rd.slC 1 rfl | exact Rd.slC 2 rfl | exact Rd.slC 3 rfl | exact Rd.slC 4 rfl | exact Rd.slC 5 rfl | exact Rd.slC 6 rfl | exact Rd.slC 7 rfl | exact Rd.slC 8 rfl | exact Rd.slC 9 rfl)
        case h14 => rfl
        case g14 => first | exact fun _ => trivial | (intro hg; (try simp only [decide_eq_true_eq, decide_eq_false_iff_not, beq_iff_eq, bne_iff_ne, beq_eq_false_iff_ne, bne_eq_false_iff_eq, ne_eq, Bool.or_eq_true, Bool.or_eq_false_iff, Bool.and_eq_true, Bool.and_eq_false_imp, Bool.not_eq_true, Bool.not_eq_true', Bool.not_eq_false', Classical.not_not, Int.not_lt, Int.not_le, gt_iff_lt, ge_iff_le] at hg); (try dsimp only); omega)
        refine WG.y rfl rfl (by decide) (pureV_ok tab_ok rfl qE) ?_
        refine WG.y rfl rfl (by decide) (pureV_ok tab_ok rfl qE) ?_
        refine WG.y rfl rfl (by decide) (Yl.indexN tab_ok rfl rfl rfl rfl rfl rfl qE (by intro hg; (try simp only [decide_eq_true_eq, decide_eq_false_iff_not, beq_iff_eq, bne_iff_ne, beq_eq_false_iff_ne, bne_eq_false_iff_eq, ne_eq, Bool.or_eq_true, Bool.or_eq_false_iff, Bool.and_eq_true, Bool.and_eq_false_imp, Bool.not_eq_true, Bool.not_eq_true', Bool.not_eq_false', Classical.not_not, Int.not_lt, Int.not_le, gt_iff_lt, ge_iff_le] at hg); (try dsimp only) <;> omega) (by intro hg; (try simp only [decide_eq_true_eq, decide_eq_false_iff_not, beq_iff_eq, bne_iff_ne, beq_eq_false_iff_ne, bne_eq_false_iff_eq, ne_eq, Bool.or_eq_true, Bool.or_eq_false_iff, Bool.and_eq_true, Bool.and_eq_false_imp, Bool.not_eq_true, Bool.not_eq_true', Bool.not_eq_false', Classical.not_not, Int.not_lt, Int.not_le, gt_iff_lt, ge_iff_le] at hg); first | exact fun _ _ _ _ => rfl | exact RS.has (by assumption) | exact fun _ _ _ _ => (by assumption) | exact HasMem.ownD 0 rfl | exact HasMem.ownD 1 rfl | exact HasMem.ownD 2 rfl | exact HasMem.ownD 3 rfl | exact HasMem.ownD 4 rfl | exact HasMem.ownD 5 rfl | exact HasMem.ownD 6 rfl | exact HasMem.ownD 7 rfl | exact HasMem.ownD 8 rfl | exact HasMem.ownD 9 rfl)) ?_
        refine WG.y rfl rfl (by decide) (pureV_ok tab_ok rfl qE) ?_
        refine' WG.y rfl rfl (by decide) (Yl.loadG tab_ok rfl rfl rfl qE ?r15 rfl ?h15 ?g15) ?_
        case r15 => apply Rd.addC; (first | (apply RS.rdC; assumption) | exact Rd.slC 0 rfl | exact Rd.slC 1 rfl | exact Rd.slC 2 rfl | exact Rd.slC 3 rfl | exact Rd.slC 4 rfl | exact Rd.slC 5 rfl | exact Rd.slC 6 rfl | exact Rd.slC 7 rfl | exact Rd.slC 8 rfl | exact Rd.slC 9 rfl)
        case h15 => rfl
        case g15 => first | exact fun _ => trivial | (intro hg; (try simp only [decide_eq_true_eq, decide_eq_false_iff_not, beq_iff_eq, bne_iff_ne, beq_eq_false_iff_ne, bne_eq_false_iff_eq, ne_eq, Bool.or_eq_true, Bool.or_eq_false_iff, Bool.and_eq_true, Bool.and_eq_false_imp, Bool.not_eq_true, Bool.not_eq_true', Bool.not_eq_false', Classical.not_not, Int.not_lt, Int.not_le, gt_iff_lt, ge_iff_le] at hg); (try dsimp only); omega)
        refine WG.y rfl rfl (by decide) (Yl.sub rfl rfl rfl qE (by intro hg; (try simp only [decide_eq_true_eq, decide_eq_false_iff_not, beq_iff_eq, bne_iff_ne, beq_eq_false_iff_ne, bne_eq_false_iff_eq, ne_eq, Bool.or_eq_true, Bool.or_eq_false_iff, Bool.and_eq_true, Bool.and_eq_false_imp, Bool.not_eq_true, Bool.not_eq_true', Bool.not_eq_false', Classical.not_not, Int.not_lt, Int.not_le, gt_iff_lt, ge_iff_le] at hg); constructor <;> (try dsimp only) <;> omega)) ?_
        refine WG.y rfl rfl (by decide) (pureV_ok tab_ok rfl qE) ?_
        refine' WG.y rfl rfl (by decide) (Yl.loadG tab_ok rfl rfl rfl qE ?r16 rfl ?h16 ?g16) ?_
        case r16 => apply Rd.addC; (first | exact Rd.blkC 0 rfl | exact Rd.blkC 1 rfl | exact Rd.blkC 2 rfl | exact Rd.blkC 3 rfl | exact Rd.blkC 4 rfl | exact Rd.blkC 5 rfl | exact Rd.blkC 6 rfl | exact Rd.blkC 7 rfl | exact Rd.blkC 8 rfl | exact Rd.blkC 9 rfl)
        case h16 => rfl
        case g16 => first | exact fun _ => trivial | (intro hg; (try simp only [decide_eq_true_eq, decide_eq_false_iff_not, beq_iff_eq, bne_iff_ne, beq_eq_false_iff_ne, bne_eq_false_iff_eq, ne_eq, Bool.or_eq_true, Bool.or_eq_false_iff, Bool.and_eq_true, Bool.and_eq_false_imp, Bool.not_eq_true, Bool.not_eq_true', Bool.not_eq_false', Classical.not_not, Int.not_lt, Int.not_le, gt_iff_lt, ge_iff_le] at hg); (try dsimp only); omega)
        refine WG.y rfl rfl (by decide) (pureV_ok tab_ok rfl qE) ?_
        refine WG.y rfl rfl (by decide) (Yl.por rfl rfl rfl qE (by intro h1 h2; first | rfl | exact h2 | (simp [h2]; done) | (clear hbb hkk; simp_all <;> omega) | (simp_all <;> omega))) ?_
        refine WG.y rfl rfl (by decide) (Yl.pand rfl rfl rfl (fun _ => rfl) (by intro h1 h2; first | rfl | exact h2 | (simp [h2]; done) | (clear hbb hkk; simp_all <;> omega) | (simp_all <;> omega))) ?_
        refine WG.nil ?_
        refine WE.nxt ?_
        refine W.cond rfl (fun hc2 => ?_) (fun hc2 => ?_)
        · try simp only [decide_eq_true_eq, decide_eq_false_iff_not, beq_iff_eq, bne_iff_ne, beq_eq_false_iff_ne, bne_eq_false_iff_eq, ne_eq, Bool.or_eq_true, Bool.or_eq_false_iff, Bool.and_eq_true, Bool.and_eq_false_imp, Bool.not_eq_true, Bool.not_eq_true', Bool.not_eq_false', Classical.not_not, Int.not_lt, Int.not_le, gt_iff_lt, ge_iff_le] at hc2
          obtain ⟨⟨q1, q2⟩, q3⟩ := hc2
          have q1 : inf = false := by simpa using q1
          have hw := line_wait hs hsz1 hflq hokq.sorted (fun p hp => (hatq p hp).2.2.1) (by omega) hconf (d := val.toNat) (hdel rfl q1) hnl (by omega)
          omega
        · try simp only [decide_eq_true_eq, decide_eq_false_iff_not, beq_iff_eq, bne_iff_ne, beq_eq_false_iff_ne, bne_eq_false_iff_eq, ne_eq, Bool.or_eq_true, Bool.or_eq_false_iff, Bool.and_eq_true, Bool.and_eq_false_imp, Bool.not_eq_true, Bool.not_eq_true', Bool.not_eq_false', Classical.not_not, Int.not_lt, Int.not_le, gt_iff_lt, ge_iff_le] at hc2
          refine W.skip ?_
          refine WE.blk _ ?_
          refine WE.nxt ?_
          refine W.region _ ?_
          refine WG.y rfl rfl (by decide) (Yl.add rfl rfl rfl (fun _ => rfl) (by intro _; constructor <;> (try dsimp only) <;> omega)) ?_
          refine WG.run tab_ok 1 rfl ?_
          refine WG.nil ?_
          refine WE.again (n + 1) (by omega) (by (try dsimp only); omega) ⟨rfl, rfl, rfl, rfl, rfl, rfl, rfl, rfl⟩ (RLe.refl _) qS
      · try dsimp only at hc1
        refine W.exit ?_
        refine WE.then_exit ?_
        refine WE.then_exit ?_
        refine WE.blk_exit ?_
        refine WE.nxt ?_
        refine W.seq ?_
        refine W.seq ?_
        refine W.region _ ?_
        refine WG.run tab_ok 1 rfl ?_
        refine WG.nil ?_
        refine WE.nxt ?_
        refine W.block ?_
        refine W.loopK (β := Nat) (fun t => t ≤ 301) (fun t => [(19, true, .int .i64 (t : Int))]) [4, 10, 14, 16] [_, _, _, _] [] _ rfl (fun t => []) (fun t => 301 - t) (0) (Nat.zero_le _) ⟨rfl, rfl, rfl, rfl, rfl, rfl⟩ qS ?_
        intro t hst
        dsimp only [zipE, setAll, List.cons_append, List.nil_append, List.set_cons_zero, List.set_cons_succ] at hst ⊢
        
        refine W.seq ?_
        refine W.seq ?_
        refine W.region _ ?_
        refine WG.run tab_ok 2 rfl ?_
        refine WG.nil ?_
        refine WE.nxt ?_
        refine W.condD rfl (fun hc3 => ?_) (fun hc3 => ?_)
        · try dsimp only at hc3
          have htl : t ≤ 300 := by omega
          have hwl := wsum_le (cap := C) (ps := qs) (fun p hp => by have := hatq p hp; omega) t
          have hwb := wsum_bound (cap := C) (ps := qs) (by omega) (fun p hp => by have := hatq p hp; omega) t
          have hpm := pbytes_mono (flow := -1) (show (t : Int) ≤ (t : Int) + 1 by omega) qs (fun p hp => by have := hatq p hp; omega)
          have hpb1 := pbytes_bound (-1) (t : Int) qs (fun p hp => by have := hatq p hp; omega)
          have hpb2 := pbytes_bound (-1) ((t : Int) + 1) qs (fun p hp => by have := hatq p hp; omega)
          have hbb : binf = false → pbytes (-1) (t : Int) qs - wsum C qs t ≤ bval := fun h => back_bound (d := 0) (fun p hp => (hatq p hp).2.2.1) hconf (hbk h) t
          have hkk : kinf = false → pbytes (-1) ((t : Int) + 1) qs - wsum C qs t ≤ kval := fun h => by
            have := back_bound (d := 1) (fun p hp => (hatq p hp).2.2.1) hconf (hpk h) t
            rw [show ((t + 1 : Nat) : Int) = (t : Int) + 1 by omega] at this
            exact this
          refine W.skip ?_
          refine WE.nxt ?_
          refine W.seq ?_
          refine W.block ?_
          refine W.seq ?_
          refine W.region _ ?_
          refine WG.run tab_ok 1 rfl ?_
          refine' WG.y rfl rfl (by decide) (Yl.load1 tab_ok rfl rfl rfl (fun _ => rfl) ?r17 rfl ?h17) ?_
          case r17 => (first | exact Rd.blk 0 rfl | exact Rd.blk 1 rfl | exact Rd.blk 2 rfl | exact Rd.blk 3 rfl | exact Rd.blk 4 rfl | exact Rd.blk 5 rfl | exact Rd.blk 6 rfl | exact Rd.blk 7 rfl | exact Rd.blk 8 rfl | exact Rd.blk 9 rfl)
          case h17 => rfl
          refine WG.run tab_ok 1 rfl ?_
          refine WG.callV (v := .tuple #[.int .i64 (pbytes (-1) (t : Int) qs - wsum C qs t), .int .i64 (pbytes (-1) ((t : Int) + 1) qs - wsum C qs t)]) en40 rfl rfl (by decide) (CallOp.mk' rfl rfl rfl rfl) (fun _ => rfl) (fun hg => by
            have h := Queue_V (cls := -1) (t := (t : Int)) (pc := qc) (oc := 3) (da := some ⟨gd, 0, none⟩) (dl := qs.length) (dc := qs.length) hq ho1 hrr1 (fun p hp => by have := hatq p hp; omega) (by omega) (fun r hr x hx => by have := (h3.rows r.xs (by rw [← h1]; exact List.mem_map_of_mem hr)).2 x hx; omega) (by omega) (by omega)
            rw [h1, queue_line hs hsz1 hflq hokq.sorted (by omega) (fun l hl => (h3.rows l hl).1) hs3 (by omega), hl1] at h
            exact h) ?_
          refine WG.run tab_ok 5 rfl ?_
          refine WG.nil ?_
          refine WE.nxt ?_
          refine W.seq ?_
          refine W.region _ ?_
          refine WG.run tab_ok 1 rfl ?_
          refine' WG.y rfl rfl (by decide) (Yl.load1 tab_ok rfl rfl rfl (fun _ => rfl) ?r18 rfl ?h18) ?_
          case r18 => apply Rd.add; (first | exact Rd.blk 0 rfl | exact Rd.blk 1 rfl | exact Rd.blk 2 rfl | exact Rd.blk 3 rfl | exact Rd.blk 4 rfl | exact Rd.blk 5 rfl | exact Rd.blk 6 rfl | exact Rd.blk 7 rfl | exact Rd.blk 8 rfl | exact Rd.blk 9 rfl)
          case h18 => rfl
          refine WG.run tab_ok 2 rfl ?_
          refine WG.y rfl rfl (by decide) (pureV_ok tab_ok rfl qE) ?_
          refine WG.y rfl rfl (by decide) (pureV_ok tab_ok rfl qE) ?_
          refine' WG.y rfl rfl (by decide) (Yl.loadG tab_ok rfl rfl rfl qE ?r19 rfl ?h19 ?g19) ?_
          case r19 => apply Rd.addC; (first | exact Rd.blkC 0 rfl | exact Rd.blkC 1 rfl | exact Rd.blkC 2 rfl | exact Rd.blkC 3 rfl | exact Rd.blkC 4 rfl | exact Rd.blkC 5 rfl | exact Rd.blkC 6 rfl | exact Rd.blkC 7 rfl | exact Rd.blkC 8 rfl | exact Rd.blkC 9 rfl)
          case h19 => rfl
          case g19 => first | exact fun _ => trivial | (intro hg; (try simp only [decide_eq_true_eq, decide_eq_false_iff_not, beq_iff_eq, bne_iff_ne, beq_eq_false_iff_ne, bne_eq_false_iff_eq, ne_eq, Bool.or_eq_true, Bool.or_eq_false_iff, Bool.and_eq_true, Bool.and_eq_false_imp, Bool.not_eq_true, Bool.not_eq_true', Bool.not_eq_false', Classical.not_not, Int.not_lt, Int.not_le, gt_iff_lt, ge_iff_le] at hg); (try dsimp only); omega)
          refine WG.y rfl rfl (by decide) (pureV_ok tab_ok rfl qE) ?_
          refine WG.y rfl rfl (by decide) (Yl.pand rfl rfl rfl (fun _ => rfl) (by intro h1 h2; first | rfl | exact h2 | (simp [h2]; done) | (clear hbb hkk; simp_all <;> omega) | (simp_all <;> omega))) ?_
          refine WG.run tab_ok 1 rfl ?_
          refine WG.y rfl rfl (by decide) (pureV_ok tab_ok rfl qE) ?_
          refine' WG.y rfl rfl (by decide) (Yl.loadG tab_ok rfl rfl rfl qE ?r20 rfl ?h20 ?g20) ?_
          case r20 => apply Rd.addC; (first | exact Rd.blkC 0 rfl | exact Rd.blkC 1 rfl | exact Rd.blkC 2 rfl | exact Rd.blkC 3 rfl | exact Rd.blkC 4 rfl | exact Rd.blkC 5 rfl | exact Rd.blkC 6 rfl | exact Rd.blkC 7 rfl | exact Rd.blkC 8 rfl | exact Rd.blkC 9 rfl)
          case h20 => rfl
          case g20 => first | exact fun _ => trivial | (intro hg; (try simp only [decide_eq_true_eq, decide_eq_false_iff_not, beq_iff_eq, bne_iff_ne, beq_eq_false_iff_ne, bne_eq_false_iff_eq, ne_eq, Bool.or_eq_true, Bool.or_eq_false_iff, Bool.and_eq_true, Bool.and_eq_false_imp, Bool.not_eq_true, Bool.not_eq_true', Bool.not_eq_false', Classical.not_not, Int.not_lt, Int.not_le, gt_iff_lt, ge_iff_le] at hg); (try dsimp only); omega)
          refine WG.y rfl rfl (by decide) (pureV_ok tab_ok rfl qE) ?_
          refine WG.y rfl rfl (by decide) (pureV_ok tab_ok rfl qE) ?_
          refine WG.y rfl rfl (by decide) (pureV_ok tab_ok rfl qE) ?_
          refine WG.y rfl rfl (by decide) (pureV_ok tab_ok rfl qE) ?_
          refine' WG.y rfl rfl (by decide) (Yl.loadG tab_ok rfl rfl rfl qE ?r21 rfl ?h21 ?g21) ?_
          case r21 => apply Rd.addC; (first | exact Rd.blkC 0 rfl | exact Rd.blkC 1 rfl | exact Rd.blkC 2 rfl | exact Rd.blkC 3 rfl | exact Rd.blkC 4 rfl | exact Rd.blkC 5 rfl | exact Rd.blkC 6 rfl | exact Rd.blkC 7 rfl | exact Rd.blkC 8 rfl | exact Rd.blkC 9 rfl)
          case h21 => rfl
          case g21 => first | exact fun _ => trivial | (intro hg; (try simp only [decide_eq_true_eq, decide_eq_false_iff_not, beq_iff_eq, bne_iff_ne, beq_eq_false_iff_ne, bne_eq_false_iff_eq, ne_eq, Bool.or_eq_true, Bool.or_eq_false_iff, Bool.and_eq_true, Bool.and_eq_false_imp, Bool.not_eq_true, Bool.not_eq_true', Bool.not_eq_false', Classical.not_not, Int.not_lt, Int.not_le, gt_iff_lt, ge_iff_le] at hg); (try dsimp only); omega)
          refine WG.y rfl rfl (by decide) (pureV_ok tab_ok rfl qE) ?_
          refine WG.y rfl rfl (by decide) (Yl.pand rfl rfl rfl qE (by intro h1 h2; first | rfl | exact h2 | (simp [h2]; done) | (clear hbb hkk; simp_all <;> omega) | (simp_all <;> omega))) ?_
          refine WG.y rfl rfl (by decide) (Yl.por rfl rfl rfl (fun _ => rfl) (by intro h1 h2; first | rfl | exact h2 | (simp [h2]; done) | (clear hbb hkk; simp_all <;> omega) | (simp_all <;> omega))) ?_
          refine WG.run tab_ok 1 rfl ?_
          refine WG.y rfl rfl (by decide) (pureV_ok tab_ok rfl qE) ?_
          refine WG.y rfl rfl (by decide) (pureV_ok tab_ok rfl qE) ?_
          refine WG.y rfl rfl (by decide) (Yl.por rfl rfl rfl (fun _ => rfl) (by intro h1 h2; first | rfl | exact h2 | (simp [h2]; done) | (clear hbb hkk; simp_all <;> omega) | (simp_all <;> omega))) ?_
          refine WG.run tab_ok 1 rfl ?_
          refine WG.y rfl rfl (by decide) (pureV_ok tab_ok rfl qE) ?_
          refine WG.y rfl rfl (by decide) (pureV_ok tab_ok rfl qE) ?_
          refine WG.y rfl rfl (by decide) (pureV_ok tab_ok rfl qE) ?_
          refine WG.y rfl rfl (by decide) (Yl.por rfl rfl rfl (fun _ => rfl) (by intro h1 h2; first | rfl | exact h2 | (simp [h2]; done) | (clear hbb hkk; simp_all <;> omega) | (simp_all <;> omega))) ?_
          refine WG.nil ?_
          refine WE.nxt ?_
          refine W.cond rfl (fun hc4 => ?_) (fun hc4 => ?_)
          · try simp only [decide_eq_true_eq, decide_eq_false_iff_not, beq_iff_eq, bne_iff_ne, beq_eq_false_iff_ne, bne_eq_false_iff_eq, ne_eq, Bool.or_eq_true, Bool.or_eq_false_iff, Bool.and_eq_true, Bool.and_eq_false_imp, Bool.not_eq_true, Bool.not_eq_true', Bool.not_eq_false', Classical.not_not, Int.not_lt, Int.not_le, gt_iff_lt, ge_iff_le] at hc4
            rcases hc4 with ((⟨q1, q2⟩ | ⟨q1, q2⟩) | q2) | q2
            · have := hbb (by simpa using q1); omega
            · have := hkk (by simpa using q1); omega
            · omega
            · omega
          · try simp only [decide_eq_true_eq, decide_eq_false_iff_not, beq_iff_eq, bne_iff_ne, beq_eq_false_iff_ne, bne_eq_false_iff_eq, ne_eq, Bool.or_eq_true, Bool.or_eq_false_iff, Bool.and_eq_true, Bool.and_eq_false_imp, Bool.not_eq_true, Bool.not_eq_true', Bool.not_eq_false', Classical.not_not, Int.not_lt, Int.not_le, gt_iff_lt, ge_iff_le] at hc4
            refine W.skip ?_
            refine WE.blk _ ?_
            refine WE.nxt ?_
            refine W.region _ ?_
            refine WG.run tab_ok 1 rfl ?_
            refine WG.y rfl rfl (by decide) (Yl.add rfl rfl rfl (fun _ => rfl) (by intro _; constructor <;> (try dsimp only) <;> omega)) ?_
            refine WG.run tab_ok 1 rfl ?_
            refine WG.nil ?_
            refine WE.again (t + 1) (by omega) (by (try dsimp only); omega) ⟨rfl, rfl, rfl, rfl, rfl, rfl⟩ (RLe.refl _) qS
        · try dsimp only at hc3
          refine W.exit ?_
          refine WE.then_exit ?_
          refine WE.then_exit ?_
          refine WE.blk_exit ?_
          refine WE.nxt ?_
          refine W.seq ?_
          refine W.region _ ?_
          refine WL.call en41 rfl rfl (by decide) (CallOp.mkT rfl rfl rfl rfl) (Awake_C w0 _) ?_
          rintro _ R8 E9 hR8 ⟨rfl, hsub9⟩
          refine WL.subE hsub9 ?_
          refine WG.run tab_ok 1 rfl ?_
          refine WG.nil ?_
          refine WE.nxt ?_
          refine W.ret ?_
          refine WE.retF tab_ok [_] rfl ⟨rfl, trivial⟩ (hR1.trans (hRLk.trans (hR3.trans (hR4a.trans (hR4b.trans (hR4.trans (hR5.trans (hR6.trans (hR7.trans hR8))))))))) ?_
          exact rfl
  ·
    refine W.seq ?_
    refine W.region _ ?_
    refine WG.run tab_ok 1 rfl ?_
    refine WL.callAt 1 en12 rfl rfl (by decide) (CallOp.mkT rfl rfl rfl rfl) rfl (N_C w0 hz (by constructor <;> decide) _) ?_
    rintro _ _ _ _ - ⟨rfl, rfl, rfl, rfl⟩
    refine WG.run tab_ok 1 rfl ?_
    refine WG.nil ?_
    refine WE.nxt ?_
    refine W.condE rfl (fun hc5 => ?_) (fun hc5 => ?_)
    · try dsimp only at hc5
      refine W.seq ?_
      refine W.region _ ?_
      refine WG.run tab_ok 1 rfl ?_
      refine WL.callAt 1 en11 rfl rfl (by decide) (CallOp.mkT rfl rfl rfl rfl) rfl (Zero_C w0 hz (most := 6) (by decide) _) ?_
      rintro _ RZ _ _ hRZ ⟨fz4, kz4, n4, v4, rfl, hzv4, hsm4, hfn4, hz04, hcp4, rfl, rfl⟩
      have hp := hp.mono hRZ
      have hz := hz.mono hRZ
      obtain ⟨S4, P4, he4, hl4, hper4, hfc4, _⟩ := (valid_cases hsm4.valid).resolve_right (fun ⟨_, _, _, _, _, _, _, h⟩ => by rw [hfn4] at h; cases h)
      have hpl4 := hsm4.per
      generalize hF4 : cvF v4 = F4 at he4 hfc4
      generalize v4.inc = I4 at he4 hfc4
      subst he4
      first | refine WL.efN rfl rfl (Ef.store0 0 tab_ok rfl rfl rfl rfl rfl rfl rfl rfl ?_) | refine WL.efN rfl rfl (Ef.store0 1 tab_ok rfl rfl rfl rfl rfl rfl rfl rfl ?_) | refine WL.efN rfl rfl (Ef.store0 2 tab_ok rfl rfl rfl rfl rfl rfl rfl rfl ?_) | refine WL.efN rfl rfl (Ef.store0 3 tab_ok rfl rfl rfl rfl rfl rfl rfl rfl ?_) | refine WL.efN rfl rfl (Ef.store0 4 tab_ok rfl rfl rfl rfl rfl rfl rfl rfl ?_) | refine WL.efN rfl rfl (Ef.store0 5 tab_ok rfl rfl rfl rfl rfl rfl rfl rfl ?_) | refine WL.efN rfl rfl (Ef.store0 6 tab_ok rfl rfl rfl rfl rfl rfl rfl rfl ?_) | refine WL.efN rfl rfl (Ef.store0 7 tab_ok rfl rfl rfl rfl rfl rfl rfl rfl ?_) | refine WL.efN rfl rfl (Ef.store0 8 tab_ok rfl rfl rfl rfl rfl rfl rfl rfl ?_) | refine WL.efN rfl rfl (Ef.store0 9 tab_ok rfl rfl rfl rfl rfl rfl rfl rfl ?_)
      refine WG.nil ?_
      refine WE.nxt ?_
      refine W.region _ ?_
      refine WG.run tab_ok 1 rfl ?_
      refine' WG.y rfl rfl (by decide) (Yl.load1 tab_ok rfl rfl rfl (fun _ => rfl) ?r22 rfl ?h22) ?_
      case r22 => (first | exact Rd.blk 0 rfl | exact Rd.blk 1 rfl | exact Rd.blk 2 rfl | exact Rd.blk 3 rfl | exact Rd.blk 4 rfl | exact Rd.blk 5 rfl | exact Rd.blk 6 rfl | exact Rd.blk 7 rfl | exact Rd.blk 8 rfl | exact Rd.blk 9 rfl)
      case h22 => rfl
      refine WL.call en36 rfl rfl (by decide) (CallOp.mkT rfl rfl rfl rfl) (Police_C hp hok (fun p hp => by have := hat p hp; omega) hfc4 hzv4 w0 _) ?_
      rintro _ _ E6 - ⟨qa4, qc4, la4, ln4, lc4, rfl, rfl, hsub6⟩
      refine WL.subE hsub6 ?_
      refine WL.freeze (enc := encP) (xs := polL F4 (traffic (xs.take 2000) 12 3 40 0) []) 0 rfl ?_
      intro RP hRP hq4
      have hzv4 := hzv4.mono hRP
      refine WG.run tab_ok 5 rfl ?_
      refine WG.nil ?_
      refine WE.cut (RP, polL F4 (traffic (xs.take 2000) 12 3 40 0) [], qa4, qc4, F4, S4, P4, I4, fz4, kz4) ⟨hRL.trans (hRZ.trans hRP), hq4, by have := pol_sub F4 (traffic (xs.take 2000) 12 3 40 0) []; rw [List.nil_append] at this; exact this, hfc4, by (try dsimp only); omega, hzv4, pol_conf hfc4.hm _ _ (by rw [List.nil_append]; exact hok.sorted) (by rw [List.nil_append]; exact fun p hp => (hat p hp).2.2.1) (conf_nil hfc4.nonneg)⟩ ⟨rfl, rfl, rfl, rfl, rfl⟩ (RLe.refl _) qS
    · try dsimp only at hc5
      refine W.skip ?_
      refine WE.cut (RL, (traffic (xs.take 2000) 12 3 40 0), a2, c2, F0, S0, P0, I0, fa0, fc0) ⟨hRL, hp, List.Sublist.refl _, hfc0, by (try dsimp only); omega, hfa0, hkeep0⟩ ⟨rfl, rfl, rfl, rfl, rfl⟩ (RLe.refl _) qS

end Go.Proofs.Ytolmmfphdieilaa

/- LineBounds: for every list of numbers the law returns true, and the list reads afterwards as it read before. No condition. -/
namespace Go.Proofs.Ytolmmfphdieilaa
open Go Go.RowKit Go.ChangeShapes Go.WideShapes Go.ChangeAt Go.WideElems Go.Maps Go.Proofs.Ytolmmfphdieilaa.K
namespace lineBounds
theorem law : LawI Try.prog 6 := fun ha hc w0 => LineBounds_F ha hc w0
theorem own : ownKnob Try.prog.godebug = none := by kernel_rfl
theorem laidOut : laidOutB Try.prog = true := by kernel_rfl
theorem cellsI : Try.prog.cellsOf 3 = 1 := by kernel_rfl
set_option maxRecDepth 100000 in
theorem lifted (os : Os) (started : os.Started) (H : Type) (enc : TypeId × Value → H) :
    ReturnsInHanded {} Try.checked os 6 .any (Rows.lineBoundsSpec.pre6 enc Try.prog Try.f6 Rows.lineBoundsRow.domain false) (Rows.lineBoundsSpec.post enc Try.prog Try.f6 false true false false) := by
  refine returnsInHanded_of_change (C := Try.checked) own started (by kernel_rfl) Try.func6
    (ChangeSpec.witness6 (enc := enc) (C := Try.checked) false ⟨#[], #[.slice none 0 0], []⟩ 8 (by kernel_rfl) (by kernel_rfl) (by kernel_rfl) (by kernel_rfl)) ?_
  intro W base args ds gs before hval0 hW _ _
  have hval : ∀ (j : Nat) t v, Try.f6.params[j]? = some t → args[j]? = some v → Value.okWide Try.prog W .any base t v := hval0
  have hW' := hW
  obtain ⟨p, q, hA0, hV, rfl, _, _⟩ := hW
  have hA : DataW.TrodAll enc Try.prog W 0 (fun _ => true) true Try.f6.params.toList args.toList ds p := hA0
  rw [Try.params6] at hA hval
  obtain ⟨v0, d0, rfl, rfl, h0⟩ := trodAll_one hA
  obtain ⟨rfl, rfl⟩ := trodVars_none hV
  have h0k := h0
  obtain ⟨fuel, hf⟩ := h0
  clear hA0 hval0
  simp only [List.append_nil] at hW'
  have hlt : ∀ x ∈ p, x.block < W.heap.size := fun x hx => by simpa using hW'.lt x hx
  have hargs : ∀ W', Below W.heap.size W W' → DataW.Trod enc Try.prog W' 0 (fun b => decide (b < W.heap.size)) true 22 v0 d0 p := fun W' hb =>
    Below.trod laidOut (by kernel_rfl) (of_decide_eq_true (by kernel_rfl)) h0k hb hlt
  obtain ⟨a0, len, cap, rfl⟩ := okWide_slice Try.underlying22 (hval 0 22 v0 rfl rfl)
  rcases open_ints Try.underlying22 Try.underlying3 cellsI hf with ⟨hcs, hx⟩ | ⟨a, len', cap', zs, hcs, _, hl, hm, hz, hx, hcell, hwz⟩
  · simp [Value.cells] at hcs
    obtain ⟨rfl, rfl, rfl⟩ := hcs
    simp only [Prod.mk.injEq] at hx
    obtain ⟨rfl, rfl⟩ := hx
    refine (law.nil W).mono fun e W' ⟨he, hb⟩ => ?_
    subst he
    exact ⟨_, rfl, ⟨_, _, _, [], _, [], hW', trodAll_mk1 (shut_bool Try.underlying4 _), trodAll_mk1 (hargs W' hb), rfl, hb.frame _, fun h => by cases h⟩⟩
  · simp [Value.cells] at hcs
    obtain ⟨rfl, rfl, rfl⟩ := hcs
    simp only [Prod.mk.injEq] at hx
    obtain ⟨rfl, rfl⟩ := hx
    simp only [if_true] at hz
    refine (law.some (len := len) hcell (by rw [hz]; simp only [maxLen] at hm; omega) hz hl).mono fun e W' ⟨he, hb⟩ => ?_
    subst he
    exact ⟨_, rfl, ⟨_, _, _, [], _, [], hW', trodAll_mk1 (shut_bool Try.underlying4 _), trodAll_mk1 (hargs W' hb), rfl, hb.frame _, fun h => by cases h⟩⟩
end lineBounds
theorem lineBounds_holds : Rows.LineBoundsSaid :=
  OpenClaim.holds_of_wide 6 Try.f6 rfl rfl rfl rfl rfl rfl rfl ⟨rfl, rfl, rfl, rfl, rfl⟩ rfl rfl rfl rfl rfl (by kernel_rfl) Try.func6 (by kernel_rfl)
    (of_decide_eq_true (by kernel_rfl)) (by unfold Func.isWrapper; first | (rw [if_pos (by decide +kernel)]; kernel_rfl) | (rw [if_neg (by decide +kernel)]; exact ⟨rfl, rfl⟩))
    (fun os started H enc _ => lineBounds.lifted os started H enc)
end Go.Proofs.Ytolmmfphdieilaa
