/- PriorityMonotone: for every list of numbers the law returns true, and the list reads afterwards as it read before. No condition. -/
import Derived.Test.YtolmmfphdieilaaG6
/- A small finite curve that a statement makes, 0 at the tick 0. No condition. -/
set_option linter.unusedSimpArgs false
set_option linter.unusedVariables false
namespace Go.Proofs.Ytolmmfphdieilaa
open Go Go.RowKit Go.Proofs.Ytolmmfphdieilaa.K Go.Proofs.Ytolmmfphdieilaa.M

theorem Zero_C {R : Ro} {b : Nat} {a : Option Addr} {cp : Nat} {xs : List Int} {c : Nat} (w0 : World) (ha : RS R 1 encI a xs) {most : Nat} (hmo : 1 ≤ most ∧ most ≤ 20) : FnAt Try.prog 11 [.pointer (some ⟨b, 0, none⟩), .int .i64 (most : Int)] w0 R (srcE b a cp xs c) (fun v R' e' N => ∃ (f : Option Addr) (fc cn : Nat) (cv : Cv), v = .agg #[.slice f cv.vals.length fc, .int .i64 cv.per, .int .i64 cv.inc] ∧ RS R' 1 encI f cv.vals ∧ SmallC cv ∧ finB cv = true ∧ nth cv.vals 0 = 0 ∧ cv.vals.length ≤ fc ∧ e' = srcE b a cp xs cn ∧ N = []) := by
  intro F
  refine Fn.enter (n := 58) Try.func11 rfl rfl (Nat.le_of_ble_eq_true rfl) rfl ?_
  refine W.seq ?_
  refine W.region _ ?_
  refine WL.ef rfl rfl (by decide) (Ef.alloc tab_ok rfl rfl (fun b4 => ?_))
  refine WG.nil ?_
  refine WE.nxt ?_
  refine W.seq ?_
  refine W.region _ ?_
  refine WG.run tab_ok 2 rfl ?_
  refine WL.callAt 1 en24 rfl rfl (by decide) (CallOp.mkT rfl rfl rfl rfl) rfl (KCurve_C w0 ha hmo _) ?_
  rintro _ RC _ _ hRC ⟨fa, fc, c1, cv, rfl, hfa, hsc, hcc, rfl, rfl⟩
  have ha := ha.mono hRC
  refine WL.ef rfl rfl (by decide) (Ef.alloc tab_ok rfl rfl (fun b5 => ?_))
  refine WL.efN rfl rfl (Ef.store0 0 tab_ok rfl rfl rfl rfl rfl rfl rfl rfl ?_)
  refine WG.nil ?_
  refine WE.nxt ?_
  refine W.seq ?_
  refine W.block ?_
  refine W.loopR (β := Cv × Option Addr × Nat × Nat × Ro) (fun (ck, fk, gk, cn, Rk) => RLe RC Rk ∧ RS Rk 1 encI fk ck.vals ∧ SmallC ck ∧ ck.vals.length ≤ gk) (fun (ck, fk, gk, cn, Rk) => []) [0, 4, 5] [_, _, _] [] _ rfl (fun (ck, fk, gk, cn, Rk) => [(0, .blk b5 [.slice fk ck.vals.length gk, .int .i64 ck.per, .int .i64 ck.inc]), (2, srcE b a cp xs cn)]) (fun (ck, fk, gk, cn, Rk) => Rk) (fun (ck, fk, gk, cn, Rk) => (if finB ck = true then 0 else 1)) ((cv, fa, fc, c1, RC)) (⟨RLe.refl _, hfa, hsc, hcc⟩) ⟨rfl, rfl, rfl, rfl⟩ (RLe.refl _) qS ?_
  intro zz hst
  obtain ⟨ck, fk, gk, cn, Rk⟩ := zz
  dsimp only [zipE, setAll, List.cons_append, List.nil_append, List.set_cons_zero, List.set_cons_succ] at hst ⊢
  obtain ⟨hRk, hfk, hsk, hgk⟩ := hst
  have ha := ha.mono hRk
  have hvr := valid_range hsk.valid
  refine W.seq ?_
  refine W.seq ?_
  refine W.region _ ?_
  refine WG.run tab_ok 1 rfl ?_
  refine' WG.y rfl rfl (by decide) (Yl.load1 tab_ok rfl rfl rfl (fun _ => rfl) ?r1 rfl ?h1) ?_
  case r1 => apply Rd.add; (exact Rd.blk 0 rfl)
  case h1 => rfl
  refine WG.run tab_ok 1 rfl ?_
  refine' WG.y rfl rfl (by decide) (Yl.load1 tab_ok rfl rfl rfl (fun _ => rfl) ?r2 rfl ?h2) ?_
  case r2 => apply Rd.add; (exact Rd.blk 0 rfl)
  case h2 => rfl
  refine WG.run tab_ok 1 rfl ?_
  refine WG.y rfl rfl (by decide) (Yl.sub rfl rfl rfl (fun _ => rfl) (by intro _; constructor <;> (try dsimp only) <;> omega)) ?_
  refine WG.y rfl rfl (by decide) (Yl.index tab_ok rfl rfl rfl rfl rfl rfl (fun _ => rfl) (by intro _; constructor <;> (try dsimp only) <;> omega) (by intro _; first | exact fun _ _ _ _ => ha40 (by omega) | exact fun _ _ _ _ => rfl | exact RS.has (by assumption) | exact fun _ _ _ _ => (by assumption) | exact HasMem.ownD 0 rfl | exact HasMem.ownD 1 rfl | exact HasMem.ownD 2 rfl | exact HasMem.ownD 3 rfl | exact HasMem.ownD 4 rfl | exact HasMem.ownD 5 rfl)) ?_
  refine' WG.y rfl rfl (by decide) (Yl.load1 tab_ok rfl rfl rfl (fun _ => rfl) ?r3 rfl ?h3) ?_
  case r3 => ((apply RS.rdD; assumption; ((try dsimp only) <;> omega)))
  case h3 => rfl
  refine WG.run tab_ok 1 rfl ?_
  refine WG.nil ?_
  refine WE.nxt ?_
  refine W.condE rfl (fun hc0 => ?_) (fun hc0 => ?_)
  · try dsimp only at hc0
    have hfF : finB ck = false := by unfold finB; rw [bne_eq_false_iff_eq, show ck.vals.length - 1 = ((ck.vals.length : Int) - 1).toNat by omega]; exact hc0
    refine W.skip ?_
    refine WE.nxt ?_
    refine W.block ?_
    refine W.region _ ?_
    refine WG.run tab_ok 1 rfl ?_
    refine WL.callAt 2 en12 rfl rfl (by decide) (CallOp.mkT rfl rfl rfl rfl) rfl (N_C w0 ha (by constructor <;> omega) _) ?_
    rintro _ _ _ _ - ⟨rfl, rfl, rfl, rfl⟩
    have hq1 := mod_range (nth xs cn) (show (1 : Int) ≤ 5 by decide)
    refine WG.y rfl rfl (by decide) (Yl.add rfl rfl rfl (fun _ => rfl) (by intro _; constructor <;> (try dsimp only) <;> omega)) ?_
    refine WL.ef rfl rfl (by decide) (Ef.buildSliceD (enc := encI) (parts := [.const (.int .i64 0), .const (.int .i64 4), .tmp 22]) [_, _, _] tab_ok rfl rfl rfl rfl rfl rfl rfl rfl (by decide) (by decide) (fun a23 => ?_))
    refine WG.run tab_ok 1 rfl ?_
    refine WL.callAt 3 en12 rfl rfl (by decide) (CallOp.mkT rfl rfl rfl rfl) rfl (N_C w0 ha (by constructor <;> omega) _) ?_
    rintro _ _ _ _ - ⟨rfl, rfl, rfl, rfl⟩
    have hq2 := mod_range (nth xs (cn + 1)) (show (1 : Int) ≤ 2 by decide)
    refine WG.y rfl rfl (by decide) (Yl.add rfl rfl rfl (fun _ => rfl) (by intro _; constructor <;> (try dsimp only) <;> omega)) ?_
    -- build
    refine WG.y rfl rfl (by decide) (Yl.build (parts := [(0, .tmp 23), (1, .tmp 26), (2, .const (.int .i64 8))]) tab_ok rfl rfl rfl rfl (fun _ => rfl) rfl rfl) ?_
    refine WL.efN rfl rfl (Ef.store0 1 tab_ok rfl rfl rfl rfl rfl rfl rfl rfl ?_)
    refine WL.freeze (enc := encI) (xs := [0, 4, 4 + mod (nth xs cn) 5]) 0 rfl ?_
    intro R1 hR1 hfz
    refine WG.nil ?_
    refine WE.blk _ ?_
    refine WE.again ((⟨[0, 4, 4 + mod (nth xs cn) 5], 1 + mod (nth xs (cn + 1)) 2, 8⟩, some ⟨a23, 0, none⟩, 3, cn + 1 + 1, R1)) (⟨hRk.trans hR1, hfz, (small_lit hq1 hq2).1, Nat.le_refl _⟩) (by dsimp only; rw [hfF, (small_lit hq1 hq2).2]; decide) ⟨rfl, rfl, rfl, rfl⟩ (RLe.refl _) qS
  · try dsimp only at hc0
    have hfT : finB ck = true := by unfold finB; rw [bne_iff_ne, show ck.vals.length - 1 = ((ck.vals.length : Int) - 1).toNat by omega]; exact hc0
    refine W.exit ?_
    refine WE.then_exit ?_
    refine WE.then_exit ?_
    refine WE.blk_exit ?_
    refine WE.nxt ?_
    refine W.seq ?_
    refine W.seq ?_
    refine W.region _ ?_
    refine WG.run tab_ok 1 rfl ?_
    refine' WG.y rfl rfl (by decide) (Yl.load1 tab_ok rfl rfl rfl (fun _ => rfl) ?r4 rfl ?h4) ?_
    case r4 => apply Rd.add; (exact Rd.blk 0 rfl)
    case h4 => rfl
    refine WG.y rfl rfl (by decide) (Yl.indexN tab_ok rfl rfl rfl rfl rfl rfl (fun _ => rfl) (by intro _; (try dsimp only) <;> omega) (by intro _; first | exact fun _ _ _ _ => ha40 (by omega) | exact fun _ _ _ _ => rfl | exact RS.has (by assumption) | exact fun _ _ _ _ => (by assumption) | exact HasMem.ownD 0 rfl | exact HasMem.ownD 1 rfl | exact HasMem.ownD 2 rfl | exact HasMem.ownD 3 rfl | exact HasMem.ownD 4 rfl | exact HasMem.ownD 5 rfl)) ?_
    refine' WG.y rfl rfl (by decide) (Yl.load1 tab_ok rfl rfl rfl (fun _ => rfl) ?r5 rfl ?h5) ?_
    case r5 => ((apply RS.rdD; assumption; ((try dsimp only) <;> omega)))
    case h5 => rfl
    refine WG.run tab_ok 1 rfl ?_
    refine WG.nil ?_
    refine WE.nxt ?_
    refine W.condD rfl (fun hc1 => ?_) (fun hc1 => ?_)
    · try dsimp only at hc1
      refine W.seq ?_
      refine W.region _ ?_
      refine WG.run tab_ok 1 rfl ?_
      refine' WG.y rfl rfl (by decide) (Yl.load1 tab_ok rfl rfl rfl (fun _ => rfl) ?r6 rfl ?h6) ?_
      case r6 => apply Rd.add; (exact Rd.blk 0 rfl)
      case h6 => rfl
      refine WG.y rfl rfl (by decide) (Yl.indexN tab_ok rfl rfl rfl rfl rfl rfl (fun _ => rfl) (by intro _; (try dsimp only) <;> omega) (by intro _; first | exact fun _ _ _ _ => ha40 (by omega) | exact fun _ _ _ _ => rfl | exact RS.has (by assumption) | exact fun _ _ _ _ => (by assumption) | exact HasMem.ownD 0 rfl | exact HasMem.ownD 1 rfl | exact HasMem.ownD 2 rfl | exact HasMem.ownD 3 rfl | exact HasMem.ownD 4 rfl | exact HasMem.ownD 5 rfl)) ?_
      refine' WG.y rfl rfl (by decide) (Yl.load1 tab_ok rfl rfl rfl (fun _ => rfl) ?r7 rfl ?h7) ?_
      case r7 => ((apply RS.rdD; assumption; ((try dsimp only) <;> omega)))
      case h7 => rfl
      refine WG.run tab_ok 1 rfl ?_
      refine WG.nil ?_
      refine WE.nxt ?_
      refine W.seq ?_
      refine W.region _ ?_
      refine WL.ef rfl rfl (by decide) (Ef.buildSliceD (enc := encI) (parts := []) [] tab_ok rfl rfl rfl rfl rfl rfl rfl rfl (by decide) (by decide) (fun a37 => ?_))
      refine WG.run tab_ok 1 rfl ?_
      refine' WG.y rfl rfl (by decide) (Yl.load1 tab_ok rfl rfl rfl (fun _ => rfl) ?r8 rfl ?h8) ?_
      case r8 => apply Rd.add; (exact Rd.blk 1 rfl)
      case h8 => rfl
      refine WL.ef rfl rfl (by decide) (Ef.cloneL (enc := encI) 0 tab_ok rfl rfl rfl rfl rfl rfl rfl rfl rfl rfl hfk (fun _ _ => rfl) (by dsimp only; omega) (by omega) (fun a40 c40 ha40 => ?_))
      refine WG.run tab_ok 1 rfl ?_
      refine WL.efN rfl rfl (Ef.store 1 tab_ok rfl rfl rfl rfl rfl rfl rfl rfl ?_)
      refine WG.nil ?_
      refine WE.nxt ?_
      refine W.seq ?_
      refine W.region _ ?_
      refine WG.run tab_ok 1 rfl ?_
      refine' WG.y rfl rfl (by decide) (Yl.load1 tab_ok rfl rfl rfl (fun _ => rfl) ?r9 rfl ?h9) ?_
      case r9 => apply Rd.add; (exact Rd.blk 1 rfl)
      case h9 => rfl
      refine WG.run tab_ok 2 rfl ?_
      refine WG.nil ?_
      refine WE.nxt ?_
      refine W.block ?_
      refine W.loopK (β := Nat × List Int) (fun (i, zs) => i ≤ zs.length ∧ zs.length = ck.vals.length ∧ ∀ j, j < ck.vals.length → nth zs j = (if j < i then nth ck.vals j - nth ck.vals 0 else nth ck.vals j)) (fun (i, zs) => [(45, true, .int .i64 (i : Int))]) [4, 5, 6, 44] [_, _, _, _] [] _ rfl (fun (i, zs) => [(0, .sl 3 1 a40 c40 (zs.map encI))]) (fun (i, zs) => zs.length - i) ((0, ck.vals)) (⟨Nat.zero_le _, rfl, fun j hj => by rw [if_neg (by omega)]⟩) ⟨rfl, rfl, rfl, rfl, rfl, rfl⟩ qS ?_
      intro st hst
      obtain ⟨i, zs⟩ := st
      dsimp only [zipE, setAll, List.cons_append, List.nil_append, List.set_cons_zero, List.set_cons_succ] at hst ⊢
      obtain ⟨hi, hzl, hz⟩ := hst
      refine W.seq ?_
      refine W.region _ ?_
      refine WG.run tab_ok 1 rfl ?_
      refine WG.nil ?_
      refine WE.nxt ?_
      refine W.seq ?_
      refine W.condD rfl (fun hc2 => ?_) (fun hc2 => ?_)
      · try dsimp only at hc2
        have hil : i < zs.length := by omega
        have hzi := hz i (by omega)
        rw [if_neg (by omega)] at hzi
        have hb1 := hvr.1 _ (nth_mem (xs := ck.vals) (k := i) (by omega))
        have hb0 := hvr.1 _ (nth_mem (xs := ck.vals) (k := 0) (by omega))
        refine W.skip ?_
        refine WE.nxt ?_
        refine W.seq ?_
        refine W.block ?_
        refine W.seq ?_
        refine W.region _ ?_
        refine WG.run tab_ok 2 rfl ?_
        refine WG.nil ?_
        refine WE.nxt ?_
        refine W.region _ ?_
        refine WG.run tab_ok 1 rfl ?_
        refine' WG.y rfl rfl (by decide) (Yl.load1 tab_ok rfl rfl rfl (fun _ => rfl) ?r10 rfl ?h10) ?_
        case r10 => apply Rd.add; (exact Rd.blk 1 rfl)
        case h10 => rfl
        refine WG.run tab_ok 1 rfl ?_
        refine WG.y rfl rfl (by decide) (Yl.indexN tab_ok rfl rfl rfl rfl rfl rfl (fun _ => rfl) (by intro _; (try dsimp only) <;> omega) (by intro _; first | exact fun _ _ _ _ => ha40 (by omega) | exact fun _ _ _ _ => rfl | exact RS.has (by assumption) | exact fun _ _ _ _ => (by assumption) | exact HasMem.ownD 0 rfl | exact HasMem.ownD 1 rfl | exact HasMem.ownD 2 rfl | exact HasMem.ownD 3 rfl | exact HasMem.ownD 4 rfl | exact HasMem.ownD 5 rfl)) ?_
        refine' WG.y rfl rfl (by decide) (Yl.load1 tab_ok rfl rfl rfl (fun _ => rfl) ?r11 rfl ?h11) ?_
        case r11 => (exact Rd.slD 0 rfl (by (try dsimp only) <;> omega))
        case h11 => rfl
        refine WG.run tab_ok 1 rfl ?_
        refine WG.y rfl rfl (by decide) (Yl.sub rfl rfl rfl (fun _ => rfl) (by intro _; constructor <;> (try dsimp only) <;> omega)) ?_
        refine WG.y rfl rfl (by decide) (Yl.indexN tab_ok rfl rfl rfl rfl rfl rfl (fun _ => rfl) (by intro _; (try dsimp only) <;> omega) (by intro _; first | exact fun _ _ _ _ => ha40 (by omega) | exact fun _ _ _ _ => rfl | exact RS.has (by assumption) | exact fun _ _ _ _ => (by assumption) | exact HasMem.ownD 0 rfl | exact HasMem.ownD 1 rfl | exact HasMem.ownD 2 rfl | exact HasMem.ownD 3 rfl | exact HasMem.ownD 4 rfl | exact HasMem.ownD 5 rfl)) ?_
        refine WL.efN rfl rfl (Ef.storeD _ 0 tab_ok rfl rfl rfl rfl rfl (by (try dsimp only) <;> omega) rfl rfl rfl rfl ?_)
        refine WG.nil ?_
        refine WE.blk _ ?_
        refine WE.nxt ?_
        refine W.region _ ?_
        refine WG.y rfl rfl (by decide) (Yl.add rfl rfl rfl (fun _ => rfl) (by intro _; constructor <;> (try dsimp only) <;> omega)) ?_
        refine WG.run tab_ok 1 rfl ?_
        refine WG.nil ?_
        refine WE.again ((i + 1, zs.set i (nth zs i - nth ck.vals 0))) (⟨by dsimp only; rw [List.length_set]; omega, by dsimp only; rw [List.length_set]; exact hzl, fun j hj => by
          by_cases e : i = j
          · subst e; rw [nth_set_self (by omega), if_pos (by omega), hzi]
          · rw [nth_set_ne e, hz j hj]
            by_cases h2 : j < i
            · rw [if_pos h2, if_pos (by omega)]
            · rw [if_neg h2, if_neg (by omega)]⟩) (by dsimp only; rw [List.length_set]; omega) ⟨rfl, rfl, rfl, rfl, rfl, rfl⟩ (RLe.refl _) qS
      · try dsimp only at hc2
        obtain hiE : i = zs.length := by omega
        refine W.cap 0 rfl ?_
        intro hcp
        rw [List.length_map] at hcp
        refine W.freeze (enc := encI) (xs := zs) 0 rfl ?_
        intro R2 hR2 hfz
        obtain ⟨hsz, hfz2, hz0⟩ := small_sub hsk hfT hzl (fun j hj => by rw [hz j hj, if_pos (by omega)])
        refine W.exit ?_
        refine WE.then_exit ?_
        refine WE.then_exit ?_
        refine WE.blk_exit ?_
        refine WE.nxt ?_
        refine W.seq ?_
        refine W.region _ ?_
        refine' WG.y rfl rfl (by decide) (Yl.load1 tab_ok rfl rfl rfl (fun _ => rfl) ?r12 rfl ?h12) ?_
        case r12 => (exact Rd.blk 0 rfl)
        case h12 => rfl
        refine WL.efN rfl rfl (Ef.store0 1 tab_ok rfl rfl rfl rfl rfl rfl rfl rfl ?_)
        refine WG.nil ?_
        refine WE.nxt ?_
        refine W.ret ?_
        refine WE.retFS (E' := srcE b a cp xs (cn) :: F) qS tab_ok [_] rfl ⟨⟨_, _, _, rfl, rfl, rfl, ((by first | exact Rd.blk 0 rfl | exact Rd.blk 1 rfl | exact Rd.blk 2 rfl | exact Rd.blk 3 rfl | exact Rd.blk 4 rfl | exact Rd.blk 5 rfl)), rfl⟩, trivial⟩ ((by first | exact hRC.trans (hRk.trans hR2) | exact hRC.trans hRk)) ?_
        exact ⟨_, [], rfl, a40, c40, cn, ⟨zs, ck.per, ck.inc⟩, by dsimp only; rw [hzl]; rfl, hfz, hsz, hfz2, hz0, hcp, rfl, rfl⟩
    · try dsimp only at hc1
      have h00 : nth ck.vals 0 = 0 := by have := valid_each hsk.valid 0 (by omega); unfold INF at this; omega
      refine W.skip ?_
      refine WE.nxt ?_
      refine W.seq ?_
      refine W.region _ ?_
      refine' WG.y rfl rfl (by decide) (Yl.load1 tab_ok rfl rfl rfl (fun _ => rfl) ?r13 rfl ?h13) ?_
      case r13 => (exact Rd.blk 0 rfl)
      case h13 => rfl
      refine WL.efN rfl rfl (Ef.store0 1 tab_ok rfl rfl rfl rfl rfl rfl rfl rfl ?_)
      refine WG.nil ?_
      refine WE.nxt ?_
      refine W.ret ?_
      refine WE.retFS (E' := srcE b a cp xs (cn) :: F) qS tab_ok [_] rfl ⟨⟨_, _, _, rfl, rfl, rfl, ((by first | exact Rd.blk 0 rfl | exact Rd.blk 1 rfl | exact Rd.blk 2 rfl | exact Rd.blk 3 rfl | exact Rd.blk 4 rfl | exact Rd.blk 5 rfl)), rfl⟩, trivial⟩ ((by first | exact hRC.trans (hRk.trans hR2) | exact hRC.trans hRk)) ?_
      exact ⟨_, [], rfl, fk, gk, cn, ck, rfl, hfk, hsk, hfT, h00, hgk, rfl, rfl⟩

end Go.Proofs.Ytolmmfphdieilaa

/- Sizes of a trace. No condition. -/
set_option linter.unusedSimpArgs false
set_option linter.unusedVariables false
namespace Go.Proofs.Ytolmmfphdieilaa
open Go Go.RowKit Go.Proofs.Ytolmmfphdieilaa.K Go.Proofs.Ytolmmfphdieilaa.M

def szPre (z : List Sz) (p : Pkt) : List Sz := if (nth z p.flow.toNat).most = 0 then z.set p.flow.toNat ⟨p.size, p.size⟩ else z
def szPut (z1 : List Sz) (p : Pkt) : List Sz := z1.set p.flow.toNat ⟨(if p.size < (nth z1 p.flow.toNat).least then p.size else (nth z1 p.flow.toNat).least), (if (nth z1 p.flow.toNat).most < p.size then p.size else (nth z1 p.flow.toNat).most)⟩
def szAdd (n : Nat) (z : List Sz) (p : Pkt) : List Sz := if p.flow < 0 ∨ p.flow ≥ (n : Int) then z else szPut (szPre z p) p
def sizesL (n : Nat) (ps : List Pkt) : List Sz := ps.foldl (szAdd n) (List.replicate n ⟨0, 0⟩)
end Go.Proofs.Ytolmmfphdieilaa

/- Reference 04: a curve that is never above another. No condition. -/
set_option linter.unusedSimpArgs false
set_option linter.unusedVariables false
namespace Go.Proofs.Ytolmmfphdieilaa
open Go Go.RowKit Go.Proofs.Ytolmmfphdieilaa.K Go.Proofs.Ytolmmfphdieilaa.M

theorem Above_V {R : Ro} {a1 a2 : Option Addr} {c1 c2 : Nat} {F G : Nat → Int} {S1 P1 S2 P2 : Nat} {I1 I2 : Int} (ha1 : RS R 1 encI a1 (fvals F (S1 + P1))) (ha2 : RS R 1 encI a2 (fvals G (S2 + P2))) (hv1 : validB ⟨fvals F (S1 + P1), P1, I1⟩ = true) (hv2 : validB ⟨fvals G (S2 + P2), P2, I2⟩ = true) (hg1 : Grows F S1 P1 I1) (hg2 : Grows G S2 P2 I2) (hb1 : ∀ t, t ≤ 20000 → 0 ≤ F t ∧ F t ≤ 1000000000000000) (hb2 : ∀ t, t ≤ 20000 → 0 ≤ G t ∧ G t ≤ 1000000000000000) {t : Nat} (ht : t ≤ 20000) : FnV Try.prog 115 [.agg #[.slice a1 (fvals F (S1 + P1)).length c1, .int .i64 (P1 : Int), .int .i64 I1], .agg #[.slice a2 (fvals G (S2 + P2)).length c2, .int .i64 (P2 : Int), .int .i64 I2], .int .i64 (t : Int)] R (.int .i64 (F t - G t)) := by
  refine Fn.toV (fun w0 E => ?_)
  obtain ⟨p1, q1, l1, i1, j1⟩ := valid_facts hv1
  obtain ⟨p2, q2, l2, i2, j2⟩ := valid_facts hv2
  have hf1 : ∀ t, t < S1 + P1 → F t ≠ INF := fun t ht => by have := hb1 t (by omega); unfold INF; omega
  have hf2 : ∀ t, t < S2 + P2 → G t ≠ INF := fun t ht => by have := hb2 t (by omega); unfold INF; omega
  have hx1 : ∀ x ∈ fvals F (S1 + P1), -2305843009213693952 ≤ x ∧ x ≤ 4611686018427387904 := all_of_nth (fun j hj => by rw [fvals_len] at hj; rw [fvals_nth F hj]; have := hb1 j (by omega); omega)
  have hx2 : ∀ x ∈ fvals G (S2 + P2), -2305843009213693952 ≤ x ∧ x ≤ 4611686018427387904 := all_of_nth (fun j hj => by rw [fvals_len] at hj; rw [fvals_nth G hj]; have := hb2 j (by omega); omega)
  have hn1 := fvals_len F (S1 + P1)
  have hn2 := fvals_len G (S2 + P2)
  have ht1 := hb1 t ht
  have ht2 := hb2 t ht
  refine Fn.enter (n := 26) Try.func115 rfl rfl (Nat.le_of_ble_eq_true rfl) rfl ?_
  refine W.seq ?_
  refine W.region _ ?_
  refine WL.ef rfl rfl (by decide) (Ef.box rfl rfl (fun b3 => ?_))
  refine WL.ef rfl rfl (by decide) (Ef.box rfl rfl (fun b4 => ?_))
  refine WG.run tab_ok 1 rfl ?_
  refine WG.nil ?_
  refine WE.nxt ?_
  refine W.seq ?_
  refine W.regionQ _ mixed (by kernel_rfl) ?_
  refine' WG.y rfl rfl (by decide) (Yl.load1 tab_ok rfl rfl rfl (fun _ => rfl) ?r1 rfl ?h1) ?_
  case r1 => (exact Rd.blk 1 rfl)
  case h1 => rfl
  refine WG.run tab_ok 1 rfl ?_
  refine WG.callV (v := .int .i64 (F t)) en18 rfl rfl (by decide) (CallOp.mk' rfl rfl rfl rfl) (fun _ => rfl) (fun hg => by rw [← atR_fvals (S := S1) (by omega) hg1 hf1 t]; exact At_V ha1 (by constructor <;> omega) ⟨by constructor <;> omega, by omega⟩ (by omega) hx1) ?_
  refine' WG.y rfl rfl (by decide) (Yl.load1 tab_ok rfl rfl rfl (fun _ => rfl) ?r2 rfl ?h2) ?_
  case r2 => (exact Rd.blk 0 rfl)
  case h2 => rfl
  refine WG.run tab_ok 1 rfl ?_
  refine WG.callV (v := .int .i64 (G t)) en18 rfl rfl (by decide) (CallOp.mk' rfl rfl rfl rfl) (fun _ => rfl) (fun hg => by rw [← atR_fvals (S := S2) (by omega) hg2 hf2 t]; exact At_V ha2 (by constructor <;> omega) ⟨by constructor <;> omega, by omega⟩ (by omega) hx2) ?_
  refine WG.run tab_ok 2 rfl ?_
  refine WG.nil ?_
  refine WE.nxt ?_
  refine W.seq ?_
  refine W.seq ?_
  refine W.region _ ?_
  refine WG.run tab_ok 3 rfl ?_
  refine WG.y rfl rfl (by decide) (pureV_ok tab_ok rfl qE) ?_
  refine WG.y rfl rfl (by decide) (pureV_ok tab_ok rfl qE) ?_
  refine WG.y rfl rfl (by decide) (Yl.por rfl rfl rfl (fun _ => rfl) (by intro h1 h2; simp_all <;> omega)) ?_
  refine WG.nil ?_
  refine WE.nxt ?_
  refine W.cond rfl (fun hc0 => ?_) (fun hc0 => ?_)
  · try simp only [decide_eq_true_eq, decide_eq_false_iff_not, beq_iff_eq, bne_iff_ne, beq_eq_false_iff_ne, bne_eq_false_iff_eq, ne_eq, Bool.or_eq_true, Bool.or_eq_false_iff, Bool.and_eq_true, Bool.and_eq_false_imp, Bool.not_eq_true, Bool.not_eq_true', Bool.not_eq_false', Classical.not_not, Int.not_lt, Int.not_le, gt_iff_lt, ge_iff_le] at hc0
    omega
  · try simp only [decide_eq_true_eq, decide_eq_false_iff_not, beq_iff_eq, bne_iff_ne, beq_eq_false_iff_ne, bne_eq_false_iff_eq, ne_eq, Bool.or_eq_true, Bool.or_eq_false_iff, Bool.and_eq_true, Bool.and_eq_false_imp, Bool.not_eq_true, Bool.not_eq_true', Bool.not_eq_false', Classical.not_not, Int.not_lt, Int.not_le, gt_iff_lt, ge_iff_le] at hc0
    refine W.skip ?_
    refine WE.nxt ?_
    refine W.seq ?_
    refine W.region _ ?_
    refine WG.run tab_ok 2 rfl ?_
    refine WG.y rfl rfl (by decide) (Yl.sub rfl rfl rfl (fun _ => rfl) (by intro _; constructor <;> (try dsimp only) <;> omega)) ?_
    refine WG.run tab_ok 1 rfl ?_
    refine WG.nil ?_
    refine WE.nxt ?_
    refine W.ret ?_
    refine WE.subE (E' := E) qS ?_
    refine WE.retF tab_ok [_] rfl ⟨rfl, trivial⟩ (RLe.refl _) ?_
    exact ⟨rfl, rfl⟩

theorem Lcm_V {R : Ro} {a b : Nat} (ha : 0 < a ∧ a ≤ 1000000) (hb : 0 < b ∧ b ≤ 1000000) : FnV Try.prog 113 [.int .i64 (a : Int), .int .i64 (b : Int)] R (.int .i64 (lcmN a b : Int)) := by
  refine Fn.toV (fun w0 E => ?_)
  have hg : 0 < Nat.gcd a b := Nat.gcd_pos_of_pos_right _ hb.1
  have hq : ((a : Int) / (Nat.gcd a b : Int) * (b : Int)) ≤ 1000000 * 1000000 ∧ 0 ≤ ((a : Int) / (Nat.gcd a b : Int) * (b : Int)) := by
    have h1 : a / Nat.gcd a b * b ≤ 1000000 * 1000000 := Nat.mul_le_mul (Nat.le_trans (Nat.div_le_self _ _) ha.2) hb.2
    have e : ((a : Int) / (Nat.gcd a b : Int) * (b : Int)) = ((a / Nat.gcd a b * b : Nat) : Int) := rfl
    omega
  refine Fn.enter (n := 12) Try.func113 rfl rfl (Nat.le_of_ble_eq_true rfl) rfl ?_
  refine W.seq ?_
  refine W.region _ ?_
  refine WG.run tab_ok 1 rfl ?_
  refine WG.nil ?_
  refine WE.nxt ?_
  refine W.seq ?_
  refine W.region _ ?_
  refine WG.run tab_ok 3 rfl ?_
  refine WG.callV en134 rfl rfl (by decide) (CallOp.mk' rfl rfl rfl rfl) (fun _ => rfl) (fun hg => Gcd_V) ?_
  refine WG.y rfl rfl (by decide) (Yl.quo rfl rfl rfl (fun _ => rfl) (by intro _; constructor <;> (try dsimp only) <;> omega) (by intro _; omega)) ?_
  refine WG.run tab_ok 1 rfl ?_
  refine WG.y rfl rfl (by decide) (Yl.mul rfl rfl rfl (fun _ => rfl) (by intro _; constructor <;> (try dsimp only) <;> omega)) ?_
  refine WG.run tab_ok 1 rfl ?_
  refine WG.nil ?_
  refine WE.nxt ?_
  refine W.ret ?_
  refine WE.subE (E' := E) qS ?_
  refine WE.retF tab_ok [_] rfl ⟨rfl, trivial⟩ (RLe.refl _) ?_
  exact ⟨rfl, rfl⟩

theorem Finite_V {R : Ro} {a : Option Addr} {c : Nat} {F : Nat → Int} {S P : Nat} {I : Int} (ha : RS R 1 encI a (fvals F (S + P))) (hv : validB ⟨fvals F (S + P), P, I⟩ = true) (hx : ∀ x ∈ fvals F (S + P), -2305843009213693952 ≤ x ∧ x ≤ 4611686018427387904) (hf : ∀ t, t < S + P → F t ≠ INF) : FnV Try.prog 63 [.agg #[.slice a (fvals F (S + P)).length c, .int .i64 (P : Int), .int .i64 I]] R (.bool true) := by
  refine Fn.toV (fun w0 E => ?_)
  obtain ⟨p1, q1, l1, i1, j1⟩ := valid_facts hv
  have hn1 := fvals_len F (S + P)
  have hlast : nth (fvals F (S + P)) (((fvals F (S + P)).length : Int) - 1).toNat ≠ 4611686018427387904 := by rw [fvals_nth F (by omega)]; exact hf _ (by omega)
  refine Fn.enter (n := 16) Try.func63 rfl rfl (Nat.le_of_ble_eq_true rfl) rfl ?_
  refine W.seq ?_
  refine W.region _ ?_
  refine WL.ef rfl rfl (by decide) (Ef.box rfl rfl (fun b1 => ?_))
  refine WG.run tab_ok 1 rfl ?_
  refine WG.nil ?_
  refine WE.nxt ?_
  refine W.seq ?_
  refine W.region _ ?_
  refine' WG.y rfl rfl (by decide) (Yl.load1 tab_ok rfl rfl rfl (fun _ => rfl) ?r1 rfl ?h1) ?_
  case r1 => (exact Rd.blk 0 rfl)
  case h1 => rfl
  refine WG.callV (v := .bool true) en71 rfl rfl (by decide) (CallOp.mk' rfl rfl rfl rfl) (fun _ => rfl) (fun hg => by have h := Valid_V (c := c) (per := (P : Int)) (inc := I) ha (by constructor <;> omega) (by constructor <;> omega) hx; rw [hv] at h; exact h) ?_
  refine WG.run tab_ok 1 rfl ?_
  refine WL.guardT rfl (by rfl) ?_
  refine WG.y rfl rfl (by decide) (pureV_ok tab_ok rfl (fun _ => rfl)) ?_
  refine WL.guardT rfl (by rfl) ?_
  refine' WG.y rfl rfl (by decide) (Yl.load1 tab_ok rfl rfl rfl (fun _ => rfl) ?r2 rfl ?h2) ?_
  case r2 => apply Rd.add; (exact Rd.blk 0 rfl)
  case h2 => rfl
  refine WL.guardT rfl (by rfl) ?_
  refine WG.y rfl rfl (by decide) (pureV_ok tab_ok rfl (fun _ => rfl)) ?_
  refine WL.guardT rfl (by rfl) ?_
  refine' WG.y rfl rfl (by decide) (Yl.load1 tab_ok rfl rfl rfl (fun _ => rfl) ?r3 rfl ?h3) ?_
  case r3 => apply Rd.add; (exact Rd.blk 0 rfl)
  case h3 => rfl
  refine WL.guardT rfl (by rfl) ?_
  refine WG.y rfl rfl (by decide) (pureV_ok tab_ok rfl (fun _ => rfl)) ?_
  refine WL.guardT rfl (by rfl) ?_
  refine WG.y rfl rfl (by decide) (Yl.sub rfl rfl rfl (fun _ => rfl) (by intro _; constructor <;> (try dsimp only) <;> omega)) ?_
  refine WL.guardT rfl (by rfl) ?_
  refine WG.y rfl rfl (by decide) (Yl.index tab_ok rfl rfl rfl rfl rfl rfl (fun _ => rfl) (by intro _; constructor <;> (try dsimp only) <;> omega) (by intro _; first | exact fun _ _ _ _ => rfl | exact RS.has (by assumption) | exact fun _ _ _ _ => (by assumption) | exact HasMem.ownD 0 rfl | exact HasMem.ownD 1 rfl)) ?_
  refine WL.guardT rfl (by rfl) ?_
  refine' WG.y rfl rfl (by decide) (Yl.load1 tab_ok rfl rfl rfl (fun _ => rfl) ?r4 rfl ?h4) ?_
  case r4 => ((apply RS.rdD; assumption; ((try dsimp only) <;> omega)))
  case h4 => rfl
  refine WL.guardT rfl (by rfl) ?_
  refine WG.y rfl rfl (by decide) (pureV_ok tab_ok rfl (fun _ => rfl)) ?_
  refine WG.y rfl rfl (by decide) (Yl.pand rfl rfl rfl (fun _ => rfl) (by intro h1 h2; simp_all <;> omega)) ?_
  refine WG.run tab_ok 1 rfl ?_
  refine WG.nil ?_
  refine WE.nxt ?_
  refine W.ret ?_
  refine WE.subE (E' := E) qS ?_
  refine WE.retF tab_ok [_] rfl ⟨rfl, trivial⟩ (RLe.refl _) ?_
  refine ⟨?_, rfl⟩
  rw [show (nth (fvals F (S + P)) (((fvals F (S + P)).length : Int) - 1).toNat != 4611686018427387904) = true from bne_iff_ne.2 hlast]
  rfl

theorem Window_V {R : Ro} {a1 a2 : Option Addr} {c1 c2 : Nat} {F G : Nat → Int} {S1 P1 S2 P2 : Nat} {I1 I2 : Int} (ha1 : RS R 1 encI a1 (fvals F (S1 + P1))) (ha2 : RS R 1 encI a2 (fvals G (S2 + P2))) (hv1 : validB ⟨fvals F (S1 + P1), P1, I1⟩ = true) (hv2 : validB ⟨fvals G (S2 + P2), P2, I2⟩ = true) (hg1 : Grows F S1 P1 I1) (hg2 : Grows G S2 P2 I2) (hb1 : ∀ t, t ≤ 20000 → 0 ≤ F t ∧ F t ≤ 1000000000000000) (hb2 : ∀ t, t ≤ 20000 → 0 ≤ G t ∧ G t ≤ 1000000000000000) : ∃ m : Nat, m ≤ 400 ∧ FnV Try.prog 114 [.agg #[.slice a1 (fvals F (S1 + P1)).length c1, .int .i64 (P1 : Int), .int .i64 I1], .agg #[.slice a2 (fvals G (S2 + P2)).length c2, .int .i64 (P2 : Int), .int .i64 I2]] R (.tuple #[.int .i64 (m : Int), .int .i64 (lcmN P1 P2 : Int), .int .i64 (I1 * ((lcmN P1 P2 : Int) / (P1 : Int)) - I2 * ((lcmN P1 P2 : Int) / (P2 : Int)))]) := by
  obtain ⟨p1, q1, l1, i1, j1⟩ := valid_facts hv1
  obtain ⟨p2, q2, l2, i2, j2⟩ := valid_facts hv2
  have hf1 : ∀ t, t < S1 + P1 → F t ≠ INF := fun t ht => by have := hb1 t (by omega); unfold INF; omega
  have hf2 : ∀ t, t < S2 + P2 → G t ≠ INF := fun t ht => by have := hb2 t (by omega); unfold INF; omega
  have hx1 : ∀ x ∈ fvals F (S1 + P1), -2305843009213693952 ≤ x ∧ x ≤ 4611686018427387904 := all_of_nth (fun j hj => by rw [fvals_len] at hj; rw [fvals_nth F hj]; have := hb1 j (by omega); omega)
  have hx2 : ∀ x ∈ fvals G (S2 + P2), -2305843009213693952 ≤ x ∧ x ≤ 4611686018427387904 := all_of_nth (fun j hj => by rw [fvals_len] at hj; rw [fvals_nth G hj]; have := hb2 j (by omega); omega)
  have hn1 := fvals_len F (S1 + P1)
  have hn2 := fvals_len G (S2 + P2)
  have hl := lcmN_facts (a := P1) (b := P2) (by omega) (by omega)
  have hl2 : P1 * P2 ≤ 120 * 120 := Nat.mul_le_mul q1 q2
  have hd1 : 0 ≤ (lcmN P1 P2 : Int) / (P1 : Int) := Int.ediv_nonneg (by omega) (by omega)
  have hd2 : 0 ≤ (lcmN P1 P2 : Int) / (P2 : Int) := Int.ediv_nonneg (by omega) (by omega)
  have he1 : (lcmN P1 P2 : Int) / (P1 : Int) ≤ lcmN P1 P2 := Int.ediv_le_self _ (by omega)
  have he2 : (lcmN P1 P2 : Int) / (P2 : Int) ≤ lcmN P1 P2 := Int.ediv_le_self _ (by omega)
  have hm1 := mulB (a := I1) (b := (lcmN P1 P2 : Int) / (P1 : Int)) (A := 1073741824) (B := 14400) (by omega) (by omega)
  have hm2 := mulB (a := I2) (b := (lcmN P1 P2 : Int) / (P2 : Int)) (A := 1073741824) (B := 14400) (by omega) (by omega)
  refine ⟨if (fvals F (S1 + P1)).length < (fvals G (S2 + P2)).length then (fvals G (S2 + P2)).length else (fvals F (S1 + P1)).length, by split <;> omega, ?_⟩
  refine Fn.toV (fun w0 E => ?_)
  refine Fn.enter (n := 38) Try.func114 rfl rfl (Nat.le_of_ble_eq_true rfl) rfl ?_
  refine W.seq ?_
  refine W.region _ ?_
  refine WL.ef rfl rfl (by decide) (Ef.box rfl rfl (fun b2 => ?_))
  refine WL.ef rfl rfl (by decide) (Ef.box rfl rfl (fun b3 => ?_))
  refine WG.run tab_ok 3 rfl ?_
  refine WG.nil ?_
  refine WE.nxt ?_
  refine W.seq ?_
  refine W.regionQ _ mixed (by kernel_rfl) ?_
  refine WG.run tab_ok 1 rfl ?_
  refine' WG.y rfl rfl (by decide) (Yl.load1 tab_ok rfl rfl rfl (fun _ => rfl) ?r1 rfl ?h1) ?_
  case r1 => apply Rd.add; (exact Rd.blk 1 rfl)
  case h1 => rfl
  refine WG.run tab_ok 2 rfl ?_
  refine' WG.y rfl rfl (by decide) (Yl.load1 tab_ok rfl rfl rfl (fun _ => rfl) ?r2 rfl ?h2) ?_
  case r2 => apply Rd.add; (exact Rd.blk 0 rfl)
  case h2 => rfl
  refine WG.run tab_ok 3 rfl ?_
  refine' WG.y rfl rfl (by decide) (Yl.load1 tab_ok rfl rfl rfl (fun _ => rfl) ?r3 rfl ?h3) ?_
  case r3 => apply Rd.add; (exact Rd.blk 1 rfl)
  case h3 => rfl
  refine WG.run tab_ok 1 rfl ?_
  refine' WG.y rfl rfl (by decide) (Yl.load1 tab_ok rfl rfl rfl (fun _ => rfl) ?r4 rfl ?h4) ?_
  case r4 => apply Rd.add; (exact Rd.blk 0 rfl)
  case h4 => rfl
  refine WG.callV en113 rfl rfl (by decide) (CallOp.mk' rfl rfl rfl rfl) (fun _ => rfl) (fun hg => Lcm_V (by omega) (by omega)) ?_
  refine WG.run tab_ok 2 rfl ?_
  refine WG.nil ?_
  refine WE.nxt ?_
  refine W.seq ?_
  refine W.regionQ _ mixed (by kernel_rfl) ?_
  refine WG.run tab_ok 3 rfl ?_
  refine' WG.y rfl rfl (by decide) (Yl.load1 tab_ok rfl rfl rfl (fun _ => rfl) ?r5 rfl ?h5) ?_
  case r5 => apply Rd.add; (exact Rd.blk 1 rfl)
  case h5 => rfl
  refine WG.run tab_ok 2 rfl ?_
  refine' WG.y rfl rfl (by decide) (Yl.load1 tab_ok rfl rfl rfl (fun _ => rfl) ?r6 rfl ?h6) ?_
  case r6 => apply Rd.add; (exact Rd.blk 1 rfl)
  case h6 => rfl
  refine WG.y rfl rfl (by decide) (Yl.quo rfl rfl rfl (fun _ => rfl) (by intro _; constructor <;> (try dsimp only) <;> omega) (by intro _; omega)) ?_
  refine WG.y rfl rfl (by decide) (Yl.mul rfl rfl rfl (fun _ => rfl) (by intro _; constructor <;> (try dsimp only) <;> omega)) ?_
  refine WG.run tab_ok 1 rfl ?_
  refine' WG.y rfl rfl (by decide) (Yl.load1 tab_ok rfl rfl rfl (fun _ => rfl) ?r7 rfl ?h7) ?_
  case r7 => apply Rd.add; (exact Rd.blk 0 rfl)
  case h7 => rfl
  refine WG.run tab_ok 2 rfl ?_
  refine' WG.y rfl rfl (by decide) (Yl.load1 tab_ok rfl rfl rfl (fun _ => rfl) ?r8 rfl ?h8) ?_
  case r8 => apply Rd.add; (exact Rd.blk 0 rfl)
  case h8 => rfl
  refine WG.y rfl rfl (by decide) (Yl.quo rfl rfl rfl (fun _ => rfl) (by intro _; constructor <;> (try dsimp only) <;> omega) (by intro _; omega)) ?_
  refine WG.y rfl rfl (by decide) (Yl.mul rfl rfl rfl (fun _ => rfl) (by intro _; constructor <;> (try dsimp only) <;> omega)) ?_
  refine WG.y rfl rfl (by decide) (Yl.sub rfl rfl rfl (fun _ => rfl) (by intro _; constructor <;> (try dsimp only) <;> omega)) ?_
  refine WG.run tab_ok 3 rfl ?_
  refine WG.nil ?_
  refine WE.nxt ?_
  refine W.ret ?_
  refine WE.subE (E' := E) qS ?_
  refine WE.retF tab_ok [_, _, _] rfl ⟨rfl, rfl, rfl, trivial⟩ (RLe.refl _) ?_
  refine ⟨?_, rfl⟩
  have e : (((if (fvals F (S1 + P1)).length < (fvals G (S2 + P2)).length then (fvals G (S2 + P2)).length else (fvals F (S1 + P1)).length : Nat)) : Int) = (if ((fvals F (S1 + P1)).length : Int) < ((fvals G (S2 + P2)).length : Int) then ((fvals G (S2 + P2)).length : Int) else ((fvals F (S1 + P1)).length : Int)) := by split <;> split <;> omega
  rw [e]; rfl

theorem Exceeds_V {R : Ro} {a1 a2 : Option Addr} {c1 c2 : Nat} {F G : Nat → Int} {S1 P1 S2 P2 : Nat} {I1 I2 : Int} (ha1 : RS R 1 encI a1 (fvals F (S1 + P1))) (ha2 : RS R 1 encI a2 (fvals G (S2 + P2))) (hv1 : validB ⟨fvals F (S1 + P1), P1, I1⟩ = true) (hv2 : validB ⟨fvals G (S2 + P2), P2, I2⟩ = true) (hg1 : Grows F S1 P1 I1) (hg2 : Grows G S2 P2 I2) (hb1 : ∀ t, t ≤ 20000 → 0 ≤ F t ∧ F t ≤ 1000000000000000) (hb2 : ∀ t, t ≤ 20000 → 0 ≤ G t ∧ G t ≤ 1000000000000000) (hle : ∀ t, F t ≤ G t) : FnV Try.prog 70 [.agg #[.slice a1 (fvals F (S1 + P1)).length c1, .int .i64 (P1 : Int), .int .i64 I1], .agg #[.slice a2 (fvals G (S2 + P2)).length c2, .int .i64 (P2 : Int), .int .i64 I2]] R (.tuple #[.int .i64 0, .bool false, .int .i64 0]) := by
  refine Fn.toV (fun w0 E => ?_)
  obtain ⟨p1, q1, l1, i1, j1⟩ := valid_facts hv1
  obtain ⟨p2, q2, l2, i2, j2⟩ := valid_facts hv2
  have hf1 : ∀ t, t < S1 + P1 → F t ≠ INF := fun t ht => by have := hb1 t (by omega); unfold INF; omega
  have hf2 : ∀ t, t < S2 + P2 → G t ≠ INF := fun t ht => by have := hb2 t (by omega); unfold INF; omega
  have hx1 : ∀ x ∈ fvals F (S1 + P1), -2305843009213693952 ≤ x ∧ x ≤ 4611686018427387904 := all_of_nth (fun j hj => by rw [fvals_len] at hj; rw [fvals_nth F hj]; have := hb1 j (by omega); omega)
  have hx2 : ∀ x ∈ fvals G (S2 + P2), -2305843009213693952 ≤ x ∧ x ≤ 4611686018427387904 := all_of_nth (fun j hj => by rw [fvals_len] at hj; rw [fvals_nth G hj]; have := hb2 j (by omega); omega)
  have hn1 := fvals_len F (S1 + P1)
  have hn2 := fvals_len G (S2 + P2)
  have hl := lcmN_facts (a := P1) (b := P2) (by omega) (by omega)
  have hl2 : P1 * P2 ≤ 120 * 120 := Nat.mul_le_mul q1 q2
  have hd1 : 0 ≤ (lcmN P1 P2 : Int) / (P1 : Int) := Int.ediv_nonneg (by omega) (by omega)
  have hd2 : 0 ≤ (lcmN P1 P2 : Int) / (P2 : Int) := Int.ediv_nonneg (by omega) (by omega)
  have he1 : (lcmN P1 P2 : Int) / (P1 : Int) ≤ lcmN P1 P2 := Int.ediv_le_self _ (by omega)
  have he2 : (lcmN P1 P2 : Int) / (P2 : Int) ≤ lcmN P1 P2 := Int.ediv_le_self _ (by omega)
  have hm1 := mulB (a := I1) (b := (lcmN P1 P2 : Int) / (P1 : Int)) (A := 1073741824) (B := 14400) (by omega) (by omega)
  have hm2 := mulB (a := I2) (b := (lcmN P1 P2 : Int) / (P2 : Int)) (A := 1073741824) (B := 14400) (by omega) (by omega)
  obtain ⟨m, hm, hw⟩ := Window_V (c1 := c1) (c2 := c2) ha1 ha2 hv1 hv2 hg1 hg2 hb1 hb2
  have hgr := grows_lcm (by omega) (by omega) hg1 hg2 hle
  generalize hGR : (I1 * ((lcmN P1 P2 : Int) / (P1 : Int)) - I2 * ((lcmN P1 P2 : Int) / (P2 : Int))) = gr at hw
  have hgr0 : gr ≤ 0 := by omega
  refine Fn.enter (n := 87) Try.func70 rfl rfl (Nat.le_of_ble_eq_true rfl) rfl ?_
  refine W.seq ?_
  refine W.region _ ?_
  refine WL.ef rfl rfl (by decide) (Ef.box rfl rfl (fun b2 => ?_))
  refine WL.ef rfl rfl (by decide) (Ef.box rfl rfl (fun b3 => ?_))
  refine WG.run tab_ok 3 rfl ?_
  refine WG.nil ?_
  refine WE.nxt ?_
  refine W.seq ?_
  refine W.seq ?_
  refine W.region _ ?_
  refine' WG.y rfl rfl (by decide) (Yl.load1 tab_ok rfl rfl rfl (fun _ => rfl) ?r1 rfl ?h1) ?_
  case r1 => (exact Rd.blk 1 rfl)
  case h1 => rfl
  refine WG.callV (v := .bool true) en71 rfl rfl (by decide) (CallOp.mk' rfl rfl rfl rfl) (fun _ => rfl) (fun hg => by have h := Valid_V (c := c1) (per := (P1 : Int)) (inc := I1) ha1 (by constructor <;> omega) (by constructor <;> omega) hx1; rw [hv1] at h; exact h) ?_
  refine WG.run tab_ok 2 rfl ?_
  refine' WG.y rfl rfl (by decide) (Yl.loadG tab_ok rfl rfl rfl qE ?r2 rfl ?h2 ?g2) ?_
  case r2 => (exact Rd.blkC 0 rfl)
  case h2 => rfl
  case g2 => exact fun _ => trivial
  refine WG.callV (v := .bool true) en71 rfl rfl (by decide) (CallOp.mk' rfl rfl rfl rfl) qE (fun hg => by have h := Valid_V (c := c2) (per := (P2 : Int)) (inc := I2) ha2 (by constructor <;> omega) (by constructor <;> omega) hx2; rw [hv2] at h; exact h) ?_
  refine WG.y rfl rfl (by decide) (pureV_ok tab_ok rfl qE) ?_
  refine WG.y rfl rfl (by decide) (Yl.por rfl rfl rfl (fun _ => rfl) (by intro h1 h2; simp_all <;> omega)) ?_
  refine WG.nil ?_
  refine WE.nxt ?_
  refine W.cond rfl (fun hc0 => ?_) (fun hc0 => ?_)
  · try simp only [decide_eq_true_eq, decide_eq_false_iff_not, beq_iff_eq, bne_iff_ne, beq_eq_false_iff_ne, bne_eq_false_iff_eq, ne_eq, Bool.or_eq_true, Bool.or_eq_false_iff, Bool.and_eq_true, Bool.and_eq_false_imp, Bool.not_eq_true, Bool.not_eq_true', Bool.not_eq_false', Classical.not_not, Int.not_lt, Int.not_le, gt_iff_lt, ge_iff_le] at hc0
    (simp at hc0; done)
  · try simp only [decide_eq_true_eq, decide_eq_false_iff_not, beq_iff_eq, bne_iff_ne, beq_eq_false_iff_ne, bne_eq_false_iff_eq, ne_eq, Bool.or_eq_true, Bool.or_eq_false_iff, Bool.and_eq_true, Bool.and_eq_false_imp, Bool.not_eq_true, Bool.not_eq_true', Bool.not_eq_false', Classical.not_not, Int.not_lt, Int.not_le, gt_iff_lt, ge_iff_le] at hc0
    refine W.skip ?_
    refine WE.nxt ?_
    refine W.seq ?_
    refine W.region _ ?_
    refine' WG.y rfl rfl (by decide) (Yl.load1 tab_ok rfl rfl rfl (fun _ => rfl) ?r3 rfl ?h3) ?_
    case r3 => (exact Rd.blk 1 rfl)
    case h3 => rfl
    refine' WG.y rfl rfl (by decide) (Yl.load1 tab_ok rfl rfl rfl (fun _ => rfl) ?r4 rfl ?h4) ?_
    case r4 => (exact Rd.blk 0 rfl)
    case h4 => rfl
    refine WG.callV en114 rfl rfl (by decide) (CallOp.mk' rfl rfl rfl rfl) (fun _ => rfl) (fun hg => hw) ?_
    refine WG.run tab_ok 7 rfl ?_
    refine WG.nil ?_
    refine WE.nxt ?_
    refine W.seq ?_
    refine W.seq ?_
    refine W.region _ ?_
    refine WG.run tab_ok 1 rfl ?_
    refine WG.nil ?_
    refine WE.nxt ?_
    refine W.block ?_
    refine W.loopK (β := Nat) (fun t => t ≤ m + lcmN P1 P2) (fun t => [(10, true, .int .i64 (t : Int))]) [2, 3, 7, 8, 9] [_, _, _, _, _] [] _ rfl (fun t => []) (fun t => m + lcmN P1 P2 - t) (0) (Nat.zero_le _) ⟨rfl, rfl, rfl, rfl, rfl, rfl, rfl⟩ qS ?_
    intro t hst
    dsimp only [zipE, setAll, List.cons_append, List.nil_append, List.set_cons_zero, List.set_cons_succ] at hst ⊢
    
    refine W.seq ?_
    refine W.seq ?_
    refine W.region _ ?_
    refine WG.run tab_ok 3 rfl ?_
    refine WG.y rfl rfl (by decide) (Yl.add rfl rfl rfl (fun _ => rfl) (by intro _; constructor <;> (try dsimp only) <;> omega)) ?_
    refine WG.run tab_ok 1 rfl ?_
    refine WG.nil ?_
    refine WE.nxt ?_
    refine W.condD rfl (fun hc1 => ?_) (fun hc1 => ?_)
    · try dsimp only at hc1
      have hlt := hle t
      refine W.skip ?_
      refine WE.nxt ?_
      refine W.seq ?_
      refine W.block ?_
      refine W.seq ?_
      refine W.region _ ?_
      refine' WG.y rfl rfl (by decide) (Yl.load1 tab_ok rfl rfl rfl (fun _ => rfl) ?r5 rfl ?h5) ?_
      case r5 => (exact Rd.blk 1 rfl)
      case h5 => rfl
      refine' WG.y rfl rfl (by decide) (Yl.load1 tab_ok rfl rfl rfl (fun _ => rfl) ?r6 rfl ?h6) ?_
      case r6 => (exact Rd.blk 0 rfl)
      case h6 => rfl
      refine WG.run tab_ok 1 rfl ?_
      refine WG.callV en115 rfl rfl (by decide) (CallOp.mk' rfl rfl rfl rfl) (fun _ => rfl) (fun hg => Above_V ha1 ha2 hv1 hv2 hg1 hg2 hb1 hb2 (t := t) (by omega)) ?_
      refine WG.run tab_ok 1 rfl ?_
      refine WG.nil ?_
      refine WE.nxt ?_
      refine W.condD rfl (fun hc2 => ?_) (fun hc2 => ?_)
      · try dsimp only at hc2
        omega
      · try dsimp only at hc2
        refine W.skip ?_
        refine WE.blk _ ?_
        refine WE.nxt ?_
        refine W.region _ ?_
        refine WG.run tab_ok 1 rfl ?_
        refine WG.y rfl rfl (by decide) (Yl.add rfl rfl rfl (fun _ => rfl) (by intro _; constructor <;> (try dsimp only) <;> omega)) ?_
        refine WG.run tab_ok 1 rfl ?_
        refine WG.nil ?_
        refine WE.again (t + 1) (by omega) (by (try dsimp only); omega) ⟨rfl, rfl, rfl, rfl, rfl, rfl, rfl⟩ (RLe.refl _) qS
    · try dsimp only at hc1
      refine W.exit ?_
      refine WE.then_exit ?_
      refine WE.then_exit ?_
      refine WE.blk_exit ?_
      refine WE.nxt ?_
      refine W.seq ?_
      refine W.seq ?_
      refine W.region _ ?_
      refine' WG.y rfl rfl (by decide) (Yl.load1 tab_ok rfl rfl rfl (fun _ => rfl) ?r7 rfl ?h7) ?_
      case r7 => (exact Rd.blk 1 rfl)
      case h7 => rfl
      refine WG.callV en63 rfl rfl (by decide) (CallOp.mk' rfl rfl rfl rfl) (fun _ => rfl) (fun hg => Finite_V ha1 hv1 hx1 hf1) ?_
      refine WG.run tab_ok 2 rfl ?_
      refine' WG.y rfl rfl (by decide) (Yl.loadG tab_ok rfl rfl rfl qE ?r8 rfl ?h8 ?g8) ?_
      case r8 => (exact Rd.blkC 0 rfl)
      case h8 => rfl
      case g8 => exact fun _ => trivial
      refine WG.callV en63 rfl rfl (by decide) (CallOp.mk' rfl rfl rfl rfl) qE (fun hg => Finite_V ha2 hv2 hx2 hf2) ?_
      refine WG.y rfl rfl (by decide) (pureV_ok tab_ok rfl qE) ?_
      refine WG.y rfl rfl (by decide) (Yl.por rfl rfl rfl (fun _ => rfl) (by intro h1 h2; simp_all <;> omega)) ?_
      refine WG.run tab_ok 1 rfl ?_
      refine WG.y rfl rfl (by decide) (pureV_ok tab_ok rfl qE) ?_
      refine WG.y rfl rfl (by decide) (pureV_ok tab_ok rfl qE) ?_
      refine WG.y rfl rfl (by decide) (Yl.por rfl rfl rfl (fun _ => rfl) (by intro h1 h2; simp_all <;> omega)) ?_
      refine WG.nil ?_
      refine WE.nxt ?_
      refine W.cond rfl (fun hc3 => ?_) (fun hc3 => ?_)
      · try simp only [decide_eq_true_eq, decide_eq_false_iff_not, beq_iff_eq, bne_iff_ne, beq_eq_false_iff_ne, bne_eq_false_iff_eq, ne_eq, Bool.or_eq_true, Bool.or_eq_false_iff, Bool.and_eq_true, Bool.and_eq_false_imp, Bool.not_eq_true, Bool.not_eq_true', Bool.not_eq_false', Classical.not_not, Int.not_lt, Int.not_le, gt_iff_lt, ge_iff_le] at hc3
        refine W.seq ?_
        refine W.region _ ?_
        refine WG.run tab_ok 3 rfl ?_
        refine WG.nil ?_
        refine WE.nxt ?_
        refine W.ret ?_
        refine WE.then_ret ?_
        refine WE.subE (E' := E) qS ?_
        refine WE.retF tab_ok [_, _, _] rfl ⟨rfl, rfl, rfl, trivial⟩ (RLe.refl _) ?_
        exact ⟨rfl, rfl⟩
      · try simp only [decide_eq_true_eq, decide_eq_false_iff_not, beq_iff_eq, bne_iff_ne, beq_eq_false_iff_ne, bne_eq_false_iff_eq, ne_eq, Bool.or_eq_true, Bool.or_eq_false_iff, Bool.and_eq_true, Bool.and_eq_false_imp, Bool.not_eq_true, Bool.not_eq_true', Bool.not_eq_false', Classical.not_not, Int.not_lt, Int.not_le, gt_iff_lt, ge_iff_le] at hc3
        omega

theorem AtMost_V {R : Ro} {a1 a2 : Option Addr} {c1 c2 : Nat} {F G : Nat → Int} {S1 P1 S2 P2 : Nat} {I1 I2 : Int} (ha1 : RS R 1 encI a1 (fvals F (S1 + P1))) (ha2 : RS R 1 encI a2 (fvals G (S2 + P2))) (hv1 : validB ⟨fvals F (S1 + P1), P1, I1⟩ = true) (hv2 : validB ⟨fvals G (S2 + P2), P2, I2⟩ = true) (hg1 : Grows F S1 P1 I1) (hg2 : Grows G S2 P2 I2) (hb1 : ∀ t, t ≤ 20000 → 0 ≤ F t ∧ F t ≤ 1000000000000000) (hb2 : ∀ t, t ≤ 20000 → 0 ≤ G t ∧ G t ≤ 1000000000000000) (hle : ∀ t, F t ≤ G t) : FnV Try.prog 20 [.agg #[.slice a1 (fvals F (S1 + P1)).length c1, .int .i64 (P1 : Int), .int .i64 I1], .agg #[.slice a2 (fvals G (S2 + P2)).length c2, .int .i64 (P2 : Int), .int .i64 I2]] R (.bool true) := by
  refine Fn.toV (fun w0 E => ?_)
  refine Fn.enter (n := 21) Try.func20 rfl rfl (Nat.le_of_ble_eq_true rfl) rfl ?_
  refine W.seq ?_
  refine W.region _ ?_
  refine WL.ef rfl rfl (by decide) (Ef.box rfl rfl (fun b2 => ?_))
  refine WL.ef rfl rfl (by decide) (Ef.box rfl rfl (fun b3 => ?_))
  refine WG.run tab_ok 1 rfl ?_
  refine WG.nil ?_
  refine WE.nxt ?_
  refine W.seq ?_
  refine W.region _ ?_
  refine' WG.y rfl rfl (by decide) (Yl.load1 tab_ok rfl rfl rfl (fun _ => rfl) ?r1 rfl ?h1) ?_
  case r1 => (exact Rd.blk 1 rfl)
  case h1 => rfl
  refine' WG.y rfl rfl (by decide) (Yl.load1 tab_ok rfl rfl rfl (fun _ => rfl) ?r2 rfl ?h2) ?_
  case r2 => (exact Rd.blk 0 rfl)
  case h2 => rfl
  refine WG.callV en70 rfl rfl (by decide) (CallOp.mk' rfl rfl rfl rfl) (fun _ => rfl) (fun hg => Exceeds_V ha1 ha2 hv1 hv2 hg1 hg2 hb1 hb2 hle) ?_
  refine WG.run tab_ok 7 rfl ?_
  refine WG.nil ?_
  refine WE.nxt ?_
  refine W.seq ?_
  refine W.region _ ?_
  refine WG.run tab_ok 3 rfl ?_
  refine WG.y rfl rfl (by decide) (pureV_ok tab_ok rfl qE) ?_
  refine WG.y rfl rfl (by decide) (pureV_ok tab_ok rfl qE) ?_
  refine WG.y rfl rfl (by decide) (Yl.pand rfl rfl rfl (fun _ => rfl) (by intro h1 h2; simp_all <;> omega)) ?_
  refine WG.run tab_ok 1 rfl ?_
  refine WG.nil ?_
  refine WE.nxt ?_
  refine W.ret ?_
  refine WE.subE (E' := E) qS ?_
  refine WE.retF tab_ok [_] rfl ⟨rfl, trivial⟩ (RLe.refl _) ?_
  exact ⟨rfl, rfl⟩

end Go.Proofs.Ytolmmfphdieilaa

/- Any valid curve: what the references make of it. No condition. -/
set_option linter.unusedSimpArgs false
set_option linter.unusedVariables false
namespace Go.Proofs.Ytolmmfphdieilaa
open Go Go.RowKit Go.Proofs.Ytolmmfphdieilaa.K Go.Proofs.Ytolmmfphdieilaa.M

theorem AtG_V {R : Ro} {fa : Option Addr} {fc : Nat} {c : Cv} (hv : validB c = true) (ha : RS R 1 encI fa c.vals) {t : Nat} (ht : t ≤ 1000000000) : FnV Try.prog 18 [.agg #[.slice fa c.vals.length fc, .int .i64 c.per, .int .i64 c.inc], .int .i64 (t : Int)] R (.int .i64 (cvF c t)) := by
  obtain ⟨h1, h2, h3, h4, h5, h6, h7, h8⟩ := valid_range hv
  exact At_V ha (by constructor <;> omega) ⟨by constructor <;> omega, by omega⟩ (by omega) h1
theorem ValidG_V {R : Ro} {fa : Option Addr} {fc : Nat} {c : Cv} (hv : validB c = true) (ha : RS R 1 encI fa c.vals) : FnV Try.prog 71 [.agg #[.slice fa c.vals.length fc, .int .i64 c.per, .int .i64 c.inc]] R (.bool true) := by
  obtain ⟨h1, h2, h3, h4, h5, h6, h7, h8⟩ := valid_range hv
  have h := Valid_V (c := fc) (per := c.per) (inc := c.inc) ha (by constructor <;> omega) (by constructor <;> omega) h1
  rw [show validB ⟨c.vals, c.per, c.inc⟩ = true from hv] at h
  exact h
theorem MadeG_C {R : Ro} {a : Option Addr} {cc : Nat} {v : List Int} {per inc : Int} (ha : RS R 1 encI a v) (hl : v.length ≤ 100000) (hok : MadeOk v per inc) (hac : v.length ≤ cc) (w0 : World) (E : List Ent) : K.Fn Try.prog 51 [.agg #[.slice a v.length cc, .int .i64 per, .int .i64 inc]] w0 R E (fun r R' E' => ∃ (f : Option Addr) (fc : Nat), r = cvV f fc (madeR ⟨v, per, inc⟩) ∧ RS R' 1 encI f (madeR ⟨v, per, inc⟩).1.vals ∧ E.Sublist E') :=
  Made_C ha ⟨hl, hok.hper.2.2⟩ (fun _ => hac) ⟨hok.hper.1, by have := hok.hper; omega⟩ hok.hinc hok.vals hok.self hok.at_ hok.nb w0 E

theorem Normal02_C {R : Ro} {fa : Option Addr} {fc : Nat} {c : Cv} (hv : validB c = true) (ha : RS R 1 encI fa c.vals) (hcap : c.vals.length ≤ fc) (w0 : World) (E : List Ent) : K.Fn Try.prog 112 [.agg #[.slice fa c.vals.length fc, .int .i64 c.per, .int .i64 c.inc]] w0 R E (fun r R' E' => ∃ (f : Option Addr) (fc : Nat), r = cvV f fc (normR c, 0) ∧ RS R' 1 encI f (normR c).vals ∧ E.Sublist E') := by
  obtain ⟨h1, h2, h3, h4, h5, h6, h7, h8⟩ := valid_range hv
  have hok := valid_madeOk hv
  refine Fn.enter (n := 10) Try.func112 rfl rfl (Nat.le_of_ble_eq_true rfl) rfl ?_
  refine W.seq ?_
  refine W.region _ ?_
  refine WL.ef rfl rfl (by decide) (Ef.box rfl rfl (fun b1 => ?_))
  refine WL.ef rfl rfl (by decide) (Ef.alloc tab_ok rfl rfl (fun b2 => ?_))
  refine WG.run tab_ok 1 rfl ?_
  refine WG.nil ?_
  refine WE.nxt ?_
  refine W.seq ?_
  refine W.seq ?_
  refine W.region _ ?_
  refine' WG.y rfl rfl (by decide) (Yl.load1 tab_ok rfl rfl rfl (fun _ => rfl) ?r1 rfl ?h1) ?_
  case r1 => (exact Rd.blk 1 rfl)
  case h1 => rfl
  refine WG.callV (v := .bool true) en71 rfl rfl (by decide) (CallOp.mk' rfl rfl rfl rfl) (fun _ => rfl) (fun hg => ValidG_V hv ha) ?_
  refine WG.run tab_ok 1 rfl ?_
  refine WG.nil ?_
  refine WE.nxt ?_
  refine W.cond rfl (fun hc0 => ?_) (fun hc0 => ?_)
  · try simp only [decide_eq_true_eq, decide_eq_false_iff_not, beq_iff_eq, bne_iff_ne, beq_eq_false_iff_ne, bne_eq_false_iff_eq, ne_eq, Bool.or_eq_true, Bool.or_eq_false_iff, Bool.and_eq_true, Bool.and_eq_false_imp, Bool.not_eq_true, Bool.not_eq_true', Bool.not_eq_false', Classical.not_not, Int.not_lt, Int.not_le, gt_iff_lt, ge_iff_le] at hc0
    (simp at hc0; done)
  · try simp only [decide_eq_true_eq, decide_eq_false_iff_not, beq_iff_eq, bne_iff_ne, beq_eq_false_iff_ne, bne_eq_false_iff_eq, ne_eq, Bool.or_eq_true, Bool.or_eq_false_iff, Bool.and_eq_true, Bool.and_eq_false_imp, Bool.not_eq_true, Bool.not_eq_true', Bool.not_eq_false', Classical.not_not, Int.not_lt, Int.not_le, gt_iff_lt, ge_iff_le] at hc0
    refine W.skip ?_
    refine WE.nxt ?_
    refine W.seq ?_
    refine W.region _ ?_
    refine' WG.y rfl rfl (by decide) (Yl.load1 tab_ok rfl rfl rfl (fun _ => rfl) ?r2 rfl ?h2) ?_
    case r2 => (exact Rd.blk 1 rfl)
    case h2 => rfl
    refine WL.call en105 rfl rfl (by decide) (CallOp.mkT rfl rfl rfl rfl) (Least02_C ha ⟨by omega, by omega⟩ (fun _ => hcap) ⟨by omega, by omega⟩ hok.hinc hok.vals hok.self hok.at_ w0 _) ?_
    rintro _ R1 E1 hR1 ⟨f, fc2, rfl, hf, hsub⟩
    refine WL.subE hsub ?_
    unfold cuV
    refine WL.efN rfl rfl (Ef.store0 0 tab_ok rfl rfl rfl rfl rfl rfl rfl rfl ?_)
    refine WG.run tab_ok 1 rfl ?_
    refine WG.nil ?_
    refine WE.nxt ?_
    refine W.ret ?_
    refine WE.retF tab_ok [_, _] rfl ⟨⟨_, _, _, rfl, rfl, rfl, ((by first | exact Rd.blk 0 rfl | exact Rd.blk 1 rfl | exact Rd.blk 2 rfl | exact Rd.blk 3 rfl)), rfl⟩, rfl, trivial⟩ (hR1) ?_
    exact ⟨f, fc2, rfl, hf, qS⟩

end Go.Proofs.Ytolmmfphdieilaa

/- Two valid curves in normal form. No condition. -/
set_option linter.unusedSimpArgs false
set_option linter.unusedVariables false
namespace Go.Proofs.Ytolmmfphdieilaa
open Go Go.RowKit Go.Proofs.Ytolmmfphdieilaa.K Go.Proofs.Ytolmmfphdieilaa.M

theorem Pair05_C {R : Ro} {fa : Option Addr} {fc : Nat} {c : Cv} (hv : validB c = true) (ha : RS R 1 encI fa c.vals) (hcap : c.vals.length ≤ fc) {ga : Option Addr} {gc : Nat} {d : Cv} (hw : validB d = true) (hb : RS R 1 encI ga d.vals) (hcapd : d.vals.length ≤ gc) (w0 : World) (E : List Ent) : K.Fn Try.prog 62 [.agg #[.slice fa c.vals.length fc, .int .i64 c.per, .int .i64 c.inc], .agg #[.slice ga d.vals.length gc, .int .i64 d.per, .int .i64 d.inc]] w0 R E (fun v R' E' => ∃ (f1 : Option Addr) (k1 : Nat) (f2 : Option Addr) (k2 : Nat), v = .tuple #[.agg #[.slice f1 (normR c).vals.length k1, .int .i64 (normR c).per, .int .i64 (normR c).inc], .agg #[.slice f2 (normR d).vals.length k2, .int .i64 (normR d).per, .int .i64 (normR d).inc], .int .i64 (if 120 < lcmC (normR c) (normR d) then 0 else (lcmC (normR c) (normR d) : Int)), .int .i64 (if 120 < lcmC (normR c) (normR d) then 3 else 0)] ∧ RS R' 1 encI f1 (normR c).vals ∧ RS R' 1 encI f2 (normR d).vals ∧ E.Sublist E') := by
  have hnv := (norm_valid hv).1
  have hnw := (norm_valid hw).1
  obtain ⟨_, _, _, p1, p2, _⟩ := valid_range hnv
  obtain ⟨_, _, _, q1, q2, _⟩ := valid_range hnw
  refine Fn.enter (n := 43) Try.func62 rfl rfl (Nat.le_of_ble_eq_true rfl) rfl ?_
  refine W.seq ?_
  refine W.region _ ?_
  refine WL.ef rfl rfl (by decide) (Ef.box rfl rfl (fun b2 => ?_))
  refine WL.ef rfl rfl (by decide) (Ef.box rfl rfl (fun b3 => ?_))
  refine WL.ef rfl rfl (by decide) (Ef.alloc tab_ok rfl rfl (fun b4 => ?_))
  refine WL.ef rfl rfl (by decide) (Ef.alloc tab_ok rfl rfl (fun b5 => ?_))
  refine WG.run tab_ok 2 rfl ?_
  refine WG.nil ?_
  refine WE.nxt ?_
  refine W.seq ?_
  refine W.region _ ?_
  refine' WG.y rfl rfl (by decide) (Yl.load1 tab_ok rfl rfl rfl (fun _ => rfl) ?r1 rfl ?h1) ?_
  case r1 => (exact Rd.blk 3 rfl)
  case h1 => rfl
  refine WL.call en112 rfl rfl (by decide) (CallOp.mkT rfl rfl rfl rfl) (Normal02_C hv ha hcap w0 _) ?_
  rintro _ R1 E1 hR1 ⟨f1, k1, rfl, hf1, hsub1⟩
  refine WL.subE hsub1 ?_
  unfold cvV
  have hb := hb.mono hR1
  refine WG.run tab_ok 3 rfl ?_
  refine WL.ef rfl rfl (by decide) (Ef.alloc tab_ok rfl rfl (fun b8 => ?_))
  refine WL.efN rfl rfl (Ef.store0 0 tab_ok rfl rfl rfl rfl rfl rfl rfl rfl ?_)
  refine WG.run tab_ok 1 rfl ?_
  refine WG.nil ?_
  refine WE.nxt ?_
  refine W.seq ?_
  refine W.region _ ?_
  refine' WG.y rfl rfl (by decide) (Yl.load1 tab_ok rfl rfl rfl (fun _ => rfl) ?r2 rfl ?h2) ?_
  case r2 => (exact Rd.blk 3 rfl)
  case h2 => rfl
  refine WL.call en112 rfl rfl (by decide) (CallOp.mkT rfl rfl rfl rfl) (Normal02_C hw hb hcapd w0 _) ?_
  rintro _ R2 E2 hR2 ⟨f2, k2, rfl, hf2, hsub2⟩
  refine WL.subE hsub2 ?_
  unfold cvV
  have hf1 := hf1.mono hR2
  generalize normR c = m1 at *
  generalize normR d = m2 at *
  refine WG.run tab_ok 3 rfl ?_
  refine WL.ef rfl rfl (by decide) (Ef.alloc tab_ok rfl rfl (fun b10 => ?_))
  refine WL.efN rfl rfl (Ef.store0 0 tab_ok rfl rfl rfl rfl rfl rfl rfl rfl ?_)
  refine WG.run tab_ok 1 rfl ?_
  refine WG.nil ?_
  refine WE.nxt ?_
  refine W.seq ?_
  refine W.seq ?_
  refine W.region _ ?_
  refine WG.run tab_ok 3 rfl ?_
  refine WL.guardT rfl (by rfl) ?_
  refine WG.y rfl rfl (by decide) (pureV_ok tab_ok rfl (fun _ => rfl)) ?_
  refine WL.guardT rfl (by rfl) ?_
  refine WG.y rfl rfl (by decide) (pureV_ok tab_ok rfl (fun _ => rfl)) ?_
  refine WG.y rfl rfl (by decide) (Yl.por rfl rfl rfl (fun _ => rfl) (by intro h1 h2; simp_all <;> omega)) ?_
  refine WG.nil ?_
  refine WE.nxt ?_
  refine W.cond rfl (fun hc0 => ?_) (fun hc0 => ?_)
  · try simp only [decide_eq_true_eq, decide_eq_false_iff_not, beq_iff_eq, bne_iff_ne, beq_eq_false_iff_ne, bne_eq_false_iff_eq, ne_eq, Bool.or_eq_true, Bool.or_eq_false_iff, Bool.and_eq_true, Bool.and_eq_false_imp, Bool.not_eq_true, Bool.not_eq_true', Bool.not_eq_false', Classical.not_not, Int.not_lt, Int.not_le, gt_iff_lt, ge_iff_le] at hc0
    (simp at hc0; done)
  · try simp only [decide_eq_true_eq, decide_eq_false_iff_not, beq_iff_eq, bne_iff_ne, beq_eq_false_iff_ne, bne_eq_false_iff_eq, ne_eq, Bool.or_eq_true, Bool.or_eq_false_iff, Bool.and_eq_true, Bool.and_eq_false_imp, Bool.not_eq_true, Bool.not_eq_true', Bool.not_eq_false', Classical.not_not, Int.not_lt, Int.not_le, gt_iff_lt, ge_iff_le] at hc0
    refine W.skip ?_
    refine WE.nxt ?_
    refine W.seq ?_
    refine W.region _ ?_
    refine WG.run tab_ok 1 rfl ?_
    refine' WG.y rfl rfl (by decide) (Yl.load1 tab_ok rfl rfl rfl (fun _ => rfl) ?r3 rfl ?h3) ?_
    case r3 => apply Rd.add; (exact Rd.blk 1 rfl)
    case h3 => rfl
    refine WG.run tab_ok 1 rfl ?_
    refine' WG.y rfl rfl (by decide) (Yl.load1 tab_ok rfl rfl rfl (fun _ => rfl) ?r4 rfl ?h4) ?_
    case r4 => apply Rd.add; (exact Rd.blk 0 rfl)
    case h4 => rfl
    refine WG.callV (v := .int .i64 (lcmC m1 m2 : Int)) en113 rfl rfl (by decide) (CallOp.mk' rfl rfl rfl rfl) (fun _ => rfl) (fun hg => by have h := Lcm_V (R := R2) (a := m1.per.toNat) (b := m2.per.toNat) (by omega) (by omega); rw [Int.toNat_of_nonneg (by omega), Int.toNat_of_nonneg (by omega)] at h; exact h) ?_
    refine WG.run tab_ok 1 rfl ?_
    refine WG.nil ?_
    refine WE.nxt ?_
    refine W.seq ?_
    refine W.seq ?_
    refine W.region _ ?_
    refine WG.run tab_ok 2 rfl ?_
    refine WG.nil ?_
    refine WE.nxt ?_
    refine W.condD rfl (fun hc1 => ?_) (fun hc1 => ?_)
    · try dsimp only at hc1
      have hL : 120 < lcmC m1 m2 := by omega
      refine W.seq ?_
      refine W.regionH _ (ES := [.blk b10 [.slice f2 m2.vals.length k2, .int .i64 m2.per, .int .i64 m2.inc], .blk b8 [.slice f1 m1.vals.length k1, .int .i64 m1.per, .int .i64 m1.inc]]) mixed ?_
      refine' WA.take 0 rfl (by kernel_rfl) (by kernel_rfl) (by kernel_rfl) rfl rfl (by decide) (Yl.load1 tab_ok rfl rfl rfl (fun _ => rfl) ?r5 rfl ?h5) qS (by first | exact RLe.refl _ | assumption) ?_
      case r5 => (exact Rd.blk 1 rfl)
      case h5 => rfl
      refine' WA.take 1 rfl (by kernel_rfl) (by kernel_rfl) (by kernel_rfl) rfl rfl (by decide) (Yl.load1 tab_ok rfl rfl rfl (fun _ => rfl) ?r6 rfl ?h6) qS (by first | exact RLe.refl _ | assumption) ?_
      case r6 => (exact Rd.blk 0 rfl)
      case h6 => rfl
      refine WA.effN 2 rfl (by kernel_rfl) rfl rfl (Ef.store0 3 tab_ok rfl rfl rfl rfl rfl rfl rfl rfl ?_)
      refine ⟨by first | exact RLe.refl _ | assumption, qS, ?_⟩
      refine WA.effN 3 rfl (by kernel_rfl) rfl rfl (Ef.store0 2 tab_ok rfl rfl rfl rfl rfl rfl rfl rfl ?_)
      refine ⟨by first | exact RLe.refl _ | assumption, qS, ?_⟩
      refine WA.take 4 rfl (by kernel_rfl) (by kernel_rfl) (by kernel_rfl) rfl rfl (by decide) (pureV_ok tab_ok rfl (fun _ => rfl)) qS (by first | exact RLe.refl _ | assumption) ?_
      refine WA.take 5 rfl (by kernel_rfl) (by kernel_rfl) (by kernel_rfl) rfl rfl (by decide) (pureV_ok tab_ok rfl (fun _ => rfl)) qS (by first | exact RLe.refl _ | assumption) ?_
      refine WA.done (by kernel_rfl) ?_
      refine WE.nxt ?_
      refine W.ret ?_
      refine WE.then_ret ?_
      refine WE.retF tab_ok [_, _, _, _] rfl ⟨⟨_, _, _, rfl, rfl, rfl, ((by first | exact Rd.blk 0 rfl | exact Rd.blk 1 rfl | exact Rd.blk 2 rfl | exact Rd.blk 3 rfl | exact Rd.blk 4 rfl | exact Rd.blk 5 rfl | exact Rd.blk 6 rfl | exact Rd.blk 7 rfl)), rfl⟩, ⟨_, _, _, rfl, rfl, rfl, ((by first | exact Rd.blk 0 rfl | exact Rd.blk 1 rfl | exact Rd.blk 2 rfl | exact Rd.blk 3 rfl | exact Rd.blk 4 rfl | exact Rd.blk 5 rfl | exact Rd.blk 6 rfl | exact Rd.blk 7 rfl)), rfl⟩, rfl, rfl, trivial⟩ (hR1.trans hR2) ?_
      exact ⟨f1, k1, f2, k2, by rw [if_pos hL, if_pos hL]; rfl, hf1, hf2, qS⟩
    · try dsimp only at hc1
      have hL : ¬ 120 < lcmC m1 m2 := by omega
      refine W.skip ?_
      refine WE.nxt ?_
      refine W.seq ?_
      refine W.regionH _ (ES := [.blk b10 [.slice f2 m2.vals.length k2, .int .i64 m2.per, .int .i64 m2.inc], .blk b8 [.slice f1 m1.vals.length k1, .int .i64 m1.per, .int .i64 m1.inc]]) mixed ?_
      refine' WA.take 0 rfl (by kernel_rfl) (by kernel_rfl) (by kernel_rfl) rfl rfl (by decide) (Yl.load1 tab_ok rfl rfl rfl (fun _ => rfl) ?r7 rfl ?h7) qS (by first | exact RLe.refl _ | assumption) ?_
      case r7 => (exact Rd.blk 1 rfl)
      case h7 => rfl
      refine' WA.take 1 rfl (by kernel_rfl) (by kernel_rfl) (by kernel_rfl) rfl rfl (by decide) (Yl.load1 tab_ok rfl rfl rfl (fun _ => rfl) ?r8 rfl ?h8) qS (by first | exact RLe.refl _ | assumption) ?_
      case r8 => (exact Rd.blk 0 rfl)
      case h8 => rfl
      refine WA.take 2 rfl (by kernel_rfl) (by kernel_rfl) (by kernel_rfl) rfl rfl (by decide) (pureV_ok tab_ok rfl (fun _ => rfl)) qS (by first | exact RLe.refl _ | assumption) ?_
      refine WA.effN 3 rfl (by kernel_rfl) rfl rfl (Ef.store0 3 tab_ok rfl rfl rfl rfl rfl rfl rfl rfl ?_)
      refine ⟨by first | exact RLe.refl _ | assumption, qS, ?_⟩
      refine WA.effN 4 rfl (by kernel_rfl) rfl rfl (Ef.store0 2 tab_ok rfl rfl rfl rfl rfl rfl rfl rfl ?_)
      refine ⟨by first | exact RLe.refl _ | assumption, qS, ?_⟩
      refine WA.take 5 rfl (by kernel_rfl) (by kernel_rfl) (by kernel_rfl) rfl rfl (by decide) (pureV_ok tab_ok rfl (fun _ => rfl)) qS (by first | exact RLe.refl _ | assumption) ?_
      refine WA.take 6 rfl (by kernel_rfl) (by kernel_rfl) (by kernel_rfl) rfl rfl (by decide) (pureV_ok tab_ok rfl (fun _ => rfl)) qS (by first | exact RLe.refl _ | assumption) ?_
      refine WA.done (by kernel_rfl) ?_
      refine WE.nxt ?_
      refine W.ret ?_
      refine WE.retF tab_ok [_, _, _, _] rfl ⟨⟨_, _, _, rfl, rfl, rfl, ((by first | exact Rd.blk 0 rfl | exact Rd.blk 1 rfl | exact Rd.blk 2 rfl | exact Rd.blk 3 rfl | exact Rd.blk 4 rfl | exact Rd.blk 5 rfl | exact Rd.blk 6 rfl | exact Rd.blk 7 rfl)), rfl⟩, ⟨_, _, _, rfl, rfl, rfl, ((by first | exact Rd.blk 0 rfl | exact Rd.blk 1 rfl | exact Rd.blk 2 rfl | exact Rd.blk 3 rfl | exact Rd.blk 4 rfl | exact Rd.blk 5 rfl | exact Rd.blk 6 rfl | exact Rd.blk 7 rfl)), rfl⟩, rfl, rfl, trivial⟩ (hR1.trans hR2) ?_
      exact ⟨f1, k1, f2, k2, by rw [if_neg hL, if_neg hL]; rfl, hf1, hf2, qS⟩

theorem Plus05_V {R : Ro} {x y : Int} (hx : x = INF ∨ (0 ≤ x ∧ x ≤ 2000000000000000000)) (hy : y = INF ∨ (0 ≤ y ∧ y ≤ 2000000000000000000)) : FnV Try.prog 69 [.int .i64 x, .int .i64 y] R (.int .i64 (if x = INF ∨ y = INF then INF else x + y)) := by
  unfold INF at *
  refine Fn.toV (fun w0 E => ?_)
  refine Fn.enter (n := 14) Try.func69 rfl rfl (Nat.le_of_ble_eq_true rfl) rfl ?_
  refine W.seq ?_
  refine W.region _ ?_
  refine WG.run tab_ok 1 rfl ?_
  refine WG.nil ?_
  refine WE.nxt ?_
  refine W.seq ?_
  refine W.seq ?_
  refine W.region _ ?_
  refine WG.run tab_ok 3 rfl ?_
  refine WG.y rfl rfl (by decide) (pureV_ok tab_ok rfl qE) ?_
  refine WG.y rfl rfl (by decide) (pureV_ok tab_ok rfl qE) ?_
  refine WG.y rfl rfl (by decide) (Yl.por rfl rfl rfl (fun _ => rfl) (by intro h1 h2; simp_all <;> omega)) ?_
  refine WG.nil ?_
  refine WE.nxt ?_
  refine W.cond rfl (fun hc0 => ?_) (fun hc0 => ?_)
  · try simp only [decide_eq_true_eq, decide_eq_false_iff_not, beq_iff_eq, bne_iff_ne, beq_eq_false_iff_ne, bne_eq_false_iff_eq, ne_eq, Bool.or_eq_true, Bool.or_eq_false_iff, Bool.and_eq_true, Bool.and_eq_false_imp, Bool.not_eq_true, Bool.not_eq_true', Bool.not_eq_false', Classical.not_not, Int.not_lt, Int.not_le, gt_iff_lt, ge_iff_le] at hc0
    have hh : x = 4611686018427387904 ∨ y = 4611686018427387904 := by first | exact hc0 | omega
    refine W.seq ?_
    refine W.region _ ?_
    refine WG.run tab_ok 1 rfl ?_
    refine WG.nil ?_
    refine WE.nxt ?_
    refine W.ret ?_
    refine WE.then_ret ?_
    refine WE.subE (E' := E) qS ?_
    refine WE.retF tab_ok [_] rfl ⟨rfl, trivial⟩ (RLe.refl _) ?_
    exact ⟨by rw [if_pos hh]; rfl, rfl⟩
  · try simp only [decide_eq_true_eq, decide_eq_false_iff_not, beq_iff_eq, bne_iff_ne, beq_eq_false_iff_ne, bne_eq_false_iff_eq, ne_eq, Bool.or_eq_true, Bool.or_eq_false_iff, Bool.and_eq_true, Bool.and_eq_false_imp, Bool.not_eq_true, Bool.not_eq_true', Bool.not_eq_false', Classical.not_not, Int.not_lt, Int.not_le, gt_iff_lt, ge_iff_le] at hc0
    have hh : ¬ (x = 4611686018427387904 ∨ y = 4611686018427387904) := by first | exact hc0 | omega
    refine W.skip ?_
    refine WE.nxt ?_
    refine W.seq ?_
    refine W.region _ ?_
    refine WG.run tab_ok 2 rfl ?_
    refine WG.y rfl rfl (by decide) (Yl.add rfl rfl rfl (fun _ => rfl) (by intro _; constructor <;> (try dsimp only) <;> omega)) ?_
    refine WG.run tab_ok 1 rfl ?_
    refine WG.nil ?_
    refine WE.nxt ?_
    refine W.ret ?_
    refine WE.subE (E' := E) qS ?_
    refine WE.retF tab_ok [_] rfl ⟨rfl, trivial⟩ (RLe.refl _) ?_
    exact ⟨by rw [if_neg hh]; rfl, rfl⟩

end Go.Proofs.Ytolmmfphdieilaa

/- The sum of two small finite curves. No condition. -/
set_option linter.unusedSimpArgs false
set_option linter.unusedVariables false
namespace Go.Proofs.Ytolmmfphdieilaa
open Go Go.RowKit Go.Proofs.Ytolmmfphdieilaa.K Go.Proofs.Ytolmmfphdieilaa.M

set_option maxHeartbeats 4000000 in
theorem Sum05_C {R : Ro} {fa : Option Addr} {fc : Nat} {c : Cv} (hsc : SmallC c) (hfc : finB c = true) (ha : RS R 1 encI fa c.vals) (hcap : c.vals.length ≤ fc) {ga : Option Addr} {gc : Nat} {d : Cv} (hsd : SmallC d) (hfd : finB d = true) (hb : RS R 1 encI ga d.vals) (hcapd : d.vals.length ≤ gc) (w0 : World) (E : List Ent) : K.Fn Try.prog 19 [.agg #[.slice fa c.vals.length fc, .int .i64 c.per, .int .i64 c.inc], .agg #[.slice ga d.vals.length gc, .int .i64 d.per, .int .i64 d.inc]] w0 R E (fun v R' E' => ∃ (f : Option Addr) (k s p : Nat) (q : Int), v = .tuple #[.agg #[.slice f (fvals (plusF (normR c) (normR d)) (s + p)).length k, .int .i64 (p : Int), .int .i64 q], .int .i64 0] ∧ RS R' 1 encI f (fvals (plusF (normR c) (normR d)) (s + p)) ∧ FC (plusF (normR c) (normR d)) s p q ∧ E.Sublist E') := by
  obtain ⟨hL64, hL1, hpl, hrep, hgb, hbd⟩ := small_sum hsc hfc hsd hfd
  obtain ⟨a1, a2, a3, a4, a5, a6, a7, a8, a9⟩ := small_norm hsc hfc
  obtain ⟨b1, b2, b3, b4, b5, b6, b7, b8, b9⟩ := small_norm hsd hfd
  have hnoL : ¬ 120 < lcmC (normR c) (normR d) := by omega
  obtain ⟨hmok, ⟨s, p, q, hmade, hfcr⟩, hle⟩ := small_made hsc hfc hsd hfd
  have hnv := (norm_valid hsc.valid).1
  have hnw := (norm_valid hsd.valid).1
  refine Fn.enter (n := 70) Try.func19 rfl rfl (Nat.le_of_ble_eq_true rfl) rfl ?_
  refine W.seq ?_
  refine W.region _ ?_
  refine WL.ef rfl rfl (by decide) (Ef.box rfl rfl (fun b2 => ?_))
  refine WL.ef rfl rfl (by decide) (Ef.box rfl rfl (fun b3 => ?_))
  refine WL.ef rfl rfl (by decide) (Ef.alloc tab_ok rfl rfl (fun b4 => ?_))
  refine WG.run tab_ok 1 rfl ?_
  refine WG.nil ?_
  refine WE.nxt ?_
  refine W.seq ?_
  refine W.region _ ?_
  refine' WG.y rfl rfl (by decide) (Yl.load1 tab_ok rfl rfl rfl (fun _ => rfl) ?r1 rfl ?h1) ?_
  case r1 => (exact Rd.blk 2 rfl)
  case h1 => rfl
  refine' WG.y rfl rfl (by decide) (Yl.load1 tab_ok rfl rfl rfl (fun _ => rfl) ?r2 rfl ?h2) ?_
  case r2 => (exact Rd.blk 1 rfl)
  case h2 => rfl
  refine WL.call en62 rfl rfl (by decide) (CallOp.mkT rfl rfl rfl rfl) (Pair05_C hsc.valid ha hcap hsd.valid hb hcapd w0 _) ?_
  rintro _ R1 E1 hR1 ⟨f1, k1, f2, k2, rfl, hf1, hf2, hsub1⟩
  refine WL.subE hsub1 ?_
  rw [if_neg hnoL, if_neg hnoL]
  generalize normR c = m1 at *
  generalize normR d = m2 at *
  have hgi : (gainC m1 (lcmC m1 m2) + gainC m2 (lcmC m1 m2)) = m1.inc * ((lcmC m1 m2 : Int) / m1.per) + m2.inc * ((lcmC m1 m2 : Int) / m2.per) := by unfold gainC; rw [Int.mul_comm m1.inc, Int.mul_comm m2.inc]
  have hd1 : 0 ≤ (lcmC m1 m2 : Int) / m1.per ∧ (lcmC m1 m2 : Int) / m1.per ≤ 64 := ⟨Int.ediv_nonneg (by omega) (by omega), by have := Int.ediv_le_self (a := (lcmC m1 m2 : Int)) m1.per (by omega); omega⟩
  have hd2 : 0 ≤ (lcmC m1 m2 : Int) / m2.per ∧ (lcmC m1 m2 : Int) / m2.per ≤ 64 := ⟨Int.ediv_nonneg (by omega) (by omega), by have := Int.ediv_le_self (a := (lcmC m1 m2 : Int)) m2.per (by omega); omega⟩
  have hq1 := mulB (a := m1.inc) (b := (lcmC m1 m2 : Int) / m1.per) (A := 2000) (B := 64) (by omega) (by omega)
  have hq2 := mulB (a := m2.inc) (b := (lcmC m1 m2 : Int) / m2.per) (A := 2000) (B := 64) (by omega) (by omega)
  refine WG.run tab_ok 5 rfl ?_
  refine WL.ef rfl rfl (by decide) (Ef.alloc tab_ok rfl rfl (fun b6 => ?_))
  refine WL.ef rfl rfl (by decide) (Ef.alloc tab_ok rfl rfl (fun b7 => ?_))
  refine WL.efN rfl rfl (Ef.store0 1 tab_ok rfl rfl rfl rfl rfl rfl rfl rfl ?_)
  refine WL.efN rfl rfl (Ef.store0 0 tab_ok rfl rfl rfl rfl rfl rfl rfl rfl ?_)
  refine WG.run tab_ok 2 rfl ?_
  refine WG.nil ?_
  refine WE.nxt ?_
  refine W.seq ?_
  refine W.seq ?_
  refine W.region _ ?_
  refine WG.run tab_ok 2 rfl ?_
  refine WG.nil ?_
  refine WE.nxt ?_
  refine W.condN rfl (fun hc0 => ?_) (fun hc0 => ?_)
  · try dsimp only at hc0
    (simp at hc0; done)
  · try dsimp only at hc0
    refine W.skip ?_
    refine WE.nxt ?_
    refine W.seq ?_
    refine W.regionH _ (ES := [.blk b7 [.slice f2 m2.vals.length k2, .int .i64 m2.per, .int .i64 m2.inc], .blk b6 [.slice f1 m1.vals.length k1, .int .i64 m1.per, .int .i64 m1.inc]]) mixed ?_
    refine WA.take 0 rfl (by kernel_rfl) (by kernel_rfl) (by kernel_rfl) rfl rfl (by decide) (pureV_ok tab_ok rfl (fun _ => rfl)) qS (by first | exact RLe.refl _ | assumption) ?_
    refine WA.take 1 rfl (by kernel_rfl) (by kernel_rfl) (by kernel_rfl) rfl rfl (by decide) (pureV_ok tab_ok rfl (fun _ => rfl)) qS (by first | exact RLe.refl _ | assumption) ?_
    refine' WA.take 2 rfl (by kernel_rfl) (by kernel_rfl) (by kernel_rfl) rfl rfl (by decide) (Yl.load1 tab_ok rfl rfl rfl (fun _ => rfl) ?r3 rfl ?h3) qS (by first | exact RLe.refl _ | assumption) ?_
    case r3 => apply Rd.add; (exact Rd.blk 1 rfl)
    case h3 => rfl
    refine WA.take 3 rfl (by kernel_rfl) (by kernel_rfl) (by kernel_rfl) rfl rfl (by decide) (pureV_ok tab_ok rfl (fun _ => rfl)) qS (by first | exact RLe.refl _ | assumption) ?_
    refine WA.take 4 rfl (by kernel_rfl) (by kernel_rfl) (by kernel_rfl) rfl rfl (by decide) (pureV_ok tab_ok rfl (fun _ => rfl)) qS (by first | exact RLe.refl _ | assumption) ?_
    refine' WA.take 5 rfl (by kernel_rfl) (by kernel_rfl) (by kernel_rfl) rfl rfl (by decide) (Yl.load1 tab_ok rfl rfl rfl (fun _ => rfl) ?r4 rfl ?h4) qS (by first | exact RLe.refl _ | assumption) ?_
    case r4 => apply Rd.add; (exact Rd.blk 1 rfl)
    case h4 => rfl
    refine WA.take 6 rfl (by kernel_rfl) (by kernel_rfl) (by kernel_rfl) rfl rfl (by decide) (Yl.quo rfl rfl rfl (fun _ => rfl) (by intro _; constructor <;> (try dsimp only) <;> omega) (by intro _; omega)) qS (by first | exact RLe.refl _ | assumption) ?_
    refine WA.take 7 rfl (by kernel_rfl) (by kernel_rfl) (by kernel_rfl) rfl rfl (by decide) (Yl.mul rfl rfl rfl (fun _ => rfl) (by intro _; constructor <;> (try dsimp only) <;> omega)) qS (by first | exact RLe.refl _ | assumption) ?_
    refine WA.take 8 rfl (by kernel_rfl) (by kernel_rfl) (by kernel_rfl) rfl rfl (by decide) (pureV_ok tab_ok rfl (fun _ => rfl)) qS (by first | exact RLe.refl _ | assumption) ?_
    refine' WA.take 9 rfl (by kernel_rfl) (by kernel_rfl) (by kernel_rfl) rfl rfl (by decide) (Yl.load1 tab_ok rfl rfl rfl (fun _ => rfl) ?r5 rfl ?h5) qS (by first | exact RLe.refl _ | assumption) ?_
    case r5 => apply Rd.add; (exact Rd.blk 0 rfl)
    case h5 => rfl
    refine WA.take 10 rfl (by kernel_rfl) (by kernel_rfl) (by kernel_rfl) rfl rfl (by decide) (pureV_ok tab_ok rfl (fun _ => rfl)) qS (by first | exact RLe.refl _ | assumption) ?_
    refine WA.take 11 rfl (by kernel_rfl) (by kernel_rfl) (by kernel_rfl) rfl rfl (by decide) (pureV_ok tab_ok rfl (fun _ => rfl)) qS (by first | exact RLe.refl _ | assumption) ?_
    refine' WA.take 12 rfl (by kernel_rfl) (by kernel_rfl) (by kernel_rfl) rfl rfl (by decide) (Yl.load1 tab_ok rfl rfl rfl (fun _ => rfl) ?r6 rfl ?h6) qS (by first | exact RLe.refl _ | assumption) ?_
    case r6 => apply Rd.add; (exact Rd.blk 0 rfl)
    case h6 => rfl
    refine WA.take 13 rfl (by kernel_rfl) (by kernel_rfl) (by kernel_rfl) rfl rfl (by decide) (Yl.quo rfl rfl rfl (fun _ => rfl) (by intro _; constructor <;> (try dsimp only) <;> omega) (by intro _; omega)) qS (by first | exact RLe.refl _ | assumption) ?_
    refine WA.take 14 rfl (by kernel_rfl) (by kernel_rfl) (by kernel_rfl) rfl rfl (by decide) (Yl.mul rfl rfl rfl (fun _ => rfl) (by intro _; constructor <;> (try dsimp only) <;> omega)) qS (by first | exact RLe.refl _ | assumption) ?_
    refine WA.take 15 rfl (by kernel_rfl) (by kernel_rfl) (by kernel_rfl) rfl rfl (by decide) (Yl.add rfl rfl rfl (fun _ => rfl) (by intro _; constructor <;> (try dsimp only) <;> omega)) qS (by first | exact RLe.refl _ | assumption) ?_
    -- build
    refine WA.take 16 rfl (by kernel_rfl) (by kernel_rfl) (by kernel_rfl) rfl rfl (by decide) (Yl.build (parts := [(1, .tmp 24), (2, .tmp 39)]) tab_ok rfl rfl rfl rfl (fun _ => rfl) rfl rfl) qS (by first | exact RLe.refl _ | assumption) ?_
    refine WA.eff 17 rfl (by kernel_rfl) rfl rfl (by decide) (Ef.alloc tab_ok rfl rfl (fun b10 => ?_))
    refine ⟨by first | exact RLe.refl _ | assumption, qS, ?_⟩
    refine WA.effN 18 rfl (by kernel_rfl) rfl rfl (Ef.store0 0 tab_ok rfl rfl rfl rfl rfl rfl rfl rfl ?_)
    refine ⟨by first | exact RLe.refl _ | assumption, qS, ?_⟩
    refine WA.done (by kernel_rfl) ?_
    refine WE.nxt ?_
    refine W.seq ?_
    rw [← hgi]
    generalize (gainC m1 (lcmC m1 m2) + gainC m2 (lcmC m1 m2)) = G at *
    generalize lcmC m1 m2 = L at *
    refine W.nil 3 1 (by decide) ?_
    refine W.seq ?_
    refine W.region _ ?_
    refine WG.run tab_ok 1 rfl ?_
    refine WG.nil ?_
    refine WE.nxt ?_
    refine W.block ?_
    refine W.loopK (β := Nat × Option Addr × Nat) (fun (t, a9, c9) => t ≤ (max m1.vals.length m2.vals.length) + L) (fun (t, a9, c9) => [(11, true, .int .i64 (t : Int))]) [4, 6, 7, 8, 10] [_, _, _, _, _] [] _ rfl (fun (t, a9, c9) => [(0, .sl 3 1 a9 c9 ((fvals (plusF m1 m2) t).map encI)), (1, .blk b10 [.slice a9 (fvals (plusF m1 m2) t).length c9, .int .i64 (L : Int), .int .i64 G])]) (fun (t, a9, c9) => (max m1.vals.length m2.vals.length) + L - t) ((0, none, 0)) (Nat.zero_le _) ⟨rfl, rfl, rfl, rfl, rfl, rfl, rfl⟩ qS ?_
    intro st hst
    obtain ⟨t, a9, c9⟩ := st
    dsimp only [zipE, setAll, List.cons_append, List.nil_append, List.set_cons_zero, List.set_cons_succ] at hst ⊢
    have hfl := fvals_len (plusF m1 m2) t
    refine W.seq ?_
    refine W.seq ?_
    refine W.region _ ?_
    refine WG.run tab_ok 2 rfl ?_
    refine' WG.y rfl rfl (by decide) (Yl.load1 tab_ok rfl rfl rfl (fun _ => rfl) ?r7 rfl ?h7) ?_
    case r7 => apply Rd.add; (exact Rd.blk 3 rfl)
    case h7 => rfl
    refine WG.run tab_ok 2 rfl ?_
    refine' WG.y rfl rfl (by decide) (Yl.load1 tab_ok rfl rfl rfl (fun _ => rfl) ?r8 rfl ?h8) ?_
    case r8 => apply Rd.add; (exact Rd.blk 2 rfl)
    case h8 => rfl
    refine WG.run tab_ok 3 rfl ?_
    refine WG.y rfl rfl (by decide) (Yl.add rfl rfl rfl (fun _ => rfl) (by intro _; constructor <;> (try dsimp only) <;> omega)) ?_
    refine WG.run tab_ok 1 rfl ?_
    refine WG.nil ?_
    refine WE.nxt ?_
    refine W.condD rfl (fun hc1 => ?_) (fun hc1 => ?_)
    · try dsimp only at hc1
      have htM : t < (max m1.vals.length m2.vals.length) + L := by split at hc1 <;> omega
      obtain ⟨x1, x2, x3⟩ := hle t (by omega)
      have e1 : fvals (plusF m1 m2) (t + 1) = fvals (plusF m1 m2) t ++ [(if cvF m1 t = INF ∨ cvF m2 t = INF then INF else cvF m1 t + cvF m2 t)] := by rw [fvals_snoc, x1]
      refine W.skip ?_
      refine WE.nxt ?_
      refine W.seq ?_
      refine W.block ?_
      refine W.regionH _ (ES := [.blk b7 [.slice f2 m2.vals.length k2, .int .i64 m2.per, .int .i64 m2.inc], .blk b6 [.slice f1 m1.vals.length k1, .int .i64 m1.per, .int .i64 m1.inc]]) mixed ?_
      refine WA.take 0 rfl (by kernel_rfl) (by kernel_rfl) (by kernel_rfl) rfl rfl (by decide) (pureV_ok tab_ok rfl (fun _ => rfl)) qS (by first | exact RLe.refl _ | assumption) ?_
      refine' WA.take 2 rfl (by kernel_rfl) (by kernel_rfl) (by kernel_rfl) rfl rfl (by decide) (Yl.load1 tab_ok rfl rfl rfl (fun _ => rfl) ?r9 rfl ?h9) qS (by first | exact RLe.refl _ | assumption) ?_
      case r9 => (exact Rd.blk 1 rfl)
      case h9 => rfl
      refine WA.take 3 rfl (by kernel_rfl) (by kernel_rfl) (by kernel_rfl) rfl rfl (by decide) (pureV_ok tab_ok rfl (fun _ => rfl)) qS (by first | exact RLe.refl _ | assumption) ?_
      refine' WA.take 5 rfl (by kernel_rfl) (by kernel_rfl) (by kernel_rfl) rfl rfl (by decide) (Yl.load1 tab_ok rfl rfl rfl (fun _ => rfl) ?r10 rfl ?h10) qS (by first | exact RLe.refl _ | assumption) ?_
      case r10 => (exact Rd.blk 0 rfl)
      case h10 => rfl
      refine WA.take 6 rfl (by kernel_rfl) (by kernel_rfl) (by kernel_rfl) rfl rfl (by decide) (pureV_ok tab_ok rfl (fun _ => rfl)) qS (by first | exact RLe.refl _ | assumption) ?_
      refine WA.br2 (i := 1) (j := 4) (by kernel_rfl) ?_ ?_
      ·
        refine' WS.yl rfl rfl rfl (by decide) (Yl.load1 tab_ok rfl rfl rfl (fun _ => rfl) ?r11 rfl ?h11) qS (RLe.refl _) ?_
        case r11 => apply Rd.add; (exact Rd.blk 1 rfl)
        case h11 => rfl
        refine WA.callG 4 rfl (by kernel_rfl) en18 rfl (by first | rfl | decide) rfl (by decide) (CallOp.mkT rfl rfl rfl rfl) (FnV.toFn (AtG_V (fc := k1) hnv hf1 (t := t) (by omega))) ?_
        rintro _ _ _ - ⟨rfl, rfl, rfl⟩
        refine ⟨by first | exact RLe.refl _ | assumption, qS, ?_⟩
        refine WA.callG 7 rfl (by kernel_rfl) en18 rfl (by first | rfl | decide) rfl (by decide) (CallOp.mkT rfl rfl rfl rfl) (FnV.toFn (AtG_V (fc := k2) hnw hf2 (t := t) (by omega))) ?_
        rintro _ _ _ - ⟨rfl, rfl, rfl⟩
        refine ⟨by first | exact RLe.refl _ | assumption, qS, ?_⟩
        refine WA.callG 8 rfl (by kernel_rfl) en69 rfl (by first | rfl | decide) rfl (by decide) (CallOp.mkT rfl rfl rfl rfl) (FnV.toFn (Plus05_V (.inr x2) (.inr x3))) ?_
        rintro _ _ _ - ⟨rfl, rfl, rfl⟩
        refine ⟨by first | exact RLe.refl _ | assumption, qS, ?_⟩
        refine WA.eff 9 rfl (by kernel_rfl) rfl rfl (by decide) (Ef.buildSliceD (enc := encI) (parts := [.tmp 62]) [_] tab_ok rfl rfl rfl rfl rfl rfl rfl rfl (by decide) (by decide) (fun a63 => ?_))
        refine ⟨by first | exact RLe.refl _ | assumption, qS, ?_⟩
        refine WA.eff 10 rfl (by kernel_rfl) rfl rfl (by decide) (Ef.appendD 1 0 tab_ok rfl rfl rfl rfl rfl rfl rfl rfl rfl rfl rfl (fun _ _ => rfl) (by simp only [List.length_cons, List.length_nil]; omega) (by simp only [List.length_cons, List.length_nil]; omega) (fun a64 c64 ha64 => ?_))
        refine ⟨by first | exact RLe.refl _ | assumption, qS, ?_⟩
        refine WA.take 11 rfl (by kernel_rfl) (by kernel_rfl) (by kernel_rfl) rfl rfl (by decide) (pureV_ok tab_ok rfl (fun _ => rfl)) qS (by first | exact RLe.refl _ | assumption) ?_
        refine WA.effN 12 rfl (by kernel_rfl) rfl rfl (Ef.store 2 tab_ok rfl rfl rfl rfl rfl rfl rfl rfl ?_)
        refine ⟨by first | exact RLe.refl _ | assumption, qS, ?_⟩
        refine WA.done (by kernel_rfl) ?_
        refine WE.blk _ ?_
        refine WE.nxt ?_
        refine W.region _ ?_
        refine WG.run tab_ok 1 rfl ?_
        refine WG.y rfl rfl (by decide) (Yl.add rfl rfl rfl (fun _ => rfl) (by intro _; constructor <;> (try dsimp only) <;> omega)) ?_
        refine WG.run tab_ok 1 rfl ?_
        refine WG.nil ?_
        refine WE.again ((t + 1, a64, c64)) (by dsimp only; omega) (by (try dsimp only); omega) ⟨rfl, rfl, rfl, rfl, rfl, rfl, rfl⟩ (RLe.refl _) (by dsimp only [setAll, List.set_cons_zero, List.set_cons_succ]; rw [e1, List.length_append]; exact qS)
      ·
        refine WS.callG rfl en18 rfl (by first | rfl | decide) rfl (by decide) (CallOp.mkT rfl rfl rfl rfl) (FnV.toFn (AtG_V (fc := k1) hnv hf1 (t := t) (by omega))) ?_
        rintro _ _ _ - ⟨rfl, rfl, rfl⟩
        refine ⟨by first | exact RLe.refl _ | assumption, qS, ?_⟩
        refine WA.br2 (i := 1) (j := 7) (by kernel_rfl) ?_ ?_
        ·
          refine' WS.yl rfl rfl rfl (by decide) (Yl.load1 tab_ok rfl rfl rfl (fun _ => rfl) ?r12 rfl ?h12) qS (RLe.refl _) ?_
          case r12 => apply Rd.add; (exact Rd.blk 1 rfl)
          case h12 => rfl
          refine WA.callG 7 rfl (by kernel_rfl) en18 rfl (by first | rfl | decide) rfl (by decide) (CallOp.mkT rfl rfl rfl rfl) (FnV.toFn (AtG_V (fc := k2) hnw hf2 (t := t) (by omega))) ?_
          rintro _ _ _ - ⟨rfl, rfl, rfl⟩
          refine ⟨by first | exact RLe.refl _ | assumption, qS, ?_⟩
          refine WA.callG 8 rfl (by kernel_rfl) en69 rfl (by first | rfl | decide) rfl (by decide) (CallOp.mkT rfl rfl rfl rfl) (FnV.toFn (Plus05_V (.inr x2) (.inr x3))) ?_
          rintro _ _ _ - ⟨rfl, rfl, rfl⟩
          refine ⟨by first | exact RLe.refl _ | assumption, qS, ?_⟩
          refine WA.eff 9 rfl (by kernel_rfl) rfl rfl (by decide) (Ef.buildSliceD (enc := encI) (parts := [.tmp 62]) [_] tab_ok rfl rfl rfl rfl rfl rfl rfl rfl (by decide) (by decide) (fun a63 => ?_))
          refine ⟨by first | exact RLe.refl _ | assumption, qS, ?_⟩
          refine WA.eff 10 rfl (by kernel_rfl) rfl rfl (by decide) (Ef.appendD 1 0 tab_ok rfl rfl rfl rfl rfl rfl rfl rfl rfl rfl rfl (fun _ _ => rfl) (by simp only [List.length_cons, List.length_nil]; omega) (by simp only [List.length_cons, List.length_nil]; omega) (fun a64 c64 ha64 => ?_))
          refine ⟨by first | exact RLe.refl _ | assumption, qS, ?_⟩
          refine WA.take 11 rfl (by kernel_rfl) (by kernel_rfl) (by kernel_rfl) rfl rfl (by decide) (pureV_ok tab_ok rfl (fun _ => rfl)) qS (by first | exact RLe.refl _ | assumption) ?_
          refine WA.effN 12 rfl (by kernel_rfl) rfl rfl (Ef.store 2 tab_ok rfl rfl rfl rfl rfl rfl rfl rfl ?_)
          refine ⟨by first | exact RLe.refl _ | assumption, qS, ?_⟩
          refine WA.done (by kernel_rfl) ?_
          refine WE.blk _ ?_
          refine WE.nxt ?_
          refine W.region _ ?_
          refine WG.run tab_ok 1 rfl ?_
          refine WG.y rfl rfl (by decide) (Yl.add rfl rfl rfl (fun _ => rfl) (by intro _; constructor <;> (try dsimp only) <;> omega)) ?_
          refine WG.run tab_ok 1 rfl ?_
          refine WG.nil ?_
          refine WE.again ((t + 1, a64, c64)) (by dsimp only; omega) (by (try dsimp only); omega) ⟨rfl, rfl, rfl, rfl, rfl, rfl, rfl⟩ (RLe.refl _) (by dsimp only [setAll, List.set_cons_zero, List.set_cons_succ]; rw [e1, List.length_append]; exact qS)
        ·
          refine WS.callG rfl en18 rfl (by first | rfl | decide) rfl (by decide) (CallOp.mkT rfl rfl rfl rfl) (FnV.toFn (AtG_V (fc := k2) hnw hf2 (t := t) (by omega))) ?_
          rintro _ _ _ - ⟨rfl, rfl, rfl⟩
          refine ⟨by first | exact RLe.refl _ | assumption, qS, ?_⟩
          refine WA.br2 (i := 1) (j := 8) (by kernel_rfl) ?_ ?_
          ·
            refine' WS.yl rfl rfl rfl (by decide) (Yl.load1 tab_ok rfl rfl rfl (fun _ => rfl) ?r13 rfl ?h13) qS (RLe.refl _) ?_
            case r13 => apply Rd.add; (exact Rd.blk 1 rfl)
            case h13 => rfl
            refine WA.callG 8 rfl (by kernel_rfl) en69 rfl (by first | rfl | decide) rfl (by decide) (CallOp.mkT rfl rfl rfl rfl) (FnV.toFn (Plus05_V (.inr x2) (.inr x3))) ?_
            rintro _ _ _ - ⟨rfl, rfl, rfl⟩
            refine ⟨by first | exact RLe.refl _ | assumption, qS, ?_⟩
            refine WA.eff 9 rfl (by kernel_rfl) rfl rfl (by decide) (Ef.buildSliceD (enc := encI) (parts := [.tmp 62]) [_] tab_ok rfl rfl rfl rfl rfl rfl rfl rfl (by decide) (by decide) (fun a63 => ?_))
            refine ⟨by first | exact RLe.refl _ | assumption, qS, ?_⟩
            refine WA.eff 10 rfl (by kernel_rfl) rfl rfl (by decide) (Ef.appendD 1 0 tab_ok rfl rfl rfl rfl rfl rfl rfl rfl rfl rfl rfl (fun _ _ => rfl) (by simp only [List.length_cons, List.length_nil]; omega) (by simp only [List.length_cons, List.length_nil]; omega) (fun a64 c64 ha64 => ?_))
            refine ⟨by first | exact RLe.refl _ | assumption, qS, ?_⟩
            refine WA.take 11 rfl (by kernel_rfl) (by kernel_rfl) (by kernel_rfl) rfl rfl (by decide) (pureV_ok tab_ok rfl (fun _ => rfl)) qS (by first | exact RLe.refl _ | assumption) ?_
            refine WA.effN 12 rfl (by kernel_rfl) rfl rfl (Ef.store 2 tab_ok rfl rfl rfl rfl rfl rfl rfl rfl ?_)
            refine ⟨by first | exact RLe.refl _ | assumption, qS, ?_⟩
            refine WA.done (by kernel_rfl) ?_
            refine WE.blk _ ?_
            refine WE.nxt ?_
            refine W.region _ ?_
            refine WG.run tab_ok 1 rfl ?_
            refine WG.y rfl rfl (by decide) (Yl.add rfl rfl rfl (fun _ => rfl) (by intro _; constructor <;> (try dsimp only) <;> omega)) ?_
            refine WG.run tab_ok 1 rfl ?_
            refine WG.nil ?_
            refine WE.again ((t + 1, a64, c64)) (by dsimp only; omega) (by (try dsimp only); omega) ⟨rfl, rfl, rfl, rfl, rfl, rfl, rfl⟩ (RLe.refl _) (by dsimp only [setAll, List.set_cons_zero, List.set_cons_succ]; rw [e1, List.length_append]; exact qS)
          ·
            refine WS.callG rfl en69 rfl (by first | rfl | decide) rfl (by decide) (CallOp.mkT rfl rfl rfl rfl) (FnV.toFn (Plus05_V (.inr x2) (.inr x3))) ?_
            rintro _ _ _ - ⟨rfl, rfl, rfl⟩
            refine ⟨by first | exact RLe.refl _ | assumption, qS, ?_⟩
            refine WA.br2 (i := 1) (j := 9) (by kernel_rfl) ?_ ?_
            ·
              refine' WS.yl rfl rfl rfl (by decide) (Yl.load1 tab_ok rfl rfl rfl (fun _ => rfl) ?r14 rfl ?h14) qS (RLe.refl _) ?_
              case r14 => apply Rd.add; (exact Rd.blk 1 rfl)
              case h14 => rfl
              refine WA.eff 9 rfl (by kernel_rfl) rfl rfl (by decide) (Ef.buildSliceD (enc := encI) (parts := [.tmp 62]) [_] tab_ok rfl rfl rfl rfl rfl rfl rfl rfl (by decide) (by decide) (fun a63 => ?_))
              refine ⟨by first | exact RLe.refl _ | assumption, qS, ?_⟩
              refine WA.eff 10 rfl (by kernel_rfl) rfl rfl (by decide) (Ef.appendD 1 0 tab_ok rfl rfl rfl rfl rfl rfl rfl rfl rfl rfl rfl (fun _ _ => rfl) (by simp only [List.length_cons, List.length_nil]; omega) (by simp only [List.length_cons, List.length_nil]; omega) (fun a64 c64 ha64 => ?_))
              refine ⟨by first | exact RLe.refl _ | assumption, qS, ?_⟩
              refine WA.take 11 rfl (by kernel_rfl) (by kernel_rfl) (by kernel_rfl) rfl rfl (by decide) (pureV_ok tab_ok rfl (fun _ => rfl)) qS (by first | exact RLe.refl _ | assumption) ?_
              refine WA.effN 12 rfl (by kernel_rfl) rfl rfl (Ef.store 2 tab_ok rfl rfl rfl rfl rfl rfl rfl rfl ?_)
              refine ⟨by first | exact RLe.refl _ | assumption, qS, ?_⟩
              refine WA.done (by kernel_rfl) ?_
              refine WE.blk _ ?_
              refine WE.nxt ?_
              refine W.region _ ?_
              refine WG.run tab_ok 1 rfl ?_
              refine WG.y rfl rfl (by decide) (Yl.add rfl rfl rfl (fun _ => rfl) (by intro _; constructor <;> (try dsimp only) <;> omega)) ?_
              refine WG.run tab_ok 1 rfl ?_
              refine WG.nil ?_
              refine WE.again ((t + 1, a64, c64)) (by dsimp only; omega) (by (try dsimp only); omega) ⟨rfl, rfl, rfl, rfl, rfl, rfl, rfl⟩ (RLe.refl _) (by dsimp only [setAll, List.set_cons_zero, List.set_cons_succ]; rw [e1, List.length_append]; exact qS)
            ·
              refine WS.eff rfl rfl rfl (by decide) (Ef.buildSliceD (enc := encI) (parts := [.tmp 62]) [_] tab_ok rfl rfl rfl rfl rfl rfl rfl rfl (by decide) (by decide) (fun a63 => ?_))
              refine ⟨by first | exact RLe.refl _ | assumption, qS, ?_⟩
              refine' WA.yl 1 rfl (by kernel_rfl) rfl rfl (by decide) (Yl.load1 tab_ok rfl rfl rfl (fun _ => rfl) ?r15 rfl ?h15) qS (RLe.refl _) ?_
              case r15 => apply Rd.add; (exact Rd.blk 2 rfl)
              case h15 => rfl
              refine WA.eff 10 rfl (by kernel_rfl) rfl rfl (by decide) (Ef.appendD 1 0 tab_ok rfl rfl rfl rfl rfl rfl rfl rfl rfl rfl rfl (fun _ _ => rfl) (by simp only [List.length_cons, List.length_nil]; omega) (by simp only [List.length_cons, List.length_nil]; omega) (fun a64 c64 ha64 => ?_))
              refine ⟨by first | exact RLe.refl _ | assumption, qS, ?_⟩
              refine WA.take 11 rfl (by kernel_rfl) (by kernel_rfl) (by kernel_rfl) rfl rfl (by decide) (pureV_ok tab_ok rfl (fun _ => rfl)) qS (by first | exact RLe.refl _ | assumption) ?_
              refine WA.effN 12 rfl (by kernel_rfl) rfl rfl (Ef.store 2 tab_ok rfl rfl rfl rfl rfl rfl rfl rfl ?_)
              refine ⟨by first | exact RLe.refl _ | assumption, qS, ?_⟩
              refine WA.done (by kernel_rfl) ?_
              refine WE.blk _ ?_
              refine WE.nxt ?_
              refine W.region _ ?_
              refine WG.run tab_ok 1 rfl ?_
              refine WG.y rfl rfl (by decide) (Yl.add rfl rfl rfl (fun _ => rfl) (by intro _; constructor <;> (try dsimp only) <;> omega)) ?_
              refine WG.run tab_ok 1 rfl ?_
              refine WG.nil ?_
              refine WE.again ((t + 1, a64, c64)) (by dsimp only; omega) (by (try dsimp only); omega) ⟨rfl, rfl, rfl, rfl, rfl, rfl, rfl⟩ (RLe.refl _) (by dsimp only [setAll, List.set_cons_zero, List.set_cons_succ]; rw [e1, List.length_append]; exact qS)
    · try dsimp only at hc1
      obtain rfl : t = (max m1.vals.length m2.vals.length) + L := by split at hc1 <;> omega
      refine W.cap 0 rfl ?_
      intro hcp
      rw [List.length_map] at hcp
      refine W.freeze (enc := encI) (xs := fvals (plusF m1 m2) ((max m1.vals.length m2.vals.length) + L)) 0 rfl ?_
      intro R2 hR2 hv0
      refine W.exit ?_
      refine WE.then_exit ?_
      refine WE.then_exit ?_
      refine WE.blk_exit ?_
      refine WE.nxt ?_
      refine W.seq ?_
      refine W.region _ ?_
      refine' WG.y rfl rfl (by decide) (Yl.load1 tab_ok rfl rfl rfl (fun _ => rfl) ?r16 rfl ?h16) ?_
      case r16 => (exact Rd.blk 0 rfl)
      case h16 => rfl
      refine WL.call en51 rfl rfl (by decide) (CallOp.mkT rfl rfl rfl rfl) (MadeG_C hv0 (by omega) hmok hcp w0 _) ?_
      rintro _ R4 E4 hR4 ⟨f, fc4, rfl, hf4, hsub4⟩
      refine WL.subE hsub4 ?_
      rw [hmade] at hf4 ⊢
      unfold cvV
      refine WG.run tab_ok 2 rfl ?_
      refine WL.efN rfl rfl (Ef.store0 3 tab_ok rfl rfl rfl rfl rfl rfl rfl rfl ?_)
      refine WG.run tab_ok 1 rfl ?_
      refine WG.nil ?_
      refine WE.nxt ?_
      refine W.ret ?_
      refine WE.retF tab_ok [_, _] rfl ⟨⟨_, _, _, rfl, rfl, rfl, ((by first | exact Rd.blk 0 rfl | exact Rd.blk 1 rfl | exact Rd.blk 2 rfl | exact Rd.blk 3 rfl | exact Rd.blk 4 rfl | exact Rd.blk 5 rfl | exact Rd.blk 6 rfl | exact Rd.blk 7 rfl)), rfl⟩, rfl, trivial⟩ (hR1.trans (hR2.trans hR4)) ?_
      exact ⟨f, fc4, s, p, q, rfl, hf4, hfcr, qS⟩

end Go.Proofs.Ytolmmfphdieilaa

/- Chapter 18: greater contracts leave less. No condition. -/
set_option linter.unusedSimpArgs false
set_option linter.unusedVariables false
namespace Go.Proofs.Ytolmmfphdieilaa
open Go Go.RowKit Go.Proofs.Ytolmmfphdieilaa.K Go.Proofs.Ytolmmfphdieilaa.M

theorem PCurve_len {R : Ro} {la za : Option Addr} {lc zc l m : Nat} {ls : List CvS} {z : List Sz} (hla : RS R 3 encC la ls) (hl : ls.length = l) (hlc : ls.length ≤ lc) (hls : ∀ x ∈ ls, RS R 1 encI x.a x.cv.vals ∧ x.cv.vals.length ≤ 100000) (hzr : RS R 2 encZ za z) (hm : z.length = m) (hzc : z.length ≤ zc) {cap cls : Int} (w0 : World) (E : List Ent) : K.Fn Try.prog 45 [.int .i64 cap, .int .i64 cls, .slice la ls.length lc, .slice za z.length zc] w0 R E (fun r R' E' => ∃ (f : Option Addr) (fc : Nat), r = cvV f fc (prioC cap cls (ls.map CvS.cv) z) ∧ RS R' 1 encI f (prioC cap cls (ls.map CvS.cv) z).1.vals ∧ E.Sublist E') := PCurve_C hla hlc hls hzr hzc w0 E

theorem PCurve_l2 {R : Ro} {la za : Option Addr} {lc zc l m : Nat} {ls : List CvS} {z : List Sz} (hla : RS R 3 encC la ls) (hl : ls.length = l) (hlc : ls.length ≤ lc) (hls : ∀ x ∈ ls, RS R 1 encI x.a x.cv.vals ∧ x.cv.vals.length ≤ 100000) (hzr : RS R 2 encZ za z) (hm : z.length = m) (hzc : z.length ≤ zc) {cap cls : Int} (w0 : World) (E : List Ent) : K.Fn Try.prog 45 [.int .i64 cap, .int .i64 cls, .slice la l lc, .slice za m zc] w0 R E (fun r R' E' => ∃ (f : Option Addr) (fc : Nat), r = cvV f fc (prioC cap cls (ls.map CvS.cv) z) ∧ RS R' 1 encI f (prioC cap cls (ls.map CvS.cv) z).1.vals ∧ E.Sublist E') := by
  subst hl; subst hm; exact PCurve_C hla hlc hls hzr hzc w0 E

theorem fin_of96 {F : Nat → Int} {s p : Nat} {q : Int} (h : FC F s p q) : finB ⟨fvals F (s + p), p, q⟩ = true := by
  have hP := h.hP
  unfold finB
  dsimp only
  rw [fvals_len, fvals_nth F (by omega), bne_iff_ne]
  exact h.fin (by omega)

set_option maxHeartbeats 4000000 in
theorem PriorityMonotone_F {R : Ro} {a : Option Addr} {c : Nat} {xs : List Int} (ha : RS R 1 encI a xs) (hc : xs.length ≤ c) (w0 : World) : K.Fn Try.prog 8 [.slice a xs.length c] w0 R [] (fun v _ _ => v = .bool true) := by
  refine Fn.enter (n := 141) Try.func8 rfl rfl (Nat.le_of_ble_eq_true rfl) rfl ?_
  refine W.seq ?_
  refine W.region _ ?_
  refine WG.run tab_ok 1 rfl ?_
  refine WG.nil ?_
  refine WE.nxt ?_
  refine W.seq ?_
  refine W.region _ ?_
  refine WG.run tab_ok 1 rfl ?_
  refine WL.call en10 rfl rfl (by decide) (CallOp.mkT rfl rfl rfl rfl) (New_C w0 _ hc) ?_
  rintro _ _ _ - ⟨b, rfl, rfl, rfl⟩
  have hz := ha.take 2000
  refine WG.run tab_ok 1 rfl ?_
  refine WG.nil ?_
  refine WE.nxt ?_
  refine W.seq ?_
  refine W.region _ ?_
  refine WG.run tab_ok 1 rfl ?_
  refine WL.callAt 0 en12 rfl rfl (by decide) (CallOp.mkT rfl rfl rfl rfl) rfl (N_C w0 hz (by constructor <;> decide) _) ?_
  rintro _ _ _ _ - ⟨rfl, rfl, rfl, rfl⟩
  have hm30 := mod_range (nth (xs.take 2000) (0)) (show (1 : Int) ≤ 30 by decide)
  refine WG.y rfl rfl (by decide) (Yl.add rfl rfl rfl (fun _ => rfl) (by intro _; constructor <;> (try dsimp only) <;> omega)) ?_
  refine WG.run tab_ok 1 rfl ?_
  refine WG.nil ?_
  refine WE.nxt ?_
  refine W.seq ?_
  refine W.region _ ?_
  refine WG.run tab_ok 1 rfl ?_
  refine WL.callAt 0 en11 rfl rfl (by decide) (CallOp.mkT rfl rfl rfl rfl) rfl (Zero_C w0 hz (most := 4) (by decide) _) ?_
  rintro _ R1 _ _ hR1 ⟨fz1, kz1, n1, v1, rfl, hzv1, hsm1, hfn1, hz01, hcp1, rfl, rfl⟩
  have hz := hz.mono hR1
  refine WG.run tab_ok 1 rfl ?_
  refine WL.callAt 0 en11 rfl rfl (by decide) (CallOp.mkT rfl rfl rfl rfl) rfl (Zero_C w0 hz (most := 4) (by decide) _) ?_
  rintro _ R2 _ _ hR2 ⟨fz2, kz2, n2, v2, rfl, hzv2, hsm2, hfn2, hz02, hcp2, rfl, rfl⟩
  have hz := hz.mono hR2
  have hzv1 := hzv1.mono hR2
  refine WG.run tab_ok 1 rfl ?_
  refine WL.callAt 0 en11 rfl rfl (by decide) (CallOp.mkT rfl rfl rfl rfl) rfl (Zero_C w0 hz (most := 4) (by decide) _) ?_
  rintro _ R3 _ _ hR3 ⟨fz3, kz3, n3, v3, rfl, hzv3, hsm3, hfn3, hz03, hcp3, rfl, rfl⟩
  have hz := hz.mono hR3
  have hzv1 := hzv1.mono hR3
  have hzv2 := hzv2.mono hR3
  refine WL.ef rfl rfl (by decide) (Ef.buildSliceD (enc := encC) (parts := [.tmp 26, .tmp 28, .tmp 30]) [(⟨fz1, kz1, v1⟩ : CvS), ⟨fz2, kz2, v2⟩, ⟨fz3, kz3, v3⟩] tab_ok rfl rfl rfl rfl rfl rfl rfl rfl (by decide) (by decide) (fun a31 => ?_))
  refine WL.freeze (enc := encC) (xs := ([⟨fz1, kz1, v1⟩, ⟨fz2, kz2, v2⟩, ⟨fz3, kz3, v3⟩] : List CvS)) 0 rfl ?_
  intro R4 hR4 hal
  have hz := hz.mono hR4
  have hzv1 := hzv1.mono hR4
  have hzv2 := hzv2.mono hR4
  have hzv3 := hzv3.mono hR4
  refine WG.run tab_ok 1 rfl ?_
  refine WG.nil ?_
  refine WE.nxt ?_
  refine W.seq ?_
  refine W.region _ ?_
  -- build
  refine WG.y rfl rfl (by decide) (Yl.build (parts := [(0, .const (.int .i64 1)), (1, .const (.int .i64 9))]) tab_ok rfl rfl rfl rfl (fun _ => rfl) rfl rfl) ?_
  -- build
  refine WG.y rfl rfl (by decide) (Yl.build (parts := [(0, .const (.int .i64 1)), (1, .const (.int .i64 9))]) tab_ok rfl rfl rfl rfl (fun _ => rfl) rfl rfl) ?_
  -- build
  refine WG.y rfl rfl (by decide) (Yl.build (parts := [(0, .const (.int .i64 1)), (1, .const (.int .i64 9))]) tab_ok rfl rfl rfl rfl (fun _ => rfl) rfl rfl) ?_
  refine WL.ef rfl rfl (by decide) (Ef.buildSliceD (enc := encZ) (parts := [.tmp 32, .tmp 33, .tmp 34]) [(⟨1, 9⟩ : Sz), ⟨1, 9⟩, ⟨1, 9⟩] tab_ok rfl rfl rfl rfl rfl rfl rfl rfl (by decide) (by decide) (fun a35 => ?_))
  refine WL.freeze (enc := encZ) (xs := ([⟨1, 9⟩, ⟨1, 9⟩, ⟨1, 9⟩] : List Sz)) 0 rfl ?_
  intro R5 hR5 hzz
  have hz := hz.mono hR5
  have hal := hal.mono hR5
  have hzv1 := hzv1.mono hR5
  have hzv2 := hzv2.mono hR5
  have hzv3 := hzv3.mono hR5
  refine WG.run tab_ok 1 rfl ?_
  refine WG.nil ?_
  refine WE.nxt ?_
  refine W.seqCut (β := Ro × Nat × Cv × Option Addr × Nat × Nat × Nat × Int × Nat) (fun (Rk, b7, v4, fsm, ksm, s, p, q, n4) => RLe R5 Rk ∧ SmallC v4 ∧ finB v4 = true ∧ RS Rk 1 encI fsm (fvals (plusF (normR v1) (normR v4)) (s + p)) ∧ FC (plusF (normR v1) (normR v4)) s p q) (fun (Rk, b7, v4, fsm, ksm, s, p, q, n4) => [(3, true, .pointer (some ⟨b, 0, none⟩)), (4, true, .int .i64 (1 + mod (nth (xs.take 2000) 0) 30)), (5, true, .slice (some ⟨a31, 0, none⟩) 3 3), (6, true, .slice (some ⟨a35, 0, none⟩) 3 3), (7, true, .pointer (some ⟨b7, 0, none⟩)), (8, true, .int .i64 0)]) (fun (Rk, _) => Rk) (fun (_, b7, v4, fsm, ksm, s, p, q, n4) => [.blk b7 [.slice fsm (fvals (plusF (normR v1) (normR v4)) (s + p)).length ksm, .int .i64 (p : Int), .int .i64 q], srcE b a c (xs.take 2000) n4]) ?_ ?_
  ·
    intro zz hst
    obtain ⟨Rk, b7, v4, fsm, ksm, s, p, q, n4⟩ := zz
    obtain ⟨hRk, hsm4, hfn4, hfs, hfcs⟩ := hst
    dsimp only at hRk hsm4 hfn4 hfs hfcs ⊢
    have hz := hz.mono hRk
    have hal := hal.mono hRk
    have hzz := hzz.mono hRk
    have hzv1 := hzv1.mono hRk
    have hzv2 := hzv2.mono hRk
    have hzv3 := hzv3.mono hRk
    refine W.seq ?_
    refine W.seq ?_
    refine W.region _ ?_
    refine WG.run tab_ok 2 rfl ?_
    refine WG.nil ?_
    refine WE.nxt ?_
    refine W.condN rfl (fun hc0 => ?_) (fun hc0 => ?_)
    · try dsimp only at hc0
      (simp at hc0; done)
    · try dsimp only at hc0
      refine W.skip ?_
      refine WE.nxt ?_
      refine W.seq ?_
      refine W.region _ ?_
      refine WL.ef rfl rfl (by decide) (Ef.buildSliceD (enc := encZ) (parts := []) [] tab_ok rfl rfl rfl rfl rfl rfl rfl rfl (by decide) (by decide) (fun a47 => ?_))
      refine WG.run tab_ok 1 rfl ?_
      refine WL.ef rfl rfl (by decide) (Ef.cloneL (enc := encZ) (ys := ([⟨1, 9⟩, ⟨1, 9⟩, ⟨1, 9⟩] : List Sz)) 0 tab_ok rfl rfl rfl rfl rfl rfl rfl rfl rfl rfl hzz (fun _ _ => rfl) (by simp only [List.length_cons, List.length_nil]; omega) (by simp only [List.length_cons, List.length_nil]; omega) (fun a49 c49 ha49 => ?_))
      refine WG.run tab_ok 1 rfl ?_
      refine WG.nil ?_
      refine WE.nxt ?_
      have hm20 := mod_range (nth (xs.take 2000) n4) (show (1 : Int) ≤ 20 by decide)
      have hz9 : (nth ([⟨1, 9⟩, ⟨1, 9⟩, ⟨1, 9⟩] : List Sz) (Int.toNat 2)).most = 9 := rfl
      refine W.seqCut (β := List Sz) (fun z2 => z2 = (([⟨1, 9⟩, ⟨1, 9⟩, ⟨1, 9⟩] : List Sz).set (Int.toNat 2) (⟨(nth ([⟨1, 9⟩, ⟨1, 9⟩, ⟨1, 9⟩] : List Sz) (Int.toNat 2)).least, (nth ([⟨1, 9⟩, ⟨1, 9⟩, ⟨1, 9⟩] : List Sz) (Int.toNat 2)).most + mod (nth (xs.take 2000) n4) 20⟩ : Sz))) (fun z2 => [(3, true, .pointer (some ⟨b, 0, none⟩)), (4, true, .int .i64 (1 + mod (nth (xs.take 2000) 0) 30)), (5, true, .slice (some ⟨a31, 0, none⟩) 3 3), (6, true, .slice (some ⟨a35, 0, none⟩) 3 3), (7, true, .pointer (some ⟨b7, 0, none⟩)), (8, true, .int .i64 0), (9, true, .slice a49 3 c49)]) (fun _ => Rk) (fun z2 => [.sl 81 2 a49 c49 (z2.map encZ), .blk b7 [.slice fsm (fvals (plusF (normR v1) (normR v4)) (s + p)).length ksm, .int .i64 (p : Int), .int .i64 q], srcE b a c (xs.take 2000) (n4 + 1)]) ?_ ?_
      ·
        intro z2 hst
        have hzz2 : z2 = [⟨1, 9⟩, ⟨1, 9⟩, ⟨1, 9 + mod (nth (xs.take 2000) n4) 20⟩] := hst
        generalize mod (nth (xs.take 2000) n4) 20 = n20 at *
        have hz2l : z2.length = 3 := by rw [hzz2]; rfl
        refine W.cap 0 rfl ?_
        intro hcp49
        rw [List.length_map] at hcp49
        refine W.freeze (enc := encZ) (xs := z2) 0 rfl ?_
        intro R8 hR8 hbig
        refine W.freezeBlk 0 rfl ?_
        intro R9 hR9 hb7
        have hbig := hbig.mono hR9
        have hfs := hfs.mono (hR8.trans hR9)
        have hz := hz.mono (hR8.trans hR9)
        have hal := hal.mono (hR8.trans hR9)
        have hzz := hzz.mono (hR8.trans hR9)
        have hzv1 := hzv1.mono (hR8.trans hR9)
        have hzv2 := hzv2.mono (hR8.trans hR9)
        have hzv3 := hzv3.mono (hR8.trans hR9)
        have hC : 1 ≤ 1 + mod (nth (xs.take 2000) 0) 30 ∧ 1 + mod (nth (xs.take 2000) 0) 30 ≤ 30 := by have := mod_range (nth (xs.take 2000) 0) (show (1 : Int) ≤ 30 by decide); omega
        generalize 1 + mod (nth (xs.take 2000) 0) 30 = C at hC ⊢
        refine W.seq ?_
        refine W.region _ ?_
        refine WG.run tab_ok 3 rfl ?_
        refine WL.call en45 rfl rfl (by decide) (CallOp.mkT rfl rfl rfl rfl) (PCurve_len (ls := ([⟨fz1, kz1, v1⟩, ⟨fz2, kz2, v2⟩, ⟨fz3, kz3, v3⟩] : List CvS)) (z := ([⟨1, 9⟩, ⟨1, 9⟩, ⟨1, 9⟩] : List Sz)) hal rfl (by simp) (fun x hx => by simp only [List.mem_cons, List.not_mem_nil, or_false] at hx; rcases hx with rfl | rfl | rfl; exact ⟨hzv1, by have := hsm1.len; dsimp only; omega⟩; exact ⟨hzv2, by have := hsm2.len; dsimp only; omega⟩; exact ⟨hzv3, by have := hsm3.len; dsimp only; omega⟩) hzz rfl (by simp) w0 _) ?_
        rintro _ R10 _ hR10 ⟨f1, fc1, rfl, hf1, hsub1⟩
        refine WL.subE hsub1 ?_
        unfold cvV
        have hz := hz.mono hR10
        have hal := hal.mono hR10
        have hzz := hzz.mono hR10
        have hzv1 := hzv1.mono hR10
        have hzv2 := hzv2.mono hR10
        have hzv3 := hzv3.mono hR10
        have hbig := hbig.mono hR10
        have hfs := hfs.mono hR10
        have hb7 := hR10 _ _ hb7
        refine WG.run tab_ok 3 rfl ?_
        refine WL.ef rfl rfl (by decide) (Ef.alloc tab_ok rfl rfl (fun b10 => ?_))
        refine WL.efN rfl rfl (Ef.store0 0 tab_ok rfl rfl rfl rfl rfl rfl rfl rfl ?_)
        refine WG.run tab_ok 1 rfl ?_
        refine WG.nil ?_
        refine WE.nxt ?_
        refine W.freezeBlk 0 rfl ?_
        intro R10b hR10b hb10
        have hz := hz.mono hR10b
        have hal := hal.mono hR10b
        have hzz := hzz.mono hR10b
        have hzv1 := hzv1.mono hR10b
        have hzv2 := hzv2.mono hR10b
        have hzv3 := hzv3.mono hR10b
        have hbig := hbig.mono hR10b
        have hfs := hfs.mono hR10b
        have hf1 := hf1.mono hR10b
        have hb7 := hR10b _ _ hb7
        refine W.seqCut (β := Ro × Nat × Option Addr × Nat) (fun (Rk2, b12, f2, fc2) => RLe R10b Rk2 ∧ RS Rk2 1 encI f2 (prioC C 1 (([⟨fsm, ksm, ⟨fvals (plusF (normR v1) (normR v4)) (s + p), p, q⟩⟩, ⟨fz2, kz2, v2⟩, ⟨fz3, kz3, v3⟩] : List CvS).map CvS.cv) ([⟨1, 9⟩, ⟨1, 9⟩, ⟨1, 9⟩] : List Sz)).1.vals) (fun (Rk2, b12, f2, fc2) => [(3, true, .pointer (some ⟨b, 0, none⟩)), (4, true, .int .i64 C), (5, true, .slice (some ⟨a31, 0, none⟩) 3 3), (6, true, .slice (some ⟨a35, 0, none⟩) 3 3), (9, true, .slice a49 3 c49), (10, true, .pointer (some ⟨b10, 0, none⟩)), (11, true, .int .i64 (prioC C 1 (([⟨fz1, kz1, v1⟩, ⟨fz2, kz2, v2⟩, ⟨fz3, kz3, v3⟩] : List CvS).map CvS.cv) ([⟨1, 9⟩, ⟨1, 9⟩, ⟨1, 9⟩] : List Sz)).2), (12, true, .pointer (some ⟨b12, 0, none⟩)), (13, true, .int .i64 (prioC C 1 (([⟨fsm, ksm, ⟨fvals (plusF (normR v1) (normR v4)) (s + p), p, q⟩⟩, ⟨fz2, kz2, v2⟩, ⟨fz3, kz3, v3⟩] : List CvS).map CvS.cv) ([⟨1, 9⟩, ⟨1, 9⟩, ⟨1, 9⟩] : List Sz)).2)]) (fun (Rk2, _) => Rk2) (fun (_, b12, f2, fc2) => [.blk b12 [.slice f2 (prioC C 1 (([⟨fsm, ksm, ⟨fvals (plusF (normR v1) (normR v4)) (s + p), p, q⟩⟩, ⟨fz2, kz2, v2⟩, ⟨fz3, kz3, v3⟩] : List CvS).map CvS.cv) ([⟨1, 9⟩, ⟨1, 9⟩, ⟨1, 9⟩] : List Sz)).1.vals.length fc2, .int .i64 (prioC C 1 (([⟨fsm, ksm, ⟨fvals (plusF (normR v1) (normR v4)) (s + p), p, q⟩⟩, ⟨fz2, kz2, v2⟩, ⟨fz3, kz3, v3⟩] : List CvS).map CvS.cv) ([⟨1, 9⟩, ⟨1, 9⟩, ⟨1, 9⟩] : List Sz)).1.per, .int .i64 (prioC C 1 (([⟨fsm, ksm, ⟨fvals (plusF (normR v1) (normR v4)) (s + p), p, q⟩⟩, ⟨fz2, kz2, v2⟩, ⟨fz3, kz3, v3⟩] : List CvS).map CvS.cv) ([⟨1, 9⟩, ⟨1, 9⟩, ⟨1, 9⟩] : List Sz)).1.inc], srcE b a c (xs.take 2000) (n4 + 1)]) ?_ ?_
        ·
          intro zz2 hst
          obtain ⟨Rk2, b12, f2, fc2⟩ := zz2
          obtain ⟨hRk2, hf2⟩ := hst
          dsimp only at hRk2 hf2 ⊢
          have hz := hz.mono hRk2
          have hal := hal.mono hRk2
          have hzz := hzz.mono hRk2
          have hzv1 := hzv1.mono hRk2
          have hzv2 := hzv2.mono hRk2
          have hzv3 := hzv3.mono hRk2
          have hbig := hbig.mono hRk2
          have hfs := hfs.mono hRk2
          have hf1 := hf1.mono hRk2
          have hb7 := hRk2 _ _ hb7
          have hb10 := hRk2 _ _ hb10
          refine W.freezeBlk 0 rfl ?_
          intro R12b hR12b hb12
          have hz := hz.mono hR12b
          have hal := hal.mono hR12b
          have hzz := hzz.mono hR12b
          have hzv1 := hzv1.mono hR12b
          have hzv2 := hzv2.mono hR12b
          have hzv3 := hzv3.mono hR12b
          have hbig := hbig.mono hR12b
          have hfs := hfs.mono hR12b
          have hf1 := hf1.mono hR12b
          have hf2 := hf2.mono hR12b
          have hb7 := hR12b _ _ hb7
          have hb10 := hR12b _ _ hb10
          refine W.seq ?_
          refine W.region _ ?_
          refine WG.run tab_ok 3 rfl ?_
          refine WL.call en45 rfl rfl (by decide) (CallOp.mkT rfl rfl rfl rfl) (PCurve_l2 (ls := ([⟨fz1, kz1, v1⟩, ⟨fz2, kz2, v2⟩, ⟨fz3, kz3, v3⟩] : List CvS)) (z := z2) hal rfl (by simp) (fun x hx => by simp only [List.mem_cons, List.not_mem_nil, or_false] at hx; rcases hx with rfl | rfl | rfl; exact ⟨hzv1, by have := hsm1.len; dsimp only; omega⟩; exact ⟨hzv2, by have := hsm2.len; dsimp only; omega⟩; exact ⟨hzv3, by have := hsm3.len; dsimp only; omega⟩) hbig hz2l hcp49 w0 _) ?_
          rintro _ R13 _ hR13 ⟨f3, fc3, rfl, hf3, hsub3⟩
          refine WL.subE hsub3 ?_
          unfold cvV
          have hz := hz.mono hR13
          have hal := hal.mono hR13
          have hzz := hzz.mono hR13
          have hzv1 := hzv1.mono hR13
          have hzv2 := hzv2.mono hR13
          have hzv3 := hzv3.mono hR13
          have hbig := hbig.mono hR13
          have hfs := hfs.mono hR13
          have hb7 := hR13 _ _ hb7
          have hf1 := hf1.mono hR13
          have hf2 := hf2.mono hR13
          have hb10 := hR13 _ _ hb10
          have hb12 := hR13 _ _ hb12
          refine WG.run tab_ok 3 rfl ?_
          refine WL.ef rfl rfl (by decide) (Ef.alloc tab_ok rfl rfl (fun b14 => ?_))
          refine WL.efN rfl rfl (Ef.store0 0 tab_ok rfl rfl rfl rfl rfl rfl rfl rfl ?_)
          refine WG.run tab_ok 1 rfl ?_
          refine WG.nil ?_
          refine WE.nxt ?_
          refine W.seq ?_
          refine W.freezeBlk 0 rfl ?_
          intro R14 hR14 hb14
          have hz := hz.mono hR14
          have hal := hal.mono hR14
          have hzz := hzz.mono hR14
          have hzv1 := hzv1.mono hR14
          have hzv2 := hzv2.mono hR14
          have hzv3 := hzv3.mono hR14
          have hbig := hbig.mono hR14
          have hfs := hfs.mono hR14
          have hf1 := hf1.mono hR14
          have hf2 := hf2.mono hR14
          have hf3 := hf3.mono hR14
          have hb7 := hR14 _ _ hb7
          have hb10 := hR14 _ _ hb10
          have hb12 := hR14 _ _ hb12
          have hv123 : ∀ f ∈ ([⟨fz1, kz1, v1⟩, ⟨fz2, kz2, v2⟩, ⟨fz3, kz3, v3⟩] : List CvS).map CvS.cv, validB f = true ∧ finB f = true := fun f hf => by
            simp only [List.map_cons, List.map_nil, List.mem_cons, List.not_mem_nil, or_false] at hf
            rcases hf with rfl | rfl | rfl
            · exact ⟨hsm1.valid, hfn1⟩
            · exact ⟨hsm2.valid, hfn2⟩
            · exact ⟨hsm3.valid, hfn3⟩
          have hv2 : ∀ f ∈ ([⟨fsm, ksm, ⟨fvals (plusF (normR v1) (normR v4)) (s + p), p, q⟩⟩, ⟨fz2, kz2, v2⟩, ⟨fz3, kz3, v3⟩] : List CvS).map CvS.cv, validB f = true ∧ finB f = true := fun f hf => by
            simp only [List.map_cons, List.map_nil, List.mem_cons, List.not_mem_nil, or_false] at hf
            rcases hf with rfl | rfl | rfl
            · exact ⟨hfcs.valid', fin_of96 hfcs⟩
            · exact ⟨hsm2.valid, hfn2⟩
            · exact ⟨hsm3.valid, hfn3⟩
          have hck1 : chk18 C 1 ([⟨1, 9⟩, ⟨1, 9⟩, ⟨1, 9⟩] : List Sz) = 0 := chk18_zero ⟨by omega, by omega⟩ (by decide) (by decide) (fun s hs => by simp only [List.mem_cons, List.not_mem_nil, or_false] at hs; rcases hs with rfl | rfl | rfl <;> decide)
          have hck2 : chk18 C 1 z2 = 0 := by
            rw [hzz2]
            exact chk18_zero ⟨by omega, by omega⟩ (by show (0 : Int) ≤ 1 ∧ (1 : Int) < 3; decide) (by show 3 ≤ 6; decide) (fun s hs => by simp only [List.mem_cons, List.not_mem_nil, or_false] at hs; rcases hs with rfl | rfl | rfl <;> (dsimp only; omega))
          have hsA : ∀ t, sumUp (fun i => cvF (nth (([⟨fz1, kz1, v1⟩, ⟨fz2, kz2, v2⟩, ⟨fz3, kz3, v3⟩] : List CvS).map CvS.cv) i) t) (1 : Int).toNat ≤ sumUp (fun i => cvF (nth (([⟨fsm, ksm, ⟨fvals (plusF (normR v1) (normR v4)) (s + p), p, q⟩⟩, ⟨fz2, kz2, v2⟩, ⟨fz3, kz3, v3⟩] : List CvS).map CvS.cv) i) t) (1 : Int).toNat := fun t => by
            show 0 + cvF v1 t ≤ 0 + cvF ⟨fvals (plusF (normR v1) (normR v4)) (s + p), p, q⟩ t
            rw [cvF_fc hfcs, (small_sum hsm1 hfn1 hsm4 hfn4).2.2.1 t]
            have := (cvF_bound hsm4.valid t).1
            omega
          have hbB : blkN 1 ([⟨1, 9⟩, ⟨1, 9⟩, ⟨1, 9⟩] : List Sz) ≤ blkN 1 z2 := by
            rw [hzz2]
            refine mostF_mono (n := 1) (fun u hu => ?_)
            obtain rfl : u = 0 := by omega
            show (9 : Int) - 1 ≤ 9 + n20 - 1
            omega
          have hmA : ((prioC C 1 (([⟨fsm, ksm, ⟨fvals (plusF (normR v1) (normR v4)) (s + p), p, q⟩⟩, ⟨fz2, kz2, v2⟩, ⟨fz3, kz3, v3⟩] : List CvS).map CvS.cv) ([⟨1, 9⟩, ⟨1, 9⟩, ⟨1, 9⟩] : List Sz)).2 == 0) = true → ((prioC C 1 (([⟨fz1, kz1, v1⟩, ⟨fz2, kz2, v2⟩, ⟨fz3, kz3, v3⟩] : List CvS).map CvS.cv) ([⟨1, 9⟩, ⟨1, 9⟩, ⟨1, 9⟩] : List Sz)).2 == 0) = true → FnV Try.prog 20 [.agg #[.slice f2 (prioC C 1 (([⟨fsm, ksm, ⟨fvals (plusF (normR v1) (normR v4)) (s + p), p, q⟩⟩, ⟨fz2, kz2, v2⟩, ⟨fz3, kz3, v3⟩] : List CvS).map CvS.cv) ([⟨1, 9⟩, ⟨1, 9⟩, ⟨1, 9⟩] : List Sz)).1.vals.length fc2, .int .i64 (prioC C 1 (([⟨fsm, ksm, ⟨fvals (plusF (normR v1) (normR v4)) (s + p), p, q⟩⟩, ⟨fz2, kz2, v2⟩, ⟨fz3, kz3, v3⟩] : List CvS).map CvS.cv) ([⟨1, 9⟩, ⟨1, 9⟩, ⟨1, 9⟩] : List Sz)).1.per, .int .i64 (prioC C 1 (([⟨fsm, ksm, ⟨fvals (plusF (normR v1) (normR v4)) (s + p), p, q⟩⟩, ⟨fz2, kz2, v2⟩, ⟨fz3, kz3, v3⟩] : List CvS).map CvS.cv) ([⟨1, 9⟩, ⟨1, 9⟩, ⟨1, 9⟩] : List Sz)).1.inc], .agg #[.slice f1 (prioC C 1 (([⟨fz1, kz1, v1⟩, ⟨fz2, kz2, v2⟩, ⟨fz3, kz3, v3⟩] : List CvS).map CvS.cv) ([⟨1, 9⟩, ⟨1, 9⟩, ⟨1, 9⟩] : List Sz)).1.vals.length fc1, .int .i64 (prioC C 1 (([⟨fz1, kz1, v1⟩, ⟨fz2, kz2, v2⟩, ⟨fz3, kz3, v3⟩] : List CvS).map CvS.cv) ([⟨1, 9⟩, ⟨1, 9⟩, ⟨1, 9⟩] : List Sz)).1.per, .int .i64 (prioC C 1 (([⟨fz1, kz1, v1⟩, ⟨fz2, kz2, v2⟩, ⟨fz3, kz3, v3⟩] : List CvS).map CvS.cv) ([⟨1, 9⟩, ⟨1, 9⟩, ⟨1, 9⟩] : List Sz)).1.inc]] R14 (.bool true) := fun x2 x1 => by
            obtain ⟨F, G, S1, P1, S2, P2, I1, I2, y1, y2, y3, y4, y5⟩ := prio_less hck1 hck1 rfl rfl hv123 hv2 hsA (Int.le_refl _) (Prod.ext rfl (eq_of_beq x1) : (prioC C 1 (([⟨fz1, kz1, v1⟩, ⟨fz2, kz2, v2⟩, ⟨fz3, kz3, v3⟩] : List CvS).map CvS.cv) ([⟨1, 9⟩, ⟨1, 9⟩, ⟨1, 9⟩] : List Sz)) = ((prioC C 1 (([⟨fz1, kz1, v1⟩, ⟨fz2, kz2, v2⟩, ⟨fz3, kz3, v3⟩] : List CvS).map CvS.cv) ([⟨1, 9⟩, ⟨1, 9⟩, ⟨1, 9⟩] : List Sz)).1, 0)) (Prod.ext rfl (eq_of_beq x2) : (prioC C 1 (([⟨fsm, ksm, ⟨fvals (plusF (normR v1) (normR v4)) (s + p), p, q⟩⟩, ⟨fz2, kz2, v2⟩, ⟨fz3, kz3, v3⟩] : List CvS).map CvS.cv) ([⟨1, 9⟩, ⟨1, 9⟩, ⟨1, 9⟩] : List Sz)) = ((prioC C 1 (([⟨fsm, ksm, ⟨fvals (plusF (normR v1) (normR v4)) (s + p), p, q⟩⟩, ⟨fz2, kz2, v2⟩, ⟨fz3, kz3, v3⟩] : List CvS).map CvS.cv) ([⟨1, 9⟩, ⟨1, 9⟩, ⟨1, 9⟩] : List Sz)).1, 0))
            have hfa := hf1
            have hfb := hf2
            rw [y1] at hfb ⊢
            rw [y2] at hfa ⊢
            exact AtMost_V hfb hfa y3.valid' y4.valid' y3.hg y4.hg (fun t ht => ⟨y3.nonneg t, by have := y3.bound t; omega⟩) (fun t ht => ⟨y4.nonneg t, by have := y4.bound t; omega⟩) y5
          have hmB : ((prioC C 1 (([⟨fz1, kz1, v1⟩, ⟨fz2, kz2, v2⟩, ⟨fz3, kz3, v3⟩] : List CvS).map CvS.cv) z2).2 == 0) = true → ((prioC C 1 (([⟨fz1, kz1, v1⟩, ⟨fz2, kz2, v2⟩, ⟨fz3, kz3, v3⟩] : List CvS).map CvS.cv) ([⟨1, 9⟩, ⟨1, 9⟩, ⟨1, 9⟩] : List Sz)).2 == 0) = true → FnV Try.prog 20 [.agg #[.slice f3 (prioC C 1 (([⟨fz1, kz1, v1⟩, ⟨fz2, kz2, v2⟩, ⟨fz3, kz3, v3⟩] : List CvS).map CvS.cv) z2).1.vals.length fc3, .int .i64 (prioC C 1 (([⟨fz1, kz1, v1⟩, ⟨fz2, kz2, v2⟩, ⟨fz3, kz3, v3⟩] : List CvS).map CvS.cv) z2).1.per, .int .i64 (prioC C 1 (([⟨fz1, kz1, v1⟩, ⟨fz2, kz2, v2⟩, ⟨fz3, kz3, v3⟩] : List CvS).map CvS.cv) z2).1.inc], .agg #[.slice f1 (prioC C 1 (([⟨fz1, kz1, v1⟩, ⟨fz2, kz2, v2⟩, ⟨fz3, kz3, v3⟩] : List CvS).map CvS.cv) ([⟨1, 9⟩, ⟨1, 9⟩, ⟨1, 9⟩] : List Sz)).1.vals.length fc1, .int .i64 (prioC C 1 (([⟨fz1, kz1, v1⟩, ⟨fz2, kz2, v2⟩, ⟨fz3, kz3, v3⟩] : List CvS).map CvS.cv) ([⟨1, 9⟩, ⟨1, 9⟩, ⟨1, 9⟩] : List Sz)).1.per, .int .i64 (prioC C 1 (([⟨fz1, kz1, v1⟩, ⟨fz2, kz2, v2⟩, ⟨fz3, kz3, v3⟩] : List CvS).map CvS.cv) ([⟨1, 9⟩, ⟨1, 9⟩, ⟨1, 9⟩] : List Sz)).1.inc]] R14 (.bool true) := fun x2 x1 => by
            obtain ⟨F, G, S1, P1, S2, P2, I1, I2, y1, y2, y3, y4, y5⟩ := prio_less hck1 hck2 rfl (by rw [hz2l]; rfl) hv123 hv123 (fun t => Int.le_refl _) hbB (Prod.ext rfl (eq_of_beq x1) : (prioC C 1 (([⟨fz1, kz1, v1⟩, ⟨fz2, kz2, v2⟩, ⟨fz3, kz3, v3⟩] : List CvS).map CvS.cv) ([⟨1, 9⟩, ⟨1, 9⟩, ⟨1, 9⟩] : List Sz)) = ((prioC C 1 (([⟨fz1, kz1, v1⟩, ⟨fz2, kz2, v2⟩, ⟨fz3, kz3, v3⟩] : List CvS).map CvS.cv) ([⟨1, 9⟩, ⟨1, 9⟩, ⟨1, 9⟩] : List Sz)).1, 0)) (Prod.ext rfl (eq_of_beq x2) : (prioC C 1 (([⟨fz1, kz1, v1⟩, ⟨fz2, kz2, v2⟩, ⟨fz3, kz3, v3⟩] : List CvS).map CvS.cv) z2) = ((prioC C 1 (([⟨fz1, kz1, v1⟩, ⟨fz2, kz2, v2⟩, ⟨fz3, kz3, v3⟩] : List CvS).map CvS.cv) z2).1, 0))
            have hfa := hf1
            have hfb := hf3
            rw [y1] at hfb ⊢
            rw [y2] at hfa ⊢
            exact AtMost_V hfb hfa y3.valid' y4.valid' y3.hg y4.hg (fun t ht => ⟨y3.nonneg t, by have := y3.bound t; omega⟩) (fun t ht => ⟨y4.nonneg t, by have := y4.bound t; omega⟩) y5
          generalize (prioC C 1 (([⟨fz1, kz1, v1⟩, ⟨fz2, kz2, v2⟩, ⟨fz3, kz3, v3⟩] : List CvS).map CvS.cv) ([⟨1, 9⟩, ⟨1, 9⟩, ⟨1, 9⟩] : List Sz)) = q1 at *
          generalize (prioC C 1 (([⟨fsm, ksm, ⟨fvals (plusF (normR v1) (normR v4)) (s + p), p, q⟩⟩, ⟨fz2, kz2, v2⟩, ⟨fz3, kz3, v3⟩] : List CvS).map CvS.cv) ([⟨1, 9⟩, ⟨1, 9⟩, ⟨1, 9⟩] : List Sz)) = q2 at *
          generalize (prioC C 1 (([⟨fz1, kz1, v1⟩, ⟨fz2, kz2, v2⟩, ⟨fz3, kz3, v3⟩] : List CvS).map CvS.cv) z2) = q3 at *
          refine W.seq ?_
          refine W.region _ ?_
          refine WG.run tab_ok 3 rfl ?_
          refine WG.y rfl rfl (by decide) (pureV_ok tab_ok rfl (by first | exact fun _ => rfl | exact fun h => h | decide | (generalize (q1.2 == 0) = k1; (try generalize (q2.2 == 0) = k2); (try generalize (q3.2 == 0) = k3); revert k1; (try revert k2); (try revert k3); decide))) ?_
          refine WG.y rfl rfl (by decide) (pureV_ok tab_ok rfl (by first | exact fun _ => rfl | exact fun h => h | decide | (generalize (q1.2 == 0) = k1; (try generalize (q2.2 == 0) = k2); (try generalize (q3.2 == 0) = k3); revert k1; (try revert k2); (try revert k3); decide))) ?_
          refine WG.y rfl rfl (by decide) (Yl.pand rfl rfl rfl (fun _ => rfl) (by first | exact fun _ _ => rfl | decide | (generalize (q1.2 == 0) = k1; (try generalize (q2.2 == 0) = k2); (try generalize (q3.2 == 0) = k3); revert k1; (try revert k2); (try revert k3); decide))) ?_
          refine WG.run tab_ok 1 rfl ?_
          refine' WG.y rfl rfl (by decide) (Yl.loadG tab_ok rfl rfl rfl (by first | exact fun _ => rfl | exact fun h => h | decide | (generalize (q1.2 == 0) = k1; (try generalize (q2.2 == 0) = k2); (try generalize (q3.2 == 0) = k3); revert k1; (try revert k2); (try revert k3); decide)) ?r1 rfl ?h1 ?g1) ?_
          case r1 => exact fun _ => Rd.ro hb12
          case h1 => rfl
          case g1 => exact fun _ => trivial
          refine' WG.y rfl rfl (by decide) (Yl.loadG tab_ok rfl rfl rfl (by first | exact fun _ => rfl | exact fun h => h | decide | (generalize (q1.2 == 0) = k1; (try generalize (q2.2 == 0) = k2); (try generalize (q3.2 == 0) = k3); revert k1; (try revert k2); (try revert k3); decide)) ?r2 rfl ?h2 ?g2) ?_
          case r2 => exact fun _ => Rd.ro hb10
          case h2 => rfl
          case g2 => exact fun _ => trivial
          refine WG.callV (v := .bool true) en20 rfl rfl (by decide) (CallOp.mk' rfl rfl rfl rfl) (by first | exact fun _ => rfl | exact fun h => h | decide | (generalize (q1.2 == 0) = k1; (try generalize (q2.2 == 0) = k2); (try generalize (q3.2 == 0) = k3); revert k1; (try revert k2); (try revert k3); decide)) (fun hg => hmA (by revert hg; generalize (q1.2 == 0) = k1; (try generalize (q2.2 == 0) = k2); (try generalize (q3.2 == 0) = k3); revert k1; (try revert k2); (try revert k3); decide) (by revert hg; generalize (q1.2 == 0) = k1; (try generalize (q2.2 == 0) = k2); (try generalize (q3.2 == 0) = k3); revert k1; (try revert k2); (try revert k3); decide)) ?_
          refine WG.y rfl rfl (by decide) (pureV_ok tab_ok rfl (by first | exact fun _ => rfl | exact fun h => h | decide | (generalize (q1.2 == 0) = k1; (try generalize (q2.2 == 0) = k2); (try generalize (q3.2 == 0) = k3); revert k1; (try revert k2); (try revert k3); decide))) ?_
          refine WG.y rfl rfl (by decide) (Yl.pand rfl rfl rfl (fun _ => rfl) (by first | exact fun _ _ => rfl | decide | (generalize (q1.2 == 0) = k1; (try generalize (q2.2 == 0) = k2); (try generalize (q3.2 == 0) = k3); revert k1; (try revert k2); (try revert k3); decide))) ?_
          refine WG.run tab_ok 1 rfl ?_
          refine WG.y rfl rfl (by decide) (pureV_ok tab_ok rfl (by first | exact fun _ => rfl | exact fun h => h | decide | (generalize (q1.2 == 0) = k1; (try generalize (q2.2 == 0) = k2); (try generalize (q3.2 == 0) = k3); revert k1; (try revert k2); (try revert k3); decide))) ?_
          refine WG.y rfl rfl (by decide) (pureV_ok tab_ok rfl (by first | exact fun _ => rfl | exact fun h => h | decide | (generalize (q1.2 == 0) = k1; (try generalize (q2.2 == 0) = k2); (try generalize (q3.2 == 0) = k3); revert k1; (try revert k2); (try revert k3); decide))) ?_
          refine WG.y rfl rfl (by decide) (pureV_ok tab_ok rfl (by first | exact fun _ => rfl | exact fun h => h | decide | (generalize (q1.2 == 0) = k1; (try generalize (q2.2 == 0) = k2); (try generalize (q3.2 == 0) = k3); revert k1; (try revert k2); (try revert k3); decide))) ?_
          refine WG.y rfl rfl (by decide) (pureV_ok tab_ok rfl (by first | exact fun _ => rfl | exact fun h => h | decide | (generalize (q1.2 == 0) = k1; (try generalize (q2.2 == 0) = k2); (try generalize (q3.2 == 0) = k3); revert k1; (try revert k2); (try revert k3); decide))) ?_
          refine WG.y rfl rfl (by decide) (pureV_ok tab_ok rfl (by first | exact fun _ => rfl | exact fun h => h | decide | (generalize (q1.2 == 0) = k1; (try generalize (q2.2 == 0) = k2); (try generalize (q3.2 == 0) = k3); revert k1; (try revert k2); (try revert k3); decide))) ?_
          refine WG.y rfl rfl (by decide) (Yl.pand rfl rfl rfl (by first | exact fun _ => rfl | exact fun h => h | decide | (generalize (q1.2 == 0) = k1; (try generalize (q2.2 == 0) = k2); (try generalize (q3.2 == 0) = k3); revert k1; (try revert k2); (try revert k3); decide)) (by first | exact fun _ _ => rfl | decide | (generalize (q1.2 == 0) = k1; (try generalize (q2.2 == 0) = k2); (try generalize (q3.2 == 0) = k3); revert k1; (try revert k2); (try revert k3); decide))) ?_
          refine WG.y rfl rfl (by decide) (pureV_ok tab_ok rfl (by first | exact fun _ => rfl | exact fun h => h | decide | (generalize (q1.2 == 0) = k1; (try generalize (q2.2 == 0) = k2); (try generalize (q3.2 == 0) = k3); revert k1; (try revert k2); (try revert k3); decide))) ?_
          refine' WG.y rfl rfl (by decide) (Yl.loadG tab_ok rfl rfl rfl (by first | exact fun _ => rfl | exact fun h => h | decide | (generalize (q1.2 == 0) = k1; (try generalize (q2.2 == 0) = k2); (try generalize (q3.2 == 0) = k3); revert k1; (try revert k2); (try revert k3); decide)) ?r3 rfl ?h3 ?g3) ?_
          case r3 => exact fun _ => Rd.ro hb14
          case h3 => rfl
          case g3 => exact fun _ => trivial
          refine' WG.y rfl rfl (by decide) (Yl.loadG tab_ok rfl rfl rfl (by first | exact fun _ => rfl | exact fun h => h | decide | (generalize (q1.2 == 0) = k1; (try generalize (q2.2 == 0) = k2); (try generalize (q3.2 == 0) = k3); revert k1; (try revert k2); (try revert k3); decide)) ?r4 rfl ?h4 ?g4) ?_
          case r4 => exact fun _ => Rd.ro hb10
          case h4 => rfl
          case g4 => exact fun _ => trivial
          refine WG.callV (v := .bool true) en20 rfl rfl (by decide) (CallOp.mk' rfl rfl rfl rfl) (by first | exact fun _ => rfl | exact fun h => h | decide | (generalize (q1.2 == 0) = k1; (try generalize (q2.2 == 0) = k2); (try generalize (q3.2 == 0) = k3); revert k1; (try revert k2); (try revert k3); decide)) (fun hg => hmB (by revert hg; generalize (q1.2 == 0) = k1; (try generalize (q2.2 == 0) = k2); (try generalize (q3.2 == 0) = k3); revert k1; (try revert k2); (try revert k3); decide) (by revert hg; generalize (q1.2 == 0) = k1; (try generalize (q2.2 == 0) = k2); (try generalize (q3.2 == 0) = k3); revert k1; (try revert k2); (try revert k3); decide)) ?_
          refine WG.y rfl rfl (by decide) (pureV_ok tab_ok rfl (by first | exact fun _ => rfl | exact fun h => h | decide | (generalize (q1.2 == 0) = k1; (try generalize (q2.2 == 0) = k2); (try generalize (q3.2 == 0) = k3); revert k1; (try revert k2); (try revert k3); decide))) ?_
          refine WG.y rfl rfl (by decide) (Yl.pand rfl rfl rfl (by first | exact fun _ => rfl | exact fun h => h | decide | (generalize (q1.2 == 0) = k1; (try generalize (q2.2 == 0) = k2); (try generalize (q3.2 == 0) = k3); revert k1; (try revert k2); (try revert k3); decide)) (by first | exact fun _ _ => rfl | decide | (generalize (q1.2 == 0) = k1; (try generalize (q2.2 == 0) = k2); (try generalize (q3.2 == 0) = k3); revert k1; (try revert k2); (try revert k3); decide))) ?_
          refine WG.y rfl rfl (by decide) (Yl.por rfl rfl rfl (fun _ => rfl) (by first | exact fun _ _ => rfl | decide | (generalize (q1.2 == 0) = k1; (try generalize (q2.2 == 0) = k2); (try generalize (q3.2 == 0) = k3); revert k1; (try revert k2); (try revert k3); decide))) ?_
          refine WG.nil ?_
          refine WE.nxt ?_
          refine W.cond rfl (fun hc1 => ?_) (fun hc1 => ?_)
          · try simp only [decide_eq_true_eq, decide_eq_false_iff_not, beq_iff_eq, bne_iff_ne, beq_eq_false_iff_ne, bne_eq_false_iff_eq, ne_eq, Bool.or_eq_true, Bool.or_eq_false_iff, Bool.and_eq_true, Bool.and_eq_false_imp, Bool.not_eq_true, Bool.not_eq_true', Bool.not_eq_false', Classical.not_not, Int.not_lt, Int.not_le, gt_iff_lt, ge_iff_le] at hc1
            simp at hc1
          · try simp only [decide_eq_true_eq, decide_eq_false_iff_not, beq_iff_eq, bne_iff_ne, beq_eq_false_iff_ne, bne_eq_false_iff_eq, ne_eq, Bool.or_eq_true, Bool.or_eq_false_iff, Bool.and_eq_true, Bool.and_eq_false_imp, Bool.not_eq_true, Bool.not_eq_true', Bool.not_eq_false', Classical.not_not, Int.not_lt, Int.not_le, gt_iff_lt, ge_iff_le] at hc1
            refine W.skip ?_
            refine WE.nxt ?_
            have hal1 : RS R14 3 encC (some ⟨a31, 0, none⟩) ([⟨fz1, kz1, v1⟩] : List CvS) := hal.take 1
            have hzz1 : RS R14 2 encZ (some ⟨a35, 0, none⟩) ([⟨1, 9⟩] : List Sz) := hzz.take 1
            refine W.seq ?_
            refine W.regionH _ (ES := []) mixed ?_
            refine WA.take 0 rfl (by kernel_rfl) (by kernel_rfl) (by kernel_rfl) rfl rfl (by decide) (pureV_ok tab_ok rfl (fun _ => rfl)) qS (by first | exact RLe.refl _ | assumption) ?_
            refine WA.take 1 rfl (by kernel_rfl) (by kernel_rfl) (by kernel_rfl) rfl rfl (by decide) (pureV_ok tab_ok rfl (fun _ => rfl)) qS (by first | exact RLe.refl _ | assumption) ?_
            refine WA.take 2 rfl (by kernel_rfl) (by kernel_rfl) (by kernel_rfl) rfl rfl (by decide) (Yl.sliceH tab_ok rfl rfl rfl rfl rfl (fun _ => rfl) (by intro _; decide) rfl) qS (by first | exact RLe.refl _ | assumption) ?_
            refine WA.take 3 rfl (by kernel_rfl) (by kernel_rfl) (by kernel_rfl) rfl rfl (by decide) (pureV_ok tab_ok rfl (fun _ => rfl)) qS (by first | exact RLe.refl _ | assumption) ?_
            refine WA.take 4 rfl (by kernel_rfl) (by kernel_rfl) (by kernel_rfl) rfl rfl (by decide) (Yl.sliceH tab_ok rfl rfl rfl rfl rfl (fun _ => rfl) (by intro _; decide) rfl) qS (by first | exact RLe.refl _ | assumption) ?_
            refine WA.br2 (i := 5) (j := 9) (by kernel_rfl) ?_ ?_
            ·
              refine WS.callG rfl en45 rfl (by first | rfl | decide) rfl (by decide) (CallOp.mkT rfl rfl rfl rfl) (PCurve_l2 (ls := ([⟨fz1, kz1, v1⟩] : List CvS)) (z := ([⟨1, 9⟩] : List Sz)) hal1 rfl (by show 1 ≤ 3; decide) (fun x hx => by simp only [List.mem_cons, List.not_mem_nil, or_false] at hx; subst hx; exact ⟨hzv1, by have := hsm1.len; dsimp only; omega⟩) hzz1 rfl (by show 1 ≤ 3; decide) w0 _) ?_
              rintro _ R15 _ hR15 ⟨f4, fc4, rfl, hf4, hsub4⟩
              refine ⟨hR15, List.nil_sublist _, ?_⟩
              refine WA.subE hsub4 ?_
              unfold cvV
              rw [show List.map CvS.cv ([⟨fz1, kz1, v1⟩] : List CvS) = [v1] from rfl, (prio_whole (cap := C) ⟨by omega, by omega⟩ hsm1.valid (s := ⟨1, 9⟩) (by decide))] at hf4 ⊢
              refine WA.take 6 rfl (by kernel_rfl) (by kernel_rfl) (by kernel_rfl) rfl rfl (by decide) (pureV_ok tab_ok rfl (fun _ => rfl)) qS (by first | exact RLe.refl _ | assumption) ?_
              refine WA.take 7 rfl (by kernel_rfl) (by kernel_rfl) (by kernel_rfl) rfl rfl (by decide) (pureV_ok tab_ok rfl (fun _ => rfl)) qS (by first | exact RLe.refl _ | assumption) ?_
              refine WA.take 8 rfl (by kernel_rfl) (by kernel_rfl) (by kernel_rfl) rfl rfl (by decide) (pureV_ok tab_ok rfl (fun _ => rfl)) qS (by first | exact RLe.refl _ | assumption) ?_
              refine WA.eff 9 rfl (by kernel_rfl) rfl rfl (by decide) (Ef.alloc tab_ok rfl rfl (fun b16 => ?_))
              refine ⟨by first | exact RLe.refl _ | assumption, qS, ?_⟩
              refine WA.effN 10 rfl (by kernel_rfl) rfl rfl (Ef.store0 0 tab_ok rfl rfl rfl rfl rfl rfl rfl rfl ?_)
              refine ⟨by first | exact RLe.refl _ | assumption, qS, ?_⟩
              refine WA.take 11 rfl (by kernel_rfl) (by kernel_rfl) (by kernel_rfl) rfl rfl (by decide) (pureV_ok tab_ok rfl (fun _ => rfl)) qS (by first | exact RLe.refl _ | assumption) ?_
              refine WA.done (by kernel_rfl) ?_
              refine WE.nxt ?_
              refine W.seq ?_
              refine W.region _ ?_
              refine WG.run tab_ok 1 rfl ?_
              refine WL.call en31 rfl rfl (by decide) (CallOp.mkT rfl rfl rfl rfl) (Serve_ok (cap := C) w0 (by omega) _) ?_
              rintro _ _ E5 - ⟨gs, rfl, rfl, hsub5⟩
              refine WL.subE hsub5 ?_
              refine WL.freeze (enc := encI) (xs := [0]) 0 rfl ?_
              intro R16 hR16 hsv
              have hf4 := hf4.mono hR16
              refine WG.run tab_ok 3 rfl ?_
              refine WL.ef rfl rfl (by decide) (Ef.alloc tab_ok rfl rfl (fun b18 => ?_))
              refine WL.efN rfl rfl (Ef.store0 0 tab_ok rfl rfl rfl rfl rfl rfl rfl rfl ?_)
              refine WG.run tab_ok 1 rfl ?_
              refine WG.nil ?_
              refine WE.nxt ?_
              refine W.seq ?_
              refine W.region _ ?_
              refine WG.run tab_ok 3 rfl ?_
              refine WL.guardT rfl (by first | rfl | decide | simp) ?_
              refine WG.y rfl rfl (by decide) (pureV_ok tab_ok rfl (fun _ => rfl)) ?_
              refine WL.guardT rfl (by first | rfl | decide | simp) ?_
              refine WG.y rfl rfl (by decide) (pureV_ok tab_ok rfl (fun _ => rfl)) ?_
              refine WG.y rfl rfl (by decide) (Yl.pand rfl rfl rfl (fun _ => rfl) (by first | exact fun _ _ => rfl | decide | (generalize (q1.2 == 0) = k1; (try generalize (q2.2 == 0) = k2); (try generalize (q3.2 == 0) = k3); revert k1; (try revert k2); (try revert k3); decide))) ?_
              refine WG.run tab_ok 1 rfl ?_
              refine WL.guardT rfl (by first | rfl | decide | simp) ?_
              refine' WG.y rfl rfl (by decide) (Yl.load1 tab_ok rfl rfl rfl (fun _ => rfl) ?r5 rfl ?h5) ?_
              case r5 => (exact Rd.blk 1 rfl)
              case h5 => rfl
              refine WL.guardT rfl (by first | rfl | decide | simp) ?_
              refine' WG.y rfl rfl (by decide) (Yl.load1 tab_ok rfl rfl rfl (fun _ => rfl) ?r6 rfl ?h6) ?_
              case r6 => (exact Rd.blk 0 rfl)
              case h6 => rfl
              refine WL.guardT rfl (by first | rfl | decide | simp) ?_
              refine WG.callV (v := .bool true) en16 rfl rfl (by decide) (CallOp.mk' rfl rfl rfl rfl) (fun _ => rfl) (fun hg => by
                have h := Same02_V (ca := fc4) (cb := 1) (p1 := 1) (i1 := C) (p2 := 1) (i2 := C) hf4 hsv
                rw [decide_eq_true ⟨rfl, rfl, rfl⟩] at h
                exact h) ?_
              refine WG.y rfl rfl (by decide) (Yl.pand rfl rfl rfl (fun _ => rfl) (by first | exact fun _ _ => rfl | decide | (generalize (q1.2 == 0) = k1; (try generalize (q2.2 == 0) = k2); (try generalize (q3.2 == 0) = k3); revert k1; (try revert k2); (try revert k3); decide))) ?_
              refine WG.run tab_ok 1 rfl ?_
              refine WL.guardT rfl (by first | rfl | decide | simp) ?_
              refine WL.call en42 rfl rfl (by decide) (CallOp.mkT rfl rfl rfl rfl) (Awake18_C w0 _) ?_
              rintro _ R17 E9 hR17 ⟨rfl, hsub9⟩
              refine WL.subE hsub9 ?_
              refine WG.y rfl rfl (by decide) (Yl.pand rfl rfl rfl (fun _ => rfl) (by first | exact fun _ _ => rfl | decide | (generalize (q1.2 == 0) = k1; (try generalize (q2.2 == 0) = k2); (try generalize (q3.2 == 0) = k3); revert k1; (try revert k2); (try revert k3); decide))) ?_
              refine WG.run tab_ok 1 rfl ?_
              refine WG.nil ?_
              refine WE.nxt ?_
              refine W.ret ?_
              refine WE.retF tab_ok [_] rfl ⟨rfl, trivial⟩ (hR1.trans (hR2.trans (hR3.trans (hR4.trans (hR5.trans (hRk.trans (hR8.trans (hR9.trans (hR10.trans (hR10b.trans (hRk2.trans (hR12b.trans (hR13.trans (hR14.trans (hR15.trans (hR16.trans hR17)))))))))))))))) ?_
              exact rfl
            ·
              refine WS.eff rfl rfl rfl (by decide) (Ef.alloc tab_ok rfl rfl (fun b16 => ?_))
              refine ⟨by first | exact RLe.refl _ | assumption, qS, ?_⟩
              refine WA.callG 5 rfl (by kernel_rfl) en45 rfl (by first | rfl | decide) rfl (by decide) (CallOp.mkT rfl rfl rfl rfl) (PCurve_l2 (ls := ([⟨fz1, kz1, v1⟩] : List CvS)) (z := ([⟨1, 9⟩] : List Sz)) hal1 rfl (by show 1 ≤ 3; decide) (fun x hx => by simp only [List.mem_cons, List.not_mem_nil, or_false] at hx; subst hx; exact ⟨hzv1, by have := hsm1.len; dsimp only; omega⟩) hzz1 rfl (by show 1 ≤ 3; decide) w0 _) ?_
              rintro _ R15 _ hR15 ⟨f4, fc4, rfl, hf4, hsub4⟩
              refine ⟨hR15, List.nil_sublist _, ?_⟩
              refine WA.subE hsub4 ?_
              unfold cvV
              rw [show List.map CvS.cv ([⟨fz1, kz1, v1⟩] : List CvS) = [v1] from rfl, (prio_whole (cap := C) ⟨by omega, by omega⟩ hsm1.valid (s := ⟨1, 9⟩) (by decide))] at hf4 ⊢
              refine WA.take 6 rfl (by kernel_rfl) (by kernel_rfl) (by kernel_rfl) rfl rfl (by decide) (pureV_ok tab_ok rfl (fun _ => rfl)) qS (by first | exact RLe.refl _ | assumption) ?_
              refine WA.take 7 rfl (by kernel_rfl) (by kernel_rfl) (by kernel_rfl) rfl rfl (by decide) (pureV_ok tab_ok rfl (fun _ => rfl)) qS (by first | exact RLe.refl _ | assumption) ?_
              refine WA.take 8 rfl (by kernel_rfl) (by kernel_rfl) (by kernel_rfl) rfl rfl (by decide) (pureV_ok tab_ok rfl (fun _ => rfl)) qS (by first | exact RLe.refl _ | assumption) ?_
              refine WA.effN 10 rfl (by kernel_rfl) rfl rfl (Ef.store0 0 tab_ok rfl rfl rfl rfl rfl rfl rfl rfl ?_)
              refine ⟨by first | exact RLe.refl _ | assumption, qS, ?_⟩
              refine WA.take 11 rfl (by kernel_rfl) (by kernel_rfl) (by kernel_rfl) rfl rfl (by decide) (pureV_ok tab_ok rfl (fun _ => rfl)) qS (by first | exact RLe.refl _ | assumption) ?_
              refine WA.done (by kernel_rfl) ?_
              refine WE.nxt ?_
              refine W.seq ?_
              refine W.region _ ?_
              refine WG.run tab_ok 1 rfl ?_
              refine WL.call en31 rfl rfl (by decide) (CallOp.mkT rfl rfl rfl rfl) (Serve_ok (cap := C) w0 (by omega) _) ?_
              rintro _ _ E5 - ⟨gs, rfl, rfl, hsub5⟩
              refine WL.subE hsub5 ?_
              refine WL.freeze (enc := encI) (xs := [0]) 0 rfl ?_
              intro R16 hR16 hsv
              have hf4 := hf4.mono hR16
              refine WG.run tab_ok 3 rfl ?_
              refine WL.ef rfl rfl (by decide) (Ef.alloc tab_ok rfl rfl (fun b18 => ?_))
              refine WL.efN rfl rfl (Ef.store0 0 tab_ok rfl rfl rfl rfl rfl rfl rfl rfl ?_)
              refine WG.run tab_ok 1 rfl ?_
              refine WG.nil ?_
              refine WE.nxt ?_
              refine W.seq ?_
              refine W.region _ ?_
              refine WG.run tab_ok 3 rfl ?_
              refine WL.guardT rfl (by first | rfl | decide | simp) ?_
              refine WG.y rfl rfl (by decide) (pureV_ok tab_ok rfl (fun _ => rfl)) ?_
              refine WL.guardT rfl (by first | rfl | decide | simp) ?_
              refine WG.y rfl rfl (by decide) (pureV_ok tab_ok rfl (fun _ => rfl)) ?_
              refine WG.y rfl rfl (by decide) (Yl.pand rfl rfl rfl (fun _ => rfl) (by first | exact fun _ _ => rfl | decide | (generalize (q1.2 == 0) = k1; (try generalize (q2.2 == 0) = k2); (try generalize (q3.2 == 0) = k3); revert k1; (try revert k2); (try revert k3); decide))) ?_
              refine WG.run tab_ok 1 rfl ?_
              refine WL.guardT rfl (by first | rfl | decide | simp) ?_
              refine' WG.y rfl rfl (by decide) (Yl.load1 tab_ok rfl rfl rfl (fun _ => rfl) ?r7 rfl ?h7) ?_
              case r7 => (exact Rd.blk 1 rfl)
              case h7 => rfl
              refine WL.guardT rfl (by first | rfl | decide | simp) ?_
              refine' WG.y rfl rfl (by decide) (Yl.load1 tab_ok rfl rfl rfl (fun _ => rfl) ?r8 rfl ?h8) ?_
              case r8 => (exact Rd.blk 0 rfl)
              case h8 => rfl
              refine WL.guardT rfl (by first | rfl | decide | simp) ?_
              refine WG.callV (v := .bool true) en16 rfl rfl (by decide) (CallOp.mk' rfl rfl rfl rfl) (fun _ => rfl) (fun hg => by
                have h := Same02_V (ca := fc4) (cb := 1) (p1 := 1) (i1 := C) (p2 := 1) (i2 := C) hf4 hsv
                rw [decide_eq_true ⟨rfl, rfl, rfl⟩] at h
                exact h) ?_
              refine WG.y rfl rfl (by decide) (Yl.pand rfl rfl rfl (fun _ => rfl) (by first | exact fun _ _ => rfl | decide | (generalize (q1.2 == 0) = k1; (try generalize (q2.2 == 0) = k2); (try generalize (q3.2 == 0) = k3); revert k1; (try revert k2); (try revert k3); decide))) ?_
              refine WG.run tab_ok 1 rfl ?_
              refine WL.guardT rfl (by first | rfl | decide | simp) ?_
              refine WL.call en42 rfl rfl (by decide) (CallOp.mkT rfl rfl rfl rfl) (Awake18_C w0 _) ?_
              rintro _ R17 E9 hR17 ⟨rfl, hsub9⟩
              refine WL.subE hsub9 ?_
              refine WG.y rfl rfl (by decide) (Yl.pand rfl rfl rfl (fun _ => rfl) (by first | exact fun _ _ => rfl | decide | (generalize (q1.2 == 0) = k1; (try generalize (q2.2 == 0) = k2); (try generalize (q3.2 == 0) = k3); revert k1; (try revert k2); (try revert k3); decide))) ?_
              refine WG.run tab_ok 1 rfl ?_
              refine WG.nil ?_
              refine WE.nxt ?_
              refine W.ret ?_
              refine WE.retF tab_ok [_] rfl ⟨rfl, trivial⟩ (hR1.trans (hR2.trans (hR3.trans (hR4.trans (hR5.trans (hRk.trans (hR8.trans (hR9.trans (hR10.trans (hR10b.trans (hRk2.trans (hR12b.trans (hR13.trans (hR14.trans (hR15.trans (hR16.trans hR17)))))))))))))))) ?_
              exact rfl
        ·
          refine W.regionH _ (ES := []) mixed ?_
          refine WA.take 0 rfl (by kernel_rfl) (by kernel_rfl) (by kernel_rfl) rfl rfl (by decide) (pureV_ok tab_ok rfl (fun _ => rfl)) qS (by first | exact RLe.refl _ | assumption) ?_
          refine' WA.take 1 rfl (by kernel_rfl) (by kernel_rfl) (by kernel_rfl) rfl rfl (by decide) (Yl.load1 tab_ok rfl rfl rfl (fun _ => rfl) ?r9 rfl ?h9) qS (by first | exact RLe.refl _ | assumption) ?_
          case r9 => exact Rd.ro hb7
          case h9 => rfl
          refine WA.take 2 rfl (by kernel_rfl) (by kernel_rfl) (by kernel_rfl) rfl rfl (by decide) (pureV_ok tab_ok rfl (fun _ => rfl)) qS (by first | exact RLe.refl _ | assumption) ?_
          refine WA.take 3 rfl (by kernel_rfl) (by kernel_rfl) (by kernel_rfl) rfl rfl (by decide) (Yl.index tab_ok rfl rfl rfl rfl rfl rfl (fun _ => rfl) (by intro _; constructor <;> decide) (by intro _; first | exact fun _ _ _ h => ha49 h | exact fun _ _ _ _ => rfl | exact RS.has (by assumption) | exact fun _ _ _ _ => (by assumption) | exact HasMem.ownD 0 rfl | exact HasMem.ownD 1 rfl | exact HasMem.ownD 2 rfl | exact HasMem.ownD 3 rfl | exact HasMem.ownD 4 rfl | exact HasMem.ownD 5 rfl | exact HasMem.ownD 6 rfl | exact HasMem.ownD 7 rfl)) qS (by first | exact RLe.refl _ | assumption) ?_
          refine' WA.take 4 rfl (by kernel_rfl) (by kernel_rfl) (by kernel_rfl) rfl rfl (by decide) (Yl.load1 tab_ok rfl rfl rfl (fun _ => rfl) ?r10 rfl ?h10) qS (by first | exact RLe.refl _ | assumption) ?_
          case r10 => exact RS.rdD hal (by show 1 < 3; decide)
          case h10 => rfl
          refine WA.take 5 rfl (by kernel_rfl) (by kernel_rfl) (by kernel_rfl) rfl rfl (by decide) (pureV_ok tab_ok rfl (fun _ => rfl)) qS (by first | exact RLe.refl _ | assumption) ?_
          refine WA.take 6 rfl (by kernel_rfl) (by kernel_rfl) (by kernel_rfl) rfl rfl (by decide) (Yl.index tab_ok rfl rfl rfl rfl rfl rfl (fun _ => rfl) (by intro _; constructor <;> decide) (by intro _; first | exact fun _ _ _ h => ha49 h | exact fun _ _ _ _ => rfl | exact RS.has (by assumption) | exact fun _ _ _ _ => (by assumption) | exact HasMem.ownD 0 rfl | exact HasMem.ownD 1 rfl | exact HasMem.ownD 2 rfl | exact HasMem.ownD 3 rfl | exact HasMem.ownD 4 rfl | exact HasMem.ownD 5 rfl | exact HasMem.ownD 6 rfl | exact HasMem.ownD 7 rfl)) qS (by first | exact RLe.refl _ | assumption) ?_
          refine' WA.take 7 rfl (by kernel_rfl) (by kernel_rfl) (by kernel_rfl) rfl rfl (by decide) (Yl.load1 tab_ok rfl rfl rfl (fun _ => rfl) ?r11 rfl ?h11) qS (by first | exact RLe.refl _ | assumption) ?_
          case r11 => exact RS.rdD hal (by show 2 < 3; decide)
          case h11 => rfl
          refine WA.take 9 rfl (by kernel_rfl) (by kernel_rfl) (by kernel_rfl) rfl rfl (by decide) (pureV_ok tab_ok rfl (fun _ => rfl)) qS (by first | exact RLe.refl _ | assumption) ?_
          refine WA.br2 (i := 8) (j := 14) (by kernel_rfl) ?_ ?_
          ·
            refine WS.eff rfl rfl rfl (by decide) (Ef.buildSliceD (enc := encC) (parts := [.tmp 68, .tmp 71, .tmp 74]) [(⟨fsm, ksm, ⟨fvals (plusF (normR v1) (normR v4)) (s + p), p, q⟩⟩ : CvS), ⟨fz2, kz2, v2⟩, ⟨fz3, kz3, v3⟩] tab_ok rfl rfl rfl rfl rfl rfl rfl rfl (by decide) (by decide) (fun a75 => ?_))
            refine ⟨by first | exact RLe.refl _ | assumption, qS, ?_⟩
            refine WA.freeze (enc := encC) (xs := ([⟨fsm, ksm, ⟨fvals (plusF (normR v1) (normR v4)) (s + p), p, q⟩⟩, ⟨fz2, kz2, v2⟩, ⟨fz3, kz3, v3⟩] : List CvS)) 0 rfl ?_
            intro R11 hR11 hal2
            have hz := hz.mono hR11
            have hal := hal.mono hR11
            have hzz := hzz.mono hR11
            have hzv1 := hzv1.mono hR11
            have hzv2 := hzv2.mono hR11
            have hzv3 := hzv3.mono hR11
            have hbig := hbig.mono hR11
            have hfs := hfs.mono hR11
            have hf1 := hf1.mono hR11
            have hb7 := hR11 _ _ hb7
            have hb10 := hR11 _ _ hb10
            refine WA.br2 (i := 10) (j := 14) (by kernel_rfl) ?_ ?_
            ·
              refine WS.callG rfl en45 rfl (by first | rfl | decide) rfl (by decide) (CallOp.mkT rfl rfl rfl rfl) (PCurve_len (ls := ([⟨fsm, ksm, ⟨fvals (plusF (normR v1) (normR v4)) (s + p), p, q⟩⟩, ⟨fz2, kz2, v2⟩, ⟨fz3, kz3, v3⟩] : List CvS)) (z := ([⟨1, 9⟩, ⟨1, 9⟩, ⟨1, 9⟩] : List Sz)) hal2 rfl (by simp) (fun x hx => by simp only [List.mem_cons, List.not_mem_nil, or_false] at hx; rcases hx with rfl | rfl | rfl; exact ⟨hfs, by have := hfcs.hn; dsimp only; rw [fvals_len]; omega⟩; exact ⟨hzv2, by have := hsm2.len; dsimp only; omega⟩; exact ⟨hzv3, by have := hsm3.len; dsimp only; omega⟩) hzz rfl (by simp) w0 _) ?_
              rintro _ R12 _ hR12 ⟨f2, fc2, rfl, hf2, hsub2⟩
              have hR1112 := hR11.trans hR12
              refine ⟨hR1112, List.nil_sublist _, ?_⟩
              refine WA.subE hsub2 ?_
              unfold cvV
              have hz := hz.mono hR12
              have hal := hal.mono hR12
              have hzz := hzz.mono hR12
              have hzv1 := hzv1.mono hR12
              have hzv2 := hzv2.mono hR12
              have hzv3 := hzv3.mono hR12
              have hbig := hbig.mono hR12
              have hfs := hfs.mono hR12
              have hf1 := hf1.mono hR12
              have hb7 := hR12 _ _ hb7
              have hb10 := hR12 _ _ hb10
              refine WA.take 11 rfl (by kernel_rfl) (by kernel_rfl) (by kernel_rfl) rfl rfl (by decide) (pureV_ok tab_ok rfl (fun _ => rfl)) qS (by first | exact RLe.refl _ | assumption) ?_
              refine WA.take 12 rfl (by kernel_rfl) (by kernel_rfl) (by kernel_rfl) rfl rfl (by decide) (pureV_ok tab_ok rfl (fun _ => rfl)) qS (by first | exact RLe.refl _ | assumption) ?_
              refine WA.take 13 rfl (by kernel_rfl) (by kernel_rfl) (by kernel_rfl) rfl rfl (by decide) (pureV_ok tab_ok rfl (fun _ => rfl)) qS (by first | exact RLe.refl _ | assumption) ?_
              refine WA.eff 14 rfl (by kernel_rfl) rfl rfl (by decide) (Ef.alloc tab_ok rfl rfl (fun b12 => ?_))
              refine ⟨by first | exact RLe.refl _ | assumption, qS, ?_⟩
              refine WA.effN 15 rfl (by kernel_rfl) rfl rfl (Ef.store0 0 tab_ok rfl rfl rfl rfl rfl rfl rfl rfl ?_)
              refine ⟨by first | exact RLe.refl _ | assumption, qS, ?_⟩
              refine WA.take 16 rfl (by kernel_rfl) (by kernel_rfl) (by kernel_rfl) rfl rfl (by decide) (pureV_ok tab_ok rfl (fun _ => rfl)) qS (by first | exact RLe.refl _ | assumption) ?_
              refine WA.done (by kernel_rfl) ?_
              refine WE.cut (R12, b12, f2, fc2) ⟨hR1112, hf2⟩ ⟨rfl, rfl, rfl, rfl, rfl, rfl, rfl, rfl, rfl, rfl⟩ (RLe.refl _) qS
            ·
              refine WS.eff rfl rfl rfl (by decide) (Ef.alloc tab_ok rfl rfl (fun b12 => ?_))
              refine ⟨by first | exact RLe.refl _ | assumption, qS, ?_⟩
              refine WA.callG 10 rfl (by kernel_rfl) en45 rfl (by first | rfl | decide) rfl (by decide) (CallOp.mkT rfl rfl rfl rfl) (PCurve_len (ls := ([⟨fsm, ksm, ⟨fvals (plusF (normR v1) (normR v4)) (s + p), p, q⟩⟩, ⟨fz2, kz2, v2⟩, ⟨fz3, kz3, v3⟩] : List CvS)) (z := ([⟨1, 9⟩, ⟨1, 9⟩, ⟨1, 9⟩] : List Sz)) hal2 rfl (by simp) (fun x hx => by simp only [List.mem_cons, List.not_mem_nil, or_false] at hx; rcases hx with rfl | rfl | rfl; exact ⟨hfs, by have := hfcs.hn; dsimp only; rw [fvals_len]; omega⟩; exact ⟨hzv2, by have := hsm2.len; dsimp only; omega⟩; exact ⟨hzv3, by have := hsm3.len; dsimp only; omega⟩) hzz rfl (by simp) w0 _) ?_
              rintro _ R12 _ hR12 ⟨f2, fc2, rfl, hf2, hsub2⟩
              have hR1112 := hR11.trans hR12
              refine ⟨hR1112, List.nil_sublist _, ?_⟩
              refine WA.subE hsub2 ?_
              unfold cvV
              have hz := hz.mono hR12
              have hal := hal.mono hR12
              have hzz := hzz.mono hR12
              have hzv1 := hzv1.mono hR12
              have hzv2 := hzv2.mono hR12
              have hzv3 := hzv3.mono hR12
              have hbig := hbig.mono hR12
              have hfs := hfs.mono hR12
              have hf1 := hf1.mono hR12
              have hb7 := hR12 _ _ hb7
              have hb10 := hR12 _ _ hb10
              refine WA.take 11 rfl (by kernel_rfl) (by kernel_rfl) (by kernel_rfl) rfl rfl (by decide) (pureV_ok tab_ok rfl (fun _ => rfl)) qS (by first | exact RLe.refl _ | assumption) ?_
              refine WA.take 12 rfl (by kernel_rfl) (by kernel_rfl) (by kernel_rfl) rfl rfl (by decide) (pureV_ok tab_ok rfl (fun _ => rfl)) qS (by first | exact RLe.refl _ | assumption) ?_
              refine WA.take 13 rfl (by kernel_rfl) (by kernel_rfl) (by kernel_rfl) rfl rfl (by decide) (pureV_ok tab_ok rfl (fun _ => rfl)) qS (by first | exact RLe.refl _ | assumption) ?_
              refine WA.effN 15 rfl (by kernel_rfl) rfl rfl (Ef.store0 0 tab_ok rfl rfl rfl rfl rfl rfl rfl rfl ?_)
              refine ⟨by first | exact RLe.refl _ | assumption, qS, ?_⟩
              refine WA.take 16 rfl (by kernel_rfl) (by kernel_rfl) (by kernel_rfl) rfl rfl (by decide) (pureV_ok tab_ok rfl (fun _ => rfl)) qS (by first | exact RLe.refl _ | assumption) ?_
              refine WA.done (by kernel_rfl) ?_
              refine WE.cut (R12, b12, f2, fc2) ⟨hR1112, hf2⟩ ⟨rfl, rfl, rfl, rfl, rfl, rfl, rfl, rfl, rfl, rfl⟩ (RLe.refl _) qS
          ·
            refine WS.eff rfl rfl rfl (by decide) (Ef.alloc tab_ok rfl rfl (fun b12 => ?_))
            refine ⟨by first | exact RLe.refl _ | assumption, qS, ?_⟩
            refine WA.eff 8 rfl (by kernel_rfl) rfl rfl (by decide) (Ef.buildSliceD (enc := encC) (parts := [.tmp 68, .tmp 71, .tmp 74]) [(⟨fsm, ksm, ⟨fvals (plusF (normR v1) (normR v4)) (s + p), p, q⟩⟩ : CvS), ⟨fz2, kz2, v2⟩, ⟨fz3, kz3, v3⟩] tab_ok rfl rfl rfl rfl rfl rfl rfl rfl (by decide) (by decide) (fun a75 => ?_))
            refine ⟨by first | exact RLe.refl _ | assumption, qS, ?_⟩
            refine WA.freeze (enc := encC) (xs := ([⟨fsm, ksm, ⟨fvals (plusF (normR v1) (normR v4)) (s + p), p, q⟩⟩, ⟨fz2, kz2, v2⟩, ⟨fz3, kz3, v3⟩] : List CvS)) 0 rfl ?_
            intro R11 hR11 hal2
            have hz := hz.mono hR11
            have hal := hal.mono hR11
            have hzz := hzz.mono hR11
            have hzv1 := hzv1.mono hR11
            have hzv2 := hzv2.mono hR11
            have hzv3 := hzv3.mono hR11
            have hbig := hbig.mono hR11
            have hfs := hfs.mono hR11
            have hf1 := hf1.mono hR11
            have hb7 := hR11 _ _ hb7
            have hb10 := hR11 _ _ hb10
            refine WA.callG 10 rfl (by kernel_rfl) en45 rfl (by first | rfl | decide) rfl (by decide) (CallOp.mkT rfl rfl rfl rfl) (PCurve_len (ls := ([⟨fsm, ksm, ⟨fvals (plusF (normR v1) (normR v4)) (s + p), p, q⟩⟩, ⟨fz2, kz2, v2⟩, ⟨fz3, kz3, v3⟩] : List CvS)) (z := ([⟨1, 9⟩, ⟨1, 9⟩, ⟨1, 9⟩] : List Sz)) hal2 rfl (by simp) (fun x hx => by simp only [List.mem_cons, List.not_mem_nil, or_false] at hx; rcases hx with rfl | rfl | rfl; exact ⟨hfs, by have := hfcs.hn; dsimp only; rw [fvals_len]; omega⟩; exact ⟨hzv2, by have := hsm2.len; dsimp only; omega⟩; exact ⟨hzv3, by have := hsm3.len; dsimp only; omega⟩) hzz rfl (by simp) w0 _) ?_
            rintro _ R12 _ hR12 ⟨f2, fc2, rfl, hf2, hsub2⟩
            have hR1112 := hR11.trans hR12
            refine ⟨hR1112, List.nil_sublist _, ?_⟩
            refine WA.subE hsub2 ?_
            unfold cvV
            have hz := hz.mono hR12
            have hal := hal.mono hR12
            have hzz := hzz.mono hR12
            have hzv1 := hzv1.mono hR12
            have hzv2 := hzv2.mono hR12
            have hzv3 := hzv3.mono hR12
            have hbig := hbig.mono hR12
            have hfs := hfs.mono hR12
            have hf1 := hf1.mono hR12
            have hb7 := hR12 _ _ hb7
            have hb10 := hR12 _ _ hb10
            refine WA.take 11 rfl (by kernel_rfl) (by kernel_rfl) (by kernel_rfl) rfl rfl (by decide) (pureV_ok tab_ok rfl (fun _ => rfl)) qS (by first | exact RLe.refl _ | assumption) ?_
            refine WA.take 12 rfl (by kernel_rfl) (by kernel_rfl) (by kernel_rfl) rfl rfl (by decide) (pureV_ok tab_ok rfl (fun _ => rfl)) qS (by first | exact RLe.refl _ | assumption) ?_
            refine WA.take 13 rfl (by kernel_rfl) (by kernel_rfl) (by kernel_rfl) rfl rfl (by decide) (pureV_ok tab_ok rfl (fun _ => rfl)) qS (by first | exact RLe.refl _ | assumption) ?_
            refine WA.effN 15 rfl (by kernel_rfl) rfl rfl (Ef.store0 0 tab_ok rfl rfl rfl rfl rfl rfl rfl rfl ?_)
            refine ⟨by first | exact RLe.refl _ | assumption, qS, ?_⟩
            refine WA.take 16 rfl (by kernel_rfl) (by kernel_rfl) (by kernel_rfl) rfl rfl (by decide) (pureV_ok tab_ok rfl (fun _ => rfl)) qS (by first | exact RLe.refl _ | assumption) ?_
            refine WA.done (by kernel_rfl) ?_
            refine WE.cut (R12, b12, f2, fc2) ⟨hR1112, hf2⟩ ⟨rfl, rfl, rfl, rfl, rfl, rfl, rfl, rfl, rfl, rfl⟩ (RLe.refl _) qS
      ·
        refine W.regionH _ (ES := []) mixed ?_
        refine WA.take 0 rfl (by kernel_rfl) (by kernel_rfl) (by kernel_rfl) rfl rfl (by decide) (pureV_ok tab_ok rfl (fun _ => rfl)) qS (by first | exact RLe.refl _ | assumption) ?_
        refine WA.take 1 rfl (by kernel_rfl) (by kernel_rfl) (by kernel_rfl) rfl rfl (by decide) (Yl.index tab_ok rfl rfl rfl rfl rfl rfl (fun _ => rfl) (by intro _; constructor <;> decide) (by intro _; first | exact fun _ _ _ h => ha49 h | exact fun _ _ _ _ => rfl | exact RS.has (by assumption) | exact fun _ _ _ _ => (by assumption) | exact HasMem.ownD 0 rfl | exact HasMem.ownD 1 rfl | exact HasMem.ownD 2 rfl | exact HasMem.ownD 3 rfl | exact HasMem.ownD 4 rfl | exact HasMem.ownD 5 rfl | exact HasMem.ownD 6 rfl | exact HasMem.ownD 7 rfl)) qS (by first | exact RLe.refl _ | assumption) ?_
        refine WA.take 2 rfl (by kernel_rfl) (by kernel_rfl) (by kernel_rfl) rfl rfl (by decide) (pureV_ok tab_ok rfl (fun _ => rfl)) qS (by first | exact RLe.refl _ | assumption) ?_
        refine WA.take 4 rfl (by kernel_rfl) (by kernel_rfl) (by kernel_rfl) rfl rfl (by decide) (pureV_ok tab_ok rfl (fun _ => rfl)) qS (by first | exact RLe.refl _ | assumption) ?_
        refine WA.br2 (i := 3) (j := 5) (by kernel_rfl) ?_ ?_
        ·
          refine' WS.yl rfl rfl rfl (by decide) (Yl.load1 tab_ok rfl rfl rfl (fun _ => rfl) ?r12 rfl ?h12) qS (RLe.refl _) ?_
          case r12 => apply Rd.add; exact Rd.slD 0 rfl (by show (Int.toNat 2) < 3; decide)
          case h12 => rfl
          refine WA.callAt 2 5 rfl (by kernel_rfl) en12 rfl rfl (by decide) (CallOp.mkT rfl rfl rfl rfl) rfl (N_C w0 hz (by constructor <;> decide) _) ?_
          rintro _ _ _ _ - ⟨rfl, rfl, rfl, rfl⟩
          refine ⟨RLe.refl _, qS, ?_⟩
          refine WA.take 6 rfl (by kernel_rfl) (by kernel_rfl) (by kernel_rfl) rfl rfl (by decide) (Yl.add rfl rfl rfl (fun _ => rfl) (by intro _; constructor <;> (try dsimp only) <;> omega)) qS (by first | exact RLe.refl _ | assumption) ?_
          refine WA.take 7 rfl (by kernel_rfl) (by kernel_rfl) (by kernel_rfl) rfl rfl (by decide) (Yl.index tab_ok rfl rfl rfl rfl rfl rfl (fun _ => rfl) (by intro _; constructor <;> decide) (by intro _; first | exact fun _ _ _ h => ha49 h | exact fun _ _ _ _ => rfl | exact RS.has (by assumption) | exact fun _ _ _ _ => (by assumption) | exact HasMem.ownD 0 rfl | exact HasMem.ownD 1 rfl | exact HasMem.ownD 2 rfl | exact HasMem.ownD 3 rfl | exact HasMem.ownD 4 rfl | exact HasMem.ownD 5 rfl | exact HasMem.ownD 6 rfl | exact HasMem.ownD 7 rfl)) qS (by first | exact RLe.refl _ | assumption) ?_
          refine WA.take 8 rfl (by kernel_rfl) (by kernel_rfl) (by kernel_rfl) rfl rfl (by decide) (pureV_ok tab_ok rfl (fun _ => rfl)) qS (by first | exact RLe.refl _ | assumption) ?_
          refine WA.effN 9 rfl (by kernel_rfl) rfl rfl (Ef.storeF (enc := encZ) (xs := ([⟨1, 9⟩, ⟨1, 9⟩, ⟨1, 9⟩] : List Sz)) (⟨(nth ([⟨1, 9⟩, ⟨1, 9⟩, ⟨1, 9⟩] : List Sz) (Int.toNat 2)).least, (nth ([⟨1, 9⟩, ⟨1, 9⟩, ⟨1, 9⟩] : List Sz) (Int.toNat 2)).most + mod (nth (xs.take 2000) n4) 20⟩ : Sz) 0 tab_ok rfl rfl rfl rfl rfl (by show (Int.toNat 2) < 3; decide) rfl rfl (by decide) rfl ?_)
          refine ⟨by first | exact RLe.refl _ | assumption, qS, ?_⟩
          refine WA.done (by kernel_rfl) ?_
          refine WE.cut (([⟨1, 9⟩, ⟨1, 9⟩, ⟨1, 9⟩] : List Sz).set (Int.toNat 2) (⟨(nth ([⟨1, 9⟩, ⟨1, 9⟩, ⟨1, 9⟩] : List Sz) (Int.toNat 2)).least, (nth ([⟨1, 9⟩, ⟨1, 9⟩, ⟨1, 9⟩] : List Sz) (Int.toNat 2)).most + mod (nth (xs.take 2000) n4) 20⟩ : Sz)) rfl ⟨rfl, rfl, rfl, rfl, rfl, rfl, rfl, rfl⟩ (RLe.refl _) qS
        ·
          refine WS.callAt 2 rfl en12 rfl rfl (by decide) (CallOp.mkT rfl rfl rfl rfl) rfl (N_C w0 hz (by constructor <;> decide) _) ?_
          rintro _ _ _ _ - ⟨rfl, rfl, rfl, rfl⟩
          refine ⟨by first | exact RLe.refl _ | assumption, qS, ?_⟩
          refine' WA.yl 3 rfl (by kernel_rfl) rfl rfl (by decide) (Yl.load1 tab_ok rfl rfl rfl (fun _ => rfl) ?r13 rfl ?h13) qS (RLe.refl _) ?_
          case r13 => apply Rd.add; exact Rd.slD 0 rfl (by show (Int.toNat 2) < 3; decide)
          case h13 => rfl
          refine WA.take 6 rfl (by kernel_rfl) (by kernel_rfl) (by kernel_rfl) rfl rfl (by decide) (Yl.add rfl rfl rfl (fun _ => rfl) (by intro _; constructor <;> (try dsimp only) <;> omega)) qS (by first | exact RLe.refl _ | assumption) ?_
          refine WA.take 7 rfl (by kernel_rfl) (by kernel_rfl) (by kernel_rfl) rfl rfl (by decide) (Yl.index tab_ok rfl rfl rfl rfl rfl rfl (fun _ => rfl) (by intro _; constructor <;> decide) (by intro _; first | exact fun _ _ _ h => ha49 h | exact fun _ _ _ _ => rfl | exact RS.has (by assumption) | exact fun _ _ _ _ => (by assumption) | exact HasMem.ownD 0 rfl | exact HasMem.ownD 1 rfl | exact HasMem.ownD 2 rfl | exact HasMem.ownD 3 rfl | exact HasMem.ownD 4 rfl | exact HasMem.ownD 5 rfl | exact HasMem.ownD 6 rfl | exact HasMem.ownD 7 rfl)) qS (by first | exact RLe.refl _ | assumption) ?_
          refine WA.take 8 rfl (by kernel_rfl) (by kernel_rfl) (by kernel_rfl) rfl rfl (by decide) (pureV_ok tab_ok rfl (fun _ => rfl)) qS (by first | exact RLe.refl _ | assumption) ?_
          refine WA.effN 9 rfl (by kernel_rfl) rfl rfl (Ef.storeF (enc := encZ) (xs := ([⟨1, 9⟩, ⟨1, 9⟩, ⟨1, 9⟩] : List Sz)) (⟨(nth ([⟨1, 9⟩, ⟨1, 9⟩, ⟨1, 9⟩] : List Sz) (Int.toNat 2)).least, (nth ([⟨1, 9⟩, ⟨1, 9⟩, ⟨1, 9⟩] : List Sz) (Int.toNat 2)).most + mod (nth (xs.take 2000) n4) 20⟩ : Sz) 0 tab_ok rfl rfl rfl rfl rfl (by show (Int.toNat 2) < 3; decide) rfl rfl (by decide) rfl ?_)
          refine ⟨by first | exact RLe.refl _ | assumption, qS, ?_⟩
          refine WA.done (by kernel_rfl) ?_
          refine WE.cut (([⟨1, 9⟩, ⟨1, 9⟩, ⟨1, 9⟩] : List Sz).set (Int.toNat 2) (⟨(nth ([⟨1, 9⟩, ⟨1, 9⟩, ⟨1, 9⟩] : List Sz) (Int.toNat 2)).least, (nth ([⟨1, 9⟩, ⟨1, 9⟩, ⟨1, 9⟩] : List Sz) (Int.toNat 2)).most + mod (nth (xs.take 2000) n4) 20⟩ : Sz)) rfl ⟨rfl, rfl, rfl, rfl, rfl, rfl, rfl, rfl⟩ (RLe.refl _) qS
  ·
    refine W.regionH _ (ES := []) mixed ?_
    refine WA.take 0 rfl (by kernel_rfl) (by kernel_rfl) (by kernel_rfl) rfl rfl (by decide) (pureV_ok tab_ok rfl (fun _ => rfl)) qS (by first | exact RLe.refl _ | assumption) ?_
    refine WA.take 1 rfl (by kernel_rfl) (by kernel_rfl) (by kernel_rfl) rfl rfl (by decide) (Yl.index tab_ok rfl rfl rfl rfl rfl rfl (fun _ => rfl) (by intro _; constructor <;> decide) (by intro _; first | exact fun _ _ _ h => ha49 h | exact fun _ _ _ _ => rfl | exact RS.has (by assumption) | exact fun _ _ _ _ => (by assumption) | exact HasMem.ownD 0 rfl | exact HasMem.ownD 1 rfl | exact HasMem.ownD 2 rfl | exact HasMem.ownD 3 rfl | exact HasMem.ownD 4 rfl | exact HasMem.ownD 5 rfl | exact HasMem.ownD 6 rfl | exact HasMem.ownD 7 rfl)) qS (by first | exact RLe.refl _ | assumption) ?_
    refine' WA.take 2 rfl (by kernel_rfl) (by kernel_rfl) (by kernel_rfl) rfl rfl (by decide) (Yl.load1 tab_ok rfl rfl rfl (fun _ => rfl) ?r14 rfl ?h14) qS (by first | exact RLe.refl _ | assumption) ?_
    case r14 => exact RS.rdD hal (by show 0 < 3; decide)
    case h14 => rfl
    refine WA.take 3 rfl (by kernel_rfl) (by kernel_rfl) (by kernel_rfl) rfl rfl (by decide) (pureV_ok tab_ok rfl (fun _ => rfl)) qS (by first | exact RLe.refl _ | assumption) ?_
    refine WA.br2 (i := 4) (j := 9) (by kernel_rfl) ?_ ?_
    ·
      refine WS.callAt 0 rfl en11 rfl rfl (by decide) (CallOp.mkT rfl rfl rfl rfl) rfl (Zero_C w0 hz (most := 3) (by decide) _) ?_
      rintro _ R6 _ _ hR6 ⟨fz4, kz4, n4, v4, rfl, hzv4, hsm4, hfn4, hz04, hcp4, rfl, rfl⟩
      have hz := hz.mono hR6
      have hal := hal.mono hR6
      have hzz := hzz.mono hR6
      have hzv1 := hzv1.mono hR6
      have hzv2 := hzv2.mono hR6
      have hzv3 := hzv3.mono hR6
      refine ⟨hR6, qS, ?_⟩
      refine WA.br2 (i := 5) (j := 9) (by kernel_rfl) ?_ ?_
      ·
        refine WS.callG rfl en19 rfl (by first | rfl | decide) rfl (by decide) (CallOp.mkT rfl rfl rfl rfl) (Sum05_C (c := v1) (d := v4) hsm1 hfn1 hzv1 hcp1 hsm4 hfn4 hzv4 hcp4 w0 _) ?_
        rintro _ R7 E7 hR7 ⟨fsm, ksm, s, p, q, rfl, hfs, hfcs, hsubS⟩
        refine ⟨hR6.trans hR7, List.nil_sublist _, ?_⟩
        refine WA.subE hsubS ?_
        have hz := hz.mono hR7
        have hal := hal.mono hR7
        have hzz := hzz.mono hR7
        have hzv1 := hzv1.mono hR7
        have hzv2 := hzv2.mono hR7
        have hzv3 := hzv3.mono hR7
        have hzv4 := hzv4.mono hR7
        have hR67 := hR6.trans hR7
        refine WA.take 6 rfl (by kernel_rfl) (by kernel_rfl) (by kernel_rfl) rfl rfl (by decide) (pureV_ok tab_ok rfl (fun _ => rfl)) qS (by first | exact RLe.refl _ | assumption) ?_
        refine WA.take 7 rfl (by kernel_rfl) (by kernel_rfl) (by kernel_rfl) rfl rfl (by decide) (pureV_ok tab_ok rfl (fun _ => rfl)) qS (by first | exact RLe.refl _ | assumption) ?_
        refine WA.take 8 rfl (by kernel_rfl) (by kernel_rfl) (by kernel_rfl) rfl rfl (by decide) (pureV_ok tab_ok rfl (fun _ => rfl)) qS (by first | exact RLe.refl _ | assumption) ?_
        refine WA.eff 9 rfl (by kernel_rfl) rfl rfl (by decide) (Ef.alloc tab_ok rfl rfl (fun b7 => ?_))
        refine ⟨by first | exact RLe.refl _ | assumption, qS, ?_⟩
        refine WA.effN 10 rfl (by kernel_rfl) rfl rfl (Ef.store0 0 tab_ok rfl rfl rfl rfl rfl rfl rfl rfl ?_)
        refine ⟨by first | exact RLe.refl _ | assumption, qS, ?_⟩
        refine WA.take 11 rfl (by kernel_rfl) (by kernel_rfl) (by kernel_rfl) rfl rfl (by decide) (pureV_ok tab_ok rfl (fun _ => rfl)) qS (by first | exact RLe.refl _ | assumption) ?_
        refine WA.done (by kernel_rfl) ?_
        refine WE.cut (R7, b7, v4, fsm, ksm, s, p, q, n4) ⟨hR67, hsm4, hfn4, hfs, hfcs⟩ ⟨rfl, rfl, rfl, rfl, rfl, rfl, rfl⟩ (RLe.refl _) qS
      ·
        refine WS.eff rfl rfl rfl (by decide) (Ef.alloc tab_ok rfl rfl (fun b7 => ?_))
        refine ⟨by first | exact RLe.refl _ | assumption, qS, ?_⟩
        refine WA.callG 5 rfl (by kernel_rfl) en19 rfl (by first | rfl | decide) rfl (by decide) (CallOp.mkT rfl rfl rfl rfl) (Sum05_C (c := v1) (d := v4) hsm1 hfn1 hzv1 hcp1 hsm4 hfn4 hzv4 hcp4 w0 _) ?_
        rintro _ R7 E7 hR7 ⟨fsm, ksm, s, p, q, rfl, hfs, hfcs, hsubS⟩
        refine ⟨hR6.trans hR7, List.nil_sublist _, ?_⟩
        refine WA.subE hsubS ?_
        have hz := hz.mono hR7
        have hal := hal.mono hR7
        have hzz := hzz.mono hR7
        have hzv1 := hzv1.mono hR7
        have hzv2 := hzv2.mono hR7
        have hzv3 := hzv3.mono hR7
        have hzv4 := hzv4.mono hR7
        have hR67 := hR6.trans hR7
        refine WA.take 6 rfl (by kernel_rfl) (by kernel_rfl) (by kernel_rfl) rfl rfl (by decide) (pureV_ok tab_ok rfl (fun _ => rfl)) qS (by first | exact RLe.refl _ | assumption) ?_
        refine WA.take 7 rfl (by kernel_rfl) (by kernel_rfl) (by kernel_rfl) rfl rfl (by decide) (pureV_ok tab_ok rfl (fun _ => rfl)) qS (by first | exact RLe.refl _ | assumption) ?_
        refine WA.take 8 rfl (by kernel_rfl) (by kernel_rfl) (by kernel_rfl) rfl rfl (by decide) (pureV_ok tab_ok rfl (fun _ => rfl)) qS (by first | exact RLe.refl _ | assumption) ?_
        refine WA.effN 10 rfl (by kernel_rfl) rfl rfl (Ef.store0 0 tab_ok rfl rfl rfl rfl rfl rfl rfl rfl ?_)
        refine ⟨by first | exact RLe.refl _ | assumption, qS, ?_⟩
        refine WA.take 11 rfl (by kernel_rfl) (by kernel_rfl) (by kernel_rfl) rfl rfl (by decide) (pureV_ok tab_ok rfl (fun _ => rfl)) qS (by first | exact RLe.refl _ | assumption) ?_
        refine WA.done (by kernel_rfl) ?_
        refine WE.cut (R7, b7, v4, fsm, ksm, s, p, q, n4) ⟨hR67, hsm4, hfn4, hfs, hfcs⟩ ⟨rfl, rfl, rfl, rfl, rfl, rfl, rfl⟩ (RLe.refl _) qS
    ·
      refine WS.eff rfl rfl rfl (by decide) (Ef.alloc tab_ok rfl rfl (fun b7 => ?_))
      refine ⟨by first | exact RLe.refl _ | assumption, qS, ?_⟩
      refine WA.callAt 1 4 rfl (by kernel_rfl) en11 rfl rfl (by decide) (CallOp.mkT rfl rfl rfl rfl) rfl (Zero_C w0 hz (most := 3) (by decide) _) ?_
      rintro _ R6 _ _ hR6 ⟨fz4, kz4, n4, v4, rfl, hzv4, hsm4, hfn4, hz04, hcp4, rfl, rfl⟩
      have hz := hz.mono hR6
      have hal := hal.mono hR6
      have hzz := hzz.mono hR6
      have hzv1 := hzv1.mono hR6
      have hzv2 := hzv2.mono hR6
      have hzv3 := hzv3.mono hR6
      refine ⟨hR6, qS, ?_⟩
      refine WA.callG 5 rfl (by kernel_rfl) en19 rfl (by first | rfl | decide) rfl (by decide) (CallOp.mkT rfl rfl rfl rfl) (Sum05_C (c := v1) (d := v4) hsm1 hfn1 hzv1 hcp1 hsm4 hfn4 hzv4 hcp4 w0 _) ?_
      rintro _ R7 E7 hR7 ⟨fsm, ksm, s, p, q, rfl, hfs, hfcs, hsubS⟩
      refine ⟨hR6.trans hR7, List.nil_sublist _, ?_⟩
      refine WA.subE hsubS ?_
      have hz := hz.mono hR7
      have hal := hal.mono hR7
      have hzz := hzz.mono hR7
      have hzv1 := hzv1.mono hR7
      have hzv2 := hzv2.mono hR7
      have hzv3 := hzv3.mono hR7
      have hzv4 := hzv4.mono hR7
      have hR67 := hR6.trans hR7
      refine WA.take 6 rfl (by kernel_rfl) (by kernel_rfl) (by kernel_rfl) rfl rfl (by decide) (pureV_ok tab_ok rfl (fun _ => rfl)) qS (by first | exact RLe.refl _ | assumption) ?_
      refine WA.take 7 rfl (by kernel_rfl) (by kernel_rfl) (by kernel_rfl) rfl rfl (by decide) (pureV_ok tab_ok rfl (fun _ => rfl)) qS (by first | exact RLe.refl _ | assumption) ?_
      refine WA.take 8 rfl (by kernel_rfl) (by kernel_rfl) (by kernel_rfl) rfl rfl (by decide) (pureV_ok tab_ok rfl (fun _ => rfl)) qS (by first | exact RLe.refl _ | assumption) ?_
      refine WA.effN 10 rfl (by kernel_rfl) rfl rfl (Ef.store0 0 tab_ok rfl rfl rfl rfl rfl rfl rfl rfl ?_)
      refine ⟨by first | exact RLe.refl _ | assumption, qS, ?_⟩
      refine WA.take 11 rfl (by kernel_rfl) (by kernel_rfl) (by kernel_rfl) rfl rfl (by decide) (pureV_ok tab_ok rfl (fun _ => rfl)) qS (by first | exact RLe.refl _ | assumption) ?_
      refine WA.done (by kernel_rfl) ?_
      refine WE.cut (R7, b7, v4, fsm, ksm, s, p, q, n4) ⟨hR67, hsm4, hfn4, hfs, hfcs⟩ ⟨rfl, rfl, rfl, rfl, rfl, rfl, rfl⟩ (RLe.refl _) qS

end Go.Proofs.Ytolmmfphdieilaa

/- PriorityMonotone: for every list of numbers the law returns true, and the list reads afterwards as it read before. No condition. -/
namespace Go.Proofs.Ytolmmfphdieilaa
open Go Go.RowKit Go.ChangeShapes Go.WideShapes Go.ChangeAt Go.WideElems Go.Maps Go.Proofs.Ytolmmfphdieilaa.K
namespace priorityMonotone
theorem law : LawI Try.prog 8 := fun ha hc w0 => PriorityMonotone_F ha hc w0
theorem own : ownKnob Try.prog.godebug = none := by kernel_rfl
theorem laidOut : laidOutB Try.prog = true := by kernel_rfl
theorem cellsI : Try.prog.cellsOf 3 = 1 := by kernel_rfl
set_option maxRecDepth 100000 in
theorem lifted (os : Os) (started : os.Started) (H : Type) (enc : TypeId × Value → H) :
    ReturnsInHanded {} Try.checked os 8 .any (Rows.priorityMonotoneSpec.pre6 enc Try.prog Try.f8 Rows.priorityMonotoneRow.domain false) (Rows.priorityMonotoneSpec.post enc Try.prog Try.f8 false true false false) := by
  refine returnsInHanded_of_change (C := Try.checked) own started (by kernel_rfl) Try.func8
    (ChangeSpec.witness6 (enc := enc) (C := Try.checked) false ⟨#[], #[.slice none 0 0], []⟩ 8 (by kernel_rfl) (by kernel_rfl) (by kernel_rfl) (by kernel_rfl)) ?_
  intro W base args ds gs before hval0 hW _ _
  have hval : ∀ (j : Nat) t v, Try.f8.params[j]? = some t → args[j]? = some v → Value.okWide Try.prog W .any base t v := hval0
  have hW' := hW
  obtain ⟨p, q, hA0, hV, rfl, _, _⟩ := hW
  have hA : DataW.TrodAll enc Try.prog W 0 (fun _ => true) true Try.f8.params.toList args.toList ds p := hA0
  rw [Try.params8] at hA hval
  obtain ⟨v0, d0, rfl, rfl, h0⟩ := trodAll_one hA
  obtain ⟨rfl, rfl⟩ := trodVars_none hV
  have h0k := h0
  obtain ⟨fuel, hf⟩ := h0
  clear hA0 hval0
  simp only [List.append_nil] at hW'
  have hlt : ∀ x ∈ p, x.block < W.heap.size := fun x hx => by simpa using hW'.lt x hx
  have hargs : ∀ W', Below W.heap.size W W' → DataW.Trod enc Try.prog W' 0 (fun b => decide (b < W.heap.size)) true 22 v0 d0 p := fun W' hb =>
    Below.trod laidOut (by kernel_rfl) (of_decide_eq_true (by kernel_rfl)) h0k hb hlt
  obtain ⟨a0, len, cap, rfl⟩ := okWide_slice Try.underlying22 (hval 0 22 v0 rfl rfl)
  rcases open_ints Try.underlying22 Try.underlying3 cellsI hf with ⟨hcs, hx⟩ | ⟨a, len', cap', zs, hcs, _, hl, hm, hz, hx, hcell, hwz⟩
  · simp [Value.cells] at hcs
    obtain ⟨rfl, rfl, rfl⟩ := hcs
    simp only [Prod.mk.injEq] at hx
    obtain ⟨rfl, rfl⟩ := hx
    refine (law.nil W).mono fun e W' ⟨he, hb⟩ => ?_
    subst he
    exact ⟨_, rfl, ⟨_, _, _, [], _, [], hW', trodAll_mk1 (shut_bool Try.underlying4 _), trodAll_mk1 (hargs W' hb), rfl, hb.frame _, fun h => by cases h⟩⟩
  · simp [Value.cells] at hcs
    obtain ⟨rfl, rfl, rfl⟩ := hcs
    simp only [Prod.mk.injEq] at hx
    obtain ⟨rfl, rfl⟩ := hx
    simp only [if_true] at hz
    refine (law.some (len := len) hcell (by rw [hz]; simp only [maxLen] at hm; omega) hz hl).mono fun e W' ⟨he, hb⟩ => ?_
    subst he
    exact ⟨_, rfl, ⟨_, _, _, [], _, [], hW', trodAll_mk1 (shut_bool Try.underlying4 _), trodAll_mk1 (hargs W' hb), rfl, hb.frame _, fun h => by cases h⟩⟩
end priorityMonotone
theorem priorityMonotone_holds : Rows.PriorityMonotoneSaid :=
  OpenClaim.holds_of_wide 8 Try.f8 rfl rfl rfl rfl rfl rfl rfl ⟨rfl, rfl, rfl, rfl, rfl⟩ rfl rfl rfl rfl rfl (by kernel_rfl) Try.func8 (by kernel_rfl)
    (of_decide_eq_true (by kernel_rfl)) (by unfold Func.isWrapper; first | (rw [if_pos (by decide +kernel)]; kernel_rfl) | (rw [if_neg (by decide +kernel)]; exact ⟨rfl, rfl⟩))
    (fun os started H enc _ => priorityMonotone.lifted os started H enc)
end Go.Proofs.Ytolmmfphdieilaa
