/- Rules and walks, joined from 15 texts: the first of them says: A small finite curve that a statement makes, 0 at the tick 0. No condition. -/
import Derived.Test.YtolmmfphdieilaaG5
/- A small finite curve that a statement makes, 0 at the tick 0. No condition. -/
set_option linter.unusedSimpArgs false
set_option linter.unusedVariables false
namespace Go.Proofs.Ytolmmfphdieilaa
open Go Go.RowKit Go.Proofs.Ytolmmfphdieilaa.K Go.Proofs.Ytolmmfphdieilaa.M

theorem Zero_C {R : Ro} {b : Nat} {a : Option Addr} {cp : Nat} {xs : List Int} {c : Nat} (w0 : World) (ha : RS R 1 encI a xs) {most : Nat} (hmo : 1 ≤ most ∧ most ≤ 20) : FnAt Try.prog 11 [.pointer (some ⟨b, 0, none⟩), .int .i64 (most : Int)] w0 R (srcE b a cp xs c) (fun v R' e' N => ∃ (f : Option Addr) (fc cn : Nat) (cv : Cv), v = .agg #[.slice f cv.vals.length fc, .int .i64 cv.per, .int .i64 cv.inc] ∧ RS R' 1 encI f cv.vals ∧ SmallC cv ∧ finB cv = true ∧ nth cv.vals 0 = 0 ∧ cv.vals.length ≤ fc ∧ e' = srcE b a cp xs cn ∧ N = []) := by
  intro F
  refine Fn.enter (n := 58) Try.func11 rfl rfl (Nat.le_of_ble_eq_true rfl) rfl ?_
  refine W.seq ?_
  refine W.region _ ?_
  refine WL.ef rfl rfl (by decide) (Ef.alloc tab_ok rfl rfl (fun b4 => ?_))
  refine WG.nil ?_
  refine WE.nxt ?_
  refine W.seq ?_
  refine W.region _ ?_
  refine WG.run tab_ok 2 rfl ?_
  refine WL.callAt 1 en24 rfl rfl (by decide) (CallOp.mkT rfl rfl rfl rfl) rfl (KCurve_C w0 ha hmo _) ?_
  rintro _ RC _ _ hRC ⟨fa, fc, c1, cv, rfl, hfa, hsc, hcc, rfl, rfl⟩
  have ha := ha.mono hRC
  refine WL.ef rfl rfl (by decide) (Ef.alloc tab_ok rfl rfl (fun b5 => ?_))
  refine WL.efN rfl rfl (Ef.store0 0 tab_ok rfl rfl rfl rfl rfl rfl rfl rfl ?_)
  refine WG.nil ?_
  refine WE.nxt ?_
  refine W.seq ?_
  refine W.block ?_
  refine W.loopR (β := Cv × Option Addr × Nat × Nat × Ro) (fun (ck, fk, gk, cn, Rk) => RLe RC Rk ∧ RS Rk 1 encI fk ck.vals ∧ SmallC ck ∧ ck.vals.length ≤ gk) (fun (ck, fk, gk, cn, Rk) => []) [0, 4, 5] [_, _, _] [] _ rfl (fun (ck, fk, gk, cn, Rk) => [(0, .blk b5 [.slice fk ck.vals.length gk, .int .i64 ck.per, .int .i64 ck.inc]), (2, srcE b a cp xs cn)]) (fun (ck, fk, gk, cn, Rk) => Rk) (fun (ck, fk, gk, cn, Rk) => (if finB ck = true then 0 else 1)) ((cv, fa, fc, c1, RC)) (⟨RLe.refl _, hfa, hsc, hcc⟩) ⟨rfl, rfl, rfl, rfl⟩ (RLe.refl _) qS ?_
  intro zz hst
  obtain ⟨ck, fk, gk, cn, Rk⟩ := zz
  dsimp only [zipE, setAll, List.cons_append, List.nil_append, List.set_cons_zero, List.set_cons_succ] at hst ⊢
  obtain ⟨hRk, hfk, hsk, hgk⟩ := hst
  have ha := ha.mono hRk
  have hvr := valid_range hsk.valid
  refine W.seq ?_
  refine W.seq ?_
  refine W.region _ ?_
  refine WG.run tab_ok 1 rfl ?_
  refine' WG.y rfl rfl (by decide) (Yl.load1 tab_ok rfl rfl rfl (fun _ => rfl) ?r1 rfl ?h1) ?_
  case r1 => apply Rd.add; (exact Rd.blk 0 rfl)
  case h1 => rfl
  refine WG.run tab_ok 1 rfl ?_
  refine' WG.y rfl rfl (by decide) (Yl.load1 tab_ok rfl rfl rfl (fun _ => rfl) ?r2 rfl ?h2) ?_
  case r2 => apply Rd.add; (exact Rd.blk 0 rfl)
  case h2 => rfl
  refine WG.run tab_ok 1 rfl ?_
  refine WG.y rfl rfl (by decide) (Yl.sub rfl rfl rfl (fun _ => rfl) (by intro _; constructor <;> (try dsimp only) <;> omega)) ?_
  refine WG.y rfl rfl (by decide) (Yl.index tab_ok rfl rfl rfl rfl rfl rfl (fun _ => rfl) (by intro _; constructor <;> (try dsimp only) <;> omega) (by intro _; first | exact fun _ _ _ _ => ha40 (by omega) | exact fun _ _ _ _ => rfl | exact RS.has (by assumption) | exact fun _ _ _ _ => (by assumption) | exact HasMem.ownD 0 rfl | exact HasMem.ownD 1 rfl | exact HasMem.ownD 2 rfl | exact HasMem.ownD 3 rfl | exact HasMem.ownD 4 rfl | exact HasMem.ownD 5 rfl)) ?_
  refine' WG.y rfl rfl (by decide) (Yl.load1 tab_ok rfl rfl rfl (fun _ => rfl) ?r3 rfl ?h3) ?_
  case r3 => ((apply RS.rdD; assumption; ((try dsimp only) <;> omega)))
  case h3 => rfl
  refine WG.run tab_ok 1 rfl ?_
  refine WG.nil ?_
  refine WE.nxt ?_
  refine W.condE rfl (fun hc0 => ?_) (fun hc0 => ?_)
  · try dsimp only at hc0
    have hfF : finB ck = false := by unfold finB; rw [bne_eq_false_iff_eq, show ck.vals.length - 1 = ((ck.vals.length : Int) - 1).toNat by omega]; exact hc0
    refine W.skip ?_
    refine WE.nxt ?_
    refine W.block ?_
    refine W.region _ ?_
    refine WG.run tab_ok 1 rfl ?_
    refine WL.callAt 2 en12 rfl rfl (by decide) (CallOp.mkT rfl rfl rfl rfl) rfl (N_C w0 ha (by constructor <;> omega) _) ?_
    rintro _ _ _ _ - ⟨rfl, rfl, rfl, rfl⟩
    have hq1 := mod_range (nth xs cn) (show (1 : Int) ≤ 5 by decide)
    refine WG.y rfl rfl (by decide) (Yl.add rfl rfl rfl (fun _ => rfl) (by intro _; constructor <;> (try dsimp only) <;> omega)) ?_
    refine WL.ef rfl rfl (by decide) (Ef.buildSliceD (enc := encI) (parts := [.const (.int .i64 0), .const (.int .i64 4), .tmp 22]) [_, _, _] tab_ok rfl rfl rfl rfl rfl rfl rfl rfl (by decide) (by decide) (fun a23 => ?_))
    refine WG.run tab_ok 1 rfl ?_
    refine WL.callAt 3 en12 rfl rfl (by decide) (CallOp.mkT rfl rfl rfl rfl) rfl (N_C w0 ha (by constructor <;> omega) _) ?_
    rintro _ _ _ _ - ⟨rfl, rfl, rfl, rfl⟩
    have hq2 := mod_range (nth xs (cn + 1)) (show (1 : Int) ≤ 2 by decide)
    refine WG.y rfl rfl (by decide) (Yl.add rfl rfl rfl (fun _ => rfl) (by intro _; constructor <;> (try dsimp only) <;> omega)) ?_
    -- build
    refine WG.y rfl rfl (by decide) (Yl.build (parts := [(0, .tmp 23), (1, .tmp 26), (2, .const (.int .i64 8))]) tab_ok rfl rfl rfl rfl (fun _ => rfl) rfl rfl) ?_
    refine WL.efN rfl rfl (Ef.store0 1 tab_ok rfl rfl rfl rfl rfl rfl rfl rfl ?_)
    refine WL.freeze (enc := encI) (xs := [0, 4, 4 + mod (nth xs cn) 5]) 0 rfl ?_
    intro R1 hR1 hfz
    refine WG.nil ?_
    refine WE.blk _ ?_
    refine WE.again ((⟨[0, 4, 4 + mod (nth xs cn) 5], 1 + mod (nth xs (cn + 1)) 2, 8⟩, some ⟨a23, 0, none⟩, 3, cn + 1 + 1, R1)) (⟨hRk.trans hR1, hfz, (small_lit hq1 hq2).1, Nat.le_refl _⟩) (by dsimp only; rw [hfF, (small_lit hq1 hq2).2]; decide) ⟨rfl, rfl, rfl, rfl⟩ (RLe.refl _) qS
  · try dsimp only at hc0
    have hfT : finB ck = true := by unfold finB; rw [bne_iff_ne, show ck.vals.length - 1 = ((ck.vals.length : Int) - 1).toNat by omega]; exact hc0
    refine W.exit ?_
    refine WE.then_exit ?_
    refine WE.then_exit ?_
    refine WE.blk_exit ?_
    refine WE.nxt ?_
    refine W.seq ?_
    refine W.seq ?_
    refine W.region _ ?_
    refine WG.run tab_ok 1 rfl ?_
    refine' WG.y rfl rfl (by decide) (Yl.load1 tab_ok rfl rfl rfl (fun _ => rfl) ?r4 rfl ?h4) ?_
    case r4 => apply Rd.add; (exact Rd.blk 0 rfl)
    case h4 => rfl
    refine WG.y rfl rfl (by decide) (Yl.indexN tab_ok rfl rfl rfl rfl rfl rfl (fun _ => rfl) (by intro _; (try dsimp only) <;> omega) (by intro _; first | exact fun _ _ _ _ => ha40 (by omega) | exact fun _ _ _ _ => rfl | exact RS.has (by assumption) | exact fun _ _ _ _ => (by assumption) | exact HasMem.ownD 0 rfl | exact HasMem.ownD 1 rfl | exact HasMem.ownD 2 rfl | exact HasMem.ownD 3 rfl | exact HasMem.ownD 4 rfl | exact HasMem.ownD 5 rfl)) ?_
    refine' WG.y rfl rfl (by decide) (Yl.load1 tab_ok rfl rfl rfl (fun _ => rfl) ?r5 rfl ?h5) ?_
    case r5 => ((apply RS.rdD; assumption; ((try dsimp only) <;> omega)))
    case h5 => rfl
    refine WG.run tab_ok 1 rfl ?_
    refine WG.nil ?_
    refine WE.nxt ?_
    refine W.condD rfl (fun hc1 => ?_) (fun hc1 => ?_)
    · try dsimp only at hc1
      refine W.seq ?_
      refine W.region _ ?_
      refine WG.run tab_ok 1 rfl ?_
      refine' WG.y rfl rfl (by decide) (Yl.load1 tab_ok rfl rfl rfl (fun _ => rfl) ?r6 rfl ?h6) ?_
      case r6 => apply Rd.add; (exact Rd.blk 0 rfl)
      case h6 => rfl
      refine WG.y rfl rfl (by decide) (Yl.indexN tab_ok rfl rfl rfl rfl rfl rfl (fun _ => rfl) (by intro _; (try dsimp only) <;> omega) (by intro _; first | exact fun _ _ _ _ => ha40 (by omega) | exact fun _ _ _ _ => rfl | exact RS.has (by assumption) | exact fun _ _ _ _ => (by assumption) | exact HasMem.ownD 0 rfl | exact HasMem.ownD 1 rfl | exact HasMem.ownD 2 rfl | exact HasMem.ownD 3 rfl | exact HasMem.ownD 4 rfl | exact HasMem.ownD 5 rfl)) ?_
      refine' WG.y rfl rfl (by decide) (Yl.load1 tab_ok rfl rfl rfl (fun _ => rfl) ?r7 rfl ?h7) ?_
      case r7 => ((apply RS.rdD; assumption; ((try dsimp only) <;> omega)))
      case h7 => rfl
      refine WG.run tab_ok 1 rfl ?_
      refine WG.nil ?_
      refine WE.nxt ?_
      refine W.seq ?_
      refine W.region _ ?_
      refine WL.ef rfl rfl (by decide) (Ef.buildSliceD (enc := encI) (parts := []) [] tab_ok rfl rfl rfl rfl rfl rfl rfl rfl (by decide) (by decide) (fun a37 => ?_))
      refine WG.run tab_ok 1 rfl ?_
      refine' WG.y rfl rfl (by decide) (Yl.load1 tab_ok rfl rfl rfl (fun _ => rfl) ?r8 rfl ?h8) ?_
      case r8 => apply Rd.add; (exact Rd.blk 1 rfl)
      case h8 => rfl
      refine WL.ef rfl rfl (by decide) (Ef.cloneL (enc := encI) 0 tab_ok rfl rfl rfl rfl rfl rfl rfl rfl rfl rfl hfk (fun _ _ => rfl) (by dsimp only; omega) (by omega) (fun a40 c40 ha40 => ?_))
      refine WG.run tab_ok 1 rfl ?_
      refine WL.efN rfl rfl (Ef.store 1 tab_ok rfl rfl rfl rfl rfl rfl rfl rfl ?_)
      refine WG.nil ?_
      refine WE.nxt ?_
      refine W.seq ?_
      refine W.region _ ?_
      refine WG.run tab_ok 1 rfl ?_
      refine' WG.y rfl rfl (by decide) (Yl.load1 tab_ok rfl rfl rfl (fun _ => rfl) ?r9 rfl ?h9) ?_
      case r9 => apply Rd.add; (exact Rd.blk 1 rfl)
      case h9 => rfl
      refine WG.run tab_ok 2 rfl ?_
      refine WG.nil ?_
      refine WE.nxt ?_
      refine W.block ?_
      refine W.loopK (β := Nat × List Int) (fun (i, zs) => i ≤ zs.length ∧ zs.length = ck.vals.length ∧ ∀ j, j < ck.vals.length → nth zs j = (if j < i then nth ck.vals j - nth ck.vals 0 else nth ck.vals j)) (fun (i, zs) => [(45, true, .int .i64 (i : Int))]) [4, 5, 6, 44] [_, _, _, _] [] _ rfl (fun (i, zs) => [(0, .sl 3 1 a40 c40 (zs.map encI))]) (fun (i, zs) => zs.length - i) ((0, ck.vals)) (⟨Nat.zero_le _, rfl, fun j hj => by rw [if_neg (by omega)]⟩) ⟨rfl, rfl, rfl, rfl, rfl, rfl⟩ qS ?_
      intro st hst
      obtain ⟨i, zs⟩ := st
      dsimp only [zipE, setAll, List.cons_append, List.nil_append, List.set_cons_zero, List.set_cons_succ] at hst ⊢
      obtain ⟨hi, hzl, hz⟩ := hst
      refine W.seq ?_
      refine W.region _ ?_
      refine WG.run tab_ok 1 rfl ?_
      refine WG.nil ?_
      refine WE.nxt ?_
      refine W.seq ?_
      refine W.condD rfl (fun hc2 => ?_) (fun hc2 => ?_)
      · try dsimp only at hc2
        have hil : i < zs.length := by omega
        have hzi := hz i (by omega)
        rw [if_neg (by omega)] at hzi
        have hb1 := hvr.1 _ (nth_mem (xs := ck.vals) (k := i) (by omega))
        have hb0 := hvr.1 _ (nth_mem (xs := ck.vals) (k := 0) (by omega))
        refine W.skip ?_
        refine WE.nxt ?_
        refine W.seq ?_
        refine W.block ?_
        refine W.seq ?_
        refine W.region _ ?_
        refine WG.run tab_ok 2 rfl ?_
        refine WG.nil ?_
        refine WE.nxt ?_
        refine W.region _ ?_
        refine WG.run tab_ok 1 rfl ?_
        refine' WG.y rfl rfl (by decide) (Yl.load1 tab_ok rfl rfl rfl (fun _ => rfl) ?r10 rfl ?h10) ?_
        case r10 => apply Rd.add; (exact Rd.blk 1 rfl)
        case h10 => rfl
        refine WG.run tab_ok 1 rfl ?_
        refine WG.y rfl rfl (by decide) (Yl.indexN tab_ok rfl rfl rfl rfl rfl rfl (fun _ => rfl) (by intro _; (try dsimp only) <;> omega) (by intro _; first | exact fun _ _ _ _ => ha40 (by omega) | exact fun _ _ _ _ => rfl | exact RS.has (by assumption) | exact fun _ _ _ _ => (by assumption) | exact HasMem.ownD 0 rfl | exact HasMem.ownD 1 rfl | exact HasMem.ownD 2 rfl | exact HasMem.ownD 3 rfl | exact HasMem.ownD 4 rfl | exact HasMem.ownD 5 rfl)) ?_
        refine' WG.y rfl rfl (by decide) (Yl.load1 tab_ok rfl rfl rfl (fun _ => rfl) ?r11 rfl ?h11) ?_
        case r11 => (exact Rd.slD 0 rfl (by (try dsimp only) <;> omega))
        case h11 => rfl
        refine WG.run tab_ok 1 rfl ?_
        refine WG.y rfl rfl (by decide) (Yl.sub rfl rfl rfl (fun _ => rfl) (by intro _; constructor <;> (try dsimp only) <;> omega)) ?_
        refine WG.y rfl rfl (by decide) (Yl.indexN tab_ok rfl rfl rfl rfl rfl rfl (fun _ => rfl) (by intro _; (try dsimp only) <;> omega) (by intro _; first | exact fun _ _ _ _ => ha40 (by omega) | exact fun _ _ _ _ => rfl | exact RS.has (by assumption) | exact fun _ _ _ _ => (by assumption) | exact HasMem.ownD 0 rfl | exact HasMem.ownD 1 rfl | exact HasMem.ownD 2 rfl | exact HasMem.ownD 3 rfl | exact HasMem.ownD 4 rfl | exact HasMem.ownD 5 rfl)) ?_
        refine WL.efN rfl rfl (Ef.storeD _ 0 tab_ok rfl rfl rfl rfl rfl (by (try dsimp only) <;> omega) rfl rfl rfl rfl ?_)
        refine WG.nil ?_
        refine WE.blk _ ?_
        refine WE.nxt ?_
        refine W.region _ ?_
        refine WG.y rfl rfl (by decide) (Yl.add rfl rfl rfl (fun _ => rfl) (by intro _; constructor <;> (try dsimp only) <;> omega)) ?_
        refine WG.run tab_ok 1 rfl ?_
        refine WG.nil ?_
        refine WE.again ((i + 1, zs.set i (nth zs i - nth ck.vals 0))) (⟨by dsimp only; rw [List.length_set]; omega, by dsimp only; rw [List.length_set]; exact hzl, fun j hj => by
          by_cases e : i = j
          · subst e; rw [nth_set_self (by omega), if_pos (by omega), hzi]
          · rw [nth_set_ne e, hz j hj]
            by_cases h2 : j < i
            · rw [if_pos h2, if_pos (by omega)]
            · rw [if_neg h2, if_neg (by omega)]⟩) (by dsimp only; rw [List.length_set]; omega) ⟨rfl, rfl, rfl, rfl, rfl, rfl⟩ (RLe.refl _) qS
      · try dsimp only at hc2
        obtain hiE : i = zs.length := by omega
        refine W.cap 0 rfl ?_
        intro hcp
        rw [List.length_map] at hcp
        refine W.freeze (enc := encI) (xs := zs) 0 rfl ?_
        intro R2 hR2 hfz
        obtain ⟨hsz, hfz2, hz0⟩ := small_sub hsk hfT hzl (fun j hj => by rw [hz j hj, if_pos (by omega)])
        refine W.exit ?_
        refine WE.then_exit ?_
        refine WE.then_exit ?_
        refine WE.blk_exit ?_
        refine WE.nxt ?_
        refine W.seq ?_
        refine W.region _ ?_
        refine' WG.y rfl rfl (by decide) (Yl.load1 tab_ok rfl rfl rfl (fun _ => rfl) ?r12 rfl ?h12) ?_
        case r12 => (exact Rd.blk 0 rfl)
        case h12 => rfl
        refine WL.efN rfl rfl (Ef.store0 1 tab_ok rfl rfl rfl rfl rfl rfl rfl rfl ?_)
        refine WG.nil ?_
        refine WE.nxt ?_
        refine W.ret ?_
        refine WE.retFS (E' := srcE b a cp xs (cn) :: F) qS tab_ok [_] rfl ⟨⟨_, _, _, rfl, rfl, rfl, ((by first | exact Rd.blk 0 rfl | exact Rd.blk 1 rfl | exact Rd.blk 2 rfl | exact Rd.blk 3 rfl | exact Rd.blk 4 rfl | exact Rd.blk 5 rfl)), rfl⟩, trivial⟩ ((by first | exact hRC.trans (hRk.trans hR2) | exact hRC.trans hRk)) ?_
        exact ⟨_, [], rfl, a40, c40, cn, ⟨zs, ck.per, ck.inc⟩, by dsimp only; rw [hzl]; rfl, hfz, hsz, hfz2, hz0, hcp, rfl, rfl⟩
    · try dsimp only at hc1
      have h00 : nth ck.vals 0 = 0 := by have := valid_each hsk.valid 0 (by omega); unfold INF at this; omega
      refine W.skip ?_
      refine WE.nxt ?_
      refine W.seq ?_
      refine W.region _ ?_
      refine' WG.y rfl rfl (by decide) (Yl.load1 tab_ok rfl rfl rfl (fun _ => rfl) ?r13 rfl ?h13) ?_
      case r13 => (exact Rd.blk 0 rfl)
      case h13 => rfl
      refine WL.efN rfl rfl (Ef.store0 1 tab_ok rfl rfl rfl rfl rfl rfl rfl rfl ?_)
      refine WG.nil ?_
      refine WE.nxt ?_
      refine W.ret ?_
      refine WE.retFS (E' := srcE b a cp xs (cn) :: F) qS tab_ok [_] rfl ⟨⟨_, _, _, rfl, rfl, rfl, ((by first | exact Rd.blk 0 rfl | exact Rd.blk 1 rfl | exact Rd.blk 2 rfl | exact Rd.blk 3 rfl | exact Rd.blk 4 rfl | exact Rd.blk 5 rfl)), rfl⟩, trivial⟩ ((by first | exact hRC.trans (hRk.trans hR2) | exact hRC.trans hRk)) ?_
      exact ⟨_, [], rfl, fk, gk, cn, ck, rfl, hfk, hsk, hfT, h00, hgk, rfl, rfl⟩

end Go.Proofs.Ytolmmfphdieilaa

/- Sizes of a trace. No condition. -/
set_option linter.unusedSimpArgs false
set_option linter.unusedVariables false
namespace Go.Proofs.Ytolmmfphdieilaa
open Go Go.RowKit Go.Proofs.Ytolmmfphdieilaa.K Go.Proofs.Ytolmmfphdieilaa.M

def szPre (z : List Sz) (p : Pkt) : List Sz := if (nth z p.flow.toNat).most = 0 then z.set p.flow.toNat ⟨p.size, p.size⟩ else z
def szPut (z1 : List Sz) (p : Pkt) : List Sz := z1.set p.flow.toNat ⟨(if p.size < (nth z1 p.flow.toNat).least then p.size else (nth z1 p.flow.toNat).least), (if (nth z1 p.flow.toNat).most < p.size then p.size else (nth z1 p.flow.toNat).most)⟩
def szAdd (n : Nat) (z : List Sz) (p : Pkt) : List Sz := if p.flow < 0 ∨ p.flow ≥ (n : Int) then z else szPut (szPre z p) p
def sizesL (n : Nat) (ps : List Pkt) : List Sz := ps.foldl (szAdd n) (List.replicate n ⟨0, 0⟩)
end Go.Proofs.Ytolmmfphdieilaa

/- Two valid curves in normal form. No condition. -/
set_option linter.unusedSimpArgs false
set_option linter.unusedVariables false
namespace Go.Proofs.Ytolmmfphdieilaa
open Go Go.RowKit Go.Proofs.Ytolmmfphdieilaa.K Go.Proofs.Ytolmmfphdieilaa.M

theorem Pair05_C {R : Ro} {fa : Option Addr} {fc : Nat} {c : Cv} (hv : validB c = true) (ha : RS R 1 encI fa c.vals) (hcap : c.vals.length ≤ fc) {ga : Option Addr} {gc : Nat} {d : Cv} (hw : validB d = true) (hb : RS R 1 encI ga d.vals) (hcapd : d.vals.length ≤ gc) (w0 : World) (E : List Ent) : K.Fn Try.prog 62 [.agg #[.slice fa c.vals.length fc, .int .i64 c.per, .int .i64 c.inc], .agg #[.slice ga d.vals.length gc, .int .i64 d.per, .int .i64 d.inc]] w0 R E (fun v R' E' => ∃ (f1 : Option Addr) (k1 : Nat) (f2 : Option Addr) (k2 : Nat), v = .tuple #[.agg #[.slice f1 (normR c).vals.length k1, .int .i64 (normR c).per, .int .i64 (normR c).inc], .agg #[.slice f2 (normR d).vals.length k2, .int .i64 (normR d).per, .int .i64 (normR d).inc], .int .i64 (if 120 < lcmC (normR c) (normR d) then 0 else (lcmC (normR c) (normR d) : Int)), .int .i64 (if 120 < lcmC (normR c) (normR d) then 3 else 0)] ∧ RS R' 1 encI f1 (normR c).vals ∧ RS R' 1 encI f2 (normR d).vals ∧ E.Sublist E') := by
  have hnv := (norm_valid hv).1
  have hnw := (norm_valid hw).1
  obtain ⟨_, _, _, p1, p2, _⟩ := valid_range hnv
  obtain ⟨_, _, _, q1, q2, _⟩ := valid_range hnw
  refine Fn.enter (n := 43) Try.func62 rfl rfl (Nat.le_of_ble_eq_true rfl) rfl ?_
  refine W.seq ?_
  refine W.region _ ?_
  refine WL.ef rfl rfl (by decide) (Ef.box rfl rfl (fun b2 => ?_))
  refine WL.ef rfl rfl (by decide) (Ef.box rfl rfl (fun b3 => ?_))
  refine WL.ef rfl rfl (by decide) (Ef.alloc tab_ok rfl rfl (fun b4 => ?_))
  refine WL.ef rfl rfl (by decide) (Ef.alloc tab_ok rfl rfl (fun b5 => ?_))
  refine WG.run tab_ok 2 rfl ?_
  refine WG.nil ?_
  refine WE.nxt ?_
  refine W.seq ?_
  refine W.region _ ?_
  refine' WG.y rfl rfl (by decide) (Yl.load1 tab_ok rfl rfl rfl (fun _ => rfl) ?r1 rfl ?h1) ?_
  case r1 => (exact Rd.blk 3 rfl)
  case h1 => rfl
  refine WL.call en112 rfl rfl (by decide) (CallOp.mkT rfl rfl rfl rfl) (Normal02_C hv ha hcap w0 _) ?_
  rintro _ R1 E1 hR1 ⟨f1, k1, rfl, hf1, hsub1⟩
  refine WL.subE hsub1 ?_
  unfold cvV
  have hb := hb.mono hR1
  refine WG.run tab_ok 3 rfl ?_
  refine WL.ef rfl rfl (by decide) (Ef.alloc tab_ok rfl rfl (fun b8 => ?_))
  refine WL.efN rfl rfl (Ef.store0 0 tab_ok rfl rfl rfl rfl rfl rfl rfl rfl ?_)
  refine WG.run tab_ok 1 rfl ?_
  refine WG.nil ?_
  refine WE.nxt ?_
  refine W.seq ?_
  refine W.region _ ?_
  refine' WG.y rfl rfl (by decide) (Yl.load1 tab_ok rfl rfl rfl (fun _ => rfl) ?r2 rfl ?h2) ?_
  case r2 => (exact Rd.blk 3 rfl)
  case h2 => rfl
  refine WL.call en112 rfl rfl (by decide) (CallOp.mkT rfl rfl rfl rfl) (Normal02_C hw hb hcapd w0 _) ?_
  rintro _ R2 E2 hR2 ⟨f2, k2, rfl, hf2, hsub2⟩
  refine WL.subE hsub2 ?_
  unfold cvV
  have hf1 := hf1.mono hR2
  generalize normR c = m1 at *
  generalize normR d = m2 at *
  refine WG.run tab_ok 3 rfl ?_
  refine WL.ef rfl rfl (by decide) (Ef.alloc tab_ok rfl rfl (fun b10 => ?_))
  refine WL.efN rfl rfl (Ef.store0 0 tab_ok rfl rfl rfl rfl rfl rfl rfl rfl ?_)
  refine WG.run tab_ok 1 rfl ?_
  refine WG.nil ?_
  refine WE.nxt ?_
  refine W.seq ?_
  refine W.seq ?_
  refine W.region _ ?_
  refine WG.run tab_ok 3 rfl ?_
  refine WL.guardT rfl (by rfl) ?_
  refine WG.y rfl rfl (by decide) (pureV_ok tab_ok rfl (fun _ => rfl)) ?_
  refine WL.guardT rfl (by rfl) ?_
  refine WG.y rfl rfl (by decide) (pureV_ok tab_ok rfl (fun _ => rfl)) ?_
  refine WG.y rfl rfl (by decide) (Yl.por rfl rfl rfl (fun _ => rfl) (by intro h1 h2; simp_all <;> omega)) ?_
  refine WG.nil ?_
  refine WE.nxt ?_
  refine W.cond rfl (fun hc0 => ?_) (fun hc0 => ?_)
  · try simp only [decide_eq_true_eq, decide_eq_false_iff_not, beq_iff_eq, bne_iff_ne, beq_eq_false_iff_ne, bne_eq_false_iff_eq, ne_eq, Bool.or_eq_true, Bool.or_eq_false_iff, Bool.and_eq_true, Bool.and_eq_false_imp, Bool.not_eq_true, Bool.not_eq_true', Bool.not_eq_false', Classical.not_not, Int.not_lt, Int.not_le, gt_iff_lt, ge_iff_le] at hc0
    (simp at hc0; done)
  · try simp only [decide_eq_true_eq, decide_eq_false_iff_not, beq_iff_eq, bne_iff_ne, beq_eq_false_iff_ne, bne_eq_false_iff_eq, ne_eq, Bool.or_eq_true, Bool.or_eq_false_iff, Bool.and_eq_true, Bool.and_eq_false_imp, Bool.not_eq_true, Bool.not_eq_true', Bool.not_eq_false', Classical.not_not, Int.not_lt, Int.not_le, gt_iff_lt, ge_iff_le] at hc0
    refine W.skip ?_
    refine WE.nxt ?_
    refine W.seq ?_
    refine W.region _ ?_
    refine WG.run tab_ok 1 rfl ?_
    refine' WG.y rfl rfl (by decide) (Yl.load1 tab_ok rfl rfl rfl (fun _ => rfl) ?r3 rfl ?h3) ?_
    case r3 => apply Rd.add; (exact Rd.blk 1 rfl)
    case h3 => rfl
    refine WG.run tab_ok 1 rfl ?_
    refine' WG.y rfl rfl (by decide) (Yl.load1 tab_ok rfl rfl rfl (fun _ => rfl) ?r4 rfl ?h4) ?_
    case r4 => apply Rd.add; (exact Rd.blk 0 rfl)
    case h4 => rfl
    refine WG.callV (v := .int .i64 (lcmC m1 m2 : Int)) en113 rfl rfl (by decide) (CallOp.mk' rfl rfl rfl rfl) (fun _ => rfl) (fun hg => by have h := Lcm_V (R := R2) (a := m1.per.toNat) (b := m2.per.toNat) (by omega) (by omega); rw [Int.toNat_of_nonneg (by omega), Int.toNat_of_nonneg (by omega)] at h; exact h) ?_
    refine WG.run tab_ok 1 rfl ?_
    refine WG.nil ?_
    refine WE.nxt ?_
    refine W.seq ?_
    refine W.seq ?_
    refine W.region _ ?_
    refine WG.run tab_ok 2 rfl ?_
    refine WG.nil ?_
    refine WE.nxt ?_
    refine W.condD rfl (fun hc1 => ?_) (fun hc1 => ?_)
    · try dsimp only at hc1
      have hL : 120 < lcmC m1 m2 := by omega
      refine W.seq ?_
      refine W.regionH _ (ES := [.blk b10 [.slice f2 m2.vals.length k2, .int .i64 m2.per, .int .i64 m2.inc], .blk b8 [.slice f1 m1.vals.length k1, .int .i64 m1.per, .int .i64 m1.inc]]) mixed ?_
      refine' WA.take 0 rfl (by kernel_rfl) (by kernel_rfl) (by kernel_rfl) rfl rfl (by decide) (Yl.load1 tab_ok rfl rfl rfl (fun _ => rfl) ?r5 rfl ?h5) qS (by first | exact RLe.refl _ | assumption) ?_
      case r5 => (exact Rd.blk 1 rfl)
      case h5 => rfl
      refine' WA.take 1 rfl (by kernel_rfl) (by kernel_rfl) (by kernel_rfl) rfl rfl (by decide) (Yl.load1 tab_ok rfl rfl rfl (fun _ => rfl) ?r6 rfl ?h6) qS (by first | exact RLe.refl _ | assumption) ?_
      case r6 => (exact Rd.blk 0 rfl)
      case h6 => rfl
      refine WA.effN 2 rfl (by kernel_rfl) rfl rfl (Ef.store0 3 tab_ok rfl rfl rfl rfl rfl rfl rfl rfl ?_)
      refine ⟨by first | exact RLe.refl _ | assumption, qS, ?_⟩
      refine WA.effN 3 rfl (by kernel_rfl) rfl rfl (Ef.store0 2 tab_ok rfl rfl rfl rfl rfl rfl rfl rfl ?_)
      refine ⟨by first | exact RLe.refl _ | assumption, qS, ?_⟩
      refine WA.take 4 rfl (by kernel_rfl) (by kernel_rfl) (by kernel_rfl) rfl rfl (by decide) (pureV_ok tab_ok rfl (fun _ => rfl)) qS (by first | exact RLe.refl _ | assumption) ?_
      refine WA.take 5 rfl (by kernel_rfl) (by kernel_rfl) (by kernel_rfl) rfl rfl (by decide) (pureV_ok tab_ok rfl (fun _ => rfl)) qS (by first | exact RLe.refl _ | assumption) ?_
      refine WA.done (by kernel_rfl) ?_
      refine WE.nxt ?_
      refine W.ret ?_
      refine WE.then_ret ?_
      refine WE.retF tab_ok [_, _, _, _] rfl ⟨⟨_, _, _, rfl, rfl, rfl, ((by first | exact Rd.blk 0 rfl | exact Rd.blk 1 rfl | exact Rd.blk 2 rfl | exact Rd.blk 3 rfl | exact Rd.blk 4 rfl | exact Rd.blk 5 rfl | exact Rd.blk 6 rfl | exact Rd.blk 7 rfl)), rfl⟩, ⟨_, _, _, rfl, rfl, rfl, ((by first | exact Rd.blk 0 rfl | exact Rd.blk 1 rfl | exact Rd.blk 2 rfl | exact Rd.blk 3 rfl | exact Rd.blk 4 rfl | exact Rd.blk 5 rfl | exact Rd.blk 6 rfl | exact Rd.blk 7 rfl)), rfl⟩, rfl, rfl, trivial⟩ (hR1.trans hR2) ?_
      exact ⟨f1, k1, f2, k2, by rw [if_pos hL, if_pos hL]; rfl, hf1, hf2, qS⟩
    · try dsimp only at hc1
      have hL : ¬ 120 < lcmC m1 m2 := by omega
      refine W.skip ?_
      refine WE.nxt ?_
      refine W.seq ?_
      refine W.regionH _ (ES := [.blk b10 [.slice f2 m2.vals.length k2, .int .i64 m2.per, .int .i64 m2.inc], .blk b8 [.slice f1 m1.vals.length k1, .int .i64 m1.per, .int .i64 m1.inc]]) mixed ?_
      refine' WA.take 0 rfl (by kernel_rfl) (by kernel_rfl) (by kernel_rfl) rfl rfl (by decide) (Yl.load1 tab_ok rfl rfl rfl (fun _ => rfl) ?r7 rfl ?h7) qS (by first | exact RLe.refl _ | assumption) ?_
      case r7 => (exact Rd.blk 1 rfl)
      case h7 => rfl
      refine' WA.take 1 rfl (by kernel_rfl) (by kernel_rfl) (by kernel_rfl) rfl rfl (by decide) (Yl.load1 tab_ok rfl rfl rfl (fun _ => rfl) ?r8 rfl ?h8) qS (by first | exact RLe.refl _ | assumption) ?_
      case r8 => (exact Rd.blk 0 rfl)
      case h8 => rfl
      refine WA.take 2 rfl (by kernel_rfl) (by kernel_rfl) (by kernel_rfl) rfl rfl (by decide) (pureV_ok tab_ok rfl (fun _ => rfl)) qS (by first | exact RLe.refl _ | assumption) ?_
      refine WA.effN 3 rfl (by kernel_rfl) rfl rfl (Ef.store0 3 tab_ok rfl rfl rfl rfl rfl rfl rfl rfl ?_)
      refine ⟨by first | exact RLe.refl _ | assumption, qS, ?_⟩
      refine WA.effN 4 rfl (by kernel_rfl) rfl rfl (Ef.store0 2 tab_ok rfl rfl rfl rfl rfl rfl rfl rfl ?_)
      refine ⟨by first | exact RLe.refl _ | assumption, qS, ?_⟩
      refine WA.take 5 rfl (by kernel_rfl) (by kernel_rfl) (by kernel_rfl) rfl rfl (by decide) (pureV_ok tab_ok rfl (fun _ => rfl)) qS (by first | exact RLe.refl _ | assumption) ?_
      refine WA.take 6 rfl (by kernel_rfl) (by kernel_rfl) (by kernel_rfl) rfl rfl (by decide) (pureV_ok tab_ok rfl (fun _ => rfl)) qS (by first | exact RLe.refl _ | assumption) ?_
      refine WA.done (by kernel_rfl) ?_
      refine WE.nxt ?_
      refine W.ret ?_
      refine WE.retF tab_ok [_, _, _, _] rfl ⟨⟨_, _, _, rfl, rfl, rfl, ((by first | exact Rd.blk 0 rfl | exact Rd.blk 1 rfl | exact Rd.blk 2 rfl | exact Rd.blk 3 rfl | exact Rd.blk 4 rfl | exact Rd.blk 5 rfl | exact Rd.blk 6 rfl | exact Rd.blk 7 rfl)), rfl⟩, ⟨_, _, _, rfl, rfl, rfl, ((by first | exact Rd.blk 0 rfl | exact Rd.blk 1 rfl | exact Rd.blk 2 rfl | exact Rd.blk 3 rfl | exact Rd.blk 4 rfl | exact Rd.blk 5 rfl | exact Rd.blk 6 rfl | exact Rd.blk 7 rfl)), rfl⟩, rfl, rfl, trivial⟩ (hR1.trans hR2) ?_
      exact ⟨f1, k1, f2, k2, by rw [if_neg hL, if_neg hL]; rfl, hf1, hf2, qS⟩

theorem Plus05_V {R : Ro} {x y : Int} (hx : x = INF ∨ (0 ≤ x ∧ x ≤ 2000000000000000000)) (hy : y = INF ∨ (0 ≤ y ∧ y ≤ 2000000000000000000)) : FnV Try.prog 69 [.int .i64 x, .int .i64 y] R (.int .i64 (if x = INF ∨ y = INF then INF else x + y)) := by
  unfold INF at *
  refine Fn.toV (fun w0 E => ?_)
  refine Fn.enter (n := 14) Try.func69 rfl rfl (Nat.le_of_ble_eq_true rfl) rfl ?_
  refine W.seq ?_
  refine W.region _ ?_
  refine WG.run tab_ok 1 rfl ?_
  refine WG.nil ?_
  refine WE.nxt ?_
  refine W.seq ?_
  refine W.seq ?_
  refine W.region _ ?_
  refine WG.run tab_ok 3 rfl ?_
  refine WG.y rfl rfl (by decide) (pureV_ok tab_ok rfl qE) ?_
  refine WG.y rfl rfl (by decide) (pureV_ok tab_ok rfl qE) ?_
  refine WG.y rfl rfl (by decide) (Yl.por rfl rfl rfl (fun _ => rfl) (by intro h1 h2; simp_all <;> omega)) ?_
  refine WG.nil ?_
  refine WE.nxt ?_
  refine W.cond rfl (fun hc0 => ?_) (fun hc0 => ?_)
  · try simp only [decide_eq_true_eq, decide_eq_false_iff_not, beq_iff_eq, bne_iff_ne, beq_eq_false_iff_ne, bne_eq_false_iff_eq, ne_eq, Bool.or_eq_true, Bool.or_eq_false_iff, Bool.and_eq_true, Bool.and_eq_false_imp, Bool.not_eq_true, Bool.not_eq_true', Bool.not_eq_false', Classical.not_not, Int.not_lt, Int.not_le, gt_iff_lt, ge_iff_le] at hc0
    have hh : x = 4611686018427387904 ∨ y = 4611686018427387904 := by first | exact hc0 | omega
    refine W.seq ?_
    refine W.region _ ?_
    refine WG.run tab_ok 1 rfl ?_
    refine WG.nil ?_
    refine WE.nxt ?_
    refine W.ret ?_
    refine WE.then_ret ?_
    refine WE.subE (E' := E) qS ?_
    refine WE.retF tab_ok [_] rfl ⟨rfl, trivial⟩ (RLe.refl _) ?_
    exact ⟨by rw [if_pos hh]; rfl, rfl⟩
  · try simp only [decide_eq_true_eq, decide_eq_false_iff_not, beq_iff_eq, bne_iff_ne, beq_eq_false_iff_ne, bne_eq_false_iff_eq, ne_eq, Bool.or_eq_true, Bool.or_eq_false_iff, Bool.and_eq_true, Bool.and_eq_false_imp, Bool.not_eq_true, Bool.not_eq_true', Bool.not_eq_false', Classical.not_not, Int.not_lt, Int.not_le, gt_iff_lt, ge_iff_le] at hc0
    have hh : ¬ (x = 4611686018427387904 ∨ y = 4611686018427387904) := by first | exact hc0 | omega
    refine W.skip ?_
    refine WE.nxt ?_
    refine W.seq ?_
    refine W.region _ ?_
    refine WG.run tab_ok 2 rfl ?_
    refine WG.y rfl rfl (by decide) (Yl.add rfl rfl rfl (fun _ => rfl) (by intro _; constructor <;> (try dsimp only) <;> omega)) ?_
    refine WG.run tab_ok 1 rfl ?_
    refine WG.nil ?_
    refine WE.nxt ?_
    refine W.ret ?_
    refine WE.subE (E' := E) qS ?_
    refine WE.retF tab_ok [_] rfl ⟨rfl, trivial⟩ (RLe.refl _) ?_
    exact ⟨by rw [if_neg hh]; rfl, rfl⟩

end Go.Proofs.Ytolmmfphdieilaa

/- The sum of two small finite curves. No condition. -/
set_option linter.unusedSimpArgs false
set_option linter.unusedVariables false
namespace Go.Proofs.Ytolmmfphdieilaa
open Go Go.RowKit Go.Proofs.Ytolmmfphdieilaa.K Go.Proofs.Ytolmmfphdieilaa.M

set_option maxHeartbeats 4000000 in
theorem Sum05_C {R : Ro} {fa : Option Addr} {fc : Nat} {c : Cv} (hsc : SmallC c) (hfc : finB c = true) (ha : RS R 1 encI fa c.vals) (hcap : c.vals.length ≤ fc) {ga : Option Addr} {gc : Nat} {d : Cv} (hsd : SmallC d) (hfd : finB d = true) (hb : RS R 1 encI ga d.vals) (hcapd : d.vals.length ≤ gc) (w0 : World) (E : List Ent) : K.Fn Try.prog 19 [.agg #[.slice fa c.vals.length fc, .int .i64 c.per, .int .i64 c.inc], .agg #[.slice ga d.vals.length gc, .int .i64 d.per, .int .i64 d.inc]] w0 R E (fun v R' E' => ∃ (f : Option Addr) (k s p : Nat) (q : Int), v = .tuple #[.agg #[.slice f (fvals (plusF (normR c) (normR d)) (s + p)).length k, .int .i64 (p : Int), .int .i64 q], .int .i64 0] ∧ RS R' 1 encI f (fvals (plusF (normR c) (normR d)) (s + p)) ∧ FC (plusF (normR c) (normR d)) s p q ∧ E.Sublist E') := by
  obtain ⟨hL64, hL1, hpl, hrep, hgb, hbd⟩ := small_sum hsc hfc hsd hfd
  obtain ⟨a1, a2, a3, a4, a5, a6, a7, a8, a9⟩ := small_norm hsc hfc
  obtain ⟨b1, b2, b3, b4, b5, b6, b7, b8, b9⟩ := small_norm hsd hfd
  have hnoL : ¬ 120 < lcmC (normR c) (normR d) := by omega
  obtain ⟨hmok, ⟨s, p, q, hmade, hfcr⟩, hle⟩ := small_made hsc hfc hsd hfd
  have hnv := (norm_valid hsc.valid).1
  have hnw := (norm_valid hsd.valid).1
  refine Fn.enter (n := 70) Try.func19 rfl rfl (Nat.le_of_ble_eq_true rfl) rfl ?_
  refine W.seq ?_
  refine W.region _ ?_
  refine WL.ef rfl rfl (by decide) (Ef.box rfl rfl (fun b2 => ?_))
  refine WL.ef rfl rfl (by decide) (Ef.box rfl rfl (fun b3 => ?_))
  refine WL.ef rfl rfl (by decide) (Ef.alloc tab_ok rfl rfl (fun b4 => ?_))
  refine WG.run tab_ok 1 rfl ?_
  refine WG.nil ?_
  refine WE.nxt ?_
  refine W.seq ?_
  refine W.region _ ?_
  refine' WG.y rfl rfl (by decide) (Yl.load1 tab_ok rfl rfl rfl (fun _ => rfl) ?r1 rfl ?h1) ?_
  case r1 => (exact Rd.blk 2 rfl)
  case h1 => rfl
  refine' WG.y rfl rfl (by decide) (Yl.load1 tab_ok rfl rfl rfl (fun _ => rfl) ?r2 rfl ?h2) ?_
  case r2 => (exact Rd.blk 1 rfl)
  case h2 => rfl
  refine WL.call en62 rfl rfl (by decide) (CallOp.mkT rfl rfl rfl rfl) (Pair05_C hsc.valid ha hcap hsd.valid hb hcapd w0 _) ?_
  rintro _ R1 E1 hR1 ⟨f1, k1, f2, k2, rfl, hf1, hf2, hsub1⟩
  refine WL.subE hsub1 ?_
  rw [if_neg hnoL, if_neg hnoL]
  generalize normR c = m1 at *
  generalize normR d = m2 at *
  have hgi : (gainC m1 (lcmC m1 m2) + gainC m2 (lcmC m1 m2)) = m1.inc * ((lcmC m1 m2 : Int) / m1.per) + m2.inc * ((lcmC m1 m2 : Int) / m2.per) := by unfold gainC; rw [Int.mul_comm m1.inc, Int.mul_comm m2.inc]
  have hd1 : 0 ≤ (lcmC m1 m2 : Int) / m1.per ∧ (lcmC m1 m2 : Int) / m1.per ≤ 64 := ⟨Int.ediv_nonneg (by omega) (by omega), by have := Int.ediv_le_self (a := (lcmC m1 m2 : Int)) m1.per (by omega); omega⟩
  have hd2 : 0 ≤ (lcmC m1 m2 : Int) / m2.per ∧ (lcmC m1 m2 : Int) / m2.per ≤ 64 := ⟨Int.ediv_nonneg (by omega) (by omega), by have := Int.ediv_le_self (a := (lcmC m1 m2 : Int)) m2.per (by omega); omega⟩
  have hq1 := mulB (a := m1.inc) (b := (lcmC m1 m2 : Int) / m1.per) (A := 2000) (B := 64) (by omega) (by omega)
  have hq2 := mulB (a := m2.inc) (b := (lcmC m1 m2 : Int) / m2.per) (A := 2000) (B := 64) (by omega) (by omega)
  refine WG.run tab_ok 5 rfl ?_
  refine WL.ef rfl rfl (by decide) (Ef.alloc tab_ok rfl rfl (fun b6 => ?_))
  refine WL.ef rfl rfl (by decide) (Ef.alloc tab_ok rfl rfl (fun b7 => ?_))
  refine WL.efN rfl rfl (Ef.store0 1 tab_ok rfl rfl rfl rfl rfl rfl rfl rfl ?_)
  refine WL.efN rfl rfl (Ef.store0 0 tab_ok rfl rfl rfl rfl rfl rfl rfl rfl ?_)
  refine WG.run tab_ok 2 rfl ?_
  refine WG.nil ?_
  refine WE.nxt ?_
  refine W.seq ?_
  refine W.seq ?_
  refine W.region _ ?_
  refine WG.run tab_ok 2 rfl ?_
  refine WG.nil ?_
  refine WE.nxt ?_
  refine W.condN rfl (fun hc0 => ?_) (fun hc0 => ?_)
  · try dsimp only at hc0
    (simp at hc0; done)
  · try dsimp only at hc0
    refine W.skip ?_
    refine WE.nxt ?_
    refine W.seq ?_
    refine W.regionH _ (ES := [.blk b7 [.slice f2 m2.vals.length k2, .int .i64 m2.per, .int .i64 m2.inc], .blk b6 [.slice f1 m1.vals.length k1, .int .i64 m1.per, .int .i64 m1.inc]]) mixed ?_
    refine WA.take 0 rfl (by kernel_rfl) (by kernel_rfl) (by kernel_rfl) rfl rfl (by decide) (pureV_ok tab_ok rfl (fun _ => rfl)) qS (by first | exact RLe.refl _ | assumption) ?_
    refine WA.take 1 rfl (by kernel_rfl) (by kernel_rfl) (by kernel_rfl) rfl rfl (by decide) (pureV_ok tab_ok rfl (fun _ => rfl)) qS (by first | exact RLe.refl _ | assumption) ?_
    refine' WA.take 2 rfl (by kernel_rfl) (by kernel_rfl) (by kernel_rfl) rfl rfl (by decide) (Yl.load1 tab_ok rfl rfl rfl (fun _ => rfl) ?r3 rfl ?h3) qS (by first | exact RLe.refl _ | assumption) ?_
    case r3 => apply Rd.add; (exact Rd.blk 1 rfl)
    case h3 => rfl
    refine WA.take 3 rfl (by kernel_rfl) (by kernel_rfl) (by kernel_rfl) rfl rfl (by decide) (pureV_ok tab_ok rfl (fun _ => rfl)) qS (by first | exact RLe.refl _ | assumption) ?_
    refine WA.take 4 rfl (by kernel_rfl) (by kernel_rfl) (by kernel_rfl) rfl rfl (by decide) (pureV_ok tab_ok rfl (fun _ => rfl)) qS (by first | exact RLe.refl _ | assumption) ?_
    refine' WA.take 5 rfl (by kernel_rfl) (by kernel_rfl) (by kernel_rfl) rfl rfl (by decide) (Yl.load1 tab_ok rfl rfl rfl (fun _ => rfl) ?r4 rfl ?h4) qS (by first | exact RLe.refl _ | assumption) ?_
    case r4 => apply Rd.add; (exact Rd.blk 1 rfl)
    case h4 => rfl
    refine WA.take 6 rfl (by kernel_rfl) (by kernel_rfl) (by kernel_rfl) rfl rfl (by decide) (Yl.quo rfl rfl rfl (fun _ => rfl) (by intro _; constructor <;> (try dsimp only) <;> omega) (by intro _; omega)) qS (by first | exact RLe.refl _ | assumption) ?_
    refine WA.take 7 rfl (by kernel_rfl) (by kernel_rfl) (by kernel_rfl) rfl rfl (by decide) (Yl.mul rfl rfl rfl (fun _ => rfl) (by intro _; constructor <;> (try dsimp only) <;> omega)) qS (by first | exact RLe.refl _ | assumption) ?_
    refine WA.take 8 rfl (by kernel_rfl) (by kernel_rfl) (by kernel_rfl) rfl rfl (by decide) (pureV_ok tab_ok rfl (fun _ => rfl)) qS (by first | exact RLe.refl _ | assumption) ?_
    refine' WA.take 9 rfl (by kernel_rfl) (by kernel_rfl) (by kernel_rfl) rfl rfl (by decide) (Yl.load1 tab_ok rfl rfl rfl (fun _ => rfl) ?r5 rfl ?h5) qS (by first | exact RLe.refl _ | assumption) ?_
    case r5 => apply Rd.add; (exact Rd.blk 0 rfl)
    case h5 => rfl
    refine WA.take 10 rfl (by kernel_rfl) (by kernel_rfl) (by kernel_rfl) rfl rfl (by decide) (pureV_ok tab_ok rfl (fun _ => rfl)) qS (by first | exact RLe.refl _ | assumption) ?_
    refine WA.take 11 rfl (by kernel_rfl) (by kernel_rfl) (by kernel_rfl) rfl rfl (by decide) (pureV_ok tab_ok rfl (fun _ => rfl)) qS (by first | exact RLe.refl _ | assumption) ?_
    refine' WA.take 12 rfl (by kernel_rfl) (by kernel_rfl) (by kernel_rfl) rfl rfl (by decide) (Yl.load1 tab_ok rfl rfl rfl (fun _ => rfl) ?r6 rfl ?h6) qS (by first | exact RLe.refl _ | assumption) ?_
    case r6 => apply Rd.add; (exact Rd.blk 0 rfl)
    case h6 => rfl
    refine WA.take 13 rfl (by kernel_rfl) (by kernel_rfl) (by kernel_rfl) rfl rfl (by decide) (Yl.quo rfl rfl rfl (fun _ => rfl) (by intro _; constructor <;> (try dsimp only) <;> omega) (by intro _; omega)) qS (by first | exact RLe.refl _ | assumption) ?_
    refine WA.take 14 rfl (by kernel_rfl) (by kernel_rfl) (by kernel_rfl) rfl rfl (by decide) (Yl.mul rfl rfl rfl (fun _ => rfl) (by intro _; constructor <;> (try dsimp only) <;> omega)) qS (by first | exact RLe.refl _ | assumption) ?_
    refine WA.take 15 rfl (by kernel_rfl) (by kernel_rfl) (by kernel_rfl) rfl rfl (by decide) (Yl.add rfl rfl rfl (fun _ => rfl) (by intro _; constructor <;> (try dsimp only) <;> omega)) qS (by first | exact RLe.refl _ | assumption) ?_
    -- build
    refine WA.take 16 rfl (by kernel_rfl) (by kernel_rfl) (by kernel_rfl) rfl rfl (by decide) (Yl.build (parts := [(1, .tmp 24), (2, .tmp 39)]) tab_ok rfl rfl rfl rfl (fun _ => rfl) rfl rfl) qS (by first | exact RLe.refl _ | assumption) ?_
    refine WA.eff 17 rfl (by kernel_rfl) rfl rfl (by decide) (Ef.alloc tab_ok rfl rfl (fun b10 => ?_))
    refine ⟨by first | exact RLe.refl _ | assumption, qS, ?_⟩
    refine WA.effN 18 rfl (by kernel_rfl) rfl rfl (Ef.store0 0 tab_ok rfl rfl rfl rfl rfl rfl rfl rfl ?_)
    refine ⟨by first | exact RLe.refl _ | assumption, qS, ?_⟩
    refine WA.done (by kernel_rfl) ?_
    refine WE.nxt ?_
    refine W.seq ?_
    rw [← hgi]
    generalize (gainC m1 (lcmC m1 m2) + gainC m2 (lcmC m1 m2)) = G at *
    generalize lcmC m1 m2 = L at *
    refine W.nil 3 1 (by decide) ?_
    refine W.seq ?_
    refine W.region _ ?_
    refine WG.run tab_ok 1 rfl ?_
    refine WG.nil ?_
    refine WE.nxt ?_
    refine W.block ?_
    refine W.loopK (β := Nat × Option Addr × Nat) (fun (t, a9, c9) => t ≤ (max m1.vals.length m2.vals.length) + L) (fun (t, a9, c9) => [(11, true, .int .i64 (t : Int))]) [4, 6, 7, 8, 10] [_, _, _, _, _] [] _ rfl (fun (t, a9, c9) => [(0, .sl 3 1 a9 c9 ((fvals (plusF m1 m2) t).map encI)), (1, .blk b10 [.slice a9 (fvals (plusF m1 m2) t).length c9, .int .i64 (L : Int), .int .i64 G])]) (fun (t, a9, c9) => (max m1.vals.length m2.vals.length) + L - t) ((0, none, 0)) (Nat.zero_le _) ⟨rfl, rfl, rfl, rfl, rfl, rfl, rfl⟩ qS ?_
    intro st hst
    obtain ⟨t, a9, c9⟩ := st
    dsimp only [zipE, setAll, List.cons_append, List.nil_append, List.set_cons_zero, List.set_cons_succ] at hst ⊢
    have hfl := fvals_len (plusF m1 m2) t
    refine W.seq ?_
    refine W.seq ?_
    refine W.region _ ?_
    refine WG.run tab_ok 2 rfl ?_
    refine' WG.y rfl rfl (by decide) (Yl.load1 tab_ok rfl rfl rfl (fun _ => rfl) ?r7 rfl ?h7) ?_
    case r7 => apply Rd.add; (exact Rd.blk 3 rfl)
    case h7 => rfl
    refine WG.run tab_ok 2 rfl ?_
    refine' WG.y rfl rfl (by decide) (Yl.load1 tab_ok rfl rfl rfl (fun _ => rfl) ?r8 rfl ?h8) ?_
    case r8 => apply Rd.add; (exact Rd.blk 2 rfl)
    case h8 => rfl
    refine WG.run tab_ok 3 rfl ?_
    refine WG.y rfl rfl (by decide) (Yl.add rfl rfl rfl (fun _ => rfl) (by intro _; constructor <;> (try dsimp only) <;> omega)) ?_
    refine WG.run tab_ok 1 rfl ?_
    refine WG.nil ?_
    refine WE.nxt ?_
    refine W.condD rfl (fun hc1 => ?_) (fun hc1 => ?_)
    · try dsimp only at hc1
      have htM : t < (max m1.vals.length m2.vals.length) + L := by split at hc1 <;> omega
      obtain ⟨x1, x2, x3⟩ := hle t (by omega)
      have e1 : fvals (plusF m1 m2) (t + 1) = fvals (plusF m1 m2) t ++ [(if cvF m1 t = INF ∨ cvF m2 t = INF then INF else cvF m1 t + cvF m2 t)] := by rw [fvals_snoc, x1]
      refine W.skip ?_
      refine WE.nxt ?_
      refine W.seq ?_
      refine W.block ?_
      refine W.regionH _ (ES := [.blk b7 [.slice f2 m2.vals.length k2, .int .i64 m2.per, .int .i64 m2.inc], .blk b6 [.slice f1 m1.vals.length k1, .int .i64 m1.per, .int .i64 m1.inc]]) mixed ?_
      refine WA.take 0 rfl (by kernel_rfl) (by kernel_rfl) (by kernel_rfl) rfl rfl (by decide) (pureV_ok tab_ok rfl (fun _ => rfl)) qS (by first | exact RLe.refl _ | assumption) ?_
      refine' WA.take 2 rfl (by kernel_rfl) (by kernel_rfl) (by kernel_rfl) rfl rfl (by decide) (Yl.load1 tab_ok rfl rfl rfl (fun _ => rfl) ?r9 rfl ?h9) qS (by first | exact RLe.refl _ | assumption) ?_
      case r9 => (exact Rd.blk 1 rfl)
      case h9 => rfl
      refine WA.take 3 rfl (by kernel_rfl) (by kernel_rfl) (by kernel_rfl) rfl rfl (by decide) (pureV_ok tab_ok rfl (fun _ => rfl)) qS (by first | exact RLe.refl _ | assumption) ?_
      refine' WA.take 5 rfl (by kernel_rfl) (by kernel_rfl) (by kernel_rfl) rfl rfl (by decide) (Yl.load1 tab_ok rfl rfl rfl (fun _ => rfl) ?r10 rfl ?h10) qS (by first | exact RLe.refl _ | assumption) ?_
      case r10 => (exact Rd.blk 0 rfl)
      case h10 => rfl
      refine WA.take 6 rfl (by kernel_rfl) (by kernel_rfl) (by kernel_rfl) rfl rfl (by decide) (pureV_ok tab_ok rfl (fun _ => rfl)) qS (by first | exact RLe.refl _ | assumption) ?_
      refine WA.br2 (i := 1) (j := 4) (by kernel_rfl) ?_ ?_
      ·
        refine' WS.yl rfl rfl rfl (by decide) (Yl.load1 tab_ok rfl rfl rfl (fun _ => rfl) ?r11 rfl ?h11) qS (RLe.refl _) ?_
        case r11 => apply Rd.add; (exact Rd.blk 1 rfl)
        case h11 => rfl
        refine WA.callG 4 rfl (by kernel_rfl) en18 rfl (by first | rfl | decide) rfl (by decide) (CallOp.mkT rfl rfl rfl rfl) (FnV.toFn (AtG_V (fc := k1) hnv hf1 (t := t) (by omega))) ?_
        rintro _ _ _ - ⟨rfl, rfl, rfl⟩
        refine ⟨by first | exact RLe.refl _ | assumption, qS, ?_⟩
        refine WA.callG 7 rfl (by kernel_rfl) en18 rfl (by first | rfl | decide) rfl (by decide) (CallOp.mkT rfl rfl rfl rfl) (FnV.toFn (AtG_V (fc := k2) hnw hf2 (t := t) (by omega))) ?_
        rintro _ _ _ - ⟨rfl, rfl, rfl⟩
        refine ⟨by first | exact RLe.refl _ | assumption, qS, ?_⟩
        refine WA.callG 8 rfl (by kernel_rfl) en69 rfl (by first | rfl | decide) rfl (by decide) (CallOp.mkT rfl rfl rfl rfl) (FnV.toFn (Plus05_V (.inr x2) (.inr x3))) ?_
        rintro _ _ _ - ⟨rfl, rfl, rfl⟩
        refine ⟨by first | exact RLe.refl _ | assumption, qS, ?_⟩
        refine WA.eff 9 rfl (by kernel_rfl) rfl rfl (by decide) (Ef.buildSliceD (enc := encI) (parts := [.tmp 62]) [_] tab_ok rfl rfl rfl rfl rfl rfl rfl rfl (by decide) (by decide) (fun a63 => ?_))
        refine ⟨by first | exact RLe.refl _ | assumption, qS, ?_⟩
        refine WA.eff 10 rfl (by kernel_rfl) rfl rfl (by decide) (Ef.appendD 1 0 tab_ok rfl rfl rfl rfl rfl rfl rfl rfl rfl rfl rfl (fun _ _ => rfl) (by simp only [List.length_cons, List.length_nil]; omega) (by simp only [List.length_cons, List.length_nil]; omega) (fun a64 c64 ha64 => ?_))
        refine ⟨by first | exact RLe.refl _ | assumption, qS, ?_⟩
        refine WA.take 11 rfl (by kernel_rfl) (by kernel_rfl) (by kernel_rfl) rfl rfl (by decide) (pureV_ok tab_ok rfl (fun _ => rfl)) qS (by first | exact RLe.refl _ | assumption) ?_
        refine WA.effN 12 rfl (by kernel_rfl) rfl rfl (Ef.store 2 tab_ok rfl rfl rfl rfl rfl rfl rfl rfl ?_)
        refine ⟨by first | exact RLe.refl _ | assumption, qS, ?_⟩
        refine WA.done (by kernel_rfl) ?_
        refine WE.blk _ ?_
        refine WE.nxt ?_
        refine W.region _ ?_
        refine WG.run tab_ok 1 rfl ?_
        refine WG.y rfl rfl (by decide) (Yl.add rfl rfl rfl (fun _ => rfl) (by intro _; constructor <;> (try dsimp only) <;> omega)) ?_
        refine WG.run tab_ok 1 rfl ?_
        refine WG.nil ?_
        refine WE.again ((t + 1, a64, c64)) (by dsimp only; omega) (by (try dsimp only); omega) ⟨rfl, rfl, rfl, rfl, rfl, rfl, rfl⟩ (RLe.refl _) (by dsimp only [setAll, List.set_cons_zero, List.set_cons_succ]; rw [e1, List.length_append]; exact qS)
      ·
        refine WS.callG rfl en18 rfl (by first | rfl | decide) rfl (by decide) (CallOp.mkT rfl rfl rfl rfl) (FnV.toFn (AtG_V (fc := k1) hnv hf1 (t := t) (by omega))) ?_
        rintro _ _ _ - ⟨rfl, rfl, rfl⟩
        refine ⟨by first | exact RLe.refl _ | assumption, qS, ?_⟩
        refine WA.br2 (i := 1) (j := 7) (by kernel_rfl) ?_ ?_
        ·
          refine' WS.yl rfl rfl rfl (by decide) (Yl.load1 tab_ok rfl rfl rfl (fun _ => rfl) ?r12 rfl ?h12) qS (RLe.refl _) ?_
          case r12 => apply Rd.add; (exact Rd.blk 1 rfl)
          case h12 => rfl
          refine WA.callG 7 rfl (by kernel_rfl) en18 rfl (by first | rfl | decide) rfl (by decide) (CallOp.mkT rfl rfl rfl rfl) (FnV.toFn (AtG_V (fc := k2) hnw hf2 (t := t) (by omega))) ?_
          rintro _ _ _ - ⟨rfl, rfl, rfl⟩
          refine ⟨by first | exact RLe.refl _ | assumption, qS, ?_⟩
          refine WA.callG 8 rfl (by kernel_rfl) en69 rfl (by first | rfl | decide) rfl (by decide) (CallOp.mkT rfl rfl rfl rfl) (FnV.toFn (Plus05_V (.inr x2) (.inr x3))) ?_
          rintro _ _ _ - ⟨rfl, rfl, rfl⟩
          refine ⟨by first | exact RLe.refl _ | assumption, qS, ?_⟩
          refine WA.eff 9 rfl (by kernel_rfl) rfl rfl (by decide) (Ef.buildSliceD (enc := encI) (parts := [.tmp 62]) [_] tab_ok rfl rfl rfl rfl rfl rfl rfl rfl (by decide) (by decide) (fun a63 => ?_))
          refine ⟨by first | exact RLe.refl _ | assumption, qS, ?_⟩
          refine WA.eff 10 rfl (by kernel_rfl) rfl rfl (by decide) (Ef.appendD 1 0 tab_ok rfl rfl rfl rfl rfl rfl rfl rfl rfl rfl rfl (fun _ _ => rfl) (by simp only [List.length_cons, List.length_nil]; omega) (by simp only [List.length_cons, List.length_nil]; omega) (fun a64 c64 ha64 => ?_))
          refine ⟨by first | exact RLe.refl _ | assumption, qS, ?_⟩
          refine WA.take 11 rfl (by kernel_rfl) (by kernel_rfl) (by kernel_rfl) rfl rfl (by decide) (pureV_ok tab_ok rfl (fun _ => rfl)) qS (by first | exact RLe.refl _ | assumption) ?_
          refine WA.effN 12 rfl (by kernel_rfl) rfl rfl (Ef.store 2 tab_ok rfl rfl rfl rfl rfl rfl rfl rfl ?_)
          refine ⟨by first | exact RLe.refl _ | assumption, qS, ?_⟩
          refine WA.done (by kernel_rfl) ?_
          refine WE.blk _ ?_
          refine WE.nxt ?_
          refine W.region _ ?_
          refine WG.run tab_ok 1 rfl ?_
          refine WG.y rfl rfl (by decide) (Yl.add rfl rfl rfl (fun _ => rfl) (by intro _; constructor <;> (try dsimp only) <;> omega)) ?_
          refine WG.run tab_ok 1 rfl ?_
          refine WG.nil ?_
          refine WE.again ((t + 1, a64, c64)) (by dsimp only; omega) (by (try dsimp only); omega) ⟨rfl, rfl, rfl, rfl, rfl, rfl, rfl⟩ (RLe.refl _) (by dsimp only [setAll, List.set_cons_zero, List.set_cons_succ]; rw [e1, List.length_append]; exact qS)
        ·
          refine WS.callG rfl en18 rfl (by first | rfl | decide) rfl (by decide) (CallOp.mkT rfl rfl rfl rfl) (FnV.toFn (AtG_V (fc := k2) hnw hf2 (t := t) (by omega))) ?_
          rintro _ _ _ - ⟨rfl, rfl, rfl⟩
          refine ⟨by first | exact RLe.refl _ | assumption, qS, ?_⟩
          refine WA.br2 (i := 1) (j := 8) (by kernel_rfl) ?_ ?_
          ·
            refine' WS.yl rfl rfl rfl (by decide) (Yl.load1 tab_ok rfl rfl rfl (fun _ => rfl) ?r13 rfl ?h13) qS (RLe.refl _) ?_
            case r13 => apply Rd.add; (exact Rd.blk 1 rfl)
            case h13 => rfl
            refine WA.callG 8 rfl (by kernel_rfl) en69 rfl (by first | rfl | decide) rfl (by decide) (CallOp.mkT rfl rfl rfl rfl) (FnV.toFn (Plus05_V (.inr x2) (.inr x3))) ?_
            rintro _ _ _ - ⟨rfl, rfl, rfl⟩
            refine ⟨by first | exact RLe.refl _ | assumption, qS, ?_⟩
            refine WA.eff 9 rfl (by kernel_rfl) rfl rfl (by decide) (Ef.buildSliceD (enc := encI) (parts := [.tmp 62]) [_] tab_ok rfl rfl rfl rfl rfl rfl rfl rfl (by decide) (by decide) (fun a63 => ?_))
            refine ⟨by first | exact RLe.refl _ | assumption, qS, ?_⟩
            refine WA.eff 10 rfl (by kernel_rfl) rfl rfl (by decide) (Ef.appendD 1 0 tab_ok rfl rfl rfl rfl rfl rfl rfl rfl rfl rfl rfl (fun _ _ => rfl) (by simp only [List.length_cons, List.length_nil]; omega) (by simp only [List.length_cons, List.length_nil]; omega) (fun a64 c64 ha64 => ?_))
            refine ⟨by first | exact RLe.refl _ | assumption, qS, ?_⟩
            refine WA.take 11 rfl (by kernel_rfl) (by kernel_rfl) (by kernel_rfl) rfl rfl (by decide) (pureV_ok tab_ok rfl (fun _ => rfl)) qS (by first | exact RLe.refl _ | assumption) ?_
            refine WA.effN 12 rfl (by kernel_rfl) rfl rfl (Ef.store 2 tab_ok rfl rfl rfl rfl rfl rfl rfl rfl ?_)
            refine ⟨by first | exact RLe.refl _ | assumption, qS, ?_⟩
            refine WA.done (by kernel_rfl) ?_
            refine WE.blk _ ?_
            refine WE.nxt ?_
            refine W.region _ ?_
            refine WG.run tab_ok 1 rfl ?_
            refine WG.y rfl rfl (by decide) (Yl.add rfl rfl rfl (fun _ => rfl) (by intro _; constructor <;> (try dsimp only) <;> omega)) ?_
            refine WG.run tab_ok 1 rfl ?_
            refine WG.nil ?_
            refine WE.again ((t + 1, a64, c64)) (by dsimp only; omega) (by (try dsimp only); omega) ⟨rfl, rfl, rfl, rfl, rfl, rfl, rfl⟩ (RLe.refl _) (by dsimp only [setAll, List.set_cons_zero, List.set_cons_succ]; rw [e1, List.length_append]; exact qS)
          ·
            refine WS.callG rfl en69 rfl (by first | rfl | decide) rfl (by decide) (CallOp.mkT rfl rfl rfl rfl) (FnV.toFn (Plus05_V (.inr x2) (.inr x3))) ?_
            rintro _ _ _ - ⟨rfl, rfl, rfl⟩
            refine ⟨by first | exact RLe.refl _ | assumption, qS, ?_⟩
            refine WA.br2 (i := 1) (j := 9) (by kernel_rfl) ?_ ?_
            ·
              refine' WS.yl rfl rfl rfl (by decide) (Yl.load1 tab_ok rfl rfl rfl (fun _ => rfl) ?r14 rfl ?h14) qS (RLe.refl _) ?_
              case r14 => apply Rd.add; (exact Rd.blk 1 rfl)
              case h14 => rfl
              refine WA.eff 9 rfl (by kernel_rfl) rfl rfl (by decide) (Ef.buildSliceD (enc := encI) (parts := [.tmp 62]) [_] tab_ok rfl rfl rfl rfl rfl rfl rfl rfl (by decide) (by decide) (fun a63 => ?_))
              refine ⟨by first | exact RLe.refl _ | assumption, qS, ?_⟩
              refine WA.eff 10 rfl (by kernel_rfl) rfl rfl (by decide) (Ef.appendD 1 0 tab_ok rfl rfl rfl rfl rfl rfl rfl rfl rfl rfl rfl (fun _ _ => rfl) (by simp only [List.length_cons, List.length_nil]; omega) (by simp only [List.length_cons, List.length_nil]; omega) (fun a64 c64 ha64 => ?_))
              refine ⟨by first | exact RLe.refl _ | assumption, qS, ?_⟩
              refine WA.take 11 rfl (by kernel_rfl) (by kernel_rfl) (by kernel_rfl) rfl rfl (by decide) (pureV_ok tab_ok rfl (fun _ => rfl)) qS (by first | exact RLe.refl _ | assumption) ?_
              refine WA.effN 12 rfl (by kernel_rfl) rfl rfl (Ef.store 2 tab_ok rfl rfl rfl rfl rfl rfl rfl rfl ?_)
              refine ⟨by first | exact RLe.refl _ | assumption, qS, ?_⟩
              refine WA.done (by kernel_rfl) ?_
              refine WE.blk _ ?_
              refine WE.nxt ?_
              refine W.region _ ?_
              refine WG.run tab_ok 1 rfl ?_
              refine WG.y rfl rfl (by decide) (Yl.add rfl rfl rfl (fun _ => rfl) (by intro _; constructor <;> (try dsimp only) <;> omega)) ?_
              refine WG.run tab_ok 1 rfl ?_
              refine WG.nil ?_
              refine WE.again ((t + 1, a64, c64)) (by dsimp only; omega) (by (try dsimp only); omega) ⟨rfl, rfl, rfl, rfl, rfl, rfl, rfl⟩ (RLe.refl _) (by dsimp only [setAll, List.set_cons_zero, List.set_cons_succ]; rw [e1, List.length_append]; exact qS)
            ·
              refine WS.eff rfl rfl rfl (by decide) (Ef.buildSliceD (enc := encI) (parts := [.tmp 62]) [_] tab_ok rfl rfl rfl rfl rfl rfl rfl rfl (by decide) (by decide) (fun a63 => ?_))
              refine ⟨by first | exact RLe.refl _ | assumption, qS, ?_⟩
              refine' WA.yl 1 rfl (by kernel_rfl) rfl rfl (by decide) (Yl.load1 tab_ok rfl rfl rfl (fun _ => rfl) ?r15 rfl ?h15) qS (RLe.refl _) ?_
              case r15 => apply Rd.add; (exact Rd.blk 2 rfl)
              case h15 => rfl
              refine WA.eff 10 rfl (by kernel_rfl) rfl rfl (by decide) (Ef.appendD 1 0 tab_ok rfl rfl rfl rfl rfl rfl rfl rfl rfl rfl rfl (fun _ _ => rfl) (by simp only [List.length_cons, List.length_nil]; omega) (by simp only [List.length_cons, List.length_nil]; omega) (fun a64 c64 ha64 => ?_))
              refine ⟨by first | exact RLe.refl _ | assumption, qS, ?_⟩
              refine WA.take 11 rfl (by kernel_rfl) (by kernel_rfl) (by kernel_rfl) rfl rfl (by decide) (pureV_ok tab_ok rfl (fun _ => rfl)) qS (by first | exact RLe.refl _ | assumption) ?_
              refine WA.effN 12 rfl (by kernel_rfl) rfl rfl (Ef.store 2 tab_ok rfl rfl rfl rfl rfl rfl rfl rfl ?_)
              refine ⟨by first | exact RLe.refl _ | assumption, qS, ?_⟩
              refine WA.done (by kernel_rfl) ?_
              refine WE.blk _ ?_
              refine WE.nxt ?_
              refine W.region _ ?_
              refine WG.run tab_ok 1 rfl ?_
              refine WG.y rfl rfl (by decide) (Yl.add rfl rfl rfl (fun _ => rfl) (by intro _; constructor <;> (try dsimp only) <;> omega)) ?_
              refine WG.run tab_ok 1 rfl ?_
              refine WG.nil ?_
              refine WE.again ((t + 1, a64, c64)) (by dsimp only; omega) (by (try dsimp only); omega) ⟨rfl, rfl, rfl, rfl, rfl, rfl, rfl⟩ (RLe.refl _) (by dsimp only [setAll, List.set_cons_zero, List.set_cons_succ]; rw [e1, List.length_append]; exact qS)
    · try dsimp only at hc1
      obtain rfl : t = (max m1.vals.length m2.vals.length) + L := by split at hc1 <;> omega
      refine W.cap 0 rfl ?_
      intro hcp
      rw [List.length_map] at hcp
      refine W.freeze (enc := encI) (xs := fvals (plusF m1 m2) ((max m1.vals.length m2.vals.length) + L)) 0 rfl ?_
      intro R2 hR2 hv0
      refine W.exit ?_
      refine WE.then_exit ?_
      refine WE.then_exit ?_
      refine WE.blk_exit ?_
      refine WE.nxt ?_
      refine W.seq ?_
      refine W.region _ ?_
      refine' WG.y rfl rfl (by decide) (Yl.load1 tab_ok rfl rfl rfl (fun _ => rfl) ?r16 rfl ?h16) ?_
      case r16 => (exact Rd.blk 0 rfl)
      case h16 => rfl
      refine WL.call en51 rfl rfl (by decide) (CallOp.mkT rfl rfl rfl rfl) (MadeG_C hv0 (by omega) hmok hcp w0 _) ?_
      rintro _ R4 E4 hR4 ⟨f, fc4, rfl, hf4, hsub4⟩
      refine WL.subE hsub4 ?_
      rw [hmade] at hf4 ⊢
      unfold cvV
      refine WG.run tab_ok 2 rfl ?_
      refine WL.efN rfl rfl (Ef.store0 3 tab_ok rfl rfl rfl rfl rfl rfl rfl rfl ?_)
      refine WG.run tab_ok 1 rfl ?_
      refine WG.nil ?_
      refine WE.nxt ?_
      refine W.ret ?_
      refine WE.retF tab_ok [_, _] rfl ⟨⟨_, _, _, rfl, rfl, rfl, ((by first | exact Rd.blk 0 rfl | exact Rd.blk 1 rfl | exact Rd.blk 2 rfl | exact Rd.blk 3 rfl | exact Rd.blk 4 rfl | exact Rd.blk 5 rfl | exact Rd.blk 6 rfl | exact Rd.blk 7 rfl)), rfl⟩, rfl, trivial⟩ (hR1.trans (hR2.trans hR4)) ?_
      exact ⟨f, fc4, s, p, q, rfl, hf4, hfcr, qS⟩

end Go.Proofs.Ytolmmfphdieilaa

/- Rule: the greatest of three. No condition. -/
namespace Go.Proofs.Ytolmmfphdieilaa.K
open Go Go.RowKit
section
variable {P : Program} {n : Nat} {env : Env} {w0 : World} {R : Ro} {E : List Ent} {o : Oper} {pc p q r : Bool}
theorem Yl.max3 {x y z : Operand} {a b c : Int} {ats : Array TypeId} (ho : o.op = .call { callee := .builtin .max, args := #[x, y, z], argTypes := ats }) (hx : ev env x = some (p, .int .i64 a)) (hy : ev env y = some (q, .int .i64 b)) (hz : ev env z = some (r, .int .i64 c))
    (hpq : pc = true → (p && (q && r)) = true) : Yl P n env w0 R E o pc (.int .i64 (if (if a < b then b else a) < c then c else (if a < b then b else a))) := by
  intro ac w hk hm hp
  obtain ⟨h1, h23⟩ := and_both (hpq hp)
  obtain ⟨h2, h3⟩ := and_both h23
  unfold execOp
  by_cases e1 : a < b
  · by_cases e2 : b < c
    · simp [ho, resolve, invoke, builtin, hk.ev hx h1, hk.ev hy h2, hk.ev hz h3, Builtin.max_, Builtin.max2, e1, e2]
    · simp [ho, resolve, invoke, builtin, hk.ev hx h1, hk.ev hy h2, hk.ev hz h3, Builtin.max_, Builtin.max2, e1, e2]
  · by_cases e2 : a < c
    · simp [ho, resolve, invoke, builtin, hk.ev hx h1, hk.ev hy h2, hk.ev hz h3, Builtin.max_, Builtin.max2, e1, e2]
    · simp [ho, resolve, invoke, builtin, hk.ev hx h1, hk.ev hy h2, hk.ev hz h3, Builtin.max_, Builtin.max2, e1, e2]
end
end Go.Proofs.Ytolmmfphdieilaa.K

/- Finite curves: values, gains, validity. No condition. -/
set_option linter.unusedSimpArgs false
set_option linter.unusedVariables false
namespace Go.Proofs.Ytolmmfphdieilaa
open Go Go.RowKit Go.Proofs.Ytolmmfphdieilaa.K Go.Proofs.Ytolmmfphdieilaa.M

end Go.Proofs.Ytolmmfphdieilaa

/- Finite curves: normal forms. No condition. -/
set_option linter.unusedSimpArgs false
set_option linter.unusedVariables false
namespace Go.Proofs.Ytolmmfphdieilaa
open Go Go.RowKit Go.Proofs.Ytolmmfphdieilaa.K Go.Proofs.Ytolmmfphdieilaa.M

theorem CloneI_C {R : Ro} {fa : Option Addr} {fc : Nat} {xs : List Int} (ha : RS R 1 encI fa xs) (hx : 0 < xs.length) (hl : xs.length ≤ 100000) (w0 : World) (E : List Ent) : K.Fn Try.prog 106 [.slice fa xs.length fc] w0 R E (fun v R' E' => ∃ (a2 : Option Addr) (c2 : Nat), v = .slice a2 xs.length c2 ∧ R = R' ∧ (.sl 3 1 a2 c2 (xs.map encI) :: E).Sublist E') := by
  have hns := ha.some hx
  refine Fn.enter (n := 8) Try.func106 rfl rfl (Nat.le_of_ble_eq_true rfl) rfl ?_
  refine W.seq ?_
  refine W.region _ ?_
  refine WG.run tab_ok 1 rfl ?_
  refine WG.nil ?_
  refine WE.nxt ?_
  refine W.seq ?_
  refine W.seq ?_
  refine W.region _ ?_
  refine WG.run tab_ok 1 rfl ?_
  refine WG.y rfl rfl (by decide) (Yl.eqNilS Try.underlying22 rfl rfl rfl (fun _ => rfl)) ?_
  refine WG.nil ?_
  refine WE.nxt ?_
  refine W.cond rfl (fun hc0 => ?_) (fun hc0 => ?_)
  · try simp only [decide_eq_true_eq, decide_eq_false_iff_not, beq_iff_eq, bne_iff_ne, beq_eq_false_iff_ne, bne_eq_false_iff_eq, ne_eq, Bool.or_eq_true, Bool.or_eq_false_iff, Bool.and_eq_true, Bool.and_eq_false_imp, Bool.not_eq_true, Bool.not_eq_true', Bool.not_eq_false', Classical.not_not, Int.not_lt, Int.not_le, gt_iff_lt, ge_iff_le] at hc0
    rw [hns] at hc0; cases hc0
  · try simp only [decide_eq_true_eq, decide_eq_false_iff_not, beq_iff_eq, bne_iff_ne, beq_eq_false_iff_ne, bne_eq_false_iff_eq, ne_eq, Bool.or_eq_true, Bool.or_eq_false_iff, Bool.and_eq_true, Bool.and_eq_false_imp, Bool.not_eq_true, Bool.not_eq_true', Bool.not_eq_false', Classical.not_not, Int.not_lt, Int.not_le, gt_iff_lt, ge_iff_le] at hc0
    refine W.skip ?_
    refine WE.nxt ?_
    refine W.seq ?_
    refine W.region _ ?_
    refine WL.ef rfl rfl (by decide) (Ef.buildSliceD (enc := encI) (parts := []) [] tab_ok rfl rfl rfl rfl rfl rfl rfl rfl (by decide) (by decide) (fun a5 => ?_))
    refine WG.run tab_ok 1 rfl ?_
    refine WL.ef rfl rfl (by decide) (Ef.cloneL (enc := encI) 0 tab_ok rfl rfl rfl rfl rfl rfl rfl rfl rfl rfl ha (fun _ _ => rfl) (by dsimp only; omega) (by omega) (fun a7 c7 ha7 => ?_))
    refine WG.run tab_ok 1 rfl ?_
    refine WG.nil ?_
    refine WE.nxt ?_
    refine W.ret ?_
    refine WE.retF tab_ok [_] rfl ⟨rfl, trivial⟩ (RLe.refl _) ?_
    exact ⟨_, _, rfl, rfl, qS⟩

end Go.Proofs.Ytolmmfphdieilaa

/- Any valid curve in the program. No condition. -/
set_option linter.unusedSimpArgs false
set_option linter.unusedVariables false
namespace Go.Proofs.Ytolmmfphdieilaa
open Go Go.RowKit Go.Proofs.Ytolmmfphdieilaa.K Go.Proofs.Ytolmmfphdieilaa.M

theorem WAtG_V {R : Ro} {fa : Option Addr} {fc : Nat} {c : Cv} (hv : validB c = true) (ha : RS R 1 encI fa c.vals) {t : Nat} (ht : t ≤ 1000000000) : FnV Try.prog 68 [.agg #[.slice fa c.vals.length fc, .int .i64 c.per, .int .i64 c.inc], .int .i64 (t : Int)] R (.int .i64 (cvF c t)) := by
  refine Fn.toV (fun w0 E => ?_)
  obtain ⟨hr1, hr2, hr3, hr4, hr5, hr6, hr7, hr8⟩ := valid_range hv
  refine Fn.enter (n := 45) Try.func68 rfl rfl (Nat.le_of_ble_eq_true rfl) rfl ?_
  refine W.seq ?_
  refine W.region _ ?_
  refine WL.ef rfl rfl (by decide) (Ef.box rfl rfl (fun b2 => ?_))
  refine WG.run tab_ok 1 rfl ?_
  refine WG.nil ?_
  refine WE.nxt ?_
  refine W.seq ?_
  refine W.region _ ?_
  refine WG.run tab_ok 1 rfl ?_
  refine' WG.y rfl rfl (by decide) (Yl.load1 tab_ok rfl rfl rfl (fun _ => rfl) ?r1 rfl ?h1) ?_
  case r1 => apply Rd.add; (exact Rd.blk 0 rfl)
  case h1 => rfl
  refine WG.run tab_ok 2 rfl ?_
  refine WG.nil ?_
  refine WE.nxt ?_
  refine W.seq ?_
  refine W.seq ?_
  refine W.region _ ?_
  refine WG.run tab_ok 3 rfl ?_
  refine WG.nil ?_
  refine WE.nxt ?_
  refine W.condD rfl (fun hc0 => ?_) (fun hc0 => ?_)
  · try dsimp only at hc0
    have htl : t < c.vals.length := by omega
    refine W.seq ?_
    refine W.region _ ?_
    refine WG.run tab_ok 1 rfl ?_
    refine' WG.y rfl rfl (by decide) (Yl.load1 tab_ok rfl rfl rfl (fun _ => rfl) ?r2 rfl ?h2) ?_
    case r2 => apply Rd.add; (exact Rd.blk 0 rfl)
    case h2 => rfl
    refine WG.run tab_ok 1 rfl ?_
    refine WG.y rfl rfl (by decide) (Yl.indexN tab_ok rfl rfl rfl rfl rfl rfl (fun _ => rfl) (by intro _; (try dsimp only) <;> omega) (by intro _; first | exact fun _ _ _ _ => rfl | exact RS.has (by assumption) | exact fun _ _ _ _ => (by assumption) | exact HasMem.ownD 0 rfl | exact HasMem.ownD 1 rfl)) ?_
    refine' WG.y rfl rfl (by decide) (Yl.load1 tab_ok rfl rfl rfl (fun _ => rfl) ?r3 rfl ?h3) ?_
    case r3 => ((apply RS.rdD; assumption; ((try dsimp only) <;> omega)))
    case h3 => rfl
    refine WG.run tab_ok 1 rfl ?_
    refine WG.nil ?_
    refine WE.nxt ?_
    refine W.ret ?_
    refine WE.then_ret ?_
    refine WE.subE (E' := E) qS ?_
    refine WE.retF tab_ok [_] rfl ⟨rfl, trivial⟩ (RLe.refl _) ?_
    exact ⟨by rw [cvF_low htl]; rfl, rfl⟩
  · try dsimp only at hc0
    obtain ⟨P, hP⟩ := Int.eq_ofNat_of_zero_le (show 0 ≤ c.per by omega)
    have hPn : 1 ≤ P ∧ P ≤ c.vals.length := by omega
    obtain ⟨j1, j2, j3⟩ := cvJ_at hPn (show c.vals.length ≤ t by omega)
    have hcv := cvF_high hP hPn (show c.vals.length ≤ t by omega)
    generalize hq : (t - c.vals.length) / P = q at j3 hcv
    have hq1 : ((t : Int) - (c.vals.length : Int)) / c.per = (q : Int) := by rw [hP, show (t : Int) - (c.vals.length : Int) = ((t - c.vals.length : Nat) : Int) by omega, ← hq]; rfl
    have hq5 : ((q : Int) + 1) * c.per = (((q + 1) * P : Nat) : Int) := by rw [hP, Int.natCast_mul]; rfl
    have hj : (t : Int) - (((q + 1) * P : Nat) : Int) = (cvJ c.vals.length P t : Int) := by omega
    have hqt : q + 1 ≤ t := Nat.le_trans (Nat.le_mul_of_pos_right (q + 1) (show 0 < P by omega)) (by omega)
    have hve := valid_each hv _ j2
    have hqI := mulB (a := (q : Int) + 1) (b := c.inc) (A := 1000000000) (B := 1073741824) (by omega) (by omega)
    refine W.skip ?_
    refine WE.nxt ?_
    refine W.seq ?_
    refine W.region _ ?_
    refine WG.run tab_ok 2 rfl ?_
    refine WG.y rfl rfl (by decide) (Yl.sub rfl rfl rfl (fun _ => rfl) (by intro _; constructor <;> (try dsimp only) <;> omega)) ?_
    refine WG.run tab_ok 1 rfl ?_
    refine' WG.y rfl rfl (by decide) (Yl.load1 tab_ok rfl rfl rfl (fun _ => rfl) ?r4 rfl ?h4) ?_
    case r4 => apply Rd.add; (exact Rd.blk 0 rfl)
    case h4 => rfl
    refine WG.y rfl rfl (by decide) (Yl.quo rfl rfl rfl (fun _ => rfl) (by intro _; constructor <;> (try dsimp only) <;> omega) (by intro _; omega)) ?_
    refine WG.y rfl rfl (by decide) (Yl.add rfl rfl rfl (fun _ => rfl) (by intro _; constructor <;> (try dsimp only) <;> omega)) ?_
    refine WG.run tab_ok 1 rfl ?_
    refine WG.nil ?_
    refine WE.nxt ?_
    rw [hq1]
    refine W.seq ?_
    refine W.region _ ?_
    refine WG.run tab_ok 1 rfl ?_
    refine' WG.y rfl rfl (by decide) (Yl.load1 tab_ok rfl rfl rfl (fun _ => rfl) ?r5 rfl ?h5) ?_
    case r5 => apply Rd.add; (exact Rd.blk 0 rfl)
    case h5 => rfl
    refine WG.run tab_ok 3 rfl ?_
    refine' WG.y rfl rfl (by decide) (Yl.load1 tab_ok rfl rfl rfl (fun _ => rfl) ?r6 rfl ?h6) ?_
    case r6 => apply Rd.add; (exact Rd.blk 0 rfl)
    case h6 => rfl
    refine WG.y rfl rfl (by decide) (Yl.mul rfl rfl rfl (fun _ => rfl) (by intro _; constructor <;> (try dsimp only) <;> omega)) ?_
    refine WG.y rfl rfl (by decide) (Yl.sub rfl rfl rfl (fun _ => rfl) (by intro _; constructor <;> (try dsimp only) <;> omega)) ?_
    rw [hq5, hj]
    refine WG.y rfl rfl (by decide) (Yl.indexN tab_ok rfl rfl rfl rfl rfl rfl (fun _ => rfl) (by intro _; (try dsimp only) <;> omega) (by intro _; first | exact fun _ _ _ _ => rfl | exact RS.has (by assumption) | exact fun _ _ _ _ => (by assumption) | exact HasMem.ownD 0 rfl | exact HasMem.ownD 1 rfl)) ?_
    refine' WG.y rfl rfl (by decide) (Yl.load1 tab_ok rfl rfl rfl (fun _ => rfl) ?r7 rfl ?h7) ?_
    case r7 => ((apply RS.rdD; assumption; ((try dsimp only) <;> omega)))
    case h7 => rfl
    refine WG.run tab_ok 1 rfl ?_
    refine WG.nil ?_
    refine WE.nxt ?_
    refine W.seq ?_
    refine W.seq ?_
    refine W.region _ ?_
    refine WG.run tab_ok 2 rfl ?_
    refine WG.nil ?_
    refine WE.nxt ?_
    refine W.condE rfl (fun hc1 => ?_) (fun hc1 => ?_)
    · try dsimp only at hc1
      have hcv : cvF c t = 4611686018427387904 := by rw [hcv, if_pos (show _ = INF from hc1)]; rfl
      refine W.seq ?_
      refine W.region _ ?_
      refine WG.run tab_ok 2 rfl ?_
      refine WG.nil ?_
      refine WE.nxt ?_
      refine W.ret ?_
      refine WE.then_ret ?_
      refine WE.subE (E' := E) qS ?_
      refine WE.retF tab_ok [_] rfl ⟨rfl, trivial⟩ (RLe.refl _) ?_
      exact ⟨by rw [hcv, hc1]; rfl, rfl⟩
    · try dsimp only at hc1
      have hvm := hve.resolve_left hc1
      unfold MAXV at hvm
      rw [if_neg (show ¬ _ = INF from hc1), show ((q + 1 : Nat) : Int) = (q : Int) + 1 from rfl] at hcv
      refine W.skip ?_
      refine WE.nxt ?_
      refine W.seq ?_
      refine W.region _ ?_
      refine WG.run tab_ok 3 rfl ?_
      refine' WG.y rfl rfl (by decide) (Yl.load1 tab_ok rfl rfl rfl (fun _ => rfl) ?r8 rfl ?h8) ?_
      case r8 => apply Rd.add; (exact Rd.blk 0 rfl)
      case h8 => rfl
      refine WG.y rfl rfl (by decide) (Yl.mul rfl rfl rfl (fun _ => rfl) (by intro _; constructor <;> (try dsimp only) <;> omega)) ?_
      refine WG.y rfl rfl (by decide) (Yl.add rfl rfl rfl (fun _ => rfl) (by intro _; constructor <;> (try dsimp only) <;> omega)) ?_
      refine WG.run tab_ok 1 rfl ?_
      refine WG.nil ?_
      refine WE.nxt ?_
      refine W.ret ?_
      refine WE.subE (E' := E) qS ?_
      refine WE.retF tab_ok [_] rfl ⟨rfl, trivial⟩ (RLe.refl _) ?_
      exact ⟨by rw [hcv]; rfl, rfl⟩

theorem WFiniteG_V {R : Ro} {fa : Option Addr} {fc : Nat} {c : Cv} (hv : validB c = true) (ha : RS R 1 encI fa c.vals) : FnV Try.prog 57 [.agg #[.slice fa c.vals.length fc, .int .i64 c.per, .int .i64 c.inc]] R (.bool (finB c)) := by
  refine Fn.toV (fun w0 E => ?_)
  obtain ⟨hr1, hr2, hr3, hr4, hr5, hr6, hr7, hr8⟩ := valid_range hv
  have hl : ((c.vals.length : Int) - 1).toNat = c.vals.length - 1 := by omega
  refine Fn.enter (n := 12) Try.func57 rfl rfl (Nat.le_of_ble_eq_true rfl) rfl ?_
  refine W.seq ?_
  refine W.region _ ?_
  refine WL.ef rfl rfl (by decide) (Ef.box rfl rfl (fun b1 => ?_))
  refine WG.run tab_ok 1 rfl ?_
  refine WG.nil ?_
  refine WE.nxt ?_
  refine W.seq ?_
  refine W.region _ ?_
  refine WG.run tab_ok 1 rfl ?_
  refine' WG.y rfl rfl (by decide) (Yl.load1 tab_ok rfl rfl rfl (fun _ => rfl) ?r1 rfl ?h1) ?_
  case r1 => apply Rd.add; (exact Rd.blk 0 rfl)
  case h1 => rfl
  refine WG.run tab_ok 1 rfl ?_
  refine' WG.y rfl rfl (by decide) (Yl.load1 tab_ok rfl rfl rfl (fun _ => rfl) ?r2 rfl ?h2) ?_
  case r2 => apply Rd.add; (exact Rd.blk 0 rfl)
  case h2 => rfl
  refine WG.run tab_ok 1 rfl ?_
  refine WG.y rfl rfl (by decide) (Yl.sub rfl rfl rfl (fun _ => rfl) (by intro _; constructor <;> (try dsimp only) <;> omega)) ?_
  refine WG.y rfl rfl (by decide) (Yl.index tab_ok rfl rfl rfl rfl rfl rfl (fun _ => rfl) (by intro _; constructor <;> (try dsimp only) <;> omega) (by intro _; first | exact fun _ _ _ _ => rfl | exact RS.has (by assumption) | exact fun _ _ _ _ => (by assumption) | exact HasMem.ownD 0 rfl | exact HasMem.ownD 1 rfl)) ?_
  refine' WG.y rfl rfl (by decide) (Yl.load1 tab_ok rfl rfl rfl (fun _ => rfl) ?r3 rfl ?h3) ?_
  case r3 => ((apply RS.rdD; assumption; ((try dsimp only) <;> omega)))
  case h3 => rfl
  refine WG.run tab_ok 2 rfl ?_
  refine WG.nil ?_
  refine WE.nxt ?_
  refine W.ret ?_
  refine WE.subE (E' := E) qS ?_
  refine WE.retF tab_ok [_] rfl ⟨rfl, trivial⟩ (RLe.refl _) ?_
  exact ⟨by rw [hl]; rfl, rfl⟩

theorem WStartG_V {R : Ro} {fa : Option Addr} {fc : Nat} {c : Cv} (hv : validB c = true) (ha : RS R 1 encI fa c.vals) : FnV Try.prog 55 [.agg #[.slice fa c.vals.length fc, .int .i64 c.per, .int .i64 c.inc]] R (.int .i64 (stN c : Int)) := by
  refine Fn.toV (fun w0 E => ?_)
  obtain ⟨hr1, hr2, hr3, hr4, hr5, hr6, hr7, hr8⟩ := valid_range hv
  have hl : (c.vals.length : Int) - c.per = (stN c : Int) := by unfold stN; omega
  refine Fn.enter (n := 9) Try.func55 rfl rfl (Nat.le_of_ble_eq_true rfl) rfl ?_
  refine W.seq ?_
  refine W.region _ ?_
  refine WL.ef rfl rfl (by decide) (Ef.box rfl rfl (fun b1 => ?_))
  refine WG.run tab_ok 1 rfl ?_
  refine WG.nil ?_
  refine WE.nxt ?_
  refine W.seq ?_
  refine W.region _ ?_
  refine WG.run tab_ok 1 rfl ?_
  refine' WG.y rfl rfl (by decide) (Yl.load1 tab_ok rfl rfl rfl (fun _ => rfl) ?r1 rfl ?h1) ?_
  case r1 => apply Rd.add; (exact Rd.blk 0 rfl)
  case h1 => rfl
  refine WG.run tab_ok 2 rfl ?_
  refine' WG.y rfl rfl (by decide) (Yl.load1 tab_ok rfl rfl rfl (fun _ => rfl) ?r2 rfl ?h2) ?_
  case r2 => apply Rd.add; (exact Rd.blk 0 rfl)
  case h2 => rfl
  refine WG.y rfl rfl (by decide) (Yl.sub rfl rfl rfl (fun _ => rfl) (by intro _; constructor <;> (try dsimp only) <;> omega)) ?_
  refine WG.run tab_ok 1 rfl ?_
  refine WG.nil ?_
  refine WE.nxt ?_
  refine W.ret ?_
  refine WE.subE (E' := E) qS ?_
  refine WE.retF tab_ok [_] rfl ⟨rfl, trivial⟩ (RLe.refl _) ?_
  exact ⟨by rw [hl]; rfl, rfl⟩

theorem WGainG_V {R : Ro} {fa : Option Addr} {fc : Nat} {c : Cv} (hv : validB c = true) (ha : RS R 1 encI fa c.vals) {L : Nat} (hL : L ≤ 100000) : FnV Try.prog 54 [.agg #[.slice fa c.vals.length fc, .int .i64 c.per, .int .i64 c.inc], .int .i64 (L : Int)] R (.int .i64 (gainC c L)) := by
  refine Fn.toV (fun w0 E => ?_)
  obtain ⟨hr1, hr2, hr3, hr4, hr5, hr6, hr7, hr8⟩ := valid_range hv
  have hd0 : 0 ≤ (L : Int) / c.per := Int.ediv_nonneg (by omega) (by omega)
  have hd1 : (L : Int) / c.per ≤ L := Int.ediv_le_self _ (by omega)
  have hd2 := mulB (a := (L : Int) / c.per) (b := c.inc) (A := 100000) (B := 1073741824) (by omega) (by omega)
  refine Fn.enter (n := 12) Try.func54 rfl rfl (Nat.le_of_ble_eq_true rfl) rfl ?_
  refine W.seq ?_
  refine W.region _ ?_
  refine WL.ef rfl rfl (by decide) (Ef.box rfl rfl (fun b2 => ?_))
  refine WG.run tab_ok 1 rfl ?_
  refine WG.nil ?_
  refine WE.nxt ?_
  refine W.seq ?_
  refine W.regionQ _ mixed (by kernel_rfl) ?_
  refine WG.run tab_ok 2 rfl ?_
  refine' WG.y rfl rfl (by decide) (Yl.load1 tab_ok rfl rfl rfl (fun _ => rfl) ?r1 rfl ?h1) ?_
  case r1 => apply Rd.add; (exact Rd.blk 0 rfl)
  case h1 => rfl
  refine WG.y rfl rfl (by decide) (Yl.quo rfl rfl rfl (fun _ => rfl) (by intro _; constructor <;> (try dsimp only) <;> omega) (by intro _; omega)) ?_
  refine WG.run tab_ok 1 rfl ?_
  refine' WG.y rfl rfl (by decide) (Yl.load1 tab_ok rfl rfl rfl (fun _ => rfl) ?r2 rfl ?h2) ?_
  case r2 => apply Rd.add; (exact Rd.blk 0 rfl)
  case h2 => rfl
  refine WG.y rfl rfl (by decide) (Yl.mul rfl rfl rfl (fun _ => rfl) (by intro _; constructor <;> (try dsimp only) <;> omega)) ?_
  refine WG.run tab_ok 1 rfl ?_
  refine WG.nil ?_
  refine WE.nxt ?_
  refine W.ret ?_
  refine WE.subE (E' := E) qS ?_
  refine WE.retF tab_ok [_] rfl ⟨rfl, trivial⟩ (RLe.refl _) ?_
  exact ⟨rfl, rfl⟩

theorem CValidG_V {R : Ro} {fa : Option Addr} {fc : Nat} {c : Cv} (ha : RS R 1 encI fa c.vals) (hl : c.vals.length ≤ 100000) : FnV Try.prog 67 [.agg #[.slice fa c.vals.length fc, .int .i64 c.per, .int .i64 c.inc]] R (.bool (validB c)) := by
  refine Fn.toV (fun w0 E => ?_)
  refine Fn.enter (n := 85) Try.func67 rfl rfl (Nat.le_of_ble_eq_true rfl) rfl ?_
  refine W.seq ?_
  refine W.region _ ?_
  refine WL.ef rfl rfl (by decide) (Ef.box rfl rfl (fun b1 => ?_))
  refine WG.run tab_ok 1 rfl ?_
  refine WG.nil ?_
  refine WE.nxt ?_
  refine W.seq ?_
  refine W.region _ ?_
  refine WG.run tab_ok 1 rfl ?_
  refine' WG.y rfl rfl (by decide) (Yl.load1 tab_ok rfl rfl rfl (fun _ => rfl) ?r1 rfl ?h1) ?_
  case r1 => apply Rd.add; (exact Rd.blk 0 rfl)
  case h1 => rfl
  refine WG.run tab_ok 2 rfl ?_
  refine WG.nil ?_
  refine WE.nxt ?_
  refine W.seq ?_
  refine W.seq ?_
  refine W.region _ ?_
  refine WG.run tab_ok 3 rfl ?_
  refine WG.y rfl rfl (by decide) (pureV_ok tab_ok rfl qE) ?_
  refine WG.y rfl rfl (by decide) (pureV_ok tab_ok rfl qE) ?_
  refine WG.y rfl rfl (by decide) (Yl.por rfl rfl rfl (fun _ => rfl) (by intro h1 h2; simp_all <;> omega)) ?_
  refine WG.run tab_ok 1 rfl ?_
  refine WG.y rfl rfl (by decide) (pureV_ok tab_ok rfl qE) ?_
  refine' WG.y rfl rfl (by decide) (Yl.loadG tab_ok rfl rfl rfl qE ?r2 rfl ?h2 ?g2) ?_
  case r2 => apply Rd.addC; (exact Rd.blkC 0 rfl)
  case h2 => rfl
  case g2 => exact fun _ => trivial
  refine WG.y rfl rfl (by decide) (pureV_ok tab_ok rfl qE) ?_
  refine WG.y rfl rfl (by decide) (Yl.por rfl rfl rfl (fun _ => rfl) (by intro h1 h2; simp_all <;> omega)) ?_
  refine WG.run tab_ok 1 rfl ?_
  refine WG.y rfl rfl (by decide) (pureV_ok tab_ok rfl qE) ?_
  refine' WG.y rfl rfl (by decide) (Yl.loadG tab_ok rfl rfl rfl qE ?r3 rfl ?h3 ?g3) ?_
  case r3 => apply Rd.addC; (exact Rd.blkC 0 rfl)
  case h3 => rfl
  case g3 => exact fun _ => trivial
  refine WG.y rfl rfl (by decide) (pureV_ok tab_ok rfl qE) ?_
  refine WG.y rfl rfl (by decide) (Yl.por rfl rfl rfl (fun _ => rfl) (by intro h1 h2; simp_all <;> omega)) ?_
  refine WG.run tab_ok 1 rfl ?_
  refine WG.y rfl rfl (by decide) (pureV_ok tab_ok rfl qE) ?_
  refine' WG.y rfl rfl (by decide) (Yl.loadG tab_ok rfl rfl rfl qE ?r4 rfl ?h4 ?g4) ?_
  case r4 => apply Rd.addC; (exact Rd.blkC 0 rfl)
  case h4 => rfl
  case g4 => exact fun _ => trivial
  refine WG.y rfl rfl (by decide) (pureV_ok tab_ok rfl qE) ?_
  refine WG.y rfl rfl (by decide) (pureV_ok tab_ok rfl qE) ?_
  refine WG.y rfl rfl (by decide) (Yl.por rfl rfl rfl (fun _ => rfl) (by intro h1 h2; simp_all <;> omega)) ?_
  refine WG.run tab_ok 1 rfl ?_
  refine WG.y rfl rfl (by decide) (pureV_ok tab_ok rfl qE) ?_
  refine' WG.y rfl rfl (by decide) (Yl.loadG tab_ok rfl rfl rfl qE ?r5 rfl ?h5 ?g5) ?_
  case r5 => apply Rd.addC; (exact Rd.blkC 0 rfl)
  case h5 => rfl
  case g5 => exact fun _ => trivial
  refine WG.y rfl rfl (by decide) (pureV_ok tab_ok rfl qE) ?_
  refine WG.y rfl rfl (by decide) (Yl.por rfl rfl rfl (fun _ => rfl) (by intro h1 h2; simp_all <;> omega)) ?_
  refine WG.run tab_ok 1 rfl ?_
  refine WG.y rfl rfl (by decide) (pureV_ok tab_ok rfl qE) ?_
  refine' WG.y rfl rfl (by decide) (Yl.loadG tab_ok rfl rfl rfl qE ?r6 rfl ?h6 ?g6) ?_
  case r6 => apply Rd.addC; (exact Rd.blkC 0 rfl)
  case h6 => rfl
  case g6 => exact fun _ => trivial
  refine WG.y rfl rfl (by decide) (pureV_ok tab_ok rfl qE) ?_
  refine WG.y rfl rfl (by decide) (Yl.por rfl rfl rfl (fun _ => rfl) (by intro h1 h2; simp_all <;> omega)) ?_
  refine WG.nil ?_
  refine WE.nxt ?_
  refine W.cond rfl (fun hc0 => ?_) (fun hc0 => ?_)
  · try simp only [decide_eq_true_eq, decide_eq_false_iff_not, beq_iff_eq, bne_iff_ne, beq_eq_false_iff_ne, bne_eq_false_iff_eq, ne_eq, Bool.or_eq_true, Bool.or_eq_false_iff, Bool.and_eq_true, Bool.and_eq_false_imp, Bool.not_eq_true, Bool.not_eq_true', Bool.not_eq_false', Classical.not_not, Int.not_lt, Int.not_le, gt_iff_lt, ge_iff_le] at hc0
    have hno : validB c = false := validB_false (fun h => by obtain ⟨⟨a1, a2, a3, a4, a5, a6, a7⟩, _⟩ := h; unfold MAXV at a7; omega)
    refine W.seq ?_
    refine W.region _ ?_
    refine WG.run tab_ok 1 rfl ?_
    refine WG.nil ?_
    refine WE.nxt ?_
    refine W.ret ?_
    refine WE.then_ret ?_
    refine WE.subE (E' := E) qS ?_
    refine WE.retF tab_ok [_] rfl ⟨rfl, trivial⟩ (RLe.refl _) ?_
    exact ⟨by rw [hno]; rfl, rfl⟩
  · try simp only [decide_eq_true_eq, decide_eq_false_iff_not, beq_iff_eq, bne_iff_ne, beq_eq_false_iff_ne, bne_eq_false_iff_eq, ne_eq, Bool.or_eq_true, Bool.or_eq_false_iff, Bool.and_eq_true, Bool.and_eq_false_imp, Bool.not_eq_true, Bool.not_eq_true', Bool.not_eq_false', Classical.not_not, Int.not_lt, Int.not_le, gt_iff_lt, ge_iff_le] at hc0
    have hall : 1 ≤ c.vals.length ∧ c.vals.length ≤ 400 ∧ 1 ≤ c.per ∧ c.per ≤ 120 ∧ c.per ≤ c.vals.length ∧ 0 ≤ c.inc ∧ c.inc ≤ MAXV := by unfold MAXV; omega
    refine W.skip ?_
    refine WE.nxt ?_
    refine W.seq ?_
    refine W.region _ ?_
    refine WG.run tab_ok 1 rfl ?_
    refine WG.nil ?_
    refine WE.nxt ?_
    refine W.seq ?_
    refine W.seq ?_
    refine W.region _ ?_
    refine WG.run tab_ok 1 rfl ?_
    refine' WG.y rfl rfl (by decide) (Yl.load1 tab_ok rfl rfl rfl (fun _ => rfl) ?r7 rfl ?h7) ?_
    case r7 => apply Rd.add; (exact Rd.blk 0 rfl)
    case h7 => rfl
    refine WG.run tab_ok 2 rfl ?_
    refine WG.nil ?_
    refine WE.nxt ?_
    refine W.block ?_
    refine W.loopK (β := Nat) (fun t => t ≤ c.vals.length ∧ ∀ i, i < t → (nth c.vals i = INF ∨ (0 ≤ nth c.vals i ∧ nth c.vals i ≤ MAXV)) ∧ (i = 0 ∨ nth c.vals (i - 1) ≤ nth c.vals i)) (fun t => [(4, true, .int .i64 (lastV c.vals t)), (45, true, .int .i64 (t : Int))]) [1, 3, 43, 44] [_, _, _, _] [] _ rfl (fun t => []) (fun t => c.vals.length - t) (0) (⟨Nat.zero_le _, fun i hi => by omega⟩) ⟨rfl, rfl, rfl, rfl, rfl, rfl, rfl⟩ qS ?_
    intro t hst
    dsimp only [zipE, setAll, List.cons_append, List.nil_append, List.set_cons_zero, List.set_cons_succ] at hst ⊢
    have hlast : 0 ≤ lastV c.vals t ∧ (lastV c.vals t = INF ∨ lastV c.vals t ≤ MAXV) := by
      unfold lastV
      by_cases h : t = 0
      · rw [if_pos h]; exact ⟨Int.le_refl _, .inr (by decide)⟩
      · rw [if_neg h]
        have := (hst.2 (t - 1) (by omega)).1
        unfold INF MAXV at this ⊢
        omega
    refine W.seq ?_
    refine W.region _ ?_
    refine WG.run tab_ok 1 rfl ?_
    refine WG.nil ?_
    refine WE.nxt ?_
    refine W.seq ?_
    refine W.condD rfl (fun hc1 => ?_) (fun hc1 => ?_)
    · try dsimp only at hc1
      have htl : t < c.vals.length := by omega
      refine W.skip ?_
      refine WE.nxt ?_
      refine W.seq ?_
      refine W.block ?_
      refine W.seq ?_
      refine W.region _ ?_
      refine WG.y rfl rfl (by decide) (Yl.indexN tab_ok rfl rfl rfl rfl rfl rfl (fun _ => rfl) (by intro _; (try dsimp only) <;> omega) (by intro _; first | exact fun _ _ _ _ => rfl | exact RS.has (by assumption) | exact fun _ _ _ _ => (by assumption) | exact HasMem.ownD 0 rfl | exact HasMem.ownD 1 rfl)) ?_
      refine' WG.y rfl rfl (by decide) (Yl.load1 tab_ok rfl rfl rfl (fun _ => rfl) ?r8 rfl ?h8) ?_
      case r8 => ((apply RS.rdD; assumption; ((try dsimp only) <;> omega)))
      case h8 => rfl
      refine WG.run tab_ok 1 rfl ?_
      refine WG.nil ?_
      refine WE.nxt ?_
      refine W.seq ?_
      refine W.seq ?_
      refine W.region _ ?_
      refine WG.run tab_ok 4 rfl ?_
      refine WG.y rfl rfl (by decide) (pureV_ok tab_ok rfl qE) ?_
      refine WG.y rfl rfl (by decide) (pureV_ok tab_ok rfl qE) ?_
      refine WG.y rfl rfl (by decide) (pureV_ok tab_ok rfl qE) ?_
      refine WG.y rfl rfl (by decide) (pureV_ok tab_ok rfl qE) ?_
      refine WG.y rfl rfl (by decide) (pureV_ok tab_ok rfl qE) ?_
      refine WG.y rfl rfl (by decide) (Yl.pand rfl rfl rfl qE (by intro h1 h2; simp_all <;> omega)) ?_
      refine WG.y rfl rfl (by decide) (Yl.por rfl rfl rfl (fun _ => rfl) (by intro h1 h2; simp_all <;> omega)) ?_
      refine WG.nil ?_
      refine WE.nxt ?_
      refine W.cond rfl (fun hc2 => ?_) (fun hc2 => ?_)
      · try simp only [decide_eq_true_eq, decide_eq_false_iff_not, beq_iff_eq, bne_iff_ne, beq_eq_false_iff_ne, bne_eq_false_iff_eq, ne_eq, Bool.or_eq_true, Bool.or_eq_false_iff, Bool.and_eq_true, Bool.and_eq_false_imp, Bool.not_eq_true, Bool.not_eq_true', Bool.not_eq_false', Classical.not_not, Int.not_lt, Int.not_le, gt_iff_lt, ge_iff_le] at hc2
        have hno : validB c = false := validB_false (fun h => by
          have h2 := h.2.1 t htl
          unfold lastV at hc2
          unfold INF MAXV at h2
          rcases hc2 with x | x
          · split at x
            · omega
            · have := h2.2.resolve_left (by omega)
              omega
          · omega)
        refine W.seq ?_
        refine W.region _ ?_
        refine WG.run tab_ok 1 rfl ?_
        refine WG.nil ?_
        refine WE.nxt ?_
        refine W.ret ?_
        refine WE.then_ret ?_
        refine WE.blk_ret ?_
        refine WE.then_ret ?_
        refine WE.then_ret ?_
        refine WE.blk_ret ?_
        refine WE.then_ret ?_
        refine WE.subE (E' := E) qS ?_
        refine WE.retF tab_ok [_] rfl ⟨rfl, trivial⟩ (RLe.refl _) ?_
        exact ⟨by rw [hno]; rfl, rfl⟩
      · try simp only [decide_eq_true_eq, decide_eq_false_iff_not, beq_iff_eq, bne_iff_ne, beq_eq_false_iff_ne, bne_eq_false_iff_eq, ne_eq, Bool.or_eq_true, Bool.or_eq_false_iff, Bool.and_eq_true, Bool.and_eq_false_imp, Bool.not_eq_true, Bool.not_eq_true', Bool.not_eq_false', Classical.not_not, Int.not_lt, Int.not_le, gt_iff_lt, ge_iff_le] at hc2
        have hy : (nth c.vals t = INF ∨ (0 ≤ nth c.vals t ∧ nth c.vals t ≤ MAXV)) ∧ (t = 0 ∨ nth c.vals (t - 1) ≤ nth c.vals t) := by
          unfold INF MAXV
          have hle : lastV c.vals t ≤ nth c.vals t := by omega
          refine ⟨by omega, ?_⟩
          unfold lastV at hle
          by_cases h : t = 0
          · exact .inl h
          · rw [if_neg h] at hle; exact .inr hle
        refine W.skip ?_
        refine WE.nxt ?_
        refine W.region _ ?_
        refine WG.run tab_ok 2 rfl ?_
        refine WG.nil ?_
        refine WE.blk _ ?_
        refine WE.nxt ?_
        refine W.region _ ?_
        refine WG.y rfl rfl (by decide) (Yl.add rfl rfl rfl (fun _ => rfl) (by intro _; constructor <;> (try dsimp only) <;> omega)) ?_
        refine WG.run tab_ok 1 rfl ?_
        refine WG.nil ?_
        refine WE.again (t + 1) (⟨by omega, fun i hi => by
          by_cases e : i = t
          · subst e; exact hy
          · exact hst.2 i (by omega)⟩) (by (try dsimp only); omega) ⟨vint (lastV_succ _ _), rfl, rfl, rfl, rfl, rfl, rfl⟩ (RLe.refl _) qS
    · try dsimp only at hc1
      obtain rfl : t = c.vals.length := by omega
      obtain ⟨P, hP⟩ := Int.eq_ofNat_of_zero_le (show 0 ≤ c.per by omega)
      have hlv : lastV c.vals c.vals.length = nth c.vals (c.vals.length - 1) := if_neg (by omega)
      have e3 : ((c.vals.length : Int) - c.per).toNat = c.vals.length - c.per.toNat := by omega
      refine W.exit ?_
      refine WE.then_exit ?_
      refine WE.then_exit ?_
      refine WE.blk_exit ?_
      refine WE.nxt ?_
      refine W.seq ?_
      refine W.seq ?_
      refine W.region _ ?_
      refine WG.run tab_ok 2 rfl ?_
      refine WG.nil ?_
      refine WE.nxt ?_
      refine W.condE rfl (fun hc3 => ?_) (fun hc3 => ?_)
      · try dsimp only at hc3
        have hif : (if nth c.vals (c.vals.length - 1) = INF then c.per = 1 ∧ c.inc = 0 else nth c.vals (c.vals.length - 1) ≤ nth c.vals (c.vals.length - c.per.toNat) + c.inc) ↔ (c.per = 1 ∧ c.inc = 0) := by rw [if_pos (by rw [← hlv]; exact hc3)]
        refine W.seq ?_
        refine W.region _ ?_
        refine WG.run tab_ok 1 rfl ?_
        refine' WG.y rfl rfl (by decide) (Yl.load1 tab_ok rfl rfl rfl (fun _ => rfl) ?r9 rfl ?h9) ?_
        case r9 => apply Rd.add; (exact Rd.blk 0 rfl)
        case h9 => rfl
        refine WG.run tab_ok 2 rfl ?_
        refine WG.y rfl rfl (by decide) (pureV_ok tab_ok rfl qE) ?_
        refine' WG.y rfl rfl (by decide) (Yl.loadG tab_ok rfl rfl rfl qE ?r10 rfl ?h10 ?g10) ?_
        case r10 => apply Rd.addC; (exact Rd.blkC 0 rfl)
        case h10 => rfl
        case g10 => exact fun _ => trivial
        refine WG.y rfl rfl (by decide) (pureV_ok tab_ok rfl qE) ?_
        refine WG.y rfl rfl (by decide) (Yl.pand rfl rfl rfl (fun _ => rfl) (by intro h1 h2; simp_all <;> omega)) ?_
        refine WG.run tab_ok 1 rfl ?_
        refine WG.nil ?_
        refine WE.nxt ?_
        refine W.ret ?_
        refine WE.then_ret ?_
        refine WE.subE (E' := E) qS ?_
        refine WE.retF tab_ok [_] rfl ⟨rfl, trivial⟩ (RLe.refl _) ?_
        refine ⟨congrArg Value.bool ?_, rfl⟩
        rw [Bool.eq_iff_iff, validB_iff, hif]
        simp only [Bool.and_eq_true, beq_iff_eq]
        exact ⟨fun h => ⟨hall, fun j hj => hst.2 j hj, h⟩, fun h => h.2.2⟩
      · try dsimp only at hc3
        have hif : (if nth c.vals (c.vals.length - 1) = INF then c.per = 1 ∧ c.inc = 0 else nth c.vals (c.vals.length - 1) ≤ nth c.vals (c.vals.length - c.per.toNat) + c.inc) ↔ (nth c.vals (c.vals.length - 1) ≤ nth c.vals (c.vals.length - c.per.toNat) + c.inc) := by rw [if_neg (by rw [← hlv]; exact hc3)]
        have hx2 := (hst.2 (c.vals.length - c.per.toNat) (by omega)).1
        rw [← e3] at hx2
        unfold INF MAXV at hx2 hall
        refine W.skip ?_
        refine WE.nxt ?_
        refine W.seq ?_
        refine W.regionQ _ mixed (by kernel_rfl) ?_
        refine WG.run tab_ok 1 rfl ?_
        refine' WG.y rfl rfl (by decide) (Yl.load1 tab_ok rfl rfl rfl (fun _ => rfl) ?r11 rfl ?h11) ?_
        case r11 => apply Rd.add; (exact Rd.blk 0 rfl)
        case h11 => rfl
        refine WG.run tab_ok 2 rfl ?_
        refine' WG.y rfl rfl (by decide) (Yl.load1 tab_ok rfl rfl rfl (fun _ => rfl) ?r12 rfl ?h12) ?_
        case r12 => apply Rd.add; (exact Rd.blk 0 rfl)
        case h12 => rfl
        refine WG.y rfl rfl (by decide) (Yl.sub rfl rfl rfl (fun _ => rfl) (by intro _; constructor <;> (try dsimp only) <;> omega)) ?_
        refine WG.y rfl rfl (by decide) (Yl.index tab_ok rfl rfl rfl rfl rfl rfl (fun _ => rfl) (by intro _; constructor <;> (try dsimp only) <;> omega) (by intro _; first | exact fun _ _ _ _ => rfl | exact RS.has (by assumption) | exact fun _ _ _ _ => (by assumption) | exact HasMem.ownD 0 rfl | exact HasMem.ownD 1 rfl)) ?_
        refine' WG.y rfl rfl (by decide) (Yl.load1 tab_ok rfl rfl rfl (fun _ => rfl) ?r13 rfl ?h13) ?_
        case r13 => ((apply RS.rdD; assumption; ((try dsimp only) <;> omega)))
        case h13 => rfl
        refine WG.run tab_ok 1 rfl ?_
        refine' WG.y rfl rfl (by decide) (Yl.load1 tab_ok rfl rfl rfl (fun _ => rfl) ?r14 rfl ?h14) ?_
        case r14 => apply Rd.add; (exact Rd.blk 0 rfl)
        case h14 => rfl
        refine WG.y rfl rfl (by decide) (Yl.add rfl rfl rfl (fun _ => rfl) (by intro _; constructor <;> (try dsimp only) <;> omega)) ?_
        refine WG.run tab_ok 3 rfl ?_
        refine WG.nil ?_
        refine WE.nxt ?_
        refine W.ret ?_
        refine WE.subE (E' := E) qS ?_
        refine WE.retF tab_ok [_] rfl ⟨rfl, trivial⟩ (RLe.refl _) ?_
        refine ⟨congrArg Value.bool ?_, rfl⟩
        rw [Bool.eq_iff_iff, validB_iff, hif, e3, hlv]
        simp only [decide_eq_true_eq]
        exact ⟨fun h => ⟨by unfold MAXV; omega, fun j hj => hst.2 j hj, by omega⟩, fun h => by have := h.2.2; omega⟩

theorem NormG_V {R : Ro} {fa : Option Addr} {fc : Nat} {c : Cv} (hv : validB c = true) (ha : RS R 1 encI fa c.vals) {b1 : Nat} (h1 : R b1 = some [.slice fa c.vals.length fc, .int .i64 c.per, .int .i64 c.inc]) {t : Nat} (ht : t ≤ 1000000) : FnV Try.prog 107 [.int .i64 (t : Int), .pointer (some ⟨b1, 0, none⟩)] R (.int .i64 (cvF c t)) := by
  refine Fn.toV (fun w0 E => ?_)
  refine Fn.enter (n := 7) Try.func107 rfl rfl (Nat.le_of_ble_eq_true rfl) rfl ?_
  refine W.seq ?_
  refine W.region _ ?_
  refine WG.run tab_ok 1 rfl ?_
  refine WG.nil ?_
  refine WE.nxt ?_
  refine W.seq ?_
  refine W.region _ ?_
  refine' WG.y rfl rfl (by decide) (Yl.load1 tab_ok rfl rfl rfl (fun _ => rfl) ?r1 rfl ?h1) ?_
  case r1 => (exact Rd.ro (by assumption))
  case h1 => rfl
  refine WG.run tab_ok 1 rfl ?_
  refine WG.callV en68 rfl rfl (by decide) (CallOp.mk' rfl rfl rfl rfl) (fun _ => rfl) (fun hg => WAtG_V hv ha (by omega)) ?_
  refine WG.run tab_ok 1 rfl ?_
  refine WG.nil ?_
  refine WE.nxt ?_
  refine W.ret ?_
  refine WE.subE (E' := E) qS ?_
  refine WE.retF tab_ok [_] rfl ⟨rfl, trivial⟩ (RLe.refl _) ?_
  exact ⟨rfl, rfl⟩

theorem CNormalG_C {R : Ro} {fa : Option Addr} {fc : Nat} {c : Cv} (ha : RS R 1 encI fa c.vals) (hl : c.vals.length ≤ 100000) (w0 : World) (E : List Ent) : K.Fn Try.prog 52 [.agg #[.slice fa c.vals.length fc, .int .i64 c.per, .int .i64 c.inc]] w0 R E (fun r R' E' => ∃ (f : Option Addr) (fc : Nat), r = cvV f fc (normC c) ∧ RS R' 1 encI f (normC c).1.vals ∧ E.Sublist E') := by
  refine Fn.enter (n := 22) Try.func52 rfl rfl (Nat.le_of_ble_eq_true rfl) rfl ?_
  refine W.seq ?_
  refine W.region _ ?_
  refine WL.ef rfl rfl (by decide) (Ef.box rfl rfl (fun b1 => ?_))
  refine WL.ef rfl rfl (by decide) (Ef.alloc tab_ok rfl rfl (fun b2 => ?_))
  refine WG.run tab_ok 1 rfl ?_
  refine WG.nil ?_
  refine WE.nxt ?_
  refine W.seq ?_
  refine W.seq ?_
  refine W.region _ ?_
  refine' WG.y rfl rfl (by decide) (Yl.load1 tab_ok rfl rfl rfl (fun _ => rfl) ?r1 rfl ?h1) ?_
  case r1 => (exact Rd.blk 1 rfl)
  case h1 => rfl
  refine WG.callV en67 rfl rfl (by decide) (CallOp.mk' rfl rfl rfl rfl) (fun _ => rfl) (fun hg => CValidG_V ha hl) ?_
  refine WG.run tab_ok 1 rfl ?_
  refine WG.nil ?_
  refine WE.nxt ?_
  refine W.cond rfl (fun hc0 => ?_) (fun hc0 => ?_)
  · try simp only [decide_eq_true_eq, decide_eq_false_iff_not, beq_iff_eq, bne_iff_ne, beq_eq_false_iff_ne, bne_eq_false_iff_eq, ne_eq, Bool.or_eq_true, Bool.or_eq_false_iff, Bool.and_eq_true, Bool.and_eq_false_imp, Bool.not_eq_true, Bool.not_eq_true', Bool.not_eq_false', Classical.not_not, Int.not_lt, Int.not_le, gt_iff_lt, ge_iff_le] at hc0
    have hn : normC c = (zcv, 1) := if_neg (by simp [hc0])
    refine W.seq ?_
    refine W.region _ ?_
    -- build
    refine WG.y rfl rfl (by decide) (Yl.build (parts := []) tab_ok rfl rfl rfl rfl (fun _ => rfl) rfl rfl) ?_
    refine WL.efN rfl rfl (Ef.store0 0 tab_ok rfl rfl rfl rfl rfl rfl rfl rfl ?_)
    refine WG.run tab_ok 1 rfl ?_
    refine WG.nil ?_
    refine WE.nxt ?_
    refine W.ret ?_
    refine WE.then_ret ?_
    refine WE.retF tab_ok [_, _] rfl ⟨⟨_, _, _, rfl, rfl, rfl, ((by first | exact Rd.blk 0 rfl | exact Rd.blk 1 rfl | exact Rd.blk 2 rfl | exact Rd.blk 3 rfl)), rfl⟩, rfl, trivial⟩ ((by first | exact hR1.trans (hR2.trans hR4) | exact RLe.refl _)) ?_
    exact ⟨none, 0, by rw [hn]; rfl, by rw [hn]; exact rs_nil, qS⟩
  · try simp only [decide_eq_true_eq, decide_eq_false_iff_not, beq_iff_eq, bne_iff_ne, beq_eq_false_iff_ne, bne_eq_false_iff_eq, ne_eq, Bool.or_eq_true, Bool.or_eq_false_iff, Bool.and_eq_true, Bool.and_eq_false_imp, Bool.not_eq_true, Bool.not_eq_true', Bool.not_eq_false', Classical.not_not, Int.not_lt, Int.not_le, gt_iff_lt, ge_iff_le] at hc0
    have hv : validB c = true := by simpa using hc0
    have hn : normC c = (normR c, 0) := if_pos hv
    obtain ⟨hr1, hr2, hr3, hr4, hr5, hr6, hr7, hr8⟩ := valid_range hv
    have hst := stN_lt hv
    refine W.skip ?_
    refine WE.nxt ?_
    refine W.seq ?_
    refine W.region _ ?_
    refine WG.run tab_ok 1 rfl ?_
    refine' WG.y rfl rfl (by decide) (Yl.load1 tab_ok rfl rfl rfl (fun _ => rfl) ?r2 rfl ?h2) ?_
    case r2 => apply Rd.add; (exact Rd.blk 1 rfl)
    case h2 => rfl
    refine WL.call en106 rfl rfl (by decide) (CallOp.mkT rfl rfl rfl rfl) (CloneI_C ha (by omega) (by omega) w0 _) ?_
    rintro _ _ E2 - ⟨a2, c2, rfl, rfl, hsub⟩
    refine WL.subE hsub ?_
    refine WG.run tab_ok 1 rfl ?_
    refine WL.efN rfl rfl (Ef.store 2 tab_ok rfl rfl rfl rfl rfl rfl rfl rfl ?_)
    refine WG.nil ?_
    refine WE.nxt ?_
    refine W.freeze (enc := encI) (xs := c.vals) 0 rfl ?_
    intro R1 hR1 ha1
    refine W.freezeBlk 1 rfl ?_
    intro R2 hR2 hb1
    have ha2 := ha1.mono hR2
    have hperI : ((c.per.toNat : Nat) : Int) = c.per := by omega
    have hF : ∀ t : Nat, t < stN c + c.per.toNat → FnV Try.prog 107 ((#[] : Array Value).toList ++ [.int .i64 (t : Int)] ++ (#[.pointer (some ⟨b1, 0, none⟩)] : Array Value).toList) R2 (.int .i64 (cvF c t)) := fun t ht => NormG_V hv ha2 hb1 (by omega)
    refine W.seq ?_
    refine W.regionH _ (ES := []) mixed ?_
    refine WA.take 0 rfl (by kernel_rfl) (by kernel_rfl) (by kernel_rfl) rfl rfl (by decide) (Yl.makeFunc (fi := []) (ca := [.tmp 1]) rfl rfl rfl (fun _ => rfl)) qS (by first | exact RLe.refl _ | assumption) ?_
    refine' WA.take 1 rfl (by kernel_rfl) (by kernel_rfl) (by kernel_rfl) rfl rfl (by decide) (Yl.load1 tab_ok rfl rfl rfl (fun _ => rfl) ?r3 rfl ?h3) qS (by first | exact RLe.refl _ | assumption) ?_
    case r3 => (exact Rd.ro (by assumption))
    case h3 => rfl
    refine WA.take 3 rfl (by kernel_rfl) (by kernel_rfl) (by kernel_rfl) rfl rfl (by decide) (pureV_ok tab_ok rfl (fun _ => rfl)) qS (by first | exact RLe.refl _ | assumption) ?_
    refine' WA.take 4 rfl (by kernel_rfl) (by kernel_rfl) (by kernel_rfl) rfl rfl (by decide) (Yl.load1 tab_ok rfl rfl rfl (fun _ => rfl) ?r4 rfl ?h4) qS (by first | exact RLe.refl _ | assumption) ?_
    case r4 => apply Rd.add; (exact Rd.ro (by assumption))
    case h4 => rfl
    refine WA.take 5 rfl (by kernel_rfl) (by kernel_rfl) (by kernel_rfl) rfl rfl (by decide) (pureV_ok tab_ok rfl (fun _ => rfl)) qS (by first | exact RLe.refl _ | assumption) ?_
    refine' WA.take 6 rfl (by kernel_rfl) (by kernel_rfl) (by kernel_rfl) rfl rfl (by decide) (Yl.load1 tab_ok rfl rfl rfl (fun _ => rfl) ?r5 rfl ?h5) qS (by first | exact RLe.refl _ | assumption) ?_
    case r5 => apply Rd.add; (exact Rd.ro (by assumption))
    case h5 => rfl
    refine WA.callG 2 rfl (by kernel_rfl) en55 rfl (by first | rfl | decide) rfl (by decide) (CallOp.mkT rfl rfl rfl rfl) ((WStartG_V hv ha2).toFn) ?_
    rintro _ _ _ - ⟨rfl, rfl, rfl⟩
    refine ⟨by first | exact RLe.refl _ | assumption, qS, ?_⟩
    refine WA.callG 7 rfl (by kernel_rfl) en60 rfl (by first | rfl | decide) rfl (by decide) (CallOp.mkT rfl rfl rfl rfl) (hperI ▸ Build_C (S := stN c) (P := c.per.toNat) (F := cvF c) en107 (by omega) (by omega) (by omega) (fun t ht => (cvF_bound hv t).2.imp id (fun h => ⟨(cvF_bound hv t).1, by omega⟩)) hF w0 _) ?_
    rintro _ R4 E4 hR4 ⟨f, fc', rfl, hff, hsub⟩
    refine ⟨hR4, List.nil_sublist _, ?_⟩
    refine WA.subE hsub ?_
    rw [norm_build hv] at hff ⊢
    unfold cvV
    refine WA.take 8 rfl (by kernel_rfl) (by kernel_rfl) (by kernel_rfl) rfl rfl (by decide) (pureV_ok tab_ok rfl (fun _ => rfl)) qS (by first | exact RLe.refl _ | assumption) ?_
    refine WA.take 9 rfl (by kernel_rfl) (by kernel_rfl) (by kernel_rfl) rfl rfl (by decide) (pureV_ok tab_ok rfl (fun _ => rfl)) qS (by first | exact RLe.refl _ | assumption) ?_
    refine WA.effN 10 rfl (by kernel_rfl) rfl rfl (Ef.store0 0 tab_ok rfl rfl rfl rfl rfl rfl rfl rfl ?_)
    refine ⟨by first | exact RLe.refl _ | assumption, qS, ?_⟩
    refine WA.take 11 rfl (by kernel_rfl) (by kernel_rfl) (by kernel_rfl) rfl rfl (by decide) (pureV_ok tab_ok rfl (fun _ => rfl)) qS (by first | exact RLe.refl _ | assumption) ?_
    refine WA.done (by kernel_rfl) ?_
    refine WE.nxt ?_
    refine W.ret ?_
    refine WE.retF tab_ok [_, _] rfl ⟨⟨_, _, _, rfl, rfl, rfl, ((by first | exact Rd.blk 0 rfl | exact Rd.blk 1 rfl | exact Rd.blk 2 rfl | exact Rd.blk 3 rfl)), rfl⟩, rfl, trivial⟩ ((by first | exact hR1.trans (hR2.trans hR4) | exact RLe.refl _)) ?_
    exact ⟨f, fc', by rw [hn]; rfl, by rw [hn]; exact hff, qS⟩

theorem CNormalV_C {R : Ro} {fa : Option Addr} {fc : Nat} {c : Cv} (hv : validB c = true) (ha : RS R 1 encI fa c.vals) (w0 : World) (E : List Ent) : K.Fn Try.prog 52 [.agg #[.slice fa c.vals.length fc, .int .i64 c.per, .int .i64 c.inc]] w0 R E (fun r R' E' => ∃ (f : Option Addr) (fc : Nat), r = cvV f fc (normR c, 0) ∧ RS R' 1 encI f ((normR c, (0 : Int))).1.vals ∧ E.Sublist E') := by
  have h := CNormalG_C (fc := fc) ha (by have := valid_range hv; omega) w0 E
  rw [show normC c = (normR c, 0) from if_pos hv] at h
  exact h

end Go.Proofs.Ytolmmfphdieilaa

/- Sums of curves. No condition. -/
set_option linter.unusedSimpArgs false
set_option linter.unusedVariables false
namespace Go.Proofs.Ytolmmfphdieilaa
open Go Go.RowKit Go.Proofs.Ytolmmfphdieilaa.K Go.Proofs.Ytolmmfphdieilaa.M

end Go.Proofs.Ytolmmfphdieilaa

/- Curves raised, totals. No condition. -/
set_option linter.unusedSimpArgs false
set_option linter.unusedVariables false
namespace Go.Proofs.Ytolmmfphdieilaa
open Go Go.RowKit Go.Proofs.Ytolmmfphdieilaa.K Go.Proofs.Ytolmmfphdieilaa.M

theorem FlatF_V {R : Ro} {b1 : Nat} {k : Int} (h1 : R b1 = some [.int .i64 k]) (hk : 0 ≤ k ∧ k ≤ 1073741824) {t : Nat} (ht : t ≤ 1000000) : FnV Try.prog 108 [.int .i64 (t : Int), .pointer (some ⟨b1, 0, none⟩)] R (.int .i64 (flatF k t)) := by
  refine Fn.toV (fun w0 E => ?_)
  have hfl : k * (if (1 : Int) < (t : Int) then (1 : Int) else (t : Int)) = flatF k t := by
    unfold flatF
    by_cases h : t = 0
    · subst h; simp
    · rw [if_neg h, show (if (1 : Int) < (t : Int) then (1 : Int) else (t : Int)) = 1 by split <;> omega, Int.mul_one]
  have hfb : 0 ≤ flatF k t ∧ flatF k t ≤ 1073741824 := by unfold flatF; split <;> omega
  refine Fn.enter (n := 8) Try.func108 rfl rfl (Nat.le_of_ble_eq_true rfl) rfl ?_
  refine W.seq ?_
  refine W.region _ ?_
  refine WG.run tab_ok 1 rfl ?_
  refine WG.nil ?_
  refine WE.nxt ?_
  refine W.seq ?_
  refine W.region _ ?_
  refine' WG.y rfl rfl (by decide) (Yl.load1 tab_ok rfl rfl rfl (fun _ => rfl) ?r1 rfl ?h1) ?_
  case r1 => exact Rd.ro h1
  case h1 => rfl
  refine WG.run tab_ok 2 rfl ?_
  refine WG.y rfl rfl (by decide) (Yl.mul rfl rfl rfl (fun _ => rfl) (by intro _; constructor <;> (try dsimp only) <;> omega)) ?_
  refine WG.run tab_ok 1 rfl ?_
  refine WG.nil ?_
  refine WE.nxt ?_
  refine W.ret ?_
  refine WE.subE (E' := E) qS ?_
  refine WE.retF tab_ok [_] rfl ⟨rfl, trivial⟩ (RLe.refl _) ?_
  exact ⟨by rw [← hfl]; rfl, rfl⟩

theorem CFlat_C {R : Ro} {k : Int} (hk : 0 ≤ k ∧ k ≤ 1073741824) (w0 : World) (E : List Ent) : K.Fn Try.prog 58 [.int .i64 k] w0 R E (fun r R' E' => ∃ (f : Option Addr) (fc : Nat), r = cvV f fc (flatC k) ∧ RS R' 1 encI f (flatC k).1.vals ∧ E.Sublist E') := by
  have hd : flatC k = mbuild (flatF k) 1 1 0 := rfl
  refine Fn.enter (n := 14) Try.func58 rfl rfl (Nat.le_of_ble_eq_true rfl) rfl ?_
  refine W.seq ?_
  refine W.region _ ?_
  refine WL.ef rfl rfl (by decide) (Ef.box rfl rfl (fun b1 => ?_))
  refine WL.ef rfl rfl (by decide) (Ef.alloc tab_ok rfl rfl (fun b2 => ?_))
  refine WG.run tab_ok 1 rfl ?_
  refine WG.nil ?_
  refine WE.nxt ?_
  refine W.seq ?_
  refine W.seq ?_
  refine W.region _ ?_
  refine' WG.y rfl rfl (by decide) (Yl.load1 tab_ok rfl rfl rfl (fun _ => rfl) ?r1 rfl ?h1) ?_
  case r1 => (exact Rd.blk 1 rfl)
  case h1 => rfl
  refine WG.run tab_ok 1 rfl ?_
  refine WG.nil ?_
  refine WE.nxt ?_
  refine W.condD rfl (fun hc0 => ?_) (fun hc0 => ?_)
  · try dsimp only at hc0
    omega
  · try dsimp only at hc0
    refine W.skip ?_
    refine WE.nxt ?_
    refine W.seq ?_
    refine W.seq ?_
    refine W.region _ ?_
    refine' WG.y rfl rfl (by decide) (Yl.load1 tab_ok rfl rfl rfl (fun _ => rfl) ?r2 rfl ?h2) ?_
    case r2 => (exact Rd.blk 1 rfl)
    case h2 => rfl
    refine WG.run tab_ok 1 rfl ?_
    refine WG.nil ?_
    refine WE.nxt ?_
    refine W.condD rfl (fun hc1 => ?_) (fun hc1 => ?_)
    · try dsimp only at hc1
      omega
    · try dsimp only at hc1
      refine W.skip ?_
      refine WE.nxt ?_
      refine W.freezeBlk 1 rfl ?_
      intro R2 hR2 h1
      have hF : ∀ t : Nat, t < 1 + 1 → FnV Try.prog 108 ((#[] : Array Value).toList ++ [.int .i64 (t : Int)] ++ (#[.pointer (some ⟨b1, 0, none⟩)] : Array Value).toList) R2 (.int .i64 (flatF k t)) := fun t ht => FlatF_V h1 hk (by omega)
      refine W.seq ?_
      refine W.region _ ?_
      refine WG.run tab_ok 1 rfl ?_
      refine WL.call en60 rfl rfl (by decide) (CallOp.mkT rfl rfl rfl rfl) (Build_C (S := 1) (P := 1) (F := flatF k) en108 (by omega) (by omega) (by omega) (fun t ht => .inr (flatF_bound hk t)) hF w0 _) ?_
      rintro _ R4 E4 hR4 ⟨fr, frc, rfl, hfr, hsub⟩
      refine WL.subE hsub ?_
      rw [← hd] at hfr ⊢
      unfold cvV
      refine WG.run tab_ok 2 rfl ?_
      refine WL.efN rfl rfl (Ef.store0 0 tab_ok rfl rfl rfl rfl rfl rfl rfl rfl ?_)
      refine WG.run tab_ok 1 rfl ?_
      refine WG.nil ?_
      refine WE.nxt ?_
      refine W.ret ?_
      refine WE.retF tab_ok [_, _] rfl ⟨⟨_, _, _, rfl, rfl, rfl, ((by first | exact Rd.blk 0 rfl | exact Rd.blk 1 rfl | exact Rd.blk 2 rfl | exact Rd.blk 3 rfl)), rfl⟩, rfl, trivial⟩ (hR2.trans hR4) ?_
      exact ⟨fr, frc, rfl, hfr, qS⟩

end Go.Proofs.Ytolmmfphdieilaa

/- The share: differences and their least. No condition. -/
set_option linter.unusedSimpArgs false
set_option linter.unusedVariables false
namespace Go.Proofs.Ytolmmfphdieilaa
open Go Go.RowKit Go.Proofs.Ytolmmfphdieilaa.K Go.Proofs.Ytolmmfphdieilaa.M

theorem GapRawG_V {R : Ro} {a1 : Option Addr} {c1 : Nat} {m1 : Cv} (hv1 : validB m1 = true) (hx1 : RS R 1 encI a1 m1.vals) {a2 : Option Addr} {c2 : Nat} {m2 : Cv} (hv2 : validB m2 = true) (hx2 : RS R 1 encI a2 m2.vals) {th u : Nat} (hu : th ≤ u ∧ u ≤ 4000000) : FnV Try.prog 59 [.agg #[.slice a1 m1.vals.length c1, .int .i64 m1.per, .int .i64 m1.inc, .slice a2 m2.vals.length c2, .int .i64 m2.per, .int .i64 m2.inc, .int .i64 (th : Int)], .int .i64 (u : Int)] R (.int .i64 (rawG m1 m2 th u)) := by
  refine Fn.toV (fun w0 E => ?_)
  have i1 := isInf_iff hv1 (t := u) (by omega)
  have i2 := isInf_iff hv2 (t := u - th) (by omega)
  have b1 := cvF_bound hv1 u
  have b2 := cvF_bound hv2 (u - th)
  unfold INF at i1 i2 b1 b2
  refine Fn.enter (n := 28) Try.func59 rfl rfl (Nat.le_of_ble_eq_true rfl) rfl ?_
  refine W.seq ?_
  refine W.region _ ?_
  refine WL.ef rfl rfl (by decide) (Ef.box rfl rfl (fun b2 => ?_))
  refine WG.run tab_ok 1 rfl ?_
  refine WG.nil ?_
  refine WE.nxt ?_
  refine W.seq ?_
  refine W.regionQ _ mixed (by kernel_rfl) ?_
  refine WG.run tab_ok 1 rfl ?_
  refine' WG.y rfl rfl (by decide) (Yl.load1 tab_ok rfl rfl rfl (fun _ => rfl) ?r1 rfl ?h1) ?_
  case r1 => apply Rd.add; (exact Rd.blk 0 rfl)
  case h1 => rfl
  refine WG.run tab_ok 1 rfl ?_
  refine WG.callV (v := .int .i64 (cvF m1 u)) en68 rfl rfl (by decide) (CallOp.mk' rfl rfl rfl rfl) (fun _ => rfl) (fun hg => WAtG_V hv1 hx1 (t := u) (by omega)) ?_
  refine WG.run tab_ok 1 rfl ?_
  refine' WG.y rfl rfl (by decide) (Yl.load1 tab_ok rfl rfl rfl (fun _ => rfl) ?r2 rfl ?h2) ?_
  case r2 => apply Rd.add; (exact Rd.blk 0 rfl)
  case h2 => rfl
  refine WG.run tab_ok 2 rfl ?_
  refine' WG.y rfl rfl (by decide) (Yl.load1 tab_ok rfl rfl rfl (fun _ => rfl) ?r3 rfl ?h3) ?_
  case r3 => apply Rd.add; (exact Rd.blk 0 rfl)
  case h3 => rfl
  refine WG.y rfl rfl (by decide) (Yl.sub rfl rfl rfl (fun _ => rfl) (by intro _; constructor <;> (try dsimp only) <;> omega)) ?_
  refine WG.callV (v := .int .i64 (cvF m2 (u - th))) en68 rfl rfl (by decide) (CallOp.mk' rfl rfl rfl rfl) (fun _ => rfl) (fun hg => by
    have h := WAtG_V (fc := c2) (t := u - th) hv2 hx2 (by omega)
    rw [show ((u - th : Nat) : Int) = (u : Int) - (th : Int) by omega] at h
    exact h) ?_
  refine WG.run tab_ok 2 rfl ?_
  refine WG.nil ?_
  refine WE.nxt ?_
  refine W.seq ?_
  refine W.block ?_
  refine W.seq ?_
  refine W.region _ ?_
  refine WG.run tab_ok 3 rfl ?_
  refine WG.nil ?_
  refine WE.nxt ?_
  refine W.condE rfl (fun hc0 => ?_) (fun hc0 => ?_)
  · try dsimp only at hc0
    have hr : rawG m1 m2 th u = 0 := if_pos (i2.2 hc0)
    refine W.seq ?_
    refine W.region _ ?_
    refine WG.run tab_ok 1 rfl ?_
    refine WG.nil ?_
    refine WE.nxt ?_
    refine W.ret ?_
    refine WE.blk_ret ?_
    refine WE.then_ret ?_
    refine WE.subE (E' := E) qS ?_
    refine WE.retF tab_ok [_] rfl ⟨rfl, trivial⟩ (RLe.refl _) ?_
    exact ⟨by rw [hr]; rfl, rfl⟩
  · try dsimp only at hc0
    have hr0 : ¬ isInf m2 (u - th) := fun h => hc0 (i2.1 h)
    refine W.seq ?_
    refine W.region _ ?_
    refine WG.run tab_ok 3 rfl ?_
    refine WG.nil ?_
    refine WE.nxt ?_
    refine W.condE rfl (fun hc1 => ?_) (fun hc1 => ?_)
    · try dsimp only at hc1
      have hr : rawG m1 m2 th u = cvF m1 u := by unfold rawG; rw [if_neg hr0, if_pos (i1.2 hc1), hc1]; rfl
      refine W.seq ?_
      refine W.region _ ?_
      refine WG.run tab_ok 2 rfl ?_
      refine WG.nil ?_
      refine WE.nxt ?_
      refine W.ret ?_
      refine WE.blk_ret ?_
      refine WE.then_ret ?_
      refine WE.subE (E' := E) qS ?_
      refine WE.retF tab_ok [_] rfl ⟨rfl, trivial⟩ (RLe.refl _) ?_
      exact ⟨by rw [hr]; rfl, rfl⟩
    · try dsimp only at hc1
      have hr : rawG m1 m2 th u = cvF m1 u - cvF m2 (u - th) := by unfold rawG; rw [if_neg hr0, if_neg (fun h => hc1 (i1.1 h))]
      refine W.skip ?_
      refine WE.blk _ ?_
      refine WE.nxt ?_
      refine W.seq ?_
      refine W.region _ ?_
      refine WG.run tab_ok 2 rfl ?_
      refine WG.y rfl rfl (by decide) (Yl.sub rfl rfl rfl (fun _ => rfl) (by intro _; constructor <;> (try dsimp only) <;> omega)) ?_
      refine WG.run tab_ok 1 rfl ?_
      refine WG.nil ?_
      refine WE.nxt ?_
      refine W.ret ?_
      refine WE.subE (E' := E) qS ?_
      refine WE.retF tab_ok [_] rfl ⟨rfl, trivial⟩ (RLe.refl _) ?_
      exact ⟨by rw [hr]; rfl, rfl⟩

theorem GapLeastG_V {R : Ro} {a1 : Option Addr} {c1 : Nat} {m1 : Cv} (hv1 : validB m1 = true) (hx1 : RS R 1 encI a1 m1.vals) {a2 : Option Addr} {c2 : Nat} {m2 : Cv} (hv2 : validB m2 = true) (hx2 : RS R 1 encI a2 m2.vals) {th a n : Nat} (hu : th ≤ a ∧ a + n ≤ 4000000) : FnV Try.prog 56 [.agg #[.slice a1 m1.vals.length c1, .int .i64 m1.per, .int .i64 m1.inc, .slice a2 m2.vals.length c2, .int .i64 m2.per, .int .i64 m2.inc, .int .i64 (th : Int)], .int .i64 (a : Int), .int .i64 (n : Int)] R (.int .i64 (leastG (rawG m1 m2 th) a n)) := by
  refine Fn.toV (fun w0 E => ?_)
  refine Fn.enter (n := 23) Try.func56 rfl rfl (Nat.le_of_ble_eq_true rfl) rfl ?_
  refine W.seq ?_
  refine W.region _ ?_
  refine WL.ef rfl rfl (by decide) (Ef.box rfl rfl (fun b3 => ?_))
  refine WG.run tab_ok 1 rfl ?_
  refine WG.nil ?_
  refine WE.nxt ?_
  refine W.seq ?_
  refine W.region _ ?_
  refine WG.run tab_ok 1 rfl ?_
  refine WG.nil ?_
  refine WE.nxt ?_
  refine W.seq ?_
  refine W.seq ?_
  refine W.region _ ?_
  refine WG.run tab_ok 2 rfl ?_
  refine WG.nil ?_
  refine WE.nxt ?_
  refine W.block ?_
  refine W.loopK (β := Nat × Int) (fun (k, m) => k ≤ n ∧ m = leastG (rawG m1 m2 th) a k) (fun (k, m) => [(7, true, .int .i64 m), (8, true, .int .i64 ((a + k : Nat) : Int))]) [1, 2, 3] [_, _, _] [] _ rfl (fun (k, m) => []) (fun (k, m) => n - k) ((0, 4611686018427387904)) (⟨Nat.zero_le _, rfl⟩) ⟨rfl, rfl, rfl, rfl, rfl, rfl⟩ qS ?_
  intro zz hst
  obtain ⟨k, m⟩ := zz
  dsimp only [zipE, setAll, List.cons_append, List.nil_append, List.set_cons_zero, List.set_cons_succ] at hst ⊢
  obtain ⟨hk, hm⟩ := hst
  refine W.seq ?_
  refine W.seq ?_
  refine W.region _ ?_
  refine WG.run tab_ok 3 rfl ?_
  refine WG.y rfl rfl (by decide) (Yl.add rfl rfl rfl (fun _ => rfl) (by intro _; constructor <;> (try dsimp only) <;> omega)) ?_
  refine WG.run tab_ok 1 rfl ?_
  refine WG.nil ?_
  refine WE.nxt ?_
  refine W.condD rfl (fun hc0 => ?_) (fun hc0 => ?_)
  · try dsimp only at hc0
    have hkn : k < n := by omega
    refine W.skip ?_
    refine WE.nxt ?_
    refine W.seq ?_
    refine W.block ?_
    refine W.region _ ?_
    refine WG.run tab_ok 1 rfl ?_
    refine' WG.y rfl rfl (by decide) (Yl.load1 tab_ok rfl rfl rfl (fun _ => rfl) ?r1 rfl ?h1) ?_
    case r1 => (exact Rd.blk 0 rfl)
    case h1 => rfl
    refine WG.run tab_ok 1 rfl ?_
    refine WG.callV (v := .int .i64 (rawG m1 m2 th (a + k))) en59 rfl rfl (by decide) (CallOp.mk' rfl rfl rfl rfl) (fun _ => rfl) (fun hg => GapRawG_V (u := a + k) hv1 hx1 hv2 hx2 (by omega)) ?_
    refine WG.run tab_ok 2 rfl ?_
    refine WG.nil ?_
    refine WE.blk _ ?_
    refine WE.nxt ?_
    refine W.region _ ?_
    refine WG.run tab_ok 1 rfl ?_
    refine WG.y rfl rfl (by decide) (Yl.add rfl rfl rfl (fun _ => rfl) (by intro _; constructor <;> (try dsimp only) <;> omega)) ?_
    refine WG.run tab_ok 1 rfl ?_
    refine WG.nil ?_
    generalize hrr : rawG m1 m2 th (a + k) = rr
    try rw [show (if m < rr then rr else m) = min m rr by split <;> omega]
    try rw [show (if rr < m then rr else m) = min m rr by split <;> omega]
    rw [← hrr]
    rw [show ((a + k : Nat) : Int) + 1 = ((a + (k + 1) : Nat) : Int) by omega]
    refine WE.again ((k + 1, min m (rawG m1 m2 th (a + k)))) (⟨by dsimp only; omega, by dsimp only; rw [hm]; rfl⟩) (by (try dsimp only); omega) ⟨rfl, rfl, rfl, rfl, rfl, rfl⟩ (RLe.refl _) qS
  · try dsimp only at hc0
    obtain rfl : k = n := by omega
    refine W.exit ?_
    refine WE.then_exit ?_
    refine WE.then_exit ?_
    refine WE.blk_exit ?_
    refine WE.nxt ?_
    refine W.seq ?_
    refine W.region _ ?_
    refine WG.run tab_ok 2 rfl ?_
    refine WG.nil ?_
    refine WE.nxt ?_
    refine W.ret ?_
    refine WE.subE (E' := E) qS ?_
    refine WE.retF tab_ok [_] rfl ⟨rfl, trivial⟩ (RLe.refl _) ?_
    exact ⟨by rw [hm]; rfl, rfl⟩

theorem RestFG_V {R : Ro} {b11 : Nat} {a : Option Addr} {c : Nat} {xs : List Int} (h11 : R b11 = some [.slice a xs.length c]) (hx : RS R 1 encI a xs) {t : Nat} (ht : t < xs.length) : FnV Try.prog 61 [.int .i64 (t : Int), .pointer (some ⟨b11, 0, none⟩)] R (.int .i64 (nth xs t)) := by
  refine Fn.toV (fun w0 E => ?_)
  have hla := hx.len
  refine Fn.enter (n := 8) Try.func61 rfl rfl (Nat.le_of_ble_eq_true rfl) rfl ?_
  refine W.seq ?_
  refine W.region _ ?_
  refine WG.run tab_ok 1 rfl ?_
  refine WG.nil ?_
  refine WE.nxt ?_
  refine W.seq ?_
  refine W.region _ ?_
  refine' WG.y rfl rfl (by decide) (Yl.load1 tab_ok rfl rfl rfl (fun _ => rfl) ?r1 rfl ?h1) ?_
  case r1 => exact Rd.ro h11
  case h1 => rfl
  refine WG.run tab_ok 1 rfl ?_
  refine WG.y rfl rfl (by decide) (Yl.indexN tab_ok rfl rfl rfl rfl rfl rfl (fun _ => rfl) (by intro _; (try dsimp only) <;> omega) (by intro _; first | exact fun _ _ _ _ => rfl | exact RS.has (by assumption) | exact fun _ _ _ _ => (by assumption) | exact HasMem.ownD 0 rfl | exact HasMem.ownD 1 rfl)) ?_
  refine' WG.y rfl rfl (by decide) (Yl.load1 tab_ok rfl rfl rfl (fun _ => rfl) ?r2 rfl ?h2) ?_
  case r2 => ((apply RS.rdD; assumption; ((try dsimp only) <;> omega)))
  case h2 => rfl
  refine WG.run tab_ok 1 rfl ?_
  refine WG.nil ?_
  refine WE.nxt ?_
  refine W.ret ?_
  refine WE.subE (E' := E) qS ?_
  refine WE.retF tab_ok [_] rfl ⟨rfl, trivial⟩ (RLe.refl _) ?_
  exact ⟨rfl, rfl⟩

theorem CommonC_V {R : Ro} {m1 m2 : Cv} (hv1 : validB m1 = true) (hv2 : validB m2 = true) : FnV Try.prog 53 [.int .i64 m1.per, .int .i64 m2.per] R (.int .i64 (lcmC m1 m2 : Int)) := by
  obtain ⟨_, _, _, p1, p2, _⟩ := valid_range hv1
  obtain ⟨_, _, _, q1, q2, _⟩ := valid_range hv2
  have h := Common_V (R := R) (a := m1.per.toNat) (b := m2.per.toNat) (by omega) (by omega)
  rw [Int.toNat_of_nonneg (by omega), Int.toNat_of_nonneg (by omega)] at h
  exact h
theorem lcmC_le {m1 m2 : Cv} (hv1 : validB m1 = true) (hv2 : validB m2 = true) : lcmC m1 m2 ≤ 14400 := by
  obtain ⟨_, _, _, p1, p2, _⟩ := valid_range hv1
  obtain ⟨_, _, _, q1, q2, _⟩ := valid_range hv2
  exact Nat.le_trans (lcmN_facts (by omega) (by omega)).2.2.1 (Nat.mul_le_mul (show m1.per.toNat ≤ 120 by omega) (show m2.per.toNat ≤ 120 by omega))
theorem gainC_le {c : Cv} (hv : validB c = true) {L : Nat} (hL : L ≤ 120) : 0 ≤ gainC c L ∧ gainC c L ≤ 120 * 1073741824 := by
  obtain ⟨_, _, _, p1, p2, p3, p4, p5⟩ := valid_range hv
  unfold gainC
  have hd0 : 0 ≤ (L : Int) / c.per := Int.ediv_nonneg (by omega) (by omega)
  have hd1 : (L : Int) / c.per ≤ L := Int.ediv_le_self _ (by omega)
  exact mulB (by omega) (by omega)

end Go.Proofs.Ytolmmfphdieilaa

/- The share of two valid curves. No condition. -/
set_option linter.unusedSimpArgs false
set_option linter.unusedVariables false
namespace Go.Proofs.Ytolmmfphdieilaa
open Go Go.RowKit Go.Proofs.Ytolmmfphdieilaa.K Go.Proofs.Ytolmmfphdieilaa.M

theorem leastG_le0 {f : Nat → Int} {a L : Nat} (hL : 0 < L) : leastG f a L ≤ 0 ↔ minF f a (L - 1) ≤ 0 := by
  obtain ⟨d, rfl⟩ : ∃ d, L = d + 1 := ⟨L - 1, by omega⟩
  rw [leastG_min, Nat.add_sub_cancel]; unfold INF; omega
theorem leastG_lt0 {f : Nat → Int} {a L : Nat} (hL : 0 < L) : leastG f a L < 0 ↔ minF f a (L - 1) < 0 := by
  obtain ⟨d, rfl⟩ : ∃ d, L = d + 1 := ⟨L - 1, by omega⟩
  rw [leastG_min, Nat.add_sub_cancel]; unfold INF; omega

set_option maxHeartbeats 4000000 in
theorem SRestG_C {R : Ro} {fa : Option Addr} {fc : Nat} {cf : Cv} (hvf : validB cf = true) (ha : RS R 1 encI fa cf.vals) {ga : Option Addr} {gc : Nat} {cg : Cv} (hvg : validB cg = true) (hb : RS R 1 encI ga cg.vals) {th : Nat} (hth : th ≤ 1048576) (w0 : World) (E : List Ent) : K.Fn Try.prog 14 [.agg #[.slice fa cf.vals.length fc, .int .i64 cf.per, .int .i64 cf.inc], .agg #[.slice ga cg.vals.length gc, .int .i64 cg.per, .int .i64 cg.inc], .int .i64 (th : Int)] w0 R E (fun r R' E' => ∃ (f : Option Addr) (fc : Nat), r = cvV f fc (shareN (normR cf) (normR cg) th) ∧ RS R' 1 encI f (shareN (normR cf) (normR cg) th).1.vals ∧ E.Sublist E') := by
  have hnf := norm_nrm hvf
  have hng := norm_nrm hvg
  refine Fn.enter (n := 154) Try.func14 rfl rfl (Nat.le_of_ble_eq_true rfl) rfl ?_
  refine W.seq ?_
  refine W.region _ ?_
  refine WL.ef rfl rfl (by decide) (Ef.box rfl rfl (fun b3 => ?_))
  refine WL.ef rfl rfl (by decide) (Ef.box rfl rfl (fun b4 => ?_))
  refine WL.ef rfl rfl (by decide) (Ef.alloc tab_ok rfl rfl (fun b6 => ?_))
  refine WG.run tab_ok 1 rfl ?_
  refine WG.nil ?_
  refine WE.nxt ?_
  refine W.seq ?_
  refine W.region _ ?_
  refine' WG.y rfl rfl (by decide) (Yl.load1 tab_ok rfl rfl rfl (fun _ => rfl) ?r1 rfl ?h1) ?_
  case r1 => (exact Rd.blk 2 rfl)
  case h1 => rfl
  refine WL.call en52 rfl rfl (by decide) (CallOp.mkT rfl rfl rfl rfl) (CNormalV_C hvf ha w0 _) ?_
  rintro _ R1 _ hR1 ⟨fa1x, ca1x, rfl, ha1x, hsub⟩
  refine WL.subE hsub ?_
  unfold cvV
  dsimp only at ha1x ⊢
  have hb := hb.mono hR1
  refine WG.run tab_ok 3 rfl ?_
  refine WL.ef rfl rfl (by decide) (Ef.alloc tab_ok rfl rfl (fun b8 => ?_))
  refine WL.efN rfl rfl (Ef.store0 0 tab_ok rfl rfl rfl rfl rfl rfl rfl rfl ?_)
  refine WG.run tab_ok 1 rfl ?_
  refine WG.nil ?_
  refine WE.nxt ?_
  refine W.seq ?_
  refine W.seq ?_
  refine W.region _ ?_
  refine WG.run tab_ok 2 rfl ?_
  refine WG.nil ?_
  refine WE.nxt ?_
  refine W.condN rfl (fun hc0 => ?_) (fun hc0 => ?_)
  · try dsimp only at hc0
    exact absurd rfl hc0
  · try dsimp only at hc0
    refine W.skip ?_
    refine WE.nxt ?_
    refine W.seq ?_
    refine W.region _ ?_
    refine' WG.y rfl rfl (by decide) (Yl.load1 tab_ok rfl rfl rfl (fun _ => rfl) ?r2 rfl ?h2) ?_
    case r2 => (exact Rd.blk 2 rfl)
    case h2 => rfl
    refine WL.call en52 rfl rfl (by decide) (CallOp.mkT rfl rfl rfl rfl) (CNormalV_C hvg hb w0 _) ?_
    rintro _ R2 _ hR2 ⟨fa2x, ca2x, rfl, ha2x, hsub⟩
    refine WL.subE hsub ?_
    unfold cvV
    dsimp only at ha2x ⊢
    have ha1x := ha1x.mono hR2
    generalize normR cf = m1 at *
    generalize normR cg = m2 at *
    have hv1 := hnf.valid
    have hv2 := hng.valid
    have hlle := lcmC_le hv1 hv2
    have hlp := lcm_pos hv1 hv2
    have hs1 := stN_lt hv1
    have hs2 := stN_lt hv2
    refine WG.run tab_ok 3 rfl ?_
    refine WL.ef rfl rfl (by decide) (Ef.alloc tab_ok rfl rfl (fun b10 => ?_))
    refine WL.efN rfl rfl (Ef.store0 0 tab_ok rfl rfl rfl rfl rfl rfl rfl rfl ?_)
    refine WG.run tab_ok 1 rfl ?_
    refine WG.nil ?_
    refine WE.nxt ?_
    refine W.seq ?_
    refine W.seq ?_
    refine W.region _ ?_
    refine WG.run tab_ok 2 rfl ?_
    refine WG.nil ?_
    refine WE.nxt ?_
    refine W.condN rfl (fun hc1 => ?_) (fun hc1 => ?_)
    · try dsimp only at hc1
      exact absurd rfl hc1
    · try dsimp only at hc1
      refine W.skip ?_
      refine WE.nxt ?_
      refine W.seq ?_
      refine W.seq ?_
      refine W.region _ ?_
      refine WG.run tab_ok 3 rfl ?_
      refine WG.y rfl rfl (by decide) (pureV_ok tab_ok rfl qE) ?_
      refine WG.y rfl rfl (by decide) (pureV_ok tab_ok rfl qE) ?_
      refine WG.y rfl rfl (by decide) (Yl.por rfl rfl rfl (fun _ => rfl) (by intro h1 h2; simp_all <;> omega)) ?_
      refine WG.nil ?_
      refine WE.nxt ?_
      refine W.cond rfl (fun hc2 => ?_) (fun hc2 => ?_)
      · try simp only [decide_eq_true_eq, decide_eq_false_iff_not, beq_iff_eq, bne_iff_ne, beq_eq_false_iff_ne, bne_eq_false_iff_eq, ne_eq, Bool.or_eq_true, Bool.or_eq_false_iff, Bool.and_eq_true, Bool.and_eq_false_imp, Bool.not_eq_true, Bool.not_eq_true', Bool.not_eq_false', Classical.not_not, Int.not_lt, Int.not_le, gt_iff_lt, ge_iff_le] at hc2
        omega
      · try simp only [decide_eq_true_eq, decide_eq_false_iff_not, beq_iff_eq, bne_iff_ne, beq_eq_false_iff_ne, bne_eq_false_iff_eq, ne_eq, Bool.or_eq_true, Bool.or_eq_false_iff, Bool.and_eq_true, Bool.and_eq_false_imp, Bool.not_eq_true, Bool.not_eq_true', Bool.not_eq_false', Classical.not_not, Int.not_lt, Int.not_le, gt_iff_lt, ge_iff_le] at hc2
        refine W.skip ?_
        refine WE.nxt ?_
        refine W.seq ?_
        refine W.region _ ?_
        refine WG.run tab_ok 1 rfl ?_
        refine' WG.y rfl rfl (by decide) (Yl.load1 tab_ok rfl rfl rfl (fun _ => rfl) ?r3 rfl ?h3) ?_
        case r3 => apply Rd.add; (exact Rd.blk 1 rfl)
        case h3 => rfl
        refine WG.run tab_ok 1 rfl ?_
        refine' WG.y rfl rfl (by decide) (Yl.load1 tab_ok rfl rfl rfl (fun _ => rfl) ?r4 rfl ?h4) ?_
        case r4 => apply Rd.add; (exact Rd.blk 0 rfl)
        case h4 => rfl
        refine WG.callV (v := .int .i64 (lcmC m1 m2 : Int)) en53 rfl rfl (by decide) (CallOp.mk' rfl rfl rfl rfl) (fun _ => rfl) (fun hg => CommonC_V hv1 hv2) ?_
        refine WG.run tab_ok 1 rfl ?_
        refine WG.nil ?_
        refine WE.nxt ?_
        refine W.seq ?_
        refine W.seq ?_
        refine W.region _ ?_
        refine WG.run tab_ok 2 rfl ?_
        refine WG.nil ?_
        refine WE.nxt ?_
        refine W.condD rfl (fun hc3 => ?_) (fun hc3 => ?_)
        · try dsimp only at hc3
          have hd : shareN m1 m2 th = (zcv, 3) := by unfold shareN; rw [if_pos (by omega)]
          refine W.seq ?_
          refine W.region _ ?_
          -- build
          refine WG.y rfl rfl (by decide) (Yl.build (parts := []) tab_ok rfl rfl rfl rfl (fun _ => rfl) rfl rfl) ?_
          refine WL.efN rfl rfl (Ef.store0 2 tab_ok rfl rfl rfl rfl rfl rfl rfl rfl ?_)
          refine WG.run tab_ok 1 rfl ?_
          refine WG.nil ?_
          refine WE.nxt ?_
          refine W.ret ?_
          refine WE.then_ret ?_
          refine WE.retF tab_ok [_, _] rfl ⟨⟨_, _, _, rfl, rfl, rfl, ((by first | exact Rd.blk 0 rfl | exact Rd.blk 1 rfl | exact Rd.blk 2 rfl | exact Rd.blk 3 rfl | exact Rd.blk 4 rfl | exact Rd.blk 5 rfl | exact Rd.blk 6 rfl | exact Rd.blk 7 rfl | exact Rd.blk 8 rfl | exact Rd.blk 9 rfl)), rfl⟩, rfl, trivial⟩ ((by first | exact hR1.trans hR2 | exact (hR1.trans hR2).trans hR3 | exact (hR1.trans hR2).trans (hR3.trans (hR4.trans hR5)))) ?_
          exact ⟨none, 0, by rw [hd]; rfl, by rw [hd]; exact rs_nil, qS⟩
        · try dsimp only at hc3
          have hl1 : ¬ 120 < lcmC m1 m2 := by omega
          have hg1 := gainC_le hv1 (L := lcmC m1 m2) (by omega)
          have hg2 := gainC_le hv2 (L := lcmC m1 m2) (by omega)
          have hfr := frG_facts (th := th) hv1 hv2
          refine W.skip ?_
          refine WE.nxt ?_
          refine W.seq ?_
          refine W.region _ ?_
          refine' WG.y rfl rfl (by decide) (Yl.load1 tab_ok rfl rfl rfl (fun _ => rfl) ?r5 rfl ?h5) ?_
          case r5 => (exact Rd.blk 1 rfl)
          case h5 => rfl
          refine' WG.y rfl rfl (by decide) (Yl.load1 tab_ok rfl rfl rfl (fun _ => rfl) ?r6 rfl ?h6) ?_
          case r6 => (exact Rd.blk 0 rfl)
          case h6 => rfl
          refine WG.run tab_ok 1 rfl ?_
          -- build
          refine WG.y rfl rfl (by decide) (Yl.build (parts := [(0, .tmp 54), (1, .tmp 55), (2, .tmp 56)]) tab_ok rfl rfl rfl rfl (fun _ => rfl) rfl rfl) ?_
          refine WL.ef rfl rfl (by decide) (Ef.alloc tab_ok rfl rfl (fun b12 => ?_))
          refine WL.efN rfl rfl (Ef.store0 0 tab_ok rfl rfl rfl rfl rfl rfl rfl rfl ?_)
          refine WG.nil ?_
          refine WE.nxt ?_
          refine W.seq ?_
          refine W.regionQ _ mixed (by kernel_rfl) ?_
          refine' WG.y rfl rfl (by decide) (Yl.load1 tab_ok rfl rfl rfl (fun _ => rfl) ?r7 rfl ?h7) ?_
          case r7 => (exact Rd.blk 2 rfl)
          case h7 => rfl
          refine WG.run tab_ok 1 rfl ?_
          refine WG.callV (v := .int .i64 (gainC m1 (lcmC m1 m2))) en54 rfl rfl (by decide) (CallOp.mk' rfl rfl rfl rfl) (fun _ => rfl) (fun hg => WGainG_V hv1 ha1x (L := lcmC m1 m2) (by omega)) ?_
          refine' WG.y rfl rfl (by decide) (Yl.load1 tab_ok rfl rfl rfl (fun _ => rfl) ?r8 rfl ?h8) ?_
          case r8 => (exact Rd.blk 1 rfl)
          case h8 => rfl
          refine WG.run tab_ok 1 rfl ?_
          refine WG.callV (v := .int .i64 (gainC m2 (lcmC m1 m2))) en54 rfl rfl (by decide) (CallOp.mk' rfl rfl rfl rfl) (fun _ => rfl) (fun hg => WGainG_V hv2 ha2x (L := lcmC m1 m2) (by omega)) ?_
          refine WG.y rfl rfl (by decide) (Yl.sub rfl rfl rfl (fun _ => rfl) (by intro _; constructor <;> (try dsimp only) <;> omega)) ?_
          rw [show gainC m1 (lcmC m1 m2) - gainC m2 (lcmC m1 m2) = driftG m1 m2 from rfl]
          refine WG.run tab_ok 1 rfl ?_
          refine WG.nil ?_
          refine WE.nxt ?_
          refine W.seq ?_
          refine W.regionQ _ mixed (by kernel_rfl) ?_
          refine' WG.y rfl rfl (by decide) (Yl.load1 tab_ok rfl rfl rfl (fun _ => rfl) ?r9 rfl ?h9) ?_
          case r9 => (exact Rd.blk 2 rfl)
          case h9 => rfl
          refine WG.callV en55 rfl rfl (by decide) (CallOp.mk' rfl rfl rfl rfl) (fun _ => rfl) (fun hg => WStartG_V hv1 ha1x) ?_
          refine' WG.y rfl rfl (by decide) (Yl.load1 tab_ok rfl rfl rfl (fun _ => rfl) ?r10 rfl ?h10) ?_
          case r10 => (exact Rd.blk 1 rfl)
          case h10 => rfl
          refine WG.callV en55 rfl rfl (by decide) (CallOp.mk' rfl rfl rfl rfl) (fun _ => rfl) (fun hg => WStartG_V hv2 ha2x) ?_
          refine WG.run tab_ok 1 rfl ?_
          refine WG.y rfl rfl (by decide) (Yl.add rfl rfl rfl (fun _ => rfl) (by intro _; constructor <;> (try dsimp only) <;> omega)) ?_
          refine WG.run tab_ok 1 rfl ?_
          refine WG.y rfl rfl (by decide) (Yl.add rfl rfl rfl (fun _ => rfl) (by intro _; constructor <;> (try dsimp only) <;> omega)) ?_
          refine WG.y rfl rfl (by decide) (Yl.max3 rfl rfl rfl rfl (fun _ => rfl)) ?_
          refine WG.run tab_ok 1 rfl ?_
          refine WG.nil ?_
          refine WE.nxt ?_
          have hfr3 : (if (if (stN m1 : Int) < (stN m2 : Int) + (th : Int) then (stN m2 : Int) + (th : Int) else (stN m1 : Int)) < (th : Int) + 1 then (th : Int) + 1 else (if (stN m1 : Int) < (stN m2 : Int) + (th : Int) then (stN m2 : Int) + (th : Int) else (stN m1 : Int))) = (frG m1 m2 th : Int) := by unfold frG; split <;> split <;> omega
          rw [hfr3]
          refine W.seq ?_
          refine W.region _ ?_
          refine' WG.y rfl rfl (by decide) (Yl.load1 tab_ok rfl rfl rfl (fun _ => rfl) ?r11 rfl ?h11) ?_
          case r11 => (exact Rd.blk 0 rfl)
          case h11 => rfl
          refine WG.run tab_ok 2 rfl ?_
          refine WG.callV en56 rfl rfl (by decide) (CallOp.mk' rfl rfl rfl rfl) (fun _ => rfl) (fun hg => GapLeastG_V (c1 := ca1x) (c2 := ca2x) hv1 ha1x hv2 ha2x (th := th) (a := frG m1 m2 th) (n := lcmC m1 m2) (by omega)) ?_
          refine WG.run tab_ok 1 rfl ?_
          refine WG.nil ?_
          refine WE.nxt ?_
          refine W.seq ?_
          refine W.seq ?_
          refine W.region _ ?_
          refine' WG.y rfl rfl (by decide) (Yl.load1 tab_ok rfl rfl rfl (fun _ => rfl) ?r12 rfl ?h12) ?_
          case r12 => (exact Rd.blk 1 rfl)
          case h12 => rfl
          refine WG.callV en57 rfl rfl (by decide) (CallOp.mk' rfl rfl rfl rfl) (fun _ => rfl) (fun hg => WFiniteG_V hv2 ha2x) ?_
          refine WG.run tab_ok 2 rfl ?_
          refine' WG.y rfl rfl (by decide) (Yl.loadG tab_ok rfl rfl rfl qE ?r13 rfl ?h13 ?g13) ?_
          case r13 => (exact Rd.blkC 2 rfl)
          case h13 => rfl
          case g13 => exact fun _ => trivial
          refine WG.callV en57 rfl rfl (by decide) (CallOp.mk' rfl rfl rfl rfl) qE (fun hg => WFiniteG_V hv1 ha1x) ?_
          refine WG.y rfl rfl (by decide) (pureV_ok tab_ok rfl qE) ?_
          refine WG.y rfl rfl (by decide) (pureV_ok tab_ok rfl qE) ?_
          refine WG.y rfl rfl (by decide) (pureV_ok tab_ok rfl qE) ?_
          refine WG.y rfl rfl (by decide) (pureV_ok tab_ok rfl qE) ?_
          refine WG.y rfl rfl (by decide) (pureV_ok tab_ok rfl qE) ?_
          refine WG.y rfl rfl (by decide) (pureV_ok tab_ok rfl qE) ?_
          refine WG.y rfl rfl (by decide) (pureV_ok tab_ok rfl qE) ?_
          refine WG.y rfl rfl (by decide) (pureV_ok tab_ok rfl qE) ?_
          refine WG.y rfl rfl (by decide) (pureV_ok tab_ok rfl qE) ?_
          refine WG.y rfl rfl (by decide) (Yl.pand rfl rfl rfl qE (by intro h1 h2; simp_all <;> omega)) ?_
          refine WG.y rfl rfl (by decide) (Yl.por rfl rfl rfl qE (by intro h1 h2; simp_all <;> omega)) ?_
          refine WG.y rfl rfl (by decide) (Yl.pand rfl rfl rfl qE (by intro h1 h2; simp_all <;> omega)) ?_
          refine WG.y rfl rfl (by decide) (Yl.por rfl rfl rfl (fun _ => rfl) (by intro h1 h2; simp_all <;> omega)) ?_
          refine WG.nil ?_
          refine WE.nxt ?_
          refine W.cond rfl (fun hc4 => ?_) (fun hc4 => ?_)
          · try simp only [decide_eq_true_eq, decide_eq_false_iff_not, beq_iff_eq, bne_iff_ne, beq_eq_false_iff_ne, bne_eq_false_iff_eq, ne_eq, Bool.or_eq_true, Bool.or_eq_false_iff, Bool.and_eq_true, Bool.and_eq_false_imp, Bool.not_eq_true, Bool.not_eq_true', Bool.not_eq_false', Classical.not_not, Int.not_lt, Int.not_le, gt_iff_lt, ge_iff_le] at hc4
            rw [leastG_le0 hlp] at hc4
            have hd : shareN m1 m2 th = (zeroC, 0) := by unfold shareN; rw [if_neg hl1, if_pos (show flatB m1 m2 th from hc4)]
            refine W.seq ?_
            refine W.region _ ?_
            refine WL.call en58 rfl rfl (by decide) (CallOp.mkT rfl rfl rfl rfl) (CFlat_C (k := 0) (by decide) w0 _) ?_
            rintro _ R3 _ hR3 ⟨fz, fzc, rfl, hfz, hsubz⟩
            refine WL.subE hsubz ?_
            rw [flat_zero] at hfz ⊢
            unfold cvV
            dsimp only at hfz ⊢
            refine WG.run tab_ok 2 rfl ?_
            refine WL.efN rfl rfl (Ef.store0 3 tab_ok rfl rfl rfl rfl rfl rfl rfl rfl ?_)
            refine WG.run tab_ok 1 rfl ?_
            refine WG.nil ?_
            refine WE.nxt ?_
            refine W.ret ?_
            refine WE.then_ret ?_
            refine WE.retF tab_ok [_, _] rfl ⟨⟨_, _, _, rfl, rfl, rfl, ((by first | exact Rd.blk 0 rfl | exact Rd.blk 1 rfl | exact Rd.blk 2 rfl | exact Rd.blk 3 rfl | exact Rd.blk 4 rfl | exact Rd.blk 5 rfl | exact Rd.blk 6 rfl | exact Rd.blk 7 rfl | exact Rd.blk 8 rfl | exact Rd.blk 9 rfl)), rfl⟩, rfl, trivial⟩ ((by first | exact hR1.trans hR2 | exact (hR1.trans hR2).trans hR3 | exact (hR1.trans hR2).trans (hR3.trans (hR4.trans hR5)))) ?_
            exact ⟨fz, fzc, by rw [hd]; rfl, by rw [hd]; exact hfz, qS⟩
          · try simp only [decide_eq_true_eq, decide_eq_false_iff_not, beq_iff_eq, bne_iff_ne, beq_eq_false_iff_ne, bne_eq_false_iff_eq, ne_eq, Bool.or_eq_true, Bool.or_eq_false_iff, Bool.and_eq_true, Bool.and_eq_false_imp, Bool.not_eq_true, Bool.not_eq_true', Bool.not_eq_false', Classical.not_not, Int.not_lt, Int.not_le, gt_iff_lt, ge_iff_le] at hc4
            have hnf4 : ¬ flatB m1 m2 th := fun h => by
              unfold flatB at h
              rw [← leastG_le0 hlp] at h
              obtain ⟨h4a, h4b⟩ := hc4
              rcases h with h | ⟨h1, h | ⟨h, h2⟩⟩
              · rw [h4a] at h; cases h
              · have := (h4b h1).1; omega
              · have := (h4b h1).2 h; omega
            have hup := not_flat hnf4
            refine W.skip ?_
            refine WE.nxt ?_
            refine W.seq ?_
            refine W.seq ?_
            refine W.region _ ?_
            refine WG.run tab_ok 2 rfl ?_
            refine WG.nil ?_
            refine WE.nxt ?_
            refine W.condD rfl (fun hc5 => ?_) (fun hc5 => ?_)
            · try dsimp only at hc5
              have hd : shareN m1 m2 th = (zcv, 3) := by unfold shareN; rw [if_neg hl1, if_neg hnf4, if_pos (by omega)]
              refine W.seq ?_
              refine W.region _ ?_
              -- build
              refine WG.y rfl rfl (by decide) (Yl.build (parts := []) tab_ok rfl rfl rfl rfl (fun _ => rfl) rfl rfl) ?_
              refine WL.efN rfl rfl (Ef.store0 3 tab_ok rfl rfl rfl rfl rfl rfl rfl rfl ?_)
              refine WG.run tab_ok 1 rfl ?_
              refine WG.nil ?_
              refine WE.nxt ?_
              refine W.ret ?_
              refine WE.then_ret ?_
              refine WE.retF tab_ok [_, _] rfl ⟨⟨_, _, _, rfl, rfl, rfl, ((by first | exact Rd.blk 0 rfl | exact Rd.blk 1 rfl | exact Rd.blk 2 rfl | exact Rd.blk 3 rfl | exact Rd.blk 4 rfl | exact Rd.blk 5 rfl | exact Rd.blk 6 rfl | exact Rd.blk 7 rfl | exact Rd.blk 8 rfl | exact Rd.blk 9 rfl)), rfl⟩, rfl, trivial⟩ ((by first | exact hR1.trans hR2 | exact (hR1.trans hR2).trans hR3 | exact (hR1.trans hR2).trans (hR3.trans (hR4.trans hR5)))) ?_
              exact ⟨none, 0, by rw [hd]; rfl, by rw [hd]; exact rs_nil, qS⟩
            · try dsimp only at hc5
              have h400 : ¬ 400 ≤ th := by omega
              refine W.skip ?_
              refine WE.nxt ?_
              refine W.seq ?_
              refine W.region _ ?_
              refine WG.run tab_ok 2 rfl ?_
              refine WG.nil ?_
              refine WE.nxt ?_
              refine W.seqCut (β := Nat × Nat × Int) (fun (f2, P, inc) => ((finB m1 = true ∧ 0 < driftG m1 m2) ∧ f2 = max (frG m1 m2 th) 400 ∧ P = lcmC m1 m2 ∧ inc = driftG m1 m2 ∧ ¬ minF (rawG m1 m2 th) (max (frG m1 m2 th) 400) (lcmC m1 m2 - 1) < 0) ∨ (¬ (finB m1 = true ∧ 0 < driftG m1 m2) ∧ f2 = frG m1 m2 th ∧ P = 1 ∧ inc = 0)) (fun (f2, P, inc) => [(2, true, .int .i64 (th : Int)), (6, true, .pointer (some ⟨b6, 0, none⟩)), (11, true, .int .i64 (lcmC m1 m2 : Int)), (12, true, .pointer (some ⟨b12, 0, none⟩)), (14, true, .int .i64 (f2 : Int)), (16, true, .int .i64 (P : Int)), (17, true, .int .i64 inc)]) (fun _ => R2) (fun _ => .blk b12 [.slice fa1x m1.vals.length ca1x, .int .i64 m1.per, .int .i64 m1.inc, .slice fa2x m2.vals.length ca2x, .int .i64 m2.per, .int .i64 m2.inc, .int .i64 (th : Int)] :: .blk b6 [.slice none 0 0, .int .i64 0, .int .i64 0] :: E) ?_ ?_
              ·
                intro zz hst
                obtain ⟨f2, P, inc⟩ := zz
                dsimp only at hst ⊢
                have hd : shareN m1 m2 th = mbuild (hG m1 m2 th) f2 P inc := by
                  unfold shareN
                  rw [if_neg hl1, if_neg hnf4, if_neg h400]
                  rcases hst with ⟨h1, rfl, rfl, rfl, h5⟩ | ⟨h1, rfl, rfl, rfl⟩
                  · rw [if_pos h1, if_neg h5]
                  · rw [if_neg h1]
                have hf2 : frG m1 m2 th ≤ f2 ∧ f2 ≤ 800 ∧ 1 ≤ P ∧ P ≤ lcmC m1 m2 ∧ 0 ≤ inc ∧ inc ≤ 128849018880 := by
                  rcases hst with ⟨h1, rfl, rfl, rfl, h5⟩ | ⟨h1, rfl, rfl, rfl⟩
                  · have := h1.2
                    unfold driftG at this ⊢
                    omega
                  · omega
                refine W.seq ?_
                refine W.region _ ?_
                refine WG.run tab_ok 2 rfl ?_
                refine WG.y rfl rfl (by decide) (Yl.add rfl rfl rfl (fun _ => rfl) (by intro _; constructor <;> (try dsimp only) <;> omega)) ?_
                refine WL.ef rfl rfl (by decide) (Ef.makeSliceD (enc := encI) 0 tab_ok rfl rfl rfl rfl rfl rfl (by (try dsimp only) <;> omega) (by (try dsimp only) <;> omega) (by (try dsimp only) <;> omega) (by (try dsimp only) <;> omega) (by decide) rfl rfl (fun a122 => ?_))
                refine WL.ef rfl rfl (by decide) (Ef.alloc tab_ok rfl rfl (fun b18 => ?_))
                refine WL.efN rfl rfl (Ef.store0 0 tab_ok rfl rfl rfl rfl rfl rfl rfl rfl ?_)
                refine WG.nil ?_
                refine WE.nxt ?_
                rw [show ((f2 : Int) + (P : Int)).toNat = f2 + P by omega]
                refine W.seq ?_
                refine W.region _ ?_
                refine' WG.y rfl rfl (by decide) (Yl.load1 tab_ok rfl rfl rfl (fun _ => rfl) ?r14 rfl ?h14) ?_
                case r14 => (exact Rd.blk 2 rfl)
                case h14 => rfl
                refine WG.run tab_ok 2 rfl ?_
                refine WG.y rfl rfl (by decide) (Yl.add rfl rfl rfl (fun _ => rfl) (by intro _; constructor <;> (try dsimp only) <;> omega)) ?_
                refine WG.run tab_ok 1 rfl ?_
                refine WG.callV (v := .int .i64 (leastG (rawG m1 m2 th) (f2 + P) (lcmC m1 m2))) en56 rfl rfl (by decide) (CallOp.mk' rfl rfl rfl rfl) (fun _ => rfl) (fun hg => GapLeastG_V (c1 := ca1x) (c2 := ca2x) hv1 ha1x hv2 ha2x (th := th) (a := f2 + P) (n := lcmC m1 m2) (by omega)) ?_
                refine WG.run tab_ok 1 rfl ?_
                refine WG.nil ?_
                refine WE.nxt ?_
                refine W.seq ?_
                refine W.seq ?_
                refine W.region _ ?_
                refine' WG.y rfl rfl (by decide) (Yl.load1 tab_ok rfl rfl rfl (fun _ => rfl) ?r15 rfl ?h15) ?_
                case r15 => (exact Rd.blk 0 rfl)
                case h15 => rfl
                refine WG.run tab_ok 1 rfl ?_
                refine WG.y rfl rfl (by decide) (Yl.sub rfl rfl rfl (fun _ => rfl) (by intro _; constructor <;> (try dsimp only) <;> omega)) ?_
                rw [show ((f2 + P : Nat) : Int) - 1 = ((f2 + P - 1 : Nat) : Int) by omega]
                refine WG.run tab_ok 1 rfl ?_
                refine WG.nil ?_
                refine WE.nxt ?_
                refine W.block ?_
                refine W.loopK (β := Nat × Int × List Int) (fun (u, lst, xs) => (th ≤ u ∧ u + 1 ≤ f2 + P) ∧ xs.length = f2 + P ∧ lst = leastG (rawG m1 m2 th) (u + 1) (f2 + P + lcmC m1 m2 - (u + 1)) ∧ ∀ i, i < f2 + P → nth xs i = if u < i then (hG m1 m2 th) i else 0) (fun (u, lst, xs) => [(19, true, .int .i64 lst), (20, true, .int .i64 (u : Int))]) [2, 6, 12, 14, 16, 17, 18] [_, _, _, _, _, _, _] [] _ rfl (fun (u, lst, xs) => [(1, .sl 3 1 (some ⟨a122, 0, none⟩) (f2 + P) (xs.map encI))]) (fun (u, lst, xs) => u) ((f2 + P - 1, leastG (rawG m1 m2 th) (f2 + P) (lcmC m1 m2), List.replicate (f2 + P) 0)) (⟨⟨by (try dsimp only); omega, by (try dsimp only); omega⟩, by simp, by (try dsimp only); rw [show f2 + P - 1 + 1 = f2 + P by omega, show f2 + P + lcmC m1 m2 - (f2 + P) = lcmC m1 m2 by omega], fun i hi => by rw [if_neg (by (try dsimp only); omega)]; exact nth_replicate (by omega)⟩) ⟨rfl, rfl, rfl, rfl, rfl, rfl, rfl, rfl, rfl, rfl⟩ qS ?_
                intro zz hst
                obtain ⟨u, lst, xs⟩ := zz
                dsimp only [zipE, setAll, List.cons_append, List.nil_append, List.set_cons_zero, List.set_cons_succ] at hst ⊢
                obtain ⟨⟨hu1, hu2⟩, hxl, hlst, hxs⟩ := hst
                refine W.seq ?_
                refine W.seq ?_
                refine W.region _ ?_
                refine WG.run tab_ok 3 rfl ?_
                refine WG.nil ?_
                refine WE.nxt ?_
                refine W.condD rfl (fun hc6 => ?_) (fun hc6 => ?_)
                · try dsimp only at hc6
                  obtain ⟨w, rfl⟩ : ∃ w, u = w + 1 := ⟨u - 1, by omega⟩
                  refine W.skip ?_
                  refine WE.nxt ?_
                  refine W.seq ?_
                  refine W.block ?_
                  refine W.seq ?_
                  refine W.region _ ?_
                  refine WG.run tab_ok 1 rfl ?_
                  refine' WG.y rfl rfl (by decide) (Yl.load1 tab_ok rfl rfl rfl (fun _ => rfl) ?r16 rfl ?h16) ?_
                  case r16 => (exact Rd.blk 2 rfl)
                  case h16 => rfl
                  refine WG.run tab_ok 1 rfl ?_
                  refine WG.callV (v := .int .i64 (rawG m1 m2 th (w + 1))) en59 rfl rfl (by decide) (CallOp.mk' rfl rfl rfl rfl) (fun _ => rfl) (fun hg => GapRawG_V (c1 := ca1x) (c2 := ca2x) hv1 ha1x hv2 ha2x (th := th) (u := w + 1) (by omega)) ?_
                  refine WG.run tab_ok 2 rfl ?_
                  refine WG.nil ?_
                  refine WE.nxt ?_
                  refine W.region _ ?_
                  refine' WG.y rfl rfl (by decide) (Yl.load1 tab_ok rfl rfl rfl (fun _ => rfl) ?r17 rfl ?h17) ?_
                  case r17 => (exact Rd.blk 0 rfl)
                  case h17 => rfl
                  refine WG.run tab_ok 3 rfl ?_
                  refine WG.y rfl rfl (by decide) (Yl.indexN tab_ok rfl rfl rfl rfl rfl rfl (fun _ => rfl) (by intro _; (try dsimp only) <;> omega) (by intro _; first | exact fun _ _ _ _ => rfl | exact RS.has (by assumption) | exact fun _ _ _ _ => (by assumption) | exact HasMem.ownD 0 rfl | exact HasMem.ownD 1 rfl | exact HasMem.ownD 2 rfl | exact HasMem.ownD 3 rfl | exact HasMem.ownD 4 rfl | exact HasMem.ownD 5 rfl | exact HasMem.ownD 6 rfl | exact HasMem.ownD 7 rfl | exact HasMem.ownD 8 rfl | exact HasMem.ownD 9 rfl)) ?_
                  refine WL.efN rfl rfl (Ef.storeD _ 1 tab_ok rfl rfl rfl rfl rfl (by (try dsimp only) <;> omega) rfl rfl rfl rfl ?_)
                  refine WG.nil ?_
                  refine WE.blk _ ?_
                  refine WE.nxt ?_
                  refine W.region _ ?_
                  refine WG.run tab_ok 1 rfl ?_
                  refine WG.y rfl rfl (by decide) (Yl.sub rfl rfl rfl (fun _ => rfl) (by intro _; constructor <;> (try dsimp only) <;> omega)) ?_
                  refine WG.run tab_ok 1 rfl ?_
                  refine WG.nil ?_
                  have hnew : min lst (rawG m1 m2 th (w + 1)) = leastG (rawG m1 m2 th) (w + 1) (f2 + P + lcmC m1 m2 - (w + 1)) := by
                    rw [show f2 + P + lcmC m1 m2 - (w + 1) = (f2 + P + lcmC m1 m2 - (w + 1 + 1)) + 1 by omega, leastG_cons, ← hlst]
                  rw [show (if (rawG m1 m2 th (w + 1)) < lst then (rawG m1 m2 th (w + 1)) else lst) = min lst (rawG m1 m2 th (w + 1)) by split <;> omega, show (if 0 < min lst (rawG m1 m2 th (w + 1)) then min lst (rawG m1 m2 th (w + 1)) else 0) = max 0 (min lst (rawG m1 m2 th (w + 1))) by split <;> omega, show ((w + 1 : Nat) : Int) - 1 = (w : Int) by omega]
                  refine WE.again ((w, min lst (rawG m1 m2 th (w + 1)), xs.set (w + 1) (max 0 (min lst (rawG m1 m2 th (w + 1)))))) (⟨⟨by omega, by omega⟩, by (try dsimp only); rw [List.length_set]; exact hxl, hnew, fun i hi => by
                    (try dsimp only)
                    by_cases e : i = w + 1
                    · subst e
                      rw [nth_set_self (by omega), if_pos (by omega), hnew]
                      have hw := hG_win (th := th) hv1 hv2 hup (u := w + 1) (m := f2 + P + lcmC m1 m2 - w - 2) (by omega) (by omega)
                      rw [hw, show f2 + P + lcmC m1 m2 - (w + 1) = f2 + P + lcmC m1 m2 - w - 2 + 1 by omega, leastG_cap]
                      have := rawG_top (th := th) hv1 hv2 (t := w + 1) (by omega)
                      unfold INF at this ⊢
                      omega
                    · rw [nth_set_ne (fun h => e h.symm), hxs i hi]
                      by_cases h : w < i
                      · rw [if_pos h, if_pos (by omega)]
                      · rw [if_neg h, if_neg (by omega)]⟩) (by (try dsimp only); omega) ⟨rfl, rfl, rfl, rfl, rfl, rfl, rfl, rfl, rfl, rfl⟩ (RLe.refl _) qS
                · try dsimp only at hc6
                  obtain rfl : th = u := by omega
                  refine W.exit ?_
                  refine WE.then_exit ?_
                  refine WE.then_exit ?_
                  refine WE.blk_exit ?_
                  refine WE.nxt ?_
                  have hxv : xs = fvals (hG m1 m2 th) (f2 + P) := nth_ext (by rw [fvals_len]; exact hxl) (fun i hi => by
                    rw [hxs i (by omega), fvals_nth _ (by omega)]
                    by_cases h : th < i
                    · rw [if_pos h]
                    · rw [if_neg h, hG_low (by omega)])
                  refine W.freeze (enc := encI) (xs := xs) 1 rfl ?_
                  intro R3 hR3 hxr
                  refine W.freezeBlk 0 rfl ?_
                  intro R4 hR4 hb18
                  have hF : ∀ t : Nat, t < f2 + P → FnV Try.prog 61 ((#[] : Array Value).toList ++ [.int .i64 (t : Int)] ++ (#[.pointer (some ⟨b18, 0, none⟩)] : Array Value).toList) R4 (.int .i64 ((hG m1 m2 th) t)) := fun t ht => by
                    have h := RestFG_V (c := f2 + P) (xs := xs) (by rw [hxl]; exact hb18) (hxr.mono hR4) (t := t) (by omega)
                    rw [show nth xs t = (hG m1 m2 th) t by rw [hxv, fvals_nth _ (by omega)]] at h
                    exact h
                  refine W.seq ?_
                  refine W.region _ ?_
                  refine WG.run tab_ok 4 rfl ?_
                  refine WL.call en60 rfl rfl (by decide) (CallOp.mkT rfl rfl rfl rfl) (Build_C (S := f2) (P := P) (I := inc) (F := (hG m1 m2 th)) en61 (by omega) (by omega) (by omega) (fun t ht => hG_top hv1 hv2 (by omega)) hF w0 _) ?_
                  rintro _ R5 E5 hR5 ⟨ff, ffc, rfl, hff, hsub5⟩
                  refine WL.subE hsub5 ?_
                  rw [← hd] at hff ⊢
                  unfold cvV
                  refine WG.run tab_ok 2 rfl ?_
                  refine WL.efN rfl rfl (Ef.store0 1 tab_ok rfl rfl rfl rfl rfl rfl rfl rfl ?_)
                  refine WG.run tab_ok 1 rfl ?_
                  refine WG.nil ?_
                  refine WE.nxt ?_
                  refine W.ret ?_
                  refine WE.retF tab_ok [_, _] rfl ⟨⟨_, _, _, rfl, rfl, rfl, ((by first | exact Rd.blk 0 rfl | exact Rd.blk 1 rfl | exact Rd.blk 2 rfl | exact Rd.blk 3 rfl | exact Rd.blk 4 rfl | exact Rd.blk 5 rfl | exact Rd.blk 6 rfl | exact Rd.blk 7 rfl | exact Rd.blk 8 rfl | exact Rd.blk 9 rfl)), rfl⟩, rfl, trivial⟩ ((by first | exact hR1.trans hR2 | exact (hR1.trans hR2).trans hR3 | exact (hR1.trans hR2).trans (hR3.trans (hR4.trans hR5)))) ?_
                  exact ⟨ff, ffc, rfl, hff, qS⟩
              ·
                refine W.seq ?_
                refine W.region _ ?_
                refine' WG.y rfl rfl (by decide) (Yl.load1 tab_ok rfl rfl rfl (fun _ => rfl) ?r18 rfl ?h18) ?_
                case r18 => (exact Rd.blk 2 rfl)
                case h18 => rfl
                refine WG.callV en57 rfl rfl (by decide) (CallOp.mk' rfl rfl rfl rfl) (fun _ => rfl) (fun hg => WFiniteG_V hv1 ha1x) ?_
                refine WG.run tab_ok 1 rfl ?_
                refine WG.y rfl rfl (by decide) (pureV_ok tab_ok rfl qE) ?_
                refine WG.y rfl rfl (by decide) (pureV_ok tab_ok rfl qE) ?_
                refine WG.y rfl rfl (by decide) (Yl.pand rfl rfl rfl (fun _ => rfl) (by intro h1 h2; simp_all <;> omega)) ?_
                refine WG.nil ?_
                refine WE.nxt ?_
                refine W.cond rfl (fun hc7 => ?_) (fun hc7 => ?_)
                · try simp only [decide_eq_true_eq, decide_eq_false_iff_not, beq_iff_eq, bne_iff_ne, beq_eq_false_iff_ne, bne_eq_false_iff_eq, ne_eq, Bool.or_eq_true, Bool.or_eq_false_iff, Bool.and_eq_true, Bool.and_eq_false_imp, Bool.not_eq_true, Bool.not_eq_true', Bool.not_eq_false', Classical.not_not, Int.not_lt, Int.not_le, gt_iff_lt, ge_iff_le] at hc7
                  have hdc : (finB m1 = true ∧ 0 < driftG m1 m2) := by first | exact hc7 | simpa using hc7
                  refine W.seq ?_
                  refine W.seq ?_
                  refine W.region _ ?_
                  refine WG.run tab_ok 4 rfl ?_
                  refine WG.nil ?_
                  refine WE.nxt ?_
                  refine W.seq ?_
                  refine W.region _ ?_
                  refine WG.run tab_ok 2 rfl ?_
                  refine WG.nil ?_
                  refine WE.nxt ?_
                  refine W.condD rfl (fun hc8 => ?_) (fun hc8 => ?_)
                  · try dsimp only at hc8
                    refine W.region _ ?_
                    refine WG.run tab_ok 1 rfl ?_
                    refine WG.nil ?_
                    refine WE.nxt ?_
                    refine W.seq ?_
                    refine W.region _ ?_
                    refine' WG.y rfl rfl (by decide) (Yl.load1 tab_ok rfl rfl rfl (fun _ => rfl) ?r19 rfl ?h19) ?_
                    case r19 => (exact Rd.blk 0 rfl)
                    case h19 => rfl
                    refine WG.run tab_ok 2 rfl ?_
                    refine WG.callV (v := .int .i64 (leastG (rawG m1 m2 th) 400 (lcmC m1 m2))) en56 rfl rfl (by decide) (CallOp.mk' rfl rfl rfl rfl) (fun _ => rfl) (fun hg => GapLeastG_V (c1 := ca1x) (c2 := ca2x) hv1 ha1x hv2 ha2x (th := th) (a := 400) (n := lcmC m1 m2) (by omega)) ?_
                    refine WG.run tab_ok 1 rfl ?_
                    refine WG.nil ?_
                    refine WE.nxt ?_
                    refine W.condD rfl (fun hc9 => ?_) (fun hc9 => ?_)
                    · try dsimp only at hc9
                      have hd : shareN m1 m2 th = (zcv, 3) := by
                        rw [leastG_lt0 hlp] at hc9
                        unfold shareN; rw [if_neg hl1, if_neg hnf4, if_neg h400, if_pos hdc, if_pos]
                        (rw [show max (frG m1 m2 th) 400 = 400 by omega]; exact hc9)
                      refine W.seq ?_
                      refine W.region _ ?_
                      -- build
                      refine WG.y rfl rfl (by decide) (Yl.build (parts := []) tab_ok rfl rfl rfl rfl (fun _ => rfl) rfl rfl) ?_
                      refine WL.efN rfl rfl (Ef.store0 3 tab_ok rfl rfl rfl rfl rfl rfl rfl rfl ?_)
                      refine WG.run tab_ok 1 rfl ?_
                      refine WG.nil ?_
                      refine WE.nxt ?_
                      refine W.ret ?_
                      refine WE.then_ret ?_
                      refine WE.retF tab_ok [_, _] rfl ⟨⟨_, _, _, rfl, rfl, rfl, ((by first | exact Rd.blk 0 rfl | exact Rd.blk 1 rfl | exact Rd.blk 2 rfl | exact Rd.blk 3 rfl | exact Rd.blk 4 rfl | exact Rd.blk 5 rfl | exact Rd.blk 6 rfl | exact Rd.blk 7 rfl | exact Rd.blk 8 rfl | exact Rd.blk 9 rfl)), rfl⟩, rfl, trivial⟩ ((by first | exact hR1.trans hR2 | exact (hR1.trans hR2).trans hR3 | exact (hR1.trans hR2).trans (hR3.trans (hR4.trans hR5)))) ?_
                      exact ⟨none, 0, by rw [hd]; rfl, by rw [hd]; exact rs_nil, qS⟩
                    · try dsimp only at hc9
                      have hge : ¬ minF (rawG m1 m2 th) (max (frG m1 m2 th) 400) (lcmC m1 m2 - 1) < 0 := by
                        rw [← leastG_lt0 hlp]
                        (rw [show max (frG m1 m2 th) 400 = 400 by omega]; omega)
                      refine W.skip ?_
                      refine WE.cut (400, lcmC m1 m2, driftG m1 m2) (.inl ⟨hdc, by omega, rfl, rfl, hge⟩) ⟨rfl, rfl, rfl, rfl, rfl, rfl, rfl, rfl⟩ (RLe.refl _) qS
                  · try dsimp only at hc8
                    refine W.skip ?_
                    refine WE.nxt ?_
                    refine W.seq ?_
                    refine W.region _ ?_
                    refine' WG.y rfl rfl (by decide) (Yl.load1 tab_ok rfl rfl rfl (fun _ => rfl) ?r20 rfl ?h20) ?_
                    case r20 => (exact Rd.blk 0 rfl)
                    case h20 => rfl
                    refine WG.run tab_ok 2 rfl ?_
                    refine WG.callV (v := .int .i64 (leastG (rawG m1 m2 th) (frG m1 m2 th) (lcmC m1 m2))) en56 rfl rfl (by decide) (CallOp.mk' rfl rfl rfl rfl) (fun _ => rfl) (fun hg => GapLeastG_V (c1 := ca1x) (c2 := ca2x) hv1 ha1x hv2 ha2x (th := th) (a := frG m1 m2 th) (n := lcmC m1 m2) (by omega)) ?_
                    refine WG.run tab_ok 1 rfl ?_
                    refine WG.nil ?_
                    refine WE.nxt ?_
                    refine W.condD rfl (fun hc10 => ?_) (fun hc10 => ?_)
                    · try dsimp only at hc10
                      have hd : shareN m1 m2 th = (zcv, 3) := by
                        rw [leastG_lt0 hlp] at hc10
                        unfold shareN; rw [if_neg hl1, if_neg hnf4, if_neg h400, if_pos hdc, if_pos]
                        (rw [show max (frG m1 m2 th) 400 = frG m1 m2 th by omega]; exact hc10)
                      refine W.seq ?_
                      refine W.region _ ?_
                      -- build
                      refine WG.y rfl rfl (by decide) (Yl.build (parts := []) tab_ok rfl rfl rfl rfl (fun _ => rfl) rfl rfl) ?_
                      refine WL.efN rfl rfl (Ef.store0 3 tab_ok rfl rfl rfl rfl rfl rfl rfl rfl ?_)
                      refine WG.run tab_ok 1 rfl ?_
                      refine WG.nil ?_
                      refine WE.nxt ?_
                      refine W.ret ?_
                      refine WE.then_ret ?_
                      refine WE.retF tab_ok [_, _] rfl ⟨⟨_, _, _, rfl, rfl, rfl, ((by first | exact Rd.blk 0 rfl | exact Rd.blk 1 rfl | exact Rd.blk 2 rfl | exact Rd.blk 3 rfl | exact Rd.blk 4 rfl | exact Rd.blk 5 rfl | exact Rd.blk 6 rfl | exact Rd.blk 7 rfl | exact Rd.blk 8 rfl | exact Rd.blk 9 rfl)), rfl⟩, rfl, trivial⟩ ((by first | exact hR1.trans hR2 | exact (hR1.trans hR2).trans hR3 | exact (hR1.trans hR2).trans (hR3.trans (hR4.trans hR5)))) ?_
                      exact ⟨none, 0, by rw [hd]; rfl, by rw [hd]; exact rs_nil, qS⟩
                    · try dsimp only at hc10
                      have hge : ¬ minF (rawG m1 m2 th) (max (frG m1 m2 th) 400) (lcmC m1 m2 - 1) < 0 := by
                        rw [← leastG_lt0 hlp]
                        (rw [show max (frG m1 m2 th) 400 = frG m1 m2 th by omega]; omega)
                      refine W.skip ?_
                      refine WE.cut (frG m1 m2 th, lcmC m1 m2, driftG m1 m2) (.inl ⟨hdc, by omega, rfl, rfl, hge⟩) ⟨rfl, rfl, rfl, rfl, rfl, rfl, rfl, rfl⟩ (RLe.refl _) qS
                · try simp only [decide_eq_true_eq, decide_eq_false_iff_not, beq_iff_eq, bne_iff_ne, beq_eq_false_iff_ne, bne_eq_false_iff_eq, ne_eq, Bool.or_eq_true, Bool.or_eq_false_iff, Bool.and_eq_true, Bool.and_eq_false_imp, Bool.not_eq_true, Bool.not_eq_true', Bool.not_eq_false', Classical.not_not, Int.not_lt, Int.not_le, gt_iff_lt, ge_iff_le] at hc7
                  have hdc : ¬ (finB m1 = true ∧ 0 < driftG m1 m2) := fun h => by first | exact hc7 h | exact hc7 h.1 h.2 | (have := hc7 h.1; have := h.2; omega)
                  refine W.skip ?_
                  refine WE.cut (frG m1 m2 th, 1, 0) (.inr ⟨hdc, rfl, rfl, rfl⟩) ⟨rfl, rfl, rfl, rfl, rfl, rfl, rfl, rfl⟩ (RLe.refl _) qS

end Go.Proofs.Ytolmmfphdieilaa

/- Chapter 17: what its laws use. No condition. -/
set_option linter.unusedSimpArgs false
set_option linter.unusedVariables false
namespace Go.Proofs.Ytolmmfphdieilaa
open Go Go.RowKit Go.Proofs.Ytolmmfphdieilaa.K Go.Proofs.Ytolmmfphdieilaa.M

theorem share17 : shareN (normR (⟨[0], 1, 10⟩ : Cv)) (normR (⟨[0, 14, 14, 28], 2, 14⟩ : Cv)) 2 = (⟨[0, 0, 0, 16, 22], 2, 6⟩, 0) := by
  have e1 : normR (⟨[0], 1, 10⟩ : Cv) = (⟨[0], 1, 10⟩ : Cv) := by kernel_rfl
  have e2 : normR (⟨[0, 14, 14, 28], 2, 14⟩ : Cv) = ⟨[0, 14], 2, 14⟩ := by kernel_rfl
  rw [e1, e2]
  have hb : validB (⟨[0], 1, 10⟩ : Cv) = true := by kernel_rfl
  have ho : validB ⟨[0, 14], 2, 14⟩ = true := by kernel_rfl
  have fb : finB (⟨[0], 1, 10⟩ : Cv) = true := by kernel_rfl
  have fo : finB ⟨[0, 14], 2, 14⟩ = true := by kernel_rfl
  have hl : lcmC (⟨[0], 1, 10⟩ : Cv) ⟨[0, 14], 2, 14⟩ = 2 := by kernel_rfl
  have hd : driftG (⟨[0], 1, 10⟩ : Cv) ⟨[0, 14], 2, 14⟩ = 6 := by kernel_rfl
  have hfr : frG (⟨[0], 1, 10⟩ : Cv) ⟨[0, 14], 2, 14⟩ 2 = 3 := by kernel_rfl
  have hm : minF (rawG (⟨[0], 1, 10⟩ : Cv) ⟨[0, 14], 2, 14⟩ 2) 3 (2 - 1) = 16 := by kernel_rfl
  have hlate := raw_late (th := 2) hb ho fb fo (by omega) (S := 3) (by omega) (by rw [hl, hm]; decide)
  have r1 := share_rep1 (th := 2) hb ho fb fo (by omega) (S := 3) (by omega) (by omega) (by omega) hlate
  have r2 := share_rep1 (th := 2) hb ho fb fo (by omega) (S := 400) (by omega) (by omega) (by omega) (fun u hu => hlate u (by omega))
  have hneg : 0 ≤ minF (rawG (⟨[0], 1, 10⟩ : Cv) ⟨[0, 14], 2, 14⟩ 2) 400 (2 - 1) := minF_ge (fun u h1 h2 => hlate u (by omega))
  unfold shareN
  rw [if_neg (by omega), if_neg (fun h => by unfold flatB at h; rw [fo, hd] at h; rcases h with h | ⟨_, h | ⟨h, _⟩⟩ <;> first | cases h | omega), if_neg (by omega), if_pos ⟨fb, by omega⟩, hfr, show max 3 400 = 400 from rfl, hl, if_neg (by omega), hd]
  rw [hl, hd] at r1 r2
  rw [build_build_fin r2.hP r2.hg r1.hP r1.hg (fun t ht => r2.ne ht) (fun t ht => r1.ne ht)]
  show mbuild (hG (⟨[0], 1, 10⟩ : Cv) ⟨[0, 14], 2, 14⟩ 2) 3 2 6 = (⟨[0, 0, 0, 16, 22], 2, 6⟩, 0)
  kernel_rfl

set_option maxHeartbeats 1000000 in
theorem Awake17_C {R : Ro} (w0 : World) (E : List Ent) : K.Fn Try.prog 21 [] w0 R E (fun v R' E' => v = .bool true ∧ E.Sublist E') := by
  refine Fn.enter (n := 41) Try.func21 rfl rfl (Nat.le_of_ble_eq_true rfl) rfl ?_
  refine W.seq ?_
  refine W.region _ ?_
  refine WG.run tab_ok 1 rfl ?_
  refine WG.nil ?_
  refine WE.nxt ?_
  refine W.seq ?_
  refine W.region _ ?_
  refine WL.ef rfl rfl (by decide) (Ef.buildSliceD (enc := encI) (parts := [.const (.int .i64 0)]) [_] tab_ok rfl rfl rfl rfl rfl rfl rfl rfl (by decide) (by decide) (fun a5 => ?_))
  refine WL.freeze (enc := encI) (xs := ([0] : List Int)) 0 rfl ?_
  intro R1 hR1 hc1
  -- build
  refine WG.y rfl rfl (by decide) (Yl.build (parts := [(0, .tmp 5), (1, .const (.int .i64 1)), (2, .const (.int .i64 10))]) tab_ok rfl rfl rfl rfl (fun _ => rfl) rfl rfl) ?_
  refine WL.ef rfl rfl (by decide) (Ef.buildSliceD (enc := encI) (parts := [.const (.int .i64 0), .const (.int .i64 14), .const (.int .i64 14), .const (.int .i64 28)]) [_, _, _, _] tab_ok rfl rfl rfl rfl rfl rfl rfl rfl (by decide) (by decide) (fun a7 => ?_))
  refine WL.freeze (enc := encI) (xs := ([0, 14, 14, 28] : List Int)) 0 rfl ?_
  intro R2 hR2 hc2
  have hc1 := hc1.mono hR2
  -- build
  refine WG.y rfl rfl (by decide) (Yl.build (parts := [(0, .tmp 7), (1, .const (.int .i64 2)), (2, .const (.int .i64 14))]) tab_ok rfl rfl rfl rfl (fun _ => rfl) rfl rfl) ?_
  refine WL.ef rfl rfl (by decide) (Ef.alloc tab_ok rfl rfl (fun b1 => ?_))
  refine WL.ef rfl rfl (by decide) (Ef.alloc tab_ok rfl rfl (fun b2 => ?_))
  refine WL.efN rfl rfl (Ef.store0 1 tab_ok rfl rfl rfl rfl rfl rfl rfl rfl ?_)
  refine WL.efN rfl rfl (Ef.store0 0 tab_ok rfl rfl rfl rfl rfl rfl rfl rfl ?_)
  refine WG.nil ?_
  refine WE.nxt ?_
  refine W.seq ?_
  refine W.region _ ?_
  refine' WG.y rfl rfl (by decide) (Yl.load1 tab_ok rfl rfl rfl (fun _ => rfl) ?r1 rfl ?h1) ?_
  case r1 => (exact Rd.blk 1 rfl)
  case h1 => rfl
  refine' WG.y rfl rfl (by decide) (Yl.load1 tab_ok rfl rfl rfl (fun _ => rfl) ?r2 rfl ?h2) ?_
  case r2 => (exact Rd.blk 0 rfl)
  case h2 => rfl
  refine WL.call en14 rfl rfl (by decide) (CallOp.mkT rfl rfl rfl rfl) (SRestG_C (cf := (⟨[0], 1, 10⟩ : Cv)) (cg := (⟨[0, 14, 14, 28], 2, 14⟩ : Cv)) (th := 2) (by kernel_rfl) hc1 (by kernel_rfl) hc2 (by decide) w0 _) ?_
  rintro _ R3 E2 hR3 ⟨f1, fc1, rfl, hf1, hsub2⟩
  rw [share17] at hf1 ⊢
  refine WL.subE hsub2 ?_
  unfold cvV
  refine WG.run tab_ok 3 rfl ?_
  refine WL.ef rfl rfl (by decide) (Ef.alloc tab_ok rfl rfl (fun b3 => ?_))
  refine WL.efN rfl rfl (Ef.store0 0 tab_ok rfl rfl rfl rfl rfl rfl rfl rfl ?_)
  refine WG.run tab_ok 1 rfl ?_
  refine WG.nil ?_
  refine WE.nxt ?_
  refine W.seq ?_
  refine W.region _ ?_
  refine WG.run tab_ok 3 rfl ?_
  refine WL.guardT rfl (by rfl) ?_
  refine' WG.y rfl rfl (by decide) (Yl.load1 tab_ok rfl rfl rfl (fun _ => rfl) ?r3 rfl ?h3) ?_
  case r3 => (exact Rd.blk 0 rfl)
  case h3 => rfl
  refine WL.guardT rfl (by rfl) ?_
  refine WG.callV (v := .bool true) en71 rfl rfl (by decide) (CallOp.mk' rfl rfl rfl rfl) (fun _ => rfl) (fun hg => by
    have h := Valid_V (per := 2) (inc := 6) (c := fc1) hf1 (by constructor <;> decide) (by constructor <;> decide) (by decide)
    exact h) ?_
  refine WG.y rfl rfl (by decide) (Yl.pand rfl rfl rfl (fun _ => rfl) (by intro h1 h2; simp_all <;> omega)) ?_
  refine WG.run tab_ok 1 rfl ?_
  refine WL.guardT rfl (by rfl) ?_
  refine' WG.y rfl rfl (by decide) (Yl.load1 tab_ok rfl rfl rfl (fun _ => rfl) ?r4 rfl ?h4) ?_
  case r4 => (exact Rd.blk 0 rfl)
  case h4 => rfl
  refine WL.guardT rfl (by rfl) ?_
  refine WG.callV (v := .int .i64 0) en18 rfl rfl (by decide) (CallOp.mk' rfl rfl rfl rfl) (fun _ => rfl) (fun hg => by
    have h := At_V (t := 2) (per := 2) (inc := 6) (c := fc1) hf1 (by constructor <;> decide) ⟨by constructor <;> decide, by decide⟩ (by decide) (by decide)
    exact h) ?_
  refine WL.guardT rfl (by rfl) ?_
  refine WG.y rfl rfl (by decide) (pureV_ok tab_ok rfl (fun _ => rfl)) ?_
  refine WG.y rfl rfl (by decide) (Yl.pand rfl rfl rfl (fun _ => rfl) (by intro h1 h2; simp_all <;> omega)) ?_
  refine WG.run tab_ok 1 rfl ?_
  refine WL.guardT rfl (by rfl) ?_
  refine' WG.y rfl rfl (by decide) (Yl.load1 tab_ok rfl rfl rfl (fun _ => rfl) ?r5 rfl ?h5) ?_
  case r5 => (exact Rd.blk 0 rfl)
  case h5 => rfl
  refine WL.guardT rfl (by rfl) ?_
  refine WG.callV (v := .int .i64 16) en18 rfl rfl (by decide) (CallOp.mk' rfl rfl rfl rfl) (fun _ => rfl) (fun hg => by
    have h := At_V (t := 3) (per := 2) (inc := 6) (c := fc1) hf1 (by constructor <;> decide) ⟨by constructor <;> decide, by decide⟩ (by decide) (by decide)
    exact h) ?_
  refine WL.guardT rfl (by rfl) ?_
  refine WG.y rfl rfl (by decide) (pureV_ok tab_ok rfl (fun _ => rfl)) ?_
  refine WG.y rfl rfl (by decide) (Yl.pand rfl rfl rfl (fun _ => rfl) (by intro h1 h2; simp_all <;> omega)) ?_
  refine WG.run tab_ok 1 rfl ?_
  refine WL.guardT rfl (by rfl) ?_
  refine' WG.y rfl rfl (by decide) (Yl.load1 tab_ok rfl rfl rfl (fun _ => rfl) ?r6 rfl ?h6) ?_
  case r6 => (exact Rd.blk 0 rfl)
  case h6 => rfl
  refine WL.guardT rfl (by rfl) ?_
  refine WG.callV (v := .int .i64 22) en18 rfl rfl (by decide) (CallOp.mk' rfl rfl rfl rfl) (fun _ => rfl) (fun hg => by
    have h := At_V (t := 5) (per := 2) (inc := 6) (c := fc1) hf1 (by constructor <;> decide) ⟨by constructor <;> decide, by decide⟩ (by decide) (by decide)
    exact h) ?_
  refine WL.guardT rfl (by rfl) ?_
  refine WG.y rfl rfl (by decide) (pureV_ok tab_ok rfl (fun _ => rfl)) ?_
  refine WG.y rfl rfl (by decide) (Yl.pand rfl rfl rfl (fun _ => rfl) (by intro h1 h2; simp_all <;> omega)) ?_
  refine WG.run tab_ok 1 rfl ?_
  refine WL.guardT rfl (by rfl) ?_
  refine' WG.y rfl rfl (by decide) (Yl.load1 tab_ok rfl rfl rfl (fun _ => rfl) ?r7 rfl ?h7) ?_
  case r7 => (exact Rd.blk 0 rfl)
  case h7 => rfl
  refine WL.guardT rfl (by rfl) ?_
  refine WG.callV (v := .int .i64 28) en18 rfl rfl (by decide) (CallOp.mk' rfl rfl rfl rfl) (fun _ => rfl) (fun hg => by
    have h := At_V (t := 6) (per := 2) (inc := 6) (c := fc1) hf1 (by constructor <;> decide) ⟨by constructor <;> decide, by decide⟩ (by decide) (by decide)
    exact h) ?_
  refine WL.guardT rfl (by rfl) ?_
  refine WG.y rfl rfl (by decide) (pureV_ok tab_ok rfl (fun _ => rfl)) ?_
  refine WG.y rfl rfl (by decide) (Yl.pand rfl rfl rfl (fun _ => rfl) (by intro h1 h2; simp_all <;> omega)) ?_
  refine WG.run tab_ok 1 rfl ?_
  refine WG.nil ?_
  refine WE.nxt ?_
  refine W.ret ?_
  refine WE.retF tab_ok [_] rfl ⟨rfl, trivial⟩ (hR1.trans (hR2.trans hR3)) ?_
  exact ⟨rfl, qS⟩

end Go.Proofs.Ytolmmfphdieilaa

/- Reference 17: parts. No condition. -/
set_option linter.unusedSimpArgs false
set_option linter.unusedVariables false
namespace Go.Proofs.Ytolmmfphdieilaa
open Go Go.RowKit Go.Proofs.Ytolmmfphdieilaa.K Go.Proofs.Ytolmmfphdieilaa.M

theorem Slopes05_V {R : Ro} {a1 : Option Addr} {c1 : Nat} {m1 : Cv} (hv1 : validB m1 = true) (hx1 : RS R 1 encI a1 m1.vals) {a2 : Option Addr} {c2 : Nat} {m2 : Cv} (hv2 : validB m2 = true) (hx2 : RS R 1 encI a2 m2.vals) {L : Nat} (hL : L ≤ 10000) : FnV Try.prog 64 [.agg #[.slice a1 m1.vals.length c1, .int .i64 m1.per, .int .i64 m1.inc], .agg #[.slice a2 m2.vals.length c2, .int .i64 m2.per, .int .i64 m2.inc], .int .i64 (L : Int)] R (.int .i64 (gainC m1 L - gainC m2 L)) := by
  refine Fn.toV (fun w0 E => ?_)
  obtain ⟨_, _, _, p1, p2, p3, p4, p5⟩ := valid_range hv1
  obtain ⟨_, _, _, q1, q2, q3, q4, q5⟩ := valid_range hv2
  have d0 : 0 ≤ (L : Int) / m1.per := Int.ediv_nonneg (by omega) (by omega)
  have d1 : (L : Int) / m1.per ≤ L := Int.ediv_le_self _ (by omega)
  have e0 : 0 ≤ (L : Int) / m2.per := Int.ediv_nonneg (by omega) (by omega)
  have e1 : (L : Int) / m2.per ≤ L := Int.ediv_le_self _ (by omega)
  have h1 := mulB (a := m1.inc) (b := (L : Int) / m1.per) (A := 1073741824) (B := 10000) (by omega) (by omega)
  have h2 := mulB (a := m2.inc) (b := (L : Int) / m2.per) (A := 1073741824) (B := 10000) (by omega) (by omega)
  have hr : m1.inc * ((L : Int) / m1.per) - m2.inc * ((L : Int) / m2.per) = gainC m1 L - gainC m2 L := by unfold gainC; rw [Int.mul_comm m1.inc, Int.mul_comm m2.inc]
  refine Fn.enter (n := 22) Try.func64 rfl rfl (Nat.le_of_ble_eq_true rfl) rfl ?_
  refine W.seq ?_
  refine W.region _ ?_
  refine WL.ef rfl rfl (by decide) (Ef.box rfl rfl (fun b3 => ?_))
  refine WL.ef rfl rfl (by decide) (Ef.box rfl rfl (fun b4 => ?_))
  refine WG.run tab_ok 1 rfl ?_
  refine WG.nil ?_
  refine WE.nxt ?_
  refine W.seq ?_
  refine W.regionQ _ mixed (by kernel_rfl) ?_
  refine WG.run tab_ok 1 rfl ?_
  refine' WG.y rfl rfl (by decide) (Yl.load1 tab_ok rfl rfl rfl (fun _ => rfl) ?r1 rfl ?h1) ?_
  case r1 => apply Rd.add; (exact Rd.blk 1 rfl)
  case h1 => rfl
  refine WG.run tab_ok 2 rfl ?_
  refine' WG.y rfl rfl (by decide) (Yl.load1 tab_ok rfl rfl rfl (fun _ => rfl) ?r2 rfl ?h2) ?_
  case r2 => apply Rd.add; (exact Rd.blk 1 rfl)
  case h2 => rfl
  refine WG.y rfl rfl (by decide) (Yl.quo rfl rfl rfl (fun _ => rfl) (by intro _; constructor <;> (try dsimp only) <;> omega) (by intro _; omega)) ?_
  refine WG.y rfl rfl (by decide) (Yl.mul rfl rfl rfl (fun _ => rfl) (by intro _; constructor <;> (try dsimp only) <;> omega)) ?_
  refine WG.run tab_ok 1 rfl ?_
  refine' WG.y rfl rfl (by decide) (Yl.load1 tab_ok rfl rfl rfl (fun _ => rfl) ?r3 rfl ?h3) ?_
  case r3 => apply Rd.add; (exact Rd.blk 0 rfl)
  case h3 => rfl
  refine WG.run tab_ok 2 rfl ?_
  refine' WG.y rfl rfl (by decide) (Yl.load1 tab_ok rfl rfl rfl (fun _ => rfl) ?r4 rfl ?h4) ?_
  case r4 => apply Rd.add; (exact Rd.blk 0 rfl)
  case h4 => rfl
  refine WG.y rfl rfl (by decide) (Yl.quo rfl rfl rfl (fun _ => rfl) (by intro _; constructor <;> (try dsimp only) <;> omega) (by intro _; omega)) ?_
  refine WG.y rfl rfl (by decide) (Yl.mul rfl rfl rfl (fun _ => rfl) (by intro _; constructor <;> (try dsimp only) <;> omega)) ?_
  refine WG.y rfl rfl (by decide) (Yl.sub rfl rfl rfl (fun _ => rfl) (by intro _; constructor <;> (try dsimp only) <;> omega)) ?_
  refine WG.run tab_ok 1 rfl ?_
  refine WG.nil ?_
  refine WE.nxt ?_
  refine W.ret ?_
  refine WE.subE (E' := E) qS ?_
  refine WE.retF tab_ok [_] rfl ⟨rfl, trivial⟩ (RLe.refl _) ?_
  exact ⟨by rw [← hr]; rfl, rfl⟩

theorem Flat02K_C {R : Ro} {k : Int} (hk : 0 ≤ k ∧ k ≤ 1073741824) (w0 : World) (E : List Ent) : K.Fn Try.prog 13 [.int .i64 k] w0 R E (fun r R' E' => ∃ (f : Option Addr) (fc : Nat), r = cvV f fc (flatC k) ∧ RS R' 1 encI f (flatC k).1.vals ∧ (flatC k).1.vals.length ≤ fc ∧ E.Sublist E') := by
  have hmn : (if (1073741825 : Int) < k then (1073741825 : Int) else k) = k := if_neg (by omega)
  have hg1 : Grows (flatF k) 1 1 0 := fun t ht => by unfold flatF; rw [if_neg (by omega), if_neg (by omega)]; omega
  have hm : ∀ t, flatF k t ≤ flatF k (t + 1) := fun t => by unfold flatF; rw [if_neg (show ¬ t + 1 = 0 by omega)]; split <;> omega
  have hfb : ∀ t, 0 ≤ flatF k t ∧ flatF k t ≤ 1073741824 := fun t => by unfold flatF; split <;> omega
  have hv2 : fvals (flatF k) (1 + 1) = [0, k] := by simp [fvals, flatF, List.range_succ]
  have hd : flatC k = madeR ⟨[0, k], ((1 : Nat) : Int), 0⟩ := by
    have := build_made_fin (F := flatF k) (S := 1) (P := 1) (S' := 1) (P' := 1) (by decide) (by decide) hg1 (by decide) (by decide) hg1 hm (hfb 0).1 (fun t _ => by have := hfb t; unfold INF; omega) (fun t _ => by have := hfb t; unfold INF; omega)
    rw [hv2] at this
    exact this
  have hmk : MadeOk [0, k] ((1 : Nat) : Int) 0 := by
    have := madeOk_fin (F := flatF k) (S := 1) (P := 1) (I := 0) ⟨by decide, by decide⟩ (by decide) ⟨by decide, by decide⟩ hg1 (fun t _ => by have := hfb t; omega)
    rw [hv2] at this
    exact this
  refine Fn.enter (n := 14) Try.func13 rfl rfl (Nat.le_of_ble_eq_true rfl) rfl ?_
  refine W.seq ?_
  refine W.region _ ?_
  refine WL.ef rfl rfl (by decide) (Ef.alloc tab_ok rfl rfl (fun b2 => ?_))
  refine WG.run tab_ok 1 rfl ?_
  refine WG.nil ?_
  refine WE.nxt ?_
  refine W.seq ?_
  refine W.seq ?_
  refine W.region _ ?_
  refine WG.run tab_ok 2 rfl ?_
  refine WG.nil ?_
  refine WE.nxt ?_
  refine W.condD rfl (fun hc0 => ?_) (fun hc0 => ?_)
  · try dsimp only at hc0
    omega
  · try dsimp only at hc0
    refine W.skip ?_
    refine WE.nxt ?_
    refine W.seq ?_
    refine W.region _ ?_
    refine WG.run tab_ok 2 rfl ?_
    rw [hmn]
    refine WL.ef rfl rfl (by decide) (Ef.buildSliceD (enc := encI) (parts := [.const (.int .i64 0), .tmp 8]) [0, k] tab_ok rfl rfl rfl rfl rfl rfl rfl rfl (by decide) (by decide) (fun a9 => ?_))
    -- build
    refine WG.y rfl rfl (by decide) (Yl.build (parts := [(0, .tmp 9), (1, .const (.int .i64 1))]) tab_ok rfl rfl rfl rfl (fun _ => rfl) rfl rfl) ?_
    refine WL.freeze (enc := encI) (xs := [0, k]) 0 rfl ?_
    intro R1 hR1 hv0
    refine WL.call en51 rfl rfl (by decide) (CallOp.mkT rfl rfl rfl rfl) (MadeGK_C (cc := 2) hv0 (by show 2 ≤ 100000; decide) hmk (Nat.le_refl 2) w0 _) ?_
    rintro _ R4 E4 hR4 ⟨f, fc4, rfl, hf4, hcp4, hsub4⟩
    refine WL.subE hsub4 ?_
    rw [← hd] at hf4 hcp4 ⊢
    unfold cvV
    refine WG.run tab_ok 2 rfl ?_
    refine WL.efN rfl rfl (Ef.store0 0 tab_ok rfl rfl rfl rfl rfl rfl rfl rfl ?_)
    refine WG.run tab_ok 1 rfl ?_
    refine WG.nil ?_
    refine WE.nxt ?_
    refine W.ret ?_
    refine WE.retF tab_ok [_, _] rfl ⟨⟨_, _, _, rfl, rfl, rfl, ((by first | exact Rd.blk 0 rfl | exact Rd.blk 1 rfl | exact Rd.blk 2 rfl | exact Rd.blk 3 rfl)), rfl⟩, rfl, trivial⟩ (hR1.trans hR4) ?_
    exact ⟨f, fc4, rfl, hf4, hcp4, qS⟩

theorem Flat02_C {R : Ro} {k : Int} (hk : 0 ≤ k ∧ k ≤ 1073741824) (w0 : World) (E : List Ent) : K.Fn Try.prog 13 [.int .i64 k] w0 R E (fun r R' E' => ∃ (f : Option Addr) (fc : Nat), r = cvV f fc (flatC k) ∧ RS R' 1 encI f (flatC k).1.vals ∧ E.Sublist E') := by
  refine (Flat02K_C hk w0 E).mono ?_
  rintro _ R' E' - ⟨f, fc, rfl, hf, _, hsub⟩
  exact ⟨f, fc, rfl, hf, hsub⟩

theorem MadeGLK_C {R : Ro} {a : Option Addr} {cc l : Nat} {v : List Int} {per inc : Int} (ha : RS R 1 encI a v) (hvl : v.length = l) (hl : l ≤ 100000) (hok : MadeOk v per inc) (hac : l ≤ cc) (w0 : World) (E : List Ent) : K.Fn Try.prog 51 [.agg #[.slice a l cc, .int .i64 per, .int .i64 inc]] w0 R E (fun r R' E' => ∃ (f : Option Addr) (fc : Nat), r = cvV f fc (madeR ⟨v, per, inc⟩) ∧ RS R' 1 encI f (madeR ⟨v, per, inc⟩).1.vals ∧ (madeR ⟨v, per, inc⟩).1.vals.length ≤ fc ∧ E.Sublist E') := by
  subst hvl
  exact MadeGK_C ha hl hok hac w0 E

end Go.Proofs.Ytolmmfphdieilaa

/- Above of chapter 6; values. No condition. -/
set_option linter.unusedSimpArgs false
set_option linter.unusedVariables false
namespace Go.Proofs.Ytolmmfphdieilaa
open Go Go.RowKit Go.Proofs.Ytolmmfphdieilaa.K Go.Proofs.Ytolmmfphdieilaa.M

theorem Diff06_V {R : Ro} {a1 : Option Addr} {c1 : Nat} {m1 : Cv} (hv1 : validB m1 = true) (hx1 : RS R 1 encI a1 m1.vals) {a2 : Option Addr} {c2 : Nat} {m2 : Cv} (hv2 : validB m2 = true) (hx2 : RS R 1 encI a2 m2.vals) (f1 : finB m1 = true) (f2 : finB m2 = true) {u : Nat} (hu : u ≤ 4000000) : FnV Try.prog 65 [.agg #[.slice a1 m1.vals.length c1, .int .i64 m1.per, .int .i64 m1.inc], .agg #[.slice a2 m2.vals.length c2, .int .i64 m2.per, .int .i64 m2.inc], .int .i64 (u : Int)] R (.int .i64 (diffA m1 m2 u)) := by
  refine Fn.toV (fun w0 E => ?_)
  have b1 := fin_bound hv1 f1 u
  have b2 := fin_bound hv2 f2 u
  have n1 := (cvF_bound hv1 u).1
  have n2 := (cvF_bound hv2 u).1
  have hr : diffA m1 m2 u = if 0 < cvF m1 u - cvF m2 u then cvF m1 u - cvF m2 u else 0 := by unfold diffA; split <;> omega
  refine Fn.enter (n := 25) Try.func65 rfl rfl (Nat.le_of_ble_eq_true rfl) rfl ?_
  refine W.seq ?_
  refine W.region _ ?_
  refine WL.ef rfl rfl (by decide) (Ef.box rfl rfl (fun b3 => ?_))
  refine WL.ef rfl rfl (by decide) (Ef.box rfl rfl (fun b4 => ?_))
  refine WG.run tab_ok 1 rfl ?_
  refine WG.nil ?_
  refine WE.nxt ?_
  refine W.seq ?_
  refine W.regionQ _ mixed (by kernel_rfl) ?_
  refine' WG.y rfl rfl (by decide) (Yl.load1 tab_ok rfl rfl rfl (fun _ => rfl) ?r1 rfl ?h1) ?_
  case r1 => (exact Rd.blk 1 rfl)
  case h1 => rfl
  refine WG.run tab_ok 1 rfl ?_
  refine WG.callV (v := .int .i64 (cvF m1 u)) en18 rfl rfl (by decide) (CallOp.mk' rfl rfl rfl rfl) (fun _ => rfl) (fun hg => AtG_V hv1 hx1 (by omega)) ?_
  refine' WG.y rfl rfl (by decide) (Yl.load1 tab_ok rfl rfl rfl (fun _ => rfl) ?r2 rfl ?h2) ?_
  case r2 => (exact Rd.blk 0 rfl)
  case h2 => rfl
  refine WG.run tab_ok 1 rfl ?_
  refine WG.callV (v := .int .i64 (cvF m2 u)) en18 rfl rfl (by decide) (CallOp.mk' rfl rfl rfl rfl) (fun _ => rfl) (fun hg => AtG_V hv2 hx2 (by omega)) ?_
  refine WG.run tab_ok 2 rfl ?_
  refine WG.nil ?_
  refine WE.nxt ?_
  refine W.seq ?_
  refine W.block ?_
  refine W.seq ?_
  refine W.region _ ?_
  refine WG.run tab_ok 3 rfl ?_
  refine WG.nil ?_
  refine WE.nxt ?_
  refine W.condE rfl (fun hc0 => ?_) (fun hc0 => ?_)
  · try dsimp only at hc0
    omega
  · try dsimp only at hc0
    refine W.seq ?_
    refine W.region _ ?_
    refine WG.run tab_ok 3 rfl ?_
    refine WG.nil ?_
    refine WE.nxt ?_
    refine W.condE rfl (fun hc1 => ?_) (fun hc1 => ?_)
    · try dsimp only at hc1
      omega
    · try dsimp only at hc1
      refine W.skip ?_
      refine WE.blk _ ?_
      refine WE.nxt ?_
      refine W.seq ?_
      refine W.region _ ?_
      refine WG.run tab_ok 2 rfl ?_
      refine WG.y rfl rfl (by decide) (Yl.sub rfl rfl rfl (fun _ => rfl) (by intro _; constructor <;> (try dsimp only) <;> omega)) ?_
      refine WG.run tab_ok 2 rfl ?_
      refine WG.nil ?_
      refine WE.nxt ?_
      refine W.ret ?_
      refine WE.subE (E' := E) qS ?_
      refine WE.retF tab_ok [_] rfl ⟨rfl, trivial⟩ (RLe.refl _) ?_
      exact ⟨by rw [hr]; rfl, rfl⟩

theorem Raw06_V {R : Ro} {a1 : Option Addr} {c1 : Nat} {m1 : Cv} (hv1 : validB m1 = true) (hx1 : RS R 1 encI a1 m1.vals) {a2 : Option Addr} {c2 : Nat} {m2 : Cv} (hv2 : validB m2 = true) (hx2 : RS R 1 encI a2 m2.vals) (f1 : finB m1 = true) (f2 : finB m2 = true) {u : Nat} (hu : u ≤ 4000000) : FnV Try.prog 66 [.agg #[.slice a1 m1.vals.length c1, .int .i64 m1.per, .int .i64 m1.inc], .agg #[.slice a2 m2.vals.length c2, .int .i64 m2.per, .int .i64 m2.inc], .int .i64 (u : Int)] R (.int .i64 (cvF m1 u - cvF m2 u)) := by
  refine Fn.toV (fun w0 E => ?_)
  have b1 := fin_bound hv1 f1 u
  have b2 := fin_bound hv2 f2 u
  have n1 := (cvF_bound hv1 u).1
  have n2 := (cvF_bound hv2 u).1
  refine Fn.enter (n := 14) Try.func66 rfl rfl (Nat.le_of_ble_eq_true rfl) rfl ?_
  refine W.seq ?_
  refine W.region _ ?_
  refine WL.ef rfl rfl (by decide) (Ef.box rfl rfl (fun b3 => ?_))
  refine WL.ef rfl rfl (by decide) (Ef.box rfl rfl (fun b4 => ?_))
  refine WG.run tab_ok 1 rfl ?_
  refine WG.nil ?_
  refine WE.nxt ?_
  refine W.seq ?_
  refine W.regionQ _ mixed (by kernel_rfl) ?_
  refine' WG.y rfl rfl (by decide) (Yl.load1 tab_ok rfl rfl rfl (fun _ => rfl) ?r1 rfl ?h1) ?_
  case r1 => (exact Rd.blk 1 rfl)
  case h1 => rfl
  refine WG.run tab_ok 1 rfl ?_
  refine WG.callV (v := .int .i64 (cvF m1 u)) en18 rfl rfl (by decide) (CallOp.mk' rfl rfl rfl rfl) (fun _ => rfl) (fun hg => AtG_V hv1 hx1 (by omega)) ?_
  refine' WG.y rfl rfl (by decide) (Yl.load1 tab_ok rfl rfl rfl (fun _ => rfl) ?r2 rfl ?h2) ?_
  case r2 => (exact Rd.blk 0 rfl)
  case h2 => rfl
  refine WG.run tab_ok 1 rfl ?_
  refine WG.callV (v := .int .i64 (cvF m2 u)) en18 rfl rfl (by decide) (CallOp.mk' rfl rfl rfl rfl) (fun _ => rfl) (fun hg => AtG_V hv2 hx2 (by omega)) ?_
  refine WG.y rfl rfl (by decide) (Yl.sub rfl rfl rfl (fun _ => rfl) (by intro _; constructor <;> (try dsimp only) <;> omega)) ?_
  refine WG.run tab_ok 1 rfl ?_
  refine WG.nil ?_
  refine WE.nxt ?_
  refine W.ret ?_
  refine WE.subE (E' := E) qS ?_
  refine WE.retF tab_ok [_] rfl ⟨rfl, trivial⟩ (RLe.refl _) ?_
  exact ⟨rfl, rfl⟩

set_option maxHeartbeats 4000000 in
theorem Above06_C {R : Ro} {fa : Option Addr} {fc : Nat} {cf : Cv} (hvf : validB cf = true) (ha : RS R 1 encI fa cf.vals) (hcap : cf.vals.length ≤ fc) {ga : Option Addr} {gc : Nat} {cg : Cv} (hvg : validB cg = true) (hb : RS R 1 encI ga cg.vals) (hcapd : cg.vals.length ≤ gc) (ff : finB cf = true) (fg : finB cg = true) (h00 : cvF cf 0 ≤ cvF cg 0) (w0 : World) (E : List Ent) : K.Fn Try.prog 15 [.agg #[.slice fa cf.vals.length fc, .int .i64 cf.per, .int .i64 cf.inc], .agg #[.slice ga cg.vals.length gc, .int .i64 cg.per, .int .i64 cg.inc]] w0 R E (fun r R' E' => ∃ (f : Option Addr) (fc : Nat), r = cvV f fc (shareN (normR cf) (normR cg) 0) ∧ RS R' 1 encI f (shareN (normR cf) (normR cg) 0).1.vals ∧ E.Sublist E') := by
  have hnf := norm_nrm hvf
  have hng := norm_nrm hvg
  have f1 : finB (normR cf) = true := by rw [(norm_valid hvf).2.2.2.1]; exact ff
  have f2 : finB (normR cg) = true := by rw [(norm_valid hvg).2.2.2.1]; exact fg
  rw [← (norm_valid hvf).2.1, ← (norm_valid hvg).2.1] at h00
  refine Fn.enter (n := 100) Try.func15 rfl rfl (Nat.le_of_ble_eq_true rfl) rfl ?_
  refine W.seq ?_
  refine W.region _ ?_
  refine WL.ef rfl rfl (by decide) (Ef.box rfl rfl (fun b2 => ?_))
  refine WL.ef rfl rfl (by decide) (Ef.box rfl rfl (fun b3 => ?_))
  refine WL.ef rfl rfl (by decide) (Ef.alloc tab_ok rfl rfl (fun b4 => ?_))
  refine WG.run tab_ok 1 rfl ?_
  refine WG.nil ?_
  refine WE.nxt ?_
  refine W.seq ?_
  refine W.region _ ?_
  refine' WG.y rfl rfl (by decide) (Yl.load1 tab_ok rfl rfl rfl (fun _ => rfl) ?r1 rfl ?h1) ?_
  case r1 => (exact Rd.blk 2 rfl)
  case h1 => rfl
  refine' WG.y rfl rfl (by decide) (Yl.load1 tab_ok rfl rfl rfl (fun _ => rfl) ?r2 rfl ?h2) ?_
  case r2 => (exact Rd.blk 1 rfl)
  case h2 => rfl
  refine WL.call en62 rfl rfl (by decide) (CallOp.mkT rfl rfl rfl rfl) (Pair05_C hvf ha hcap hvg hb hcapd w0 _) ?_
  rintro _ R1 _ hR1 ⟨fa1x, ca1x, fa2x, ca2x, rfl, ha1x, ha2x, hsub1⟩
  refine WL.subE hsub1 ?_
  generalize normR cf = m1 at *
  generalize normR cg = m2 at *
  have hv1 := hnf.valid
  have hv2 := hng.valid
  have hlp := lcm_pos hv1 hv2
  have hs1 := stN_lt hv1
  have hs2 := stN_lt hv2
  have hlle := lcmC_le hv1 hv2
  refine WG.run tab_ok 5 rfl ?_
  refine WL.ef rfl rfl (by decide) (Ef.alloc tab_ok rfl rfl (fun b6 => ?_))
  refine WL.ef rfl rfl (by decide) (Ef.alloc tab_ok rfl rfl (fun b7 => ?_))
  refine WL.efN rfl rfl (Ef.store0 1 tab_ok rfl rfl rfl rfl rfl rfl rfl rfl ?_)
  refine WL.efN rfl rfl (Ef.store0 0 tab_ok rfl rfl rfl rfl rfl rfl rfl rfl ?_)
  refine WG.run tab_ok 2 rfl ?_
  refine WG.nil ?_
  refine WE.nxt ?_
  refine W.seq ?_
  refine W.seq ?_
  refine W.region _ ?_
  refine WG.run tab_ok 2 rfl ?_
  refine WG.nil ?_
  refine WE.nxt ?_
  refine W.condN rfl (fun hc0 => ?_) (fun hc0 => ?_)
  · try dsimp only at hc0
    have hl1 : 120 < lcmC m1 m2 := by
      apply Classical.byContradiction
      intro h
      rw [if_neg h] at hc0
      exact hc0 rfl
    rw [if_pos hl1]
    have hd : shareN m1 m2 0 = (zcv, 3) := by unfold shareN; rw [if_pos hl1]
    refine W.seq ?_
    refine W.region _ ?_
    -- build
    refine WG.y rfl rfl (by decide) (Yl.build (parts := []) tab_ok rfl rfl rfl rfl (fun _ => rfl) rfl rfl) ?_
    refine WG.run tab_ok 1 rfl ?_
    refine WL.efN rfl rfl (Ef.store0 2 tab_ok rfl rfl rfl rfl rfl rfl rfl rfl ?_)
    refine WG.run tab_ok 1 rfl ?_
    refine WG.nil ?_
    refine WE.nxt ?_
    refine W.ret ?_
    refine WE.then_ret ?_
    refine WE.retF tab_ok [_, _] rfl ⟨⟨_, _, _, rfl, rfl, rfl, ((by first | exact Rd.blk 0 rfl | exact Rd.blk 1 rfl | exact Rd.blk 2 rfl | exact Rd.blk 3 rfl | exact Rd.blk 4 rfl | exact Rd.blk 5 rfl | exact Rd.blk 6 rfl | exact Rd.blk 7 rfl | exact Rd.blk 8 rfl)), rfl⟩, rfl, trivial⟩ ((by first | exact hR1 | exact hR1.trans hR3 | exact hR1.trans hR4 | exact hR1.trans (hR4.trans hR5))) ?_
    exact ⟨none, 0, by rw [hd]; rfl, by rw [hd]; exact rs_nil, qS⟩
  · try dsimp only at hc0
    have hl1 : ¬ 120 < lcmC m1 m2 := fun h => by rw [if_pos h] at hc0; exact absurd hc0 (by decide)
    rw [if_neg hl1, if_neg hl1]
    have hfr := frG_facts (th := 0) hv1 hv2
    have hg1 := gainC_le hv1 (L := lcmC m1 m2) (by omega)
    have hg2 := gainC_le hv2 (L := lcmC m1 m2) (by omega)
    have hdr : -128849018880 ≤ driftG m1 m2 ∧ driftG m1 m2 ≤ 128849018880 := by unfold driftG; omega
    have hab := above_same hv1 hv2 f1 f2
    unfold aboveQ at hab
    rw [if_neg hl1] at hab
    refine W.skip ?_
    refine WE.nxt ?_
    refine W.seq ?_
    refine W.region _ ?_
    refine WG.run tab_ok 1 rfl ?_
    refine WG.y rfl rfl (by decide) (Yl.mul rfl rfl rfl (fun _ => rfl) (by intro _; constructor <;> (try dsimp only) <;> omega)) ?_
    refine WG.y rfl rfl (by decide) (Yl.add rfl rfl rfl (fun _ => rfl) (by intro _; constructor <;> (try dsimp only) <;> omega)) ?_
    refine WG.run tab_ok 1 rfl ?_
    refine WG.nil ?_
    refine WE.nxt ?_
    refine W.seq ?_
    refine W.region _ ?_
    refine' WG.y rfl rfl (by decide) (Yl.load1 tab_ok rfl rfl rfl (fun _ => rfl) ?r3 rfl ?h3) ?_
    case r3 => (exact Rd.blk 1 rfl)
    case h3 => rfl
    refine WG.callV (v := .bool true) en63 rfl rfl (by decide) (CallOp.mk' rfl rfl rfl rfl) (fun _ => rfl) (fun hg => by
      have h := FiniteG_V (fc := ca1x) hv1 ha1x
      rw [f1] at h
      exact h) ?_
    refine WG.run tab_ok 1 rfl ?_
    refine' WG.y rfl rfl (by decide) (Yl.loadG tab_ok rfl rfl rfl qE ?r4 rfl ?h4 ?g4) ?_
    case r4 => (exact Rd.blkC 0 rfl)
    case h4 => rfl
    case g4 => exact fun _ => trivial
    refine WG.callV (v := .bool true) en63 rfl rfl (by decide) (CallOp.mk' rfl rfl rfl rfl) qE (fun hg => by
      have h := FiniteG_V (fc := ca2x) hv2 ha2x
      rw [f2] at h
      exact h) ?_
    refine WG.y rfl rfl (by decide) (Yl.pand rfl rfl rfl (fun _ => rfl) (by intro h1 h2; simp_all <;> omega)) ?_
    refine WG.run tab_ok 1 rfl ?_
    refine WG.nil ?_
    refine WE.nxt ?_
    refine W.seq ?_
    refine W.region _ ?_
    refine' WG.y rfl rfl (by decide) (Yl.load1 tab_ok rfl rfl rfl (fun _ => rfl) ?r5 rfl ?h5) ?_
    case r5 => (exact Rd.blk 1 rfl)
    case h5 => rfl
    refine' WG.y rfl rfl (by decide) (Yl.load1 tab_ok rfl rfl rfl (fun _ => rfl) ?r6 rfl ?h6) ?_
    case r6 => (exact Rd.blk 0 rfl)
    case h6 => rfl
    refine WG.run tab_ok 1 rfl ?_
    refine WG.callV (v := .int .i64 (driftG m1 m2)) en64 rfl rfl (by decide) (CallOp.mk' rfl rfl rfl rfl) (fun _ => rfl) (fun hg => Slopes05_V hv1 ha1x hv2 ha2x (L := lcmC m1 m2) (by omega)) ?_
    refine WG.run tab_ok 1 rfl ?_
    refine WG.nil ?_
    refine WE.nxt ?_
    refine W.seq ?_
    refine W.seq ?_
    refine W.region _ ?_
    refine WG.run tab_ok 2 rfl ?_
    refine WG.y rfl rfl (by decide) (pureV_ok tab_ok rfl qE) ?_
    refine WG.y rfl rfl (by decide) (pureV_ok tab_ok rfl qE) ?_
    refine WG.y rfl rfl (by decide) (Yl.pand rfl rfl rfl (fun _ => rfl) (by intro h1 h2; simp_all <;> omega)) ?_
    refine WG.nil ?_
    refine WE.nxt ?_
    refine W.cond rfl (fun hc1 => ?_) (fun hc1 => ?_)
    · try simp only [decide_eq_true_eq, decide_eq_false_iff_not, beq_iff_eq, bne_iff_ne, beq_eq_false_iff_ne, bne_eq_false_iff_eq, ne_eq, Bool.or_eq_true, Bool.or_eq_false_iff, Bool.and_eq_true, Bool.and_eq_false_imp, Bool.not_eq_true, Bool.not_eq_true', Bool.not_eq_false', Classical.not_not, Int.not_lt, Int.not_le, gt_iff_lt, ge_iff_le] at hc1
      have hdn : driftG m1 m2 < 0 := by first | exact hc1 | simpa using hc1
      have hd : shareN m1 m2 0 = (zeroC, 0) := by rw [← hab, if_pos hdn]
      refine W.seq ?_
      refine W.region _ ?_
      refine WL.call en13 rfl rfl (by decide) (CallOp.mkT rfl rfl rfl rfl) (Flat02_C (k := 0) (by decide) w0 _) ?_
      rintro _ R3 _ hR3 ⟨fz, fzc, rfl, hfz, hsubz⟩
      refine WL.subE hsubz ?_
      rw [flat_zero] at hfz ⊢
      unfold cvV
      dsimp only at hfz ⊢
      refine WG.run tab_ok 2 rfl ?_
      refine WL.efN rfl rfl (Ef.store0 2 tab_ok rfl rfl rfl rfl rfl rfl rfl rfl ?_)
      refine WG.run tab_ok 1 rfl ?_
      refine WG.nil ?_
      refine WE.nxt ?_
      refine W.ret ?_
      refine WE.then_ret ?_
      refine WE.retF tab_ok [_, _] rfl ⟨⟨_, _, _, rfl, rfl, rfl, ((by first | exact Rd.blk 0 rfl | exact Rd.blk 1 rfl | exact Rd.blk 2 rfl | exact Rd.blk 3 rfl | exact Rd.blk 4 rfl | exact Rd.blk 5 rfl | exact Rd.blk 6 rfl | exact Rd.blk 7 rfl | exact Rd.blk 8 rfl)), rfl⟩, rfl, trivial⟩ ((by first | exact hR1 | exact hR1.trans hR3 | exact hR1.trans hR4 | exact hR1.trans (hR4.trans hR5))) ?_
      exact ⟨fz, fzc, by rw [hd]; rfl, by rw [hd]; exact hfz, qS⟩
    · try simp only [decide_eq_true_eq, decide_eq_false_iff_not, beq_iff_eq, bne_iff_ne, beq_eq_false_iff_ne, bne_eq_false_iff_eq, ne_eq, Bool.or_eq_true, Bool.or_eq_false_iff, Bool.and_eq_true, Bool.and_eq_false_imp, Bool.not_eq_true, Bool.not_eq_true', Bool.not_eq_false', Classical.not_not, Int.not_lt, Int.not_le, gt_iff_lt, ge_iff_le] at hc1
      have hd0 : 0 ≤ driftG m1 m2 := by
        apply Classical.byContradiction; intro h
        have := hc1
        simp at this
        omega
      rw [if_neg (show ¬ driftG m1 m2 < 0 by omega)] at hab
      have hup : UpG m1 m2 := ⟨f2, fun _ => hd0⟩
      refine W.skip ?_
      refine WE.nxt ?_
      have hn2 : (400 + (lcmC m1 m2 : Int)).toNat = (400 + lcmC m1 m2) := by omega
      refine W.seq ?_
      refine W.region _ ?_
      refine WG.run tab_ok 2 rfl ?_
      refine WG.y rfl rfl (by decide) (Yl.add rfl rfl rfl (fun _ => rfl) (by intro _; constructor <;> (try dsimp only) <;> omega)) ?_
      refine WL.ef rfl rfl (by decide) (Ef.makeSliceD (enc := encI) 0 tab_ok rfl rfl rfl rfl rfl rfl (by (try dsimp only) <;> omega) (by (try dsimp only) <;> omega) (by (try dsimp only) <;> omega) (by (try dsimp only) <;> omega) (by decide) rfl rfl (fun a53 => ?_))
      rw [hn2]
      -- build
      refine WG.y rfl rfl (by decide) (Yl.build (parts := [(1, .tmp 50), (0, .tmp 53)]) tab_ok rfl rfl rfl rfl (fun _ => rfl) rfl rfl) ?_
      refine WL.ef rfl rfl (by decide) (Ef.alloc tab_ok rfl rfl (fun b13 => ?_))
      refine WL.efN rfl rfl (Ef.store0 0 tab_ok rfl rfl rfl rfl rfl rfl rfl rfl ?_)
      refine WG.nil ?_
      refine WE.nxt ?_
      refine W.seq ?_
      refine W.region _ ?_
      refine WG.run tab_ok 1 rfl ?_
      refine WG.nil ?_
      refine WE.nxt ?_
      refine W.seq ?_
      refine W.seq ?_
      refine W.region _ ?_
      refine WG.run tab_ok 1 rfl ?_
      refine WG.y rfl rfl (by decide) (Yl.sub rfl rfl rfl (fun _ => rfl) (by intro _; constructor <;> (try dsimp only) <;> omega)) ?_
      rw [show 400 + 2 * (lcmC m1 m2 : Int) - 1 = ((400 + 2 * lcmC m1 m2 : Nat) : Int) - 1 by omega]
      refine WG.run tab_ok 1 rfl ?_
      refine WG.nil ?_
      refine WE.nxt ?_
      refine W.block ?_
      refine W.loopK (β := Nat × Int × List Int) (fun (n, lst, xs) => n ≤ 400 + 2 * lcmC m1 m2 ∧ xs.length = (400 + lcmC m1 m2) ∧ lst = leastG (diffA m1 m2) n (400 + 2 * lcmC m1 m2 - n) ∧ ∀ i, i < (400 + lcmC m1 m2) → nth xs i = if n ≤ i then (hG m1 m2 0) i else 0) (fun (n, lst, xs) => [(14, true, .int .i64 lst), (15, true, .int .i64 ((n : Int) - 1))]) [4, 6, 7, 8, 11, 12, 13] [_, _, _, _, _, _, _] [] _ rfl (fun (n, lst, xs) => [(1, .sl 3 1 (some ⟨a53, 0, none⟩) (400 + lcmC m1 m2) (xs.map encI))]) (fun (n, lst, xs) => n) ((400 + 2 * lcmC m1 m2, 4611686018427387904, List.replicate (400 + lcmC m1 m2) 0)) (⟨Nat.le_refl _, by simp, by (try dsimp only); rw [Nat.sub_self]; rfl, fun i hi => by rw [if_neg (by (try dsimp only); omega)]; exact nth_replicate hi⟩) ⟨rfl, rfl, rfl, rfl, rfl, rfl, rfl, rfl, rfl, rfl⟩ qS ?_
      intro zz hst
      obtain ⟨n, lst, xs⟩ := zz
      dsimp only [zipE, setAll, List.cons_append, List.nil_append, List.set_cons_zero, List.set_cons_succ] at hst ⊢
      obtain ⟨hn1, hxl, hlst, hxs⟩ := hst
      refine W.seq ?_
      refine W.seq ?_
      refine W.region _ ?_
      refine WG.run tab_ok 2 rfl ?_
      refine WG.nil ?_
      refine WE.nxt ?_
      refine W.condD rfl (fun hc2 => ?_) (fun hc2 => ?_)
      · try dsimp only at hc2
        obtain ⟨w, rfl⟩ : ∃ w, n = w + 1 := ⟨n - 1, by omega⟩
        rw [show ((w + 1 : Nat) : Int) - 1 = (w : Int) by omega]
        refine W.skip ?_
        refine WE.nxt ?_
        refine W.seq ?_
        refine W.block ?_
        refine W.seq ?_
        refine W.region _ ?_
        refine WG.run tab_ok 1 rfl ?_
        refine' WG.y rfl rfl (by decide) (Yl.load1 tab_ok rfl rfl rfl (fun _ => rfl) ?r7 rfl ?h7) ?_
        case r7 => (exact Rd.blk 3 rfl)
        case h7 => rfl
        refine' WG.y rfl rfl (by decide) (Yl.load1 tab_ok rfl rfl rfl (fun _ => rfl) ?r8 rfl ?h8) ?_
        case r8 => (exact Rd.blk 2 rfl)
        case h8 => rfl
        refine WG.run tab_ok 1 rfl ?_
        refine WG.callV (v := .int .i64 (diffA m1 m2 w)) en65 rfl rfl (by decide) (CallOp.mk' rfl rfl rfl rfl) (fun _ => rfl) (fun hg => Diff06_V (u := w) hv1 ha1x hv2 ha2x f1 f2 (by omega)) ?_
        refine WG.run tab_ok 2 rfl ?_
        have hnew : min lst (diffA m1 m2 w) = leastG (diffA m1 m2) w (400 + 2 * lcmC m1 m2 - w) := by
          rw [show 400 + 2 * lcmC m1 m2 - w = (400 + 2 * lcmC m1 m2 - (w + 1)) + 1 by omega, leastG_cons, ← hlst]
        rw [show (if (diffA m1 m2 w) < lst then (diffA m1 m2 w) else lst) = min lst (diffA m1 m2 w) by split <;> omega]
        refine WG.nil ?_
        refine WE.nxt ?_
        refine W.seq ?_
        refine W.region _ ?_
        refine WG.run tab_ok 2 rfl ?_
        refine' WG.y rfl rfl (by decide) (Yl.load1 tab_ok rfl rfl rfl (fun _ => rfl) ?r9 rfl ?h9) ?_
        case r9 => apply Rd.add; (exact Rd.blk 0 rfl)
        case h9 => rfl
        refine WG.run tab_ok 2 rfl ?_
        refine WG.nil ?_
        refine WE.nxt ?_
        refine W.condD rfl (fun hc3 => ?_) (fun hc3 => ?_)
        · try dsimp only at hc3
          have hwn : w < (400 + lcmC m1 m2) := by omega
          refine W.region _ ?_
          refine WG.run tab_ok 1 rfl ?_
          refine' WG.y rfl rfl (by decide) (Yl.load1 tab_ok rfl rfl rfl (fun _ => rfl) ?r10 rfl ?h10) ?_
          case r10 => apply Rd.add; (exact Rd.blk 0 rfl)
          case h10 => rfl
          refine WG.run tab_ok 2 rfl ?_
          refine WG.y rfl rfl (by decide) (Yl.indexN tab_ok rfl rfl rfl rfl rfl rfl (fun _ => rfl) (by intro _; (try dsimp only) <;> omega) (by intro _; first | exact fun _ _ _ _ => rfl | exact RS.has (by assumption) | exact fun _ _ _ _ => (by assumption) | exact HasMem.ownD 0 rfl | exact HasMem.ownD 1 rfl | exact HasMem.ownD 2 rfl | exact HasMem.ownD 3 rfl | exact HasMem.ownD 4 rfl | exact HasMem.ownD 5 rfl | exact HasMem.ownD 6 rfl | exact HasMem.ownD 7 rfl | exact HasMem.ownD 8 rfl)) ?_
          refine WL.efN rfl rfl (Ef.storeD _ 1 tab_ok rfl rfl rfl rfl rfl (by (try dsimp only) <;> omega) rfl rfl rfl rfl ?_)
          refine WG.nil ?_
          refine WE.blk _ ?_
          refine WE.nxt ?_
          refine W.region _ ?_
          refine WG.run tab_ok 1 rfl ?_
          refine WG.y rfl rfl (by decide) (Yl.sub rfl rfl rfl (fun _ => rfl) (by intro _; constructor <;> (try dsimp only) <;> omega)) ?_
          refine WG.run tab_ok 1 rfl ?_
          refine WG.nil ?_
          refine WE.again ((w, min lst (diffA m1 m2 w), xs.set w (min lst (diffA m1 m2 w)))) (⟨by (try dsimp only); omega, by (try dsimp only); rw [List.length_set]; exact hxl, hnew, fun i hi => by
            (try dsimp only)
            by_cases e : i = w
            · subst e
              rw [nth_set_self (by omega), if_pos (by omega), hnew, above_left hv1 hv2 f1 f2 h00 hd0 (by omega) hi]
            · rw [nth_set_ne (fun h => e h.symm), hxs i hi]
              by_cases h : w + 1 ≤ i
              · rw [if_pos h, if_pos (by omega)]
              · rw [if_neg h, if_neg (by omega)]⟩) (by (try dsimp only); omega) ⟨rfl, rfl, rfl, rfl, rfl, rfl, rfl, rfl, rfl, rfl⟩ (RLe.refl _) qS
        · try dsimp only at hc3
          have hwn : ¬ w < (400 + lcmC m1 m2) := by omega
          refine W.skip ?_
          refine WE.blk _ ?_
          refine WE.nxt ?_
          refine W.region _ ?_
          refine WG.run tab_ok 1 rfl ?_
          refine WG.y rfl rfl (by decide) (Yl.sub rfl rfl rfl (fun _ => rfl) (by intro _; constructor <;> (try dsimp only) <;> omega)) ?_
          refine WG.run tab_ok 1 rfl ?_
          refine WG.nil ?_
          refine WE.again ((w, min lst (diffA m1 m2 w), xs)) (⟨by (try dsimp only); omega, hxl, hnew, fun i hi => by
            (try dsimp only)
            rw [hxs i hi]
            by_cases h : w + 1 ≤ i
            · rw [if_pos h, if_pos (by omega)]
            · rw [if_neg h, if_neg (by omega)]⟩) (by (try dsimp only); omega) ⟨rfl, rfl, rfl, rfl, rfl, rfl, rfl, rfl, rfl, rfl⟩ (RLe.refl _) qS
      · try dsimp only at hc2
        obtain rfl : n = 0 := by omega
        have hxv : xs = fvals (hG m1 m2 0) (400 + lcmC m1 m2) := nth_ext (by rw [fvals_len]; exact hxl) (fun i hi => by
          rw [hxs i (by omega), fvals_nth _ (by omega), if_pos (Nat.zero_le _)])
        rw [hxv]
        refine W.freeze (enc := encI) (xs := fvals (hG m1 m2 0) (400 + lcmC m1 m2)) 1 rfl ?_
        intro R4 hR4 hxr
        have ha1x := ha1x.mono hR4
        have ha2x := ha2x.mono hR4
        have hfn : (fvals (hG m1 m2 0) (400 + lcmC m1 m2)).length = (400 + lcmC m1 m2) := fvals_len _ _
        refine W.exit ?_
        refine WE.then_exit ?_
        refine WE.then_exit ?_
        refine WE.blk_exit ?_
        refine WE.nxt ?_
        refine W.seqCut (β := Nat) (fun b13 => ¬ (0 < driftG m1 m2 ∧ minF (rawG m1 m2 0) 400 (lcmC m1 m2 - 1) < 0)) (fun b13 => [(4, true, .pointer (some ⟨b4, 0, none⟩)), (13, true, .pointer (some ⟨b13, 0, none⟩))]) (fun _ => R4) (fun b13 => .blk b13 [.slice (some ⟨a53, 0, none⟩) (400 + lcmC m1 m2) (400 + lcmC m1 m2), .int .i64 (lcmC m1 m2 : Int), .int .i64 (driftG m1 m2)] :: .blk b7 [.slice fa2x m2.vals.length ca2x, .int .i64 m2.per, .int .i64 m2.inc] :: .blk b6 [.slice fa1x m1.vals.length ca1x, .int .i64 m1.per, .int .i64 m1.inc] :: .blk b4 [.slice none 0 0, .int .i64 0, .int .i64 0] :: E) ?_ ?_
        ·
          intro b13 hst
          have hneg := hst
          have hd : shareN m1 m2 0 = madeR ⟨fvals (hG m1 m2 0) (400 + lcmC m1 m2), (lcmC m1 m2 : Int), driftG m1 m2⟩ := by rw [← hab, if_neg hneg]
          refine W.seq ?_
          refine W.region _ ?_
          refine' WG.y rfl rfl (by decide) (Yl.load1 tab_ok rfl rfl rfl (fun _ => rfl) ?r11 rfl ?h11) ?_
          case r11 => (exact Rd.blk 0 rfl)
          case h11 => rfl
          refine WL.call en51 rfl rfl (by decide) (CallOp.mkT rfl rfl rfl rfl) (MadeGLK_C (cc := (400 + lcmC m1 m2)) hxr hfn (by omega) (above_madeOk hv1 hv2 f1 f2 hd0 (by omega) hneg) (Nat.le_refl _) w0 _) ?_
          rintro _ R5 E5 hR5 ⟨ff5, ffc, rfl, hff, _, hsub5⟩
          refine WL.subE hsub5 ?_
          rw [← hd] at hff ⊢
          unfold cvV
          refine WG.run tab_ok 2 rfl ?_
          refine WL.efN rfl rfl (Ef.store0 3 tab_ok rfl rfl rfl rfl rfl rfl rfl rfl ?_)
          refine WG.run tab_ok 1 rfl ?_
          refine WG.nil ?_
          refine WE.nxt ?_
          refine W.ret ?_
          refine WE.retF tab_ok [_, _] rfl ⟨⟨_, _, _, rfl, rfl, rfl, ((by first | exact Rd.blk 0 rfl | exact Rd.blk 1 rfl | exact Rd.blk 2 rfl | exact Rd.blk 3 rfl | exact Rd.blk 4 rfl | exact Rd.blk 5 rfl | exact Rd.blk 6 rfl | exact Rd.blk 7 rfl | exact Rd.blk 8 rfl)), rfl⟩, rfl, trivial⟩ ((by first | exact hR1 | exact hR1.trans hR3 | exact hR1.trans hR4 | exact hR1.trans (hR4.trans hR5))) ?_
          exact ⟨ff5, ffc, rfl, hff, qS⟩
        ·
          refine W.seq ?_
          refine W.region _ ?_
          refine WG.run tab_ok 2 rfl ?_
          refine WG.y rfl rfl (by decide) (pureV_ok tab_ok rfl qE) ?_
          refine WG.y rfl rfl (by decide) (pureV_ok tab_ok rfl qE) ?_
          refine WG.y rfl rfl (by decide) (Yl.pand rfl rfl rfl (fun _ => rfl) (by intro h1 h2; simp_all <;> omega)) ?_
          refine WG.nil ?_
          refine WE.nxt ?_
          refine W.cond rfl (fun hc4 => ?_) (fun hc4 => ?_)
          · try simp only [decide_eq_true_eq, decide_eq_false_iff_not, beq_iff_eq, bne_iff_ne, beq_eq_false_iff_ne, bne_eq_false_iff_eq, ne_eq, Bool.or_eq_true, Bool.or_eq_false_iff, Bool.and_eq_true, Bool.and_eq_false_imp, Bool.not_eq_true, Bool.not_eq_true', Bool.not_eq_false', Classical.not_not, Int.not_lt, Int.not_le, gt_iff_lt, ge_iff_le] at hc4
            have hdp : 0 < driftG m1 m2 := by first | exact hc4 | simpa using hc4
            refine W.seq ?_
            refine W.region _ ?_
            refine WG.run tab_ok 2 rfl ?_
            refine WL.efN rfl rfl (Ef.store 0 tab_ok rfl rfl rfl rfl rfl rfl rfl rfl ?_)
            refine WG.nil ?_
            refine WE.nxt ?_
            refine W.seq ?_
            refine W.region _ ?_
            refine WG.run tab_ok 1 rfl ?_
            refine WG.nil ?_
            refine WE.nxt ?_
            refine W.block ?_
            refine W.loopK (β := Nat) (fun u => u ≤ (400 + lcmC m1 m2) ∧ 400 ≤ u ∧ ∀ v, 400 ≤ v → v < u → 0 ≤ rawG m1 m2 0 v) (fun u => [(16, true, .int .i64 (u : Int))]) [4, 6, 7, 8, 13] [_, _, _, _, _] [] _ rfl (fun u => []) (fun u => (400 + lcmC m1 m2) - u) (400) (⟨by omega, Nat.le_refl _, fun v a b => by omega⟩) ⟨rfl, rfl, rfl, rfl, rfl, rfl, rfl⟩ qS ?_
            intro u hst
            dsimp only [zipE, setAll, List.cons_append, List.nil_append, List.set_cons_zero, List.set_cons_succ] at hst ⊢
            obtain ⟨hu1, hu2, hall⟩ := hst
            refine W.seq ?_
            refine W.seq ?_
            refine W.region _ ?_
            refine WG.run tab_ok 2 rfl ?_
            refine WG.y rfl rfl (by decide) (Yl.add rfl rfl rfl (fun _ => rfl) (by intro _; constructor <;> (try dsimp only) <;> omega)) ?_
            refine WG.run tab_ok 1 rfl ?_
            refine WG.nil ?_
            refine WE.nxt ?_
            refine W.condD rfl (fun hc5 => ?_) (fun hc5 => ?_)
            · try dsimp only at hc5
              have hun : u < (400 + lcmC m1 m2) := by omega
              refine W.skip ?_
              refine WE.nxt ?_
              refine W.seq ?_
              refine W.block ?_
              refine W.seq ?_
              refine W.region _ ?_
              refine' WG.y rfl rfl (by decide) (Yl.load1 tab_ok rfl rfl rfl (fun _ => rfl) ?r12 rfl ?h12) ?_
              case r12 => (exact Rd.blk 2 rfl)
              case h12 => rfl
              refine' WG.y rfl rfl (by decide) (Yl.load1 tab_ok rfl rfl rfl (fun _ => rfl) ?r13 rfl ?h13) ?_
              case r13 => (exact Rd.blk 1 rfl)
              case h13 => rfl
              refine WG.run tab_ok 1 rfl ?_
              refine WG.callV (v := .int .i64 (cvF m1 u - cvF m2 u)) en66 rfl rfl (by decide) (CallOp.mk' rfl rfl rfl rfl) (fun _ => rfl) (fun hg => Raw06_V (u := u) hv1 ha1x hv2 ha2x f1 f2 (by omega)) ?_
              refine WG.run tab_ok 1 rfl ?_
              refine WG.nil ?_
              refine WE.nxt ?_
              refine W.condD rfl (fun hc6 => ?_) (fun hc6 => ?_)
              · try dsimp only at hc6
                have hd : shareN m1 m2 0 = (zcv, 3) := by
                  have h5 := minF_le (f := rawG m1 m2 0) (s := 400) (u := u) (d := lcmC m1 m2 - 1) (by omega) (by omega)
                  rw [raw0 f1 f2] at h5
                  rw [← hab, if_pos ⟨hdp, by omega⟩]
                refine W.seq ?_
                refine W.region _ ?_
                -- build
                refine WG.y rfl rfl (by decide) (Yl.build (parts := []) tab_ok rfl rfl rfl rfl (fun _ => rfl) rfl rfl) ?_
                refine WL.efN rfl rfl (Ef.store0 3 tab_ok rfl rfl rfl rfl rfl rfl rfl rfl ?_)
                refine WG.run tab_ok 1 rfl ?_
                refine WG.nil ?_
                refine WE.nxt ?_
                refine W.ret ?_
                refine WE.blk_ret ?_
                refine WE.then_ret ?_
                refine WE.then_ret ?_
                refine WE.blk_ret ?_
                refine WE.then_ret ?_
                refine WE.retF tab_ok [_, _] rfl ⟨⟨_, _, _, rfl, rfl, rfl, ((by first | exact Rd.blk 0 rfl | exact Rd.blk 1 rfl | exact Rd.blk 2 rfl | exact Rd.blk 3 rfl | exact Rd.blk 4 rfl | exact Rd.blk 5 rfl | exact Rd.blk 6 rfl | exact Rd.blk 7 rfl | exact Rd.blk 8 rfl)), rfl⟩, rfl, trivial⟩ ((by first | exact hR1 | exact hR1.trans hR3 | exact hR1.trans hR4 | exact hR1.trans (hR4.trans hR5))) ?_
                exact ⟨none, 0, by rw [hd]; rfl, by rw [hd]; exact rs_nil, qS⟩
              · try dsimp only at hc6
                have hy : 0 ≤ rawG m1 m2 0 u := by rw [raw0 f1 f2]; omega
                refine W.skip ?_
                refine WE.blk _ ?_
                refine WE.nxt ?_
                refine W.region _ ?_
                refine WG.run tab_ok 1 rfl ?_
                refine WG.y rfl rfl (by decide) (Yl.add rfl rfl rfl (fun _ => rfl) (by intro _; constructor <;> (try dsimp only) <;> omega)) ?_
                refine WG.run tab_ok 1 rfl ?_
                refine WG.nil ?_
                refine WE.again (u + 1) (⟨by omega, by omega, fun v v1 v2 => by
                  by_cases e : v = u
                  · subst e; exact hy
                  · exact hall v v1 (by omega)⟩) (by (try dsimp only); omega) ⟨rfl, rfl, rfl, rfl, rfl, rfl, rfl⟩ (RLe.refl _) qS
            · try dsimp only at hc5
              obtain rfl : u = (400 + lcmC m1 m2) := by omega
              refine W.exit ?_
              refine WE.then_exit ?_
              refine WE.then_exit ?_
              refine WE.blk_exit ?_
              refine WE.cut b13 (fun h => by have : 0 ≤ minF (rawG m1 m2 0) 400 (lcmC m1 m2 - 1) := minF_ge (fun v v1 v2 => hall v v1 (by omega)); have := h.2; omega) ⟨rfl, rfl, rfl⟩ (RLe.refl _) qS
          · try simp only [decide_eq_true_eq, decide_eq_false_iff_not, beq_iff_eq, bne_iff_ne, beq_eq_false_iff_ne, bne_eq_false_iff_eq, ne_eq, Bool.or_eq_true, Bool.or_eq_false_iff, Bool.and_eq_true, Bool.and_eq_false_imp, Bool.not_eq_true, Bool.not_eq_true', Bool.not_eq_false', Classical.not_not, Int.not_lt, Int.not_le, gt_iff_lt, ge_iff_le] at hc4
            have hdz : driftG m1 m2 = 0 := by
              have : ¬ 0 < driftG m1 m2 := fun h => by first | exact hc4 h | (have := hc4; simp at this; omega)
              omega
            refine W.skip ?_
            rw [← hdz]
            refine WE.cut b13 (fun h => by have := h.1; omega) ⟨rfl, rfl, rfl⟩ (RLe.refl _) qS

theorem Value_V {R : Ro} {fa : Option Addr} {fc : Nat} {c : Cv} (hv : validB c = true) (ha : RS R 1 encI fa c.vals) {t : Nat} (ht : t ≤ 1048576) : FnV Try.prog 17 [.agg #[.slice fa c.vals.length fc, .int .i64 c.per, .int .i64 c.inc], .int .i64 (t : Int)] R (.tuple #[.int .i64 (cvF c t), .int .i64 0]) := by
  refine Fn.toV (fun w0 E => ?_)
  obtain ⟨hr1, hr2, hr3, hr4, hr5, hr6, hr7, hr8⟩ := valid_range hv
  refine Fn.enter (n := 18) Try.func17 rfl rfl (Nat.le_of_ble_eq_true rfl) rfl ?_
  refine W.seq ?_
  refine W.region _ ?_
  refine WL.ef rfl rfl (by decide) (Ef.box rfl rfl (fun b2 => ?_))
  refine WG.run tab_ok 2 rfl ?_
  refine WG.nil ?_
  refine WE.nxt ?_
  refine W.seq ?_
  refine W.seq ?_
  refine W.region _ ?_
  refine' WG.y rfl rfl (by decide) (Yl.load1 tab_ok rfl rfl rfl (fun _ => rfl) ?r1 rfl ?h1) ?_
  case r1 => (exact Rd.blk 0 rfl)
  case h1 => rfl
  refine WG.callV (v := .bool true) en67 rfl rfl (by decide) (CallOp.mk' rfl rfl rfl rfl) (fun _ => rfl) (fun hg => by
    have h := CValidG_V (fc := fc) (c := c) ha (by omega)
    rw [hv] at h
    exact h) ?_
  refine WG.run tab_ok 1 rfl ?_
  refine WG.nil ?_
  refine WE.nxt ?_
  refine W.cond rfl (fun hc0 => ?_) (fun hc0 => ?_)
  · try simp only [decide_eq_true_eq, decide_eq_false_iff_not, beq_iff_eq, bne_iff_ne, beq_eq_false_iff_ne, bne_eq_false_iff_eq, ne_eq, Bool.or_eq_true, Bool.or_eq_false_iff, Bool.and_eq_true, Bool.and_eq_false_imp, Bool.not_eq_true, Bool.not_eq_true', Bool.not_eq_false', Classical.not_not, Int.not_lt, Int.not_le, gt_iff_lt, ge_iff_le] at hc0
    (simp at hc0; done)
  · try simp only [decide_eq_true_eq, decide_eq_false_iff_not, beq_iff_eq, bne_iff_ne, beq_eq_false_iff_ne, bne_eq_false_iff_eq, ne_eq, Bool.or_eq_true, Bool.or_eq_false_iff, Bool.and_eq_true, Bool.and_eq_false_imp, Bool.not_eq_true, Bool.not_eq_true', Bool.not_eq_false', Classical.not_not, Int.not_lt, Int.not_le, gt_iff_lt, ge_iff_le] at hc0
    refine W.skip ?_
    refine WE.nxt ?_
    refine W.seq ?_
    refine W.seq ?_
    refine W.region _ ?_
    refine WG.run tab_ok 3 rfl ?_
    refine WG.y rfl rfl (by decide) (pureV_ok tab_ok rfl qE) ?_
    refine WG.y rfl rfl (by decide) (pureV_ok tab_ok rfl qE) ?_
    refine WG.y rfl rfl (by decide) (Yl.por rfl rfl rfl (fun _ => rfl) (by intro h1 h2; simp_all <;> omega)) ?_
    refine WG.nil ?_
    refine WE.nxt ?_
    refine W.cond rfl (fun hc1 => ?_) (fun hc1 => ?_)
    · try simp only [decide_eq_true_eq, decide_eq_false_iff_not, beq_iff_eq, bne_iff_ne, beq_eq_false_iff_ne, bne_eq_false_iff_eq, ne_eq, Bool.or_eq_true, Bool.or_eq_false_iff, Bool.and_eq_true, Bool.and_eq_false_imp, Bool.not_eq_true, Bool.not_eq_true', Bool.not_eq_false', Classical.not_not, Int.not_lt, Int.not_le, gt_iff_lt, ge_iff_le] at hc1
      omega
    · try simp only [decide_eq_true_eq, decide_eq_false_iff_not, beq_iff_eq, bne_iff_ne, beq_eq_false_iff_ne, bne_eq_false_iff_eq, ne_eq, Bool.or_eq_true, Bool.or_eq_false_iff, Bool.and_eq_true, Bool.and_eq_false_imp, Bool.not_eq_true, Bool.not_eq_true', Bool.not_eq_false', Classical.not_not, Int.not_lt, Int.not_le, gt_iff_lt, ge_iff_le] at hc1
      refine W.skip ?_
      refine WE.nxt ?_
      refine W.seq ?_
      refine W.region _ ?_
      refine' WG.y rfl rfl (by decide) (Yl.load1 tab_ok rfl rfl rfl (fun _ => rfl) ?r2 rfl ?h2) ?_
      case r2 => (exact Rd.blk 0 rfl)
      case h2 => rfl
      refine WG.run tab_ok 1 rfl ?_
      refine WG.callV en68 rfl rfl (by decide) (CallOp.mk' rfl rfl rfl rfl) (fun _ => rfl) (fun hg => WAtG_V hv ha (by omega)) ?_
      refine WG.run tab_ok 2 rfl ?_
      refine WG.nil ?_
      refine WE.nxt ?_
      refine W.ret ?_
      refine WE.subE (E' := E) qS ?_
      refine WE.retF tab_ok [_, _] rfl ⟨rfl, rfl, trivial⟩ (RLe.refl _) ?_
      exact ⟨rfl, rfl⟩

end Go.Proofs.Ytolmmfphdieilaa
