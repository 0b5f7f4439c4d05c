/- Chapter 16: the reference run. No condition. -/
import Derived.Test.YtgcpmmbljhnacaaTab
import Derived.Test.YtgcpmmbljhnacaaSimB
import Derived.Test.YtgcpmmbljhnacaaLoop
import Derived.Test.YtgcpmmbljhnacaaT1
import Derived.Test.YtgcpmmbljhnacaaT3
import Derived.Test.YtgcpmmbljhnacaaT4
import Derived.Test.YtgcpmmbljhnacaaT16
import Derived.Test.YtgcpmmbljhnacaaT17
set_option linter.unusedSimpArgs false
set_option linter.unusedVariables false
namespace Go.Proofs.Ytgcpmmbljhnacaa
open Go Go.RowKit Go.Proofs.Ytgcpmmbljhnacaa.K Go.Proofs.Ytgcpmmbljhnacaa.M

theorem RRun16_C {R : Ro} {pa : Option Addr} {pc : Nat} {ps : List Pkt} (hp : RS R 3 encP pa ps) {cap : Int} {classes ticks : Nat} (w0 : World) (hv : validate ps = 0) (hc : checkE cap classes ticks ps = 0) (E : List Ent) :
    K.Fn Try.prog 16 [.int .i64 cap, .int .i64 classes, .slice pa ps.length pc, .int .i64 ticks] w0 R E (fun v R' E' => ∃ (da oa : Option Addr) (dc oc : Nat) (rows : List Sl) (st : St), st = rrun ps (fifoR ps) cap classes ticks () ∧ v = .tuple #[.agg #[.slice da st.done.length dc, .slice oa rows.length oc], .int .i64 0] ∧ RS R' 1 encI da st.done ∧ rows.map Sl.xs = st.sent ∧ (∀ r ∈ rows, r.a.isSome = true) ∧ RInv ps classes (ticks + 1) (ticks * cap) st ∧ (.sl 23 1 oa oc (rows.map encS) :: (rows.map (rowE 3) ++ E)).Sublist E') := by
  have hpR := hp
  have hok := (validate_ok ps).1 hv
  obtain ⟨hb, hflc⟩ := checkE_ok hc
  unfold BadC at hb
  have hcap : 1 ≤ cap ∧ cap ≤ 1000000 := by omega
  have hsz : ∀ p ∈ ps, 1 ≤ p.size ∧ p.size ≤ 1000000 := fun p hp => by have := hok.at hp; omega
  have hs1 : ∀ p ∈ ps, 1 ≤ p.size := fun p hp => (hsz p hp).1
  have hfl : ∀ p ∈ ps, 0 ≤ p.flow ∧ p.flow < classes := fun p hp => by have := hok.at hp; have := hflc p hp; omega
  have hpl := hok.len
  have hBt : ∀ k : Nat, k ≤ ticks → (k : Int) * cap ≤ 2000000000 := fun k hk => by have := Int.mul_le_mul (show (k : Int) ≤ 2000 by omega) hcap.2 (by omega) (by omega); omega
  refine Fn.enter (n := 61) Try.func16 rfl rfl (Nat.le_of_ble_eq_true rfl) rfl ?_
  refine W.seq ?_
  refine W.region _ ?_
  refine WL.ef rfl rfl (by decide) (Ef.alloc tab_ok rfl rfl (fun b8 => ?_))
  refine WG.run tab_ok 1 rfl ?_
  refine WG.nil ?_
  refine WE.nxt ?_
  refine W.seq ?_
  refine W.seq ?_
  refine W.region _ ?_
  refine WG.run tab_ok 4 rfl ?_
  refine WG.callV en43 rfl rfl (by decide) (CallOp.mk' rfl rfl rfl rfl) (fun _ => rfl) (fun hg => (show (if validate ps ≠ 0 then validate ps else checkE cap classes ticks ps) = 0 by simp [hv, hc]) ▸ BadR_V hp) ?_
  refine WG.run tab_ok 1 rfl ?_
  refine WG.nil ?_
  refine WE.nxt ?_
  refine W.seq ?_
  refine W.region _ ?_
  refine WG.run tab_ok 2 rfl ?_
  refine WG.nil ?_
  refine WE.nxt ?_
  refine W.condN rfl (fun hc0 => ?_) (fun hc0 => ?_)
  · try dsimp only at hc0
    exact absurd rfl hc0
  · try dsimp only at hc0
    refine W.skip ?_
    refine WE.nxt ?_
    refine W.seq ?_
    refine W.region _ ?_
    refine WG.run tab_ok 2 rfl ?_
    refine WL.call en44 rfl rfl (by decide) (CallOp.mkT rfl rfl rfl rfl) (NewR_C w0 (by omega) (by omega) _) ?_
    rintro _ R1 E1 hR1 ⟨ga, da, oa, gc, dc, oc, rows, rfl, hgv, hdn, hoa, hrx, hra, hsub⟩
    refine WL.subE hsub ?_
    refine WL.perm (List.perm_middle (l₁ := _ :: rows.map (rowE 3))) ?_
    refine WL.ef rfl rfl (by decide) (Ef.alloc tab_ok rfl rfl (fun b11 => ?_))
    first | refine WL.efN rfl rfl (Ef.store0 0 tab_ok rfl rfl rfl rfl rfl rfl rfl rfl ?_) | refine WL.efN rfl rfl (Ef.store0 1 tab_ok rfl rfl rfl rfl rfl rfl rfl rfl ?_) | refine WL.efN rfl rfl (Ef.store0 2 tab_ok rfl rfl rfl rfl rfl rfl rfl rfl ?_) | refine WL.efN rfl rfl (Ef.store0 3 tab_ok rfl rfl rfl rfl rfl rfl rfl rfl ?_)
    refine WG.nil ?_
    refine WE.nxt ?_
    refine W.seq ?_
    refine W.block ?_
    refine W.loop (β := Ro × Option Addr × Option Addr × Nat × Nat × St × Unit × List Sl) (fun (Rk, ga, da, gc, dc, st, g, rows) => RLe R Rk ∧ RS Rk 1 encI ga st.given ∧ RS Rk 1 encI da st.done ∧ rows.map Sl.xs = st.sent ∧ (∀ r ∈ rows, r.a.isSome = true) ∧ RInv ps classes (st.time + 1) ((st.time : Int) * cap) st ∧ st.time ≤ ticks ∧ (rticks ps (fifoR ps) cap (ticks - st.time) st g).1 = rrun ps (fifoR ps) cap classes ticks ()) (fun (Rk, ga, da, gc, dc, st, g, rows) => [(0, true, .int .i64 cap), (2, true, .slice pa ps.length pc), (3, true, .int .i64 ticks), (8, true, .pointer (some ⟨b8, 0, none⟩)), (11, true, .pointer (some ⟨b11, 0, none⟩))]) (fun (Rk, _, _, _, _, _, _, _) => Rk) (fun (Rk, ga, da, gc, dc, st, g, rows) => .blk b11 [.int .i64 st.time, .slice ga st.given.length gc, .int .i64 st.now, .slice da st.done.length dc, .slice oa rows.length oc] :: .blk b8 [.slice none 0 0, .slice none 0 0] :: .sl 23 1 oa oc (rows.map encS) :: (rows.map (rowE 3) ++ E)) (fun (Rk, ga, da, gc, dc, st, g, rows) => ticks - st.time) ((R1, ga, da, gc, dc, rstart ps classes, (), rows)) (⟨hR1, hgv, hdn, hrx, hra, (show RInv ps classes 1 (((0 : Nat) : Int) * cap) (rstart ps classes) by simpa using RInv.start (classes := classes) hs1), Nat.zero_le _, rfl⟩) ⟨rfl, rfl, rfl, rfl, rfl, rfl⟩ (RLe.refl _) (by simp only [rstart, List.length_replicate]; exact (by repeat (first | exact List.Sublist.refl _ | exact List.nil_sublist _ | apply List.Sublist.cons_cons | apply List.Sublist.cons))) ?_
    intro st hst
    obtain ⟨Rk, ga, da, gc, dc, st0, g0, rows⟩ := st
    obtain ⟨hRk, hgv, hdn, hrx, hra, hinv, htk, hfin⟩ := hst
    dsimp only at hRk hgv hdn hrx hra hinv htk hfin ⊢
    have hp := hp.mono hRk
    have hlr : rows.length = classes := by rw [← hinv.slen, ← hrx, List.length_map]
    refine W.seq ?_
    refine W.seq ?_
    refine W.region _ ?_
    refine WG.run tab_ok 1 rfl ?_
    refine' WG.y rfl rfl (by decide) (Yl.load1 tab_ok rfl rfl rfl (fun _ => rfl) ?r1 rfl ?h1) ?_
    case r1 => apply Rd.add; (first | exact Rd.blk 0 rfl | exact Rd.blk 1 rfl | exact Rd.blk 2 rfl | exact Rd.blk 3 rfl)
    case h1 => rfl
    refine WG.run tab_ok 2 rfl ?_
    refine WG.nil ?_
    refine WE.nxt ?_
    refine W.condD rfl (fun hc1 => ?_) (fun hc1 => ?_)
    · try dsimp only at hc1
      refine W.skip ?_
      refine WE.nxt ?_
      refine W.block ?_
      refine W.seq ?_
      refine W.region _ ?_
      refine' WG.y rfl rfl (by decide) (Yl.load1 tab_ok rfl rfl rfl (fun _ => rfl) ?r2 rfl ?h2) ?_
      case r2 => (first | exact Rd.blk 0 rfl | exact Rd.blk 1 rfl | exact Rd.blk 2 rfl | exact Rd.blk 3 rfl)
      case h2 => rfl
      refine WL.perm perm_out ?_
      refine WL.call en45 rfl rfl (by decide) (CallOp.mkT rfl rfl rfl rfl) (BeginR_C w0 hoa (fun r hr => ⟨hra r hr, by have := (hinv.rows r.xs (by rw [← hrx]; exact List.mem_map_of_mem hr)).1; omega⟩) (by omega) _) ?_
      rintro _ _ E2 - ⟨rows2, rfl, rfl, hrx2, hra2, hsub⟩
      refine WL.subE hsub ?_
      refine WL.perm perm_out.symm ?_
      have hl2 : rows2.length = rows.length := by have := congrArg List.length hrx2; simpa using this
      first | refine WL.efN rfl rfl (Ef.store0 0 tab_ok rfl rfl rfl rfl rfl rfl rfl rfl ?_) | refine WL.efN rfl rfl (Ef.store0 1 tab_ok rfl rfl rfl rfl rfl rfl rfl rfl ?_) | refine WL.efN rfl rfl (Ef.store0 2 tab_ok rfl rfl rfl rfl rfl rfl rfl rfl ?_) | refine WL.efN rfl rfl (Ef.store0 3 tab_ok rfl rfl rfl rfl rfl rfl rfl rfl ?_)
      refine WG.nil ?_
      refine WE.nxt ?_
      refine W.seq ?_
      refine W.seq ?_
      refine W.region _ ?_
      refine WG.run tab_ok 2 rfl ?_
      refine WG.nil ?_
      refine WE.nxt ?_
      refine W.block ?_
      refine W.loop (β := Ro × Option Addr × Option Addr × Nat × Nat × St × Unit × List Sl × Int) (fun (Rk, ga, da, gc, dc, st, g, rows, left) => RLe R Rk ∧ RS Rk 1 encI ga st.given ∧ RS Rk 1 encI da st.done ∧ rows.map Sl.xs = st.sent ∧ (∀ r ∈ rows, r.a.isSome = true) ∧ (∃ k : Nat, rinner ps (fifoR ps) k left st g = rinner ps (fifoR ps) cap.toNat cap (rbegin st0) g0 ∧ left ≤ k) ∧ 0 ≤ left ∧ left ≤ cap ∧ st.time = st0.time ∧ ∃ B, RInv ps classes (st0.time + 2) B st ∧ B + left ≤ ((st0.time : Int) + 1) * cap) (fun (Rk, ga, da, gc, dc, st, g, rows, left) => [(0, true, .int .i64 cap), (2, true, .slice pa ps.length pc), (3, true, .int .i64 ticks), (8, true, .pointer (some ⟨b8, 0, none⟩)), (11, true, .pointer (some ⟨b11, 0, none⟩)), (12, true, .int .i64 left)]) (fun (Rk, _, _, _, _, _, _, _, _) => Rk) (fun (Rk, ga, da, gc, dc, st, g, rows, left) => .blk b11 [.int .i64 st.time, .slice ga st.given.length gc, .int .i64 st.now, .slice da st.done.length dc, .slice oa rows.length oc] :: .blk b8 [.slice none 0 0, .slice none 0 0] :: .sl 23 1 oa oc (rows.map encS) :: (rows.map (rowE 3) ++ E)) (fun (Rk, ga, da, gc, dc, st, g, rows, left) => left.toNat) ((Rk, ga, da, gc, dc, rbegin st0, g0, rows2, cap)) (⟨hRk, hgv, hdn, by rw [hrx2, hrx]; rfl, hra2, ⟨cap.toNat, rfl, by (try dsimp only); omega⟩, by (try dsimp only); omega, by (try dsimp only); omega, rfl, _, hinv.begin (by omega), by (try dsimp only); rw [Int.add_mul]; omega⟩) ⟨rfl, rfl, rfl, rfl, rfl, rfl, rfl⟩ (RLe.refl _) (by rw [← hl2]; exact (by repeat (first | exact List.Sublist.refl _ | exact List.nil_sublist _ | apply List.Sublist.cons_cons | apply List.Sublist.cons))) ?_
      intro st hst
      obtain ⟨Rk, ga, da, gc, dc, st1, g1, rows, left⟩ := st
      obtain ⟨hRk, hgv, hdn, hrx, hra, ⟨k, hin, hkk⟩, hl0, hlc, htime, B, hinv, hB⟩ := hst
      dsimp only at hRk hgv hdn hrx hra hin hkk hl0 hlc htime hinv hB ⊢
      have hp := hpR.mono hRk
      have hB1 := hBt (st0.time + 1) (by omega)
      have hB2 : ((st0.time + 1 : Nat) : Int) = (st0.time : Int) + 1 := by omega
      rw [hB2] at hB1
      refine W.seq ?_
      refine W.seq ?_
      refine W.region _ ?_
      refine WG.run tab_ok 2 rfl ?_
      refine WG.nil ?_
      refine WE.nxt ?_
      refine W.condD rfl (fun hc2 => ?_) (fun hc2 => ?_)
      · try dsimp only at hc2
        refine W.skip ?_
        refine WE.nxt ?_
        refine W.block ?_
        refine W.seqCut (β := St) (fun st2 => st2 = { st1 with now := (rpick (fifoR ps) st1 g1).1 }) (fun st2 => [(0, true, .int .i64 cap), (2, true, .slice pa ps.length pc), (3, true, .int .i64 ticks), (8, true, .pointer (some ⟨b8, 0, none⟩)), (11, true, .pointer (some ⟨b11, 0, none⟩)), (12, true, .int .i64 left)]) (fun _ => Rk) (fun st2 => .blk b11 [.int .i64 st2.time, .slice ga st2.given.length gc, .int .i64 st2.now, .slice da st2.done.length dc, .slice oa rows.length oc] :: .blk b8 [.slice none 0 0, .slice none 0 0] :: .sl 23 1 oa oc (rows.map encS) :: (rows.map (rowE 3) ++ E)) ?_ ?_
        ·
          intro st2 hst
          have hs2 := hst
          have hs2n : st2.now = (rpick (fifoR ps) st1 g1).1 := by rw [hs2]
          have hinv2 : RInv ps classes (st0.time + 2) B st2 := by rw [hs2]; exact hinv.pick hs1 (fifoR_waiting ps)
          have hgv : RS Rk 1 encI ga st2.given := by rw [hs2]; exact hgv
          have hdn : RS Rk 1 encI da st2.done := by rw [hs2]; exact hdn
          have hrx : rows.map Sl.xs = st2.sent := by rw [hs2]; exact hrx
          refine W.seq ?_
          refine W.seq ?_
          refine W.region _ ?_
          refine WG.run tab_ok 1 rfl ?_
          refine' WG.y rfl rfl (by decide) (Yl.load1 tab_ok rfl rfl rfl (fun _ => rfl) ?r3 rfl ?h3) ?_
          case r3 => apply Rd.add; (first | exact Rd.blk 0 rfl | exact Rd.blk 1 rfl | exact Rd.blk 2 rfl | exact Rd.blk 3 rfl)
          case h3 => rfl
          refine WG.run tab_ok 1 rfl ?_
          refine WG.nil ?_
          refine WE.nxt ?_
          refine W.condE rfl (fun hc3 => ?_) (fun hc3 => ?_)
          · try dsimp only at hc3
            have hend : rinner ps (fifoR ps) cap.toNat cap (rbegin st0) g0 = (st2, (rpick (fifoR ps) st1 g1).2) := by rw [← hin, rinner_none hkk (by omega) (by rw [← hs2n]; exact hc3), hs2]
            have hinv := hinv2
            have htime : st2.time = st0.time := by rw [hs2]; exact htime
            refine W.exit ?_
            refine WE.then_exit ?_
            refine WE.blk_other rfl ?_
            refine WE.then_exit ?_
            refine WE.blk_exit ?_
            refine WE.nxt ?_
            refine W.region _ ?_
            refine WG.run tab_ok 1 rfl ?_
            refine' WG.y rfl rfl (by decide) (Yl.load1 tab_ok rfl rfl rfl (fun _ => rfl) ?r4 rfl ?h4) ?_
            case r4 => apply Rd.add; (first | exact Rd.blk 0 rfl | exact Rd.blk 1 rfl | exact Rd.blk 2 rfl | exact Rd.blk 3 rfl)
            case h4 => rfl
            refine WG.y rfl rfl (by decide) (Yl.add rfl rfl rfl (fun _ => rfl) (by intro _; constructor <;> (try dsimp only) <;> omega)) ?_
            refine WG.run tab_ok 1 rfl ?_
            first | refine WL.efN rfl rfl (Ef.store 0 tab_ok rfl rfl rfl rfl rfl rfl rfl rfl ?_) | refine WL.efN rfl rfl (Ef.store 1 tab_ok rfl rfl rfl rfl rfl rfl rfl rfl ?_) | refine WL.efN rfl rfl (Ef.store 2 tab_ok rfl rfl rfl rfl rfl rfl rfl rfl ?_) | refine WL.efN rfl rfl (Ef.store 3 tab_ok rfl rfl rfl rfl rfl rfl rfl rfl ?_)
            refine WG.nil ?_
            refine WE.blk _ ?_
            refine WE.again (Rk, ga, da, gc, dc, { st2 with time := st2.time + 1 }, (rpick (fifoR ps) st1 g1).2, rows) ⟨hRk, hgv, hdn, hrx, hra, ?_, by (try dsimp only); omega, ?_⟩ (by (try dsimp only); omega) ⟨rfl, rfl, rfl, rfl, rfl, rfl⟩ (RLe.refl _) (by repeat (first | exact List.Sublist.refl _ | exact List.nil_sublist _ | apply List.Sublist.cons_cons | apply List.Sublist.cons))
            · have := hinv.tick.mono (B' := ((st0.time + 1 : Nat) : Int) * cap) (by rw [hB2]; omega)
              dsimp only at this ⊢
              rw [htime] at this ⊢; exact this
            · dsimp only
              rw [← hfin, show ticks - st0.time = (ticks - (st0.time + 1)) + 1 by omega, rticks, htime]
              have hrt : rtick ps (fifoR ps) cap st0 g0 = ({ st2 with time := st0.time + 1 }, (rpick (fifoR ps) st1 g1).2) := by unfold rtick; rw [hend]; dsimp only; rw [htime]
              rw [hrt]
          · try dsimp only at hc3
            refine W.skip ?_
            refine WE.nxt ?_
            refine W.seq ?_
            refine W.region _ ?_
            refine WG.run tab_ok 1 rfl ?_
            refine WG.nil ?_
            refine WE.nxt ?_
            refine W.seq ?_
            refine W.region _ ?_
            refine' WG.y rfl rfl (by decide) (Yl.load1 tab_ok rfl rfl rfl (fun _ => rfl) ?r5 rfl ?h5) ?_
            case r5 => (first | exact Rd.blk 0 rfl | exact Rd.blk 1 rfl | exact Rd.blk 2 rfl | exact Rd.blk 3 rfl)
            case h5 => rfl
            refine WG.run tab_ok 2 rfl ?_
            refine WL.perm perm_out ?_
            refine WL.call en47 rfl rfl (by decide) (CallOp.mkT rfl rfl rfl rfl) (SendR_C (classes := classes) (B := B) (len := st0.time + 2) w0 hoa hp hgv hdn hinv2 (by omega) (by omega) hrx hra hc3 (by omega) hsz hfl (by omega) _) ?_
            rintro _ R3 E3 hR3 ⟨ga2, da2, gc2, dc2, rows3, rfl, hgv3, hdn3, hrx3, hra3, hsub⟩
            refine WL.subE hsub ?_
            refine WL.perm perm_out.symm ?_
            obtain ⟨hs4, hs5, hs6⟩ := hinv2.send hfl (by omega) hc3 (most := left) (by omega)
            have hl3 : rows3.length = rows.length := by
              have h1 := congrArg List.length hrx3
              have h2 := hs4.slen
              have h3 := hinv2.slen
              have h4 := congrArg List.length hrx
              simp only [List.length_map] at h1 h4
              omega
            refine WG.run tab_ok 3 rfl ?_
            first | refine WL.efN rfl rfl (Ef.store0 0 tab_ok rfl rfl rfl rfl rfl rfl rfl rfl ?_) | refine WL.efN rfl rfl (Ef.store0 1 tab_ok rfl rfl rfl rfl rfl rfl rfl rfl ?_) | refine WL.efN rfl rfl (Ef.store0 2 tab_ok rfl rfl rfl rfl rfl rfl rfl rfl ?_) | refine WL.efN rfl rfl (Ef.store0 3 tab_ok rfl rfl rfl rfl rfl rfl rfl rfl ?_)
            refine WG.run tab_ok 1 rfl ?_
            refine WG.nil ?_
            refine WE.nxt ?_
            refine W.region _ ?_
            refine WG.run tab_ok 2 rfl ?_
            refine WG.y rfl rfl (by decide) (Yl.sub rfl rfl rfl (fun _ => rfl) (by intro _; constructor <;> (try dsimp only) <;> omega)) ?_
            refine WG.run tab_ok 1 rfl ?_
            refine WG.nil ?_
            refine WE.blk _ ?_
            have hin2 : rinner ps (fifoR ps) (k - 1) (left - rsendN ps left st2) (rsend ps left st2) (rpick (fifoR ps) st1 g1).2 = rinner ps (fifoR ps) cap.toNat cap (rbegin st0) g0 := by rw [← hin, rinner_some hkk (by omega) (by rw [← hs2n]; exact hc3), hs2]
            refine WE.again (R3, ga2, da2, gc2, dc2, rsend ps left st2, (rpick (fifoR ps) st1 g1).2, rows3, left - rsendN ps left st2) ⟨hRk.trans hR3, hgv3, hdn3, hrx3, hra3, ⟨k - 1, hin2, by (try dsimp only); omega⟩, by (try dsimp only); omega, by (try dsimp only); omega, by dsimp only; rw [rsend_time, hs2]; exact htime, _, hs4, by (try dsimp only); omega⟩ (by (try dsimp only); omega) ⟨rfl, rfl, rfl, rfl, rfl, rfl, rfl⟩ (RLe.refl _) (by rw [hl3]; exact (by repeat (first | exact List.Sublist.refl _ | exact List.nil_sublist _ | apply List.Sublist.cons_cons | apply List.Sublist.cons)))
        ·
          refine W.seq ?_
          refine W.region _ ?_
          refine WG.run tab_ok 1 rfl ?_
          refine' WG.y rfl rfl (by decide) (Yl.load1 tab_ok rfl rfl rfl (fun _ => rfl) ?r6 rfl ?h6) ?_
          case r6 => apply Rd.add; (first | exact Rd.blk 0 rfl | exact Rd.blk 1 rfl | exact Rd.blk 2 rfl | exact Rd.blk 3 rfl)
          case h6 => rfl
          refine WG.run tab_ok 1 rfl ?_
          refine WG.nil ?_
          refine WE.nxt ?_
          refine W.condE rfl (fun hc4 => ?_) (fun hc4 => ?_)
          · try dsimp only at hc4
            refine W.region _ ?_
            refine' WG.y rfl rfl (by decide) (Yl.load1 tab_ok rfl rfl rfl (fun _ => rfl) ?r7 rfl ?h7) ?_
            case r7 => (first | exact Rd.blk 0 rfl | exact Rd.blk 1 rfl | exact Rd.blk 2 rfl | exact Rd.blk 3 rfl)
            case h7 => rfl
            refine WG.run tab_ok 1 rfl ?_
            refine WG.callV en46 rfl rfl (by decide) (CallOp.mk' rfl rfl rfl rfl) (fun _ => rfl) (fun hg => FirstR_V hp hgv hinv.glen (cls := -1)) ?_
            refine WG.run tab_ok 1 rfl ?_
            first | refine WL.efN rfl rfl (Ef.store 0 tab_ok rfl rfl rfl rfl rfl rfl rfl rfl ?_) | refine WL.efN rfl rfl (Ef.store 1 tab_ok rfl rfl rfl rfl rfl rfl rfl rfl ?_) | refine WL.efN rfl rfl (Ef.store 2 tab_ok rfl rfl rfl rfl rfl rfl rfl rfl ?_) | refine WL.efN rfl rfl (Ef.store 3 tab_ok rfl rfl rfl rfl rfl rfl rfl rfl ?_)
            refine WG.nil ?_
            refine WE.cut { st1 with now := firstW ps st1 (-1) } (by unfold rpick; rw [if_pos hc4]; rfl) ⟨rfl, rfl, rfl, rfl, rfl, rfl, rfl⟩ (RLe.refl _) (by repeat (first | exact List.Sublist.refl _ | exact List.nil_sublist _ | apply List.Sublist.cons_cons | apply List.Sublist.cons))
          · try dsimp only at hc4
            refine W.skip ?_
            refine WE.cut st1 (by unfold rpick; rw [if_neg hc4]) ⟨rfl, rfl, rfl, rfl, rfl, rfl, rfl⟩ (RLe.refl _) (by repeat (first | exact List.Sublist.refl _ | exact List.nil_sublist _ | apply List.Sublist.cons_cons | apply List.Sublist.cons))
      · try dsimp only at hc2
        have hend : rinner ps (fifoR ps) cap.toNat cap (rbegin st0) g0 = (st1, g1) := by rw [← hin, rinner_stop (by omega)]
        refine W.exit ?_
        refine WE.then_exit ?_
        refine WE.then_exit ?_
        refine WE.blk_exit ?_
        refine WE.nxt ?_
        refine W.region _ ?_
        refine WG.run tab_ok 1 rfl ?_
        refine' WG.y rfl rfl (by decide) (Yl.load1 tab_ok rfl rfl rfl (fun _ => rfl) ?r8 rfl ?h8) ?_
        case r8 => apply Rd.add; (first | exact Rd.blk 0 rfl | exact Rd.blk 1 rfl | exact Rd.blk 2 rfl | exact Rd.blk 3 rfl)
        case h8 => rfl
        refine WG.y rfl rfl (by decide) (Yl.add rfl rfl rfl (fun _ => rfl) (by intro _; constructor <;> (try dsimp only) <;> omega)) ?_
        refine WG.run tab_ok 1 rfl ?_
        first | refine WL.efN rfl rfl (Ef.store 0 tab_ok rfl rfl rfl rfl rfl rfl rfl rfl ?_) | refine WL.efN rfl rfl (Ef.store 1 tab_ok rfl rfl rfl rfl rfl rfl rfl rfl ?_) | refine WL.efN rfl rfl (Ef.store 2 tab_ok rfl rfl rfl rfl rfl rfl rfl rfl ?_) | refine WL.efN rfl rfl (Ef.store 3 tab_ok rfl rfl rfl rfl rfl rfl rfl rfl ?_)
        refine WG.nil ?_
        refine WE.blk _ ?_
        refine WE.again (Rk, ga, da, gc, dc, { st1 with time := st1.time + 1 }, g1, rows) ⟨hRk, hgv, hdn, hrx, hra, ?_, by (try dsimp only); omega, ?_⟩ (by (try dsimp only); omega) ⟨rfl, rfl, rfl, rfl, rfl, rfl⟩ (RLe.refl _) (by repeat (first | exact List.Sublist.refl _ | exact List.nil_sublist _ | apply List.Sublist.cons_cons | apply List.Sublist.cons))
        · have := hinv.tick.mono (B' := ((st0.time + 1 : Nat) : Int) * cap) (by rw [hB2]; omega)
          dsimp only at this ⊢
          rw [htime] at this ⊢; exact this
        · dsimp only
          rw [← hfin, show ticks - st0.time = (ticks - (st0.time + 1)) + 1 by omega, rticks, htime]
          have hrt : rtick ps (fifoR ps) cap st0 g0 = ({ st1 with time := st0.time + 1 }, g1) := by unfold rtick; rw [hend]; dsimp only; rw [htime]
          rw [hrt]
    · try dsimp only at hc1
      have hst : st0.time = ticks := by omega
      have hfin2 : st0 = rrun ps (fifoR ps) cap classes ticks () := by rw [← hfin, hst, Nat.sub_self]; rfl
      rw [hst] at hinv
      refine W.exit ?_
      refine WE.then_exit ?_
      refine WE.then_exit ?_
      refine WE.blk_exit ?_
      refine WE.nxt ?_
      refine W.seq ?_
      refine W.region _ ?_
      refine WG.run tab_ok 1 rfl ?_
      refine' WG.y rfl rfl (by decide) (Yl.load1 tab_ok rfl rfl rfl (fun _ => rfl) ?r9 rfl ?h9) ?_
      case r9 => apply Rd.add; (first | exact Rd.blk 0 rfl | exact Rd.blk 1 rfl | exact Rd.blk 2 rfl | exact Rd.blk 3 rfl)
      case h9 => rfl
      first | refine WL.efN rfl rfl (Ef.store0 0 tab_ok rfl rfl rfl rfl rfl rfl rfl rfl ?_) | refine WL.efN rfl rfl (Ef.store0 1 tab_ok rfl rfl rfl rfl rfl rfl rfl rfl ?_) | refine WL.efN rfl rfl (Ef.store0 2 tab_ok rfl rfl rfl rfl rfl rfl rfl rfl ?_) | refine WL.efN rfl rfl (Ef.store0 3 tab_ok rfl rfl rfl rfl rfl rfl rfl rfl ?_)
      refine WG.run tab_ok 1 rfl ?_
      refine WG.nil ?_
      refine WE.nxt ?_
      refine W.ret ?_
      refine WE.retF tab_ok [_, _] rfl ⟨⟨_, _, _, rfl, rfl, rfl, ((by first | exact Rd.blk 0 rfl | exact Rd.blk 1 rfl | exact Rd.blk 2 rfl | exact Rd.blk 3 rfl)), rfl⟩, rfl, trivial⟩ (hRk) ?_
      exact ⟨da, oa, dc, oc, rows, st0, hfin2, rfl, hdn, hrx, hra, hinv, (by repeat (first | exact List.Sublist.refl _ | exact List.nil_sublist _ | apply List.Sublist.cons_cons | apply List.Sublist.cons))⟩

end Go.Proofs.Ytgcpmmbljhnacaa
