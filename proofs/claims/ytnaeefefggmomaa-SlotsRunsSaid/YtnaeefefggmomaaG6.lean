/- SlotsRuns: for every input the law returns true, and the input reads afterwards as it read before. No condition. -/
import Derived.Test.YtnaeefefggmomaaG5
/- Chapter 21: runs of the reference. No condition. -/
set_option linter.unusedSimpArgs false
set_option linter.unusedVariables false
namespace Go.Proofs.Ytnaeefefggmomaa
open Go Go.RowKit Go.Proofs.Ytnaeefefggmomaa.K Go.Proofs.Ytnaeefefggmomaa.M

theorem firstW_lt (ps : List Pkt) (st : St) (c : Int) : firstW ps st c < ps.length := by
  rcases firstW_waiting ps c st with h | h
  · rw [h]; omega
  · exact h.2.1

theorem For_err {R : Ro} {pa wa : Option Addr} {pc wc : Nat} {ps : List Pkt} {tb : List Int} (hp : RS R 3 encP pa ps) (hwr : RS R 1 encI wa tb) {cap ticks : Int} {classes : Nat} (w0 : World) (hbad : lrunE cap classes ticks ps ≠ 0) (E : List Ent) :
    K.Fn Try.prog 75 [.int .i64 cap, .int .i64 (classes : Int), .slice wa tb.length wc, .slice pa ps.length pc, .int .i64 ticks] w0 R E (fun v R' E' => v = .tuple #[.agg #[.slice none 0 0, .slice none 0 0], .int .i64 (lrunE cap classes ticks ps)] ∧ R = R' ∧ E.Sublist E') := by
  have hla := hp.len
  have hlw := hwr.len
  refine Fn.enter (n := 95) Try.func75 rfl rfl (Nat.le_of_ble_eq_true rfl) rfl ?_
  refine W.seq ?_
  refine W.region _ ?_
  refine WL.ef rfl rfl (by decide) (Ef.alloc tab_ok rfl rfl (fun b10 => ?_))
  refine WG.run tab_ok 1 rfl ?_
  refine WG.nil ?_
  refine WE.nxt ?_
  refine W.seq ?_
  refine W.seq ?_
  refine W.region _ ?_
  refine WG.run tab_ok 4 rfl ?_
  refine WG.callV en88 rfl rfl (by decide) (CallOp.mk' rfl rfl rfl rfl) (fun _ => rfl) (fun hg => (show (if validate ps ≠ 0 then validate ps else checkE cap classes ticks ps) = lrunE cap classes ticks ps from rfl) ▸ BadR_V hp) ?_
  refine WG.run tab_ok 1 rfl ?_
  refine WG.nil ?_
  refine WE.nxt ?_
  refine W.seq ?_
  refine W.region _ ?_
  refine WG.run tab_ok 2 rfl ?_
  refine WG.nil ?_
  refine WE.nxt ?_
  refine W.condN rfl (fun hc0 => ?_) (fun hc0 => ?_)
  · try dsimp only at hc0
    refine W.seq ?_
    refine W.region _ ?_
    -- build
    refine WG.y rfl rfl (by decide) (Yl.build (parts := []) tab_ok rfl rfl rfl rfl (fun _ => rfl) rfl rfl) ?_
    refine WG.run tab_ok 1 rfl ?_
    first | refine WL.efN rfl rfl (Ef.store0 0 tab_ok rfl rfl rfl rfl rfl rfl rfl rfl ?_) | refine WL.efN rfl rfl (Ef.store0 1 tab_ok rfl rfl rfl rfl rfl rfl rfl rfl ?_) | refine WL.efN rfl rfl (Ef.store0 2 tab_ok rfl rfl rfl rfl rfl rfl rfl rfl ?_)
    refine WG.run tab_ok 1 rfl ?_
    refine WG.nil ?_
    refine WE.nxt ?_
    refine W.ret ?_
    refine WE.then_ret ?_
    refine WE.retF tab_ok [_, _] rfl ⟨⟨_, _, _, rfl, rfl, rfl, ((by first | exact Rd.blk 0 rfl | exact Rd.blk 1 rfl | exact Rd.blk 2 rfl)), rfl⟩, rfl, trivial⟩ (RLe.refl _) ?_
    exact ⟨rfl, rfl, (by (repeat (first | exact List.Sublist.refl _ | exact List.nil_sublist _ | apply List.Sublist.cons_cons | apply List.Sublist.cons)); done)⟩
  · try dsimp only at hc0
    exact absurd hc0 hbad

theorem For_ok {R : Ro} {pa wa : Option Addr} {pc wc : Nat} {ps : List Pkt} {tb : List Int} (hp : RS R 3 encP pa ps) (hwr : RS R 1 encI wa tb) {cap : Int} {classes ticks : Nat} (w0 : World) (ht1 : 1 ≤ tb.length ∧ tb.length ≤ 40) (hl0 : lrunE cap classes ticks ps = 0) (E : List Ent) :
    K.Fn Try.prog 75 [.int .i64 cap, .int .i64 (classes : Int), .slice wa tb.length wc, .slice pa ps.length pc, .int .i64 ticks] w0 R E (fun v R' E' => ∃ (da oa : Option Addr) (dc oc : Nat) (rows : List Sl) (st : St), st = rrunL ps (slotRc ps cap tb) cap classes ticks () ∧ v = .tuple #[.agg #[.slice da st.done.length dc, .slice oa rows.length oc], .int .i64 0] ∧ RS R' 1 encI da st.done ∧ rows.map Sl.xs = st.sent ∧ (∀ r ∈ rows, r.a.isSome = true) ∧ RInv ps classes (ticks + 1) (ticks * cap) st ∧ (.sl 23 1 oa oc (rows.map encS) :: (rows.map (rowE 3) ++ E)).Sublist E') := by
  have hpR := hp
  have hwR := hwr
  obtain ⟨hok, hvv, hckk, d1, d2, d3, d4, d5, d6, hs, hf⟩ := lrunE_ok hl0
  have hcap : 1 ≤ cap ∧ cap ≤ 1000000 := by omega
  have hsz : ∀ p ∈ ps, 1 ≤ p.size ∧ p.size ≤ 1000000 := fun p hp => by have := hs p hp; omega
  have hs1 : ∀ p ∈ ps, 1 ≤ p.size := fun p hp => (hsz p hp).1
  have hpl := hok.len
  have hla := hp.len
  have hlw := hwr.len
  have hBt : ∀ k : Nat, k ≤ ticks → (k : Int) * cap ≤ 2000000000 := fun k hk => by have := Int.mul_le_mul (show (k : Int) ≤ 2000 by omega) hcap.2 (by omega) (by omega); omega
  refine Fn.enter (n := 95) Try.func75 rfl rfl (Nat.le_of_ble_eq_true rfl) rfl ?_
  refine W.seq ?_
  refine W.region _ ?_
  refine WL.ef rfl rfl (by decide) (Ef.alloc tab_ok rfl rfl (fun b10 => ?_))
  refine WG.run tab_ok 1 rfl ?_
  refine WG.nil ?_
  refine WE.nxt ?_
  refine W.seq ?_
  refine W.seq ?_
  refine W.region _ ?_
  refine WG.run tab_ok 4 rfl ?_
  refine WG.callV en88 rfl rfl (by decide) (CallOp.mk' rfl rfl rfl rfl) (fun _ => rfl) (fun hg => (show (if validate ps ≠ 0 then validate ps else checkE cap classes ticks ps) = 0 by simp [hvv, hckk]) ▸ BadR_V hp) ?_
  refine WG.run tab_ok 1 rfl ?_
  refine WG.nil ?_
  refine WE.nxt ?_
  refine W.seq ?_
  refine W.region _ ?_
  refine WG.run tab_ok 2 rfl ?_
  refine WG.nil ?_
  refine WE.nxt ?_
  refine W.condN rfl (fun hc0 => ?_) (fun hc0 => ?_)
  · try dsimp only at hc0
    exact absurd rfl hc0
  · try dsimp only at hc0
    refine W.skip ?_
    refine WE.nxt ?_
    refine W.seq ?_
    refine W.region _ ?_
    refine WG.run tab_ok 2 rfl ?_
    refine WL.call en89 rfl rfl (by decide) (CallOp.mkT rfl rfl rfl rfl) (NewR_C w0 (by omega) (by omega) _) ?_
    rintro _ R1 E1 hR1 ⟨ga, da, oa, gc, dc, oc, rows, rfl, hgv, hdn, hoa, hrx, hra, hsub⟩
    refine WL.subE hsub ?_
    refine WL.perm (List.perm_middle (l₁ := _ :: rows.map (rowE 3))) ?_
    refine WL.ef rfl rfl (by decide) (Ef.alloc tab_ok rfl rfl (fun b13 => ?_))
    first | refine WL.efN rfl rfl (Ef.store0 0 tab_ok rfl rfl rfl rfl rfl rfl rfl rfl ?_) | refine WL.efN rfl rfl (Ef.store0 1 tab_ok rfl rfl rfl rfl rfl rfl rfl rfl ?_) | refine WL.efN rfl rfl (Ef.store0 2 tab_ok rfl rfl rfl rfl rfl rfl rfl rfl ?_) | refine WL.efN rfl rfl (Ef.store0 3 tab_ok rfl rfl rfl rfl rfl rfl rfl rfl ?_) | refine WL.efN rfl rfl (Ef.store0 4 tab_ok rfl rfl rfl rfl rfl rfl rfl rfl ?_)
    refine WG.nil ?_
    refine WE.nxt ?_
    refine W.seq ?_
    refine W.block ?_
    refine W.loop (β := Ro × Option Addr × Option Addr × Nat × Nat × St × Unit × List Sl) (fun (Rk, ga, da, gc, dc, st, g, rows) => RLe R Rk ∧ RS Rk 1 encI ga st.given ∧ RS Rk 1 encI da st.done ∧ rows.map Sl.xs = st.sent ∧ (∀ r ∈ rows, r.a.isSome = true) ∧ RInv ps classes (st.time + 1) ((st.time : Int) * cap) st ∧ st.time ≤ ticks ∧ (rticksL ps (slotRc ps cap tb) cap (ticks - st.time) st g).1 = rrunL ps (slotRc ps cap tb) cap classes ticks ()) (fun (Rk, ga, da, gc, dc, st, g, rows) => [(0, true, .int .i64 cap), (2, true, .slice wa tb.length wc), (3, true, .slice pa ps.length pc), (4, true, .int .i64 ticks), (10, true, .pointer (some ⟨b10, 0, none⟩)), (13, true, .pointer (some ⟨b13, 0, none⟩))]) (fun (Rk, _, _, _, _, _, _, _) => Rk) (fun (Rk, ga, da, gc, dc, st, g, rows) => .blk b13 [.int .i64 st.time, .slice ga st.given.length gc, .int .i64 st.now, .slice da st.done.length dc, .slice oa rows.length oc] :: .blk b10 [.slice none 0 0, .slice none 0 0] :: .sl 23 1 oa oc (rows.map encS) :: (rows.map (rowE 3) ++ E)) (fun (Rk, ga, da, gc, dc, st, g, rows) => ticks - st.time) ((R1, ga, da, gc, dc, rstart ps classes, (), rows)) (⟨hR1, hgv, hdn, hrx, hra, (show RInv ps classes 1 (((0 : Nat) : Int) * cap) (rstart ps classes) by simpa using RInv.start (classes := classes) hs1), Nat.zero_le _, rfl⟩) ⟨rfl, rfl, rfl, rfl, rfl, rfl, rfl⟩ (RLe.refl _) (by simp only [rstart, List.length_replicate]; exact (by (repeat (first | exact List.Sublist.refl _ | exact List.nil_sublist _ | apply List.Sublist.cons_cons | apply List.Sublist.cons)); done)) ?_
    intro st hst
    obtain ⟨Rk, ga, da, gc, dc, st0, g0, rows⟩ := st
    obtain ⟨hRk, hgv, hdn, hrx, hra, hinv, htk, hfin⟩ := hst
    dsimp only at hRk hgv hdn hrx hra hinv htk hfin ⊢
    have hp := hp.mono hRk
    have hwr := hwr.mono hRk
    have hce : (st0.time : Int) % (tb.length : Int) = ((st0.time % tb.length : Nat) : Int) := rfl
    have hml := Nat.mod_lt st0.time (show 0 < tb.length by omega)
    have hlr : rows.length = classes := by rw [← hinv.slen, ← hrx, List.length_map]
    refine W.seq ?_
    refine W.seq ?_
    refine W.region _ ?_
    refine WG.run tab_ok 1 rfl ?_
    refine' WG.y rfl rfl (by decide) (Yl.load1 tab_ok rfl rfl rfl (fun _ => rfl) ?r1 rfl ?h1) ?_
    case r1 => apply Rd.add; (first | exact Rd.blk 0 rfl | exact Rd.blk 1 rfl | exact Rd.blk 2 rfl | exact Rd.blk 3 rfl | exact Rd.blk 4 rfl)
    case h1 => rfl
    refine WG.run tab_ok 2 rfl ?_
    refine WG.nil ?_
    refine WE.nxt ?_
    refine W.condD rfl (fun hc1 => ?_) (fun hc1 => ?_)
    · try dsimp only at hc1
      refine W.skip ?_
      refine WE.nxt ?_
      refine W.block ?_
      refine W.seq ?_
      refine W.region _ ?_
      refine' WG.y rfl rfl (by decide) (Yl.load1 tab_ok rfl rfl rfl (fun _ => rfl) ?r2 rfl ?h2) ?_
      case r2 => (first | exact Rd.blk 0 rfl | exact Rd.blk 1 rfl | exact Rd.blk 2 rfl | exact Rd.blk 3 rfl | exact Rd.blk 4 rfl)
      case h2 => rfl
      refine WL.perm perm_out ?_
      refine WL.call en90 rfl rfl (by decide) (CallOp.mkT rfl rfl rfl rfl) (BeginR_C w0 hoa (fun r hr => ⟨hra r hr, by have := (hinv.rows r.xs (by rw [← hrx]; exact List.mem_map_of_mem hr)).1; omega⟩) (by omega) _) ?_
      rintro _ _ E2 - ⟨rows2, rfl, rfl, hrx2, hra2, hsub⟩
      refine WL.subE hsub ?_
      refine WL.perm perm_out.symm ?_
      have hl2 : rows2.length = rows.length := by have := congrArg List.length hrx2; simpa using this
      first | refine WL.efN rfl rfl (Ef.store0 0 tab_ok rfl rfl rfl rfl rfl rfl rfl rfl ?_) | refine WL.efN rfl rfl (Ef.store0 1 tab_ok rfl rfl rfl rfl rfl rfl rfl rfl ?_) | refine WL.efN rfl rfl (Ef.store0 2 tab_ok rfl rfl rfl rfl rfl rfl rfl rfl ?_) | refine WL.efN rfl rfl (Ef.store0 3 tab_ok rfl rfl rfl rfl rfl rfl rfl rfl ?_) | refine WL.efN rfl rfl (Ef.store0 4 tab_ok rfl rfl rfl rfl rfl rfl rfl rfl ?_)
      refine WG.nil ?_
      refine WE.nxt ?_
      refine W.seq ?_
      refine W.region _ ?_
      refine WG.run tab_ok 2 rfl ?_
      refine' WG.y rfl rfl (by decide) (Yl.load1 tab_ok rfl rfl rfl (fun _ => rfl) ?r3 rfl ?h3) ?_
      case r3 => apply Rd.add; (first | exact Rd.blk 0 rfl | exact Rd.blk 1 rfl | exact Rd.blk 2 rfl | exact Rd.blk 3 rfl | exact Rd.blk 4 rfl)
      case h3 => rfl
      refine WG.run tab_ok 2 rfl ?_
      refine WG.y rfl rfl (by decide) (Yl.rem rfl rfl rfl (fun _ => rfl) (by intro _; (try dsimp only) <;> omega) (by intro _; (try dsimp only) <;> omega)) ?_
      rw [hce]
      refine WG.y rfl rfl (by decide) (Yl.indexN tab_ok rfl rfl rfl rfl rfl rfl (fun _ => rfl) (by intro _; (try dsimp only) <;> omega) (by intro _; first | exact fun _ _ _ _ => rfl | exact RS.has (by assumption) | exact fun _ _ _ _ => (by assumption) | exact HasMem.ownD 0 rfl | exact HasMem.ownD 1 rfl | exact HasMem.ownD 2 rfl | exact HasMem.ownD 3 rfl | exact HasMem.ownD 4 rfl)) ?_
      refine' WG.y rfl rfl (by decide) (Yl.load1 tab_ok rfl rfl rfl (fun _ => rfl) ?r4 rfl ?h4) ?_
      case r4 => (first | (apply RS.rdD; assumption; ((try dsimp only) <;> omega)) | exact Rd.slD 0 rfl (by (try dsimp only) <;> omega) | exact Rd.slD 1 rfl (by (try dsimp only) <;> omega) | exact Rd.slD 2 rfl (by (try dsimp only) <;> omega) | exact Rd.slD 3 rfl (by (try dsimp only) <;> omega) | exact Rd.slD 4 rfl (by (try dsimp only) <;> omega))
      case h4 => rfl
      refine WG.run tab_ok 1 rfl ?_
      refine WG.nil ?_
      refine WE.nxt ?_
      refine W.seq ?_
      rw [show nth tb (st0.time % tb.length) = slotT tb st0.time from rfl]
      refine W.seq ?_
      refine W.region _ ?_
      refine WG.run tab_ok 2 rfl ?_
      refine WG.nil ?_
      refine WE.nxt ?_
      refine W.block ?_
      refine W.loop (β := Ro × Option Addr × Option Addr × Nat × Nat × St × Unit × List Sl × Int) (fun (Rk, ga, da, gc, dc, st, g, rows, left) => RLe R Rk ∧ RS Rk 1 encI ga st.given ∧ RS Rk 1 encI da st.done ∧ rows.map Sl.xs = st.sent ∧ (∀ r ∈ rows, r.a.isSome = true) ∧ (∃ k : Nat, rinnerL ps (slotRc ps cap tb) k left st g = rinnerL ps (slotRc ps cap tb) cap.toNat cap (rbegin st0) g0 ∧ left ≤ k) ∧ 0 ≤ left ∧ left ≤ cap ∧ st.time = st0.time ∧ ∃ B, RInv ps classes (st0.time + 2) B st ∧ B + left ≤ ((st0.time : Int) + 1) * cap) (fun (Rk, ga, da, gc, dc, st, g, rows, left) => [(0, true, .int .i64 cap), (2, true, .slice wa tb.length wc), (3, true, .slice pa ps.length pc), (4, true, .int .i64 ticks), (10, true, .pointer (some ⟨b10, 0, none⟩)), (13, true, .pointer (some ⟨b13, 0, none⟩)), (14, true, .int .i64 (slotT tb st0.time)), (15, true, .int .i64 left)]) (fun (Rk, _, _, _, _, _, _, _, _) => Rk) (fun (Rk, ga, da, gc, dc, st, g, rows, left) => .blk b13 [.int .i64 st.time, .slice ga st.given.length gc, .int .i64 st.now, .slice da st.done.length dc, .slice oa rows.length oc] :: .blk b10 [.slice none 0 0, .slice none 0 0] :: .sl 23 1 oa oc (rows.map encS) :: (rows.map (rowE 3) ++ E)) (fun (Rk, ga, da, gc, dc, st, g, rows, left) => left.toNat) ((Rk, ga, da, gc, dc, rbegin st0, g0, rows2, cap)) (⟨hRk, hgv, hdn, by rw [hrx2, hrx]; rfl, hra2, ⟨cap.toNat, rfl, by (try dsimp only); omega⟩, by (try dsimp only); omega, by (try dsimp only); omega, rfl, _, hinv.begin (by omega), by (try dsimp only); rw [Int.add_mul]; omega⟩) ⟨rfl, rfl, rfl, rfl, rfl, rfl, rfl, rfl, rfl⟩ (RLe.refl _) (by rw [← hl2]; exact (by (repeat (first | exact List.Sublist.refl _ | exact List.nil_sublist _ | apply List.Sublist.cons_cons | apply List.Sublist.cons)); done)) ?_
      intro st hst
      obtain ⟨Rk, ga, da, gc, dc, st1, g1, rows, left⟩ := st
      obtain ⟨hRk, hgv, hdn, hrx, hra, ⟨k, hin, hkk⟩, hl0, hlc, htime, B, hinv, hB⟩ := hst
      dsimp only at hRk hgv hdn hrx hra hin hkk hl0 hlc htime hinv hB ⊢
      have hp := hpR.mono hRk
      have hwr := hwR.mono hRk
      have hfl1 := firstW_lt ps st1 (slotT tb st0.time)
      have hB1 := hBt (st0.time + 1) (by omega)
      have hB2 : ((st0.time + 1 : Nat) : Int) = (st0.time : Int) + 1 := by omega
      rw [hB2] at hB1
      refine W.seq ?_
      refine W.seq ?_
      refine W.region _ ?_
      refine WG.run tab_ok 2 rfl ?_
      refine WG.nil ?_
      refine WE.nxt ?_
      refine W.condD rfl (fun hc2 => ?_) (fun hc2 => ?_)
      · try dsimp only at hc2
        refine W.skip ?_
        refine WE.nxt ?_
        refine W.block ?_
        refine W.seqCut (β := St) (fun st2 => st2 = { st1 with now := (rpickL (slotRc ps cap tb) left st1 g1).1 }) (fun st2 => [(0, true, .int .i64 cap), (2, true, .slice wa tb.length wc), (3, true, .slice pa ps.length pc), (4, true, .int .i64 ticks), (10, true, .pointer (some ⟨b10, 0, none⟩)), (13, true, .pointer (some ⟨b13, 0, none⟩)), (14, true, .int .i64 (slotT tb st0.time)), (15, true, .int .i64 left)]) (fun _ => Rk) (fun st2 => .blk b13 [.int .i64 st2.time, .slice ga st2.given.length gc, .int .i64 st2.now, .slice da st2.done.length dc, .slice oa rows.length oc] :: .blk b10 [.slice none 0 0, .slice none 0 0] :: .sl 23 1 oa oc (rows.map encS) :: (rows.map (rowE 3) ++ E)) ?_ ?_
        ·
          intro st2 hst
          have hs2 := hst
          have hs2n : st2.now = (rpickL (slotRc ps cap tb) left st1 g1).1 := by rw [hs2]
          have hinv2 : RInv ps classes (st0.time + 2) B st2 := by rw [hs2]; exact hinv.pickL hs1 slot_waiting
          have hgv : RS Rk 1 encI ga st2.given := by rw [hs2]; exact hgv
          have hdn : RS Rk 1 encI da st2.done := by rw [hs2]; exact hdn
          have hrx : rows.map Sl.xs = st2.sent := by rw [hs2]; exact hrx
          refine W.seq ?_
          refine W.seq ?_
          refine W.region _ ?_
          refine WG.run tab_ok 1 rfl ?_
          refine' WG.y rfl rfl (by decide) (Yl.load1 tab_ok rfl rfl rfl (fun _ => rfl) ?r5 rfl ?h5) ?_
          case r5 => apply Rd.add; (first | exact Rd.blk 0 rfl | exact Rd.blk 1 rfl | exact Rd.blk 2 rfl | exact Rd.blk 3 rfl | exact Rd.blk 4 rfl)
          case h5 => rfl
          refine WG.run tab_ok 1 rfl ?_
          refine WG.nil ?_
          refine WE.nxt ?_
          refine W.condE rfl (fun hc3 => ?_) (fun hc3 => ?_)
          · try dsimp only at hc3
            have hend : rinnerL ps (slotRc ps cap tb) cap.toNat cap (rbegin st0) g0 = (st2, (rpickL (slotRc ps cap tb) left st1 g1).2) := by rw [← hin, rinnerL_none hkk (by omega) (by rw [← hs2n]; exact hc3), hs2]
            have hinv := hinv2
            have htime : st2.time = st0.time := by rw [hs2]; exact htime
            refine W.exit ?_
            refine WE.then_exit ?_
            refine WE.blk_other rfl ?_
            refine WE.then_exit ?_
            refine WE.blk_exit ?_
            refine WE.nxt ?_
            refine W.region _ ?_
            refine WG.run tab_ok 1 rfl ?_
            refine' WG.y rfl rfl (by decide) (Yl.load1 tab_ok rfl rfl rfl (fun _ => rfl) ?r6 rfl ?h6) ?_
            case r6 => apply Rd.add; (first | exact Rd.blk 0 rfl | exact Rd.blk 1 rfl | exact Rd.blk 2 rfl | exact Rd.blk 3 rfl | exact Rd.blk 4 rfl)
            case h6 => rfl
            refine WG.y rfl rfl (by decide) (Yl.add rfl rfl rfl (fun _ => rfl) (by intro _; constructor <;> (try dsimp only) <;> omega)) ?_
            refine WG.run tab_ok 1 rfl ?_
            first | refine WL.efN rfl rfl (Ef.store 0 tab_ok rfl rfl rfl rfl rfl rfl rfl rfl ?_) | refine WL.efN rfl rfl (Ef.store 1 tab_ok rfl rfl rfl rfl rfl rfl rfl rfl ?_) | refine WL.efN rfl rfl (Ef.store 2 tab_ok rfl rfl rfl rfl rfl rfl rfl rfl ?_) | refine WL.efN rfl rfl (Ef.store 3 tab_ok rfl rfl rfl rfl rfl rfl rfl rfl ?_) | refine WL.efN rfl rfl (Ef.store 4 tab_ok rfl rfl rfl rfl rfl rfl rfl rfl ?_)
            refine WG.nil ?_
            refine WE.blk _ ?_
            refine WE.again (Rk, ga, da, gc, dc, { st2 with time := st2.time + 1 }, (rpickL (slotRc ps cap tb) left st1 g1).2, rows) ⟨hRk, hgv, hdn, hrx, hra, ?_, by (try dsimp only); omega, ?_⟩ (by (try dsimp only); omega) ⟨rfl, rfl, rfl, rfl, rfl, rfl, rfl⟩ (RLe.refl _) (by (repeat (first | exact List.Sublist.refl _ | exact List.nil_sublist _ | apply List.Sublist.cons_cons | apply List.Sublist.cons)); done)
            · have := hinv.tick.mono (B' := ((st0.time + 1 : Nat) : Int) * cap) (by rw [hB2]; omega)
              dsimp only at this ⊢
              rw [htime] at this ⊢; exact this
            · dsimp only
              rw [← hfin, show ticks - st0.time = (ticks - (st0.time + 1)) + 1 by omega, rticksL, htime]
              have hrt : rtickL ps (slotRc ps cap tb) cap st0 g0 = ({ st2 with time := st0.time + 1 }, (rpickL (slotRc ps cap tb) left st1 g1).2) := by unfold rtickL; rw [hend]; dsimp only; rw [htime]
              rw [hrt]
          · try dsimp only at hc3
            refine W.skip ?_
            refine WE.nxt ?_
            refine W.seq ?_
            refine W.region _ ?_
            refine WG.run tab_ok 1 rfl ?_
            refine WG.nil ?_
            refine WE.nxt ?_
            refine W.seq ?_
            refine W.region _ ?_
            refine' WG.y rfl rfl (by decide) (Yl.load1 tab_ok rfl rfl rfl (fun _ => rfl) ?r7 rfl ?h7) ?_
            case r7 => (first | exact Rd.blk 0 rfl | exact Rd.blk 1 rfl | exact Rd.blk 2 rfl | exact Rd.blk 3 rfl | exact Rd.blk 4 rfl)
            case h7 => rfl
            refine WG.run tab_ok 2 rfl ?_
            refine WL.perm perm_out ?_
            refine WL.call en92 rfl rfl (by decide) (CallOp.mkT rfl rfl rfl rfl) (SendR_C (classes := classes) (B := B) (len := st0.time + 2) w0 hoa hp hgv hdn hinv2 (by omega) (by omega) hrx hra hc3 (by omega) hsz hf (by omega) _) ?_
            rintro _ R3 E3 hR3 ⟨ga2, da2, gc2, dc2, rows3, rfl, hgv3, hdn3, hrx3, hra3, hsub⟩
            refine WL.subE hsub ?_
            refine WL.perm perm_out.symm ?_
            obtain ⟨hs4, hs5, hs6⟩ := hinv2.send hf (by omega) hc3 (most := left) (by omega)
            have hl3 : rows3.length = rows.length := by
              have h1 := congrArg List.length hrx3
              have h2 := hs4.slen
              have h3 := hinv2.slen
              have h4 := congrArg List.length hrx
              simp only [List.length_map] at h1 h4
              omega
            refine WG.run tab_ok 3 rfl ?_
            first | refine WL.efN rfl rfl (Ef.store0 0 tab_ok rfl rfl rfl rfl rfl rfl rfl rfl ?_) | refine WL.efN rfl rfl (Ef.store0 1 tab_ok rfl rfl rfl rfl rfl rfl rfl rfl ?_) | refine WL.efN rfl rfl (Ef.store0 2 tab_ok rfl rfl rfl rfl rfl rfl rfl rfl ?_) | refine WL.efN rfl rfl (Ef.store0 3 tab_ok rfl rfl rfl rfl rfl rfl rfl rfl ?_) | refine WL.efN rfl rfl (Ef.store0 4 tab_ok rfl rfl rfl rfl rfl rfl rfl rfl ?_)
            refine WG.run tab_ok 1 rfl ?_
            refine WG.nil ?_
            refine WE.nxt ?_
            refine W.region _ ?_
            refine WG.run tab_ok 2 rfl ?_
            refine WG.y rfl rfl (by decide) (Yl.sub rfl rfl rfl (fun _ => rfl) (by intro _; constructor <;> (try dsimp only) <;> omega)) ?_
            refine WG.run tab_ok 1 rfl ?_
            refine WG.nil ?_
            refine WE.blk _ ?_
            have hin2 : rinnerL ps (slotRc ps cap tb) (k - 1) (left - rsendN ps left st2) (rsend ps left st2) (rpickL (slotRc ps cap tb) left st1 g1).2 = rinnerL ps (slotRc ps cap tb) cap.toNat cap (rbegin st0) g0 := by rw [← hin, rinnerL_some hkk (by omega) (by rw [← hs2n]; exact hc3), hs2]
            refine WE.again (R3, ga2, da2, gc2, dc2, rsend ps left st2, (rpickL (slotRc ps cap tb) left st1 g1).2, rows3, left - rsendN ps left st2) ⟨hRk.trans hR3, hgv3, hdn3, hrx3, hra3, ⟨k - 1, hin2, by (try dsimp only); omega⟩, by (try dsimp only); omega, by (try dsimp only); omega, by dsimp only; rw [rsend_time, hs2]; exact htime, _, hs4, by (try dsimp only); omega⟩ (by (try dsimp only); omega) ⟨rfl, rfl, rfl, rfl, rfl, rfl, rfl, rfl, rfl⟩ (RLe.refl _) (by rw [hl3]; exact (by (repeat (first | exact List.Sublist.refl _ | exact List.nil_sublist _ | apply List.Sublist.cons_cons | apply List.Sublist.cons)); done))
        ·
          refine W.seq ?_
          refine W.region _ ?_
          refine WG.run tab_ok 1 rfl ?_
          refine' WG.y rfl rfl (by decide) (Yl.load1 tab_ok rfl rfl rfl (fun _ => rfl) ?r8 rfl ?h8) ?_
          case r8 => apply Rd.add; (first | exact Rd.blk 0 rfl | exact Rd.blk 1 rfl | exact Rd.blk 2 rfl | exact Rd.blk 3 rfl | exact Rd.blk 4 rfl)
          case h8 => rfl
          refine WG.run tab_ok 2 rfl ?_
          refine WG.y rfl rfl (by decide) (pureV_ok tab_ok rfl (by first | exact fun _ => rfl | exact fun h => h | (intro h; simp_all))) ?_
          refine WG.y rfl rfl (by decide) (pureV_ok tab_ok rfl (by first | exact fun _ => rfl | exact fun h => h | (intro h; simp_all))) ?_
          refine WG.y rfl rfl (by decide) (Yl.pand rfl rfl rfl (fun _ => rfl) (by intro h1 h2; simp_all <;> omega)) ?_
          refine WG.nil ?_
          refine WE.nxt ?_
          refine W.cond rfl (fun hc4 => ?_) (fun hc4 => ?_)
          · try simp only [decide_eq_true_eq, decide_eq_false_iff_not, beq_iff_eq, bne_iff_ne, beq_eq_false_iff_ne, bne_eq_false_iff_eq, ne_eq, Bool.or_eq_true, Bool.or_eq_false_iff, Bool.and_eq_true, Bool.and_eq_false_imp, Bool.not_eq_true, Bool.not_eq_true', Bool.not_eq_false', Classical.not_not, Int.not_lt, Int.not_le, gt_iff_lt, ge_iff_le] at hc4
            refine W.seq ?_
            refine W.region _ ?_
            refine' WG.y rfl rfl (by decide) (Yl.load1 tab_ok rfl rfl rfl (fun _ => rfl) ?r9 rfl ?h9) ?_
            case r9 => (first | exact Rd.blk 0 rfl | exact Rd.blk 1 rfl | exact Rd.blk 2 rfl | exact Rd.blk 3 rfl | exact Rd.blk 4 rfl)
            case h9 => rfl
            refine WG.run tab_ok 2 rfl ?_
            refine WG.callV en91 rfl rfl (by decide) (CallOp.mk' rfl rfl rfl rfl) (fun _ => rfl) (fun hg => FirstR_V hp hgv hinv.glen) ?_
            refine WG.run tab_ok 1 rfl ?_
            refine WG.nil ?_
            refine WE.nxt ?_
            refine W.seq ?_
            refine W.regionQ _ mixed (by kernel_rfl) ?_
            refine WG.run tab_ok 3 rfl ?_
            refine WG.y rfl rfl (by decide) (pureV_ok tab_ok rfl (by first | exact fun _ => rfl | exact fun h => h | (intro h; simp_all))) ?_
            refine WG.y rfl rfl (by decide) (pureV_ok tab_ok rfl (by first | exact fun _ => rfl | exact fun h => h | (intro h; simp_all))) ?_
            refine WG.y rfl rfl (by decide) (Yl.index tab_ok rfl rfl rfl rfl rfl rfl (by first | exact fun _ => rfl | exact fun h => h | (intro h; simp_all)) (by intro hg; (try simp only [decide_eq_true_eq, decide_eq_false_iff_not, beq_iff_eq, bne_iff_ne, beq_eq_false_iff_ne, bne_eq_false_iff_eq, ne_eq, Bool.or_eq_true, Bool.or_eq_false_iff, Bool.and_eq_true, Bool.and_eq_false_imp, Bool.not_eq_true, Bool.not_eq_true', Bool.not_eq_false', Classical.not_not, Int.not_lt, Int.not_le, gt_iff_lt, ge_iff_le] at hg); constructor <;> (try dsimp only) <;> omega) (by intro hg; (try simp only [decide_eq_true_eq, decide_eq_false_iff_not, beq_iff_eq, bne_iff_ne, beq_eq_false_iff_ne, bne_eq_false_iff_eq, ne_eq, Bool.or_eq_true, Bool.or_eq_false_iff, Bool.and_eq_true, Bool.and_eq_false_imp, Bool.not_eq_true, Bool.not_eq_true', Bool.not_eq_false', Classical.not_not, Int.not_lt, Int.not_le, gt_iff_lt, ge_iff_le] at hg); first | exact fun _ _ _ _ => rfl | exact RS.has (by assumption) | exact fun _ _ _ _ => (by assumption) | exact HasMem.ownD 0 rfl | exact HasMem.ownD 1 rfl | exact HasMem.ownD 2 rfl | exact HasMem.ownD 3 rfl | exact HasMem.ownD 4 rfl)) ?_
            refine WG.y rfl rfl (by decide) (pureV_ok tab_ok rfl (by first | exact fun _ => rfl | exact fun h => h | (intro h; simp_all))) ?_
            refine' WG.y rfl rfl (by decide) (Yl.loadG tab_ok rfl rfl rfl (by first | exact fun _ => rfl | exact fun h => h | (intro h; simp_all)) ?r10 rfl ?h10 ?g10) ?_
            case r10 => apply Rd.addC; (first | (apply RS.rdC; assumption) | exact Rd.slC 0 rfl | exact Rd.slC 1 rfl | exact Rd.slC 2 rfl | exact Rd.slC 3 rfl | exact Rd.slC 4 rfl)
            case h10 => rfl
            case g10 => first | exact fun _ => trivial | (intro hg; (try simp only [decide_eq_true_eq, decide_eq_false_iff_not, beq_iff_eq, bne_iff_ne, beq_eq_false_iff_ne, bne_eq_false_iff_eq, ne_eq, Bool.or_eq_true, Bool.or_eq_false_iff, Bool.and_eq_true, Bool.and_eq_false_imp, Bool.not_eq_true, Bool.not_eq_true', Bool.not_eq_false', Classical.not_not, Int.not_lt, Int.not_le, gt_iff_lt, ge_iff_le] at hg); (try dsimp only); omega)
            refine WG.y rfl rfl (by decide) (pureV_ok tab_ok rfl (by first | exact fun _ => rfl | exact fun h => h | (intro h; simp_all))) ?_
            refine WG.y rfl rfl (by decide) (pureV_ok tab_ok rfl (by first | exact fun _ => rfl | exact fun h => h | (intro h; simp_all))) ?_
            refine WG.y rfl rfl (by decide) (pureV_ok tab_ok rfl (by first | exact fun _ => rfl | exact fun h => h | (intro h; simp_all))) ?_
            refine' WG.y rfl rfl (by decide) (Yl.loadG tab_ok rfl rfl rfl (by first | exact fun _ => rfl | exact fun h => h | (intro h; simp_all)) ?r11 rfl ?h11 ?g11) ?_
            case r11 => apply Rd.addC; (first | exact Rd.blkC 0 rfl | exact Rd.blkC 1 rfl | exact Rd.blkC 2 rfl | exact Rd.blkC 3 rfl | exact Rd.blkC 4 rfl)
            case h11 => rfl
            case g11 => first | exact fun _ => trivial | (intro hg; (try simp only [decide_eq_true_eq, decide_eq_false_iff_not, beq_iff_eq, bne_iff_ne, beq_eq_false_iff_ne, bne_eq_false_iff_eq, ne_eq, Bool.or_eq_true, Bool.or_eq_false_iff, Bool.and_eq_true, Bool.and_eq_false_imp, Bool.not_eq_true, Bool.not_eq_true', Bool.not_eq_false', Classical.not_not, Int.not_lt, Int.not_le, gt_iff_lt, ge_iff_le] at hg); (try dsimp only); omega)
            refine WG.y rfl rfl (by decide) (pureV_ok tab_ok rfl (by first | exact fun _ => rfl | exact fun h => h | (intro h; simp_all))) ?_
            refine WG.callV en78 rfl rfl (by decide) (CallOp.mk' rfl rfl rfl rfl) (by first | exact fun _ => rfl | exact fun h => h | (intro h; simp_all)) (fun hg => Room21_V hwr (by omega) (by omega) (by omega) (by omega)) ?_
            refine WG.y rfl rfl (by decide) (pureV_ok tab_ok rfl (by first | exact fun _ => rfl | exact fun h => h | (intro h; simp_all))) ?_
            refine WG.y rfl rfl (by decide) (Yl.pand rfl rfl rfl (fun _ => rfl) (by intro h1 h2; simp_all <;> omega)) ?_
            refine WG.nil ?_
            refine WE.nxt ?_
            refine W.cond rfl (fun hc5 => ?_) (fun hc5 => ?_)
            · try simp only [decide_eq_true_eq, decide_eq_false_iff_not, beq_iff_eq, bne_iff_ne, beq_eq_false_iff_ne, bne_eq_false_iff_eq, ne_eq, Bool.or_eq_true, Bool.or_eq_false_iff, Bool.and_eq_true, Bool.and_eq_false_imp, Bool.not_eq_true, Bool.not_eq_true', Bool.not_eq_false', Classical.not_not, Int.not_lt, Int.not_le, gt_iff_lt, ge_iff_le] at hc5
              refine W.region _ ?_
              refine WG.run tab_ok 2 rfl ?_
              first | refine WL.efN rfl rfl (Ef.store 0 tab_ok rfl rfl rfl rfl rfl rfl rfl rfl ?_) | refine WL.efN rfl rfl (Ef.store 1 tab_ok rfl rfl rfl rfl rfl rfl rfl rfl ?_) | refine WL.efN rfl rfl (Ef.store 2 tab_ok rfl rfl rfl rfl rfl rfl rfl rfl ?_) | refine WL.efN rfl rfl (Ef.store 3 tab_ok rfl rfl rfl rfl rfl rfl rfl rfl ?_) | refine WL.efN rfl rfl (Ef.store 4 tab_ok rfl rfl rfl rfl rfl rfl rfl rfl ?_)
              refine WG.nil ?_
              have hpk : rpickL (slotRc ps cap tb) left st1 g1 = (firstW ps st1 (slotT tb st0.time), g1) := by unfold rpickL slotRc; rw [if_pos hc4.1, htime, if_pos ⟨hc4.2, hc5.1, by have h5 := hc5.2; rw [htime] at h5; exact h5⟩]
              refine WE.cut { st1 with now := firstW ps st1 (slotT tb st0.time) } (by rw [hpk]) ⟨rfl, rfl, rfl, rfl, rfl, rfl, rfl, rfl, rfl⟩ (RLe.refl _) (by (repeat (first | exact List.Sublist.refl _ | exact List.nil_sublist _ | apply List.Sublist.cons_cons | apply List.Sublist.cons)); done)
            · try simp only [decide_eq_true_eq, decide_eq_false_iff_not, beq_iff_eq, bne_iff_ne, beq_eq_false_iff_ne, bne_eq_false_iff_eq, ne_eq, Bool.or_eq_true, Bool.or_eq_false_iff, Bool.and_eq_true, Bool.and_eq_false_imp, Bool.not_eq_true, Bool.not_eq_true', Bool.not_eq_false', Classical.not_not, Int.not_lt, Int.not_le, gt_iff_lt, ge_iff_le] at hc5
              refine W.skip ?_
              have hpk : rpickL (slotRc ps cap tb) left st1 g1 = (-1, g1) := by unfold rpickL slotRc; rw [if_pos hc4.1, htime, if_neg (fun h => by have := hc5 h.2.1; have := h.2.2; simp_all; omega)]
              refine WE.cut st1 (by rw [hpk]; simp [← hc4.1]) ⟨rfl, rfl, rfl, rfl, rfl, rfl, rfl, rfl, rfl⟩ (RLe.refl _) (by (repeat (first | exact List.Sublist.refl _ | exact List.nil_sublist _ | apply List.Sublist.cons_cons | apply List.Sublist.cons)); done)
          · try simp only [decide_eq_true_eq, decide_eq_false_iff_not, beq_iff_eq, bne_iff_ne, beq_eq_false_iff_ne, bne_eq_false_iff_eq, ne_eq, Bool.or_eq_true, Bool.or_eq_false_iff, Bool.and_eq_true, Bool.and_eq_false_imp, Bool.not_eq_true, Bool.not_eq_true', Bool.not_eq_false', Classical.not_not, Int.not_lt, Int.not_le, gt_iff_lt, ge_iff_le] at hc4
            refine W.skip ?_
            have hpk : rpickL (slotRc ps cap tb) left st1 g1 = (st1.now, g1) := by
              unfold rpickL slotRc
              by_cases h : st1.now = -1
              · rw [if_pos h, htime, if_neg (fun h2 => by have := hc4 h; omega), h]
              · rw [if_neg h]
            refine WE.cut st1 (by rw [hpk]) ⟨rfl, rfl, rfl, rfl, rfl, rfl, rfl, rfl, rfl⟩ (RLe.refl _) (by (repeat (first | exact List.Sublist.refl _ | exact List.nil_sublist _ | apply List.Sublist.cons_cons | apply List.Sublist.cons)); done)
      · try dsimp only at hc2
        have hend : rinnerL ps (slotRc ps cap tb) cap.toNat cap (rbegin st0) g0 = (st1, g1) := by rw [← hin, rinnerL_stop (by omega)]
        refine W.exit ?_
        refine WE.then_exit ?_
        refine WE.then_exit ?_
        refine WE.blk_exit ?_
        refine WE.nxt ?_
        refine W.region _ ?_
        refine WG.run tab_ok 1 rfl ?_
        refine' WG.y rfl rfl (by decide) (Yl.load1 tab_ok rfl rfl rfl (fun _ => rfl) ?r12 rfl ?h12) ?_
        case r12 => apply Rd.add; (first | exact Rd.blk 0 rfl | exact Rd.blk 1 rfl | exact Rd.blk 2 rfl | exact Rd.blk 3 rfl | exact Rd.blk 4 rfl)
        case h12 => rfl
        refine WG.y rfl rfl (by decide) (Yl.add rfl rfl rfl (fun _ => rfl) (by intro _; constructor <;> (try dsimp only) <;> omega)) ?_
        refine WG.run tab_ok 1 rfl ?_
        first | refine WL.efN rfl rfl (Ef.store 0 tab_ok rfl rfl rfl rfl rfl rfl rfl rfl ?_) | refine WL.efN rfl rfl (Ef.store 1 tab_ok rfl rfl rfl rfl rfl rfl rfl rfl ?_) | refine WL.efN rfl rfl (Ef.store 2 tab_ok rfl rfl rfl rfl rfl rfl rfl rfl ?_) | refine WL.efN rfl rfl (Ef.store 3 tab_ok rfl rfl rfl rfl rfl rfl rfl rfl ?_) | refine WL.efN rfl rfl (Ef.store 4 tab_ok rfl rfl rfl rfl rfl rfl rfl rfl ?_)
        refine WG.nil ?_
        refine WE.blk _ ?_
        refine WE.again (Rk, ga, da, gc, dc, { st1 with time := st1.time + 1 }, g1, rows) ⟨hRk, hgv, hdn, hrx, hra, ?_, by (try dsimp only); omega, ?_⟩ (by (try dsimp only); omega) ⟨rfl, rfl, rfl, rfl, rfl, rfl, rfl⟩ (RLe.refl _) (by (repeat (first | exact List.Sublist.refl _ | exact List.nil_sublist _ | apply List.Sublist.cons_cons | apply List.Sublist.cons)); done)
        · have := hinv.tick.mono (B' := ((st0.time + 1 : Nat) : Int) * cap) (by rw [hB2]; omega)
          dsimp only at this ⊢
          rw [htime] at this ⊢; exact this
        · dsimp only
          rw [← hfin, show ticks - st0.time = (ticks - (st0.time + 1)) + 1 by omega, rticksL, htime]
          have hrt : rtickL ps (slotRc ps cap tb) cap st0 g0 = ({ st1 with time := st0.time + 1 }, g1) := by unfold rtickL; rw [hend]; dsimp only; rw [htime]
          rw [hrt]
    · try dsimp only at hc1
      have hst : st0.time = ticks := by omega
      have hfin2 : st0 = rrunL ps (slotRc ps cap tb) cap classes ticks () := by rw [← hfin, hst, Nat.sub_self]; rfl
      rw [hst] at hinv
      refine W.exit ?_
      refine WE.then_exit ?_
      refine WE.then_exit ?_
      refine WE.blk_exit ?_
      refine WE.nxt ?_
      refine W.seq ?_
      refine W.region _ ?_
      refine WG.run tab_ok 1 rfl ?_
      refine' WG.y rfl rfl (by decide) (Yl.load1 tab_ok rfl rfl rfl (fun _ => rfl) ?r13 rfl ?h13) ?_
      case r13 => apply Rd.add; (first | exact Rd.blk 0 rfl | exact Rd.blk 1 rfl | exact Rd.blk 2 rfl | exact Rd.blk 3 rfl | exact Rd.blk 4 rfl)
      case h13 => rfl
      first | refine WL.efN rfl rfl (Ef.store0 0 tab_ok rfl rfl rfl rfl rfl rfl rfl rfl ?_) | refine WL.efN rfl rfl (Ef.store0 1 tab_ok rfl rfl rfl rfl rfl rfl rfl rfl ?_) | refine WL.efN rfl rfl (Ef.store0 2 tab_ok rfl rfl rfl rfl rfl rfl rfl rfl ?_) | refine WL.efN rfl rfl (Ef.store0 3 tab_ok rfl rfl rfl rfl rfl rfl rfl rfl ?_) | refine WL.efN rfl rfl (Ef.store0 4 tab_ok rfl rfl rfl rfl rfl rfl rfl rfl ?_)
      refine WG.run tab_ok 1 rfl ?_
      refine WG.nil ?_
      refine WE.nxt ?_
      refine W.ret ?_
      refine WE.retF tab_ok [_, _] rfl ⟨⟨_, _, _, rfl, rfl, rfl, ((by first | exact Rd.blk 0 rfl | exact Rd.blk 1 rfl | exact Rd.blk 2 rfl | exact Rd.blk 3 rfl | exact Rd.blk 4 rfl)), rfl⟩, rfl, trivial⟩ (hRk) ?_
      exact ⟨da, oa, dc, oc, rows, st0, hfin2, rfl, hdn, hrx, hra, hinv, (by (repeat (first | exact List.Sublist.refl _ | exact List.nil_sublist _ | apply List.Sublist.cons_cons | apply List.Sublist.cons)); done)⟩

end Go.Proofs.Ytnaeefefggmomaa

/- Chapter 21: runs of the reference. No condition. -/
set_option linter.unusedSimpArgs false
set_option linter.unusedVariables false
namespace Go.Proofs.Ytnaeefefggmomaa
open Go Go.RowKit Go.Proofs.Ytnaeefefggmomaa.K Go.Proofs.Ytnaeefefggmomaa.M

theorem RSlots_err {R : Ro} {pa wa : Option Addr} {pc wc : Nat} {ps : List Pkt} {tb : List Int} (hp : RS R 3 encP pa ps) (hwr : RS R 1 encI wa tb) {cap ticks : Int} {nc : Nat} (hnc : classesT tb = nc) (w0 : World) (hbad : srunE cap ticks tb ps ≠ 0) (E : List Ent) :
    K.Fn Try.prog 24 [.int .i64 cap, .slice wa tb.length wc, .slice pa ps.length pc, .int .i64 ticks] w0 R E (fun v R' E' => v = .tuple #[.agg #[.slice none 0 0, .slice none 0 0], .int .i64 (srunE cap ticks tb ps)] ∧ R = R' ∧ E.Sublist E') := by
  have hla := hp.len
  have hlw := hwr.len
  refine Fn.enter (n := 23) Try.func24 rfl rfl (Nat.le_of_ble_eq_true rfl) rfl ?_
  refine W.seq ?_
  refine W.region _ ?_
  refine WL.ef rfl rfl (by decide) (Ef.alloc tab_ok rfl rfl (fun b8 => ?_))
  refine WG.run tab_ok 1 rfl ?_
  refine WG.nil ?_
  refine WE.nxt ?_
  refine W.seq ?_
  refine W.seq ?_
  refine W.region _ ?_
  refine WG.run tab_ok 1 rfl ?_
  refine WG.callV en74 rfl rfl (by decide) (CallOp.mk' rfl rfl rfl rfl) (fun _ => rfl) (fun hg => Right21_V hwr) ?_
  refine WG.run tab_ok 1 rfl ?_
  refine WG.nil ?_
  refine WE.nxt ?_
  refine W.cond rfl (fun hc0 => ?_) (fun hc0 => ?_)
  · try simp only [decide_eq_true_eq, decide_eq_false_iff_not, beq_iff_eq, bne_iff_ne, beq_eq_false_iff_ne, bne_eq_false_iff_eq, ne_eq, Bool.or_eq_true, Bool.or_eq_false_iff, Bool.and_eq_true, Bool.and_eq_false_imp, Bool.not_eq_true, Bool.not_eq_true', Bool.not_eq_false', Classical.not_not, Int.not_lt, Int.not_le, gt_iff_lt, ge_iff_le] at hc0
    have e : srunE cap ticks tb ps = 2 := by unfold srunE; rw [if_neg (by simp [hc0])]
    refine W.seq ?_
    refine W.region _ ?_
    -- build
    refine WG.y rfl rfl (by decide) (Yl.build (parts := []) tab_ok rfl rfl rfl rfl (fun _ => rfl) rfl rfl) ?_
    first | refine WL.efN rfl rfl (Ef.store0 0 tab_ok rfl rfl rfl rfl rfl rfl rfl rfl ?_) | refine WL.efN rfl rfl (Ef.store0 1 tab_ok rfl rfl rfl rfl rfl rfl rfl rfl ?_) | refine WL.efN rfl rfl (Ef.store0 2 tab_ok rfl rfl rfl rfl rfl rfl rfl rfl ?_)
    refine WG.run tab_ok 1 rfl ?_
    refine WG.nil ?_
    refine WE.nxt ?_
    refine W.ret ?_
    refine WE.then_ret ?_
    refine WE.retF tab_ok [_, _] rfl ⟨⟨_, _, _, rfl, rfl, rfl, ((by first | exact Rd.blk 0 rfl | exact Rd.blk 1 rfl | exact Rd.blk 2 rfl)), rfl⟩, rfl, trivial⟩ (RLe.refl _) ?_
    exact ⟨by rw [e]; rfl, rfl, (by (repeat (first | exact List.Sublist.refl _ | exact List.nil_sublist _ | apply List.Sublist.cons_cons | apply List.Sublist.cons)); done)⟩
  · try simp only [decide_eq_true_eq, decide_eq_false_iff_not, beq_iff_eq, bne_iff_ne, beq_eq_false_iff_ne, bne_eq_false_iff_eq, ne_eq, Bool.or_eq_true, Bool.or_eq_false_iff, Bool.and_eq_true, Bool.and_eq_false_imp, Bool.not_eq_true, Bool.not_eq_true', Bool.not_eq_false', Classical.not_not, Int.not_lt, Int.not_le, gt_iff_lt, ge_iff_le] at hc0
    have hv0 : okT 6 tb = true := by simpa using hc0
    have e0 : srunE cap ticks tb ps = lrunE cap nc ticks ps := by rw [← hnc]; exact if_pos hv0
    have e := e0
    have hb := (okT_iff.1 hv0).2.2
    refine W.skip ?_
    refine WE.nxt ?_
    refine W.seq ?_
    refine W.region _ ?_
    refine WG.run tab_ok 2 rfl ?_
    refine WG.callV (v := .int .i64 (nc : Int)) en76 rfl rfl (by decide) (CallOp.mk' rfl rfl rfl rfl) (fun _ => rfl) (fun hg => by rw [← hnc]; exact Classes21_V hwr (fun c hc => by have := hb c hc; omega)) ?_
    refine WG.run tab_ok 3 rfl ?_
    refine WL.call en75 rfl rfl (by decide) (CallOp.mkT rfl rfl rfl rfl) (For_err (classes := nc) hp hwr w0 (fun h => hbad (e0.trans h)) _) ?_
    rintro _ _ E2 - ⟨rfl, rfl, hsub⟩
    refine WL.subE hsub ?_
    refine WG.run tab_ok 2 rfl ?_
    first | refine WL.efN rfl rfl (Ef.store0 0 tab_ok rfl rfl rfl rfl rfl rfl rfl rfl ?_) | refine WL.efN rfl rfl (Ef.store0 1 tab_ok rfl rfl rfl rfl rfl rfl rfl rfl ?_) | refine WL.efN rfl rfl (Ef.store0 2 tab_ok rfl rfl rfl rfl rfl rfl rfl rfl ?_)
    refine WG.run tab_ok 1 rfl ?_
    refine WG.nil ?_
    refine WE.nxt ?_
    refine W.ret ?_
    refine WE.retF tab_ok [_, _] rfl ⟨⟨_, _, _, rfl, rfl, rfl, ((by first | exact Rd.blk 0 rfl | exact Rd.blk 1 rfl | exact Rd.blk 2 rfl)), rfl⟩, rfl, trivial⟩ (RLe.refl _) ?_
    exact ⟨by rw [e]; rfl, rfl, (by (repeat (first | exact List.Sublist.refl _ | exact List.nil_sublist _ | apply List.Sublist.cons_cons | apply List.Sublist.cons)); done)⟩

theorem RSlots_ok {R : Ro} {pa wa : Option Addr} {pc wc : Nat} {ps : List Pkt} {tb : List Int} (hp : RS R 3 encP pa ps) (hwr : RS R 1 encI wa tb) {cap : Int} {ticks nc : Nat} (hnc : classesT tb = nc) (w0 : World) (hok0 : srunE cap ticks tb ps = 0) (E : List Ent) :
    K.Fn Try.prog 24 [.int .i64 cap, .slice wa tb.length wc, .slice pa ps.length pc, .int .i64 ticks] w0 R E (fun v R' E' => ∃ (da oa : Option Addr) (dc oc : Nat) (rows : List Sl) (st : St), st = rrunL ps (slotRc ps cap tb) cap nc ticks () ∧ v = .tuple #[.agg #[.slice da st.done.length dc, .slice oa rows.length oc], .int .i64 0] ∧ RS R' 1 encI da st.done ∧ rows.map Sl.xs = st.sent ∧ (∀ r ∈ rows, r.a.isSome = true) ∧ RInv ps nc (ticks + 1) (ticks * cap) st ∧ (.sl 23 1 oa oc (rows.map encS) :: (rows.map (rowE 3) ++ E)).Sublist E') := by
  obtain ⟨hv0, hl0⟩ := srunE_ok hok0
  rw [hnc] at hl0
  have hokt := okT_iff.1 hv0
  have hb := hokt.2.2
  refine Fn.enter (n := 23) Try.func24 rfl rfl (Nat.le_of_ble_eq_true rfl) rfl ?_
  refine W.seq ?_
  refine W.region _ ?_
  refine WL.ef rfl rfl (by decide) (Ef.alloc tab_ok rfl rfl (fun b8 => ?_))
  refine WG.run tab_ok 1 rfl ?_
  refine WG.nil ?_
  refine WE.nxt ?_
  refine W.seq ?_
  refine W.seq ?_
  refine W.region _ ?_
  refine WG.run tab_ok 1 rfl ?_
  refine WG.callV en74 rfl rfl (by decide) (CallOp.mk' rfl rfl rfl rfl) (fun _ => rfl) (fun hg => hv0 ▸ Right21_V hwr) ?_
  refine WG.run tab_ok 1 rfl ?_
  refine WG.nil ?_
  refine WE.nxt ?_
  refine W.cond rfl (fun hc0 => ?_) (fun hc0 => ?_)
  · try simp only [decide_eq_true_eq, decide_eq_false_iff_not, beq_iff_eq, bne_iff_ne, beq_eq_false_iff_ne, bne_eq_false_iff_eq, ne_eq, Bool.or_eq_true, Bool.or_eq_false_iff, Bool.and_eq_true, Bool.and_eq_false_imp, Bool.not_eq_true, Bool.not_eq_true', Bool.not_eq_false', Classical.not_not, Int.not_lt, Int.not_le, gt_iff_lt, ge_iff_le] at hc0
    simp at hc0
  · try simp only [decide_eq_true_eq, decide_eq_false_iff_not, beq_iff_eq, bne_iff_ne, beq_eq_false_iff_ne, bne_eq_false_iff_eq, ne_eq, Bool.or_eq_true, Bool.or_eq_false_iff, Bool.and_eq_true, Bool.and_eq_false_imp, Bool.not_eq_true, Bool.not_eq_true', Bool.not_eq_false', Classical.not_not, Int.not_lt, Int.not_le, gt_iff_lt, ge_iff_le] at hc0
    refine W.skip ?_
    refine WE.nxt ?_
    refine W.seq ?_
    refine W.region _ ?_
    refine WG.run tab_ok 2 rfl ?_
    refine WG.callV (v := .int .i64 (nc : Int)) en76 rfl rfl (by decide) (CallOp.mk' rfl rfl rfl rfl) (fun _ => rfl) (fun hg => by rw [← hnc]; exact Classes21_V hwr (fun c hc => by have := hb c hc; omega)) ?_
    refine WG.run tab_ok 3 rfl ?_
    refine WL.call en75 rfl rfl (by decide) (CallOp.mkT rfl rfl rfl rfl) (For_ok (classes := nc) hp hwr w0 ⟨hokt.1, hokt.2.1⟩ hl0 _) ?_
    rintro _ R2 E2 hR2 ⟨da, oa, dc, oc, rows, st, hst, rfl, hd, h1, h2, h3, hsub⟩
    refine WL.subE hsub ?_
    refine WL.perm (List.perm_middle (l₁ := _ :: rows.map (rowE 3))) ?_
    refine WG.run tab_ok 2 rfl ?_
    first | refine WL.efN rfl rfl (Ef.store0 0 tab_ok rfl rfl rfl rfl rfl rfl rfl rfl ?_) | refine WL.efN rfl rfl (Ef.store0 1 tab_ok rfl rfl rfl rfl rfl rfl rfl rfl ?_) | refine WL.efN rfl rfl (Ef.store0 2 tab_ok rfl rfl rfl rfl rfl rfl rfl rfl ?_) | refine WL.efN rfl rfl (Ef.store0 3 tab_ok rfl rfl rfl rfl rfl rfl rfl rfl ?_)
    refine WG.run tab_ok 1 rfl ?_
    refine WG.nil ?_
    refine WE.nxt ?_
    refine W.ret ?_
    refine WE.retF tab_ok [_, _] rfl ⟨⟨_, _, _, rfl, rfl, rfl, ((by first | exact Rd.blk 0 rfl | exact Rd.blk 1 rfl | exact Rd.blk 2 rfl | exact Rd.blk 3 rfl)), rfl⟩, rfl, trivial⟩ (hR2) ?_
    exact ⟨da, oa, dc, oc, rows, st, hst, rfl, hd, h1, h2, h3, (by (repeat (first | exact List.Sublist.refl _ | exact List.nil_sublist _ | apply List.Sublist.cons_cons | apply List.Sublist.cons)); done)⟩

end Go.Proofs.Ytnaeefefggmomaa

/- Chapter 21: runs of both for any input. No condition. -/
set_option linter.unusedSimpArgs false
set_option linter.unusedVariables false
namespace Go.Proofs.Ytnaeefefggmomaa
open Go Go.RowKit Go.Proofs.Ytnaeefefggmomaa.K Go.Proofs.Ytnaeefefggmomaa.M

theorem Slots_any {R : Ro} {pa wa : Option Addr} {pc wc l wl : Nat} {ps : List Pkt} {tb : List Int} (hp : RS R 3 encP pa ps) (hl : ps.length = l) (hwr : RS R 1 encI wa tb) (hwl : tb.length = wl) {cap ticks : Int} (w0 : World) (E : List Ent) :
    K.Fn Try.prog 23 [.int .i64 cap, .slice wa wl wc, .slice pa l pc, .int .i64 ticks] w0 R E (fun v R' E' => ∃ (da oa : Option Addr) (dc oc : Nat) (rows : List Sl), v = .tuple #[.agg #[.slice da (outOf (srunE cap ticks tb ps) (mrun ps (slotCh ps cap tb) cap (classesT tb).toNat ticks.toNat ())).1.length dc, .slice oa rows.length oc], .int .i64 (srunE cap ticks tb ps)] ∧ RS R' 1 encI da (outOf (srunE cap ticks tb ps) (mrun ps (slotCh ps cap tb) cap (classesT tb).toNat ticks.toNat ())).1 ∧ RS R' 1 encS oa rows ∧ (∀ r ∈ rows, RS R' 1 encI r.a r.xs) ∧ rows.map Sl.xs = (outOf (srunE cap ticks tb ps) (mrun ps (slotCh ps cap tb) cap (classesT tb).toNat ticks.toNat ())).2 ∧ E.Sublist E') := by
  subst hl
  subst hwl
  have hc1 := (classesT_facts tb).1
  obtain ⟨nc, hnc⟩ := Int.eq_ofNat_of_zero_le (show 0 ≤ classesT tb by omega)
  by_cases h : srunE cap ticks tb ps = 0
  · obtain ⟨hv0, hl0⟩ := srunE_ok h
    rw [hnc] at hl0
    obtain ⟨hok, hvv, hck, c1, c2, c3, c4, c5, c6, hs, hf⟩ := lrunE_ok hl0
    have hokt := okT_iff.1 hv0
    obtain ⟨nt, rfl⟩ := Int.eq_ofNat_of_zero_le c5
    rw [hnc]
    simp only [Int.toNat_natCast]
    intro x hm
    refine (Slots_ok (pc := pc) hp hwr hnc w0 h E x hm).mono ?_
    rintro e w' ⟨v, R', E', rfl, hR, hm', rows, gd, go, s, rfl, rfl, h1, h2, h3, hsub⟩
    have hm1 := hm'.sub (RLe.refl _) hsub
    obtain ⟨R1, g1, g2, g3⟩ := hm1.freeze (i := 0) (enc := encI) (xs := (mrun ps (slotCh ps cap tb) cap nc nt ()).done) rfl
    obtain ⟨R2, k1, k2, k3⟩ := g3.freeze (i := 0) (enc := encS) (xs := rows) rfl
    obtain ⟨R3, j1, j2, j3⟩ := Mem.freezeRows (rows := rows) (G := E) k3
    have hdl := h3.done
    have hlr : rows.length = nc := by rw [← h3.sent, ← h1, List.length_map]
    unfold outOf
    rw [if_neg (by omega), h]
    refine ⟨_, R3, E, rfl, hR.trans (g1.trans (k1.trans j1)), j3, some ⟨gd, 0, none⟩, some ⟨go, 0, none⟩, ps.length, nc, rows, ?_, g2.mono (k1.trans j1), k2.mono j1, j2, h1, List.Sublist.refl _⟩
    dsimp only; rw [hdl, hlr]
  · refine (Slots_err hp hwr w0 h E).mono ?_
    rintro v R' E' hR ⟨rfl, rfl, hsub⟩
    unfold outOf
    rw [if_pos h]
    exact ⟨none, none, 0, 0, [], rfl, rs_nil, rs_nil, by simp, rfl, hsub⟩
theorem RSlots_any {R : Ro} {pa wa : Option Addr} {pc wc l wl : Nat} {ps : List Pkt} {tb : List Int} (hp : RS R 3 encP pa ps) (hl : ps.length = l) (hwr : RS R 1 encI wa tb) (hwl : tb.length = wl) {cap ticks : Int} (w0 : World) (E : List Ent) :
    K.Fn Try.prog 24 [.int .i64 cap, .slice wa wl wc, .slice pa l pc, .int .i64 ticks] w0 R E (fun v R' E' => ∃ (da oa : Option Addr) (dc oc : Nat) (rows : List Sl), v = .tuple #[.agg #[.slice da (outOf (srunE cap ticks tb ps) (mrun ps (slotCh ps cap tb) cap (classesT tb).toNat ticks.toNat ())).1.length dc, .slice oa rows.length oc], .int .i64 (srunE cap ticks tb ps)] ∧ RS R' 1 encI da (outOf (srunE cap ticks tb ps) (mrun ps (slotCh ps cap tb) cap (classesT tb).toNat ticks.toNat ())).1 ∧ RS R' 1 encS oa rows ∧ (∀ r ∈ rows, RS R' 1 encI r.a r.xs) ∧ rows.map Sl.xs = (outOf (srunE cap ticks tb ps) (mrun ps (slotCh ps cap tb) cap (classesT tb).toNat ticks.toNat ())).2 ∧ E.Sublist E') := by
  subst hl
  subst hwl
  have hc1 := (classesT_facts tb).1
  obtain ⟨nc, hnc⟩ := Int.eq_ofNat_of_zero_le (show 0 ≤ classesT tb by omega)
  by_cases h : srunE cap ticks tb ps = 0
  · obtain ⟨hv0, hl0⟩ := srunE_ok h
    rw [hnc] at hl0
    obtain ⟨hok, hvv, hck, c1, c2, c3, c4, c5, c6, hs, hf⟩ := lrunE_ok hl0
    have hokt := okT_iff.1 hv0
    obtain ⟨nt, rfl⟩ := Int.eq_ofNat_of_zero_le c5
    rw [hnc]
    simp only [Int.toNat_natCast]
    have hrf := sim_runL (slot_fair hok.sorted) (fun p hp => (hs p hp).1) (classes := nc) (fun p hp => by have := hf p hp; omega) (slot_alike (cap := cap) (tb := tb) (by omega) hs) (cap := cap) (by omega) (sg := ()) (g := ()) (slot_start _) trivial nt
    intro x hm
    refine (RSlots_ok (pc := pc) hp hwr hnc w0 h E x hm).mono ?_
    rintro e w' ⟨v, R', E', rfl, hR, hm', da, oa, dc, oc, rows, st, rfl, rfl, hd, h1, h2, h3, hsub⟩
    have hm1 := hm'.sub (RLe.refl _) hsub
    obtain ⟨R2, k1, k2, k3⟩ := hm1.freeze (i := 0) (enc := encS) (xs := rows) rfl
    obtain ⟨R3, j1, j2, j3⟩ := Mem.freezeRows (rows := rows) (G := E) k3
    unfold outOf
    rw [if_neg (by omega), h]
    refine ⟨_, R3, E, rfl, hR.trans (k1.trans j1), j3, da, oa, dc, oc, rows, ?_, ?_, k2.mono j1, j2, ?_, List.Sublist.refl _⟩
    · dsimp only; rw [← hrf.1]
    · dsimp only; rw [← hrf.1]; exact hd.mono (k1.trans j1)
    · dsimp only; rw [← hrf.2]; exact h1
  · refine (RSlots_err hp hwr hnc w0 h E).mono ?_
    rintro v R' E' hR ⟨rfl, rfl, hsub⟩
    unfold outOf
    rw [if_pos h]
    exact ⟨none, none, 0, 0, [], rfl, rs_nil, rs_nil, by simp, rfl, hsub⟩

end Go.Proofs.Ytnaeefefggmomaa

/- Chapter 21: a table that is changed. No condition. -/
set_option linter.unusedSimpArgs false
set_option linter.unusedVariables false
namespace Go.Proofs.Ytnaeefefggmomaa
open Go Go.RowKit Go.Proofs.Ytnaeefefggmomaa.K Go.Proofs.Ytnaeefefggmomaa.M

theorem Odd21_C {R : Ro} {b : Nat} {a : Option Addr} {cp : Nat} {xs : List Int} {c : Nat} {wa : Option Addr} {wc : Nat} {w : List Int} (w0 : World) (ha : RS R 1 encI a xs) (hwr : RS R 1 encI wa w) (hl : w.length ≤ 1000) (hl1 : 1 ≤ w.length) : FnAt Try.prog 20 [.pointer (some ⟨b, 0, none⟩), .slice wa w.length wc] w0 R (srcE b a cp xs c)
    (fun v R' e' N => ∃ (a' : Option Addr) (c' cn : Nat) (qs : List Int), v = .slice a' qs.length c' ∧ RS R' 1 encI a' qs ∧ qs.length ≤ c' ∧ e' = srcE b a cp xs cn ∧ N = []) := by
  intro F
  refine Fn.enter (n := 36) Try.func20 rfl rfl (Nat.le_of_ble_eq_true rfl) rfl ?_
  refine W.seq ?_
  refine W.region _ ?_
  refine WG.run tab_ok 1 rfl ?_
  refine WG.nil ?_
  refine WE.nxt ?_
  refine W.seq ?_
  refine W.region _ ?_
  refine WL.ef rfl rfl (by decide) (Ef.buildSliceD (enc := encI) (parts := []) [] tab_ok rfl rfl rfl rfl rfl rfl rfl rfl (by decide) (by decide) (fun a6 => ?_))
  refine WG.run tab_ok 1 rfl ?_
  refine WL.ef rfl rfl (by decide) (Ef.cloneL (enc := encI) 0 tab_ok rfl rfl rfl rfl rfl rfl rfl rfl rfl rfl hwr (fun _ _ => rfl) (by dsimp only; omega) (by omega) (fun a8 c8 ha8 => ?_))
  refine WG.run tab_ok 1 rfl ?_
  refine WG.nil ?_
  refine WE.nxt ?_
  refine W.seq ?_
  refine W.seq ?_
  refine W.region _ ?_
  refine WG.run tab_ok 1 rfl ?_
  refine WL.callAt 1 en21 rfl rfl (by decide) (CallOp.mkT rfl rfl rfl rfl) rfl (N_C w0 ha (by constructor <;> omega) _) ?_
  rintro _ _ _ _ - ⟨rfl, rfl, rfl, rfl⟩
  refine WG.nil ?_
  refine WE.nxt ?_
  refine W.block ?_
  refine W.seq ?_
  refine W.region _ ?_
  refine WG.run tab_ok 2 rfl ?_
  refine WG.nil ?_
  refine WE.nxt ?_
  refine W.condE rfl (fun hc0 => ?_) (fun hc0 => ?_)
  · try dsimp only at hc0
    refine W.region _ ?_
    refine WG.run tab_ok 4 rfl ?_
    refine WL.callAt 1 en21 rfl rfl (by decide) (CallOp.mkT rfl rfl rfl rfl) rfl (N_C w0 ha (by constructor <;> omega) _) ?_
    rintro _ _ _ _ - ⟨rfl, rfl, rfl, rfl⟩
    have hm1 := mod_range (nth xs (c + 1)) (show (1 : Int) ≤ w.length by omega)
    refine WG.run tab_ok 1 rfl ?_
    refine WL.ef rfl rfl (by decide) (Ef.buildSliceD (enc := encI) (parts := [.const (.int .i64 (-2)), .const (.int .i64 (-1)), .const (.int .i64 3), .const (.int .i64 5), .const (.int .i64 6)]) [_, _, _, _, _] tab_ok rfl rfl rfl rfl rfl rfl rfl rfl (by decide) (by decide) (fun a30 => ?_))
    refine WL.callAt 2 en22 rfl rfl (by decide) (CallOp.mkT rfl rfl rfl rfl) rfl (PickM_C (j := 0) w0 ([-2, -1, 3, 5, 6] : List Int) rfl (by decide) (by decide) ha rfl) ?_
    rintro _ _ _ _ - ⟨rfl, rfl, rfl, rfl⟩
    refine WG.y rfl rfl (by decide) (Yl.index tab_ok rfl rfl rfl rfl rfl rfl (fun _ => rfl) (by intro _; constructor <;> (try dsimp only) <;> omega) (by intro _; first | exact fun _ _ _ h => ha8 h | exact fun _ _ _ _ => rfl | exact RS.has (by assumption) | exact fun _ _ _ _ => (by assumption) | exact HasMem.ownD 0 rfl | exact HasMem.ownD 1 rfl | exact HasMem.ownD 2 rfl | exact HasMem.ownD 3 rfl | exact HasMem.ownD 4 rfl)) ?_
    refine WL.efN rfl rfl (Ef.storeD (enc := encI) (xs := w) (nth ([-2, -1, 3, 5, 6] : List Int) (mod (nth xs (c + 1 + 1)) ((5 : Nat) : Int)).toNat) 1 tab_ok rfl rfl rfl rfl rfl (by omega) rfl rfl rfl rfl ?_)
    refine WL.cap 1 rfl ?_
    intro hcap
    rw [List.length_map, List.length_set] at hcap
    refine WL.freeze (enc := encI) (xs := w.set (mod (nth xs (c + 1)) w.length).toNat (nth ([-2, -1, 3, 5, 6] : List Int) (mod (nth xs (c + 1 + 1)) ((5 : Nat) : Int)).toNat)) 1 rfl ?_
    intro R1 hR1 hqs
    refine WG.nil ?_
    refine WE.blk _ ?_
    refine WE.nxt ?_
    refine W.seq ?_
    refine W.region _ ?_
    refine WG.run tab_ok 2 rfl ?_
    refine WG.nil ?_
    refine WE.nxt ?_
    refine W.ret ?_
    refine WE.subE (E' := srcE b a cp xs (c + 1 + 1 + 1) :: F) (by (repeat (first | exact List.Sublist.refl _ | exact List.nil_sublist _ | apply List.Sublist.cons_cons | apply List.Sublist.cons)); done) ?_
    refine WE.retF tab_ok [_] rfl ⟨rfl, trivial⟩ ((by first | exact hR1 | exact RLe.refl _)) ?_
    refine ⟨_, [], rfl, a8, c8, _, _, ?_, hqs, by rw [List.length_set]; exact hcap, rfl, rfl⟩
    rw [List.length_set]; rfl
  · try dsimp only at hc0
    refine W.seq ?_
    refine W.region _ ?_
    refine WG.run tab_ok 2 rfl ?_
    refine WG.nil ?_
    refine WE.nxt ?_
    refine W.condE rfl (fun hc1 => ?_) (fun hc1 => ?_)
    · try dsimp only at hc1
      refine W.seq ?_
      refine W.region _ ?_
      refine WG.run tab_ok 1 rfl ?_
      refine WG.nil ?_
      refine WE.nxt ?_
      refine W.ret ?_
      refine WE.blk_ret ?_
      refine WE.then_ret ?_
      refine WE.subE (E' := srcE b a cp xs (c + 1) :: F) (by (repeat (first | exact List.Sublist.refl _ | exact List.nil_sublist _ | apply List.Sublist.cons_cons | apply List.Sublist.cons)); done) ?_
      refine WE.retF tab_ok [_] rfl ⟨rfl, trivial⟩ ((by first | exact hR1 | exact RLe.refl _)) ?_
      exact ⟨_, [], rfl, none, 0, _, [], rfl, rs_nil, Nat.le_refl _, rfl, rfl⟩
    · try dsimp only at hc1
      refine W.block ?_
      refine W.loopK (β := List Int × Nat × Option Addr × Nat) (fun (ys, cn, a9, c9) => ys.length ≤ 1000) (fun (ys, cn, a9, c9) => [(5, true, .slice a9 ys.length c9)]) [0] [_] [] _ rfl (fun (ys, cn, a9, c9) => [(0, .sl 3 1 a9 c9 (ys.map encI)), (1, srcE b a cp xs cn)]) (fun (ys, cn, a9, c9) => 42 - ys.length) ((w, c + 1, a8, c8)) (hl) ⟨rfl, rfl, rfl⟩ (by (repeat (first | exact List.Sublist.refl _ | exact List.nil_sublist _ | apply List.Sublist.cons_cons | apply List.Sublist.cons)); done) ?_
      intro zz hst
      obtain ⟨ys, cn, a9, c9⟩ := zz
      dsimp only [zipE, setAll, List.cons_append, List.nil_append, List.set_cons_zero, List.set_cons_succ] at hst ⊢
      
      refine W.seq ?_
      refine W.seq ?_
      refine W.region _ ?_
      refine WG.run tab_ok 3 rfl ?_
      refine WL.callAt 1 en21 rfl rfl (by decide) (CallOp.mkT rfl rfl rfl rfl) rfl (N_C w0 ha (by constructor <;> omega) _) ?_
      rintro _ _ _ _ - ⟨rfl, rfl, rfl, rfl⟩
      have hm2 := mod_range (nth xs cn) (show (1 : Int) ≤ 2 by omega)
      refine WG.y rfl rfl (by decide) (Yl.add rfl rfl rfl (fun _ => rfl) (by intro _; constructor <;> (try dsimp only) <;> omega)) ?_
      refine WG.run tab_ok 1 rfl ?_
      refine WG.nil ?_
      refine WE.nxt ?_
      refine W.condD rfl (fun hc2 => ?_) (fun hc2 => ?_)
      · try dsimp only at hc2
        refine W.skip ?_
        refine WE.nxt ?_
        refine W.block ?_
        refine W.region _ ?_
        refine WG.run tab_ok 2 rfl ?_
        refine WL.callAt 1 en21 rfl rfl (by decide) (CallOp.mkT rfl rfl rfl rfl) rfl (N_C w0 ha (by constructor <;> omega) _) ?_
        rintro _ _ _ _ - ⟨rfl, rfl, rfl, rfl⟩
        refine WL.ef rfl rfl (by decide) (Ef.buildSliceD (enc := encI) (parts := [.tmp 19]) [_] tab_ok rfl rfl rfl rfl rfl rfl rfl rfl (by decide) (by decide) (fun a20 => ?_))
        first | refine WL.ef rfl rfl (by decide) (Ef.appendD 1 0 tab_ok rfl rfl rfl rfl rfl rfl rfl rfl rfl rfl rfl (fun _ _ => rfl) (by simp only [List.length_cons, List.length_nil]; omega) (by simp only [List.length_cons, List.length_nil]; omega) (fun a21 c21 ha21 => ?_)) | refine WL.ef rfl rfl (by decide) (Ef.appendD 2 0 tab_ok rfl rfl rfl rfl rfl rfl rfl rfl rfl rfl rfl (fun _ _ => rfl) (by simp only [List.length_cons, List.length_nil]; omega) (by simp only [List.length_cons, List.length_nil]; omega) (fun a21 c21 ha21 => ?_)) | refine WL.ef rfl rfl (by decide) (Ef.appendD 3 0 tab_ok rfl rfl rfl rfl rfl rfl rfl rfl rfl rfl rfl (fun _ _ => rfl) (by simp only [List.length_cons, List.length_nil]; omega) (by simp only [List.length_cons, List.length_nil]; omega) (fun a21 c21 ha21 => ?_)) | refine WL.ef rfl rfl (by decide) (Ef.appendD 4 0 tab_ok rfl rfl rfl rfl rfl rfl rfl rfl rfl rfl rfl (fun _ _ => rfl) (by simp only [List.length_cons, List.length_nil]; omega) (by simp only [List.length_cons, List.length_nil]; omega) (fun a21 c21 ha21 => ?_)) | refine WL.ef rfl rfl (by decide) (Ef.appendR 0 tab_ok rfl rfl rfl rfl rfl rfl rfl rfl rfl rfl (by assumption) (fun _ _ => rfl) (by (try dsimp only); omega) (by omega) (fun a21 c21 ha21 => ?_)) | refine WL.ef rfl rfl (by decide) (Ef.appendR 1 tab_ok rfl rfl rfl rfl rfl rfl rfl rfl rfl rfl (by assumption) (fun _ _ => rfl) (by (try dsimp only); omega) (by omega) (fun a21 c21 ha21 => ?_)) | refine WL.ef rfl rfl (by decide) (Ef.appendR 2 tab_ok rfl rfl rfl rfl rfl rfl rfl rfl rfl rfl (by assumption) (fun _ _ => rfl) (by (try dsimp only); omega) (by omega) (fun a21 c21 ha21 => ?_)) | refine WL.ef rfl rfl (by decide) (Ef.appendR 3 tab_ok rfl rfl rfl rfl rfl rfl rfl rfl rfl rfl (by assumption) (fun _ _ => rfl) (by (try dsimp only); omega) (by omega) (fun a21 c21 ha21 => ?_)) | refine WL.ef rfl rfl (by decide) (Ef.appendR 4 tab_ok rfl rfl rfl rfl rfl rfl rfl rfl rfl rfl (by assumption) (fun _ _ => rfl) (by (try dsimp only); omega) (by omega) (fun a21 c21 ha21 => ?_))
        refine WG.run tab_ok 1 rfl ?_
        refine WG.nil ?_
        refine WE.blk _ ?_
        refine WE.again ((ys ++ [mod (nth xs (cn + 1)) 3], cn + 1 + 1, a21, c21)) (by simp only [List.length_append, List.length_cons, List.length_nil]; omega) (by simp only [List.length_append, List.length_cons, List.length_nil]; omega) ⟨rfl, rfl, rfl⟩ (RLe.refl _) (by (repeat (first | exact List.Sublist.refl _ | exact List.nil_sublist _ | apply List.Sublist.cons_cons | apply List.Sublist.cons)); done)
      · try dsimp only at hc2
        refine W.cap 0 rfl ?_
        intro hcap
        rw [List.length_map] at hcap
        refine W.freeze (enc := encI) (xs := ys) 0 rfl ?_
        intro R1 hR1 hqs
        refine W.exit ?_
        refine WE.then_exit ?_
        refine WE.then_exit ?_
        refine WE.blk_exit ?_
        refine WE.blk _ ?_
        refine WE.nxt ?_
        refine W.seq ?_
        refine W.region _ ?_
        refine WG.run tab_ok 2 rfl ?_
        refine WG.nil ?_
        refine WE.nxt ?_
        refine W.ret ?_
        refine WE.subE (E' := srcE b a cp xs (cn + 1) :: F) (by (repeat (first | exact List.Sublist.refl _ | exact List.nil_sublist _ | apply List.Sublist.cons_cons | apply List.Sublist.cons)); done) ?_
        refine WE.retF tab_ok [_] rfl ⟨rfl, trivial⟩ ((by first | exact hR1 | exact RLe.refl _)) ?_
        exact ⟨_, [], rfl, _, _, _, _, rfl, hqs, hcap, rfl, rfl⟩

end Go.Proofs.Ytnaeefefggmomaa

/- Chapter 21: the runs. No condition. -/
set_option linter.unusedSimpArgs false
set_option linter.unusedVariables false
namespace Go.Proofs.Ytnaeefefggmomaa
open Go Go.RowKit Go.Proofs.Ytnaeefefggmomaa.K Go.Proofs.Ytnaeefefggmomaa.M

theorem SlotsRuns_F {R : Ro} {ra la : Option Addr} {rc lc : Nat} {raw : List Pkt} {list : List Int} {z2 z3 z4 : Int} {a : Option Addr} {c : Nat} {xs : List Int} (hraw : RS R 3 encP ra raw) (hlist : RS R 1 encI la list) (ha : RS R 1 encI a xs) (hc : xs.length ≤ c) (w0 : World) : K.Fn Try.prog 3 [.slice ra raw.length rc, .slice la list.length lc, .int .i64 z2, .int .i64 z3, .int .i64 z4, .slice a xs.length c] w0 R [] (fun v _ _ => v = .bool true) := by
  have hlr := hraw.len
  have hll := hlist.len
  refine Fn.enter (n := 146) Try.func3 rfl rfl (Nat.le_of_ble_eq_true rfl) rfl ?_
  refine W.seq ?_
  refine W.region _ ?_
  refine WG.run tab_ok 1 rfl ?_
  refine WG.nil ?_
  refine WE.nxt ?_
  refine W.seq ?_
  refine W.seq ?_
  refine W.region _ ?_
  refine WG.run tab_ok 4 rfl ?_
  refine WG.y rfl rfl (by decide) (pureV_ok tab_ok rfl (by first | exact fun _ => rfl | exact fun h => h | (intro h; simp_all))) ?_
  refine WG.y rfl rfl (by decide) (pureV_ok tab_ok rfl (by first | exact fun _ => rfl | exact fun h => h | (intro h; simp_all))) ?_
  refine WG.y rfl rfl (by decide) (pureV_ok tab_ok rfl (by first | exact fun _ => rfl | exact fun h => h | (intro h; simp_all))) ?_
  refine WG.y rfl rfl (by decide) (Yl.por rfl rfl rfl (fun _ => rfl) (by intro h1 h2; simp_all <;> omega)) ?_
  refine WG.nil ?_
  refine WE.nxt ?_
  refine W.cond rfl (fun hc0 => ?_) (fun hc0 => ?_)
  · try simp only [decide_eq_true_eq, decide_eq_false_iff_not, beq_iff_eq, bne_iff_ne, beq_eq_false_iff_ne, bne_eq_false_iff_eq, ne_eq, Bool.or_eq_true, Bool.or_eq_false_iff, Bool.and_eq_true, Bool.and_eq_false_imp, Bool.not_eq_true, Bool.not_eq_true', Bool.not_eq_false', Classical.not_not, Int.not_lt, Int.not_le, gt_iff_lt, ge_iff_le] at hc0
    refine W.seq ?_
    refine W.region _ ?_
    refine WL.call en15 rfl rfl (by decide) (CallOp.mkT rfl rfl rfl rfl) (Awake21_C w0 _) ?_
    rintro _ R9 E9 hR9 ⟨rfl, hsub9⟩
    refine WL.subE hsub9 ?_
    refine WG.run tab_ok 1 rfl ?_
    refine WG.nil ?_
    refine WE.nxt ?_
    refine W.ret ?_
    refine WE.then_ret ?_
    refine WE.retF tab_ok [_] rfl ⟨rfl, trivial⟩ (by first | exact hR9 | exact hR12.trans (hR3.trans (hRk.trans hR13))) ?_
    exact rfl
  · try simp only [decide_eq_true_eq, decide_eq_false_iff_not, beq_iff_eq, bne_iff_ne, beq_eq_false_iff_ne, bne_eq_false_iff_eq, ne_eq, Bool.or_eq_true, Bool.or_eq_false_iff, Bool.and_eq_true, Bool.and_eq_false_imp, Bool.not_eq_true, Bool.not_eq_true', Bool.not_eq_false', Classical.not_not, Int.not_lt, Int.not_le, gt_iff_lt, ge_iff_le] at hc0
    refine W.skip ?_
    refine WE.nxt ?_
    refine W.seq ?_
    refine W.region _ ?_
    refine WG.run tab_ok 1 rfl ?_
    refine WL.call en16 rfl rfl (by decide) (CallOp.mkT rfl rfl rfl rfl) (New_C w0 _ hc) ?_
    rintro _ _ _ - ⟨b, rfl, rfl, rfl⟩
    have hz := ha.take 2000
    refine WG.run tab_ok 1 rfl ?_
    refine WG.nil ?_
    refine WE.nxt ?_
    refine W.seq ?_
    refine W.region _ ?_
    refine WG.run tab_ok 1 rfl ?_
    refine WL.callAt 0 en17 rfl rfl (by decide) (CallOp.mkT rfl rfl rfl rfl) rfl (Traffic_C w0 hz (by decide) (by constructor <;> decide) (by decide) _) ?_
    rintro _ _ _ _ - ⟨a2, c2, rfl, rfl, rfl, rfl⟩
    refine WL.freeze (enc := encP) (xs := (traffic (xs.take 2000) 12 3 40 0)) 0 rfl ?_
    intro R1 hR1 hp
    have hz := hz.mono hR1
    have hok := traffic_ok (xs.take 2000) (n := 12) (flows := 3) (most := 40) (by decide) (by decide) (by decide) 0
    have hat := traffic_at (xs.take 2000) (n := 12) (flows := 3) (most := 40) (by decide) (by decide) (by decide) 0
    have hlt := traffic_len (xs.take 2000) (n := 12) (flows := 3) (most := 40) (by decide) 0
    generalize (traffic (xs.take 2000) 12 3 40 0) = ps at hp hok hat hlt ⊢
    generalize 0 + 1 + 3 * trafficK (xs.take 2000) 12 0 = cn1
    refine WG.run tab_ok 1 rfl ?_
    refine WL.callAt 0 en18 rfl rfl (by decide) (CallOp.mkT rfl rfl rfl rfl) rfl (Table21_C w0 hz _) ?_
    rintro _ _ _ _ - ⟨a20, rfl, rfl, rfl, rfl⟩
    have htn := tabN_range (xs.take 2000) cn1
    have hwl3 := fvals_len (tabF (xs.take 2000) cn1) (tabN (xs.take 2000) cn1)
    refine WL.freeze (enc := encI) (xs := fvals (tabF (xs.take 2000) cn1) (tabN (xs.take 2000) cn1)) 0 rfl ?_
    intro R2 hR2 hw
    have hp := hp.mono hR2
    have hz := hz.mono hR2
    generalize fvals (tabF (xs.take 2000) cn1) (tabN (xs.take 2000) cn1) = w at hwl3 hw ⊢
    generalize tabN (xs.take 2000) cn1 = nn at hwl3 htn ⊢
    subst hwl3
    refine WG.run tab_ok 2 rfl ?_
    refine WG.nil ?_
    refine WE.nxt ?_
    refine W.seq ?_
    refine W.seq ?_
    refine W.region _ ?_
    refine WG.run tab_ok 4 rfl ?_
    refine WL.callAt 0 en19 rfl rfl (by decide) (CallOp.mkT rfl rfl rfl rfl) rfl (Broken_C w0 hz hp rfl (by omega) _) ?_
    rintro _ R2b _ _ hR2b ⟨a43, c43, cn0, qs, rfl, hqs, rfl, rfl⟩
    have hp := hp.mono hR2b
    have hz := hz.mono hR2b
    have hw := hw.mono hR2b
    have hR12 := hR1.trans (hR2.trans hR2b)
    have hraw := hraw.mono hR12
    have hlist := hlist.mono hR12
    refine WL.ef rfl rfl (by decide) (Ef.buildSliceD (enc := encL) (parts := [.tmp 43, .tmp 44, .tmp 47]) [(⟨a2, c2, ps⟩ : SlP), ⟨ra, rc, raw⟩, ⟨a43, c43, qs⟩] tab_ok rfl rfl rfl rfl rfl rfl rfl rfl (by decide) (by decide) (fun a48 => ?_))
    refine WL.freeze (enc := encL) 0 rfl ?_
    intro R3 hR3 htl0
    obtain ⟨tl, htl0, htll, htl⟩ : ∃ tl : List SlP, RS R3 1 encL (some ⟨a48, 0, none⟩) tl ∧ tl.length = 3 ∧ ∀ s ∈ tl, RS R3 3 encP s.a s.xs := ⟨_, htl0, rfl, fun s hs => by
      simp only [List.mem_cons, List.not_mem_nil, or_false] at hs
      rcases hs with rfl | rfl | rfl
      · exact hp.mono hR3
      · exact hraw.mono hR3
      · exact hqs.mono hR3⟩
    have hz3 := hz.mono hR3
    have hw3 := hw.mono hR3
    have hlist3 := hlist.mono hR3
    refine WG.run tab_ok 2 rfl ?_
    refine WG.nil ?_
    refine WE.nxt ?_
    refine W.block ?_
    refine W.loop (β := Ro × Nat × Nat) (fun (Rk, j, cn) => j ≤ 3 ∧ RLe R3 Rk) (fun (Rk, j, cn) => [(1, true, .slice la list.length lc), (2, true, .int .i64 z2), (4, true, .int .i64 z4), (3, true, .int .i64 z3), (13, true, .pointer (some ⟨b, 0, none⟩)), (15, true, .slice (some ⟨a20, 0, none⟩) w.length w.length), (48, true, .slice (some ⟨a48, 0, none⟩) 3 3), (49, true, .int .i64 ((3 : Nat) : Int)), (50, true, .int .i64 (j : Int))]) (fun (Rk, _, _) => Rk) (fun (Rk, j, cn) => [srcE b a c (xs.take 2000) (cn)]) (fun (Rk, j, cn) => 3 - j) ((R3, 0, cn0)) (⟨Nat.zero_le _, RLe.refl _⟩) ⟨rfl, rfl, rfl, rfl, rfl, rfl, rfl, rfl, rfl, rfl⟩ (RLe.refl _) (by (repeat (first | exact List.Sublist.refl _ | exact List.nil_sublist _ | apply List.Sublist.cons_cons | apply List.Sublist.cons)); done) ?_
    intro st hst
    obtain ⟨Rk, j, cn⟩ := st
    obtain ⟨hj, hRk⟩ := hst
    dsimp only at hj hRk ⊢
    have hz := hz3.mono hRk
    have hw := hw3.mono hRk
    have hlist := hlist3.mono hRk
    refine W.seq ?_
    refine W.region _ ?_
    refine WG.run tab_ok 1 rfl ?_
    refine WG.nil ?_
    refine WE.nxt ?_
    refine W.seq ?_
    refine W.condD rfl (fun hc1 => ?_) (fun hc1 => ?_)
    · try dsimp only at hc1
      have hjl : j < tl.length := by omega
      have hql := htl _ (nth_mem hjl)
      have htl1 := htl0.mono hRk
      refine W.skip ?_
      refine WE.nxt ?_
      refine W.seq ?_
      refine W.block ?_
      refine W.seq ?_
      refine W.region _ ?_
      refine WG.y rfl rfl (by decide) (Yl.indexN tab_ok rfl rfl rfl rfl rfl rfl (fun _ => rfl) (by intro _; (try dsimp only) <;> omega) (by intro _; first | exact fun _ _ _ _ => rfl | exact RS.has (by assumption) | exact fun _ _ _ _ => (by assumption) | exact HasMem.ownD 0 rfl | exact HasMem.ownD 1 rfl | exact HasMem.ownD 2 rfl | exact HasMem.ownD 3 rfl | exact HasMem.ownD 4 rfl)) ?_
      refine' WG.y rfl rfl (by decide) (Yl.load1 tab_ok rfl rfl rfl (fun _ => rfl) ?r1 rfl ?h1) ?_
      case r1 => (first | (apply RS.rdD; assumption; ((try dsimp only) <;> omega)) | exact Rd.slD 0 rfl (by (try dsimp only) <;> omega) | exact Rd.slD 1 rfl (by (try dsimp only) <;> omega) | exact Rd.slD 2 rfl (by (try dsimp only) <;> omega) | exact Rd.slD 3 rfl (by (try dsimp only) <;> omega) | exact Rd.slD 4 rfl (by (try dsimp only) <;> omega))
      case h1 => rfl
      refine WG.run tab_ok 1 rfl ?_
      refine WG.nil ?_
      refine WE.nxt ?_
      refine W.seq ?_
      refine W.region _ ?_
      refine WG.run tab_ok 4 rfl ?_
      refine WL.callAt 0 en20 rfl rfl (by decide) (CallOp.mkT rfl rfl rfl rfl) rfl (Odd21_C w0 hz hw (by omega) (by omega) _) ?_
      rintro _ Ra _ _ hRa ⟨a54, c54, cnb, qs2, rfl, hqs2, _, rfl, rfl⟩
      have hz := hz.mono hRa
      have hw := hw.mono hRa
      have hlist := hlist.mono hRa
      refine WL.ef rfl rfl (by decide) (Ef.buildSliceD (enc := encS) (parts := [.tmp 54, .tmp 55, .tmp 58]) [(⟨(some ⟨a20, 0, none⟩), w.length, w⟩ : Sl), ⟨la, lc, list⟩, ⟨a54, c54, qs2⟩] tab_ok rfl rfl rfl rfl rfl rfl rfl rfl (by decide) (by decide) (fun a59 => ?_))
      refine WL.freeze (enc := encS) 0 rfl ?_
      intro R4 hR4 htw0
      obtain ⟨tw, htw0, htwl, htw⟩ : ∃ tw : List Sl, RS R4 1 encS (some ⟨a59, 0, none⟩) tw ∧ tw.length = 3 ∧ ∀ s ∈ tw, RS R4 1 encI s.a s.xs := ⟨_, htw0, rfl, fun s hs => by
        simp only [List.mem_cons, List.not_mem_nil, or_false] at hs
        rcases hs with rfl | rfl | rfl
        · exact hw.mono hR4
        · exact hlist.mono hR4
        · exact hqs2.mono hR4⟩
      have hz4 := hz.mono hR4
      have hql4 := hql.mono (hRk.trans (hRa.trans hR4))
      refine WG.run tab_ok 2 rfl ?_
      refine WG.nil ?_
      refine WE.nxt ?_
      refine W.block ?_
      refine W.loop (β := Ro × Nat × Nat) (fun (Rk, i, cn) => i ≤ 3 ∧ RLe R4 Rk) (fun (Rk, i, cn) => [(1, true, .slice la list.length lc), (2, true, .int .i64 z2), (4, true, .int .i64 z4), (3, true, .int .i64 z3), (13, true, .pointer (some ⟨b, 0, none⟩)), (15, true, .slice (some ⟨a20, 0, none⟩) w.length w.length), (48, true, .slice (some ⟨a48, 0, none⟩) 3 3), (49, true, .int .i64 ((3 : Nat) : Int)), (50, true, .int .i64 (j : Int)), (17, true, .slice (nth tl j).a (nth tl j).xs.length (nth tl j).cap), (59, true, .slice (some ⟨a59, 0, none⟩) 3 3), (60, true, .int .i64 ((3 : Nat) : Int)), (61, true, .int .i64 (i : Int))]) (fun (Rk, _, _) => Rk) (fun (Rk, i, cn) => [srcE b a c (xs.take 2000) (cn)]) (fun (Rk, i, cn) => 3 - i) ((R4, 0, _)) (⟨Nat.zero_le _, RLe.refl _⟩) ⟨rfl, rfl, rfl, rfl, rfl, rfl, rfl, rfl, rfl, rfl, rfl, rfl, rfl, rfl⟩ (RLe.refl _) (by (repeat (first | exact List.Sublist.refl _ | exact List.nil_sublist _ | apply List.Sublist.cons_cons | apply List.Sublist.cons)); done) ?_
      intro st hst
      obtain ⟨Rk1, i, cnb⟩ := st
      obtain ⟨hi, hRk1⟩ := hst
      dsimp only at hi hRk1 ⊢
      have hz := hz4.mono hRk1
      refine W.seq ?_
      refine W.region _ ?_
      refine WG.run tab_ok 1 rfl ?_
      refine WG.nil ?_
      refine WE.nxt ?_
      refine W.seq ?_
      refine W.condD rfl (fun hc2 => ?_) (fun hc2 => ?_)
      · try dsimp only at hc2
        have hil : i < tw.length := by omega
        have hyl := htw _ (nth_mem hil)
        have htw1 := htw0.mono hRk1
        refine W.skip ?_
        refine WE.nxt ?_
        refine W.seq ?_
        refine W.block ?_
        refine W.seq ?_
        refine W.region _ ?_
        refine WG.y rfl rfl (by decide) (Yl.indexN tab_ok rfl rfl rfl rfl rfl rfl (fun _ => rfl) (by intro _; (try dsimp only) <;> omega) (by intro _; first | exact fun _ _ _ _ => rfl | exact RS.has (by assumption) | exact fun _ _ _ _ => (by assumption) | exact HasMem.ownD 0 rfl | exact HasMem.ownD 1 rfl | exact HasMem.ownD 2 rfl | exact HasMem.ownD 3 rfl | exact HasMem.ownD 4 rfl)) ?_
        refine' WG.y rfl rfl (by decide) (Yl.load1 tab_ok rfl rfl rfl (fun _ => rfl) ?r2 rfl ?h2) ?_
        case r2 => (first | (apply RS.rdD; assumption; ((try dsimp only) <;> omega)) | exact Rd.slD 0 rfl (by (try dsimp only) <;> omega) | exact Rd.slD 1 rfl (by (try dsimp only) <;> omega) | exact Rd.slD 2 rfl (by (try dsimp only) <;> omega) | exact Rd.slD 3 rfl (by (try dsimp only) <;> omega) | exact Rd.slD 4 rfl (by (try dsimp only) <;> omega))
        case h2 => rfl
        refine WG.run tab_ok 1 rfl ?_
        refine WG.nil ?_
        refine WE.nxt ?_
        refine W.seq ?_
        refine W.region _ ?_
        refine WG.run tab_ok 1 rfl ?_
        refine WL.callAt 0 en21 rfl rfl (by decide) (CallOp.mkT rfl rfl rfl rfl) rfl (N_C w0 hz (by constructor <;> decide) _) ?_
        rintro _ _ _ _ - ⟨rfl, rfl, rfl, rfl⟩
        have hm30 := mod_range (nth (xs.take 2000) cnb) (show (1 : Int) ≤ 30 by decide)
        refine WG.y rfl rfl (by decide) (Yl.add rfl rfl rfl (fun _ => rfl) (by intro _; constructor <;> (try dsimp only) <;> omega)) ?_
        refine WG.run tab_ok 1 rfl ?_
        refine WL.callAt 0 en21 rfl rfl (by decide) (CallOp.mkT rfl rfl rfl rfl) rfl (N_C w0 hz (by constructor <;> decide) _) ?_
        rintro _ _ _ _ - ⟨rfl, rfl, rfl, rfl⟩
        -- build
        refine WG.y rfl rfl (by decide) (Yl.buildArr (parts := [(0, .tmp 67), (1, .tmp 69)]) tab_ok rfl rfl rfl rfl rfl (fun _ => rfl) rfl) ?_
        refine WG.run tab_ok 2 rfl ?_
        -- build
        refine WG.y rfl rfl (by decide) (Yl.buildArr (parts := [(0, .tmp 71), (1, .tmp 72)]) tab_ok rfl rfl rfl rfl rfl (fun _ => rfl) rfl) ?_
        refine WG.run tab_ok 1 rfl ?_
        refine WL.ef rfl rfl (by decide) (Ef.buildSliceD (enc := encI) (parts := [.const (.int .i64 0), .const (.int .i64 1), .const (.int .i64 7), .const (.int .i64 4000)]) [_, _, _, _] tab_ok rfl rfl rfl rfl rfl rfl rfl rfl (by decide) (by decide) (fun a75 => ?_))
        refine WL.callAt 1 en22 rfl rfl (by decide) (CallOp.mkT rfl rfl rfl rfl) rfl (PickN_C (j := 0) w0 [0, 1, 7, 4000] rfl (by decide) (by decide) hz rfl) ?_
        rintro _ _ _ _ - ⟨rfl, rfl, rfl, rfl⟩
        refine WG.run tab_ok 1 rfl ?_
        refine WL.ef rfl rfl (by decide) (Ef.buildSliceD (enc := encI) (parts := [.const (.int .i64 (-1)), .const (.int .i64 0), .const (.int .i64 20), .const (.int .i64 300), .const (.int .i64 2001)]) [_, _, _, _, _] tab_ok rfl rfl rfl rfl rfl rfl rfl rfl (by decide) (by decide) (fun a78 => ?_))
        refine WL.callAt 2 en22 rfl rfl (by decide) (CallOp.mkT rfl rfl rfl rfl) rfl (PickN_C (j := 0) w0 [-1, 0, 20, 300, 2001] rfl (by decide) (by decide) hz rfl) ?_
        rintro _ _ _ _ - ⟨rfl, rfl, rfl, rfl⟩
        -- build
        refine WG.y rfl rfl (by decide) (Yl.buildArr (parts := [(0, .tmp 76), (1, .tmp 79)]) tab_ok rfl rfl rfl rfl rfl (fun _ => rfl) rfl) ?_
        refine WL.ef rfl rfl (by decide) (Ef.buildSliceD (enc := enc2) (parts := [.tmp 70, .tmp 73, .tmp 80]) [⟨_, _⟩, ⟨_, _⟩, ⟨_, _⟩] tab_ok rfl rfl rfl rfl rfl rfl rfl rfl (by decide) (by decide) (fun a81 => ?_))
        refine WL.freeze (enc := enc2) 0 rfl ?_
        intro R7 hR7 htz
        obtain ⟨tz, htz, htzl⟩ : ∃ tz : List (Int × Int), RS R7 2 enc2 (some ⟨a81, 0, none⟩) tz ∧ tz.length = 3 := ⟨_, htz, rfl⟩
        have hq4 := hql4.mono (hRk1.trans hR7)
        have hy4 := hyl.mono (hRk1.trans hR7)
        refine WG.run tab_ok 2 rfl ?_
        refine WG.nil ?_
        refine WE.nxt ?_
        refine W.block ?_
        refine W.loop (β := Ro × Nat × Nat) (fun (Rk, k, cn) => k ≤ 3 ∧ RLe R7 Rk) (fun (Rk, k, cn) => [(1, true, .slice la list.length lc), (2, true, .int .i64 z2), (4, true, .int .i64 z4), (3, true, .int .i64 z3), (13, true, .pointer (some ⟨b, 0, none⟩)), (15, true, .slice (some ⟨a20, 0, none⟩) w.length w.length), (48, true, .slice (some ⟨a48, 0, none⟩) 3 3), (49, true, .int .i64 ((3 : Nat) : Int)), (50, true, .int .i64 (j : Int)), (17, true, .slice (nth tl j).a (nth tl j).xs.length (nth tl j).cap), (59, true, .slice (some ⟨a59, 0, none⟩) 3 3), (60, true, .int .i64 ((3 : Nat) : Int)), (61, true, .int .i64 (i : Int)), (19, true, .slice (nth tw i).a (nth tw i).xs.length (nth tw i).cap), (81, true, .slice (some ⟨a81, 0, none⟩) 3 3), (82, true, .int .i64 ((3 : Nat) : Int)), (83, true, .int .i64 (k : Int))]) (fun (Rk, _, _) => Rk) (fun (Rk, k, cn) => [srcE b a c (xs.take 2000) (cn)]) (fun (Rk, k, cn) => 3 - k) ((R7, 0, _)) (⟨Nat.zero_le _, RLe.refl _⟩) ⟨rfl, rfl, rfl, rfl, rfl, rfl, rfl, rfl, rfl, rfl, rfl, rfl, rfl, rfl, rfl, rfl, rfl, rfl⟩ (RLe.refl _) (by (repeat (first | exact List.Sublist.refl _ | exact List.nil_sublist _ | apply List.Sublist.cons_cons | apply List.Sublist.cons)); done) ?_
        intro st hst
        obtain ⟨Rk2, k, cnc⟩ := st
        obtain ⟨hk, hRk2⟩ := hst
        dsimp only at hk hRk2 ⊢
        refine W.seq ?_
        refine W.region _ ?_
        refine WG.run tab_ok 1 rfl ?_
        refine WG.nil ?_
        refine WE.nxt ?_
        refine W.seq ?_
        refine W.condD rfl (fun hc3 => ?_) (fun hc3 => ?_)
        · try dsimp only at hc3
          have hkl : k < tz.length := by omega
          have htz1 := htz.mono hRk2
          have hq := hq4.mono hRk2
          have hy := hy4.mono hRk2
          have hz := hz.mono (hR7.trans hRk2)
          refine W.skip ?_
          refine WE.nxt ?_
          refine W.seq ?_
          refine W.block ?_
          refine W.seq ?_
          refine W.region _ ?_
          refine WG.y rfl rfl (by decide) (Yl.indexN tab_ok rfl rfl rfl rfl rfl rfl (fun _ => rfl) (by intro _; (try dsimp only) <;> omega) (by intro _; first | exact fun _ _ _ _ => rfl | exact RS.has (by assumption) | exact fun _ _ _ _ => (by assumption) | exact HasMem.ownD 0 rfl | exact HasMem.ownD 1 rfl | exact HasMem.ownD 2 rfl | exact HasMem.ownD 3 rfl | exact HasMem.ownD 4 rfl)) ?_
          refine' WG.y rfl rfl (by decide) (Yl.load1 tab_ok rfl rfl rfl (fun _ => rfl) ?r3 rfl ?h3) ?_
          case r3 => (first | (apply RS.rdD; assumption; ((try dsimp only) <;> omega)) | exact Rd.slD 0 rfl (by (try dsimp only) <;> omega) | exact Rd.slD 1 rfl (by (try dsimp only) <;> omega) | exact Rd.slD 2 rfl (by (try dsimp only) <;> omega) | exact Rd.slD 3 rfl (by (try dsimp only) <;> omega) | exact Rd.slD 4 rfl (by (try dsimp only) <;> omega))
          case h3 => rfl
          refine WL.ef rfl rfl (by decide) (Ef.alloc tab_ok rfl rfl (fun b21 => ?_))
          first | refine WL.efN rfl rfl (Ef.store0 0 tab_ok rfl rfl rfl rfl rfl rfl rfl rfl ?_) | refine WL.efN rfl rfl (Ef.store0 1 tab_ok rfl rfl rfl rfl rfl rfl rfl rfl ?_) | refine WL.efN rfl rfl (Ef.store0 2 tab_ok rfl rfl rfl rfl rfl rfl rfl rfl ?_) | refine WL.efN rfl rfl (Ef.store0 3 tab_ok rfl rfl rfl rfl rfl rfl rfl rfl ?_) | refine WL.efN rfl rfl (Ef.store0 4 tab_ok rfl rfl rfl rfl rfl rfl rfl rfl ?_)
          refine WG.nil ?_
          refine WE.nxt ?_
          refine W.seq ?_
          refine W.region _ ?_
          refine WG.y rfl rfl (by decide) (Yl.indexArr tab_ok rfl rfl rfl rfl rfl rfl (fun _ => rfl) (by intro _; constructor <;> (try dsimp only) <;> omega)) ?_
          refine' WG.y rfl rfl (by decide) (Yl.load1 tab_ok rfl rfl rfl (fun _ => rfl) ?r4 rfl ?h4) ?_
          case r4 => apply Rd.add; (first | exact Rd.blk 0 rfl | exact Rd.blk 1 rfl | exact Rd.blk 2 rfl | exact Rd.blk 3 rfl | exact Rd.blk 4 rfl)
          case h4 => rfl
          refine WG.run tab_ok 2 rfl ?_
          refine WG.y rfl rfl (by decide) (Yl.indexArr tab_ok rfl rfl rfl rfl rfl rfl (fun _ => rfl) (by intro _; constructor <;> (try dsimp only) <;> omega)) ?_
          refine' WG.y rfl rfl (by decide) (Yl.load1 tab_ok rfl rfl rfl (fun _ => rfl) ?r5 rfl ?h5) ?_
          case r5 => apply Rd.add; (first | exact Rd.blk 0 rfl | exact Rd.blk 1 rfl | exact Rd.blk 2 rfl | exact Rd.blk 3 rfl | exact Rd.blk 4 rfl)
          case h5 => rfl
          refine WL.call en23 rfl rfl (by decide) (CallOp.mkT rfl rfl rfl rfl) (Slots_any hq rfl hy rfl w0 _) ?_
          rintro _ R5 _ hR5 ⟨d1, o1, dc1, oc1, rows1, rfl, hd1, ho1, hr1, hx1, hsub1⟩
          refine WL.subE hsub1 ?_
          have hq := hq.mono hR5
          have hy := hy.mono hR5
          have hz := hz.mono hR5
          refine WG.run tab_ok 3 rfl ?_
          refine WL.ef rfl rfl (by decide) (Ef.alloc tab_ok rfl rfl (fun b22 => ?_))
          first | refine WL.efN rfl rfl (Ef.store0 0 tab_ok rfl rfl rfl rfl rfl rfl rfl rfl ?_) | refine WL.efN rfl rfl (Ef.store0 1 tab_ok rfl rfl rfl rfl rfl rfl rfl rfl ?_) | refine WL.efN rfl rfl (Ef.store0 2 tab_ok rfl rfl rfl rfl rfl rfl rfl rfl ?_) | refine WL.efN rfl rfl (Ef.store0 3 tab_ok rfl rfl rfl rfl rfl rfl rfl rfl ?_) | refine WL.efN rfl rfl (Ef.store0 4 tab_ok rfl rfl rfl rfl rfl rfl rfl rfl ?_)
          refine WG.run tab_ok 1 rfl ?_
          refine WG.nil ?_
          refine WE.nxt ?_
          refine W.seq ?_
          refine W.region _ ?_
          refine WG.y rfl rfl (by decide) (Yl.indexArr tab_ok rfl rfl rfl rfl rfl rfl (fun _ => rfl) (by intro _; constructor <;> (try dsimp only) <;> omega)) ?_
          refine' WG.y rfl rfl (by decide) (Yl.load1 tab_ok rfl rfl rfl (fun _ => rfl) ?r6 rfl ?h6) ?_
          case r6 => apply Rd.add; (first | exact Rd.blk 0 rfl | exact Rd.blk 1 rfl | exact Rd.blk 2 rfl | exact Rd.blk 3 rfl | exact Rd.blk 4 rfl)
          case h6 => rfl
          refine WG.run tab_ok 2 rfl ?_
          refine WG.y rfl rfl (by decide) (Yl.indexArr tab_ok rfl rfl rfl rfl rfl rfl (fun _ => rfl) (by intro _; constructor <;> (try dsimp only) <;> omega)) ?_
          refine' WG.y rfl rfl (by decide) (Yl.load1 tab_ok rfl rfl rfl (fun _ => rfl) ?r7 rfl ?h7) ?_
          case r7 => apply Rd.add; (first | exact Rd.blk 0 rfl | exact Rd.blk 1 rfl | exact Rd.blk 2 rfl | exact Rd.blk 3 rfl | exact Rd.blk 4 rfl)
          case h7 => rfl
          refine WL.call en24 rfl rfl (by decide) (CallOp.mkT rfl rfl rfl rfl) (RSlots_any hq rfl hy rfl w0 _) ?_
          rintro _ R6 _ hR6 ⟨d2, o2, dc2, oc2, rows2, rfl, hd2, ho2, hr2, hx2, hsub2⟩
          refine WL.subE hsub2 ?_
          have hy := hy.mono hR6
          have hz := hz.mono hR6
          refine WG.run tab_ok 3 rfl ?_
          refine WL.ef rfl rfl (by decide) (Ef.alloc tab_ok rfl rfl (fun b24 => ?_))
          first | refine WL.efN rfl rfl (Ef.store0 0 tab_ok rfl rfl rfl rfl rfl rfl rfl rfl ?_) | refine WL.efN rfl rfl (Ef.store0 1 tab_ok rfl rfl rfl rfl rfl rfl rfl rfl ?_) | refine WL.efN rfl rfl (Ef.store0 2 tab_ok rfl rfl rfl rfl rfl rfl rfl rfl ?_) | refine WL.efN rfl rfl (Ef.store0 3 tab_ok rfl rfl rfl rfl rfl rfl rfl rfl ?_) | refine WL.efN rfl rfl (Ef.store0 4 tab_ok rfl rfl rfl rfl rfl rfl rfl rfl ?_)
          refine WG.run tab_ok 1 rfl ?_
          refine WG.nil ?_
          refine WE.nxt ?_
          refine W.seq ?_
          refine W.seq ?_
          refine W.region _ ?_
          refine WG.run tab_ok 4 rfl ?_
          refine' WG.y rfl rfl (by decide) (Yl.loadG tab_ok rfl rfl rfl (by first | exact fun _ => rfl | exact fun h => h | (intro h; simp_all)) ?r8 rfl ?h8 ?g8) ?_
          case r8 => (first | exact Rd.blkC 0 rfl | exact Rd.blkC 1 rfl | exact Rd.blkC 2 rfl | exact Rd.blkC 3 rfl | exact Rd.blkC 4 rfl)
          case h8 => rfl
          case g8 => first | exact fun _ => trivial | (intro hg; (try simp only [decide_eq_true_eq, decide_eq_false_iff_not, beq_iff_eq, bne_iff_ne, beq_eq_false_iff_ne, bne_eq_false_iff_eq, ne_eq, Bool.or_eq_true, Bool.or_eq_false_iff, Bool.and_eq_true, Bool.and_eq_false_imp, Bool.not_eq_true, Bool.not_eq_true', Bool.not_eq_false', Classical.not_not, Int.not_lt, Int.not_le, gt_iff_lt, ge_iff_le] at hg); (try dsimp only); omega)
          refine' WG.y rfl rfl (by decide) (Yl.loadG tab_ok rfl rfl rfl (by first | exact fun _ => rfl | exact fun h => h | (intro h; simp_all)) ?r9 rfl ?h9 ?g9) ?_
          case r9 => (first | exact Rd.blkC 0 rfl | exact Rd.blkC 1 rfl | exact Rd.blkC 2 rfl | exact Rd.blkC 3 rfl | exact Rd.blkC 4 rfl)
          case h9 => rfl
          case g9 => first | exact fun _ => trivial | (intro hg; (try simp only [decide_eq_true_eq, decide_eq_false_iff_not, beq_iff_eq, bne_iff_ne, beq_eq_false_iff_ne, bne_eq_false_iff_eq, ne_eq, Bool.or_eq_true, Bool.or_eq_false_iff, Bool.and_eq_true, Bool.and_eq_false_imp, Bool.not_eq_true, Bool.not_eq_true', Bool.not_eq_false', Classical.not_not, Int.not_lt, Int.not_le, gt_iff_lt, ge_iff_le] at hg); (try dsimp only); omega)
          refine WG.callV en25 rfl rfl (by decide) (CallOp.mk' rfl rfl rfl rfl) (by first | exact fun _ => rfl | exact fun h => h | (intro h; simp_all)) (fun hg => Same16_V (hd1.mono hR6) hd2 (ho1.mono hR6) ho2 (fun r hr => (hr1 r hr).mono hR6) hr2 rfl (by rw [hx1, hx2])) ?_
          refine WG.y rfl rfl (by decide) (pureV_ok tab_ok rfl (by first | exact fun _ => rfl | exact fun h => h | (intro h; simp_all))) ?_
          refine WG.y rfl rfl (by decide) (Yl.por rfl rfl rfl (fun _ => rfl) (by intro h1 h2; simp_all <;> omega)) ?_
          refine WG.nil ?_
          refine WE.nxt ?_
          refine W.cond rfl (fun hc4 => ?_) (fun hc4 => ?_)
          · try simp only [decide_eq_true_eq, decide_eq_false_iff_not, beq_iff_eq, bne_iff_ne, beq_eq_false_iff_ne, bne_eq_false_iff_eq, ne_eq, Bool.or_eq_true, Bool.or_eq_false_iff, Bool.and_eq_true, Bool.and_eq_false_imp, Bool.not_eq_true, Bool.not_eq_true', Bool.not_eq_false', Classical.not_not, Int.not_lt, Int.not_le, gt_iff_lt, ge_iff_le] at hc4
            first | done | (simp at hc4; done) | exact absurd hc4 (by decide)
          · try simp only [decide_eq_true_eq, decide_eq_false_iff_not, beq_iff_eq, bne_iff_ne, beq_eq_false_iff_ne, bne_eq_false_iff_eq, ne_eq, Bool.or_eq_true, Bool.or_eq_false_iff, Bool.and_eq_true, Bool.and_eq_false_imp, Bool.not_eq_true, Bool.not_eq_true', Bool.not_eq_false', Classical.not_not, Int.not_lt, Int.not_le, gt_iff_lt, ge_iff_le] at hc4
            refine W.skip ?_
            refine WE.nxt ?_
            refine W.seq ?_
            refine W.region _ ?_
            refine WG.run tab_ok 2 rfl ?_
            refine WL.callAt 3 en21 rfl rfl (by decide) (CallOp.mkT rfl rfl rfl rfl) rfl (N_C w0 hz (by constructor <;> decide) _) ?_
            rintro _ _ _ _ - ⟨rfl, rfl, rfl, rfl⟩
            have hm4 := mod_range (nth (xs.take 2000) cnc) (show (1 : Int) ≤ 4 by decide)
            refine WG.y rfl rfl (by decide) (Yl.sub rfl rfl rfl (fun _ => rfl) (by intro _; constructor <;> (try dsimp only) <;> omega)) ?_
            refine WL.ef rfl rfl (by decide) (Ef.buildSliceD (enc := encI) (parts := [.tmp 116, .tmp 119]) [_, _] tab_ok rfl rfl rfl rfl rfl rfl rfl rfl (by decide) (by decide) (fun a120 => ?_))
            refine WG.run tab_ok 2 rfl ?_
            refine WG.nil ?_
            refine WE.nxt ?_
            refine W.block ?_
            refine W.loopK (β := Nat) (fun m => m ≤ 2) (fun m => [(122, true, .int .i64 (m : Int))]) [1, 2, 3, 4, 13, 15, 17, 19, 21, 48, 49, 50, 59, 60, 61, 81, 82, 83, 120, 121] [_, _, _, _, _, _, _, _, _, _, _, _, _, _, _, _, _, _, _, _] [] _ rfl (fun m => []) (fun m => 2 - m) (0) (Nat.zero_le _) ⟨rfl, rfl, rfl, rfl, rfl, rfl, rfl, rfl, rfl, rfl, rfl, rfl, rfl, rfl, rfl, rfl, rfl, rfl, rfl, rfl, rfl, rfl⟩ (by (repeat (first | exact List.Sublist.refl _ | exact List.nil_sublist _ | apply List.Sublist.cons_cons | apply List.Sublist.cons)); done) ?_
            intro m hst
            dsimp only [zipE, setAll, List.cons_append, List.nil_append, List.set_cons_zero, List.set_cons_succ] at hst ⊢
            
            refine W.seq ?_
            refine W.region _ ?_
            refine WG.run tab_ok 1 rfl ?_
            refine WG.nil ?_
            refine WE.nxt ?_
            refine W.seq ?_
            refine W.condD rfl (fun hc5 => ?_) (fun hc5 => ?_)
            · try dsimp only at hc5
              have hml : m < 2 := by omega
              refine W.skip ?_
              refine WE.nxt ?_
              refine W.seq ?_
              refine W.block ?_
              refine W.seq ?_
              refine W.region _ ?_
              refine WG.y rfl rfl (by decide) (Yl.indexN tab_ok rfl rfl rfl rfl rfl rfl (fun _ => rfl) (by intro _; (try dsimp only) <;> omega) (by intro _; first | exact fun _ _ _ _ => rfl | exact RS.has (by assumption) | exact fun _ _ _ _ => (by assumption) | exact HasMem.ownD 0 rfl | exact HasMem.ownD 1 rfl | exact HasMem.ownD 2 rfl | exact HasMem.ownD 3 rfl | exact HasMem.ownD 4 rfl)) ?_
              refine' WG.y rfl rfl (by decide) (Yl.load1 tab_ok rfl rfl rfl (fun _ => rfl) ?r10 rfl ?h10) ?_
              case r10 => (first | (apply RS.rdD; assumption; ((try dsimp only) <;> omega)) | exact Rd.slD 0 rfl (by (try dsimp only) <;> omega) | exact Rd.slD 1 rfl (by (try dsimp only) <;> omega) | exact Rd.slD 2 rfl (by (try dsimp only) <;> omega) | exact Rd.slD 3 rfl (by (try dsimp only) <;> omega) | exact Rd.slD 4 rfl (by (try dsimp only) <;> omega))
              case h10 => rfl
              refine WG.run tab_ok 1 rfl ?_
              refine WG.nil ?_
              refine WE.nxt ?_
              refine W.seq ?_
              refine W.regionQ _ mixed (by kernel_rfl) ?_
              refine WG.y rfl rfl (by decide) (Yl.indexArr tab_ok rfl rfl rfl rfl rfl rfl (fun _ => rfl) (by intro _; constructor <;> (try dsimp only) <;> omega)) ?_
              refine' WG.y rfl rfl (by decide) (Yl.load1 tab_ok rfl rfl rfl (fun _ => rfl) ?r11 rfl ?h11) ?_
              case r11 => apply Rd.add; (first | exact Rd.blk 0 rfl | exact Rd.blk 1 rfl | exact Rd.blk 2 rfl | exact Rd.blk 3 rfl | exact Rd.blk 4 rfl)
              case h11 => rfl
              refine WG.run tab_ok 2 rfl ?_
              refine WG.y rfl rfl (by decide) (Yl.indexArr tab_ok rfl rfl rfl rfl rfl rfl (fun _ => rfl) (by intro _; constructor <;> (try dsimp only) <;> omega)) ?_
              refine' WG.y rfl rfl (by decide) (Yl.load1 tab_ok rfl rfl rfl (fun _ => rfl) ?r12 rfl ?h12) ?_
              case r12 => apply Rd.add; (first | exact Rd.blk 0 rfl | exact Rd.blk 1 rfl | exact Rd.blk 2 rfl | exact Rd.blk 3 rfl | exact Rd.blk 4 rfl)
              case h12 => rfl
              refine WG.callV en26 rfl rfl (by decide) (CallOp.mk' rfl rfl rfl rfl) (fun _ => rfl) (fun hg => RoomT_V hy) ?_
              refine WG.y rfl rfl (by decide) (Yl.indexArr tab_ok rfl rfl rfl rfl rfl rfl (fun _ => rfl) (by intro _; constructor <;> (try dsimp only) <;> omega)) ?_
              refine' WG.y rfl rfl (by decide) (Yl.load1 tab_ok rfl rfl rfl (fun _ => rfl) ?r13 rfl ?h13) ?_
              case r13 => apply Rd.add; (first | exact Rd.blk 0 rfl | exact Rd.blk 1 rfl | exact Rd.blk 2 rfl | exact Rd.blk 3 rfl | exact Rd.blk 4 rfl)
              case h13 => rfl
              refine WG.run tab_ok 2 rfl ?_
              refine WG.y rfl rfl (by decide) (Yl.indexArr tab_ok rfl rfl rfl rfl rfl rfl (fun _ => rfl) (by intro _; constructor <;> (try dsimp only) <;> omega)) ?_
              refine' WG.y rfl rfl (by decide) (Yl.load1 tab_ok rfl rfl rfl (fun _ => rfl) ?r14 rfl ?h14) ?_
              case r14 => apply Rd.add; (first | exact Rd.blk 0 rfl | exact Rd.blk 1 rfl | exact Rd.blk 2 rfl | exact Rd.blk 3 rfl | exact Rd.blk 4 rfl)
              case h14 => rfl
              refine WG.callV en27 rfl rfl (by decide) (CallOp.mk' rfl rfl rfl rfl) (fun _ => rfl) (fun hg => Room21T_V hy) ?_
              refine WG.run tab_ok 1 rfl ?_
              refine WG.nil ?_
              refine WE.nxt ?_
              refine W.condN rfl (fun hc6 => ?_) (fun hc6 => ?_)
              · try dsimp only at hc6
                first | exact absurd rfl hc6 | (simp at hc6; done)
              · try dsimp only at hc6
                refine W.skip ?_
                refine WE.blk _ ?_
                refine WE.nxt ?_
                refine W.region _ ?_
                refine WG.y rfl rfl (by decide) (Yl.add rfl rfl rfl (fun _ => rfl) (by intro _; constructor <;> (try dsimp only) <;> omega)) ?_
                refine WG.run tab_ok 1 rfl ?_
                refine WG.nil ?_
                refine WE.again (m + 1) (by omega) (by (try dsimp only); omega) ⟨rfl, rfl, rfl, rfl, rfl, rfl, rfl, rfl, rfl, rfl, rfl, rfl, rfl, rfl, rfl, rfl, rfl, rfl, rfl, rfl, rfl, rfl⟩ (RLe.refl _) (by (repeat (first | exact List.Sublist.refl _ | exact List.nil_sublist _ | apply List.Sublist.cons_cons | apply List.Sublist.cons)); done)
            · try dsimp only at hc5
              refine W.exit ?_
              refine WE.then_exit ?_
              refine WE.then_exit ?_
              refine WE.blk_exit ?_
              refine WE.blk _ ?_
              refine WE.nxt ?_
              refine W.region _ ?_
              refine WG.y rfl rfl (by decide) (Yl.add rfl rfl rfl (fun _ => rfl) (by intro _; constructor <;> (try dsimp only) <;> omega)) ?_
              refine WG.run tab_ok 1 rfl ?_
              refine WG.nil ?_
              refine WE.again ((R6, k + 1, cnc + 1)) (⟨by dsimp only; omega, hRk2.trans (hR5.trans hR6)⟩) (by (try dsimp only); omega) ⟨rfl, rfl, rfl, rfl, rfl, rfl, rfl, rfl, rfl, rfl, rfl, rfl, rfl, rfl, rfl, rfl, rfl, rfl⟩ (RLe.refl _) (by (repeat (first | exact List.Sublist.refl _ | exact List.nil_sublist _ | apply List.Sublist.cons_cons | apply List.Sublist.cons)); done)
        · try dsimp only at hc3
          refine W.exit ?_
          refine WE.then_exit ?_
          refine WE.then_exit ?_
          refine WE.blk_exit ?_
          refine WE.blk _ ?_
          refine WE.nxt ?_
          refine W.region _ ?_
          refine WG.y rfl rfl (by decide) (Yl.add rfl rfl rfl (fun _ => rfl) (by intro _; constructor <;> (try dsimp only) <;> omega)) ?_
          refine WG.run tab_ok 1 rfl ?_
          refine WG.nil ?_
          refine WE.again ((Rk2, i + 1, cnc)) (⟨by dsimp only; omega, hRk1.trans (hR7.trans hRk2)⟩) (by (try dsimp only); omega) ⟨rfl, rfl, rfl, rfl, rfl, rfl, rfl, rfl, rfl, rfl, rfl, rfl, rfl, rfl⟩ (RLe.refl _) (by (repeat (first | exact List.Sublist.refl _ | exact List.nil_sublist _ | apply List.Sublist.cons_cons | apply List.Sublist.cons)); done)
      · try dsimp only at hc2
        refine W.exit ?_
        refine WE.then_exit ?_
        refine WE.then_exit ?_
        refine WE.blk_exit ?_
        refine WE.blk _ ?_
        refine WE.nxt ?_
        refine W.region _ ?_
        refine WG.y rfl rfl (by decide) (Yl.add rfl rfl rfl (fun _ => rfl) (by intro _; constructor <;> (try dsimp only) <;> omega)) ?_
        refine WG.run tab_ok 1 rfl ?_
        refine WG.nil ?_
        refine WE.again ((Rk1, j + 1, cnb)) (⟨by dsimp only; omega, hRk.trans (hRa.trans (hR4.trans hRk1))⟩) (by (try dsimp only); omega) ⟨rfl, rfl, rfl, rfl, rfl, rfl, rfl, rfl, rfl, rfl⟩ (RLe.refl _) (by (repeat (first | exact List.Sublist.refl _ | exact List.nil_sublist _ | apply List.Sublist.cons_cons | apply List.Sublist.cons)); done)
    · try dsimp only at hc1
      refine W.exit ?_
      refine WE.then_exit ?_
      refine WE.then_exit ?_
      refine WE.blk_exit ?_
      refine WE.nxt ?_
      refine W.seq ?_
      refine W.region _ ?_
      refine WL.call en15 rfl rfl (by decide) (CallOp.mkT rfl rfl rfl rfl) (Awake21_C w0 _) ?_
      rintro _ R13 E9 hR13 ⟨rfl, hsub9⟩
      refine WL.subE hsub9 ?_
      refine WG.run tab_ok 1 rfl ?_
      refine WG.nil ?_
      refine WE.nxt ?_
      refine W.ret ?_
      refine WE.retF tab_ok [_] rfl ⟨rfl, trivial⟩ (by first | exact hR9 | exact hR12.trans (hR3.trans (hRk.trans hR13))) ?_
      exact rfl

end Go.Proofs.Ytnaeefefggmomaa

/- SlotsRuns: for every input the law returns true, and the input reads afterwards as it read before. No condition. -/
namespace Go.Proofs.Ytnaeefefggmomaa
open Go Go.RowKit Go.ChangeShapes Go.WideShapes Go.ChangeAt Go.WideElems Go.Maps Go.Proofs.Ytnaeefefggmomaa.K Go.Proofs.Ytnaeefefggmomaa.M
namespace slotsRuns
theorem own : ownKnob Try.prog.godebug = none := by kernel_rfl
theorem laidOut : laidOutB Try.prog = true := by kernel_rfl
theorem readable : (Try.f3.params.toList).all (fun t => Try.prog.readableRec t && decide (t < Try.prog.types.size)) = true := by kernel_rfl
theorem cellsI : Try.prog.cellsOf 3 = 1 := by kernel_rfl
section
variable {H : Type} {enc : TypeId × Value → H}
theorem flat_pkts : Flat enc Try.prog 62 3 := flat_struct Try.underlying62 (by kernel_rfl) (by
  intro j f hf
  match j, hf with
  | 0, hf => obtain rfl : _ = f := Option.some.inj hf; exact ⟨rfl, by kernel_rfl, Try.underlying3⟩
  | 1, hf => obtain rfl : _ = f := Option.some.inj hf; exact ⟨rfl, by kernel_rfl, Try.underlying3⟩
  | 2, hf => obtain rfl : _ = f := Option.some.inj hf; exact ⟨rfl, by kernel_rfl, Try.underlying3⟩
  | j + 3, hf => simp at hf)
theorem cells_pkts : Try.prog.cellsOf 62 = 3 := by kernel_rfl
theorem flat_ints : Flat enc Try.prog 3 1 := flat_int Try.underlying3
theorem cells_ints : Try.prog.cellsOf 3 = 1 := by kernel_rfl
end
set_option maxRecDepth 100000 in
theorem lifted (os : Os) (started : os.Started) (H : Type) (enc : TypeId × Value → H) :
    ReturnsInHanded {} Try.checked os 3 .any (Rows.slotsRunsSpec.pre6 enc Try.prog Try.f3 Rows.slotsRunsRow.domain false) (Rows.slotsRunsSpec.post enc Try.prog Try.f3 false true false false) := by
  refine returnsInHanded_of_change (C := Try.checked) own started (by kernel_rfl) Try.func3
    (ChangeSpec.witness6 (enc := enc) (C := Try.checked) false ⟨#[], #[.slice none 0 0, .slice none 0 0, .int .i64 0, .int .i64 0, .int .i64 0, .slice none 0 0], []⟩ 8 (by kernel_rfl) (by kernel_rfl) (by kernel_rfl) (by kernel_rfl)) ?_
  intro W base args ds gs before hval0 hW _ _
  have hval : ∀ (j : Nat) t v, Try.f3.params[j]? = some t → args[j]? = some v → Value.okWide Try.prog W .any base t v := hval0
  have hW' := hW
  obtain ⟨p, q, hA0, hV, rfl, _, _⟩ := hW
  have hA : DataW.TrodAll enc Try.prog W 0 (fun _ => true) true Try.f3.params.toList args.toList ds p := hA0
  have hA1 := hA
  obtain ⟨rfl, rfl⟩ := trodVars_none hV
  simp only [List.append_nil] at hW'
  have hlt : ∀ x ∈ p, x.block < W.heap.size := fun x hx => by simpa using hW'.lt x hx
  have hcarry : ∀ W', Below W.heap.size W W' → DataW.TrodAll enc Try.prog W' 0 (fun b => decide (b < W.heap.size)) true Try.f3.params.toList args.toList ds p := fun W' hb => carryAll laidOut readable hA1 hb hlt
  clear hA0 hval0 hA1
  rw [Try.params3] at hA
  obtain ⟨v0, vs0, d0, ds0, p0, q0, e0, rfl, e20, h0, t0⟩ := trodAll_cons hA
  obtain ⟨v1, vs1, d1, ds1, p1, q1, rfl, rfl, e21, h1, t1⟩ := trodAll_cons t0
  obtain ⟨v2, vs2, d2, ds2, p2, q2, rfl, rfl, e22, h2, t2⟩ := trodAll_cons t1
  obtain ⟨v3, vs3, d3, ds3, p3, q3, rfl, rfl, e23, h3, t3⟩ := trodAll_cons t2
  obtain ⟨v4, vs4, d4, ds4, p4, q4, rfl, rfl, e24, h4, t4⟩ := trodAll_cons t3
  obtain ⟨v5, vs5, d5, ds5, p5, q5, rfl, rfl, e25, h5, t5⟩ := trodAll_cons t4
  obtain ⟨rfl, rfl, _⟩ := trodAll_nil t5
  have hargs : args = #[v0, v1, v2, v3, v4, v5] := by rw [← Array.toArray_toList (xs := args), e0]
  subst hargs
  obtain ⟨a0, cp0, zs0, rfl, c0, l0, m0, r0⟩ := open_flat Try.underlying22 (by decide) cells_pkts flat_pkts (hval 0 22 _ rfl rfl) h0
  have g0 : RS (roOf W) 3 encP a0 (zs0.map decP) := RS.ofFlat m0 l0 decP_enc
  have n0 : (zs0.map decP).length = zs0.length := by simp
  rw [← n0] at c0
  obtain ⟨a1, cp1, zs1, rfl, c1, l1, m1, r1⟩ := open_flat Try.underlying23 (by decide) cells_ints flat_ints (hval 1 23 _ rfl rfl) h1
  have g1 : RS (roOf W) 1 encI a1 (zs1.map decI) := RS.ofFlat m1 l1 decI_enc
  have n1 : (zs1.map decI).length = zs1.length := by simp
  rw [← n1] at c1
  obtain ⟨z2, rfl, _, _, w2⟩ := open_int Try.underlying3 (hval 2 3 _ rfl rfl) h2
  have r2 : InR z2 := bounds_i64 w2
  obtain ⟨z3, rfl, _, _, w3⟩ := open_int Try.underlying3 (hval 3 3 _ rfl rfl) h3
  have r3 : InR z3 := bounds_i64 w3
  obtain ⟨z4, rfl, _, _, w4⟩ := open_int Try.underlying3 (hval 4 3 _ rfl rfl) h4
  have r4 : InR z4 := bounds_i64 w4
  obtain ⟨a5, cp5, zs5, rfl, c5, l5, m5, r5⟩ := open_flat Try.underlying23 (by decide) cells_ints flat_ints (hval 5 23 _ rfl rfl) h5
  have g5 : RS (roOf W) 1 encI a5 (zs5.map decI) := RS.ofFlat m5 l5 decI_enc
  have n5 : (zs5.map decI).length = zs5.length := by simp
  rw [← n5] at c5
  have hcall := lift_calls (P := Try.prog) (f := 3) (args := [.slice a0 (zs0.map decP).length cp0, .slice a1 (zs1.map decI).length cp1, .int .i64 z2, .int .i64 z3, .int .i64 z4, .slice a5 (zs5.map decI).length cp5]) (W := W) (SlotsRuns_F g0 g1 g5 c5 W)
  simp only [List.length_map] at hcall
  refine hcall.mono fun e W' ⟨he, hb⟩ => ?_
  subst he
  exact ⟨_, rfl, ⟨_, _, _, [], _, [], hW', trodAll_mk1 (shut_bool Try.underlying4 _), hcarry W' hb, rfl, hb.frame _, fun h => by cases h⟩⟩
end slotsRuns
theorem slotsRuns_holds : Rows.SlotsRunsSaid :=
  OpenClaim.holds_of_wide 3 Try.f3 rfl rfl rfl rfl rfl rfl rfl ⟨rfl, rfl, rfl, rfl, rfl⟩ rfl rfl rfl rfl rfl (by kernel_rfl) Try.func3 (by kernel_rfl)
    (of_decide_eq_true (by kernel_rfl)) (by unfold Func.isWrapper; first | (rw [if_pos (by decide +kernel)]; kernel_rfl) | (rw [if_neg (by decide +kernel)]; exact ⟨rfl, rfl⟩))
    (fun os started H enc _ => slotsRuns.lifted os started H enc)
end Go.Proofs.Ytnaeefefggmomaa
