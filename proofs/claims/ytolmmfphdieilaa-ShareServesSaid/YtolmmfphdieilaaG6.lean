/- ShareServes: for every list of numbers the law returns true, and the list reads afterwards as it read before. No condition. -/
import Derived.Test.YtolmmfphdieilaaG5
/- The theorem of the share. No condition. -/
set_option linter.unusedSimpArgs false
set_option linter.unusedVariables false
namespace Go.Proofs.Ytolmmfphdieilaa
open Go Go.RowKit Go.Proofs.Ytolmmfphdieilaa.K Go.Proofs.Ytolmmfphdieilaa.M

theorem fin_of17 {F : Nat → Int} {s p : Nat} {q : Int} (h : FC F s p q) : finB ⟨fvals F (s + p), p, q⟩ = true := by
  have hP := h.hP
  unfold finB
  dsimp only
  rw [fvals_len, fvals_nth F (by omega), bne_iff_ne]
  exact h.fin (by omega)

set_option maxHeartbeats 2000000 in
theorem ShareServes_F {R : Ro} {a : Option Addr} {c : Nat} {xs : List Int} (ha : RS R 1 encI a xs) (hc : xs.length ≤ c) (w0 : World) : K.Fn Try.prog 5 [.slice a xs.length c] w0 R [] (fun v _ _ => v = .bool true) := by
  refine Fn.enter (n := 92) Try.func5 rfl rfl (Nat.le_of_ble_eq_true rfl) rfl ?_
  refine W.seq ?_
  refine W.region _ ?_
  refine WG.run tab_ok 1 rfl ?_
  refine WG.nil ?_
  refine WE.nxt ?_
  refine W.seq ?_
  refine W.region _ ?_
  refine WG.run tab_ok 1 rfl ?_
  refine WL.call en10 rfl rfl (by decide) (CallOp.mkT rfl rfl rfl rfl) (New_C w0 _ hc) ?_
  rintro _ _ _ - ⟨b, rfl, rfl, rfl⟩
  have hz := ha.take 2000
  refine WG.run tab_ok 1 rfl ?_
  refine WG.nil ?_
  refine WE.nxt ?_
  refine W.seq ?_
  refine W.region _ ?_
  refine WG.run tab_ok 1 rfl ?_
  refine WL.callAt 0 en30 rfl rfl (by decide) (CallOp.mkT rfl rfl rfl rfl) rfl (Traffic_C w0 hz (by decide) (by constructor <;> decide) (by decide) _) ?_
  rintro _ _ _ _ - ⟨a2, c2, rfl, rfl, rfl, rfl⟩
  refine WL.freeze (enc := encP) (xs := (traffic (xs.take 2000) 12 3 40 0)) 0 rfl ?_
  intro R1 hR1 hp
  have hz := hz.mono hR1
  have hok := traffic_ok (xs.take 2000) (n := 12) (flows := 3) (most := 40) (by decide) (by decide) (by decide) 0
  have hat := traffic_at (xs.take 2000) (n := 12) (flows := 3) (most := 40) (by decide) (by decide) (by decide) 0
  have hlt := traffic_len (xs.take 2000) (n := 12) (flows := 3) (most := 40) (by decide) 0
  refine WG.run tab_ok 1 rfl ?_
  refine WL.callAt 0 en12 rfl rfl (by decide) (CallOp.mkT rfl rfl rfl rfl) rfl (N_C w0 hz (by constructor <;> decide) _) ?_
  rintro _ _ _ _ - ⟨rfl, rfl, rfl, rfl⟩
  have hm30 := mod_range (nth (xs.take 2000) ((0 + 1 + 3 * trafficK (xs.take 2000) 12 0))) (show (1 : Int) ≤ 30 by decide)
  refine WG.y rfl rfl (by decide) (Yl.add rfl rfl rfl (fun _ => rfl) (by intro _; constructor <;> (try dsimp only) <;> omega)) ?_
  refine WG.run tab_ok 2 rfl ?_
  refine WG.nil ?_
  refine WE.nxt ?_
  refine W.sub (env' := [(3, true, .pointer (some ⟨b, 0, none⟩)), (4, true, .slice a2 (traffic (xs.take 2000) 12 3 40 0).length c2), (5, true, .int .i64 (1 + mod (nth (xs.take 2000) (0 + 1 + 3 * trafficK (xs.take 2000) 12 0)) 30))]) (R' := R1) (E' := [srcE b a c (xs.take 2000) ((0 + 1 + 3 * trafficK (xs.take 2000) 12 0) + 1)]) ⟨rfl, rfl, rfl, rfl⟩ (RLe.refl _) (List.Sublist.refl _) ?_
  have hC : 1 ≤ (1 + mod (nth (xs.take 2000) (0 + 1 + 3 * trafficK (xs.take 2000) 12 0)) 30) ∧ (1 + mod (nth (xs.take 2000) (0 + 1 + 3 * trafficK (xs.take 2000) 12 0)) 30) ≤ 30 := by have := mod_range (nth (xs.take 2000) (0 + 1 + 3 * trafficK (xs.take 2000) 12 0)) (show (1 : Int) ≤ 30 by decide); omega
  generalize (1 + mod (nth (xs.take 2000) (0 + 1 + 3 * trafficK (xs.take 2000) 12 0)) 30) = C at hC ⊢
  generalize (0 + 1 + 3 * trafficK (xs.take 2000) 12 0) + 1 = cn
  generalize (traffic (xs.take 2000) 12 3 40 0) = ps at hp hok hat hlt ⊢
  refine W.seq ?_
  refine W.region _ ?_
  refine WG.run tab_ok 1 rfl ?_
  refine WG.nil ?_
  refine WE.nxt ?_
  refine W.seq ?_
  refine W.nil 54 3 (by decide) ?_
  refine W.seq ?_
  refine W.region _ ?_
  refine WG.run tab_ok 3 rfl ?_
  refine WG.nil ?_
  refine WE.nxt ?_
  refine W.block ?_
  refine W.loopK (β := Nat × Option Addr × Nat) (fun (i, a9, c9) => i ≤ ps.length) (fun (i, a9, c9) => [(6, true, .slice a9 (othL (ps.take i)).length c9), (26, true, .int .i64 (i : Int))]) [3, 4, 5, 24, 25] [_, _, _, _, _] [] _ rfl (fun (i, a9, c9) => [(0, .sl 54 3 a9 c9 ((othL (ps.take i)).map encP))]) (fun (i, a9, c9) => ps.length - i) ((0, none, 0)) (Nat.zero_le _) ⟨rfl, rfl, rfl, rfl, rfl, rfl, rfl, rfl⟩ (by (repeat (first | exact List.Sublist.refl _ | exact List.nil_sublist _ | apply List.Sublist.cons_cons | apply List.Sublist.cons)); done) ?_
  intro zz hst
  obtain ⟨i, a9, c9⟩ := zz
  dsimp only [zipE, setAll, List.cons_append, List.nil_append, List.set_cons_zero, List.set_cons_succ] at hst ⊢
  have hsi : (othL (ps.take i)).length ≤ 1000 := Nat.le_trans (List.length_filter_le _ _) (by rw [List.length_take]; omega)
  refine W.seq ?_
  refine W.region _ ?_
  refine WG.run tab_ok 1 rfl ?_
  refine WG.nil ?_
  refine WE.nxt ?_
  refine W.seq ?_
  refine W.condD rfl (fun hc0 => ?_) (fun hc0 => ?_)
  · try dsimp only at hc0
    have hil : i < ps.length := by omega
    have etk : ps.take (i + 1) = ps.take i ++ [nth ps i] := by rw [List.take_succ_eq_append_getElem hil, nth_eq hil]
    refine W.skip ?_
    refine WE.nxt ?_
    refine W.seq ?_
    refine W.block ?_
    refine W.seq ?_
    refine W.region _ ?_
    refine WG.y rfl rfl (by decide) (Yl.indexN tab_ok rfl rfl rfl rfl rfl rfl (fun _ => rfl) (by intro _; (try dsimp only) <;> omega) (by intro _; first | exact fun _ _ _ _ => rfl | exact RS.has (by assumption) | exact fun _ _ _ _ => (by assumption) | exact HasMem.ownD 0 rfl | exact HasMem.ownD 1 rfl | exact HasMem.ownD 2 rfl | exact HasMem.ownD 3 rfl | exact HasMem.ownD 4 rfl | exact HasMem.ownD 5 rfl)) ?_
    refine' WG.y rfl rfl (by decide) (Yl.load1 tab_ok rfl rfl rfl (fun _ => rfl) ?r1 rfl ?h1) ?_
    case r1 => (first | (apply RS.rdD; assumption; ((try dsimp only) <;> omega)) | exact Rd.slD 0 rfl (by (try dsimp only) <;> omega) | exact Rd.slD 1 rfl (by (try dsimp only) <;> omega) | exact Rd.slD 2 rfl (by (try dsimp only) <;> omega) | exact Rd.slD 3 rfl (by (try dsimp only) <;> omega) | exact Rd.slD 4 rfl (by (try dsimp only) <;> omega) | exact Rd.slD 5 rfl (by (try dsimp only) <;> omega))
    case h1 => rfl
    refine WL.ef rfl rfl (by decide) (Ef.alloc tab_ok rfl rfl (fun b8 => ?_))
    first | refine WL.efN rfl rfl (Ef.store0 0 tab_ok rfl rfl rfl rfl rfl rfl rfl rfl ?_) | refine WL.efN rfl rfl (Ef.store0 1 tab_ok rfl rfl rfl rfl rfl rfl rfl rfl ?_) | refine WL.efN rfl rfl (Ef.store0 2 tab_ok rfl rfl rfl rfl rfl rfl rfl rfl ?_) | refine WL.efN rfl rfl (Ef.store0 3 tab_ok rfl rfl rfl rfl rfl rfl rfl rfl ?_) | refine WL.efN rfl rfl (Ef.store0 4 tab_ok rfl rfl rfl rfl rfl rfl rfl rfl ?_) | refine WL.efN rfl rfl (Ef.store0 5 tab_ok rfl rfl rfl rfl rfl rfl rfl rfl ?_)
    refine WG.nil ?_
    refine WE.nxt ?_
    refine W.seq ?_
    refine W.region _ ?_
    refine WG.run tab_ok 1 rfl ?_
    refine' WG.y rfl rfl (by decide) (Yl.load1 tab_ok rfl rfl rfl (fun _ => rfl) ?r2 rfl ?h2) ?_
    case r2 => apply Rd.add; (first | exact Rd.blk 0 rfl | exact Rd.blk 1 rfl | exact Rd.blk 2 rfl | exact Rd.blk 3 rfl | exact Rd.blk 4 rfl | exact Rd.blk 5 rfl)
    case h2 => rfl
    refine WG.run tab_ok 1 rfl ?_
    refine WG.nil ?_
    refine WE.nxt ?_
    refine W.condN rfl (fun hc1 => ?_) (fun hc1 => ?_)
    · try dsimp only at hc1
      have e1 : othL (ps.take (i + 1)) = othL (ps.take i) ++ [nth ps i] := by unfold othL; rw [etk, List.filter_append]; simp [hc1]
      refine W.region _ ?_
      refine WG.run tab_ok 1 rfl ?_
      refine' WG.y rfl rfl (by decide) (Yl.load1 tab_ok rfl rfl rfl (fun _ => rfl) ?r3 rfl ?h3) ?_
      case r3 => (first | exact Rd.blk 0 rfl | exact Rd.blk 1 rfl | exact Rd.blk 2 rfl | exact Rd.blk 3 rfl | exact Rd.blk 4 rfl | exact Rd.blk 5 rfl)
      case h3 => rfl
      refine WL.ef rfl rfl (by decide) (Ef.buildSliceD (enc := encP) (parts := [.tmp 34]) [⟨_, _, _⟩] tab_ok rfl rfl rfl rfl rfl rfl rfl rfl (by decide) (by decide) (fun a35 => ?_))
      first | refine WL.ef rfl rfl (by decide) (Ef.appendD 1 0 tab_ok rfl rfl rfl rfl rfl rfl rfl rfl rfl rfl rfl (fun _ _ => rfl) (by simp only [List.length_cons, List.length_nil]; omega) (by simp only [List.length_cons, List.length_nil]; omega) (fun a36 c36 ha36 => ?_)) | refine WL.ef rfl rfl (by decide) (Ef.appendD 2 0 tab_ok rfl rfl rfl rfl rfl rfl rfl rfl rfl rfl rfl (fun _ _ => rfl) (by simp only [List.length_cons, List.length_nil]; omega) (by simp only [List.length_cons, List.length_nil]; omega) (fun a36 c36 ha36 => ?_)) | refine WL.ef rfl rfl (by decide) (Ef.appendD 3 0 tab_ok rfl rfl rfl rfl rfl rfl rfl rfl rfl rfl rfl (fun _ _ => rfl) (by simp only [List.length_cons, List.length_nil]; omega) (by simp only [List.length_cons, List.length_nil]; omega) (fun a36 c36 ha36 => ?_)) | refine WL.ef rfl rfl (by decide) (Ef.appendD 4 0 tab_ok rfl rfl rfl rfl rfl rfl rfl rfl rfl rfl rfl (fun _ _ => rfl) (by simp only [List.length_cons, List.length_nil]; omega) (by simp only [List.length_cons, List.length_nil]; omega) (fun a36 c36 ha36 => ?_)) | refine WL.ef rfl rfl (by decide) (Ef.appendD 5 0 tab_ok rfl rfl rfl rfl rfl rfl rfl rfl rfl rfl rfl (fun _ _ => rfl) (by simp only [List.length_cons, List.length_nil]; omega) (by simp only [List.length_cons, List.length_nil]; omega) (fun a36 c36 ha36 => ?_)) | refine WL.ef rfl rfl (by decide) (Ef.appendR 0 tab_ok rfl rfl rfl rfl rfl rfl rfl rfl rfl rfl (by assumption) (fun _ _ => rfl) (by (try dsimp only); omega) (by omega) (fun a36 c36 ha36 => ?_)) | refine WL.ef rfl rfl (by decide) (Ef.appendR 1 tab_ok rfl rfl rfl rfl rfl rfl rfl rfl rfl rfl (by assumption) (fun _ _ => rfl) (by (try dsimp only); omega) (by omega) (fun a36 c36 ha36 => ?_)) | refine WL.ef rfl rfl (by decide) (Ef.appendR 2 tab_ok rfl rfl rfl rfl rfl rfl rfl rfl rfl rfl (by assumption) (fun _ _ => rfl) (by (try dsimp only); omega) (by omega) (fun a36 c36 ha36 => ?_)) | refine WL.ef rfl rfl (by decide) (Ef.appendR 3 tab_ok rfl rfl rfl rfl rfl rfl rfl rfl rfl rfl (by assumption) (fun _ _ => rfl) (by (try dsimp only); omega) (by omega) (fun a36 c36 ha36 => ?_)) | refine WL.ef rfl rfl (by decide) (Ef.appendR 4 tab_ok rfl rfl rfl rfl rfl rfl rfl rfl rfl rfl (by assumption) (fun _ _ => rfl) (by (try dsimp only); omega) (by omega) (fun a36 c36 ha36 => ?_)) | refine WL.ef rfl rfl (by decide) (Ef.appendR 5 tab_ok rfl rfl rfl rfl rfl rfl rfl rfl rfl rfl (by assumption) (fun _ _ => rfl) (by (try dsimp only); omega) (by omega) (fun a36 c36 ha36 => ?_))
      refine WG.run tab_ok 1 rfl ?_
      refine WG.nil ?_
      refine WE.blk _ ?_
      refine WE.nxt ?_
      refine W.region _ ?_
      refine WG.y rfl rfl (by decide) (Yl.add rfl rfl rfl (fun _ => rfl) (by intro _; constructor <;> (try dsimp only) <;> omega)) ?_
      refine WG.run tab_ok 1 rfl ?_
      refine WG.nil ?_
      refine WE.again ((i + 1, a36, c36)) (by omega) (by (try dsimp only); omega) ⟨by rw [e1]; rfl, rfl, rfl, rfl, rfl, rfl, rfl, rfl⟩ (RLe.refl _) (by dsimp only [setAll, List.set_cons_zero, List.set_cons_succ]; rw [e1]; exact (by (repeat (first | exact List.Sublist.refl _ | exact List.nil_sublist _ | apply List.Sublist.cons_cons | apply List.Sublist.cons)); done))
    · try dsimp only at hc1
      have e1 : othL (ps.take (i + 1)) = othL (ps.take i) := by unfold othL; rw [etk, List.filter_append]; simp [hc1]
      refine W.skip ?_
      refine WE.blk _ ?_
      refine WE.nxt ?_
      refine W.region _ ?_
      refine WG.y rfl rfl (by decide) (Yl.add rfl rfl rfl (fun _ => rfl) (by intro _; constructor <;> (try dsimp only) <;> omega)) ?_
      refine WG.run tab_ok 1 rfl ?_
      refine WG.nil ?_
      refine WE.again ((i + 1, a9, c9)) (by omega) (by (try dsimp only); omega) ⟨by rw [e1]; rfl, rfl, rfl, rfl, rfl, rfl, rfl, rfl⟩ (RLe.refl _) (by dsimp only [setAll, List.set_cons_zero, List.set_cons_succ]; rw [e1]; exact (by (repeat (first | exact List.Sublist.refl _ | exact List.nil_sublist _ | apply List.Sublist.cons_cons | apply List.Sublist.cons)); done))
  · try dsimp only at hc0
    obtain rfl : i = ps.length := by omega
    rw [List.take_length]
    refine W.freeze (enc := encP) (xs := othL ps) 0 rfl ?_
    intro R2 hR2 hqs
    have hp := hp.mono hR2
    have hz := hz.mono hR2
    have hokq : Ok (othL ps) := ⟨Nat.le_trans (List.length_filter_le _ _) hok.len, fun p hp => hok.each p (List.filter_sublist.subset hp), hok.sorted.sublist List.filter_sublist⟩
    refine W.exit ?_
    refine WE.then_exit ?_
    refine WE.then_exit ?_
    refine WE.blk_exit ?_
    refine WE.nxt ?_
    refine W.seq ?_
    refine W.region _ ?_
    refine WG.run tab_ok 1 rfl ?_
    refine WL.call en31 rfl rfl (by decide) (CallOp.mkT rfl rfl rfl rfl) (Serve_ok (cap := C) w0 (by omega) _) ?_
    rintro _ _ E3 - ⟨gs, rfl, rfl, hsub2⟩
    refine WL.subE hsub2 ?_
    refine WL.freeze (enc := encI) (xs := [0]) 0 rfl ?_
    intro R3 hR3 hsv
    have hp := hp.mono hR3
    have hqs := hqs.mono hR3
    have hz := hz.mono hR3
    refine WG.run tab_ok 3 rfl ?_
    refine WL.ef rfl rfl (by decide) (Ef.alloc tab_ok rfl rfl (fun b9 => ?_))
    first | refine WL.efN rfl rfl (Ef.store0 0 tab_ok rfl rfl rfl rfl rfl rfl rfl rfl ?_) | refine WL.efN rfl rfl (Ef.store0 1 tab_ok rfl rfl rfl rfl rfl rfl rfl rfl ?_) | refine WL.efN rfl rfl (Ef.store0 2 tab_ok rfl rfl rfl rfl rfl rfl rfl rfl ?_) | refine WL.efN rfl rfl (Ef.store0 3 tab_ok rfl rfl rfl rfl rfl rfl rfl rfl ?_) | refine WL.efN rfl rfl (Ef.store0 4 tab_ok rfl rfl rfl rfl rfl rfl rfl rfl ?_) | refine WL.efN rfl rfl (Ef.store0 5 tab_ok rfl rfl rfl rfl rfl rfl rfl rfl ?_)
    refine WG.run tab_ok 1 rfl ?_
    refine WG.nil ?_
    refine WE.nxt ?_
    refine W.seq ?_
    refine W.region _ ?_
    refine WG.run tab_ok 1 rfl ?_
    refine WL.call en32 rfl rfl (by decide) (CallOp.mkT rfl rfl rfl rfl) (Least1_C (flow := -1) hqs hokq (by decide) (fun p hp => by have := hat p ((List.filter_sublist (p := fun p : Pkt => decide (p.flow ≠ 0))).subset hp); omega) w0 _) ?_
    rintro _ RL _ hRL ⟨fa0, fc0, F0, S0, P0, I0, rfl, hfa0, hfc0, hp10, hkeep0, hsubL⟩
    refine WL.subE hsubL ?_
    have hp := hp.mono hRL
    have hz := hz.mono hRL
    have hsv := hsv.mono hRL
    refine WG.run tab_ok 3 rfl ?_
    refine WL.ef rfl rfl (by decide) (Ef.alloc tab_ok rfl rfl (fun b11 => ?_))
    first | refine WL.efN rfl rfl (Ef.store0 0 tab_ok rfl rfl rfl rfl rfl rfl rfl rfl ?_) | refine WL.efN rfl rfl (Ef.store0 1 tab_ok rfl rfl rfl rfl rfl rfl rfl rfl ?_) | refine WL.efN rfl rfl (Ef.store0 2 tab_ok rfl rfl rfl rfl rfl rfl rfl rfl ?_) | refine WL.efN rfl rfl (Ef.store0 3 tab_ok rfl rfl rfl rfl rfl rfl rfl rfl ?_) | refine WL.efN rfl rfl (Ef.store0 4 tab_ok rfl rfl rfl rfl rfl rfl rfl rfl ?_) | refine WL.efN rfl rfl (Ef.store0 5 tab_ok rfl rfl rfl rfl rfl rfl rfl rfl ?_)
    refine WG.run tab_ok 1 rfl ?_
    refine WG.nil ?_
    refine WE.nxt ?_
    refine W.seq ?_
    refine W.region _ ?_
    refine WG.run tab_ok 2 rfl ?_
    refine WL.call en33 rfl rfl (by decide) (CallOp.mkT rfl rfl rfl rfl) (LRun_len (ps := ps) (cap := C) (classes := 3) (ticks := 90) hp rfl w0 hok (checkE_of (by unfold BadC; omega) (fun p hp => (hat p hp).2.1)) _) ?_
    rintro _ _ E2 - ⟨rows, gd, go, s, hs, rfl, rfl, h1, h2, h3, hsub⟩
    refine WL.subE hsub ?_
    refine WL.freeze (enc := encI) (xs := s.done) 0 rfl ?_
    intro R4a hR4a hdn1
    refine WL.freeze (enc := encS) (xs := rows) 0 rfl ?_
    intro R4b hR4b ho1
    refine WL.freezeRowsC (rows := rows) rfl ?_
    intro R4 hR4 hrr1 hcap1
    have hdn1 := hdn1.mono (hR4b.trans hR4)
    have ho1 := ho1.mono hR4
    have hp := hp.mono (hR4a.trans (hR4b.trans hR4))
    have hz := hz.mono (hR4a.trans (hR4b.trans hR4))
    have hsv := hsv.mono (hR4a.trans (hR4b.trans hR4))
    have hfa0 := hfa0.mono (hR4a.trans (hR4b.trans hR4))
    obtain ⟨hl1, hx1⟩ := rows_facts h1 h3
    refine WG.run tab_ok 3 rfl ?_
    refine WL.ef rfl rfl (by decide) (Ef.alloc tab_ok rfl rfl (fun b13 => ?_))
    first | refine WL.efN rfl rfl (Ef.store0 0 tab_ok rfl rfl rfl rfl rfl rfl rfl rfl ?_) | refine WL.efN rfl rfl (Ef.store0 1 tab_ok rfl rfl rfl rfl rfl rfl rfl rfl ?_) | refine WL.efN rfl rfl (Ef.store0 2 tab_ok rfl rfl rfl rfl rfl rfl rfl rfl ?_) | refine WL.efN rfl rfl (Ef.store0 3 tab_ok rfl rfl rfl rfl rfl rfl rfl rfl ?_) | refine WL.efN rfl rfl (Ef.store0 4 tab_ok rfl rfl rfl rfl rfl rfl rfl rfl ?_) | refine WL.efN rfl rfl (Ef.store0 5 tab_ok rfl rfl rfl rfl rfl rfl rfl rfl ?_)
    refine WG.run tab_ok 1 rfl ?_
    refine WG.nil ?_
    refine WE.nxt ?_
    refine W.seq ?_
    refine W.seq ?_
    refine W.region _ ?_
    refine WG.run tab_ok 3 rfl ?_
    refine WL.guardT rfl (by first | rfl | decide | simp) ?_
    refine WG.y rfl rfl (by decide) (pureV_ok tab_ok rfl (fun _ => rfl)) ?_
    refine WL.guardT rfl (by first | rfl | decide | simp) ?_
    refine WG.y rfl rfl (by decide) (pureV_ok tab_ok rfl (fun _ => rfl)) ?_
    refine WG.y rfl rfl (by decide) (Yl.por rfl rfl rfl (fun _ => rfl) (by intro h1 h2; simp_all <;> omega)) ?_
    refine WG.run tab_ok 1 rfl ?_
    refine WL.guardT rfl (by first | rfl | decide | simp) ?_
    refine WG.y rfl rfl (by decide) (pureV_ok tab_ok rfl (fun _ => rfl)) ?_
    refine WL.guardT rfl (by first | rfl | decide | simp) ?_
    refine WG.y rfl rfl (by decide) (pureV_ok tab_ok rfl (fun _ => rfl)) ?_
    refine WG.y rfl rfl (by decide) (Yl.por rfl rfl rfl (fun _ => rfl) (by intro h1 h2; simp_all <;> omega)) ?_
    refine WG.run tab_ok 1 rfl ?_
    refine WL.guardT rfl (by first | rfl | decide | simp) ?_
    refine WG.y rfl rfl (by decide) (pureV_ok tab_ok rfl (fun _ => rfl)) ?_
    refine WL.guardT rfl (by first | rfl | decide | simp) ?_
    refine' WG.y rfl rfl (by decide) (Yl.load1 tab_ok rfl rfl rfl (fun _ => rfl) ?r4 rfl ?h4) ?_
    case r4 => (first | exact Rd.blk 0 rfl | exact Rd.blk 1 rfl | exact Rd.blk 2 rfl | exact Rd.blk 3 rfl | exact Rd.blk 4 rfl | exact Rd.blk 5 rfl)
    case h4 => rfl
    refine WL.guardT rfl (by first | rfl | decide | simp) ?_
    refine WG.callV (v := .bool true) en34 rfl rfl (by decide) (CallOp.mk' rfl rfl rfl rfl) (fun _ => rfl) (fun hg => Sound_V (n := 3) (t := 90) ho1 hl1 (by decide) (by decide) (fun r hr => by rw [hx1 r hr]; rfl)) ?_
    refine WL.guardT rfl (by first | rfl | decide | simp) ?_
    refine WG.y rfl rfl (by decide) (pureV_ok tab_ok rfl (fun _ => rfl)) ?_
    refine WG.y rfl rfl (by decide) (Yl.por rfl rfl rfl (fun _ => rfl) (by intro h1 h2; simp_all <;> omega)) ?_
    refine WG.nil ?_
    refine WE.nxt ?_
    refine W.cond rfl (fun hc2 => ?_) (fun hc2 => ?_)
    · try simp only [decide_eq_true_eq, decide_eq_false_iff_not, beq_iff_eq, bne_iff_ne, beq_eq_false_iff_ne, bne_eq_false_iff_eq, ne_eq, Bool.or_eq_true, Bool.or_eq_false_iff, Bool.and_eq_true, Bool.and_eq_false_imp, Bool.not_eq_true, Bool.not_eq_true', Bool.not_eq_false', Classical.not_not, Int.not_lt, Int.not_le, gt_iff_lt, ge_iff_le] at hc2
      first | done | (simp at hc2; done) | exact absurd hc2 (by decide)
    · try simp only [decide_eq_true_eq, decide_eq_false_iff_not, beq_iff_eq, bne_iff_ne, beq_eq_false_iff_ne, bne_eq_false_iff_eq, ne_eq, Bool.or_eq_true, Bool.or_eq_false_iff, Bool.and_eq_true, Bool.and_eq_false_imp, Bool.not_eq_true, Bool.not_eq_true', Bool.not_eq_false', Classical.not_not, Int.not_lt, Int.not_le, gt_iff_lt, ge_iff_le] at hc2
      refine W.skip ?_
      refine WE.nxt ?_
      refine W.freezeBlk 1 rfl ?_
      intro R5 hR5 hb11
      refine W.freezeBlk 1 rfl ?_
      intro R6 hR6 hb9
      have hb11 := hR6 _ _ hb11
      have hp := hp.mono (hR5.trans hR6)
      have hz := hz.mono (hR5.trans hR6)
      have hsv := hsv.mono (hR5.trans hR6)
      have hfa0 := hfa0.mono (hR5.trans hR6)
      have hdn1 := hdn1.mono (hR5.trans hR6)
      have ho1 := ho1.mono (hR5.trans hR6)
      have hrr1 : ∀ r ∈ rows, RS R6 1 encI r.a r.xs := fun r hr => (hrr1 r hr).mono (hR5.trans hR6)
      obtain ⟨th, hth, hth2⟩ : ∃ th : Nat, mod (nth (xs.take 2000) cn) 15 = (th : Int) ∧ th < 15 := by
        have := mod_range (nth (xs.take 2000) cn) (show (1 : Int) ≤ 15 by decide)
        exact ⟨(mod (nth (xs.take 2000) cn) 15).toNat, by omega, by omega⟩
      have hvl := (line_facts (cap := C) (by omega)).1.valid
      have hv0 := hfc0.valid'
      refine W.seq ?_
      refine W.regionH _ (ES := []) mixed ?_
      refine' WA.take 0 rfl (by kernel_rfl) (by kernel_rfl) (by kernel_rfl) rfl rfl (by decide) (Yl.load1 tab_ok rfl rfl rfl (fun _ => rfl) ?r5 rfl ?h5) (by (repeat (first | exact List.Sublist.refl _ | exact List.nil_sublist _ | apply List.Sublist.cons_cons | apply List.Sublist.cons)); done) (by first | exact RLe.refl _ | assumption) ?_
      case r5 => exact Rd.ro hb9
      case h5 => rfl
      refine' WA.take 1 rfl (by kernel_rfl) (by kernel_rfl) (by kernel_rfl) rfl rfl (by decide) (Yl.load1 tab_ok rfl rfl rfl (fun _ => rfl) ?r6 rfl ?h6) (by (repeat (first | exact List.Sublist.refl _ | exact List.nil_sublist _ | apply List.Sublist.cons_cons | apply List.Sublist.cons)); done) (by first | exact RLe.refl _ | assumption) ?_
      case r6 => exact Rd.ro hb11
      case h6 => rfl
      refine WA.take 2 rfl (by kernel_rfl) (by kernel_rfl) (by kernel_rfl) rfl rfl (by decide) (pureV_ok tab_ok rfl (fun _ => rfl)) (by (repeat (first | exact List.Sublist.refl _ | exact List.nil_sublist _ | apply List.Sublist.cons_cons | apply List.Sublist.cons)); done) (by first | exact RLe.refl _ | assumption) ?_
      refine WA.br2 (i := 3) (j := 8) (by kernel_rfl) ?_ ?_
      ·
        first | refine WS.callAt 1 rfl en12 rfl rfl (by decide) (CallOp.mkT rfl rfl rfl rfl) rfl (N_C w0 hz (by constructor <;> decide) _) ?_ | refine WS.callAt 2 rfl en12 rfl rfl (by decide) (CallOp.mkT rfl rfl rfl rfl) rfl (N_C w0 hz (by constructor <;> decide) _) ?_ | refine WS.callAt 3 rfl en12 rfl rfl (by decide) (CallOp.mkT rfl rfl rfl rfl) rfl (N_C w0 hz (by constructor <;> decide) _) ?_
        rintro _ _ _ _ - ⟨rfl, rfl, rfl, rfl⟩
        rw [hth]
        refine ⟨by first | exact RLe.refl _ | assumption, (by (repeat (first | exact List.Sublist.refl _ | exact List.nil_sublist _ | apply List.Sublist.cons_cons | apply List.Sublist.cons)); done), ?_⟩
        refine WA.br2 (i := 4) (j := 8) (by kernel_rfl) ?_ ?_
        ·
          refine WS.callG rfl en14 rfl (by first | rfl | decide) rfl (by decide) (CallOp.mkT rfl rfl rfl rfl) (SRestG_C (cf := lineC C) (cg := (⟨fvals F0 (S0 + P0), (P0 : Int), I0⟩ : Cv)) (th := th) hvl hsv hv0 hfa0 (by omega) w0 _) ?_
          rintro _ R7 _ hR7 ⟨fx, fxc, rfl, hfx, hsubx⟩
          refine ⟨hR7, List.nil_sublist _, ?_⟩
          refine WA.subE hsubx ?_
          unfold cvV
          have hres := share_res (th := th) (norm_nrm hvl).valid (norm_nrm hv0).valid
          have hcur := fun c => share_curve (C := C) (th := th) (c := c) (by omega) hv0 (fin_of17 hfc0)
          generalize shareN (normR (lineC C)) (normR (⟨fvals F0 (S0 + P0), (P0 : Int), I0⟩ : Cv)) th = sx at hfx hres hcur ⊢
          obtain ⟨cx, ex⟩ := sx
          dsimp only at hfx hcur ⊢
          have hp := hp.mono hR7
          have hdn1 := hdn1.mono hR7
          have ho1 := ho1.mono hR7
          have hrr1 : ∀ r ∈ rows, RS R7 1 encI r.a r.xs := fun r hr => (hrr1 r hr).mono hR7
          refine WA.take 5 rfl (by kernel_rfl) (by kernel_rfl) (by kernel_rfl) rfl rfl (by decide) (pureV_ok tab_ok rfl (fun _ => rfl)) (by (repeat (first | exact List.Sublist.refl _ | exact List.nil_sublist _ | apply List.Sublist.cons_cons | apply List.Sublist.cons)); done) (by first | exact RLe.refl _ | assumption) ?_
          refine WA.take 6 rfl (by kernel_rfl) (by kernel_rfl) (by kernel_rfl) rfl rfl (by decide) (pureV_ok tab_ok rfl (fun _ => rfl)) (by (repeat (first | exact List.Sublist.refl _ | exact List.nil_sublist _ | apply List.Sublist.cons_cons | apply List.Sublist.cons)); done) (by first | exact RLe.refl _ | assumption) ?_
          refine WA.take 7 rfl (by kernel_rfl) (by kernel_rfl) (by kernel_rfl) rfl rfl (by decide) (pureV_ok tab_ok rfl (fun _ => rfl)) (by (repeat (first | exact List.Sublist.refl _ | exact List.nil_sublist _ | apply List.Sublist.cons_cons | apply List.Sublist.cons)); done) (by first | exact RLe.refl _ | assumption) ?_
          refine WA.eff 8 rfl (by kernel_rfl) rfl rfl (by decide) (Ef.alloc tab_ok rfl rfl (fun b15 => ?_))
          refine ⟨by first | exact RLe.refl _ | assumption, (by (repeat (first | exact List.Sublist.refl _ | exact List.nil_sublist _ | apply List.Sublist.cons_cons | apply List.Sublist.cons)); done), ?_⟩
          first | refine WA.effN 9 rfl (by kernel_rfl) rfl rfl (Ef.store0 0 tab_ok rfl rfl rfl rfl rfl rfl rfl rfl ?_) | refine WA.effN 9 rfl (by kernel_rfl) rfl rfl (Ef.store0 1 tab_ok rfl rfl rfl rfl rfl rfl rfl rfl ?_) | refine WA.effN 9 rfl (by kernel_rfl) rfl rfl (Ef.store0 2 tab_ok rfl rfl rfl rfl rfl rfl rfl rfl ?_) | refine WA.effN 9 rfl (by kernel_rfl) rfl rfl (Ef.store0 3 tab_ok rfl rfl rfl rfl rfl rfl rfl rfl ?_) | refine WA.effN 9 rfl (by kernel_rfl) rfl rfl (Ef.store0 4 tab_ok rfl rfl rfl rfl rfl rfl rfl rfl ?_) | refine WA.effN 9 rfl (by kernel_rfl) rfl rfl (Ef.store0 5 tab_ok rfl rfl rfl rfl rfl rfl rfl rfl ?_)
          refine ⟨by first | exact RLe.refl _ | assumption, (by (repeat (first | exact List.Sublist.refl _ | exact List.nil_sublist _ | apply List.Sublist.cons_cons | apply List.Sublist.cons)); done), ?_⟩
          refine WA.take 10 rfl (by kernel_rfl) (by kernel_rfl) (by kernel_rfl) rfl rfl (by decide) (pureV_ok tab_ok rfl (fun _ => rfl)) (by (repeat (first | exact List.Sublist.refl _ | exact List.nil_sublist _ | apply List.Sublist.cons_cons | apply List.Sublist.cons)); done) (by first | exact RLe.refl _ | assumption) ?_
          refine WA.done (by kernel_rfl) ?_
          refine WE.nxt ?_
          refine W.seq ?_
          refine W.seq ?_
          refine W.region _ ?_
          refine WG.run tab_ok 2 rfl ?_
          refine WG.nil ?_
          refine WE.nxt ?_
          refine W.condN rfl (fun hc3 => ?_) (fun hc3 => ?_)
          · try dsimp only at hc3
            have hex : ex = 3 := by
              rcases hres with h | ⟨c, h, _⟩
              · exact congrArg Prod.snd h
              · exact absurd (congrArg Prod.snd h) hc3
            subst hex
            refine W.seq ?_
            refine W.region _ ?_
            refine WG.run tab_ok 3 rfl ?_
            refine WL.guardT rfl (by first | rfl | decide | simp) ?_
            refine WL.call en21 rfl rfl (by decide) (CallOp.mkT rfl rfl rfl rfl) (Awake17_C w0 _) ?_
            rintro _ R8 E9 hR8 ⟨rfl, hsub9⟩
            refine WL.subE hsub9 ?_
            refine WG.y rfl rfl (by decide) (Yl.pand rfl rfl rfl (fun _ => rfl) (by intro h1 h2; simp_all <;> omega)) ?_
            refine WG.run tab_ok 1 rfl ?_
            refine WG.nil ?_
            refine WE.nxt ?_
            refine W.ret ?_
            refine WE.then_ret ?_
            refine WE.retF tab_ok [_] rfl ⟨rfl, trivial⟩ ((by first | exact RLe.refl _ | exact hR1.trans (hR2.trans (hR3.trans (hRL.trans (hR4a.trans (hR4b.trans (hR4.trans (hR5.trans (hR6.trans (hR7.trans hR8))))))))))) ?_
            exact rfl
          · try dsimp only at hc3
            obtain rfl : ex = 0 := by first | exact hc3 | simpa using hc3
            obtain ⟨SX, PX, hcx, hfcx, hlo, hhi, _⟩ := hcur cx rfl
            have hs1z : ∀ p ∈ ps, 1 ≤ p.size := fun p hp => by have := hat p hp; omega
            have hsz : ∀ p ∈ ps, 0 ≤ p.size := fun p hp => by have := hat p hp; omega
            have hfw : ∀ p ∈ ps, 0 ≤ p.flow ∧ p.flow < ((3 : Nat) : Int) := fun p hp => by have := hat p hp; omega
            have hcvg : cvF (⟨fvals F0 (S0 + P0), (P0 : Int), I0⟩ : Cv) = F0 := cvF_fc hfc0
            rw [hcvg] at hhi
            have hserve : ∀ t : Nat, t ≤ 90 → ∃ s' : Nat, s' ≤ t ∧ pbytes ((0 : Nat) : Int) (s' : Int) ps + cvF cx (t - s') ≤ nth (nth s.sent 0) t := fun t ht => by
              rw [hs]
              refine fifo_share (m := 90) (th := th) (G := F0) hs1z hfw hok.sorted (fun p hp => (hat p hp).2.2.1) (by decide) (by omega) (fun x y hxy => ?_) (fun x y hxy => ?_) (fun x y hxy => hfc0.mono hxy) hfc0.nonneg hlo hhi ht
              · have h1 := hkeep0 x y hxy
                rw [oth_bytes, oth_bytes] at h1
                exact h1
              · have h1 := oth_bytes (x : Int) ps
                have h2 := oth_bytes (y : Int) ps
                have h3 := pbytes_mono (flow := -1) (show (x : Int) ≤ (y : Int) by omega) (othL ps) (fun p hp => hsz p (List.filter_sublist.subset hp))
                show pbytes (-1) (x : Int) ps - pbytes 0 (x : Int) ps ≤ pbytes (-1) (y : Int) ps - pbytes 0 (y : Int) ps
                omega
            generalize hFX : cvF cx = FX at hcx hfcx hserve
            generalize cx.inc = IX at hcx hfcx
            subst hcx
            have ek : (nth rows 0).xs = nth s.sent 0 := nth_map_xs h1 (by omega)
            have hrk : RS R7 1 encI (nth rows 0).a (nth rows 0).xs := hrr1 _ (nth_mem (by omega))
            have hrl : (nth rows 0).xs.length = 90 + 1 := hx1 _ (nth_mem (by omega))
            have hGP := hfcx.hP
            have hGI := hfcx.hI
            obtain ⟨hGv, hGa⟩ := hfcx.forAt
            have hrb : ∀ x ∈ (nth rows 0).xs, 0 ≤ x ∧ x ≤ 1000000000000 := fun x hx => by
              rw [ek] at hx
              have := (h3.row (i := 0) (by omega)).2 x hx
              omega
            refine W.skip ?_
            refine WE.nxt ?_
            refine W.seq ?_
            refine W.region _ ?_
            refine WG.run tab_ok 1 rfl ?_
            refine' WG.y rfl rfl (by decide) (Yl.load1 tab_ok rfl rfl rfl (fun _ => rfl) ?r7 rfl ?h7) ?_
            case r7 => (first | exact Rd.blk 0 rfl | exact Rd.blk 1 rfl | exact Rd.blk 2 rfl | exact Rd.blk 3 rfl | exact Rd.blk 4 rfl | exact Rd.blk 5 rfl)
            case h7 => rfl
            refine' WG.y rfl rfl (by decide) (Yl.load1 tab_ok rfl rfl rfl (fun _ => rfl) ?r8 rfl ?h8) ?_
            case r8 => (first | exact Rd.blk 0 rfl | exact Rd.blk 1 rfl | exact Rd.blk 2 rfl | exact Rd.blk 3 rfl | exact Rd.blk 4 rfl | exact Rd.blk 5 rfl)
            case h8 => rfl
            refine WL.call en35 rfl rfl (by decide) (CallOp.mkT rfl rfl rfl rfl) (Serves_T (rows := rows) (xs := fvals FX (SX + PX)) (per := (PX : Int)) (inc := IX) (k := 0) (m := 90) hp rfl hok ho1 hl1 (by omega) hrk hrl (by decide) hfx rfl ⟨by omega, by omega⟩ ⟨by omega, by omega⟩ hGv (fun u h1 h2 => hGa u h1 (by omega)) hrb (fun t ht => by
              obtain ⟨s', h1', h2'⟩ := hserve t ht
              refine ⟨s', h1', ?_, ?_⟩
              · rw [show (t : Int) - (s' : Int) = ((t - s' : Nat) : Int) by omega, hfcx.atR]
                have := hfcx.bound (t - s')
                omega
              · rw [show (t : Int) - (s' : Int) = ((t - s' : Nat) : Int) by omega, hfcx.atR, ek]; exact h2') w0 _) ?_
            rintro _ _ ES - ⟨rfl, rfl, hsubS⟩
            refine WL.subE hsubS ?_
            refine WG.run tab_ok 1 rfl ?_
            refine WL.guardT rfl (by first | rfl | decide | simp) ?_
            refine WL.call en21 rfl rfl (by decide) (CallOp.mkT rfl rfl rfl rfl) (Awake17_C w0 _) ?_
            rintro _ R8 E9 hR8 ⟨rfl, hsub9⟩
            refine WL.subE hsub9 ?_
            refine WG.y rfl rfl (by decide) (Yl.pand rfl rfl rfl (fun _ => rfl) (by intro h1 h2; simp_all <;> omega)) ?_
            refine WG.run tab_ok 1 rfl ?_
            refine WG.nil ?_
            refine WE.nxt ?_
            refine W.ret ?_
            refine WE.retF tab_ok [_] rfl ⟨rfl, trivial⟩ ((by first | exact RLe.refl _ | exact hR1.trans (hR2.trans (hR3.trans (hRL.trans (hR4a.trans (hR4b.trans (hR4.trans (hR5.trans (hR6.trans (hR7.trans hR8))))))))))) ?_
            exact rfl
        ·
          refine WS.eff rfl rfl rfl (by decide) (Ef.alloc tab_ok rfl rfl (fun b15 => ?_))
          refine ⟨by first | exact RLe.refl _ | assumption, (by (repeat (first | exact List.Sublist.refl _ | exact List.nil_sublist _ | apply List.Sublist.cons_cons | apply List.Sublist.cons)); done), ?_⟩
          refine WA.callG 4 rfl (by kernel_rfl) en14 rfl (by first | rfl | decide) rfl (by decide) (CallOp.mkT rfl rfl rfl rfl) (SRestG_C (cf := lineC C) (cg := (⟨fvals F0 (S0 + P0), (P0 : Int), I0⟩ : Cv)) (th := th) hvl hsv hv0 hfa0 (by omega) w0 _) ?_
          rintro _ R7 _ hR7 ⟨fx, fxc, rfl, hfx, hsubx⟩
          refine ⟨hR7, List.nil_sublist _, ?_⟩
          refine WA.subE hsubx ?_
          unfold cvV
          have hres := share_res (th := th) (norm_nrm hvl).valid (norm_nrm hv0).valid
          have hcur := fun c => share_curve (C := C) (th := th) (c := c) (by omega) hv0 (fin_of17 hfc0)
          generalize shareN (normR (lineC C)) (normR (⟨fvals F0 (S0 + P0), (P0 : Int), I0⟩ : Cv)) th = sx at hfx hres hcur ⊢
          obtain ⟨cx, ex⟩ := sx
          dsimp only at hfx hcur ⊢
          have hp := hp.mono hR7
          have hdn1 := hdn1.mono hR7
          have ho1 := ho1.mono hR7
          have hrr1 : ∀ r ∈ rows, RS R7 1 encI r.a r.xs := fun r hr => (hrr1 r hr).mono hR7
          refine WA.take 5 rfl (by kernel_rfl) (by kernel_rfl) (by kernel_rfl) rfl rfl (by decide) (pureV_ok tab_ok rfl (fun _ => rfl)) (by (repeat (first | exact List.Sublist.refl _ | exact List.nil_sublist _ | apply List.Sublist.cons_cons | apply List.Sublist.cons)); done) (by first | exact RLe.refl _ | assumption) ?_
          refine WA.take 6 rfl (by kernel_rfl) (by kernel_rfl) (by kernel_rfl) rfl rfl (by decide) (pureV_ok tab_ok rfl (fun _ => rfl)) (by (repeat (first | exact List.Sublist.refl _ | exact List.nil_sublist _ | apply List.Sublist.cons_cons | apply List.Sublist.cons)); done) (by first | exact RLe.refl _ | assumption) ?_
          refine WA.take 7 rfl (by kernel_rfl) (by kernel_rfl) (by kernel_rfl) rfl rfl (by decide) (pureV_ok tab_ok rfl (fun _ => rfl)) (by (repeat (first | exact List.Sublist.refl _ | exact List.nil_sublist _ | apply List.Sublist.cons_cons | apply List.Sublist.cons)); done) (by first | exact RLe.refl _ | assumption) ?_
          first | refine WA.effN 9 rfl (by kernel_rfl) rfl rfl (Ef.store0 0 tab_ok rfl rfl rfl rfl rfl rfl rfl rfl ?_) | refine WA.effN 9 rfl (by kernel_rfl) rfl rfl (Ef.store0 1 tab_ok rfl rfl rfl rfl rfl rfl rfl rfl ?_) | refine WA.effN 9 rfl (by kernel_rfl) rfl rfl (Ef.store0 2 tab_ok rfl rfl rfl rfl rfl rfl rfl rfl ?_) | refine WA.effN 9 rfl (by kernel_rfl) rfl rfl (Ef.store0 3 tab_ok rfl rfl rfl rfl rfl rfl rfl rfl ?_) | refine WA.effN 9 rfl (by kernel_rfl) rfl rfl (Ef.store0 4 tab_ok rfl rfl rfl rfl rfl rfl rfl rfl ?_) | refine WA.effN 9 rfl (by kernel_rfl) rfl rfl (Ef.store0 5 tab_ok rfl rfl rfl rfl rfl rfl rfl rfl ?_)
          refine ⟨by first | exact RLe.refl _ | assumption, (by (repeat (first | exact List.Sublist.refl _ | exact List.nil_sublist _ | apply List.Sublist.cons_cons | apply List.Sublist.cons)); done), ?_⟩
          refine WA.take 10 rfl (by kernel_rfl) (by kernel_rfl) (by kernel_rfl) rfl rfl (by decide) (pureV_ok tab_ok rfl (fun _ => rfl)) (by (repeat (first | exact List.Sublist.refl _ | exact List.nil_sublist _ | apply List.Sublist.cons_cons | apply List.Sublist.cons)); done) (by first | exact RLe.refl _ | assumption) ?_
          refine WA.done (by kernel_rfl) ?_
          refine WE.nxt ?_
          refine W.seq ?_
          refine W.seq ?_
          refine W.region _ ?_
          refine WG.run tab_ok 2 rfl ?_
          refine WG.nil ?_
          refine WE.nxt ?_
          refine W.condN rfl (fun hc4 => ?_) (fun hc4 => ?_)
          · try dsimp only at hc4
            have hex : ex = 3 := by
              rcases hres with h | ⟨c, h, _⟩
              · exact congrArg Prod.snd h
              · exact absurd (congrArg Prod.snd h) hc4
            subst hex
            refine W.seq ?_
            refine W.region _ ?_
            refine WG.run tab_ok 3 rfl ?_
            refine WL.guardT rfl (by first | rfl | decide | simp) ?_
            refine WL.call en21 rfl rfl (by decide) (CallOp.mkT rfl rfl rfl rfl) (Awake17_C w0 _) ?_
            rintro _ R8 E9 hR8 ⟨rfl, hsub9⟩
            refine WL.subE hsub9 ?_
            refine WG.y rfl rfl (by decide) (Yl.pand rfl rfl rfl (fun _ => rfl) (by intro h1 h2; simp_all <;> omega)) ?_
            refine WG.run tab_ok 1 rfl ?_
            refine WG.nil ?_
            refine WE.nxt ?_
            refine W.ret ?_
            refine WE.then_ret ?_
            refine WE.retF tab_ok [_] rfl ⟨rfl, trivial⟩ ((by first | exact RLe.refl _ | exact hR1.trans (hR2.trans (hR3.trans (hRL.trans (hR4a.trans (hR4b.trans (hR4.trans (hR5.trans (hR6.trans (hR7.trans hR8))))))))))) ?_
            exact rfl
          · try dsimp only at hc4
            obtain rfl : ex = 0 := by first | exact hc4 | simpa using hc4
            obtain ⟨SX, PX, hcx, hfcx, hlo, hhi, _⟩ := hcur cx rfl
            have hs1z : ∀ p ∈ ps, 1 ≤ p.size := fun p hp => by have := hat p hp; omega
            have hsz : ∀ p ∈ ps, 0 ≤ p.size := fun p hp => by have := hat p hp; omega
            have hfw : ∀ p ∈ ps, 0 ≤ p.flow ∧ p.flow < ((3 : Nat) : Int) := fun p hp => by have := hat p hp; omega
            have hcvg : cvF (⟨fvals F0 (S0 + P0), (P0 : Int), I0⟩ : Cv) = F0 := cvF_fc hfc0
            rw [hcvg] at hhi
            have hserve : ∀ t : Nat, t ≤ 90 → ∃ s' : Nat, s' ≤ t ∧ pbytes ((0 : Nat) : Int) (s' : Int) ps + cvF cx (t - s') ≤ nth (nth s.sent 0) t := fun t ht => by
              rw [hs]
              refine fifo_share (m := 90) (th := th) (G := F0) hs1z hfw hok.sorted (fun p hp => (hat p hp).2.2.1) (by decide) (by omega) (fun x y hxy => ?_) (fun x y hxy => ?_) (fun x y hxy => hfc0.mono hxy) hfc0.nonneg hlo hhi ht
              · have h1 := hkeep0 x y hxy
                rw [oth_bytes, oth_bytes] at h1
                exact h1
              · have h1 := oth_bytes (x : Int) ps
                have h2 := oth_bytes (y : Int) ps
                have h3 := pbytes_mono (flow := -1) (show (x : Int) ≤ (y : Int) by omega) (othL ps) (fun p hp => hsz p (List.filter_sublist.subset hp))
                show pbytes (-1) (x : Int) ps - pbytes 0 (x : Int) ps ≤ pbytes (-1) (y : Int) ps - pbytes 0 (y : Int) ps
                omega
            generalize hFX : cvF cx = FX at hcx hfcx hserve
            generalize cx.inc = IX at hcx hfcx
            subst hcx
            have ek : (nth rows 0).xs = nth s.sent 0 := nth_map_xs h1 (by omega)
            have hrk : RS R7 1 encI (nth rows 0).a (nth rows 0).xs := hrr1 _ (nth_mem (by omega))
            have hrl : (nth rows 0).xs.length = 90 + 1 := hx1 _ (nth_mem (by omega))
            have hGP := hfcx.hP
            have hGI := hfcx.hI
            obtain ⟨hGv, hGa⟩ := hfcx.forAt
            have hrb : ∀ x ∈ (nth rows 0).xs, 0 ≤ x ∧ x ≤ 1000000000000 := fun x hx => by
              rw [ek] at hx
              have := (h3.row (i := 0) (by omega)).2 x hx
              omega
            refine W.skip ?_
            refine WE.nxt ?_
            refine W.seq ?_
            refine W.region _ ?_
            refine WG.run tab_ok 1 rfl ?_
            refine' WG.y rfl rfl (by decide) (Yl.load1 tab_ok rfl rfl rfl (fun _ => rfl) ?r9 rfl ?h9) ?_
            case r9 => (first | exact Rd.blk 0 rfl | exact Rd.blk 1 rfl | exact Rd.blk 2 rfl | exact Rd.blk 3 rfl | exact Rd.blk 4 rfl | exact Rd.blk 5 rfl)
            case h9 => rfl
            refine' WG.y rfl rfl (by decide) (Yl.load1 tab_ok rfl rfl rfl (fun _ => rfl) ?r10 rfl ?h10) ?_
            case r10 => (first | exact Rd.blk 0 rfl | exact Rd.blk 1 rfl | exact Rd.blk 2 rfl | exact Rd.blk 3 rfl | exact Rd.blk 4 rfl | exact Rd.blk 5 rfl)
            case h10 => rfl
            refine WL.call en35 rfl rfl (by decide) (CallOp.mkT rfl rfl rfl rfl) (Serves_T (rows := rows) (xs := fvals FX (SX + PX)) (per := (PX : Int)) (inc := IX) (k := 0) (m := 90) hp rfl hok ho1 hl1 (by omega) hrk hrl (by decide) hfx rfl ⟨by omega, by omega⟩ ⟨by omega, by omega⟩ hGv (fun u h1 h2 => hGa u h1 (by omega)) hrb (fun t ht => by
              obtain ⟨s', h1', h2'⟩ := hserve t ht
              refine ⟨s', h1', ?_, ?_⟩
              · rw [show (t : Int) - (s' : Int) = ((t - s' : Nat) : Int) by omega, hfcx.atR]
                have := hfcx.bound (t - s')
                omega
              · rw [show (t : Int) - (s' : Int) = ((t - s' : Nat) : Int) by omega, hfcx.atR, ek]; exact h2') w0 _) ?_
            rintro _ _ ES - ⟨rfl, rfl, hsubS⟩
            refine WL.subE hsubS ?_
            refine WG.run tab_ok 1 rfl ?_
            refine WL.guardT rfl (by first | rfl | decide | simp) ?_
            refine WL.call en21 rfl rfl (by decide) (CallOp.mkT rfl rfl rfl rfl) (Awake17_C w0 _) ?_
            rintro _ R8 E9 hR8 ⟨rfl, hsub9⟩
            refine WL.subE hsub9 ?_
            refine WG.y rfl rfl (by decide) (Yl.pand rfl rfl rfl (fun _ => rfl) (by intro h1 h2; simp_all <;> omega)) ?_
            refine WG.run tab_ok 1 rfl ?_
            refine WG.nil ?_
            refine WE.nxt ?_
            refine W.ret ?_
            refine WE.retF tab_ok [_] rfl ⟨rfl, trivial⟩ ((by first | exact RLe.refl _ | exact hR1.trans (hR2.trans (hR3.trans (hRL.trans (hR4a.trans (hR4b.trans (hR4.trans (hR5.trans (hR6.trans (hR7.trans hR8))))))))))) ?_
            exact rfl
      ·
        refine WS.eff rfl rfl rfl (by decide) (Ef.alloc tab_ok rfl rfl (fun b15 => ?_))
        refine ⟨by first | exact RLe.refl _ | assumption, (by (repeat (first | exact List.Sublist.refl _ | exact List.nil_sublist _ | apply List.Sublist.cons_cons | apply List.Sublist.cons)); done), ?_⟩
        first | refine WA.callAt 1 3 rfl (by kernel_rfl) en12 rfl rfl (by decide) (CallOp.mkT rfl rfl rfl rfl) rfl (N_C w0 hz (by constructor <;> decide) _) ?_ | refine WA.callAt 2 3 rfl (by kernel_rfl) en12 rfl rfl (by decide) (CallOp.mkT rfl rfl rfl rfl) rfl (N_C w0 hz (by constructor <;> decide) _) ?_ | refine WA.callAt 3 3 rfl (by kernel_rfl) en12 rfl rfl (by decide) (CallOp.mkT rfl rfl rfl rfl) rfl (N_C w0 hz (by constructor <;> decide) _) ?_
        rintro _ _ _ _ - ⟨rfl, rfl, rfl, rfl⟩
        rw [hth]
        refine ⟨by first | exact RLe.refl _ | assumption, (by (repeat (first | exact List.Sublist.refl _ | exact List.nil_sublist _ | apply List.Sublist.cons_cons | apply List.Sublist.cons)); done), ?_⟩
        refine WA.callG 4 rfl (by kernel_rfl) en14 rfl (by first | rfl | decide) rfl (by decide) (CallOp.mkT rfl rfl rfl rfl) (SRestG_C (cf := lineC C) (cg := (⟨fvals F0 (S0 + P0), (P0 : Int), I0⟩ : Cv)) (th := th) hvl hsv hv0 hfa0 (by omega) w0 _) ?_
        rintro _ R7 _ hR7 ⟨fx, fxc, rfl, hfx, hsubx⟩
        refine ⟨hR7, List.nil_sublist _, ?_⟩
        refine WA.subE hsubx ?_
        unfold cvV
        have hres := share_res (th := th) (norm_nrm hvl).valid (norm_nrm hv0).valid
        have hcur := fun c => share_curve (C := C) (th := th) (c := c) (by omega) hv0 (fin_of17 hfc0)
        generalize shareN (normR (lineC C)) (normR (⟨fvals F0 (S0 + P0), (P0 : Int), I0⟩ : Cv)) th = sx at hfx hres hcur ⊢
        obtain ⟨cx, ex⟩ := sx
        dsimp only at hfx hcur ⊢
        have hp := hp.mono hR7
        have hdn1 := hdn1.mono hR7
        have ho1 := ho1.mono hR7
        have hrr1 : ∀ r ∈ rows, RS R7 1 encI r.a r.xs := fun r hr => (hrr1 r hr).mono hR7
        refine WA.take 5 rfl (by kernel_rfl) (by kernel_rfl) (by kernel_rfl) rfl rfl (by decide) (pureV_ok tab_ok rfl (fun _ => rfl)) (by (repeat (first | exact List.Sublist.refl _ | exact List.nil_sublist _ | apply List.Sublist.cons_cons | apply List.Sublist.cons)); done) (by first | exact RLe.refl _ | assumption) ?_
        refine WA.take 6 rfl (by kernel_rfl) (by kernel_rfl) (by kernel_rfl) rfl rfl (by decide) (pureV_ok tab_ok rfl (fun _ => rfl)) (by (repeat (first | exact List.Sublist.refl _ | exact List.nil_sublist _ | apply List.Sublist.cons_cons | apply List.Sublist.cons)); done) (by first | exact RLe.refl _ | assumption) ?_
        refine WA.take 7 rfl (by kernel_rfl) (by kernel_rfl) (by kernel_rfl) rfl rfl (by decide) (pureV_ok tab_ok rfl (fun _ => rfl)) (by (repeat (first | exact List.Sublist.refl _ | exact List.nil_sublist _ | apply List.Sublist.cons_cons | apply List.Sublist.cons)); done) (by first | exact RLe.refl _ | assumption) ?_
        first | refine WA.effN 9 rfl (by kernel_rfl) rfl rfl (Ef.store0 0 tab_ok rfl rfl rfl rfl rfl rfl rfl rfl ?_) | refine WA.effN 9 rfl (by kernel_rfl) rfl rfl (Ef.store0 1 tab_ok rfl rfl rfl rfl rfl rfl rfl rfl ?_) | refine WA.effN 9 rfl (by kernel_rfl) rfl rfl (Ef.store0 2 tab_ok rfl rfl rfl rfl rfl rfl rfl rfl ?_) | refine WA.effN 9 rfl (by kernel_rfl) rfl rfl (Ef.store0 3 tab_ok rfl rfl rfl rfl rfl rfl rfl rfl ?_) | refine WA.effN 9 rfl (by kernel_rfl) rfl rfl (Ef.store0 4 tab_ok rfl rfl rfl rfl rfl rfl rfl rfl ?_) | refine WA.effN 9 rfl (by kernel_rfl) rfl rfl (Ef.store0 5 tab_ok rfl rfl rfl rfl rfl rfl rfl rfl ?_)
        refine ⟨by first | exact RLe.refl _ | assumption, (by (repeat (first | exact List.Sublist.refl _ | exact List.nil_sublist _ | apply List.Sublist.cons_cons | apply List.Sublist.cons)); done), ?_⟩
        refine WA.take 10 rfl (by kernel_rfl) (by kernel_rfl) (by kernel_rfl) rfl rfl (by decide) (pureV_ok tab_ok rfl (fun _ => rfl)) (by (repeat (first | exact List.Sublist.refl _ | exact List.nil_sublist _ | apply List.Sublist.cons_cons | apply List.Sublist.cons)); done) (by first | exact RLe.refl _ | assumption) ?_
        refine WA.done (by kernel_rfl) ?_
        refine WE.nxt ?_
        refine W.seq ?_
        refine W.seq ?_
        refine W.region _ ?_
        refine WG.run tab_ok 2 rfl ?_
        refine WG.nil ?_
        refine WE.nxt ?_
        refine W.condN rfl (fun hc5 => ?_) (fun hc5 => ?_)
        · try dsimp only at hc5
          have hex : ex = 3 := by
            rcases hres with h | ⟨c, h, _⟩
            · exact congrArg Prod.snd h
            · exact absurd (congrArg Prod.snd h) hc5
          subst hex
          refine W.seq ?_
          refine W.region _ ?_
          refine WG.run tab_ok 3 rfl ?_
          refine WL.guardT rfl (by first | rfl | decide | simp) ?_
          refine WL.call en21 rfl rfl (by decide) (CallOp.mkT rfl rfl rfl rfl) (Awake17_C w0 _) ?_
          rintro _ R8 E9 hR8 ⟨rfl, hsub9⟩
          refine WL.subE hsub9 ?_
          refine WG.y rfl rfl (by decide) (Yl.pand rfl rfl rfl (fun _ => rfl) (by intro h1 h2; simp_all <;> omega)) ?_
          refine WG.run tab_ok 1 rfl ?_
          refine WG.nil ?_
          refine WE.nxt ?_
          refine W.ret ?_
          refine WE.then_ret ?_
          refine WE.retF tab_ok [_] rfl ⟨rfl, trivial⟩ ((by first | exact RLe.refl _ | exact hR1.trans (hR2.trans (hR3.trans (hRL.trans (hR4a.trans (hR4b.trans (hR4.trans (hR5.trans (hR6.trans (hR7.trans hR8))))))))))) ?_
          exact rfl
        · try dsimp only at hc5
          obtain rfl : ex = 0 := by first | exact hc5 | simpa using hc5
          obtain ⟨SX, PX, hcx, hfcx, hlo, hhi, _⟩ := hcur cx rfl
          have hs1z : ∀ p ∈ ps, 1 ≤ p.size := fun p hp => by have := hat p hp; omega
          have hsz : ∀ p ∈ ps, 0 ≤ p.size := fun p hp => by have := hat p hp; omega
          have hfw : ∀ p ∈ ps, 0 ≤ p.flow ∧ p.flow < ((3 : Nat) : Int) := fun p hp => by have := hat p hp; omega
          have hcvg : cvF (⟨fvals F0 (S0 + P0), (P0 : Int), I0⟩ : Cv) = F0 := cvF_fc hfc0
          rw [hcvg] at hhi
          have hserve : ∀ t : Nat, t ≤ 90 → ∃ s' : Nat, s' ≤ t ∧ pbytes ((0 : Nat) : Int) (s' : Int) ps + cvF cx (t - s') ≤ nth (nth s.sent 0) t := fun t ht => by
            rw [hs]
            refine fifo_share (m := 90) (th := th) (G := F0) hs1z hfw hok.sorted (fun p hp => (hat p hp).2.2.1) (by decide) (by omega) (fun x y hxy => ?_) (fun x y hxy => ?_) (fun x y hxy => hfc0.mono hxy) hfc0.nonneg hlo hhi ht
            · have h1 := hkeep0 x y hxy
              rw [oth_bytes, oth_bytes] at h1
              exact h1
            · have h1 := oth_bytes (x : Int) ps
              have h2 := oth_bytes (y : Int) ps
              have h3 := pbytes_mono (flow := -1) (show (x : Int) ≤ (y : Int) by omega) (othL ps) (fun p hp => hsz p (List.filter_sublist.subset hp))
              show pbytes (-1) (x : Int) ps - pbytes 0 (x : Int) ps ≤ pbytes (-1) (y : Int) ps - pbytes 0 (y : Int) ps
              omega
          generalize hFX : cvF cx = FX at hcx hfcx hserve
          generalize cx.inc = IX at hcx hfcx
          subst hcx
          have ek : (nth rows 0).xs = nth s.sent 0 := nth_map_xs h1 (by omega)
          have hrk : RS R7 1 encI (nth rows 0).a (nth rows 0).xs := hrr1 _ (nth_mem (by omega))
          have hrl : (nth rows 0).xs.length = 90 + 1 := hx1 _ (nth_mem (by omega))
          have hGP := hfcx.hP
          have hGI := hfcx.hI
          obtain ⟨hGv, hGa⟩ := hfcx.forAt
          have hrb : ∀ x ∈ (nth rows 0).xs, 0 ≤ x ∧ x ≤ 1000000000000 := fun x hx => by
            rw [ek] at hx
            have := (h3.row (i := 0) (by omega)).2 x hx
            omega
          refine W.skip ?_
          refine WE.nxt ?_
          refine W.seq ?_
          refine W.region _ ?_
          refine WG.run tab_ok 1 rfl ?_
          refine' WG.y rfl rfl (by decide) (Yl.load1 tab_ok rfl rfl rfl (fun _ => rfl) ?r11 rfl ?h11) ?_
          case r11 => (first | exact Rd.blk 0 rfl | exact Rd.blk 1 rfl | exact Rd.blk 2 rfl | exact Rd.blk 3 rfl | exact Rd.blk 4 rfl | exact Rd.blk 5 rfl)
          case h11 => rfl
          refine' WG.y rfl rfl (by decide) (Yl.load1 tab_ok rfl rfl rfl (fun _ => rfl) ?r12 rfl ?h12) ?_
          case r12 => (first | exact Rd.blk 0 rfl | exact Rd.blk 1 rfl | exact Rd.blk 2 rfl | exact Rd.blk 3 rfl | exact Rd.blk 4 rfl | exact Rd.blk 5 rfl)
          case h12 => rfl
          refine WL.call en35 rfl rfl (by decide) (CallOp.mkT rfl rfl rfl rfl) (Serves_T (rows := rows) (xs := fvals FX (SX + PX)) (per := (PX : Int)) (inc := IX) (k := 0) (m := 90) hp rfl hok ho1 hl1 (by omega) hrk hrl (by decide) hfx rfl ⟨by omega, by omega⟩ ⟨by omega, by omega⟩ hGv (fun u h1 h2 => hGa u h1 (by omega)) hrb (fun t ht => by
            obtain ⟨s', h1', h2'⟩ := hserve t ht
            refine ⟨s', h1', ?_, ?_⟩
            · rw [show (t : Int) - (s' : Int) = ((t - s' : Nat) : Int) by omega, hfcx.atR]
              have := hfcx.bound (t - s')
              omega
            · rw [show (t : Int) - (s' : Int) = ((t - s' : Nat) : Int) by omega, hfcx.atR, ek]; exact h2') w0 _) ?_
          rintro _ _ ES - ⟨rfl, rfl, hsubS⟩
          refine WL.subE hsubS ?_
          refine WG.run tab_ok 1 rfl ?_
          refine WL.guardT rfl (by first | rfl | decide | simp) ?_
          refine WL.call en21 rfl rfl (by decide) (CallOp.mkT rfl rfl rfl rfl) (Awake17_C w0 _) ?_
          rintro _ R8 E9 hR8 ⟨rfl, hsub9⟩
          refine WL.subE hsub9 ?_
          refine WG.y rfl rfl (by decide) (Yl.pand rfl rfl rfl (fun _ => rfl) (by intro h1 h2; simp_all <;> omega)) ?_
          refine WG.run tab_ok 1 rfl ?_
          refine WG.nil ?_
          refine WE.nxt ?_
          refine W.ret ?_
          refine WE.retF tab_ok [_] rfl ⟨rfl, trivial⟩ ((by first | exact RLe.refl _ | exact hR1.trans (hR2.trans (hR3.trans (hRL.trans (hR4a.trans (hR4b.trans (hR4.trans (hR5.trans (hR6.trans (hR7.trans hR8))))))))))) ?_
          exact rfl

end Go.Proofs.Ytolmmfphdieilaa

/- ShareServes: for every list of numbers the law returns true, and the list reads afterwards as it read before. No condition. -/
namespace Go.Proofs.Ytolmmfphdieilaa
open Go Go.RowKit Go.ChangeShapes Go.WideShapes Go.ChangeAt Go.WideElems Go.Maps Go.Proofs.Ytolmmfphdieilaa.K
namespace shareServes
theorem law : LawI Try.prog 5 := fun ha hc w0 => ShareServes_F ha hc w0
theorem own : ownKnob Try.prog.godebug = none := by kernel_rfl
theorem laidOut : laidOutB Try.prog = true := by kernel_rfl
theorem cellsI : Try.prog.cellsOf 3 = 1 := by kernel_rfl
set_option maxRecDepth 100000 in
theorem lifted (os : Os) (started : os.Started) (H : Type) (enc : TypeId × Value → H) :
    ReturnsInHanded {} Try.checked os 5 .any (Rows.shareServesSpec.pre6 enc Try.prog Try.f5 Rows.shareServesRow.domain false) (Rows.shareServesSpec.post enc Try.prog Try.f5 false true false false) := by
  refine returnsInHanded_of_change (C := Try.checked) own started (by kernel_rfl) Try.func5
    (ChangeSpec.witness6 (enc := enc) (C := Try.checked) false ⟨#[], #[.slice none 0 0], []⟩ 8 (by kernel_rfl) (by kernel_rfl) (by kernel_rfl) (by kernel_rfl)) ?_
  intro W base args ds gs before hval0 hW _ _
  have hval : ∀ (j : Nat) t v, Try.f5.params[j]? = some t → args[j]? = some v → Value.okWide Try.prog W .any base t v := hval0
  have hW' := hW
  obtain ⟨p, q, hA0, hV, rfl, _, _⟩ := hW
  have hA : DataW.TrodAll enc Try.prog W 0 (fun _ => true) true Try.f5.params.toList args.toList ds p := hA0
  rw [Try.params5] at hA hval
  obtain ⟨v0, d0, rfl, rfl, h0⟩ := trodAll_one hA
  obtain ⟨rfl, rfl⟩ := trodVars_none hV
  have h0k := h0
  obtain ⟨fuel, hf⟩ := h0
  clear hA0 hval0
  simp only [List.append_nil] at hW'
  have hlt : ∀ x ∈ p, x.block < W.heap.size := fun x hx => by simpa using hW'.lt x hx
  have hargs : ∀ W', Below W.heap.size W W' → DataW.Trod enc Try.prog W' 0 (fun b => decide (b < W.heap.size)) true 22 v0 d0 p := fun W' hb =>
    Below.trod laidOut (by kernel_rfl) (of_decide_eq_true (by kernel_rfl)) h0k hb hlt
  obtain ⟨a0, len, cap, rfl⟩ := okWide_slice Try.underlying22 (hval 0 22 v0 rfl rfl)
  rcases open_ints Try.underlying22 Try.underlying3 cellsI hf with ⟨hcs, hx⟩ | ⟨a, len', cap', zs, hcs, _, hl, hm, hz, hx, hcell, hwz⟩
  · simp [Value.cells] at hcs
    obtain ⟨rfl, rfl, rfl⟩ := hcs
    simp only [Prod.mk.injEq] at hx
    obtain ⟨rfl, rfl⟩ := hx
    refine (law.nil W).mono fun e W' ⟨he, hb⟩ => ?_
    subst he
    exact ⟨_, rfl, ⟨_, _, _, [], _, [], hW', trodAll_mk1 (shut_bool Try.underlying4 _), trodAll_mk1 (hargs W' hb), rfl, hb.frame _, fun h => by cases h⟩⟩
  · simp [Value.cells] at hcs
    obtain ⟨rfl, rfl, rfl⟩ := hcs
    simp only [Prod.mk.injEq] at hx
    obtain ⟨rfl, rfl⟩ := hx
    simp only [if_true] at hz
    refine (law.some (len := len) hcell (by rw [hz]; simp only [maxLen] at hm; omega) hz hl).mono fun e W' ⟨he, hb⟩ => ?_
    subst he
    exact ⟨_, rfl, ⟨_, _, _, [], _, [], hW', trodAll_mk1 (shut_bool Try.underlying4 _), trodAll_mk1 (hargs W' hb), rfl, hb.frame _, fun h => by cases h⟩⟩
end shareServes
theorem shareServes_holds : Rows.ShareServesSaid :=
  OpenClaim.holds_of_wide 5 Try.f5 rfl rfl rfl rfl rfl rfl rfl ⟨rfl, rfl, rfl, rfl, rfl⟩ rfl rfl rfl rfl rfl (by kernel_rfl) Try.func5 (by kernel_rfl)
    (of_decide_eq_true (by kernel_rfl)) (by unfold Func.isWrapper; first | (rw [if_pos (by decide +kernel)]; kernel_rfl) | (rw [if_neg (by decide +kernel)]; exact ⟨rfl, rfl⟩))
    (fun os started H enc _ => shareServes.lifted os started H enc)
end Go.Proofs.Ytolmmfphdieilaa
