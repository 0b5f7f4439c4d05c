/- ShareBounds: for every list of numbers the law returns true, and the list reads afterwards as it read before. No condition. -/
import Derived.Test.YtolmmfphdieilaaG5
/- The bounds of the shares. No condition. -/
set_option linter.unusedSimpArgs false
set_option linter.unusedVariables false
namespace Go.Proofs.Ytolmmfphdieilaa
open Go Go.RowKit Go.Proofs.Ytolmmfphdieilaa.K Go.Proofs.Ytolmmfphdieilaa.M

theorem fin_of17 {F : Nat → Int} {s p : Nat} {q : Int} (h : FC F s p q) : finB ⟨fvals F (s + p), p, q⟩ = true := by
  have hP := h.hP
  unfold finB
  dsimp only
  rw [fvals_len, fvals_nth F (by omega), bne_iff_ne]
  exact h.fin (by omega)

theorem rows_two {σ : Type} {ps : List Pkt} {good : MS → σ → Prop} {len n : Nat} {B : Int} {s : M.RS σ} {rows : List Sl} (h1 : rows.map Sl.xs = s.sent) (h3 : Inv ps n good len B s) : rows.length = n ∧ ∀ r ∈ rows, r.xs.length = len := by
  have hc := h3.sent
  rw [← h1, List.length_map] at hc
  exact ⟨hc, fun r hr => (h3.rows r.xs (by rw [← h1]; exact List.mem_map_of_mem hr)).1⟩

set_option maxHeartbeats 4000000 in
theorem ShareBounds_F {R : Ro} {a : Option Addr} {c : Nat} {xs : List Int} (ha : RS R 1 encI a xs) (hc : xs.length ≤ c) (w0 : World) : K.Fn Try.prog 9 [.slice a xs.length c] w0 R [] (fun v _ _ => v = .bool true) := by
  refine Fn.enter (n := 154) Try.func9 rfl rfl (Nat.le_of_ble_eq_true rfl) rfl ?_
  refine W.seq ?_
  refine W.region _ ?_
  refine WG.run tab_ok 1 rfl ?_
  refine WG.nil ?_
  refine WE.nxt ?_
  refine W.seq ?_
  refine W.region _ ?_
  refine WG.run tab_ok 1 rfl ?_
  refine WL.call en10 rfl rfl (by decide) (CallOp.mkT rfl rfl rfl rfl) (New_C w0 _ hc) ?_
  rintro _ _ _ - ⟨b, rfl, rfl, rfl⟩
  have hz := ha.take 2000
  refine WG.run tab_ok 1 rfl ?_
  refine WG.nil ?_
  refine WE.nxt ?_
  refine W.seq ?_
  refine W.region _ ?_
  refine WG.run tab_ok 1 rfl ?_
  refine WL.callAt 0 en30 rfl rfl (by decide) (CallOp.mkT rfl rfl rfl rfl) rfl (Traffic_C w0 hz (by decide) (by constructor <;> decide) (by decide) _) ?_
  rintro _ _ _ _ - ⟨a2, c2, rfl, rfl, rfl, rfl⟩
  refine WL.freeze (enc := encP) (xs := (traffic (xs.take 2000) 10 2 40 0)) 0 rfl ?_
  intro R1 hR1 hp
  have hz := hz.mono hR1
  have hok := traffic_ok (xs.take 2000) (n := 10) (flows := 2) (most := 40) (by decide) (by decide) (by decide) 0
  have hat := traffic_at (xs.take 2000) (n := 10) (flows := 2) (most := 40) (by decide) (by decide) (by decide) 0
  have hlt := traffic_len (xs.take 2000) (n := 10) (flows := 2) (most := 40) (by decide) 0
  refine WG.run tab_ok 1 rfl ?_
  refine WL.callAt 0 en12 rfl rfl (by decide) (CallOp.mkT rfl rfl rfl rfl) rfl (N_C w0 hz (by constructor <;> decide) _) ?_
  rintro _ _ _ _ - ⟨rfl, rfl, rfl, rfl⟩
  have hm40 := mod_range (nth (xs.take 2000) ((0 + 1 + 3 * trafficK (xs.take 2000) 10 0))) (show (1 : Int) ≤ 40 by decide)
  refine WG.y rfl rfl (by decide) (Yl.add rfl rfl rfl (fun _ => rfl) (by intro _; constructor <;> (try dsimp only) <;> omega)) ?_
  refine WG.run tab_ok 2 rfl ?_
  refine WG.nil ?_
  refine WE.nxt ?_
  refine W.sub (env' := [(3, true, .pointer (some ⟨b, 0, none⟩)), (4, true, .slice a2 (traffic (xs.take 2000) 10 2 40 0).length c2), (5, true, .int .i64 (1 + mod (nth (xs.take 2000) (0 + 1 + 3 * trafficK (xs.take 2000) 10 0)) 40))]) (R' := R1) (E' := [srcE b a c (xs.take 2000) ((0 + 1 + 3 * trafficK (xs.take 2000) 10 0) + 1)]) ⟨rfl, rfl, rfl, rfl⟩ (RLe.refl _) (List.Sublist.refl _) ?_
  have hC : 1 ≤ (1 + mod (nth (xs.take 2000) (0 + 1 + 3 * trafficK (xs.take 2000) 10 0)) 40) ∧ (1 + mod (nth (xs.take 2000) (0 + 1 + 3 * trafficK (xs.take 2000) 10 0)) 40) ≤ 40 := by have := mod_range (nth (xs.take 2000) (0 + 1 + 3 * trafficK (xs.take 2000) 10 0)) (show (1 : Int) ≤ 40 by decide); omega
  generalize (1 + mod (nth (xs.take 2000) (0 + 1 + 3 * trafficK (xs.take 2000) 10 0)) 40) = C at hC ⊢
  generalize (0 + 1 + 3 * trafficK (xs.take 2000) 10 0) + 1 = cn
  generalize (traffic (xs.take 2000) 10 2 40 0) = ps at hp hok hat hlt ⊢
  refine W.seq ?_
  refine W.region _ ?_
  refine WG.run tab_ok 1 rfl ?_
  refine WL.call en31 rfl rfl (by decide) (CallOp.mkT rfl rfl rfl rfl) (Serve_ok (cap := C) w0 (by omega) _) ?_
  rintro _ _ E3 - ⟨gs, rfl, rfl, hsub2⟩
  refine WL.subE hsub2 ?_
  refine WL.freeze (enc := encI) (xs := [0]) 0 rfl ?_
  intro R3 hR3 hsv
  have hp := hp.mono hR3
  have hz := hz.mono hR3
  refine WG.run tab_ok 3 rfl ?_
  refine WL.ef rfl rfl (by decide) (Ef.alloc tab_ok rfl rfl (fun b6 => ?_))
  first | refine WL.efN rfl rfl (Ef.store0 0 tab_ok rfl rfl rfl rfl rfl rfl rfl rfl ?_) | refine WL.efN rfl rfl (Ef.store0 1 tab_ok rfl rfl rfl rfl rfl rfl rfl rfl ?_) | refine WL.efN rfl rfl (Ef.store0 2 tab_ok rfl rfl rfl rfl rfl rfl rfl rfl ?_) | refine WL.efN rfl rfl (Ef.store0 3 tab_ok rfl rfl rfl rfl rfl rfl rfl rfl ?_) | refine WL.efN rfl rfl (Ef.store0 4 tab_ok rfl rfl rfl rfl rfl rfl rfl rfl ?_) | refine WL.efN rfl rfl (Ef.store0 5 tab_ok rfl rfl rfl rfl rfl rfl rfl rfl ?_) | refine WL.efN rfl rfl (Ef.store0 6 tab_ok rfl rfl rfl rfl rfl rfl rfl rfl ?_) | refine WL.efN rfl rfl (Ef.store0 7 tab_ok rfl rfl rfl rfl rfl rfl rfl rfl ?_)
  refine WG.run tab_ok 1 rfl ?_
  refine WG.nil ?_
  refine WE.nxt ?_
  refine W.seq ?_
  refine W.region _ ?_
  refine WG.run tab_ok 1 rfl ?_
  refine WL.call en32 rfl rfl (by decide) (CallOp.mkT rfl rfl rfl rfl) (Least1_C (flow := 0) hp hok (by decide) (fun p hp => by have := hat p hp; omega) w0 _) ?_
  rintro _ RL0 _ hRL0 ⟨fa0, fc0, F0, S0, P0, I0, rfl, hfa0, hfc0, hp10, hkeep0, hsubL0⟩
  refine WL.subE hsubL0 ?_
  have hp := hp.mono hRL0
  have hz := hz.mono hRL0
  have hsv := hsv.mono hRL0
  refine WG.run tab_ok 3 rfl ?_
  refine WL.ef rfl rfl (by decide) (Ef.alloc tab_ok rfl rfl (fun b8 => ?_))
  first | refine WL.efN rfl rfl (Ef.store0 0 tab_ok rfl rfl rfl rfl rfl rfl rfl rfl ?_) | refine WL.efN rfl rfl (Ef.store0 1 tab_ok rfl rfl rfl rfl rfl rfl rfl rfl ?_) | refine WL.efN rfl rfl (Ef.store0 2 tab_ok rfl rfl rfl rfl rfl rfl rfl rfl ?_) | refine WL.efN rfl rfl (Ef.store0 3 tab_ok rfl rfl rfl rfl rfl rfl rfl rfl ?_) | refine WL.efN rfl rfl (Ef.store0 4 tab_ok rfl rfl rfl rfl rfl rfl rfl rfl ?_) | refine WL.efN rfl rfl (Ef.store0 5 tab_ok rfl rfl rfl rfl rfl rfl rfl rfl ?_) | refine WL.efN rfl rfl (Ef.store0 6 tab_ok rfl rfl rfl rfl rfl rfl rfl rfl ?_) | refine WL.efN rfl rfl (Ef.store0 7 tab_ok rfl rfl rfl rfl rfl rfl rfl rfl ?_)
  refine WG.run tab_ok 1 rfl ?_
  refine WG.nil ?_
  refine WE.nxt ?_
  refine W.seq ?_
  refine W.region _ ?_
  refine WG.run tab_ok 1 rfl ?_
  refine WL.call en32 rfl rfl (by decide) (CallOp.mkT rfl rfl rfl rfl) (Least1_C (flow := 1) hp hok (by decide) (fun p hp => by have := hat p hp; omega) w0 _) ?_
  rintro _ RL1 _ hRL1 ⟨fa1, fc1, F1, S1, P1, I1, rfl, hfa1, hfc1, hp11, hkeep1, hsubL1⟩
  refine WL.subE hsubL1 ?_
  have hp := hp.mono hRL1
  have hz := hz.mono hRL1
  have hsv := hsv.mono hRL1
  have hfa0 := hfa0.mono hRL1
  refine WG.run tab_ok 3 rfl ?_
  refine WL.ef rfl rfl (by decide) (Ef.alloc tab_ok rfl rfl (fun b10 => ?_))
  first | refine WL.efN rfl rfl (Ef.store0 0 tab_ok rfl rfl rfl rfl rfl rfl rfl rfl ?_) | refine WL.efN rfl rfl (Ef.store0 1 tab_ok rfl rfl rfl rfl rfl rfl rfl rfl ?_) | refine WL.efN rfl rfl (Ef.store0 2 tab_ok rfl rfl rfl rfl rfl rfl rfl rfl ?_) | refine WL.efN rfl rfl (Ef.store0 3 tab_ok rfl rfl rfl rfl rfl rfl rfl rfl ?_) | refine WL.efN rfl rfl (Ef.store0 4 tab_ok rfl rfl rfl rfl rfl rfl rfl rfl ?_) | refine WL.efN rfl rfl (Ef.store0 5 tab_ok rfl rfl rfl rfl rfl rfl rfl rfl ?_) | refine WL.efN rfl rfl (Ef.store0 6 tab_ok rfl rfl rfl rfl rfl rfl rfl rfl ?_) | refine WL.efN rfl rfl (Ef.store0 7 tab_ok rfl rfl rfl rfl rfl rfl rfl rfl ?_)
  refine WG.run tab_ok 1 rfl ?_
  refine WG.nil ?_
  refine WE.nxt ?_
  refine W.seq ?_
  refine W.region _ ?_
  refine WG.run tab_ok 2 rfl ?_
  refine WL.call en33 rfl rfl (by decide) (CallOp.mkT rfl rfl rfl rfl) (LRun_len (ps := ps) (cap := C) (classes := 2) (ticks := 300) hp rfl w0 hok (checkE_of (by unfold BadC; omega) (fun p hp => (hat p hp).2.1)) _) ?_
  rintro _ _ E2 - ⟨rows, gd, go, s, hs, rfl, rfl, h1, h2, h3, hsub⟩
  refine WL.subE hsub ?_
  refine WL.freeze (enc := encI) (xs := s.done) 0 rfl ?_
  intro R4a hR4a hdn1
  refine WL.freeze (enc := encS) (xs := rows) 0 rfl ?_
  intro R4b hR4b ho1
  refine WL.freezeRowsC (rows := rows) rfl ?_
  intro R4 hR4 hrr1 hcap1
  have hdn1 := hdn1.mono (hR4b.trans hR4)
  have ho1 := ho1.mono hR4
  have hp := hp.mono (hR4a.trans (hR4b.trans hR4))
  have hz := hz.mono (hR4a.trans (hR4b.trans hR4))
  have hsv := hsv.mono (hR4a.trans (hR4b.trans hR4))
  have hfa0 := hfa0.mono (hR4a.trans (hR4b.trans hR4))
  have hfa1 := hfa1.mono (hR4a.trans (hR4b.trans hR4))
  obtain ⟨hl1, hx1⟩ := rows_two h1 h3
  refine WG.run tab_ok 3 rfl ?_
  refine WL.ef rfl rfl (by decide) (Ef.alloc tab_ok rfl rfl (fun b12 => ?_))
  first | refine WL.efN rfl rfl (Ef.store0 0 tab_ok rfl rfl rfl rfl rfl rfl rfl rfl ?_) | refine WL.efN rfl rfl (Ef.store0 1 tab_ok rfl rfl rfl rfl rfl rfl rfl rfl ?_) | refine WL.efN rfl rfl (Ef.store0 2 tab_ok rfl rfl rfl rfl rfl rfl rfl rfl ?_) | refine WL.efN rfl rfl (Ef.store0 3 tab_ok rfl rfl rfl rfl rfl rfl rfl rfl ?_) | refine WL.efN rfl rfl (Ef.store0 4 tab_ok rfl rfl rfl rfl rfl rfl rfl rfl ?_) | refine WL.efN rfl rfl (Ef.store0 5 tab_ok rfl rfl rfl rfl rfl rfl rfl rfl ?_) | refine WL.efN rfl rfl (Ef.store0 6 tab_ok rfl rfl rfl rfl rfl rfl rfl rfl ?_) | refine WL.efN rfl rfl (Ef.store0 7 tab_ok rfl rfl rfl rfl rfl rfl rfl rfl ?_)
  refine WG.run tab_ok 1 rfl ?_
  refine WG.nil ?_
  refine WE.nxt ?_
  refine W.seq ?_
  refine W.seq ?_
  refine W.region _ ?_
  refine WG.run tab_ok 3 rfl ?_
  refine WL.guardT rfl (by first | rfl | decide | simp) ?_
  refine WG.y rfl rfl (by decide) (pureV_ok tab_ok rfl (fun _ => rfl)) ?_
  refine WL.guardT rfl (by first | rfl | decide | simp) ?_
  refine WG.y rfl rfl (by decide) (pureV_ok tab_ok rfl (fun _ => rfl)) ?_
  refine WG.y rfl rfl (by decide) (Yl.por rfl rfl rfl (fun _ => rfl) (by first | exact fun _ _ => rfl | ((try generalize ((nth ps n).flow == 0) = k0); (try generalize decide ((nth ps n).time + val < 300) = k1); (try generalize decide (nth s.done n < 0) = k2); (try generalize decide (nth s.done n - (nth ps n).time > val) = k3); (try revert k0); (try revert k1); (try revert k2); (try revert k3); decide) | (intro h1 h2; simp_all))) ?_
  refine WG.run tab_ok 1 rfl ?_
  refine WL.guardT rfl (by first | rfl | decide | simp) ?_
  refine WG.y rfl rfl (by decide) (pureV_ok tab_ok rfl (fun _ => rfl)) ?_
  refine WL.guardT rfl (by first | rfl | decide | simp) ?_
  refine WG.y rfl rfl (by decide) (pureV_ok tab_ok rfl (fun _ => rfl)) ?_
  refine WG.y rfl rfl (by decide) (Yl.por rfl rfl rfl (fun _ => rfl) (by first | exact fun _ _ => rfl | ((try generalize ((nth ps n).flow == 0) = k0); (try generalize decide ((nth ps n).time + val < 300) = k1); (try generalize decide (nth s.done n < 0) = k2); (try generalize decide (nth s.done n - (nth ps n).time > val) = k3); (try revert k0); (try revert k1); (try revert k2); (try revert k3); decide) | (intro h1 h2; simp_all))) ?_
  refine WG.run tab_ok 1 rfl ?_
  refine WL.guardT rfl (by first | rfl | decide | simp) ?_
  refine WG.y rfl rfl (by decide) (pureV_ok tab_ok rfl (fun _ => rfl)) ?_
  refine WL.guardT rfl (by first | rfl | decide | simp) ?_
  refine WG.y rfl rfl (by decide) (pureV_ok tab_ok rfl (fun _ => rfl)) ?_
  refine WG.y rfl rfl (by decide) (Yl.por rfl rfl rfl (fun _ => rfl) (by first | exact fun _ _ => rfl | ((try generalize ((nth ps n).flow == 0) = k0); (try generalize decide ((nth ps n).time + val < 300) = k1); (try generalize decide (nth s.done n < 0) = k2); (try generalize decide (nth s.done n - (nth ps n).time > val) = k3); (try revert k0); (try revert k1); (try revert k2); (try revert k3); decide) | (intro h1 h2; simp_all))) ?_
  refine WG.run tab_ok 1 rfl ?_
  refine WL.guardT rfl (by first | rfl | decide | simp) ?_
  refine WG.y rfl rfl (by decide) (pureV_ok tab_ok rfl (fun _ => rfl)) ?_
  refine WL.guardT rfl (by first | rfl | decide | simp) ?_
  refine' WG.y rfl rfl (by decide) (Yl.load1 tab_ok rfl rfl rfl (fun _ => rfl) ?r1 rfl ?h1) ?_
  case r1 => (first | exact Rd.ro (by assumption) | exact Rd.blk 0 rfl | exact Rd.blk 1 rfl | exact Rd.blk 2 rfl | exact Rd.blk 3 rfl | exact Rd.blk 4 rfl | exact Rd.blk 5 rfl | exact Rd.blk 6 rfl | exact Rd.blk 7 rfl)
  case h1 => rfl
  refine WL.guardT rfl (by first | rfl | decide | simp) ?_
  refine WG.callV (v := .bool true) en34 rfl rfl (by decide) (CallOp.mk' rfl rfl rfl rfl) (fun _ => rfl) (fun hg => Sound_V (n := 2) (t := 300) ho1 hl1 (by decide) (by decide) (fun r hr => by rw [hx1 r hr]; rfl)) ?_
  refine WL.guardT rfl (by first | rfl | decide | simp) ?_
  refine WG.y rfl rfl (by decide) (pureV_ok tab_ok rfl (fun _ => rfl)) ?_
  refine WG.y rfl rfl (by decide) (Yl.por rfl rfl rfl (fun _ => rfl) (by first | exact fun _ _ => rfl | ((try generalize ((nth ps n).flow == 0) = k0); (try generalize decide ((nth ps n).time + val < 300) = k1); (try generalize decide (nth s.done n < 0) = k2); (try generalize decide (nth s.done n - (nth ps n).time > val) = k3); (try revert k0); (try revert k1); (try revert k2); (try revert k3); decide) | (intro h1 h2; simp_all))) ?_
  refine WG.nil ?_
  refine WE.nxt ?_
  refine W.cond rfl (fun hc0 => ?_) (fun hc0 => ?_)
  · try simp only [decide_eq_true_eq, decide_eq_false_iff_not, beq_iff_eq, bne_iff_ne, beq_eq_false_iff_ne, bne_eq_false_iff_eq, ne_eq, Bool.or_eq_true, Bool.or_eq_false_iff, Bool.and_eq_true, Bool.and_eq_false_imp, Bool.not_eq_true, Bool.not_eq_true', Bool.not_eq_false', Classical.not_not, Int.not_lt, Int.not_le, gt_iff_lt, ge_iff_le] at hc0
    first | done | (simp at hc0; done) | exact absurd hc0 (by decide)
  · try simp only [decide_eq_true_eq, decide_eq_false_iff_not, beq_iff_eq, bne_iff_ne, beq_eq_false_iff_ne, bne_eq_false_iff_eq, ne_eq, Bool.or_eq_true, Bool.or_eq_false_iff, Bool.and_eq_true, Bool.and_eq_false_imp, Bool.not_eq_true, Bool.not_eq_true', Bool.not_eq_false', Classical.not_not, Int.not_lt, Int.not_le, gt_iff_lt, ge_iff_le] at hc0
    refine W.skip ?_
    refine WE.nxt ?_
    refine W.freezeBlk 1 rfl ?_
    intro R5 hR5 hb10
    refine W.freezeBlk 1 rfl ?_
    intro R5b hR5b hb8
    refine W.freezeBlk 1 rfl ?_
    intro R6 hR6 hb6
    have hb10 := hR6 _ _ (hR5b _ _ hb10)
    have hb8 := hR6 _ _ hb8
    have hR56 := hR5.trans (hR5b.trans hR6)
    have hp := hp.mono hR56
    have hz := hz.mono hR56
    have hsv := hsv.mono hR56
    have hfa0 := hfa0.mono hR56
    have hfa1 := hfa1.mono hR56
    have hdn1 := hdn1.mono hR56
    have ho1 := ho1.mono hR56
    have hrr1 : ∀ r ∈ rows, RS R6 1 encI r.a r.xs := fun r hr => (hrr1 r hr).mono hR56
    obtain ⟨most, hmo, hmo2⟩ : ∃ most : Nat, mod (nth (xs.take 2000) cn) 6 = (most : Int) ∧ most < 6 := by
      have := mod_range (nth (xs.take 2000) cn) (show (1 : Int) ≤ 6 by decide)
      exact ⟨(mod (nth (xs.take 2000) cn) 6).toNat, by omega, by omega⟩
    refine W.seq ?_
    refine W.region _ ?_
    refine WG.run tab_ok 1 rfl ?_
    refine WL.callAt 1 en12 rfl rfl (by decide) (CallOp.mkT rfl rfl rfl rfl) rfl (N_C w0 hz (by constructor <;> decide) _) ?_
    rintro _ _ _ _ - ⟨rfl, rfl, rfl, rfl⟩
    rw [hmo]
    refine WG.run tab_ok 1 rfl ?_
    refine WG.nil ?_
    refine WE.nxt ?_
    refine W.seq ?_
    refine W.region _ ?_
    refine' WG.y rfl rfl (by decide) (Yl.load1 tab_ok rfl rfl rfl (fun _ => rfl) ?r2 rfl ?h2) ?_
    case r2 => (first | exact Rd.ro (by assumption) | exact Rd.blk 0 rfl | exact Rd.blk 1 rfl | exact Rd.blk 2 rfl | exact Rd.blk 3 rfl | exact Rd.blk 4 rfl | exact Rd.blk 5 rfl | exact Rd.blk 6 rfl | exact Rd.blk 7 rfl)
    case h2 => rfl
    refine' WG.y rfl rfl (by decide) (Yl.load1 tab_ok rfl rfl rfl (fun _ => rfl) ?r3 rfl ?h3) ?_
    case r3 => (first | exact Rd.ro (by assumption) | exact Rd.blk 0 rfl | exact Rd.blk 1 rfl | exact Rd.blk 2 rfl | exact Rd.blk 3 rfl | exact Rd.blk 4 rfl | exact Rd.blk 5 rfl | exact Rd.blk 6 rfl | exact Rd.blk 7 rfl)
    case h3 => rfl
    refine' WG.y rfl rfl (by decide) (Yl.load1 tab_ok rfl rfl rfl (fun _ => rfl) ?r4 rfl ?h4) ?_
    case r4 => (first | exact Rd.ro (by assumption) | exact Rd.blk 0 rfl | exact Rd.blk 1 rfl | exact Rd.blk 2 rfl | exact Rd.blk 3 rfl | exact Rd.blk 4 rfl | exact Rd.blk 5 rfl | exact Rd.blk 6 rfl | exact Rd.blk 7 rfl)
    case h4 => rfl
    refine WG.run tab_ok 1 rfl ?_
    refine WL.call en28 rfl rfl (by decide) (CallOp.mkT rfl rfl rfl rfl) (SLeastG_C (ca := (⟨fvals F0 (S0 + P0), (P0 : Int), I0⟩ : Cv)) (cb := lineC C) (co := (⟨fvals F1 (S1 + P1), (P1 : Int), I1⟩ : Cv)) (most := most) hfc0.valid' hfa0 (line_facts (cap := C) (by omega)).1.valid hsv hfc1.valid' hfa1 (by omega) w0 _) ?_
    rintro _ R7 _ hR7 ⟨rfl, hsub7⟩
    refine WL.subE hsub7 ?_
    have hsays := least_says (C := C) (most := most) (a := (⟨fvals F0 (S0 + P0), (P0 : Int), I0⟩ : Cv)) (g := (⟨fvals F1 (S1 + P1), (P1 : Int), I1⟩ : Cv)) (by omega) hfc0.valid' (fin_of17 hfc0) hfc1.valid' (fin_of17 hfc1)
    generalize (leastGo (normR (⟨fvals F0 (S0 + P0), (P0 : Int), I0⟩ : Cv)) (normR (lineC C)) (normR (⟨fvals F1 (S1 + P1), (P1 : Int), I1⟩ : Cv)) (most + 1) 0 none) = best at hsays ⊢
    have hp := hp.mono hR7
    have hdn1 := hdn1.mono hR7
    have ho1 := ho1.mono hR7
    refine WG.run tab_ok 4 rfl ?_
    refine WL.ef rfl rfl (by decide) (Ef.alloc tab_ok rfl rfl (fun b16 => ?_))
    refine WG.run tab_ok 1 rfl ?_
    first | refine WL.efN rfl rfl (Ef.store0 0 tab_ok rfl rfl rfl rfl rfl rfl rfl rfl ?_) | refine WL.efN rfl rfl (Ef.store0 1 tab_ok rfl rfl rfl rfl rfl rfl rfl rfl ?_) | refine WL.efN rfl rfl (Ef.store0 2 tab_ok rfl rfl rfl rfl rfl rfl rfl rfl ?_) | refine WL.efN rfl rfl (Ef.store0 3 tab_ok rfl rfl rfl rfl rfl rfl rfl rfl ?_) | refine WL.efN rfl rfl (Ef.store0 4 tab_ok rfl rfl rfl rfl rfl rfl rfl rfl ?_) | refine WL.efN rfl rfl (Ef.store0 5 tab_ok rfl rfl rfl rfl rfl rfl rfl rfl ?_) | refine WL.efN rfl rfl (Ef.store0 6 tab_ok rfl rfl rfl rfl rfl rfl rfl rfl ?_) | refine WL.efN rfl rfl (Ef.store0 7 tab_ok rfl rfl rfl rfl rfl rfl rfl rfl ?_)
    refine WG.run tab_ok 1 rfl ?_
    refine WG.nil ?_
    refine WE.nxt ?_
    refine W.seq ?_
    refine W.seq ?_
    refine W.region _ ?_
    refine WG.run tab_ok 2 rfl ?_
    refine WG.nil ?_
    refine WE.nxt ?_
    refine W.condN rfl (fun hc1 => ?_) (fun hc1 => ?_)
    · try dsimp only at hc1
      obtain rfl : best = none := by
        cases best with
        | none => rfl
        | some y => exact absurd rfl hc1
      refine W.seq ?_
      refine W.region _ ?_
      refine WG.run tab_ok 3 rfl ?_
      refine WL.guardT rfl (by first | rfl | decide | simp) ?_
      refine WL.call en21 rfl rfl (by decide) (CallOp.mkT rfl rfl rfl rfl) (Awake17_C w0 _) ?_
      rintro _ R8 E9 hR8 ⟨rfl, hsub9⟩
      refine WL.subE hsub9 ?_
      refine WG.y rfl rfl (by decide) (Yl.pand rfl rfl rfl (fun _ => rfl) (by first | exact fun _ _ => rfl | ((try generalize ((nth ps n).flow == 0) = k0); (try generalize decide ((nth ps n).time + val < 300) = k1); (try generalize decide (nth s.done n < 0) = k2); (try generalize decide (nth s.done n - (nth ps n).time > val) = k3); (try revert k0); (try revert k1); (try revert k2); (try revert k3); decide) | (intro h1 h2; simp_all))) ?_
      refine WG.run tab_ok 1 rfl ?_
      refine WG.nil ?_
      refine WE.nxt ?_
      refine W.ret ?_
      refine WE.then_ret ?_
      refine WE.retF tab_ok [_] rfl ⟨rfl, trivial⟩ ((by first | exact RLe.refl _ | exact hR1.trans (hR3.trans (hRL0.trans (hRL1.trans (hR4a.trans (hR4b.trans (hR4.trans (hR56.trans (hR7.trans hR8)))))))) | exact hR1.trans (hR3.trans (hRL0.trans (hRL1.trans (hR4a.trans (hR4b.trans (hR4.trans (hR56.trans hR7))))))))) ?_
      first | exact rfl | exact congrArg Value.bool (by rw [hth0, hth1]; rfl)
    · try dsimp only at hc1
      obtain ⟨⟨th, inf, val, at'⟩, rfl⟩ : ∃ y, best = some y := by
        cases best with
        | none => exact absurd hc1 (by decide)
        | some y => exact ⟨y, rfl⟩
      obtain ⟨hth, hsay⟩ := hsays _ rfl
      dsimp only [outD] at hth hsay ⊢
      refine W.skip ?_
      refine WE.nxt ?_
      refine W.seq ?_
      refine W.seq ?_
      refine W.region _ ?_
      refine WG.run tab_ok 3 rfl ?_
      refine WG.y rfl rfl (by decide) (pureV_ok tab_ok rfl (by first | exact fun _ => rfl | exact fun h => h | ((try generalize ((nth ps n).flow == 0) = k0); (try generalize decide ((nth ps n).time + val < 300) = k1); (try generalize decide (nth s.done n < 0) = k2); (try generalize decide (nth s.done n - (nth ps n).time > val) = k3); (try revert k0); (try revert k1); (try revert k2); (try revert k3); decide) | (intro h; simp_all))) ?_
      refine WG.y rfl rfl (by decide) (pureV_ok tab_ok rfl (by first | exact fun _ => rfl | exact fun h => h | ((try generalize ((nth ps n).flow == 0) = k0); (try generalize decide ((nth ps n).time + val < 300) = k1); (try generalize decide (nth s.done n < 0) = k2); (try generalize decide (nth s.done n - (nth ps n).time > val) = k3); (try revert k0); (try revert k1); (try revert k2); (try revert k3); decide) | (intro h; simp_all))) ?_
      refine WG.y rfl rfl (by decide) (pureV_ok tab_ok rfl (by first | exact fun _ => rfl | exact fun h => h | ((try generalize ((nth ps n).flow == 0) = k0); (try generalize decide ((nth ps n).time + val < 300) = k1); (try generalize decide (nth s.done n < 0) = k2); (try generalize decide (nth s.done n - (nth ps n).time > val) = k3); (try revert k0); (try revert k1); (try revert k2); (try revert k3); decide) | (intro h; simp_all))) ?_
      refine WG.y rfl rfl (by decide) (Yl.por rfl rfl rfl (fun _ => rfl) (by first | exact fun _ _ => rfl | ((try generalize ((nth ps n).flow == 0) = k0); (try generalize decide ((nth ps n).time + val < 300) = k1); (try generalize decide (nth s.done n < 0) = k2); (try generalize decide (nth s.done n - (nth ps n).time > val) = k3); (try revert k0); (try revert k1); (try revert k2); (try revert k3); decide) | (intro h1 h2; simp_all))) ?_
      refine WG.run tab_ok 1 rfl ?_
      refine WG.y rfl rfl (by decide) (pureV_ok tab_ok rfl (by first | exact fun _ => rfl | exact fun h => h | ((try generalize ((nth ps n).flow == 0) = k0); (try generalize decide ((nth ps n).time + val < 300) = k1); (try generalize decide (nth s.done n < 0) = k2); (try generalize decide (nth s.done n - (nth ps n).time > val) = k3); (try revert k0); (try revert k1); (try revert k2); (try revert k3); decide) | (intro h; simp_all))) ?_
      refine' WG.y rfl rfl (by decide) (Yl.loadG tab_ok rfl rfl rfl (by first | exact fun _ => rfl | exact fun h => h | ((try generalize ((nth ps n).flow == 0) = k0); (try generalize decide ((nth ps n).time + val < 300) = k1); (try generalize decide (nth s.done n < 0) = k2); (try generalize decide (nth s.done n - (nth ps n).time > val) = k3); (try revert k0); (try revert k1); (try revert k2); (try revert k3); decide) | (intro h; simp_all)) ?r5 rfl ?h5 ?g5) ?_
      case r5 => apply Rd.addC; (first | exact fun _ => Rd.ro (by assumption) | exact Rd.blkC 0 rfl | exact Rd.blkC 1 rfl | exact Rd.blkC 2 rfl | exact Rd.blkC 3 rfl | exact Rd.blkC 4 rfl | exact Rd.blkC 5 rfl | exact Rd.blkC 6 rfl | exact Rd.blkC 7 rfl)
      case h5 => rfl
      case g5 => first | exact fun _ => trivial | (intro hg; (try simp only [decide_eq_true_eq, decide_eq_false_iff_not, beq_iff_eq, bne_iff_ne, beq_eq_false_iff_ne, bne_eq_false_iff_eq, ne_eq, Bool.or_eq_true, Bool.or_eq_false_iff, Bool.and_eq_true, Bool.and_eq_false_imp, Bool.not_eq_true, Bool.not_eq_true', Bool.not_eq_false', Classical.not_not, Int.not_lt, Int.not_le, gt_iff_lt, ge_iff_le] at hg); (try dsimp only); omega)
      refine WG.y rfl rfl (by decide) (Yl.por rfl rfl rfl (fun _ => rfl) (by first | exact fun _ _ => rfl | ((try generalize ((nth ps n).flow == 0) = k0); (try generalize decide ((nth ps n).time + val < 300) = k1); (try generalize decide (nth s.done n < 0) = k2); (try generalize decide (nth s.done n - (nth ps n).time > val) = k3); (try revert k0); (try revert k1); (try revert k2); (try revert k3); decide) | (intro h1 h2; simp_all))) ?_
      refine WG.nil ?_
      refine WE.nxt ?_
      refine W.cond rfl (fun hc2 => ?_) (fun hc2 => ?_)
      · try simp only [decide_eq_true_eq, decide_eq_false_iff_not, beq_iff_eq, bne_iff_ne, beq_eq_false_iff_ne, bne_eq_false_iff_eq, ne_eq, Bool.or_eq_true, Bool.or_eq_false_iff, Bool.and_eq_true, Bool.and_eq_false_imp, Bool.not_eq_true, Bool.not_eq_true', Bool.not_eq_false', Classical.not_not, Int.not_lt, Int.not_le, gt_iff_lt, ge_iff_le] at hc2
        have hth0 : decide ((th : Int) ≥ 0) = true := decide_eq_true (by omega)
        have hth1 : decide ((th : Int) ≤ (most : Int)) = true := decide_eq_true (by omega)
        refine W.seq ?_
        refine W.region _ ?_
        refine WG.run tab_ok 3 rfl ?_
        refine WL.guardT rfl (by first | rfl | (rw [hth0, hth1]; rfl)) ?_
        refine WG.y rfl rfl (by decide) (pureV_ok tab_ok rfl (fun _ => rfl)) ?_
        refine WL.guardT rfl (by first | rfl | (rw [hth0, hth1]; rfl)) ?_
        refine WG.y rfl rfl (by decide) (pureV_ok tab_ok rfl (fun _ => rfl)) ?_
        refine WL.guardT rfl (by first | rfl | (rw [hth0, hth1]; rfl)) ?_
        refine WG.y rfl rfl (by decide) (pureV_ok tab_ok rfl (fun _ => rfl)) ?_
        refine WG.y rfl rfl (by decide) (Yl.pand rfl rfl rfl (fun _ => rfl) (by first | exact fun _ _ => rfl | ((try generalize ((nth ps n).flow == 0) = k0); (try generalize decide ((nth ps n).time + val < 300) = k1); (try generalize decide (nth s.done n < 0) = k2); (try generalize decide (nth s.done n - (nth ps n).time > val) = k3); (try revert k0); (try revert k1); (try revert k2); (try revert k3); decide) | (intro h1 h2; simp_all))) ?_
        refine WG.run tab_ok 1 rfl ?_
        refine WL.guardT rfl (by first | rfl | (rw [hth0, hth1]; rfl)) ?_
        refine WL.call en21 rfl rfl (by decide) (CallOp.mkT rfl rfl rfl rfl) (Awake17_C w0 _) ?_
        rintro _ R8 E9 hR8 ⟨rfl, hsub9⟩
        refine WL.subE hsub9 ?_
        refine WG.y rfl rfl (by decide) (Yl.pand rfl rfl rfl (fun _ => rfl) (by first | exact fun _ _ => rfl | ((try generalize ((nth ps n).flow == 0) = k0); (try generalize decide ((nth ps n).time + val < 300) = k1); (try generalize decide (nth s.done n < 0) = k2); (try generalize decide (nth s.done n - (nth ps n).time > val) = k3); (try revert k0); (try revert k1); (try revert k2); (try revert k3); decide) | (intro h1 h2; simp_all))) ?_
        refine WG.run tab_ok 1 rfl ?_
        refine WG.nil ?_
        refine WE.nxt ?_
        refine W.ret ?_
        refine WE.then_ret ?_
        refine WE.retF tab_ok [_] rfl ⟨rfl, trivial⟩ ((by first | exact RLe.refl _ | exact hR1.trans (hR3.trans (hRL0.trans (hRL1.trans (hR4a.trans (hR4b.trans (hR4.trans (hR56.trans (hR7.trans hR8)))))))) | exact hR1.trans (hR3.trans (hRL0.trans (hRL1.trans (hR4a.trans (hR4b.trans (hR4.trans (hR56.trans hR7))))))))) ?_
        first | exact rfl | exact congrArg Value.bool (by rw [hth0, hth1]; rfl)
      · try simp only [decide_eq_true_eq, decide_eq_false_iff_not, beq_iff_eq, bne_iff_ne, beq_eq_false_iff_ne, bne_eq_false_iff_eq, ne_eq, Bool.or_eq_true, Bool.or_eq_false_iff, Bool.and_eq_true, Bool.and_eq_false_imp, Bool.not_eq_true, Bool.not_eq_true', Bool.not_eq_false', Classical.not_not, Int.not_lt, Int.not_le, gt_iff_lt, ge_iff_le] at hc2
        obtain rfl : inf = false := by
          cases inf with
          | false => rfl
          | true => simp at hc2
        obtain ⟨cx, hsx, hv0, hv1, hdel⟩ := hsay rfl
        obtain ⟨SX, PX, hcx, hfcx, hlo, hhi, _⟩ := share_curve (C := C) (th := th) (c := cx) (by omega) hfc1.valid' (fin_of17 hfc1) hsx
        have hs1z : ∀ p ∈ ps, 1 ≤ p.size := fun p hp => by have := hat p hp; omega
        have hsz : ∀ p ∈ ps, 0 ≤ p.size := fun p hp => by have := hat p hp; omega
        have hfw : ∀ p ∈ ps, 0 ≤ p.flow ∧ p.flow < ((2 : Nat) : Int) := fun p hp => by have := hat p hp; omega
        rw [show cvF (⟨fvals F1 (S1 + P1), (P1 : Int), I1⟩ : Cv) = F1 from cvF_fc hfc1] at hhi
        rw [show cvF (⟨fvals F0 (S0 + P0), (P0 : Int), I0⟩ : Cv) = F0 from cvF_fc hfc0] at hdel
        have hserve : ∀ t : Nat, t ≤ 300 → ∃ s' : Nat, s' ≤ t ∧ pbytes ((0 : Nat) : Int) (s' : Int) ps + cvF cx (t - s') ≤ nth (nth (mrun ps (fifo ps) C 2 300 ()).sent 0) t := fun t ht => by
          refine fifo_share (m := 300) (th := th) (G := F1) hs1z hfw hok.sorted (fun p hp => (hat p hp).2.2.1) (by decide) (by omega) (fun x y hxy => ?_) (fun x y hxy => ?_) (fun x y hxy => hfc1.mono hxy) hfc1.nonneg hlo hhi ht
          · have h1 := hkeep1 x y hxy
            rw [two_bytes _ ps hfw, two_bytes _ ps hfw] at h1
            exact h1
          · have h1 := two_bytes (x : Int) ps hfw
            have h2 := two_bytes (y : Int) ps hfw
            have h3 := pbytes_mono (flow := 1) (show (x : Int) ≤ (y : Int) by omega) ps hsz
            show pbytes (-1) (x : Int) ps - pbytes 0 (x : Int) ps ≤ pbytes (-1) (y : Int) ps - pbytes 0 (y : Int) ps
            omega
        have hdrg : ∀ d ∈ s.done, -1 ≤ d ∧ d < 300 := by rw [hs]; exact done_range _ _ _ _ 300 _
        refine W.skip ?_
        refine WE.nxt ?_
        refine W.seq ?_
        refine W.seq ?_
        refine W.region _ ?_
        refine WG.run tab_ok 3 rfl ?_
        refine WG.nil ?_
        refine WE.nxt ?_
        refine W.block ?_
        refine W.loopK (β := Nat) (fun n => n ≤ ps.length) (fun n => [(108, true, .int .i64 (n : Int))]) [4, 12, 16, 107] [_, _, _, _] [] _ rfl (fun n => []) (fun n => ps.length - n) (0) (Nat.zero_le _) ⟨rfl, rfl, rfl, rfl, rfl, rfl⟩ qS ?_
        intro n hst
        dsimp only [zipE, setAll, List.cons_append, List.nil_append, List.set_cons_zero, List.set_cons_succ] at hst ⊢
        
        refine W.seq ?_
        refine W.region _ ?_
        refine WG.run tab_ok 1 rfl ?_
        refine WG.nil ?_
        refine WE.nxt ?_
        refine W.seq ?_
        refine W.condD rfl (fun hc3 => ?_) (fun hc3 => ?_)
        · try dsimp only at hc3
          have hnl : n < ps.length := by omega
          have hdl := h3.done
          have hdn := hdrg _ (nth_mem (xs := s.done) (k := n) (by omega))
          have hqn := hat _ (nth_mem hnl)
          refine W.skip ?_
          refine WE.nxt ?_
          refine W.seq ?_
          refine W.block ?_
          refine W.seq ?_
          refine W.region _ ?_
          refine WG.run tab_ok 2 rfl ?_
          refine WG.nil ?_
          refine WE.nxt ?_
          refine W.seq ?_
          refine W.regionQ _ mixed (by kernel_rfl) ?_
          refine WG.run tab_ok 2 rfl ?_
          refine WG.y rfl rfl (by decide) (Yl.indexN tab_ok rfl rfl rfl rfl rfl rfl (fun _ => rfl) (by intro _; (try dsimp only) <;> omega) (by intro _; first | exact fun _ _ _ _ => rfl | exact RS.has (by assumption) | exact fun _ _ _ _ => (by assumption) | exact HasMem.ownD 0 rfl | exact HasMem.ownD 1 rfl | exact HasMem.ownD 2 rfl | exact HasMem.ownD 3 rfl | exact HasMem.ownD 4 rfl | exact HasMem.ownD 5 rfl | exact HasMem.ownD 6 rfl | exact HasMem.ownD 7 rfl)) ?_
          refine WG.run tab_ok 1 rfl ?_
          refine' WG.y rfl rfl (by decide) (Yl.load1 tab_ok rfl rfl rfl (fun _ => rfl) ?r6 rfl ?h6) ?_
          case r6 => apply Rd.add; (first | (apply RS.rdD; assumption; ((try dsimp only) <;> omega)) | exact Rd.slD 0 rfl (by (try dsimp only) <;> omega) | exact Rd.slD 1 rfl (by (try dsimp only) <;> omega) | exact Rd.slD 2 rfl (by (try dsimp only) <;> omega) | exact Rd.slD 3 rfl (by (try dsimp only) <;> omega) | exact Rd.slD 4 rfl (by (try dsimp only) <;> omega) | exact Rd.slD 5 rfl (by (try dsimp only) <;> omega) | exact Rd.slD 6 rfl (by (try dsimp only) <;> omega) | exact Rd.slD 7 rfl (by (try dsimp only) <;> omega))
          case h6 => rfl
          refine WG.run tab_ok 2 rfl ?_
          refine WG.y rfl rfl (by decide) (pureV_ok tab_ok rfl (by first | exact fun _ => rfl | exact fun h => h | ((try generalize ((nth ps n).flow == 0) = k0); (try generalize decide ((nth ps n).time + val < 300) = k1); (try generalize decide (nth s.done n < 0) = k2); (try generalize decide (nth s.done n - (nth ps n).time > val) = k3); (try revert k0); (try revert k1); (try revert k2); (try revert k3); decide) | (intro h; simp_all))) ?_
          refine WG.y rfl rfl (by decide) (pureV_ok tab_ok rfl (by first | exact fun _ => rfl | exact fun h => h | ((try generalize ((nth ps n).flow == 0) = k0); (try generalize decide ((nth ps n).time + val < 300) = k1); (try generalize decide (nth s.done n < 0) = k2); (try generalize decide (nth s.done n - (nth ps n).time > val) = k3); (try revert k0); (try revert k1); (try revert k2); (try revert k3); decide) | (intro h; simp_all))) ?_
          refine WG.y rfl rfl (by decide) (Yl.indexN tab_ok rfl rfl rfl rfl rfl rfl (by first | exact fun _ => rfl | exact fun h => h | ((try generalize ((nth ps n).flow == 0) = k0); (try generalize decide ((nth ps n).time + val < 300) = k1); (try generalize decide (nth s.done n < 0) = k2); (try generalize decide (nth s.done n - (nth ps n).time > val) = k3); (try revert k0); (try revert k1); (try revert k2); (try revert k3); decide) | (intro h; simp_all)) (by intro hg; (try simp only [decide_eq_true_eq, decide_eq_false_iff_not, beq_iff_eq, bne_iff_ne, beq_eq_false_iff_ne, bne_eq_false_iff_eq, ne_eq, Bool.or_eq_true, Bool.or_eq_false_iff, Bool.and_eq_true, Bool.and_eq_false_imp, Bool.not_eq_true, Bool.not_eq_true', Bool.not_eq_false', Classical.not_not, Int.not_lt, Int.not_le, gt_iff_lt, ge_iff_le] at hg); (try dsimp only) <;> omega) (by intro hg; (try simp only [decide_eq_true_eq, decide_eq_false_iff_not, beq_iff_eq, bne_iff_ne, beq_eq_false_iff_ne, bne_eq_false_iff_eq, ne_eq, Bool.or_eq_true, Bool.or_eq_false_iff, Bool.and_eq_true, Bool.and_eq_false_imp, Bool.not_eq_true, Bool.not_eq_true', Bool.not_eq_false', Classical.not_not, Int.not_lt, Int.not_le, gt_iff_lt, ge_iff_le] at hg); first | exact fun _ _ _ _ => rfl | exact RS.has (by assumption) | exact fun _ _ _ _ => (by assumption) | exact HasMem.ownD 0 rfl | exact HasMem.ownD 1 rfl | exact HasMem.ownD 2 rfl | exact HasMem.ownD 3 rfl | exact HasMem.ownD 4 rfl | exact HasMem.ownD 5 rfl | exact HasMem.ownD 6 rfl | exact HasMem.ownD 7 rfl)) ?_
          refine WG.y rfl rfl (by decide) (pureV_ok tab_ok rfl (by first | exact fun _ => rfl | exact fun h => h | ((try generalize ((nth ps n).flow == 0) = k0); (try generalize decide ((nth ps n).time + val < 300) = k1); (try generalize decide (nth s.done n < 0) = k2); (try generalize decide (nth s.done n - (nth ps n).time > val) = k3); (try revert k0); (try revert k1); (try revert k2); (try revert k3); decide) | (intro h; simp_all))) ?_
          refine' WG.y rfl rfl (by decide) (Yl.loadG tab_ok rfl rfl rfl (by first | exact fun _ => rfl | exact fun h => h | ((try generalize ((nth ps n).flow == 0) = k0); (try generalize decide ((nth ps n).time + val < 300) = k1); (try generalize decide (nth s.done n < 0) = k2); (try generalize decide (nth s.done n - (nth ps n).time > val) = k3); (try revert k0); (try revert k1); (try revert k2); (try revert k3); decide) | (intro h; simp_all)) ?r7 rfl ?h7 ?g7) ?_
          case r7 => apply Rd.addC; (first | (apply RS.rdC; assumption) | exact Rd.slC 0 rfl | exact Rd.slC 1 rfl | exact Rd.slC 2 rfl | exact Rd.slC 3 rfl | exact Rd.slC 4 rfl | exact Rd.slC 5 rfl | exact Rd.slC 6 rfl | exact Rd.slC 7 rfl)
          case h7 => rfl
          case g7 => first | exact fun _ => trivial | (intro hg; (try simp only [decide_eq_true_eq, decide_eq_false_iff_not, beq_iff_eq, bne_iff_ne, beq_eq_false_iff_ne, bne_eq_false_iff_eq, ne_eq, Bool.or_eq_true, Bool.or_eq_false_iff, Bool.and_eq_true, Bool.and_eq_false_imp, Bool.not_eq_true, Bool.not_eq_true', Bool.not_eq_false', Classical.not_not, Int.not_lt, Int.not_le, gt_iff_lt, ge_iff_le] at hg); (try dsimp only); omega)
          refine WG.y rfl rfl (by decide) (pureV_ok tab_ok rfl (by first | exact fun _ => rfl | exact fun h => h | ((try generalize ((nth ps n).flow == 0) = k0); (try generalize decide ((nth ps n).time + val < 300) = k1); (try generalize decide (nth s.done n < 0) = k2); (try generalize decide (nth s.done n - (nth ps n).time > val) = k3); (try revert k0); (try revert k1); (try revert k2); (try revert k3); decide) | (intro h; simp_all))) ?_
          refine' WG.y rfl rfl (by decide) (Yl.loadG tab_ok rfl rfl rfl (by first | exact fun _ => rfl | exact fun h => h | ((try generalize ((nth ps n).flow == 0) = k0); (try generalize decide ((nth ps n).time + val < 300) = k1); (try generalize decide (nth s.done n < 0) = k2); (try generalize decide (nth s.done n - (nth ps n).time > val) = k3); (try revert k0); (try revert k1); (try revert k2); (try revert k3); decide) | (intro h; simp_all)) ?r8 rfl ?h8 ?g8) ?_
          case r8 => apply Rd.addC; (first | exact fun _ => Rd.ro (by assumption) | exact Rd.blkC 0 rfl | exact Rd.blkC 1 rfl | exact Rd.blkC 2 rfl | exact Rd.blkC 3 rfl | exact Rd.blkC 4 rfl | exact Rd.blkC 5 rfl | exact Rd.blkC 6 rfl | exact Rd.blkC 7 rfl)
          case h8 => rfl
          case g8 => first | exact fun _ => trivial | (intro hg; (try simp only [decide_eq_true_eq, decide_eq_false_iff_not, beq_iff_eq, bne_iff_ne, beq_eq_false_iff_ne, bne_eq_false_iff_eq, ne_eq, Bool.or_eq_true, Bool.or_eq_false_iff, Bool.and_eq_true, Bool.and_eq_false_imp, Bool.not_eq_true, Bool.not_eq_true', Bool.not_eq_false', Classical.not_not, Int.not_lt, Int.not_le, gt_iff_lt, ge_iff_le] at hg); (try dsimp only); omega)
          refine WG.y rfl rfl (by decide) (Yl.add rfl rfl rfl (by first | exact fun _ => rfl | exact fun h => h | ((try generalize ((nth ps n).flow == 0) = k0); (try generalize decide ((nth ps n).time + val < 300) = k1); (try generalize decide (nth s.done n < 0) = k2); (try generalize decide (nth s.done n - (nth ps n).time > val) = k3); (try revert k0); (try revert k1); (try revert k2); (try revert k3); decide) | (intro h; simp_all)) (by intro hg; (try simp only [decide_eq_true_eq, decide_eq_false_iff_not, beq_iff_eq, bne_iff_ne, beq_eq_false_iff_ne, bne_eq_false_iff_eq, ne_eq, Bool.or_eq_true, Bool.or_eq_false_iff, Bool.and_eq_true, Bool.and_eq_false_imp, Bool.not_eq_true, Bool.not_eq_true', Bool.not_eq_false', Classical.not_not, Int.not_lt, Int.not_le, gt_iff_lt, ge_iff_le] at hg); constructor <;> (try dsimp only) <;> omega)) ?_
          refine WG.y rfl rfl (by decide) (pureV_ok tab_ok rfl (by first | exact fun _ => rfl | exact fun h => h | ((try generalize ((nth ps n).flow == 0) = k0); (try generalize decide ((nth ps n).time + val < 300) = k1); (try generalize decide (nth s.done n < 0) = k2); (try generalize decide (nth s.done n - (nth ps n).time > val) = k3); (try revert k0); (try revert k1); (try revert k2); (try revert k3); decide) | (intro h; simp_all))) ?_
          refine WG.y rfl rfl (by decide) (Yl.pand rfl rfl rfl (fun _ => rfl) (by first | exact fun _ _ => rfl | ((try generalize ((nth ps n).flow == 0) = k0); (try generalize decide ((nth ps n).time + val < 300) = k1); (try generalize decide (nth s.done n < 0) = k2); (try generalize decide (nth s.done n - (nth ps n).time > val) = k3); (try revert k0); (try revert k1); (try revert k2); (try revert k3); decide) | (intro h1 h2; simp_all))) ?_
          refine WG.run tab_ok 1 rfl ?_
          refine WG.y rfl rfl (by decide) (pureV_ok tab_ok rfl (by first | exact fun _ => rfl | exact fun h => h | ((try generalize ((nth ps n).flow == 0) = k0); (try generalize decide ((nth ps n).time + val < 300) = k1); (try generalize decide (nth s.done n < 0) = k2); (try generalize decide (nth s.done n - (nth ps n).time > val) = k3); (try revert k0); (try revert k1); (try revert k2); (try revert k3); decide) | (intro h; simp_all))) ?_
          refine' WG.y rfl rfl (by decide) (Yl.loadG tab_ok rfl rfl rfl (by first | exact fun _ => rfl | exact fun h => h | ((try generalize ((nth ps n).flow == 0) = k0); (try generalize decide ((nth ps n).time + val < 300) = k1); (try generalize decide (nth s.done n < 0) = k2); (try generalize decide (nth s.done n - (nth ps n).time > val) = k3); (try revert k0); (try revert k1); (try revert k2); (try revert k3); decide) | (intro h; simp_all)) ?r9 rfl ?h9 ?g9) ?_
          case r9 => apply Rd.addC; (first | exact fun _ => Rd.ro (by assumption) | exact Rd.blkC 0 rfl | exact Rd.blkC 1 rfl | exact Rd.blkC 2 rfl | exact Rd.blkC 3 rfl | exact Rd.blkC 4 rfl | exact Rd.blkC 5 rfl | exact Rd.blkC 6 rfl | exact Rd.blkC 7 rfl)
          case h9 => rfl
          case g9 => first | exact fun _ => trivial | (intro hg; (try simp only [decide_eq_true_eq, decide_eq_false_iff_not, beq_iff_eq, bne_iff_ne, beq_eq_false_iff_ne, bne_eq_false_iff_eq, ne_eq, Bool.or_eq_true, Bool.or_eq_false_iff, Bool.and_eq_true, Bool.and_eq_false_imp, Bool.not_eq_true, Bool.not_eq_true', Bool.not_eq_false', Classical.not_not, Int.not_lt, Int.not_le, gt_iff_lt, ge_iff_le] at hg); (try dsimp only); omega)
          refine WG.y rfl rfl (by decide) (pureV_ok tab_ok rfl (by first | exact fun _ => rfl | exact fun h => h | ((try generalize ((nth ps n).flow == 0) = k0); (try generalize decide ((nth ps n).time + val < 300) = k1); (try generalize decide (nth s.done n < 0) = k2); (try generalize decide (nth s.done n - (nth ps n).time > val) = k3); (try revert k0); (try revert k1); (try revert k2); (try revert k3); decide) | (intro h; simp_all))) ?_
          refine WG.y rfl rfl (by decide) (Yl.indexN tab_ok rfl rfl rfl rfl rfl rfl (by first | exact fun _ => rfl | exact fun h => h | ((try generalize ((nth ps n).flow == 0) = k0); (try generalize decide ((nth ps n).time + val < 300) = k1); (try generalize decide (nth s.done n < 0) = k2); (try generalize decide (nth s.done n - (nth ps n).time > val) = k3); (try revert k0); (try revert k1); (try revert k2); (try revert k3); decide) | (intro h; simp_all)) (by intro hg; (try simp only [decide_eq_true_eq, decide_eq_false_iff_not, beq_iff_eq, bne_iff_ne, beq_eq_false_iff_ne, bne_eq_false_iff_eq, ne_eq, Bool.or_eq_true, Bool.or_eq_false_iff, Bool.and_eq_true, Bool.and_eq_false_imp, Bool.not_eq_true, Bool.not_eq_true', Bool.not_eq_false', Classical.not_not, Int.not_lt, Int.not_le, gt_iff_lt, ge_iff_le] at hg); (try dsimp only) <;> omega) (by intro hg; (try simp only [decide_eq_true_eq, decide_eq_false_iff_not, beq_iff_eq, bne_iff_ne, beq_eq_false_iff_ne, bne_eq_false_iff_eq, ne_eq, Bool.or_eq_true, Bool.or_eq_false_iff, Bool.and_eq_true, Bool.and_eq_false_imp, Bool.not_eq_true, Bool.not_eq_true', Bool.not_eq_false', Classical.not_not, Int.not_lt, Int.not_le, gt_iff_lt, ge_iff_le] at hg); first | exact fun _ _ _ _ => rfl | exact RS.has (by assumption) | exact fun _ _ _ _ => (by assumption) | exact HasMem.ownD 0 rfl | exact HasMem.ownD 1 rfl | exact HasMem.ownD 2 rfl | exact HasMem.ownD 3 rfl | exact HasMem.ownD 4 rfl | exact HasMem.ownD 5 rfl | exact HasMem.ownD 6 rfl | exact HasMem.ownD 7 rfl)) ?_
          refine' WG.y rfl rfl (by decide) (Yl.loadG tab_ok rfl rfl rfl (by first | exact fun _ => rfl | exact fun h => h | ((try generalize ((nth ps n).flow == 0) = k0); (try generalize decide ((nth ps n).time + val < 300) = k1); (try generalize decide (nth s.done n < 0) = k2); (try generalize decide (nth s.done n - (nth ps n).time > val) = k3); (try revert k0); (try revert k1); (try revert k2); (try revert k3); decide) | (intro h; simp_all)) ?r10 rfl ?h10 ?g10) ?_
          case r10 => (first | (apply RS.rdC; assumption) | exact Rd.slC 0 rfl | exact Rd.slC 1 rfl | exact Rd.slC 2 rfl | exact Rd.slC 3 rfl | exact Rd.slC 4 rfl | exact Rd.slC 5 rfl | exact Rd.slC 6 rfl | exact Rd.slC 7 rfl)
          case h10 => rfl
          case g10 => first | exact fun _ => trivial | (intro hg; (try simp only [decide_eq_true_eq, decide_eq_false_iff_not, beq_iff_eq, bne_iff_ne, beq_eq_false_iff_ne, bne_eq_false_iff_eq, ne_eq, Bool.or_eq_true, Bool.or_eq_false_iff, Bool.and_eq_true, Bool.and_eq_false_imp, Bool.not_eq_true, Bool.not_eq_true', Bool.not_eq_false', Classical.not_not, Int.not_lt, Int.not_le, gt_iff_lt, ge_iff_le] at hg); (try dsimp only); omega)
          refine WG.y rfl rfl (by decide) (pureV_ok tab_ok rfl (by first | exact fun _ => rfl | exact fun h => h | ((try generalize ((nth ps n).flow == 0) = k0); (try generalize decide ((nth ps n).time + val < 300) = k1); (try generalize decide (nth s.done n < 0) = k2); (try generalize decide (nth s.done n - (nth ps n).time > val) = k3); (try revert k0); (try revert k1); (try revert k2); (try revert k3); decide) | (intro h; simp_all))) ?_
          refine WG.y rfl rfl (by decide) (pureV_ok tab_ok rfl (by first | exact fun _ => rfl | exact fun h => h | ((try generalize ((nth ps n).flow == 0) = k0); (try generalize decide ((nth ps n).time + val < 300) = k1); (try generalize decide (nth s.done n < 0) = k2); (try generalize decide (nth s.done n - (nth ps n).time > val) = k3); (try revert k0); (try revert k1); (try revert k2); (try revert k3); decide) | (intro h; simp_all))) ?_
          refine WG.y rfl rfl (by decide) (pureV_ok tab_ok rfl (by first | exact fun _ => rfl | exact fun h => h | ((try generalize ((nth ps n).flow == 0) = k0); (try generalize decide ((nth ps n).time + val < 300) = k1); (try generalize decide (nth s.done n < 0) = k2); (try generalize decide (nth s.done n - (nth ps n).time > val) = k3); (try revert k0); (try revert k1); (try revert k2); (try revert k3); decide) | (intro h; simp_all))) ?_
          refine' WG.y rfl rfl (by decide) (Yl.loadG tab_ok rfl rfl rfl (by first | exact fun _ => rfl | exact fun h => h | ((try generalize ((nth ps n).flow == 0) = k0); (try generalize decide ((nth ps n).time + val < 300) = k1); (try generalize decide (nth s.done n < 0) = k2); (try generalize decide (nth s.done n - (nth ps n).time > val) = k3); (try revert k0); (try revert k1); (try revert k2); (try revert k3); decide) | (intro h; simp_all)) ?r11 rfl ?h11 ?g11) ?_
          case r11 => apply Rd.addC; (first | exact fun _ => Rd.ro (by assumption) | exact Rd.blkC 0 rfl | exact Rd.blkC 1 rfl | exact Rd.blkC 2 rfl | exact Rd.blkC 3 rfl | exact Rd.blkC 4 rfl | exact Rd.blkC 5 rfl | exact Rd.blkC 6 rfl | exact Rd.blkC 7 rfl)
          case h11 => rfl
          case g11 => first | exact fun _ => trivial | (intro hg; (try simp only [decide_eq_true_eq, decide_eq_false_iff_not, beq_iff_eq, bne_iff_ne, beq_eq_false_iff_ne, bne_eq_false_iff_eq, ne_eq, Bool.or_eq_true, Bool.or_eq_false_iff, Bool.and_eq_true, Bool.and_eq_false_imp, Bool.not_eq_true, Bool.not_eq_true', Bool.not_eq_false', Classical.not_not, Int.not_lt, Int.not_le, gt_iff_lt, ge_iff_le] at hg); (try dsimp only); omega)
          refine WG.y rfl rfl (by decide) (pureV_ok tab_ok rfl (by first | exact fun _ => rfl | exact fun h => h | ((try generalize ((nth ps n).flow == 0) = k0); (try generalize decide ((nth ps n).time + val < 300) = k1); (try generalize decide (nth s.done n < 0) = k2); (try generalize decide (nth s.done n - (nth ps n).time > val) = k3); (try revert k0); (try revert k1); (try revert k2); (try revert k3); decide) | (intro h; simp_all))) ?_
          refine WG.y rfl rfl (by decide) (Yl.indexN tab_ok rfl rfl rfl rfl rfl rfl (by first | exact fun _ => rfl | exact fun h => h | ((try generalize ((nth ps n).flow == 0) = k0); (try generalize decide ((nth ps n).time + val < 300) = k1); (try generalize decide (nth s.done n < 0) = k2); (try generalize decide (nth s.done n - (nth ps n).time > val) = k3); (try revert k0); (try revert k1); (try revert k2); (try revert k3); decide) | (intro h; simp_all)) (by intro hg; (try simp only [decide_eq_true_eq, decide_eq_false_iff_not, beq_iff_eq, bne_iff_ne, beq_eq_false_iff_ne, bne_eq_false_iff_eq, ne_eq, Bool.or_eq_true, Bool.or_eq_false_iff, Bool.and_eq_true, Bool.and_eq_false_imp, Bool.not_eq_true, Bool.not_eq_true', Bool.not_eq_false', Classical.not_not, Int.not_lt, Int.not_le, gt_iff_lt, ge_iff_le] at hg); (try dsimp only) <;> omega) (by intro hg; (try simp only [decide_eq_true_eq, decide_eq_false_iff_not, beq_iff_eq, bne_iff_ne, beq_eq_false_iff_ne, bne_eq_false_iff_eq, ne_eq, Bool.or_eq_true, Bool.or_eq_false_iff, Bool.and_eq_true, Bool.and_eq_false_imp, Bool.not_eq_true, Bool.not_eq_true', Bool.not_eq_false', Classical.not_not, Int.not_lt, Int.not_le, gt_iff_lt, ge_iff_le] at hg); first | exact fun _ _ _ _ => rfl | exact RS.has (by assumption) | exact fun _ _ _ _ => (by assumption) | exact HasMem.ownD 0 rfl | exact HasMem.ownD 1 rfl | exact HasMem.ownD 2 rfl | exact HasMem.ownD 3 rfl | exact HasMem.ownD 4 rfl | exact HasMem.ownD 5 rfl | exact HasMem.ownD 6 rfl | exact HasMem.ownD 7 rfl)) ?_
          refine' WG.y rfl rfl (by decide) (Yl.loadG tab_ok rfl rfl rfl (by first | exact fun _ => rfl | exact fun h => h | ((try generalize ((nth ps n).flow == 0) = k0); (try generalize decide ((nth ps n).time + val < 300) = k1); (try generalize decide (nth s.done n < 0) = k2); (try generalize decide (nth s.done n - (nth ps n).time > val) = k3); (try revert k0); (try revert k1); (try revert k2); (try revert k3); decide) | (intro h; simp_all)) ?r12 rfl ?h12 ?g12) ?_
          case r12 => (first | (apply RS.rdC; assumption) | exact Rd.slC 0 rfl | exact Rd.slC 1 rfl | exact Rd.slC 2 rfl | exact Rd.slC 3 rfl | exact Rd.slC 4 rfl | exact Rd.slC 5 rfl | exact Rd.slC 6 rfl | exact Rd.slC 7 rfl)
          case h12 => rfl
          case g12 => first | exact fun _ => trivial | (intro hg; (try simp only [decide_eq_true_eq, decide_eq_false_iff_not, beq_iff_eq, bne_iff_ne, beq_eq_false_iff_ne, bne_eq_false_iff_eq, ne_eq, Bool.or_eq_true, Bool.or_eq_false_iff, Bool.and_eq_true, Bool.and_eq_false_imp, Bool.not_eq_true, Bool.not_eq_true', Bool.not_eq_false', Classical.not_not, Int.not_lt, Int.not_le, gt_iff_lt, ge_iff_le] at hg); (try dsimp only); omega)
          refine WG.y rfl rfl (by decide) (pureV_ok tab_ok rfl (by first | exact fun _ => rfl | exact fun h => h | ((try generalize ((nth ps n).flow == 0) = k0); (try generalize decide ((nth ps n).time + val < 300) = k1); (try generalize decide (nth s.done n < 0) = k2); (try generalize decide (nth s.done n - (nth ps n).time > val) = k3); (try revert k0); (try revert k1); (try revert k2); (try revert k3); decide) | (intro h; simp_all))) ?_
          refine WG.y rfl rfl (by decide) (pureV_ok tab_ok rfl (by first | exact fun _ => rfl | exact fun h => h | ((try generalize ((nth ps n).flow == 0) = k0); (try generalize decide ((nth ps n).time + val < 300) = k1); (try generalize decide (nth s.done n < 0) = k2); (try generalize decide (nth s.done n - (nth ps n).time > val) = k3); (try revert k0); (try revert k1); (try revert k2); (try revert k3); decide) | (intro h; simp_all))) ?_
          refine WG.y rfl rfl (by decide) (Yl.indexN tab_ok rfl rfl rfl rfl rfl rfl (by first | exact fun _ => rfl | exact fun h => h | ((try generalize ((nth ps n).flow == 0) = k0); (try generalize decide ((nth ps n).time + val < 300) = k1); (try generalize decide (nth s.done n < 0) = k2); (try generalize decide (nth s.done n - (nth ps n).time > val) = k3); (try revert k0); (try revert k1); (try revert k2); (try revert k3); decide) | (intro h; simp_all)) (by intro hg; (try simp only [decide_eq_true_eq, decide_eq_false_iff_not, beq_iff_eq, bne_iff_ne, beq_eq_false_iff_ne, bne_eq_false_iff_eq, ne_eq, Bool.or_eq_true, Bool.or_eq_false_iff, Bool.and_eq_true, Bool.and_eq_false_imp, Bool.not_eq_true, Bool.not_eq_true', Bool.not_eq_false', Classical.not_not, Int.not_lt, Int.not_le, gt_iff_lt, ge_iff_le] at hg); (try dsimp only) <;> omega) (by intro hg; (try simp only [decide_eq_true_eq, decide_eq_false_iff_not, beq_iff_eq, bne_iff_ne, beq_eq_false_iff_ne, bne_eq_false_iff_eq, ne_eq, Bool.or_eq_true, Bool.or_eq_false_iff, Bool.and_eq_true, Bool.and_eq_false_imp, Bool.not_eq_true, Bool.not_eq_true', Bool.not_eq_false', Classical.not_not, Int.not_lt, Int.not_le, gt_iff_lt, ge_iff_le] at hg); first | exact fun _ _ _ _ => rfl | exact RS.has (by assumption) | exact fun _ _ _ _ => (by assumption) | exact HasMem.ownD 0 rfl | exact HasMem.ownD 1 rfl | exact HasMem.ownD 2 rfl | exact HasMem.ownD 3 rfl | exact HasMem.ownD 4 rfl | exact HasMem.ownD 5 rfl | exact HasMem.ownD 6 rfl | exact HasMem.ownD 7 rfl)) ?_
          refine WG.y rfl rfl (by decide) (pureV_ok tab_ok rfl (by first | exact fun _ => rfl | exact fun h => h | ((try generalize ((nth ps n).flow == 0) = k0); (try generalize decide ((nth ps n).time + val < 300) = k1); (try generalize decide (nth s.done n < 0) = k2); (try generalize decide (nth s.done n - (nth ps n).time > val) = k3); (try revert k0); (try revert k1); (try revert k2); (try revert k3); decide) | (intro h; simp_all))) ?_
          refine' WG.y rfl rfl (by decide) (Yl.loadG tab_ok rfl rfl rfl (by first | exact fun _ => rfl | exact fun h => h | ((try generalize ((nth ps n).flow == 0) = k0); (try generalize decide ((nth ps n).time + val < 300) = k1); (try generalize decide (nth s.done n < 0) = k2); (try generalize decide (nth s.done n - (nth ps n).time > val) = k3); (try revert k0); (try revert k1); (try revert k2); (try revert k3); decide) | (intro h; simp_all)) ?r13 rfl ?h13 ?g13) ?_
          case r13 => apply Rd.addC; (first | (apply RS.rdC; assumption) | exact Rd.slC 0 rfl | exact Rd.slC 1 rfl | exact Rd.slC 2 rfl | exact Rd.slC 3 rfl | exact Rd.slC 4 rfl | exact Rd.slC 5 rfl | exact Rd.slC 6 rfl | exact Rd.slC 7 rfl)
          case h13 => rfl
          case g13 => first | exact fun _ => trivial | (intro hg; (try simp only [decide_eq_true_eq, decide_eq_false_iff_not, beq_iff_eq, bne_iff_ne, beq_eq_false_iff_ne, bne_eq_false_iff_eq, ne_eq, Bool.or_eq_true, Bool.or_eq_false_iff, Bool.and_eq_true, Bool.and_eq_false_imp, Bool.not_eq_true, Bool.not_eq_true', Bool.not_eq_false', Classical.not_not, Int.not_lt, Int.not_le, gt_iff_lt, ge_iff_le] at hg); (try dsimp only); omega)
          refine WG.y rfl rfl (by decide) (Yl.sub rfl rfl rfl (by first | exact fun _ => rfl | exact fun h => h | ((try generalize ((nth ps n).flow == 0) = k0); (try generalize decide ((nth ps n).time + val < 300) = k1); (try generalize decide (nth s.done n < 0) = k2); (try generalize decide (nth s.done n - (nth ps n).time > val) = k3); (try revert k0); (try revert k1); (try revert k2); (try revert k3); decide) | (intro h; simp_all)) (by intro hg; (try simp only [decide_eq_true_eq, decide_eq_false_iff_not, beq_iff_eq, bne_iff_ne, beq_eq_false_iff_ne, bne_eq_false_iff_eq, ne_eq, Bool.or_eq_true, Bool.or_eq_false_iff, Bool.and_eq_true, Bool.and_eq_false_imp, Bool.not_eq_true, Bool.not_eq_true', Bool.not_eq_false', Classical.not_not, Int.not_lt, Int.not_le, gt_iff_lt, ge_iff_le] at hg); constructor <;> (try dsimp only) <;> omega)) ?_
          refine WG.y rfl rfl (by decide) (pureV_ok tab_ok rfl (by first | exact fun _ => rfl | exact fun h => h | ((try generalize ((nth ps n).flow == 0) = k0); (try generalize decide ((nth ps n).time + val < 300) = k1); (try generalize decide (nth s.done n < 0) = k2); (try generalize decide (nth s.done n - (nth ps n).time > val) = k3); (try revert k0); (try revert k1); (try revert k2); (try revert k3); decide) | (intro h; simp_all))) ?_
          refine' WG.y rfl rfl (by decide) (Yl.loadG tab_ok rfl rfl rfl (by first | exact fun _ => rfl | exact fun h => h | ((try generalize ((nth ps n).flow == 0) = k0); (try generalize decide ((nth ps n).time + val < 300) = k1); (try generalize decide (nth s.done n < 0) = k2); (try generalize decide (nth s.done n - (nth ps n).time > val) = k3); (try revert k0); (try revert k1); (try revert k2); (try revert k3); decide) | (intro h; simp_all)) ?r14 rfl ?h14 ?g14) ?_
          case r14 => apply Rd.addC; (first | exact fun _ => Rd.ro (by assumption) | exact Rd.blkC 0 rfl | exact Rd.blkC 1 rfl | exact Rd.blkC 2 rfl | exact Rd.blkC 3 rfl | exact Rd.blkC 4 rfl | exact Rd.blkC 5 rfl | exact Rd.blkC 6 rfl | exact Rd.blkC 7 rfl)
          case h14 => rfl
          case g14 => first | exact fun _ => trivial | (intro hg; (try simp only [decide_eq_true_eq, decide_eq_false_iff_not, beq_iff_eq, bne_iff_ne, beq_eq_false_iff_ne, bne_eq_false_iff_eq, ne_eq, Bool.or_eq_true, Bool.or_eq_false_iff, Bool.and_eq_true, Bool.and_eq_false_imp, Bool.not_eq_true, Bool.not_eq_true', Bool.not_eq_false', Classical.not_not, Int.not_lt, Int.not_le, gt_iff_lt, ge_iff_le] at hg); (try dsimp only); omega)
          refine WG.y rfl rfl (by decide) (pureV_ok tab_ok rfl (by first | exact fun _ => rfl | exact fun h => h | ((try generalize ((nth ps n).flow == 0) = k0); (try generalize decide ((nth ps n).time + val < 300) = k1); (try generalize decide (nth s.done n < 0) = k2); (try generalize decide (nth s.done n - (nth ps n).time > val) = k3); (try revert k0); (try revert k1); (try revert k2); (try revert k3); decide) | (intro h; simp_all))) ?_
          refine WG.y rfl rfl (by decide) (Yl.por rfl rfl rfl (by first | exact fun _ => rfl | exact fun h => h | ((try generalize ((nth ps n).flow == 0) = k0); (try generalize decide ((nth ps n).time + val < 300) = k1); (try generalize decide (nth s.done n < 0) = k2); (try generalize decide (nth s.done n - (nth ps n).time > val) = k3); (try revert k0); (try revert k1); (try revert k2); (try revert k3); decide) | (intro h; simp_all)) (by first | exact fun _ _ => rfl | ((try generalize ((nth ps n).flow == 0) = k0); (try generalize decide ((nth ps n).time + val < 300) = k1); (try generalize decide (nth s.done n < 0) = k2); (try generalize decide (nth s.done n - (nth ps n).time > val) = k3); (try revert k0); (try revert k1); (try revert k2); (try revert k3); decide) | (intro h1 h2; simp_all))) ?_
          refine WG.y rfl rfl (by decide) (Yl.pand rfl rfl rfl (fun _ => rfl) (by first | exact fun _ _ => rfl | ((try generalize ((nth ps n).flow == 0) = k0); (try generalize decide ((nth ps n).time + val < 300) = k1); (try generalize decide (nth s.done n < 0) = k2); (try generalize decide (nth s.done n - (nth ps n).time > val) = k3); (try revert k0); (try revert k1); (try revert k2); (try revert k3); decide) | (intro h1 h2; simp_all))) ?_
          refine WG.nil ?_
          refine WE.nxt ?_
          refine W.cond rfl (fun hc4 => ?_) (fun hc4 => ?_)
          · try simp only [decide_eq_true_eq, decide_eq_false_iff_not, beq_iff_eq, bne_iff_ne, beq_eq_false_iff_ne, bne_eq_false_iff_eq, ne_eq, Bool.or_eq_true, Bool.or_eq_false_iff, Bool.and_eq_true, Bool.and_eq_false_imp, Bool.not_eq_true, Bool.not_eq_true', Bool.not_eq_false', Classical.not_not, Int.not_lt, Int.not_le, gt_iff_lt, ge_iff_le] at hc4
            obtain ⟨⟨q1, q2⟩, q3⟩ := hc4
            obtain ⟨T, hT⟩ := Int.eq_ofNat_of_zero_le hqn.2.2.1
            have hw := fifo_wait (ps := ps) (C := C) (classes := 2) (k := 0) (m := 300) (n := n) (T := T) (d := val.toNat) (F := F0) (H := cvF cx) hs1z hfw hok.sorted (by decide) (by omega) hserve hfcx.nonneg hkeep0 hdel hnl q1 hT (by omega)
            rw [← hs] at hw
            omega
          · try simp only [decide_eq_true_eq, decide_eq_false_iff_not, beq_iff_eq, bne_iff_ne, beq_eq_false_iff_ne, bne_eq_false_iff_eq, ne_eq, Bool.or_eq_true, Bool.or_eq_false_iff, Bool.and_eq_true, Bool.and_eq_false_imp, Bool.not_eq_true, Bool.not_eq_true', Bool.not_eq_false', Classical.not_not, Int.not_lt, Int.not_le, gt_iff_lt, ge_iff_le] at hc4
            refine W.skip ?_
            refine WE.blk _ ?_
            refine WE.nxt ?_
            refine W.region _ ?_
            refine WG.y rfl rfl (by decide) (Yl.add rfl rfl rfl (fun _ => rfl) (by intro _; constructor <;> (try dsimp only) <;> omega)) ?_
            refine WG.run tab_ok 1 rfl ?_
            refine WG.nil ?_
            refine WE.again (n + 1) (by omega) (by (try dsimp only); omega) ⟨rfl, rfl, rfl, rfl, rfl, rfl⟩ (RLe.refl _) qS
        · try dsimp only at hc3
          refine W.exit ?_
          refine WE.then_exit ?_
          refine WE.then_exit ?_
          refine WE.blk_exit ?_
          refine WE.nxt ?_
          refine W.seq ?_
          refine W.region _ ?_
          refine WL.call en21 rfl rfl (by decide) (CallOp.mkT rfl rfl rfl rfl) (Awake17_C w0 _) ?_
          rintro _ R8 E9 hR8 ⟨rfl, hsub9⟩
          refine WL.subE hsub9 ?_
          refine WG.run tab_ok 1 rfl ?_
          refine WG.nil ?_
          refine WE.nxt ?_
          refine W.ret ?_
          refine WE.retF tab_ok [_] rfl ⟨rfl, trivial⟩ ((by first | exact RLe.refl _ | exact hR1.trans (hR3.trans (hRL0.trans (hRL1.trans (hR4a.trans (hR4b.trans (hR4.trans (hR56.trans (hR7.trans hR8)))))))) | exact hR1.trans (hR3.trans (hRL0.trans (hRL1.trans (hR4a.trans (hR4b.trans (hR4.trans (hR56.trans hR7))))))))) ?_
          first | exact rfl | exact congrArg Value.bool (by rw [hth0, hth1]; rfl)

end Go.Proofs.Ytolmmfphdieilaa

/- ShareBounds: for every list of numbers the law returns true, and the list reads afterwards as it read before. No condition. -/
namespace Go.Proofs.Ytolmmfphdieilaa
open Go Go.RowKit Go.ChangeShapes Go.WideShapes Go.ChangeAt Go.WideElems Go.Maps Go.Proofs.Ytolmmfphdieilaa.K
namespace shareBounds
theorem law : LawI Try.prog 9 := fun ha hc w0 => ShareBounds_F ha hc w0
theorem own : ownKnob Try.prog.godebug = none := by kernel_rfl
theorem laidOut : laidOutB Try.prog = true := by kernel_rfl
theorem cellsI : Try.prog.cellsOf 3 = 1 := by kernel_rfl
set_option maxRecDepth 100000 in
theorem lifted (os : Os) (started : os.Started) (H : Type) (enc : TypeId × Value → H) :
    ReturnsInHanded {} Try.checked os 9 .any (Rows.shareBoundsSpec.pre6 enc Try.prog Try.f9 Rows.shareBoundsRow.domain false) (Rows.shareBoundsSpec.post enc Try.prog Try.f9 false true false false) := by
  refine returnsInHanded_of_change (C := Try.checked) own started (by kernel_rfl) Try.func9
    (ChangeSpec.witness6 (enc := enc) (C := Try.checked) false ⟨#[], #[.slice none 0 0], []⟩ 8 (by kernel_rfl) (by kernel_rfl) (by kernel_rfl) (by kernel_rfl)) ?_
  intro W base args ds gs before hval0 hW _ _
  have hval : ∀ (j : Nat) t v, Try.f9.params[j]? = some t → args[j]? = some v → Value.okWide Try.prog W .any base t v := hval0
  have hW' := hW
  obtain ⟨p, q, hA0, hV, rfl, _, _⟩ := hW
  have hA : DataW.TrodAll enc Try.prog W 0 (fun _ => true) true Try.f9.params.toList args.toList ds p := hA0
  rw [Try.params9] at hA hval
  obtain ⟨v0, d0, rfl, rfl, h0⟩ := trodAll_one hA
  obtain ⟨rfl, rfl⟩ := trodVars_none hV
  have h0k := h0
  obtain ⟨fuel, hf⟩ := h0
  clear hA0 hval0
  simp only [List.append_nil] at hW'
  have hlt : ∀ x ∈ p, x.block < W.heap.size := fun x hx => by simpa using hW'.lt x hx
  have hargs : ∀ W', Below W.heap.size W W' → DataW.Trod enc Try.prog W' 0 (fun b => decide (b < W.heap.size)) true 22 v0 d0 p := fun W' hb =>
    Below.trod laidOut (by kernel_rfl) (of_decide_eq_true (by kernel_rfl)) h0k hb hlt
  obtain ⟨a0, len, cap, rfl⟩ := okWide_slice Try.underlying22 (hval 0 22 v0 rfl rfl)
  rcases open_ints Try.underlying22 Try.underlying3 cellsI hf with ⟨hcs, hx⟩ | ⟨a, len', cap', zs, hcs, _, hl, hm, hz, hx, hcell, hwz⟩
  · simp [Value.cells] at hcs
    obtain ⟨rfl, rfl, rfl⟩ := hcs
    simp only [Prod.mk.injEq] at hx
    obtain ⟨rfl, rfl⟩ := hx
    refine (law.nil W).mono fun e W' ⟨he, hb⟩ => ?_
    subst he
    exact ⟨_, rfl, ⟨_, _, _, [], _, [], hW', trodAll_mk1 (shut_bool Try.underlying4 _), trodAll_mk1 (hargs W' hb), rfl, hb.frame _, fun h => by cases h⟩⟩
  · simp [Value.cells] at hcs
    obtain ⟨rfl, rfl, rfl⟩ := hcs
    simp only [Prod.mk.injEq] at hx
    obtain ⟨rfl, rfl⟩ := hx
    simp only [if_true] at hz
    refine (law.some (len := len) hcell (by rw [hz]; simp only [maxLen] at hm; omega) hz hl).mono fun e W' ⟨he, hb⟩ => ?_
    subst he
    exact ⟨_, rfl, ⟨_, _, _, [], _, [], hW', trodAll_mk1 (shut_bool Try.underlying4 _), trodAll_mk1 (hargs W' hb), rfl, hb.frame _, fun h => by cases h⟩⟩
end shareBounds
theorem shareBounds_holds : Rows.ShareBoundsSaid :=
  OpenClaim.holds_of_wide 9 Try.f9 rfl rfl rfl rfl rfl rfl rfl ⟨rfl, rfl, rfl, rfl, rfl⟩ rfl rfl rfl rfl rfl (by kernel_rfl) Try.func9 (by kernel_rfl)
    (of_decide_eq_true (by kernel_rfl)) (by unfold Func.isWrapper; first | (rw [if_pos (by decide +kernel)]; kernel_rfl) | (rw [if_neg (by decide +kernel)]; exact ⟨rfl, rfl⟩))
    (fun os started H enc _ => shareBounds.lifted os started H enc)
end Go.Proofs.Ytolmmfphdieilaa
