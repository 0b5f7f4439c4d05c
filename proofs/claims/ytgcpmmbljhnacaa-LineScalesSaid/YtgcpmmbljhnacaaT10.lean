/- A trial. No condition. -/
import Derived.Test.YtgcpmmbljhnacaaTab
import Derived.Test.YtgcpmmbljhnacaaTraf
import Derived.Test.YtgcpmmbljhnacaaT1
import Derived.Test.YtgcpmmbljhnacaaT3
import Derived.Test.YtgcpmmbljhnacaaT4
import Derived.Test.YtgcpmmbljhnacaaT5
import Derived.Test.YtgcpmmbljhnacaaT7
import Derived.Test.YtgcpmmbljhnacaaT8
import Derived.Test.YtgcpmmbljhnacaaT9
set_option linter.unusedSimpArgs false
set_option linter.unusedVariables false
namespace Go.Proofs.Ytgcpmmbljhnacaa
open Go Go.RowKit Go.Proofs.Ytgcpmmbljhnacaa.K Go.Proofs.Ytgcpmmbljhnacaa.M

theorem LineScales_F {R : Ro} {a : Option Addr} {c : Nat} {xs : List Int} (ha : RS R 1 encI a xs) (hc : xs.length ≤ c) (w0 : World) : K.Fn Try.prog 7 [.slice a xs.length c] w0 R [] (fun v _ _ => v = .bool true) := by
  refine Fn.enter (n := 71) Try.func7 rfl rfl (Nat.le_of_ble_eq_true rfl) rfl ?_
  refine W.seq ?_
  refine W.region _ ?_
  refine WG.run tab_ok 1 rfl ?_
  refine WG.nil ?_
  refine WE.nxt ?_
  refine W.seq ?_
  refine W.region _ ?_
  refine WG.run tab_ok 1 rfl ?_
  refine WL.call en10 rfl rfl (by decide) (CallOp.mkT rfl rfl rfl rfl) (New_C w0 _ hc) ?_
  rintro _ _ _ - ⟨b, rfl, rfl, rfl⟩
  have hz := ha.take 2000
  refine WG.run tab_ok 1 rfl ?_
  refine WG.nil ?_
  refine WE.nxt ?_
  refine W.seq ?_
  refine W.region _ ?_
  refine WG.run tab_ok 1 rfl ?_
  refine WL.callAt 0 en11 rfl rfl (by decide) (CallOp.mkT rfl rfl rfl rfl) rfl (Traffic_C w0 hz (by decide) (by constructor <;> decide) (by decide) _) ?_
  rintro _ _ _ _ - ⟨a2, c2, rfl, rfl, rfl, rfl⟩
  refine WL.freeze (enc := encP) (xs := (traffic (xs.take 2000) 12 3 40 0)) 0 rfl ?_
  intro R1 hR1 hp
  have hz := hz.mono hR1
  have hok := traffic_ok (xs.take 2000) (n := 12) (flows := 3) (most := 40) (by decide) (by decide) (by decide) 0
  have hat := traffic_at (xs.take 2000) (n := 12) (flows := 3) (most := 40) (by decide) (by decide) (by decide) 0
  have hlt := traffic_len (xs.take 2000) (n := 12) (flows := 3) (most := 40) (by decide) 0
  refine WG.run tab_ok 1 rfl ?_
  refine WL.callAt 0 en13 rfl rfl (by decide) (CallOp.mkT rfl rfl rfl rfl) rfl (N_C w0 hz (by constructor <;> decide) _) ?_
  rintro _ _ _ _ - ⟨rfl, rfl, rfl, rfl⟩
  have hm30 := mod_range (nth (xs.take 2000) ((0 + 1 + 3 * trafficK (xs.take 2000) 12 0))) (show (1 : Int) ≤ 30 by decide)
  refine WG.y rfl rfl (by decide) (Yl.add rfl rfl rfl (fun _ => rfl) (by intro _; constructor <;> (try dsimp only) <;> omega)) ?_
  refine WG.run tab_ok 1 rfl ?_
  refine WL.callAt 0 en13 rfl rfl (by decide) (CallOp.mkT rfl rfl rfl rfl) rfl (N_C w0 hz (by constructor <;> decide) _) ?_
  rintro _ _ _ _ - ⟨rfl, rfl, rfl, rfl⟩
  have hm9 := mod_range (nth (xs.take 2000) ((0 + 1 + 3 * trafficK (xs.take 2000) 12 0) + 1)) (show (1 : Int) ≤ 9 by decide)
  refine WG.y rfl rfl (by decide) (Yl.add rfl rfl rfl (fun _ => rfl) (by intro _; constructor <;> (try dsimp only) <;> omega)) ?_
  refine WG.run tab_ok 3 rfl ?_
  refine WG.nil ?_
  refine WE.nxt ?_
  refine W.sub (env' := [(4, true, .slice a2 (traffic (xs.take 2000) 12 3 40 0).length c2), (5, true, .int .i64 (1 + mod (nth (xs.take 2000) (0 + 1 + 3 * trafficK (xs.take 2000) 12 0)) 30)), (6, true, .int .i64 (1 + mod (nth (xs.take 2000) ((0 + 1 + 3 * trafficK (xs.take 2000) 12 0) + 1)) 9))]) (R' := R1) (E' := []) ⟨rfl, rfl, rfl, rfl⟩ (RLe.refl _) (List.nil_sublist _) ?_
  have hC : 1 ≤ (1 + mod (nth (xs.take 2000) (0 + 1 + 3 * trafficK (xs.take 2000) 12 0)) 30) ∧ (1 + mod (nth (xs.take 2000) (0 + 1 + 3 * trafficK (xs.take 2000) 12 0)) 30) ≤ 30 := by have := mod_range (nth (xs.take 2000) (0 + 1 + 3 * trafficK (xs.take 2000) 12 0)) (show (1 : Int) ≤ 30 by decide); omega
  have hk : 1 ≤ (1 + mod (nth (xs.take 2000) ((0 + 1 + 3 * trafficK (xs.take 2000) 12 0) + 1)) 9) ∧ (1 + mod (nth (xs.take 2000) ((0 + 1 + 3 * trafficK (xs.take 2000) 12 0) + 1)) 9) ≤ 9 := by have := mod_range (nth (xs.take 2000) ((0 + 1 + 3 * trafficK (xs.take 2000) 12 0) + 1)) (show (1 : Int) ≤ 9 by decide); omega
  generalize (1 + mod (nth (xs.take 2000) (0 + 1 + 3 * trafficK (xs.take 2000) 12 0)) 30) = C at hC ⊢
  generalize (1 + mod (nth (xs.take 2000) ((0 + 1 + 3 * trafficK (xs.take 2000) 12 0) + 1)) 9) = k at hk ⊢
  generalize (traffic (xs.take 2000) 12 3 40 0) = ps at hp hok hat hlt ⊢
  refine W.seq ?_
  refine W.region _ ?_
  refine WL.ef rfl rfl (by decide) (Ef.buildSliceD (enc := encP) (parts := []) [] tab_ok rfl rfl rfl rfl rfl rfl rfl rfl (by decide) (by decide) (fun a23 => ?_))
  refine WG.run tab_ok 1 rfl ?_
  refine WL.ef rfl rfl (by decide) (Ef.appendR (enc := encP) (xs := []) 0 tab_ok rfl rfl rfl rfl rfl rfl rfl rfl rfl rfl hp (fun _ _ => rfl) (by (try dsimp only [List.length_nil]); omega) (by (try dsimp only [List.length_nil]); omega) (fun a25 c25 ha25 => ?_))
  refine WG.run tab_ok 1 rfl ?_
  refine WG.nil ?_
  refine WE.nxt ?_
  refine W.seq ?_
  refine W.seq ?_
  refine W.region _ ?_
  refine WG.run tab_ok 3 rfl ?_
  refine WG.nil ?_
  refine WE.nxt ?_
  refine W.block ?_
  refine W.loop (β := Nat) (fun j => j ≤ ps.length) (fun j => [(4, true, .slice a2 ps.length c2), (5, true, .int .i64 C), (6, true, .int .i64 k), (7, true, .slice a25 ps.length c25), (26, true, .slice a25 ps.length c25), (27, true, .int .i64 ps.length), (28, true, .int .i64 (j : Int))]) (fun _ => R1) (fun j => [.sl 53 3 a25 c25 (((ps.take j).map (scP k) ++ ps.drop j).map encP)]) (fun j => ps.length - j) (0) (Nat.zero_le _) ⟨rfl, rfl, rfl, rfl, rfl, rfl, rfl, rfl⟩ (RLe.refl _) (by repeat (first | exact List.Sublist.refl _ | exact List.nil_sublist _ | apply List.Sublist.cons_cons | apply List.Sublist.cons)) ?_
  intro st hst
  have hj : st ≤ ps.length := hst
  refine W.seq ?_
  refine W.region _ ?_
  refine WG.run tab_ok 1 rfl ?_
  refine WG.nil ?_
  refine WE.nxt ?_
  refine W.seq ?_
  refine W.condD rfl (fun hc0 => ?_) (fun hc0 => ?_)
  · try dsimp only at hc0
    have hmul := mul_bd (A := 40) (hat _ (nth_mem (xs := ps) (k := st) (by omega))).2.2.2.2 hk
    refine W.skip ?_
    refine WE.nxt ?_
    refine W.seq ?_
    refine W.block ?_
    refine W.seq ?_
    refine W.region _ ?_
    refine WG.run tab_ok 2 rfl ?_
    refine WG.nil ?_
    refine WE.nxt ?_
    refine W.region _ ?_
    refine WG.run tab_ok 2 rfl ?_
    refine WG.y rfl rfl (by decide) (Yl.indexN tab_ok rfl rfl rfl rfl rfl rfl (fun _ => rfl) (by intro _; (try dsimp only) <;> omega) (by intro _; first | exact fun _ _ _ h => ha25 h | exact fun _ _ _ _ => rfl | exact RS.has (by assumption) | exact fun _ _ _ _ => (by assumption) | exact HasMem.ownD 0 rfl | exact HasMem.ownD 1 rfl | exact HasMem.ownD 2 rfl | exact HasMem.ownD 3 rfl)) ?_
    refine WG.run tab_ok 1 rfl ?_
    refine' WG.y rfl rfl (by decide) (Yl.load1 tab_ok rfl rfl rfl (fun _ => rfl) ?r1 rfl ?h1) ?_
    case r1 => apply Rd.add; exact Rd.slD 0 rfl (by simp; omega)
    case h1 => rfl
    refine WG.run tab_ok 1 rfl ?_
    refine WG.y rfl rfl (by decide) (Yl.mul rfl rfl rfl (fun _ => rfl) (by intro _; rw [scale_nth (by omega)]; constructor <;> omega)) ?_
    refine WG.y rfl rfl (by decide) (Yl.indexN tab_ok rfl rfl rfl rfl rfl rfl (fun _ => rfl) (by intro _; (try dsimp only) <;> omega) (by intro _; first | exact fun _ _ _ h => ha25 h | exact fun _ _ _ _ => rfl | exact RS.has (by assumption) | exact fun _ _ _ _ => (by assumption) | exact HasMem.ownD 0 rfl | exact HasMem.ownD 1 rfl | exact HasMem.ownD 2 rfl | exact HasMem.ownD 3 rfl)) ?_
    refine WG.run tab_ok 1 rfl ?_
    refine WL.efN rfl rfl (Ef.storeF (scP k (nth ps st)) 0 tab_ok rfl rfl rfl rfl rfl (by simp; omega) (by rw [scale_nth (by omega)]; rfl) rfl (by decide) rfl ?_)
    refine WG.nil ?_
    refine WE.blk _ ?_
    refine WE.nxt ?_
    refine W.region _ ?_
    refine WG.y rfl rfl (by decide) (Yl.add rfl rfl rfl (fun _ => rfl) (by intro _; constructor <;> (try dsimp only) <;> omega)) ?_
    refine WG.run tab_ok 1 rfl ?_
    refine WG.nil ?_
    refine WE.again (st + 1) (by omega) (by (try dsimp only); omega) ⟨rfl, rfl, rfl, rfl, rfl, rfl, rfl, rfl⟩ (RLe.refl _) (by (try dsimp only); rw [← scale_step (by omega)]; exact List.Sublist.refl _)
  · try dsimp only at hc0
    obtain rfl : st = ps.length := by omega
    rw [List.take_of_length_le (Nat.le_refl _), List.drop_eq_nil_of_le (Nat.le_refl _), List.append_nil]
    refine W.exit ?_
    refine WE.then_exit ?_
    refine WE.then_exit ?_
    refine WE.blk_exit ?_
    refine WE.nxt ?_
    refine W.freeze (enc := encP) (xs := ps.map (scP k)) 0 rfl ?_
    intro R2 hR2 hq
    have hp := hp.mono hR2
    refine W.seq ?_
    refine W.region _ ?_
    refine WG.run tab_ok 2 rfl ?_
    refine WL.call en15 rfl rfl (by decide) (CallOp.mkT rfl rfl rfl rfl) (LRun_ok (ps := ps) (cap := C) (classes := 3) (ticks := 90) hp w0 hok (checkE_of (by unfold BadC; omega) (fun p hp => (hat p hp).2.1)) _) ?_
    rintro _ _ E2 - ⟨rows, gd, go, s, hs, rfl, rfl, h1, h2, h3, hsub⟩
    refine WL.subE (List.Sublist.trans (List.Sublist.cons_cons _ (List.Sublist.cons _ (List.sublist_append_right _ _))) hsub) ?_
    refine WL.freeze (enc := encI) (xs := s.done) 0 rfl ?_
    intro R3 hR3 hdn
    have hq := hq.mono hR3
    refine WG.run tab_ok 3 rfl ?_
    refine WL.ef rfl rfl (by decide) (Ef.alloc tab_ok rfl rfl (fun b9 => ?_))
    first | refine WL.efN rfl rfl (Ef.store0 0 tab_ok rfl rfl rfl rfl rfl rfl rfl rfl ?_) | refine WL.efN rfl rfl (Ef.store0 1 tab_ok rfl rfl rfl rfl rfl rfl rfl rfl ?_) | refine WL.efN rfl rfl (Ef.store0 2 tab_ok rfl rfl rfl rfl rfl rfl rfl rfl ?_) | refine WL.efN rfl rfl (Ef.store0 3 tab_ok rfl rfl rfl rfl rfl rfl rfl rfl ?_)
    refine WG.run tab_ok 1 rfl ?_
    refine WG.nil ?_
    refine WE.nxt ?_
    refine W.seq ?_
    refine W.region _ ?_
    refine WG.run tab_ok 2 rfl ?_
    refine WG.y rfl rfl (by decide) (Yl.mul rfl rfl rfl (fun _ => rfl) (by intro _; have := mul_bd hC hk; constructor <;> omega)) ?_
    refine WG.run tab_ok 1 rfl ?_
    refine WL.call en15 rfl rfl (by decide) (CallOp.mkT rfl rfl rfl (by simp)) (LRun_ok (ps := (ps.map (scP k))) (pc := c25) (cap := (C * k)) (classes := 3) (ticks := 90) hq w0 (scale_ok hok hk (fun p hp => (hat p hp).2.2.2.2.2)) (checkE_of (by unfold BadC; have := mul_bd hC hk; omega) (fun p hp => by obtain ⟨q, h1, rfl⟩ := List.mem_map.1 hp; exact (hat q h1).2.1)) _) ?_
    rintro _ _ E2 - ⟨rows2, gd2, go2, s2, hs2, rfl, rfl, g1, g2, g3, hsub2⟩
    refine WL.subE (List.Sublist.trans (List.Sublist.cons_cons _ (List.Sublist.cons _ (List.sublist_append_right _ _))) hsub2) ?_
    refine WL.freeze (enc := encI) (xs := s2.done) 0 rfl ?_
    intro R4 hR4 hdn2
    have hdn := hdn.mono hR4
    have heq : s2.done = s.done := by rw [hs, hs2]; exact scale_done (fun p hp => (hat p hp).2.2.2.2.1) hk.1 (by omega) 3 90
    refine WG.run tab_ok 3 rfl ?_
    refine WL.ef rfl rfl (by decide) (Ef.alloc tab_ok rfl rfl (fun b11 => ?_))
    first | refine WL.efN rfl rfl (Ef.store0 0 tab_ok rfl rfl rfl rfl rfl rfl rfl rfl ?_) | refine WL.efN rfl rfl (Ef.store0 1 tab_ok rfl rfl rfl rfl rfl rfl rfl rfl ?_) | refine WL.efN rfl rfl (Ef.store0 2 tab_ok rfl rfl rfl rfl rfl rfl rfl rfl ?_) | refine WL.efN rfl rfl (Ef.store0 3 tab_ok rfl rfl rfl rfl rfl rfl rfl rfl ?_)
    refine WG.run tab_ok 1 rfl ?_
    refine WG.nil ?_
    refine WE.nxt ?_
    refine W.seq ?_
    refine W.region _ ?_
    refine WG.run tab_ok 3 rfl ?_
    refine WL.guardT rfl (by rfl) ?_
    refine WG.y rfl rfl (by decide) (pureV_ok tab_ok rfl (fun _ => rfl)) ?_
    refine WL.guardT rfl (by rfl) ?_
    refine WG.y rfl rfl (by decide) (pureV_ok tab_ok rfl (fun _ => rfl)) ?_
    refine WG.y rfl rfl (by decide) (Yl.pand rfl rfl rfl (fun _ => rfl) (by intro h1 h2; simp_all)) ?_
    refine WG.run tab_ok 1 rfl ?_
    refine WL.guardT rfl (by rfl) ?_
    refine WG.y rfl rfl (by decide) (pureV_ok tab_ok rfl (fun _ => rfl)) ?_
    refine WL.guardT rfl (by rfl) ?_
    refine' WG.y rfl rfl (by decide) (Yl.load1 tab_ok rfl rfl rfl (fun _ => rfl) ?r2 rfl ?h2) ?_
    case r2 => apply Rd.add; (first | exact Rd.blk 0 rfl | exact Rd.blk 1 rfl | exact Rd.blk 2 rfl | exact Rd.blk 3 rfl)
    case h2 => rfl
    refine WL.guardT rfl (by rfl) ?_
    refine WG.y rfl rfl (by decide) (pureV_ok tab_ok rfl (fun _ => rfl)) ?_
    refine WL.guardT rfl (by rfl) ?_
    refine' WG.y rfl rfl (by decide) (Yl.load1 tab_ok rfl rfl rfl (fun _ => rfl) ?r3 rfl ?h3) ?_
    case r3 => apply Rd.add; (first | exact Rd.blk 0 rfl | exact Rd.blk 1 rfl | exact Rd.blk 2 rfl | exact Rd.blk 3 rfl)
    case h3 => rfl
    refine WL.guardT rfl (by rfl) ?_
    refine WG.callV (v := .bool true) en29 rfl rfl (by decide) (CallOp.mk' rfl rfl rfl rfl) (fun _ => rfl) (fun hg => by
      have h := Ints_V (ca := ps.length) (cb := (ps.map (scP k)).length) hdn hdn2
      rw [h3.done, g3.done, show decide (s.done = s2.done) = true from decide_eq_true heq.symm] at h
      exact h) ?_
    refine WG.y rfl rfl (by decide) (Yl.pand rfl rfl rfl (fun _ => rfl) (by intro h1 h2; simp_all)) ?_
    refine WG.run tab_ok 1 rfl ?_
    refine WL.guardT rfl (by rfl) ?_
    refine WL.call en9 rfl rfl (by decide) (CallOp.mkT rfl rfl rfl rfl) (Awake_C w0 _) ?_
    rintro _ R5 E9 hR5 ⟨rfl, hsub9⟩
    refine WL.subE hsub9 ?_
    refine WG.y rfl rfl (by decide) (Yl.pand rfl rfl rfl (fun _ => rfl) (by intro h1 h2; simp_all)) ?_
    refine WG.run tab_ok 1 rfl ?_
    refine WG.nil ?_
    refine WE.nxt ?_
    refine W.ret ?_
    refine WE.retF tab_ok [_] rfl ⟨rfl, trivial⟩ (hR1.trans (hR2.trans (hR3.trans (hR4.trans hR5)))) ?_
    exact rfl

end Go.Proofs.Ytgcpmmbljhnacaa
