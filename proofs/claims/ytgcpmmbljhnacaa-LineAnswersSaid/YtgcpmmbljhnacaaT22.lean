/- Chapter 16: the answers of a line. No condition. -/
import Derived.Test.YtgcpmmbljhnacaaTab
import Derived.Test.YtgcpmmbljhnacaaAns
import Derived.Test.YtgcpmmbljhnacaaLoop
import Derived.Test.YtgcpmmbljhnacaaT1
import Derived.Test.YtgcpmmbljhnacaaT3
import Derived.Test.YtgcpmmbljhnacaaT4
import Derived.Test.YtgcpmmbljhnacaaT5
import Derived.Test.YtgcpmmbljhnacaaT7
import Derived.Test.YtgcpmmbljhnacaaT8
import Derived.Test.YtgcpmmbljhnacaaT9
import Derived.Test.YtgcpmmbljhnacaaT16
import Derived.Test.YtgcpmmbljhnacaaT17
import Derived.Test.YtgcpmmbljhnacaaT18
import Derived.Test.YtgcpmmbljhnacaaT19
import Derived.Test.YtgcpmmbljhnacaaT20
import Derived.Test.YtgcpmmbljhnacaaT21
set_option linter.unusedSimpArgs false
set_option linter.unusedVariables false
namespace Go.Proofs.Ytgcpmmbljhnacaa
open Go Go.RowKit Go.Proofs.Ytgcpmmbljhnacaa.K Go.Proofs.Ytgcpmmbljhnacaa.M

theorem LineAnswers_F {R : Ro} {ra : Option Addr} {rc : Nat} {raw : List Pkt} {z1 z2 z3 z4 : Int} {a : Option Addr} {c : Nat} {xs : List Int} (hraw : RS R 3 encP ra raw) (ha : RS R 1 encI a xs) (hc : xs.length ≤ c) (hz4 : InR z4) (w0 : World) : K.Fn Try.prog 3 [.slice ra raw.length rc, .int .i64 z1, .int .i64 z2, .int .i64 z3, .int .i64 z4, .slice a xs.length c] w0 R [] (fun v _ _ => v = .bool true) := by
  refine Fn.enter (n := 186) Try.func3 rfl rfl (Nat.le_of_ble_eq_true rfl) rfl ?_
  refine W.seq ?_
  refine W.region _ ?_
  refine WG.run tab_ok 1 rfl ?_
  refine WG.nil ?_
  refine WE.nxt ?_
  refine W.seq ?_
  refine W.seq ?_
  refine W.region _ ?_
  refine WG.run tab_ok 3 rfl ?_
  refine WG.nil ?_
  refine WE.nxt ?_
  refine W.condD rfl (fun hc0 => ?_) (fun hc0 => ?_)
  · try dsimp only at hc0
    refine W.seq ?_
    refine W.region _ ?_
    refine WL.call en9 rfl rfl (by decide) (CallOp.mkT rfl rfl rfl rfl) (Awake_C w0 _) ?_
    rintro _ R9 E9 hR9 ⟨rfl, hsub9⟩
    refine WL.subE hsub9 ?_
    refine WG.run tab_ok 1 rfl ?_
    refine WG.nil ?_
    refine WE.nxt ?_
    refine W.ret ?_
    refine WE.then_ret ?_
    refine WE.retF tab_ok [_] rfl ⟨rfl, trivial⟩ (by first | exact hR9 | exact hR1.trans (hR2.trans (hR3.trans (hRk.trans (hR10.trans (hRk2.trans hR13)))))) ?_
    exact rfl
  · try dsimp only at hc0
    refine W.skip ?_
    refine WE.nxt ?_
    refine W.seq ?_
    refine W.region _ ?_
    refine WG.run tab_ok 1 rfl ?_
    refine WL.call en10 rfl rfl (by decide) (CallOp.mkT rfl rfl rfl rfl) (New_C w0 _ hc) ?_
    rintro _ _ _ - ⟨b, rfl, rfl, rfl⟩
    have hz := ha.take 2000
    refine WG.run tab_ok 1 rfl ?_
    refine WG.nil ?_
    refine WE.nxt ?_
    refine W.seq ?_
    refine W.region _ ?_
    refine WG.run tab_ok 1 rfl ?_
    refine WL.callAt 0 en11 rfl rfl (by decide) (CallOp.mkT rfl rfl rfl rfl) rfl (Traffic_C w0 hz (by decide) (by constructor <;> decide) (by decide) _) ?_
    rintro _ _ _ _ - ⟨a2, c2, rfl, rfl, rfl, rfl⟩
    refine WL.freeze (enc := encP) (xs := (traffic (xs.take 2000) 12 3 40 0)) 0 rfl ?_
    intro R1 hR1 hp
    have hz := hz.mono hR1
    have hok := traffic_ok (xs.take 2000) (n := 12) (flows := 3) (most := 40) (by decide) (by decide) (by decide) 0
    have hat := traffic_at (xs.take 2000) (n := 12) (flows := 3) (most := 40) (by decide) (by decide) (by decide) 0
    have hlt := traffic_len (xs.take 2000) (n := 12) (flows := 3) (most := 40) (by decide) 0
    generalize (traffic (xs.take 2000) 12 3 40 0) = ps at hp hok hat hlt ⊢
    generalize 0 + 1 + 3 * trafficK (xs.take 2000) 12 0 = cn1
    refine WG.run tab_ok 1 rfl ?_
    refine WG.nil ?_
    refine WE.nxt ?_
    refine W.seq ?_
    refine W.seq ?_
    refine W.region _ ?_
    refine WG.run tab_ok 4 rfl ?_
    refine WL.callAt 0 en12 rfl rfl (by decide) (CallOp.mkT rfl rfl rfl rfl) rfl (Broken_C w0 hz hp rfl (by omega) _) ?_
    rintro _ R2 _ _ hR2 ⟨a48, c48, cn0, qs, rfl, hqs, rfl, rfl⟩
    have hp := hp.mono hR2
    have hz := hz.mono hR2
    have hraw := hraw.mono (hR1.trans hR2)
    refine WL.ef rfl rfl (by decide) (Ef.buildSliceD (enc := encL) (parts := [.tmp 44, .tmp 45, .tmp 48]) [(⟨a2, c2, ps⟩ : SlP), ⟨ra, rc, raw⟩, ⟨a48, c48, qs⟩] tab_ok rfl rfl rfl rfl rfl rfl rfl rfl (by decide) (by decide) (fun a49 => ?_))
    refine WL.freeze (enc := encL) 0 rfl ?_
    intro R3 hR3 htl0
    obtain ⟨tl, htl0, htll, htl⟩ : ∃ tl : List SlP, RS R3 1 encL (some ⟨a49, 0, none⟩) tl ∧ tl.length = 3 ∧ ∀ s ∈ tl, RS R3 3 encP s.a s.xs := ⟨_, htl0, rfl, fun s hs => by
      simp only [List.mem_cons, List.not_mem_nil, or_false] at hs
      rcases hs with rfl | rfl | rfl
      · exact hp.mono hR3
      · exact hraw.mono hR3
      · exact hqs.mono hR3⟩
    have hz3 := hz.mono hR3
    refine WG.run tab_ok 2 rfl ?_
    refine WG.nil ?_
    refine WE.nxt ?_
    refine W.block ?_
    refine W.loop (β := Ro × Nat × Nat) (fun (Rk, j, cn) => j ≤ 3 ∧ RLe R3 Rk) (fun (Rk, j, cn) => [(1, true, .int .i64 z1), (2, true, .int .i64 z2), (3, true, .int .i64 z3), (4, true, .int .i64 z4), (13, true, .pointer (some ⟨b, 0, none⟩)), (49, true, .slice (some ⟨a49, 0, none⟩) 3 3), (50, true, .int .i64 ((3 : Nat) : Int)), (51, true, .int .i64 (j : Int))]) (fun (Rk, _, _) => Rk) (fun (Rk, j, cn) => [srcE b a c (xs.take 2000) (cn)]) (fun (Rk, j, cn) => 3 - j) ((R3, 0, cn0)) (⟨Nat.zero_le _, RLe.refl _⟩) ⟨rfl, rfl, rfl, rfl, rfl, rfl, rfl, rfl, rfl⟩ (RLe.refl _) (by (repeat (first | exact List.Sublist.refl _ | exact List.nil_sublist _ | apply List.Sublist.cons_cons | apply List.Sublist.cons)); done) ?_
    intro st hst
    obtain ⟨Rk, j, cn⟩ := st
    obtain ⟨hj, hRk⟩ := hst
    dsimp only at hj hRk ⊢
    have hz := hz3.mono hRk
    refine W.seq ?_
    refine W.region _ ?_
    refine WG.run tab_ok 1 rfl ?_
    refine WG.nil ?_
    refine WE.nxt ?_
    refine W.seq ?_
    refine W.condD rfl (fun hc1 => ?_) (fun hc1 => ?_)
    · try dsimp only at hc1
      have hjl : j < tl.length := by omega
      have hq : RS Rk 3 encP (nth tl j).a (nth tl j).xs := (htl _ (nth_mem hjl)).mono hRk
      have htl1 := htl0.mono hRk
      refine W.skip ?_
      refine WE.nxt ?_
      refine W.seq ?_
      refine W.block ?_
      refine W.seq ?_
      refine W.region _ ?_
      refine WG.y rfl rfl (by decide) (Yl.indexN tab_ok rfl rfl rfl rfl rfl rfl (fun _ => rfl) (by intro _; (try dsimp only) <;> omega) (by intro _; first | exact fun _ _ _ _ => rfl | exact RS.has (by assumption) | exact fun _ _ _ _ => (by assumption) | exact HasMem.ownD 0 rfl | exact HasMem.ownD 1 rfl | exact HasMem.ownD 2 rfl | exact HasMem.ownD 3 rfl | exact HasMem.ownD 4 rfl)) ?_
      refine' WG.y rfl rfl (by decide) (Yl.load1 tab_ok rfl rfl rfl (fun _ => rfl) ?r1 rfl ?h1) ?_
      case r1 => (first | (apply RS.rdD; assumption; ((try dsimp only) <;> omega)) | exact Rd.slD 0 rfl (by (try dsimp only) <;> omega) | exact Rd.slD 1 rfl (by (try dsimp only) <;> omega) | exact Rd.slD 2 rfl (by (try dsimp only) <;> omega) | exact Rd.slD 3 rfl (by (try dsimp only) <;> omega) | exact Rd.slD 4 rfl (by (try dsimp only) <;> omega))
      case h1 => rfl
      refine WG.run tab_ok 1 rfl ?_
      refine WG.nil ?_
      refine WE.nxt ?_
      refine W.seq ?_
      refine W.region _ ?_
      refine WG.run tab_ok 1 rfl ?_
      refine WL.callAt 0 en13 rfl rfl (by decide) (CallOp.mkT rfl rfl rfl rfl) rfl (N_C w0 hz (by constructor <;> decide) _) ?_
      rintro _ _ _ _ - ⟨rfl, rfl, rfl, rfl⟩
      have hm30 := mod_range (nth (xs.take 2000) cn) (show (1 : Int) ≤ 30 by decide)
      refine WG.y rfl rfl (by decide) (Yl.add rfl rfl rfl (fun _ => rfl) (by intro _; constructor <;> (try dsimp only) <;> omega)) ?_
      refine WG.run tab_ok 1 rfl ?_
      refine WL.callAt 0 en13 rfl rfl (by decide) (CallOp.mkT rfl rfl rfl rfl) rfl (N_C w0 hz (by constructor <;> decide) _) ?_
      rintro _ _ _ _ - ⟨rfl, rfl, rfl, rfl⟩
      -- build
      refine WG.y rfl rfl (by decide) (Yl.buildArr (parts := [(0, .tmp 57), (1, .const (.int .i64 3)), (2, .tmp 59)]) tab_ok rfl rfl rfl rfl rfl (fun _ => rfl) rfl) ?_
      refine WG.run tab_ok 3 rfl ?_
      -- build
      refine WG.y rfl rfl (by decide) (Yl.buildArr (parts := [(0, .tmp 61), (1, .tmp 62), (2, .tmp 63)]) tab_ok rfl rfl rfl rfl rfl (fun _ => rfl) rfl) ?_
      refine WG.run tab_ok 1 rfl ?_
      refine WL.ef rfl rfl (by decide) (Ef.buildSliceD (enc := encI) (parts := [.const (.int .i64 0), .const (.int .i64 1), .const (.int .i64 7), .const (.int .i64 4000), .const (.int .i64 4001)]) [_, _, _, _, _] tab_ok rfl rfl rfl rfl rfl rfl rfl rfl (by decide) (by decide) (fun a66 => ?_))
      refine WL.callAt 1 en14 rfl rfl (by decide) (CallOp.mkT rfl rfl rfl rfl) rfl (PickN_C (j := 0) w0 [0, 1, 7, 4000, 4001] rfl (by decide) (by decide) hz rfl) ?_
      rintro _ _ _ _ - ⟨rfl, rfl, rfl, rfl⟩
      refine WG.run tab_ok 1 rfl ?_
      refine WL.ef rfl rfl (by decide) (Ef.buildSliceD (enc := encI) (parts := [.const (.int .i64 0), .const (.int .i64 1), .const (.int .i64 3), .const (.int .i64 6), .const (.int .i64 7)]) [_, _, _, _, _] tab_ok rfl rfl rfl rfl rfl rfl rfl rfl (by decide) (by decide) (fun a69 => ?_))
      refine WL.callAt 2 en14 rfl rfl (by decide) (CallOp.mkT rfl rfl rfl rfl) rfl (PickN_C (j := 0) w0 [0, 1, 3, 6, 7] rfl (by decide) (by decide) hz rfl) ?_
      rintro _ _ _ _ - ⟨rfl, rfl, rfl, rfl⟩
      refine WG.run tab_ok 1 rfl ?_
      refine WL.ef rfl rfl (by decide) (Ef.buildSliceD (enc := encI) (parts := [.const (.int .i64 (-1)), .const (.int .i64 0), .const (.int .i64 20), .const (.int .i64 300), .const (.int .i64 2001)]) [_, _, _, _, _] tab_ok rfl rfl rfl rfl rfl rfl rfl rfl (by decide) (by decide) (fun a72 => ?_))
      refine WL.callAt 3 en14 rfl rfl (by decide) (CallOp.mkT rfl rfl rfl rfl) rfl (PickN_C (j := 0) w0 [-1, 0, 20, 300, 2001] rfl (by decide) (by decide) hz rfl) ?_
      rintro _ _ _ _ - ⟨rfl, rfl, rfl, rfl⟩
      -- build
      refine WG.y rfl rfl (by decide) (Yl.buildArr (parts := [(0, .tmp 67), (1, .tmp 70), (2, .tmp 73)]) tab_ok rfl rfl rfl rfl rfl (fun _ => rfl) rfl) ?_
      refine WL.ef rfl rfl (by decide) (Ef.buildSliceD (enc := enc3) (parts := [.tmp 60, .tmp 64, .tmp 74]) [⟨_, _, _⟩, ⟨_, _, _⟩, ⟨_, _, _⟩] tab_ok rfl rfl rfl rfl rfl rfl rfl rfl (by decide) (by decide) (fun a75 => ?_))
      refine WL.freeze (enc := enc3) 0 rfl ?_
      intro R4 hR4 htr
      obtain ⟨tr, htr, htrl⟩ : ∃ tr : List (Int × Int × Int), RS R4 3 enc3 (some ⟨a75, 0, none⟩) tr ∧ tr.length = 3 := ⟨_, htr, rfl⟩
      have hq4 := hq.mono hR4
      have hz4 := hz.mono hR4
      refine WG.run tab_ok 2 rfl ?_
      refine WG.nil ?_
      refine WE.nxt ?_
      refine W.block ?_
      refine W.loop (β := Ro × Nat × Nat) (fun (Rk, i, cn) => i ≤ 3 ∧ RLe R4 Rk) (fun (Rk, i, cn) => [(1, true, .int .i64 z1), (2, true, .int .i64 z2), (3, true, .int .i64 z3), (4, true, .int .i64 z4), (13, true, .pointer (some ⟨b, 0, none⟩)), (49, true, .slice (some ⟨a49, 0, none⟩) 3 3), (50, true, .int .i64 ((3 : Nat) : Int)), (51, true, .int .i64 (j : Int)), (16, true, .slice (nth tl j).a (nth tl j).xs.length (nth tl j).cap), (75, true, .slice (some ⟨a75, 0, none⟩) 3 3), (76, true, .int .i64 ((3 : Nat) : Int)), (77, true, .int .i64 (i : Int))]) (fun (Rk, _, _) => Rk) (fun (Rk, i, cn) => [srcE b a c (xs.take 2000) (cn)]) (fun (Rk, i, cn) => 3 - i) ((R4, 0, _)) (⟨Nat.zero_le _, RLe.refl _⟩) ⟨rfl, rfl, rfl, rfl, rfl, rfl, rfl, rfl, rfl, rfl, rfl, rfl, rfl⟩ (RLe.refl _) (by (repeat (first | exact List.Sublist.refl _ | exact List.nil_sublist _ | apply List.Sublist.cons_cons | apply List.Sublist.cons)); done) ?_
      intro st hst
      obtain ⟨Rk1, i, cn⟩ := st
      obtain ⟨hi, hRk1⟩ := hst
      dsimp only at hi hRk1 ⊢
      refine W.seq ?_
      refine W.region _ ?_
      refine WG.run tab_ok 1 rfl ?_
      refine WG.nil ?_
      refine WE.nxt ?_
      refine W.seq ?_
      refine W.condD rfl (fun hc2 => ?_) (fun hc2 => ?_)
      · try dsimp only at hc2
        have hil : i < tr.length := by omega
        have hq := hq4.mono hRk1
        have hz := hz4.mono hRk1
        have htr1 := htr.mono hRk1
        refine W.skip ?_
        refine WE.nxt ?_
        refine W.seq ?_
        refine W.block ?_
        refine W.seq ?_
        refine W.region _ ?_
        refine WG.y rfl rfl (by decide) (Yl.indexN tab_ok rfl rfl rfl rfl rfl rfl (fun _ => rfl) (by intro _; (try dsimp only) <;> omega) (by intro _; first | exact fun _ _ _ _ => rfl | exact RS.has (by assumption) | exact fun _ _ _ _ => (by assumption) | exact HasMem.ownD 0 rfl | exact HasMem.ownD 1 rfl | exact HasMem.ownD 2 rfl | exact HasMem.ownD 3 rfl | exact HasMem.ownD 4 rfl)) ?_
        refine' WG.y rfl rfl (by decide) (Yl.load1 tab_ok rfl rfl rfl (fun _ => rfl) ?r2 rfl ?h2) ?_
        case r2 => (first | (apply RS.rdD; assumption; ((try dsimp only) <;> omega)) | exact Rd.slD 0 rfl (by (try dsimp only) <;> omega) | exact Rd.slD 1 rfl (by (try dsimp only) <;> omega) | exact Rd.slD 2 rfl (by (try dsimp only) <;> omega) | exact Rd.slD 3 rfl (by (try dsimp only) <;> omega) | exact Rd.slD 4 rfl (by (try dsimp only) <;> omega))
        case h2 => rfl
        refine WL.ef rfl rfl (by decide) (Ef.alloc tab_ok rfl rfl (fun b18 => ?_))
        first | refine WL.efN rfl rfl (Ef.store0 0 tab_ok rfl rfl rfl rfl rfl rfl rfl rfl ?_) | refine WL.efN rfl rfl (Ef.store0 1 tab_ok rfl rfl rfl rfl rfl rfl rfl rfl ?_) | refine WL.efN rfl rfl (Ef.store0 2 tab_ok rfl rfl rfl rfl rfl rfl rfl rfl ?_) | refine WL.efN rfl rfl (Ef.store0 3 tab_ok rfl rfl rfl rfl rfl rfl rfl rfl ?_) | refine WL.efN rfl rfl (Ef.store0 4 tab_ok rfl rfl rfl rfl rfl rfl rfl rfl ?_)
        refine WG.nil ?_
        refine WE.nxt ?_
        refine W.seq ?_
        refine W.region _ ?_
        refine WG.y rfl rfl (by decide) (Yl.indexArr tab_ok rfl rfl rfl rfl rfl rfl (fun _ => rfl) (by intro _; constructor <;> (try dsimp only) <;> omega)) ?_
        refine' WG.y rfl rfl (by decide) (Yl.load1 tab_ok rfl rfl rfl (fun _ => rfl) ?r3 rfl ?h3) ?_
        case r3 => apply Rd.add; (first | exact Rd.blk 0 rfl | exact Rd.blk 1 rfl | exact Rd.blk 2 rfl | exact Rd.blk 3 rfl | exact Rd.blk 4 rfl)
        case h3 => rfl
        refine WG.y rfl rfl (by decide) (Yl.indexArr tab_ok rfl rfl rfl rfl rfl rfl (fun _ => rfl) (by intro _; constructor <;> (try dsimp only) <;> omega)) ?_
        refine' WG.y rfl rfl (by decide) (Yl.load1 tab_ok rfl rfl rfl (fun _ => rfl) ?r4 rfl ?h4) ?_
        case r4 => apply Rd.add; (first | exact Rd.blk 0 rfl | exact Rd.blk 1 rfl | exact Rd.blk 2 rfl | exact Rd.blk 3 rfl | exact Rd.blk 4 rfl)
        case h4 => rfl
        refine WG.run tab_ok 1 rfl ?_
        refine WG.y rfl rfl (by decide) (Yl.indexArr tab_ok rfl rfl rfl rfl rfl rfl (fun _ => rfl) (by intro _; constructor <;> (try dsimp only) <;> omega)) ?_
        refine' WG.y rfl rfl (by decide) (Yl.load1 tab_ok rfl rfl rfl (fun _ => rfl) ?r5 rfl ?h5) ?_
        case r5 => apply Rd.add; (first | exact Rd.blk 0 rfl | exact Rd.blk 1 rfl | exact Rd.blk 2 rfl | exact Rd.blk 3 rfl | exact Rd.blk 4 rfl)
        case h5 => rfl
        refine WL.call en15 rfl rfl (by decide) (CallOp.mkT rfl rfl rfl rfl) (LRun_any hq rfl w0 _) ?_
        rintro _ R5 _ hR5 ⟨d1, o1, dc1, oc1, rows1, rfl, hd1, ho1, hr1, hx1, hsub1⟩
        refine WL.subE hsub1 ?_
        have hq := hq.mono hR5
        have hz := hz.mono hR5
        refine WG.run tab_ok 3 rfl ?_
        refine WL.ef rfl rfl (by decide) (Ef.alloc tab_ok rfl rfl (fun b19 => ?_))
        first | refine WL.efN rfl rfl (Ef.store0 0 tab_ok rfl rfl rfl rfl rfl rfl rfl rfl ?_) | refine WL.efN rfl rfl (Ef.store0 1 tab_ok rfl rfl rfl rfl rfl rfl rfl rfl ?_) | refine WL.efN rfl rfl (Ef.store0 2 tab_ok rfl rfl rfl rfl rfl rfl rfl rfl ?_) | refine WL.efN rfl rfl (Ef.store0 3 tab_ok rfl rfl rfl rfl rfl rfl rfl rfl ?_) | refine WL.efN rfl rfl (Ef.store0 4 tab_ok rfl rfl rfl rfl rfl rfl rfl rfl ?_)
        refine WG.run tab_ok 1 rfl ?_
        refine WG.nil ?_
        refine WE.nxt ?_
        refine W.seq ?_
        refine W.region _ ?_
        refine WG.y rfl rfl (by decide) (Yl.indexArr tab_ok rfl rfl rfl rfl rfl rfl (fun _ => rfl) (by intro _; constructor <;> (try dsimp only) <;> omega)) ?_
        refine' WG.y rfl rfl (by decide) (Yl.load1 tab_ok rfl rfl rfl (fun _ => rfl) ?r6 rfl ?h6) ?_
        case r6 => apply Rd.add; (first | exact Rd.blk 0 rfl | exact Rd.blk 1 rfl | exact Rd.blk 2 rfl | exact Rd.blk 3 rfl | exact Rd.blk 4 rfl)
        case h6 => rfl
        refine WG.y rfl rfl (by decide) (Yl.indexArr tab_ok rfl rfl rfl rfl rfl rfl (fun _ => rfl) (by intro _; constructor <;> (try dsimp only) <;> omega)) ?_
        refine' WG.y rfl rfl (by decide) (Yl.load1 tab_ok rfl rfl rfl (fun _ => rfl) ?r7 rfl ?h7) ?_
        case r7 => apply Rd.add; (first | exact Rd.blk 0 rfl | exact Rd.blk 1 rfl | exact Rd.blk 2 rfl | exact Rd.blk 3 rfl | exact Rd.blk 4 rfl)
        case h7 => rfl
        refine WG.run tab_ok 1 rfl ?_
        refine WG.y rfl rfl (by decide) (Yl.indexArr tab_ok rfl rfl rfl rfl rfl rfl (fun _ => rfl) (by intro _; constructor <;> (try dsimp only) <;> omega)) ?_
        refine' WG.y rfl rfl (by decide) (Yl.load1 tab_ok rfl rfl rfl (fun _ => rfl) ?r8 rfl ?h8) ?_
        case r8 => apply Rd.add; (first | exact Rd.blk 0 rfl | exact Rd.blk 1 rfl | exact Rd.blk 2 rfl | exact Rd.blk 3 rfl | exact Rd.blk 4 rfl)
        case h8 => rfl
        refine WL.call en16 rfl rfl (by decide) (CallOp.mkT rfl rfl rfl rfl) (RRun16_any hq rfl w0 _) ?_
        rintro _ R6 _ hR6 ⟨d2, o2, dc2, oc2, rows2, rfl, hd2, ho2, hr2, hx2, hsub2⟩
        refine WL.subE hsub2 ?_
        have hq := hq.mono hR6
        have hz := hz.mono hR6
        refine WG.run tab_ok 3 rfl ?_
        refine WL.ef rfl rfl (by decide) (Ef.alloc tab_ok rfl rfl (fun b21 => ?_))
        first | refine WL.efN rfl rfl (Ef.store0 0 tab_ok rfl rfl rfl rfl rfl rfl rfl rfl ?_) | refine WL.efN rfl rfl (Ef.store0 1 tab_ok rfl rfl rfl rfl rfl rfl rfl rfl ?_) | refine WL.efN rfl rfl (Ef.store0 2 tab_ok rfl rfl rfl rfl rfl rfl rfl rfl ?_) | refine WL.efN rfl rfl (Ef.store0 3 tab_ok rfl rfl rfl rfl rfl rfl rfl rfl ?_) | refine WL.efN rfl rfl (Ef.store0 4 tab_ok rfl rfl rfl rfl rfl rfl rfl rfl ?_)
        refine WG.run tab_ok 1 rfl ?_
        refine WG.nil ?_
        refine WE.nxt ?_
        refine W.seq ?_
        refine W.seq ?_
        refine W.region _ ?_
        refine WG.run tab_ok 4 rfl ?_
        refine' WG.y rfl rfl (by decide) (Yl.loadG tab_ok rfl rfl rfl (by first | exact fun _ => rfl | exact fun h => h | (intro h; simp_all)) ?r9 rfl ?h9 ?g9) ?_
        case r9 => (first | exact Rd.blkC 0 rfl | exact Rd.blkC 1 rfl | exact Rd.blkC 2 rfl | exact Rd.blkC 3 rfl | exact Rd.blkC 4 rfl)
        case h9 => rfl
        case g9 => first | exact fun _ => trivial | (intro hg; (try simp only [decide_eq_true_eq, decide_eq_false_iff_not, beq_iff_eq, bne_iff_ne, beq_eq_false_iff_ne, bne_eq_false_iff_eq, ne_eq, Bool.or_eq_true, Bool.or_eq_false_iff, Bool.and_eq_true, Bool.and_eq_false_imp, Bool.not_eq_true, Bool.not_eq_true', Bool.not_eq_false', Classical.not_not, Int.not_lt, Int.not_le, gt_iff_lt, ge_iff_le] at hg); (try dsimp only); omega)
        refine' WG.y rfl rfl (by decide) (Yl.loadG tab_ok rfl rfl rfl (by first | exact fun _ => rfl | exact fun h => h | (intro h; simp_all)) ?r10 rfl ?h10 ?g10) ?_
        case r10 => (first | exact Rd.blkC 0 rfl | exact Rd.blkC 1 rfl | exact Rd.blkC 2 rfl | exact Rd.blkC 3 rfl | exact Rd.blkC 4 rfl)
        case h10 => rfl
        case g10 => first | exact fun _ => trivial | (intro hg; (try simp only [decide_eq_true_eq, decide_eq_false_iff_not, beq_iff_eq, bne_iff_ne, beq_eq_false_iff_ne, bne_eq_false_iff_eq, ne_eq, Bool.or_eq_true, Bool.or_eq_false_iff, Bool.and_eq_true, Bool.and_eq_false_imp, Bool.not_eq_true, Bool.not_eq_true', Bool.not_eq_false', Classical.not_not, Int.not_lt, Int.not_le, gt_iff_lt, ge_iff_le] at hg); (try dsimp only); omega)
        refine WG.callV en17 rfl rfl (by decide) (CallOp.mk' rfl rfl rfl rfl) (by first | exact fun _ => rfl | exact fun h => h | (intro h; simp_all)) (fun hg => Same16_V (hd1.mono hR6) hd2 (ho1.mono hR6) ho2 (fun r hr => (hr1 r hr).mono hR6) hr2 rfl (by rw [hx1, hx2])) ?_
        refine WG.y rfl rfl (by decide) (pureV_ok tab_ok rfl (by first | exact fun _ => rfl | exact fun h => h | (intro h; simp_all))) ?_
        refine WG.y rfl rfl (by decide) (Yl.por rfl rfl rfl (fun _ => rfl) (by intro h1 h2; simp_all <;> omega)) ?_
        refine WG.nil ?_
        refine WE.nxt ?_
        refine W.cond rfl (fun hc3 => ?_) (fun hc3 => ?_)
        · try simp only [decide_eq_true_eq, decide_eq_false_iff_not, beq_iff_eq, bne_iff_ne, beq_eq_false_iff_ne, bne_eq_false_iff_eq, ne_eq, Bool.or_eq_true, Bool.or_eq_false_iff, Bool.and_eq_true, Bool.and_eq_false_imp, Bool.not_eq_true, Bool.not_eq_true', Bool.not_eq_false', Classical.not_not, Int.not_lt, Int.not_le, gt_iff_lt, ge_iff_le] at hc3
          first | done | (simp at hc3; done) | exact absurd hc3 (by decide)
        · try simp only [decide_eq_true_eq, decide_eq_false_iff_not, beq_iff_eq, bne_iff_ne, beq_eq_false_iff_ne, bne_eq_false_iff_eq, ne_eq, Bool.or_eq_true, Bool.or_eq_false_iff, Bool.and_eq_true, Bool.and_eq_false_imp, Bool.not_eq_true, Bool.not_eq_true', Bool.not_eq_false', Classical.not_not, Int.not_lt, Int.not_le, gt_iff_lt, ge_iff_le] at hc3
          refine W.skip ?_
          refine WE.nxt ?_
          refine W.seq ?_
          refine W.seq ?_
          refine W.region _ ?_
          refine WG.run tab_ok 2 rfl ?_
          refine WG.nil ?_
          refine WE.nxt ?_
          refine W.condN rfl (fun hc4 => ?_) (fun hc4 => ?_)
          · try dsimp only at hc4
            refine W.exit ?_
            refine WE.then_exit ?_
            refine WE.blk_exit ?_
            refine WE.nxt ?_
            refine W.region _ ?_
            refine WG.y rfl rfl (by decide) (Yl.add rfl rfl rfl (fun _ => rfl) (by intro _; constructor <;> (try dsimp only) <;> omega)) ?_
            refine WG.run tab_ok 1 rfl ?_
            refine WG.nil ?_
            refine WE.again ((R6, i + 1, cn)) (⟨by dsimp only; omega, hRk1.trans (hR5.trans hR6)⟩) (by (try dsimp only); omega) ⟨rfl, rfl, rfl, rfl, rfl, rfl, rfl, rfl, rfl, rfl, rfl, rfl, rfl⟩ (RLe.refl _) (by (repeat (first | exact List.Sublist.refl _ | exact List.nil_sublist _ | apply List.Sublist.cons_cons | apply List.Sublist.cons)); done)
          · try dsimp only at hc4
            have hOK : lrunE (nth tr i).1 (nth tr i).2.1 (nth tr i).2.2 (nth tl j).xs = 0 := hc4
            obtain ⟨hok2, _, _, b1, b2, b3, b4, b5, b6, hsz0, _⟩ := lrunE_ok hOK
            have hlen2 := hok2.len
            refine W.skip ?_
            refine WE.nxt ?_
            refine W.seq ?_
            refine W.regionH _ (ES := [.blk b18 (enc3 (nth tr i))]) mixed ?_
            refine WA.take 0 rfl (by kernel_rfl) (by kernel_rfl) (by kernel_rfl) rfl rfl (by decide) (pureV_ok tab_ok rfl (fun _ => rfl)) (by (repeat (first | exact List.Sublist.refl _ | exact List.nil_sublist _ | apply List.Sublist.cons_cons | apply List.Sublist.cons)); done) (by first | exact RLe.refl _ | assumption) ?_
            refine WA.take 1 rfl (by kernel_rfl) (by kernel_rfl) (by kernel_rfl) rfl rfl (by decide) (pureV_ok tab_ok rfl (fun _ => rfl)) (by (repeat (first | exact List.Sublist.refl _ | exact List.nil_sublist _ | apply List.Sublist.cons_cons | apply List.Sublist.cons)); done) (by first | exact RLe.refl _ | assumption) ?_
            refine WA.take 3 rfl (by kernel_rfl) (by kernel_rfl) (by kernel_rfl) rfl rfl (by decide) (Yl.indexArr tab_ok rfl rfl rfl rfl rfl rfl (fun _ => rfl) (by intro _; constructor <;> (try dsimp only) <;> omega)) (by (repeat (first | exact List.Sublist.refl _ | exact List.nil_sublist _ | apply List.Sublist.cons_cons | apply List.Sublist.cons)); done) (by first | exact RLe.refl _ | assumption) ?_
            refine' WA.take 4 rfl (by kernel_rfl) (by kernel_rfl) (by kernel_rfl) rfl rfl (by decide) (Yl.load1 tab_ok rfl rfl rfl (fun _ => rfl) ?r11 rfl ?h11) (by (repeat (first | exact List.Sublist.refl _ | exact List.nil_sublist _ | apply List.Sublist.cons_cons | apply List.Sublist.cons)); done) (by first | exact RLe.refl _ | assumption) ?_
            case r11 => apply Rd.add; (first | exact Rd.blk 0 rfl | exact Rd.blk 1 rfl | exact Rd.blk 2 rfl | exact Rd.blk 3 rfl | exact Rd.blk 4 rfl)
            case h11 => rfl
            refine WA.take 5 rfl (by kernel_rfl) (by kernel_rfl) (by kernel_rfl) rfl rfl (by decide) (Yl.indexArr tab_ok rfl rfl rfl rfl rfl rfl (fun _ => rfl) (by intro _; constructor <;> (try dsimp only) <;> omega)) (by (repeat (first | exact List.Sublist.refl _ | exact List.nil_sublist _ | apply List.Sublist.cons_cons | apply List.Sublist.cons)); done) (by first | exact RLe.refl _ | assumption) ?_
            refine' WA.take 6 rfl (by kernel_rfl) (by kernel_rfl) (by kernel_rfl) rfl rfl (by decide) (Yl.load1 tab_ok rfl rfl rfl (fun _ => rfl) ?r12 rfl ?h12) (by (repeat (first | exact List.Sublist.refl _ | exact List.nil_sublist _ | apply List.Sublist.cons_cons | apply List.Sublist.cons)); done) (by first | exact RLe.refl _ | assumption) ?_
            case r12 => apply Rd.add; (first | exact Rd.blk 0 rfl | exact Rd.blk 1 rfl | exact Rd.blk 2 rfl | exact Rd.blk 3 rfl | exact Rd.blk 4 rfl)
            case h12 => rfl
            refine WA.take 7 rfl (by kernel_rfl) (by kernel_rfl) (by kernel_rfl) rfl rfl (by decide) (Yl.add rfl rfl rfl (fun _ => rfl) (by intro _; constructor <;> (try dsimp only) <;> omega)) (by (repeat (first | exact List.Sublist.refl _ | exact List.nil_sublist _ | apply List.Sublist.cons_cons | apply List.Sublist.cons)); done) (by first | exact RLe.refl _ | assumption) ?_
            refine WA.take 10 rfl (by kernel_rfl) (by kernel_rfl) (by kernel_rfl) rfl rfl (by decide) (pureV_ok tab_ok rfl (fun _ => rfl)) (by (repeat (first | exact List.Sublist.refl _ | exact List.nil_sublist _ | apply List.Sublist.cons_cons | apply List.Sublist.cons)); done) (by first | exact RLe.refl _ | assumption) ?_
            refine WA.callAt 3 2 rfl (by kernel_rfl) en13 rfl rfl (by decide) (CallOp.mkT rfl rfl rfl rfl) rfl (N_C w0 hz (by constructor <;> decide) _) ?_
            rintro _ _ _ _ - ⟨rfl, rfl, rfl, rfl⟩
            refine ⟨RLe.refl _, (by (repeat (first | exact List.Sublist.refl _ | exact List.nil_sublist _ | apply List.Sublist.cons_cons | apply List.Sublist.cons)); done), ?_⟩
            refine WA.eff 8 rfl (by kernel_rfl) rfl rfl (by decide) (Ef.buildSliceD (enc := encI) (parts := [.tmp 114, .const (.int .i64 0), .tmp 116, .tmp 118, .tmp 121]) [_, _, _, _, _] tab_ok rfl rfl rfl rfl rfl rfl rfl rfl (by decide) (by decide) (fun a122 => ?_))
            refine ⟨RLe.refl _, (by (repeat (first | exact List.Sublist.refl _ | exact List.nil_sublist _ | apply List.Sublist.cons_cons | apply List.Sublist.cons)); done), ?_⟩
            refine WA.take 9 rfl (by kernel_rfl) (by kernel_rfl) (by kernel_rfl) rfl rfl (by decide) (pureV_ok tab_ok rfl (fun _ => rfl)) (by (repeat (first | exact List.Sublist.refl _ | exact List.nil_sublist _ | apply List.Sublist.cons_cons | apply List.Sublist.cons)); done) (by first | exact RLe.refl _ | assumption) ?_
            refine WA.done (by kernel_rfl) ?_
            refine WE.nxt ?_
            refine W.block ?_
            refine W.freeze (enc := encI) 0 rfl ?_
            intro R7 hR7 htq
            obtain ⟨tq, htq, htql⟩ : ∃ tq : List Int, RS R7 1 encI (some ⟨a122, 0, none⟩) tq ∧ tq.length = 5 := ⟨_, htq, rfl⟩
            have hq := hq.mono hR7
            have hz := hz.mono hR7
            have ho2 := ho2.mono hR7
            have hr2 := fun r hr => (hr2 r hr).mono hR7
            have hrl2 : (rows2.length : Int) = (nth tr i).2.1 := by have := lineOut_len hOK; rw [← hx2, List.length_map] at this; exact this
            obtain ⟨mm, hmmd⟩ : ∃ mm : Nat, (mm : Int) = (nth tr i).2.2 + 1 := ⟨((nth tr i).2.2 + 1).toNat, by omega⟩
            have hmm : ∀ r ∈ rows2, r.xs.length = mm ∧ ∀ x ∈ r.xs, 0 ≤ x ∧ x ≤ 1000000000 := fun r hr => by
              have := lineOut_ok hOK (l := r.xs) (by rw [← hx2]; exact List.mem_map_of_mem hr)
              exact ⟨by omega, this.2⟩
            have hsz : ∀ p ∈ (nth tl j).xs, 0 ≤ p.size ∧ p.size ≤ 1000000 := fun p hp => by have := hsz0 p hp; omega
            refine W.loop (β := Nat × Nat) (fun (k, cn) => k ≤ 5) (fun (k, cn) => [(1, true, .int .i64 z1), (2, true, .int .i64 z2), (3, true, .int .i64 z3), (4, true, .int .i64 z4), (13, true, .pointer (some ⟨b, 0, none⟩)), (49, true, .slice (some ⟨a49, 0, none⟩) 3 3), (50, true, .int .i64 ((3 : Nat) : Int)), (51, true, .int .i64 (j : Int)), (16, true, .slice (nth tl j).a (nth tl j).xs.length (nth tl j).cap), (75, true, .slice (some ⟨a75, 0, none⟩) 3 3), (76, true, .int .i64 ((3 : Nat) : Int)), (77, true, .int .i64 (i : Int)), (21, true, .pointer (some ⟨b21, 0, none⟩)), (122, true, .slice (some ⟨a122, 0, none⟩) 5 5), (123, true, .int .i64 ((5 : Nat) : Int)), (124, true, .int .i64 (k : Int))]) (fun _ => R7) (fun (k, cn) => [.blk b21 [.slice d2 (lineOut (nth tr i).1 (nth tr i).2.1 (nth tr i).2.2 (nth tl j).xs).1.length dc2, .slice o2 rows2.length oc2], srcE b a c (xs.take 2000) cn]) (fun (k, cn) => 5 - k) ((0, _)) (Nat.zero_le _) ⟨rfl, rfl, rfl, rfl, rfl, rfl, rfl, rfl, rfl, rfl, rfl, rfl, rfl, rfl, rfl, rfl, rfl⟩ (RLe.refl _) (by (repeat (first | exact List.Sublist.refl _ | exact List.nil_sublist _ | apply List.Sublist.cons_cons | apply List.Sublist.cons)); done) ?_
            intro st hst
            obtain ⟨k, cn⟩ := st
            have hk : k ≤ 5 := hst
            dsimp only at hk ⊢
            refine W.seq ?_
            refine W.region _ ?_
            refine WG.run tab_ok 1 rfl ?_
            refine WG.nil ?_
            refine WE.nxt ?_
            refine W.seq ?_
            refine W.condD rfl (fun hc5 => ?_) (fun hc5 => ?_)
            · try dsimp only at hc5
              have hkl : k < tq.length := by omega
              refine W.skip ?_
              refine WE.nxt ?_
              refine W.seq ?_
              refine W.block ?_
              refine W.seq ?_
              refine W.region _ ?_
              refine WG.y rfl rfl (by decide) (Yl.indexN tab_ok rfl rfl rfl rfl rfl rfl (fun _ => rfl) (by intro _; (try dsimp only) <;> omega) (by intro _; first | exact fun _ _ _ _ => rfl | exact RS.has (by assumption) | exact fun _ _ _ _ => (by assumption) | exact HasMem.ownD 0 rfl | exact HasMem.ownD 1 rfl | exact HasMem.ownD 2 rfl | exact HasMem.ownD 3 rfl | exact HasMem.ownD 4 rfl)) ?_
              refine' WG.y rfl rfl (by decide) (Yl.load1 tab_ok rfl rfl rfl (fun _ => rfl) ?r13 rfl ?h13) ?_
              case r13 => (first | (apply RS.rdD; assumption; ((try dsimp only) <;> omega)) | exact Rd.slD 0 rfl (by (try dsimp only) <;> omega) | exact Rd.slD 1 rfl (by (try dsimp only) <;> omega) | exact Rd.slD 2 rfl (by (try dsimp only) <;> omega) | exact Rd.slD 3 rfl (by (try dsimp only) <;> omega) | exact Rd.slD 4 rfl (by (try dsimp only) <;> omega))
              case h13 => rfl
              refine WG.run tab_ok 1 rfl ?_
              refine WG.nil ?_
              refine WE.nxt ?_
              refine W.seq ?_
              refine W.region _ ?_
              refine WG.run tab_ok 1 rfl ?_
              refine WL.callAt 1 en13 rfl rfl (by decide) (CallOp.mkT rfl rfl rfl rfl) rfl (N_C w0 hz (by constructor <;> decide) _) ?_
              rintro _ _ _ _ - ⟨rfl, rfl, rfl, rfl⟩
              have hm6 := mod_range (nth (xs.take 2000) cn) (show (1 : Int) ≤ 6 by decide)
              refine WG.y rfl rfl (by decide) (Yl.sub rfl rfl rfl (fun _ => rfl) (by intro _; constructor <;> (try dsimp only) <;> omega)) ?_
              refine WG.run tab_ok 1 rfl ?_
              refine WG.nil ?_
              refine WE.nxt ?_
              refine W.seq ?_
              refine W.region _ ?_
              refine WG.run tab_ok 1 rfl ?_
              refine' WG.y rfl rfl (by decide) (Yl.load1 tab_ok rfl rfl rfl (fun _ => rfl) ?r14 rfl ?h14) ?_
              case r14 => (first | exact Rd.blk 0 rfl | exact Rd.blk 1 rfl | exact Rd.blk 2 rfl | exact Rd.blk 3 rfl | exact Rd.blk 4 rfl)
              case h14 => rfl
              refine WG.run tab_ok 2 rfl ?_
              refine WG.callV en18 rfl rfl (by decide) (CallOp.mk' rfl rfl rfl rfl) (fun _ => rfl) (fun hg => QueueA_V (m := mm) hq ho2 hr2 hsz (by omega) hmm (by omega) (by omega) (by omega)) ?_
              refine WG.run tab_ok 5 rfl ?_
              refine WG.nil ?_
              refine WE.nxt ?_
              refine W.seq ?_
              refine W.region _ ?_
              refine WG.run tab_ok 1 rfl ?_
              refine' WG.y rfl rfl (by decide) (Yl.load1 tab_ok rfl rfl rfl (fun _ => rfl) ?r15 rfl ?h15) ?_
              case r15 => (first | exact Rd.blk 0 rfl | exact Rd.blk 1 rfl | exact Rd.blk 2 rfl | exact Rd.blk 3 rfl | exact Rd.blk 4 rfl)
              case h15 => rfl
              refine WG.run tab_ok 2 rfl ?_
              refine WG.callV en19 rfl rfl (by decide) (CallOp.mk' rfl rfl rfl rfl) (fun _ => rfl) (fun hg => QueueR_V (m := mm) hq ho2 hr2 hsz (by omega) hmm (by omega) (by omega) (by omega)) ?_
              refine WG.run tab_ok 5 rfl ?_
              refine WG.nil ?_
              refine WE.nxt ?_
              refine W.seq ?_
              refine W.region _ ?_
              refine WG.run tab_ok 4 rfl ?_
              refine WG.y rfl rfl (by decide) (pureV_ok tab_ok rfl (by first | exact fun _ => rfl | exact fun h => h | (intro h; simp_all))) ?_
              refine WG.y rfl rfl (by decide) (pureV_ok tab_ok rfl (by first | exact fun _ => rfl | exact fun h => h | (intro h; simp_all))) ?_
              refine WG.y rfl rfl (by decide) (pureV_ok tab_ok rfl (by first | exact fun _ => rfl | exact fun h => h | (intro h; simp_all))) ?_
              refine WG.y rfl rfl (by decide) (Yl.por rfl rfl rfl (fun _ => rfl) (by intro h1 h2; simp_all <;> omega)) ?_
              refine WG.nil ?_
              refine WE.nxt ?_
              refine W.cond rfl (fun hc6 => ?_) (fun hc6 => ?_)
              · try simp only [decide_eq_true_eq, decide_eq_false_iff_not, beq_iff_eq, bne_iff_ne, beq_eq_false_iff_ne, bne_eq_false_iff_eq, ne_eq, Bool.or_eq_true, Bool.or_eq_false_iff, Bool.and_eq_true, Bool.and_eq_false_imp, Bool.not_eq_true, Bool.not_eq_true', Bool.not_eq_false', Classical.not_not, Int.not_lt, Int.not_le, gt_iff_lt, ge_iff_le] at hc6
                first | done | (simp at hc6; done) | exact absurd hc6 (by decide)
              · try simp only [decide_eq_true_eq, decide_eq_false_iff_not, beq_iff_eq, bne_iff_ne, beq_eq_false_iff_ne, bne_eq_false_iff_eq, ne_eq, Bool.or_eq_true, Bool.or_eq_false_iff, Bool.and_eq_true, Bool.and_eq_false_imp, Bool.not_eq_true, Bool.not_eq_true', Bool.not_eq_false', Classical.not_not, Int.not_lt, Int.not_le, gt_iff_lt, ge_iff_le] at hc6
                refine W.skip ?_
                refine WE.blk _ ?_
                refine WE.nxt ?_
                refine W.region _ ?_
                refine WG.y rfl rfl (by decide) (Yl.add rfl rfl rfl (fun _ => rfl) (by intro _; constructor <;> (try dsimp only) <;> omega)) ?_
                refine WG.run tab_ok 1 rfl ?_
                refine WG.nil ?_
                refine WE.again ((k + 1, cn + 1)) (by dsimp only; omega) (by (try dsimp only); omega) ⟨rfl, rfl, rfl, rfl, rfl, rfl, rfl, rfl, rfl, rfl, rfl, rfl, rfl, rfl, rfl, rfl, rfl⟩ (RLe.refl _) (by (repeat (first | exact List.Sublist.refl _ | exact List.nil_sublist _ | apply List.Sublist.cons_cons | apply List.Sublist.cons)); done)
            · try dsimp only at hc5
              refine W.exit ?_
              refine WE.then_exit ?_
              refine WE.then_exit ?_
              refine WE.blk_exit ?_
              refine WE.blk _ ?_
              refine WE.nxt ?_
              refine W.region _ ?_
              refine WG.y rfl rfl (by decide) (Yl.add rfl rfl rfl (fun _ => rfl) (by intro _; constructor <;> (try dsimp only) <;> omega)) ?_
              refine WG.run tab_ok 1 rfl ?_
              refine WG.nil ?_
              refine WE.again ((R7, i + 1, cn)) (⟨by dsimp only; omega, hRk1.trans (hR5.trans (hR6.trans hR7))⟩) (by (try dsimp only); omega) ⟨rfl, rfl, rfl, rfl, rfl, rfl, rfl, rfl, rfl, rfl, rfl, rfl, rfl⟩ (RLe.refl _) (by (repeat (first | exact List.Sublist.refl _ | exact List.nil_sublist _ | apply List.Sublist.cons_cons | apply List.Sublist.cons)); done)
      · try dsimp only at hc2
        refine W.exit ?_
        refine WE.then_exit ?_
        refine WE.then_exit ?_
        refine WE.blk_exit ?_
        refine WE.blk _ ?_
        refine WE.nxt ?_
        refine W.region _ ?_
        refine WG.y rfl rfl (by decide) (Yl.add rfl rfl rfl (fun _ => rfl) (by intro _; constructor <;> (try dsimp only) <;> omega)) ?_
        refine WG.run tab_ok 1 rfl ?_
        refine WG.nil ?_
        refine WE.again ((Rk1, j + 1, cn)) (⟨by dsimp only; omega, hRk.trans (hR4.trans hRk1)⟩) (by (try dsimp only); omega) ⟨rfl, rfl, rfl, rfl, rfl, rfl, rfl, rfl, rfl⟩ (RLe.refl _) (by (repeat (first | exact List.Sublist.refl _ | exact List.nil_sublist _ | apply List.Sublist.cons_cons | apply List.Sublist.cons)); done)
    · try dsimp only at hc1
      refine W.exit ?_
      refine WE.then_exit ?_
      refine WE.then_exit ?_
      refine WE.blk_exit ?_
      refine WE.nxt ?_
      refine W.seq ?_
      refine W.seq ?_
      refine W.region _ ?_
      refine WG.run tab_ok 1 rfl ?_
      refine WL.ef rfl rfl (by decide) (Ef.buildSliceD (enc := encI) (parts := [.tmp 158, .const (.int .i64 1), .const (.int .i64 4000), .const (.int .i64 4001), .const (.int .i64 0)]) [_, _, _, _, _] tab_ok rfl rfl rfl rfl rfl rfl rfl rfl (by decide) (by decide) (fun a159 => ?_))
      refine WL.freeze (enc := encI) 0 rfl ?_
      intro R10 hR10 htz
      obtain ⟨tz, htz, htzl⟩ : ∃ tz : List Int, RS R10 1 encI (some ⟨a159, 0, none⟩) tz ∧ tz.length = 5 := ⟨_, htz, rfl⟩
      refine WG.run tab_ok 2 rfl ?_
      refine WG.nil ?_
      refine WE.nxt ?_
      refine W.block ?_
      refine W.loop (β := Ro × Nat) (fun (Rk, i) => i ≤ 5 ∧ RLe R10 Rk) (fun (Rk, i) => [(159, true, .slice (some ⟨a159, 0, none⟩) 5 5), (160, true, .int .i64 ((5 : Nat) : Int)), (161, true, .int .i64 (i : Int))]) (fun (Rk, _) => Rk) (fun _ => []) (fun (Rk, i) => 5 - i) ((R10, 0)) (⟨Nat.zero_le _, RLe.refl _⟩) ⟨rfl, rfl, rfl, rfl⟩ (RLe.refl _) (by (repeat (first | exact List.Sublist.refl _ | exact List.nil_sublist _ | apply List.Sublist.cons_cons | apply List.Sublist.cons)); done) ?_
      intro st hst
      obtain ⟨Rk2, i⟩ := st
      obtain ⟨hi, hRk2⟩ := hst
      dsimp only at hi hRk2 ⊢
      refine W.seq ?_
      refine W.region _ ?_
      refine WG.run tab_ok 1 rfl ?_
      refine WG.nil ?_
      refine WE.nxt ?_
      refine W.seq ?_
      refine W.condD rfl (fun hc7 => ?_) (fun hc7 => ?_)
      · try dsimp only at hc7
        have hil : i < tz.length := by omega
        have htz1 := htz.mono hRk2
        refine W.skip ?_
        refine WE.nxt ?_
        refine W.seq ?_
        refine W.block ?_
        refine W.seq ?_
        refine W.region _ ?_
        refine WG.y rfl rfl (by decide) (Yl.indexN tab_ok rfl rfl rfl rfl rfl rfl (fun _ => rfl) (by intro _; (try dsimp only) <;> omega) (by intro _; first | exact fun _ _ _ _ => rfl | exact RS.has (by assumption) | exact fun _ _ _ _ => (by assumption) | exact HasMem.ownD 0 rfl | exact HasMem.ownD 1 rfl | exact HasMem.ownD 2 rfl | exact HasMem.ownD 3 rfl | exact HasMem.ownD 4 rfl)) ?_
        refine' WG.y rfl rfl (by decide) (Yl.load1 tab_ok rfl rfl rfl (fun _ => rfl) ?r16 rfl ?h16) ?_
        case r16 => (first | (apply RS.rdD; assumption; ((try dsimp only) <;> omega)) | exact Rd.slD 0 rfl (by (try dsimp only) <;> omega) | exact Rd.slD 1 rfl (by (try dsimp only) <;> omega) | exact Rd.slD 2 rfl (by (try dsimp only) <;> omega) | exact Rd.slD 3 rfl (by (try dsimp only) <;> omega) | exact Rd.slD 4 rfl (by (try dsimp only) <;> omega))
        case h16 => rfl
        refine WG.run tab_ok 1 rfl ?_
        refine WG.nil ?_
        refine WE.nxt ?_
        refine W.seq ?_
        refine W.region _ ?_
        refine WG.run tab_ok 1 rfl ?_
        refine WL.call en20 rfl rfl (by decide) (CallOp.mkT rfl rfl rfl rfl) (ServeA w0 _) ?_
        rintro _ R11 _ hR11 ⟨f1, fc1, fx1, per1, inc1, rfl, hf1, he1, hsub1⟩
        refine WL.subE hsub1 ?_
        refine WG.run tab_ok 3 rfl ?_
        refine WL.ef rfl rfl (by decide) (Ef.alloc tab_ok rfl rfl (fun b32 => ?_))
        first | refine WL.efN rfl rfl (Ef.store0 0 tab_ok rfl rfl rfl rfl rfl rfl rfl rfl ?_) | refine WL.efN rfl rfl (Ef.store0 1 tab_ok rfl rfl rfl rfl rfl rfl rfl rfl ?_) | refine WL.efN rfl rfl (Ef.store0 2 tab_ok rfl rfl rfl rfl rfl rfl rfl rfl ?_) | refine WL.efN rfl rfl (Ef.store0 3 tab_ok rfl rfl rfl rfl rfl rfl rfl rfl ?_) | refine WL.efN rfl rfl (Ef.store0 4 tab_ok rfl rfl rfl rfl rfl rfl rfl rfl ?_)
        refine WG.run tab_ok 1 rfl ?_
        refine WG.nil ?_
        refine WE.nxt ?_
        refine W.seq ?_
        refine W.region _ ?_
        refine WG.run tab_ok 1 rfl ?_
        refine WL.call en21 rfl rfl (by decide) (CallOp.mkT rfl rfl rfl rfl) (ServeRA w0 _) ?_
        rintro _ R12 _ hR12 ⟨f2, fc2, fx2, per2, inc2, rfl, hf2, he2, hsub2⟩
        refine WL.subE hsub2 ?_
        have hee := he1.trans he2.symm
        simp only [Prod.mk.injEq] at hee
        refine WG.run tab_ok 3 rfl ?_
        refine WL.ef rfl rfl (by decide) (Ef.alloc tab_ok rfl rfl (fun b34 => ?_))
        first | refine WL.efN rfl rfl (Ef.store0 0 tab_ok rfl rfl rfl rfl rfl rfl rfl rfl ?_) | refine WL.efN rfl rfl (Ef.store0 1 tab_ok rfl rfl rfl rfl rfl rfl rfl rfl ?_) | refine WL.efN rfl rfl (Ef.store0 2 tab_ok rfl rfl rfl rfl rfl rfl rfl rfl ?_) | refine WL.efN rfl rfl (Ef.store0 3 tab_ok rfl rfl rfl rfl rfl rfl rfl rfl ?_) | refine WL.efN rfl rfl (Ef.store0 4 tab_ok rfl rfl rfl rfl rfl rfl rfl rfl ?_)
        refine WG.run tab_ok 1 rfl ?_
        refine WG.nil ?_
        refine WE.nxt ?_
        refine W.seq ?_
        refine W.region _ ?_
        refine WG.run tab_ok 4 rfl ?_
        refine' WG.y rfl rfl (by decide) (Yl.loadG tab_ok rfl rfl rfl (by first | exact fun _ => rfl | exact fun h => h | (intro h; simp_all)) ?r17 rfl ?h17 ?g17) ?_
        case r17 => (first | exact Rd.blkC 0 rfl | exact Rd.blkC 1 rfl | exact Rd.blkC 2 rfl | exact Rd.blkC 3 rfl | exact Rd.blkC 4 rfl)
        case h17 => rfl
        case g17 => first | exact fun _ => trivial | (intro hg; (try simp only [decide_eq_true_eq, decide_eq_false_iff_not, beq_iff_eq, bne_iff_ne, beq_eq_false_iff_ne, bne_eq_false_iff_eq, ne_eq, Bool.or_eq_true, Bool.or_eq_false_iff, Bool.and_eq_true, Bool.and_eq_false_imp, Bool.not_eq_true, Bool.not_eq_true', Bool.not_eq_false', Classical.not_not, Int.not_lt, Int.not_le, gt_iff_lt, ge_iff_le] at hg); (try dsimp only); omega)
        refine' WG.y rfl rfl (by decide) (Yl.loadG tab_ok rfl rfl rfl (by first | exact fun _ => rfl | exact fun h => h | (intro h; simp_all)) ?r18 rfl ?h18 ?g18) ?_
        case r18 => (first | exact Rd.blkC 0 rfl | exact Rd.blkC 1 rfl | exact Rd.blkC 2 rfl | exact Rd.blkC 3 rfl | exact Rd.blkC 4 rfl)
        case h18 => rfl
        case g18 => first | exact fun _ => trivial | (intro hg; (try simp only [decide_eq_true_eq, decide_eq_false_iff_not, beq_iff_eq, bne_iff_ne, beq_eq_false_iff_ne, bne_eq_false_iff_eq, ne_eq, Bool.or_eq_true, Bool.or_eq_false_iff, Bool.and_eq_true, Bool.and_eq_false_imp, Bool.not_eq_true, Bool.not_eq_true', Bool.not_eq_false', Classical.not_not, Int.not_lt, Int.not_le, gt_iff_lt, ge_iff_le] at hg); (try dsimp only); omega)
        refine WG.callV en22 rfl rfl (by decide) (CallOp.mk' rfl rfl rfl rfl) (by first | exact fun _ => rfl | exact fun h => h | (intro h; simp_all)) (fun hg => Same02_V (hf1.mono hR12) hf2) ?_
        refine WG.y rfl rfl (by decide) (pureV_ok tab_ok rfl (by first | exact fun _ => rfl | exact fun h => h | (intro h; simp_all))) ?_
        refine WG.y rfl rfl (by decide) (Yl.por rfl rfl rfl (fun _ => rfl) (by intro h1 h2; simp_all <;> omega)) ?_
        refine WG.nil ?_
        refine WE.nxt ?_
        refine W.cond rfl (fun hc8 => ?_) (fun hc8 => ?_)
        · try simp only [decide_eq_true_eq, decide_eq_false_iff_not, beq_iff_eq, bne_iff_ne, beq_eq_false_iff_ne, bne_eq_false_iff_eq, ne_eq, Bool.or_eq_true, Bool.or_eq_false_iff, Bool.and_eq_true, Bool.and_eq_false_imp, Bool.not_eq_true, Bool.not_eq_true', Bool.not_eq_false', Classical.not_not, Int.not_lt, Int.not_le, gt_iff_lt, ge_iff_le] at hc8
          simp [hee.1, hee.2.1, hee.2.2] at hc8
        · try simp only [decide_eq_true_eq, decide_eq_false_iff_not, beq_iff_eq, bne_iff_ne, beq_eq_false_iff_ne, bne_eq_false_iff_eq, ne_eq, Bool.or_eq_true, Bool.or_eq_false_iff, Bool.and_eq_true, Bool.and_eq_false_imp, Bool.not_eq_true, Bool.not_eq_true', Bool.not_eq_false', Classical.not_not, Int.not_lt, Int.not_le, gt_iff_lt, ge_iff_le] at hc8
          refine W.skip ?_
          refine WE.blk _ ?_
          refine WE.nxt ?_
          refine W.region _ ?_
          refine WG.y rfl rfl (by decide) (Yl.add rfl rfl rfl (fun _ => rfl) (by intro _; constructor <;> (try dsimp only) <;> omega)) ?_
          refine WG.run tab_ok 1 rfl ?_
          refine WG.nil ?_
          refine WE.again ((R12, i + 1)) (⟨by dsimp only; omega, hRk2.trans (hR11.trans hR12)⟩) (by (try dsimp only); omega) ⟨rfl, rfl, rfl, rfl⟩ (RLe.refl _) (by (repeat (first | exact List.Sublist.refl _ | exact List.nil_sublist _ | apply List.Sublist.cons_cons | apply List.Sublist.cons)); done)
      · try dsimp only at hc7
        refine W.exit ?_
        refine WE.then_exit ?_
        refine WE.then_exit ?_
        refine WE.blk_exit ?_
        refine WE.nxt ?_
        refine W.seq ?_
        refine W.region _ ?_
        refine WL.call en9 rfl rfl (by decide) (CallOp.mkT rfl rfl rfl rfl) (Awake_C w0 _) ?_
        rintro _ R13 E9 hR13 ⟨rfl, hsub9⟩
        refine WL.subE hsub9 ?_
        refine WG.run tab_ok 1 rfl ?_
        refine WG.nil ?_
        refine WE.nxt ?_
        refine W.ret ?_
        refine WE.retF tab_ok [_] rfl ⟨rfl, trivial⟩ (by first | exact hR9 | exact hR1.trans (hR2.trans (hR3.trans (hRk.trans (hR10.trans (hRk2.trans hR13)))))) ?_
        exact rfl

end Go.Proofs.Ytgcpmmbljhnacaa
