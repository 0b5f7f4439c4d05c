/- Chapter 19: the runs. No condition. -/
import Derived.Test.YtcfnckccmkjjlaaTab
import Derived.Test.YtcfnckccmkjjlaaLoop
import Derived.Test.YtcfnckccmkjjlaaFun
import Derived.Test.YtcfnckccmkjjlaaAns
import Derived.Test.YtcfnckccmkjjlaaT1
import Derived.Test.YtcfnckccmkjjlaaT3
import Derived.Test.YtcfnckccmkjjlaaT4
import Derived.Test.YtcfnckccmkjjlaaT16
import Derived.Test.YtcfnckccmkjjlaaT20
import Derived.Test.YtcfnckccmkjjlaaT21
import Derived.Test.YtcfnckccmkjjlaaT23
import Derived.Test.YtcfnckccmkjjlaaT24
import Derived.Test.YtcfnckccmkjjlaaT25
import Derived.Test.YtcfnckccmkjjlaaT30
set_option linter.unusedSimpArgs false
set_option linter.unusedVariables false
namespace Go.Proofs.Ytcfnckccmkjjlaa
open Go Go.RowKit Go.Proofs.Ytcfnckccmkjjlaa.K Go.Proofs.Ytcfnckccmkjjlaa.M

theorem RobinRuns_F {R : Ro} {ra la : Option Addr} {rc lc : Nat} {raw : List Pkt} {list : List Int} {z2 z3 : Int} {a : Option Addr} {c : Nat} {xs : List Int} (hraw : RS R 3 encP ra raw) (hlist : RS R 1 encI la list) (ha : RS R 1 encI a xs) (hc : xs.length ≤ c) (w0 : World) : K.Fn Try.prog 3 [.slice ra raw.length rc, .slice la list.length lc, .int .i64 z2, .int .i64 z3, .slice a xs.length c] w0 R [] (fun v _ _ => v = .bool true) := by
  have hlr := hraw.len
  have hll := hlist.len
  refine Fn.enter (n := 116) Try.func3 rfl rfl (Nat.le_of_ble_eq_true rfl) rfl ?_
  refine W.seq ?_
  refine W.region _ ?_
  refine WG.run tab_ok 1 rfl ?_
  refine WG.nil ?_
  refine WE.nxt ?_
  refine W.seq ?_
  refine W.seq ?_
  refine W.region _ ?_
  refine WG.run tab_ok 4 rfl ?_
  refine WG.y rfl rfl (by decide) (pureV_ok tab_ok rfl (by first | exact fun _ => rfl | exact fun h => h | (intro h; simp_all))) ?_
  refine WG.y rfl rfl (by decide) (pureV_ok tab_ok rfl (by first | exact fun _ => rfl | exact fun h => h | (intro h; simp_all))) ?_
  refine WG.y rfl rfl (by decide) (pureV_ok tab_ok rfl (by first | exact fun _ => rfl | exact fun h => h | (intro h; simp_all))) ?_
  refine WG.y rfl rfl (by decide) (Yl.por rfl rfl rfl (fun _ => rfl) (by intro h1 h2; simp_all <;> omega)) ?_
  refine WG.nil ?_
  refine WE.nxt ?_
  refine W.cond rfl (fun hc0 => ?_) (fun hc0 => ?_)
  · try simp only [decide_eq_true_eq, decide_eq_false_iff_not, beq_iff_eq, bne_iff_ne, beq_eq_false_iff_ne, bne_eq_false_iff_eq, ne_eq, Bool.or_eq_true, Bool.or_eq_false_iff, Bool.and_eq_true, Bool.and_eq_false_imp, Bool.not_eq_true, Bool.not_eq_true', Bool.not_eq_false', Classical.not_not, Int.not_lt, Int.not_le, gt_iff_lt, ge_iff_le] at hc0
    refine W.seq ?_
    refine W.region _ ?_
    refine WL.call en15 rfl rfl (by decide) (CallOp.mkT rfl rfl rfl rfl) (Awake19_C w0 _) ?_
    rintro _ R9 E9 hR9 ⟨rfl, hsub9⟩
    refine WL.subE hsub9 ?_
    refine WG.run tab_ok 1 rfl ?_
    refine WG.nil ?_
    refine WE.nxt ?_
    refine W.ret ?_
    refine WE.then_ret ?_
    refine WE.retF tab_ok [_] rfl ⟨rfl, trivial⟩ (by first | exact hR9 | exact hR12.trans (hR3.trans (hRk.trans hR13))) ?_
    exact rfl
  · try simp only [decide_eq_true_eq, decide_eq_false_iff_not, beq_iff_eq, bne_iff_ne, beq_eq_false_iff_ne, bne_eq_false_iff_eq, ne_eq, Bool.or_eq_true, Bool.or_eq_false_iff, Bool.and_eq_true, Bool.and_eq_false_imp, Bool.not_eq_true, Bool.not_eq_true', Bool.not_eq_false', Classical.not_not, Int.not_lt, Int.not_le, gt_iff_lt, ge_iff_le] at hc0
    refine W.skip ?_
    refine WE.nxt ?_
    refine W.seq ?_
    refine W.region _ ?_
    refine WG.run tab_ok 1 rfl ?_
    refine WL.call en16 rfl rfl (by decide) (CallOp.mkT rfl rfl rfl rfl) (New_C w0 _ hc) ?_
    rintro _ _ _ - ⟨b, rfl, rfl, rfl⟩
    have hz := ha.take 2000
    refine WG.run tab_ok 1 rfl ?_
    refine WG.nil ?_
    refine WE.nxt ?_
    refine W.seq ?_
    refine W.region _ ?_
    refine WG.run tab_ok 1 rfl ?_
    refine WL.callAt 0 en17 rfl rfl (by decide) (CallOp.mkT rfl rfl rfl rfl) rfl (Traffic_C w0 hz (by decide) (by constructor <;> decide) (by decide) _) ?_
    rintro _ _ _ _ - ⟨a2, c2, rfl, rfl, rfl, rfl⟩
    refine WL.freeze (enc := encP) (xs := (traffic (xs.take 2000) 12 3 40 0)) 0 rfl ?_
    intro R1 hR1 hp
    have hz := hz.mono hR1
    have hok := traffic_ok (xs.take 2000) (n := 12) (flows := 3) (most := 40) (by decide) (by decide) (by decide) 0
    have hat := traffic_at (xs.take 2000) (n := 12) (flows := 3) (most := 40) (by decide) (by decide) (by decide) 0
    have hlt := traffic_len (xs.take 2000) (n := 12) (flows := 3) (most := 40) (by decide) 0
    generalize (traffic (xs.take 2000) 12 3 40 0) = ps at hp hok hat hlt ⊢
    generalize 0 + 1 + 3 * trafficK (xs.take 2000) 12 0 = cn1
    refine WG.run tab_ok 1 rfl ?_
    refine WL.callAt 0 en18 rfl rfl (by decide) (CallOp.mkT rfl rfl rfl rfl) rfl (Weights19_C w0 (n := 3) hz (by decide) _) ?_
    rintro _ _ _ _ - ⟨aw, cw, rfl, rfl, rfl, rfl⟩
    have hwl3 := fvals_len (wgtF 3 (xs.take 2000) cn1) 3
    generalize fvals (wgtF 3 (xs.take 2000) cn1) 3 = w at hwl3 ⊢
    refine WL.freeze (enc := encI) (xs := w) 0 rfl ?_
    intro R2 hR2 hw
    have hp := hp.mono hR2
    have hz := hz.mono hR2
    refine WG.run tab_ok 2 rfl ?_
    refine WG.nil ?_
    refine WE.nxt ?_
    refine W.seq ?_
    refine W.seq ?_
    refine W.region _ ?_
    refine WG.run tab_ok 4 rfl ?_
    refine WL.callAt 0 en19 rfl rfl (by decide) (CallOp.mkT rfl rfl rfl rfl) rfl (Broken_C w0 hz hp rfl (by omega) _) ?_
    rintro _ R2b _ _ hR2b ⟨a43, c43, cn0, qs, rfl, hqs, rfl, rfl⟩
    have hp := hp.mono hR2b
    have hz := hz.mono hR2b
    have hw := hw.mono hR2b
    have hR12 := hR1.trans (hR2.trans hR2b)
    have hraw := hraw.mono hR12
    have hlist := hlist.mono hR12
    refine WL.ef rfl rfl (by decide) (Ef.buildSliceD (enc := encL) (parts := [.tmp 39, .tmp 40, .tmp 43]) [(⟨a2, c2, ps⟩ : SlP), ⟨ra, rc, raw⟩, ⟨a43, c43, qs⟩] tab_ok rfl rfl rfl rfl rfl rfl rfl rfl (by decide) (by decide) (fun a44 => ?_))
    refine WL.freeze (enc := encL) 0 rfl ?_
    intro R3 hR3 htl0
    obtain ⟨tl, htl0, htll, htl⟩ : ∃ tl : List SlP, RS R3 1 encL (some ⟨a44, 0, none⟩) tl ∧ tl.length = 3 ∧ ∀ s ∈ tl, RS R3 3 encP s.a s.xs := ⟨_, htl0, rfl, fun s hs => by
      simp only [List.mem_cons, List.not_mem_nil, or_false] at hs
      rcases hs with rfl | rfl | rfl
      · exact hp.mono hR3
      · exact hraw.mono hR3
      · exact hqs.mono hR3⟩
    have hz3 := hz.mono hR3
    have hw3 := hw.mono hR3
    have hlist3 := hlist.mono hR3
    refine WG.run tab_ok 2 rfl ?_
    refine WG.nil ?_
    refine WE.nxt ?_
    refine W.block ?_
    refine W.loop (β := Ro × Nat × Nat) (fun (Rk, j, cn) => j ≤ 3 ∧ RLe R3 Rk) (fun (Rk, j, cn) => [(1, true, .slice la list.length lc), (2, true, .int .i64 z2), (3, true, .int .i64 z3), (11, true, .pointer (some ⟨b, 0, none⟩)), (13, true, .slice aw w.length cw), (44, true, .slice (some ⟨a44, 0, none⟩) 3 3), (45, true, .int .i64 ((3 : Nat) : Int)), (46, true, .int .i64 (j : Int))]) (fun (Rk, _, _) => Rk) (fun (Rk, j, cn) => [srcE b a c (xs.take 2000) (cn)]) (fun (Rk, j, cn) => 3 - j) ((R3, 0, cn0)) (⟨Nat.zero_le _, RLe.refl _⟩) ⟨rfl, rfl, rfl, rfl, rfl, rfl, rfl, rfl, rfl⟩ (RLe.refl _) (by (repeat (first | exact List.Sublist.refl _ | exact List.nil_sublist _ | apply List.Sublist.cons_cons | apply List.Sublist.cons)); done) ?_
    intro st hst
    obtain ⟨Rk, j, cn⟩ := st
    obtain ⟨hj, hRk⟩ := hst
    dsimp only at hj hRk ⊢
    have hz := hz3.mono hRk
    have hw := hw3.mono hRk
    have hlist := hlist3.mono hRk
    refine W.seq ?_
    refine W.region _ ?_
    refine WG.run tab_ok 1 rfl ?_
    refine WG.nil ?_
    refine WE.nxt ?_
    refine W.seq ?_
    refine W.condD rfl (fun hc1 => ?_) (fun hc1 => ?_)
    · try dsimp only at hc1
      have hjl : j < tl.length := by omega
      have hql := htl _ (nth_mem hjl)
      have htl1 := htl0.mono hRk
      refine W.skip ?_
      refine WE.nxt ?_
      refine W.seq ?_
      refine W.block ?_
      refine W.seq ?_
      refine W.region _ ?_
      refine WG.y rfl rfl (by decide) (Yl.indexN tab_ok rfl rfl rfl rfl rfl rfl (fun _ => rfl) (by intro _; (try dsimp only) <;> omega) (by intro _; first | exact fun _ _ _ _ => rfl | exact RS.has (by assumption) | exact fun _ _ _ _ => (by assumption) | exact HasMem.ownD 0 rfl | exact HasMem.ownD 1 rfl | exact HasMem.ownD 2 rfl | exact HasMem.ownD 3 rfl | exact HasMem.ownD 4 rfl)) ?_
      refine' WG.y rfl rfl (by decide) (Yl.load1 tab_ok rfl rfl rfl (fun _ => rfl) ?r1 rfl ?h1) ?_
      case r1 => (first | (apply RS.rdD; assumption; ((try dsimp only) <;> omega)) | exact Rd.slD 0 rfl (by (try dsimp only) <;> omega) | exact Rd.slD 1 rfl (by (try dsimp only) <;> omega) | exact Rd.slD 2 rfl (by (try dsimp only) <;> omega) | exact Rd.slD 3 rfl (by (try dsimp only) <;> omega) | exact Rd.slD 4 rfl (by (try dsimp only) <;> omega))
      case h1 => rfl
      refine WG.run tab_ok 1 rfl ?_
      refine WG.nil ?_
      refine WE.nxt ?_
      refine W.seq ?_
      refine W.region _ ?_
      refine WG.run tab_ok 4 rfl ?_
      refine WL.callAt 0 en20 rfl rfl (by decide) (CallOp.mkT rfl rfl rfl rfl) rfl (Odd19_C w0 hz hw (by omega) _) ?_
      rintro _ Ra _ _ hRa ⟨a54, c54, cnb, qs2, rfl, hqs2, rfl, rfl⟩
      have hz := hz.mono hRa
      have hw := hw.mono hRa
      have hlist := hlist.mono hRa
      refine WL.ef rfl rfl (by decide) (Ef.buildSliceD (enc := encS) (parts := [.tmp 50, .tmp 51, .tmp 54]) [(⟨aw, cw, w⟩ : Sl), ⟨la, lc, list⟩, ⟨a54, c54, qs2⟩] tab_ok rfl rfl rfl rfl rfl rfl rfl rfl (by decide) (by decide) (fun a55 => ?_))
      refine WL.freeze (enc := encS) 0 rfl ?_
      intro R4 hR4 htw0
      obtain ⟨tw, htw0, htwl, htw⟩ : ∃ tw : List Sl, RS R4 1 encS (some ⟨a55, 0, none⟩) tw ∧ tw.length = 3 ∧ ∀ s ∈ tw, RS R4 1 encI s.a s.xs := ⟨_, htw0, rfl, fun s hs => by
        simp only [List.mem_cons, List.not_mem_nil, or_false] at hs
        rcases hs with rfl | rfl | rfl
        · exact hw.mono hR4
        · exact hlist.mono hR4
        · exact hqs2.mono hR4⟩
      have hz4 := hz.mono hR4
      have hql4 := hql.mono (hRk.trans (hRa.trans hR4))
      refine WG.run tab_ok 2 rfl ?_
      refine WG.nil ?_
      refine WE.nxt ?_
      refine W.block ?_
      refine W.loop (β := Ro × Nat × Nat) (fun (Rk, i, cn) => i ≤ 3 ∧ RLe R4 Rk) (fun (Rk, i, cn) => [(1, true, .slice la list.length lc), (2, true, .int .i64 z2), (3, true, .int .i64 z3), (11, true, .pointer (some ⟨b, 0, none⟩)), (13, true, .slice aw w.length cw), (44, true, .slice (some ⟨a44, 0, none⟩) 3 3), (45, true, .int .i64 ((3 : Nat) : Int)), (46, true, .int .i64 (j : Int)), (15, true, .slice (nth tl j).a (nth tl j).xs.length (nth tl j).cap), (55, true, .slice (some ⟨a55, 0, none⟩) 3 3), (56, true, .int .i64 ((3 : Nat) : Int)), (57, true, .int .i64 (i : Int))]) (fun (Rk, _, _) => Rk) (fun (Rk, i, cn) => [srcE b a c (xs.take 2000) (cn)]) (fun (Rk, i, cn) => 3 - i) ((R4, 0, _)) (⟨Nat.zero_le _, RLe.refl _⟩) ⟨rfl, rfl, rfl, rfl, rfl, rfl, rfl, rfl, rfl, rfl, rfl, rfl, rfl⟩ (RLe.refl _) (by (repeat (first | exact List.Sublist.refl _ | exact List.nil_sublist _ | apply List.Sublist.cons_cons | apply List.Sublist.cons)); done) ?_
      intro st hst
      obtain ⟨Rk1, i, cnb⟩ := st
      obtain ⟨hi, hRk1⟩ := hst
      dsimp only at hi hRk1 ⊢
      have hz := hz4.mono hRk1
      refine W.seq ?_
      refine W.region _ ?_
      refine WG.run tab_ok 1 rfl ?_
      refine WG.nil ?_
      refine WE.nxt ?_
      refine W.seq ?_
      refine W.condD rfl (fun hc2 => ?_) (fun hc2 => ?_)
      · try dsimp only at hc2
        have hil : i < tw.length := by omega
        have hyl := htw _ (nth_mem hil)
        have htw1 := htw0.mono hRk1
        refine W.skip ?_
        refine WE.nxt ?_
        refine W.seq ?_
        refine W.block ?_
        refine W.seq ?_
        refine W.region _ ?_
        refine WG.y rfl rfl (by decide) (Yl.indexN tab_ok rfl rfl rfl rfl rfl rfl (fun _ => rfl) (by intro _; (try dsimp only) <;> omega) (by intro _; first | exact fun _ _ _ _ => rfl | exact RS.has (by assumption) | exact fun _ _ _ _ => (by assumption) | exact HasMem.ownD 0 rfl | exact HasMem.ownD 1 rfl | exact HasMem.ownD 2 rfl | exact HasMem.ownD 3 rfl | exact HasMem.ownD 4 rfl)) ?_
        refine' WG.y rfl rfl (by decide) (Yl.load1 tab_ok rfl rfl rfl (fun _ => rfl) ?r2 rfl ?h2) ?_
        case r2 => (first | (apply RS.rdD; assumption; ((try dsimp only) <;> omega)) | exact Rd.slD 0 rfl (by (try dsimp only) <;> omega) | exact Rd.slD 1 rfl (by (try dsimp only) <;> omega) | exact Rd.slD 2 rfl (by (try dsimp only) <;> omega) | exact Rd.slD 3 rfl (by (try dsimp only) <;> omega) | exact Rd.slD 4 rfl (by (try dsimp only) <;> omega))
        case h2 => rfl
        refine WG.run tab_ok 1 rfl ?_
        refine WG.nil ?_
        refine WE.nxt ?_
        refine W.seq ?_
        refine W.region _ ?_
        refine WG.run tab_ok 1 rfl ?_
        refine WL.callAt 0 en21 rfl rfl (by decide) (CallOp.mkT rfl rfl rfl rfl) rfl (N_C w0 hz (by constructor <;> decide) _) ?_
        rintro _ _ _ _ - ⟨rfl, rfl, rfl, rfl⟩
        have hm30 := mod_range (nth (xs.take 2000) cnb) (show (1 : Int) ≤ 30 by decide)
        refine WG.y rfl rfl (by decide) (Yl.add rfl rfl rfl (fun _ => rfl) (by intro _; constructor <;> (try dsimp only) <;> omega)) ?_
        refine WG.run tab_ok 1 rfl ?_
        refine WL.callAt 0 en21 rfl rfl (by decide) (CallOp.mkT rfl rfl rfl rfl) rfl (N_C w0 hz (by constructor <;> decide) _) ?_
        rintro _ _ _ _ - ⟨rfl, rfl, rfl, rfl⟩
        -- build
        refine WG.y rfl rfl (by decide) (Yl.buildArr (parts := [(0, .tmp 63), (1, .tmp 65)]) tab_ok rfl rfl rfl rfl rfl (fun _ => rfl) rfl) ?_
        refine WG.run tab_ok 2 rfl ?_
        -- build
        refine WG.y rfl rfl (by decide) (Yl.buildArr (parts := [(0, .tmp 67), (1, .tmp 68)]) tab_ok rfl rfl rfl rfl rfl (fun _ => rfl) rfl) ?_
        refine WG.run tab_ok 1 rfl ?_
        refine WL.ef rfl rfl (by decide) (Ef.buildSliceD (enc := encI) (parts := [.const (.int .i64 0), .const (.int .i64 1), .const (.int .i64 7), .const (.int .i64 4000)]) [_, _, _, _] tab_ok rfl rfl rfl rfl rfl rfl rfl rfl (by decide) (by decide) (fun a71 => ?_))
        refine WL.callAt 1 en22 rfl rfl (by decide) (CallOp.mkT rfl rfl rfl rfl) rfl (PickN_C (j := 0) w0 [0, 1, 7, 4000] rfl (by decide) (by decide) hz rfl) ?_
        rintro _ _ _ _ - ⟨rfl, rfl, rfl, rfl⟩
        refine WG.run tab_ok 1 rfl ?_
        refine WL.ef rfl rfl (by decide) (Ef.buildSliceD (enc := encI) (parts := [.const (.int .i64 (-1)), .const (.int .i64 0), .const (.int .i64 20), .const (.int .i64 300), .const (.int .i64 2001)]) [_, _, _, _, _] tab_ok rfl rfl rfl rfl rfl rfl rfl rfl (by decide) (by decide) (fun a74 => ?_))
        refine WL.callAt 2 en22 rfl rfl (by decide) (CallOp.mkT rfl rfl rfl rfl) rfl (PickN_C (j := 0) w0 [-1, 0, 20, 300, 2001] rfl (by decide) (by decide) hz rfl) ?_
        rintro _ _ _ _ - ⟨rfl, rfl, rfl, rfl⟩
        -- build
        refine WG.y rfl rfl (by decide) (Yl.buildArr (parts := [(0, .tmp 72), (1, .tmp 75)]) tab_ok rfl rfl rfl rfl rfl (fun _ => rfl) rfl) ?_
        refine WL.ef rfl rfl (by decide) (Ef.buildSliceD (enc := enc2) (parts := [.tmp 66, .tmp 69, .tmp 76]) [⟨_, _⟩, ⟨_, _⟩, ⟨_, _⟩] tab_ok rfl rfl rfl rfl rfl rfl rfl rfl (by decide) (by decide) (fun a77 => ?_))
        refine WL.freeze (enc := enc2) 0 rfl ?_
        intro R7 hR7 htz
        obtain ⟨tz, htz, htzl⟩ : ∃ tz : List (Int × Int), RS R7 2 enc2 (some ⟨a77, 0, none⟩) tz ∧ tz.length = 3 := ⟨_, htz, rfl⟩
        have hq4 := hql4.mono (hRk1.trans hR7)
        have hy4 := hyl.mono (hRk1.trans hR7)
        refine WG.run tab_ok 2 rfl ?_
        refine WG.nil ?_
        refine WE.nxt ?_
        refine W.block ?_
        refine W.loop (β := Ro × Nat × Nat) (fun (Rk, k, cn) => k ≤ 3 ∧ RLe R7 Rk) (fun (Rk, k, cn) => [(1, true, .slice la list.length lc), (2, true, .int .i64 z2), (3, true, .int .i64 z3), (11, true, .pointer (some ⟨b, 0, none⟩)), (13, true, .slice aw w.length cw), (44, true, .slice (some ⟨a44, 0, none⟩) 3 3), (45, true, .int .i64 ((3 : Nat) : Int)), (46, true, .int .i64 (j : Int)), (15, true, .slice (nth tl j).a (nth tl j).xs.length (nth tl j).cap), (55, true, .slice (some ⟨a55, 0, none⟩) 3 3), (56, true, .int .i64 ((3 : Nat) : Int)), (57, true, .int .i64 (i : Int)), (17, true, .slice (nth tw i).a (nth tw i).xs.length (nth tw i).cap), (77, true, .slice (some ⟨a77, 0, none⟩) 3 3), (78, true, .int .i64 ((3 : Nat) : Int)), (79, true, .int .i64 (k : Int))]) (fun (Rk, _, _) => Rk) (fun (Rk, k, cn) => [srcE b a c (xs.take 2000) (cn)]) (fun (Rk, k, cn) => 3 - k) ((R7, 0, _)) (⟨Nat.zero_le _, RLe.refl _⟩) ⟨rfl, rfl, rfl, rfl, rfl, rfl, rfl, rfl, rfl, rfl, rfl, rfl, rfl, rfl, rfl, rfl, rfl⟩ (RLe.refl _) (by (repeat (first | exact List.Sublist.refl _ | exact List.nil_sublist _ | apply List.Sublist.cons_cons | apply List.Sublist.cons)); done) ?_
        intro st hst
        obtain ⟨Rk2, k, cnc⟩ := st
        obtain ⟨hk, hRk2⟩ := hst
        dsimp only at hk hRk2 ⊢
        refine W.seq ?_
        refine W.region _ ?_
        refine WG.run tab_ok 1 rfl ?_
        refine WG.nil ?_
        refine WE.nxt ?_
        refine W.seq ?_
        refine W.condD rfl (fun hc3 => ?_) (fun hc3 => ?_)
        · try dsimp only at hc3
          have hkl : k < tz.length := by omega
          have htz1 := htz.mono hRk2
          have hq := hq4.mono hRk2
          have hy := hy4.mono hRk2
          refine W.skip ?_
          refine WE.nxt ?_
          refine W.seq ?_
          refine W.block ?_
          refine W.seq ?_
          refine W.region _ ?_
          refine WG.y rfl rfl (by decide) (Yl.indexN tab_ok rfl rfl rfl rfl rfl rfl (fun _ => rfl) (by intro _; (try dsimp only) <;> omega) (by intro _; first | exact fun _ _ _ _ => rfl | exact RS.has (by assumption) | exact fun _ _ _ _ => (by assumption) | exact HasMem.ownD 0 rfl | exact HasMem.ownD 1 rfl | exact HasMem.ownD 2 rfl | exact HasMem.ownD 3 rfl | exact HasMem.ownD 4 rfl)) ?_
          refine' WG.y rfl rfl (by decide) (Yl.load1 tab_ok rfl rfl rfl (fun _ => rfl) ?r3 rfl ?h3) ?_
          case r3 => (first | (apply RS.rdD; assumption; ((try dsimp only) <;> omega)) | exact Rd.slD 0 rfl (by (try dsimp only) <;> omega) | exact Rd.slD 1 rfl (by (try dsimp only) <;> omega) | exact Rd.slD 2 rfl (by (try dsimp only) <;> omega) | exact Rd.slD 3 rfl (by (try dsimp only) <;> omega) | exact Rd.slD 4 rfl (by (try dsimp only) <;> omega))
          case h3 => rfl
          refine WL.ef rfl rfl (by decide) (Ef.alloc tab_ok rfl rfl (fun b19 => ?_))
          first | refine WL.efN rfl rfl (Ef.store0 0 tab_ok rfl rfl rfl rfl rfl rfl rfl rfl ?_) | refine WL.efN rfl rfl (Ef.store0 1 tab_ok rfl rfl rfl rfl rfl rfl rfl rfl ?_) | refine WL.efN rfl rfl (Ef.store0 2 tab_ok rfl rfl rfl rfl rfl rfl rfl rfl ?_) | refine WL.efN rfl rfl (Ef.store0 3 tab_ok rfl rfl rfl rfl rfl rfl rfl rfl ?_) | refine WL.efN rfl rfl (Ef.store0 4 tab_ok rfl rfl rfl rfl rfl rfl rfl rfl ?_)
          refine WG.nil ?_
          refine WE.nxt ?_
          refine W.seq ?_
          refine W.region _ ?_
          refine WG.y rfl rfl (by decide) (Yl.indexArr tab_ok rfl rfl rfl rfl rfl rfl (fun _ => rfl) (by intro _; constructor <;> (try dsimp only) <;> omega)) ?_
          refine' WG.y rfl rfl (by decide) (Yl.load1 tab_ok rfl rfl rfl (fun _ => rfl) ?r4 rfl ?h4) ?_
          case r4 => apply Rd.add; (first | exact Rd.blk 0 rfl | exact Rd.blk 1 rfl | exact Rd.blk 2 rfl | exact Rd.blk 3 rfl | exact Rd.blk 4 rfl)
          case h4 => rfl
          refine WG.run tab_ok 2 rfl ?_
          refine WG.y rfl rfl (by decide) (Yl.indexArr tab_ok rfl rfl rfl rfl rfl rfl (fun _ => rfl) (by intro _; constructor <;> (try dsimp only) <;> omega)) ?_
          refine' WG.y rfl rfl (by decide) (Yl.load1 tab_ok rfl rfl rfl (fun _ => rfl) ?r5 rfl ?h5) ?_
          case r5 => apply Rd.add; (first | exact Rd.blk 0 rfl | exact Rd.blk 1 rfl | exact Rd.blk 2 rfl | exact Rd.blk 3 rfl | exact Rd.blk 4 rfl)
          case h5 => rfl
          refine WL.call en23 rfl rfl (by decide) (CallOp.mkT rfl rfl rfl rfl) (Robin_any hq rfl hy rfl w0 _) ?_
          rintro _ R5 _ hR5 ⟨d1, o1, dc1, oc1, rows1, rfl, hd1, ho1, hr1, hx1, hsub1⟩
          refine WL.subE hsub1 ?_
          have hq := hq.mono hR5
          have hy := hy.mono hR5
          refine WG.run tab_ok 3 rfl ?_
          refine WL.ef rfl rfl (by decide) (Ef.alloc tab_ok rfl rfl (fun b20 => ?_))
          first | refine WL.efN rfl rfl (Ef.store0 0 tab_ok rfl rfl rfl rfl rfl rfl rfl rfl ?_) | refine WL.efN rfl rfl (Ef.store0 1 tab_ok rfl rfl rfl rfl rfl rfl rfl rfl ?_) | refine WL.efN rfl rfl (Ef.store0 2 tab_ok rfl rfl rfl rfl rfl rfl rfl rfl ?_) | refine WL.efN rfl rfl (Ef.store0 3 tab_ok rfl rfl rfl rfl rfl rfl rfl rfl ?_) | refine WL.efN rfl rfl (Ef.store0 4 tab_ok rfl rfl rfl rfl rfl rfl rfl rfl ?_)
          refine WG.run tab_ok 1 rfl ?_
          refine WG.nil ?_
          refine WE.nxt ?_
          refine W.seq ?_
          refine W.region _ ?_
          refine WG.y rfl rfl (by decide) (Yl.indexArr tab_ok rfl rfl rfl rfl rfl rfl (fun _ => rfl) (by intro _; constructor <;> (try dsimp only) <;> omega)) ?_
          refine' WG.y rfl rfl (by decide) (Yl.load1 tab_ok rfl rfl rfl (fun _ => rfl) ?r6 rfl ?h6) ?_
          case r6 => apply Rd.add; (first | exact Rd.blk 0 rfl | exact Rd.blk 1 rfl | exact Rd.blk 2 rfl | exact Rd.blk 3 rfl | exact Rd.blk 4 rfl)
          case h6 => rfl
          refine WG.run tab_ok 2 rfl ?_
          refine WG.y rfl rfl (by decide) (Yl.indexArr tab_ok rfl rfl rfl rfl rfl rfl (fun _ => rfl) (by intro _; constructor <;> (try dsimp only) <;> omega)) ?_
          refine' WG.y rfl rfl (by decide) (Yl.load1 tab_ok rfl rfl rfl (fun _ => rfl) ?r7 rfl ?h7) ?_
          case r7 => apply Rd.add; (first | exact Rd.blk 0 rfl | exact Rd.blk 1 rfl | exact Rd.blk 2 rfl | exact Rd.blk 3 rfl | exact Rd.blk 4 rfl)
          case h7 => rfl
          refine WL.call en24 rfl rfl (by decide) (CallOp.mkT rfl rfl rfl rfl) (RRobin_any hq rfl hy rfl w0 _) ?_
          rintro _ R6 _ hR6 ⟨d2, o2, dc2, oc2, rows2, rfl, hd2, ho2, hr2, hx2, hsub2⟩
          refine WL.subE hsub2 ?_
          
          refine WG.run tab_ok 3 rfl ?_
          refine WL.ef rfl rfl (by decide) (Ef.alloc tab_ok rfl rfl (fun b22 => ?_))
          first | refine WL.efN rfl rfl (Ef.store0 0 tab_ok rfl rfl rfl rfl rfl rfl rfl rfl ?_) | refine WL.efN rfl rfl (Ef.store0 1 tab_ok rfl rfl rfl rfl rfl rfl rfl rfl ?_) | refine WL.efN rfl rfl (Ef.store0 2 tab_ok rfl rfl rfl rfl rfl rfl rfl rfl ?_) | refine WL.efN rfl rfl (Ef.store0 3 tab_ok rfl rfl rfl rfl rfl rfl rfl rfl ?_) | refine WL.efN rfl rfl (Ef.store0 4 tab_ok rfl rfl rfl rfl rfl rfl rfl rfl ?_)
          refine WG.run tab_ok 1 rfl ?_
          refine WG.nil ?_
          refine WE.nxt ?_
          refine W.seq ?_
          refine W.region _ ?_
          refine WG.run tab_ok 4 rfl ?_
          refine' WG.y rfl rfl (by decide) (Yl.loadG tab_ok rfl rfl rfl (by first | exact fun _ => rfl | exact fun h => h | (intro h; simp_all)) ?r8 rfl ?h8 ?g8) ?_
          case r8 => (first | exact Rd.blkC 0 rfl | exact Rd.blkC 1 rfl | exact Rd.blkC 2 rfl | exact Rd.blkC 3 rfl | exact Rd.blkC 4 rfl)
          case h8 => rfl
          case g8 => first | exact fun _ => trivial | (intro hg; (try simp only [decide_eq_true_eq, decide_eq_false_iff_not, beq_iff_eq, bne_iff_ne, beq_eq_false_iff_ne, bne_eq_false_iff_eq, ne_eq, Bool.or_eq_true, Bool.or_eq_false_iff, Bool.and_eq_true, Bool.and_eq_false_imp, Bool.not_eq_true, Bool.not_eq_true', Bool.not_eq_false', Classical.not_not, Int.not_lt, Int.not_le, gt_iff_lt, ge_iff_le] at hg); (try dsimp only); omega)
          refine' WG.y rfl rfl (by decide) (Yl.loadG tab_ok rfl rfl rfl (by first | exact fun _ => rfl | exact fun h => h | (intro h; simp_all)) ?r9 rfl ?h9 ?g9) ?_
          case r9 => (first | exact Rd.blkC 0 rfl | exact Rd.blkC 1 rfl | exact Rd.blkC 2 rfl | exact Rd.blkC 3 rfl | exact Rd.blkC 4 rfl)
          case h9 => rfl
          case g9 => first | exact fun _ => trivial | (intro hg; (try simp only [decide_eq_true_eq, decide_eq_false_iff_not, beq_iff_eq, bne_iff_ne, beq_eq_false_iff_ne, bne_eq_false_iff_eq, ne_eq, Bool.or_eq_true, Bool.or_eq_false_iff, Bool.and_eq_true, Bool.and_eq_false_imp, Bool.not_eq_true, Bool.not_eq_true', Bool.not_eq_false', Classical.not_not, Int.not_lt, Int.not_le, gt_iff_lt, ge_iff_le] at hg); (try dsimp only); omega)
          refine WG.callV en25 rfl rfl (by decide) (CallOp.mk' rfl rfl rfl rfl) (by first | exact fun _ => rfl | exact fun h => h | (intro h; simp_all)) (fun hg => Same16_V (hd1.mono hR6) hd2 (ho1.mono hR6) ho2 (fun r hr => (hr1 r hr).mono hR6) hr2 rfl (by rw [hx1, hx2])) ?_
          refine WG.y rfl rfl (by decide) (pureV_ok tab_ok rfl (by first | exact fun _ => rfl | exact fun h => h | (intro h; simp_all))) ?_
          refine WG.y rfl rfl (by decide) (Yl.por rfl rfl rfl (fun _ => rfl) (by intro h1 h2; simp_all <;> omega)) ?_
          refine WG.nil ?_
          refine WE.nxt ?_
          refine W.cond rfl (fun hc4 => ?_) (fun hc4 => ?_)
          · try simp only [decide_eq_true_eq, decide_eq_false_iff_not, beq_iff_eq, bne_iff_ne, beq_eq_false_iff_ne, bne_eq_false_iff_eq, ne_eq, Bool.or_eq_true, Bool.or_eq_false_iff, Bool.and_eq_true, Bool.and_eq_false_imp, Bool.not_eq_true, Bool.not_eq_true', Bool.not_eq_false', Classical.not_not, Int.not_lt, Int.not_le, gt_iff_lt, ge_iff_le] at hc4
            first | done | (simp at hc4; done) | exact absurd hc4 (by decide)
          · try simp only [decide_eq_true_eq, decide_eq_false_iff_not, beq_iff_eq, bne_iff_ne, beq_eq_false_iff_ne, bne_eq_false_iff_eq, ne_eq, Bool.or_eq_true, Bool.or_eq_false_iff, Bool.and_eq_true, Bool.and_eq_false_imp, Bool.not_eq_true, Bool.not_eq_true', Bool.not_eq_false', Classical.not_not, Int.not_lt, Int.not_le, gt_iff_lt, ge_iff_le] at hc4
            refine W.skip ?_
            refine WE.blk _ ?_
            refine WE.nxt ?_
            refine W.region _ ?_
            refine WG.y rfl rfl (by decide) (Yl.add rfl rfl rfl (fun _ => rfl) (by intro _; constructor <;> (try dsimp only) <;> omega)) ?_
            refine WG.run tab_ok 1 rfl ?_
            refine WG.nil ?_
            refine WE.again ((R6, k + 1, cnc)) (⟨by dsimp only; omega, hRk2.trans (hR5.trans hR6)⟩) (by (try dsimp only); omega) ⟨rfl, rfl, rfl, rfl, rfl, rfl, rfl, rfl, rfl, rfl, rfl, rfl, rfl, rfl, rfl, rfl, rfl⟩ (RLe.refl _) (by (repeat (first | exact List.Sublist.refl _ | exact List.nil_sublist _ | apply List.Sublist.cons_cons | apply List.Sublist.cons)); done)
        · try dsimp only at hc3
          refine W.exit ?_
          refine WE.then_exit ?_
          refine WE.then_exit ?_
          refine WE.blk_exit ?_
          refine WE.blk _ ?_
          refine WE.nxt ?_
          refine W.region _ ?_
          refine WG.y rfl rfl (by decide) (Yl.add rfl rfl rfl (fun _ => rfl) (by intro _; constructor <;> (try dsimp only) <;> omega)) ?_
          refine WG.run tab_ok 1 rfl ?_
          refine WG.nil ?_
          refine WE.again ((Rk2, i + 1, cnc)) (⟨by dsimp only; omega, hRk1.trans (hR7.trans hRk2)⟩) (by (try dsimp only); omega) ⟨rfl, rfl, rfl, rfl, rfl, rfl, rfl, rfl, rfl, rfl, rfl, rfl, rfl⟩ (RLe.refl _) (by (repeat (first | exact List.Sublist.refl _ | exact List.nil_sublist _ | apply List.Sublist.cons_cons | apply List.Sublist.cons)); done)
      · try dsimp only at hc2
        refine W.exit ?_
        refine WE.then_exit ?_
        refine WE.then_exit ?_
        refine WE.blk_exit ?_
        refine WE.blk _ ?_
        refine WE.nxt ?_
        refine W.region _ ?_
        refine WG.y rfl rfl (by decide) (Yl.add rfl rfl rfl (fun _ => rfl) (by intro _; constructor <;> (try dsimp only) <;> omega)) ?_
        refine WG.run tab_ok 1 rfl ?_
        refine WG.nil ?_
        refine WE.again ((Rk1, j + 1, cnb)) (⟨by dsimp only; omega, hRk.trans (hRa.trans (hR4.trans hRk1))⟩) (by (try dsimp only); omega) ⟨rfl, rfl, rfl, rfl, rfl, rfl, rfl, rfl, rfl⟩ (RLe.refl _) (by (repeat (first | exact List.Sublist.refl _ | exact List.nil_sublist _ | apply List.Sublist.cons_cons | apply List.Sublist.cons)); done)
    · try dsimp only at hc1
      refine W.exit ?_
      refine WE.then_exit ?_
      refine WE.then_exit ?_
      refine WE.blk_exit ?_
      refine WE.nxt ?_
      refine W.seq ?_
      refine W.region _ ?_
      refine WL.call en15 rfl rfl (by decide) (CallOp.mkT rfl rfl rfl rfl) (Awake19_C w0 _) ?_
      rintro _ R13 E9 hR13 ⟨rfl, hsub9⟩
      refine WL.subE hsub9 ?_
      refine WG.run tab_ok 1 rfl ?_
      refine WG.nil ?_
      refine WE.nxt ?_
      refine W.ret ?_
      refine WE.retF tab_ok [_] rfl ⟨rfl, trivial⟩ (by first | exact hR9 | exact hR12.trans (hR3.trans (hRk.trans hR13))) ?_
      exact rfl

end Go.Proofs.Ytcfnckccmkjjlaa
