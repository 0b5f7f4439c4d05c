/- DeficitMonotone: for every list of numbers the law returns true, and the list reads afterwards as it read before. No condition. -/
import Derived.Test.YtcfnckccmkjjlaaG5
/- Chapter 20: greater quanta leave less. No condition. -/
set_option linter.unusedSimpArgs false
set_option linter.unusedVariables false
namespace Go.Proofs.Ytcfnckccmkjjlaa
open Go Go.RowKit Go.Proofs.Ytcfnckccmkjjlaa.K Go.Proofs.Ytcfnckccmkjjlaa.M

theorem CurveDef_len {R : Ro} {wa za : Option Addr} {wc zc wl zl : Nat} {w : List Int} {z : List Sz} (hwr : RS R 1 encI wa w) (hzr : RS R 2 encZ za z) (hwl : w.length = wl) (hzl : z.length = zl) {cap cls : Int} (w0 : World) (E : List Ent) : K.Fn Try.prog 46 [.int .i64 cap, .int .i64 cls, .slice wa wl wc, .slice za zl zc] w0 R E (fun r R' E' => ∃ (f : Option Addr) (fc : Nat), r = cvV f fc (defC cap cls w z) ∧ RS R' 1 encI f (defC cap cls w z).1.vals ∧ E.Sublist E') := by
  subst hwl; subst hzl; exact CurveDef_C hwr hzr w0 E
theorem OthersDef_len {R : Ro} {wa za : Option Addr} {wc zc wl zl : Nat} {w : List Int} {z : List Sz} (hwr : RS R 1 encI wa w) (hzr : RS R 2 encZ za z) (hwl : w.length = wl) (hzl : z.length = zl) {cls own : Int} (ho : InR own) : FnV Try.prog 50 [.int .i64 cls, .slice wa wl wc, .slice za zl zc, .int .i64 own] R (.int .i64 (defOthers cls w z own)) := by
  subst hwl; subst hzl; exact OthersDef_V hwr hzr ho

theorem xs3 {w1 w2 w3 a b c d e f : Int} (hd : 1 ≤ d) (hf : 1 ≤ f) : xSum 0 [w1, w2, w3] [⟨a, b⟩, ⟨c, d⟩, ⟨e, f⟩] 3 = w2 + w3 ∧ zSum 0 [⟨a, b⟩, ⟨c, d⟩, ⟨e, f⟩] 3 = (d - 1) + (f - 1) := by
  constructor
  · show 0 + 0 + (if ((1 : Nat) : Int) ≠ 0 ∧ 1 ≤ d then w2 else 0) + (if ((2 : Nat) : Int) ≠ 0 ∧ 1 ≤ f then w3 else 0) = _
    rw [if_pos ⟨by decide, hd⟩, if_pos ⟨by decide, hf⟩]; omega
  · show 0 + 0 + (if ((1 : Nat) : Int) ≠ 0 ∧ 1 ≤ d then d - 1 else 0) + (if ((2 : Nat) : Int) ≠ 0 ∧ 1 ≤ f then f - 1 else 0) = _
    rw [if_pos ⟨by decide, hd⟩, if_pos ⟨by decide, hf⟩]; omega

theorem DeficitMonotone_F {R : Ro} {a : Option Addr} {c : Nat} {xs : List Int} (ha : RS R 1 encI a xs) (hc : xs.length ≤ c) (w0 : World) : K.Fn Try.prog 11 [.slice a xs.length c] w0 R [] (fun v _ _ => v = .bool true) := by
  refine Fn.enter (n := 108) Try.func11 rfl rfl (Nat.le_of_ble_eq_true rfl) rfl ?_
  refine W.seq ?_
  refine W.region _ ?_
  refine WG.run tab_ok 1 rfl ?_
  refine WG.nil ?_
  refine WE.nxt ?_
  refine W.seq ?_
  refine W.region _ ?_
  refine WG.run tab_ok 1 rfl ?_
  refine WL.call en16 rfl rfl (by decide) (CallOp.mkT rfl rfl rfl rfl) (New_C w0 _ hc) ?_
  rintro _ _ _ - ⟨b, rfl, rfl, rfl⟩
  have hz := ha.take 2000
  refine WG.run tab_ok 1 rfl ?_
  refine WG.nil ?_
  refine WE.nxt ?_
  refine W.seq ?_
  refine W.region _ ?_
  refine WG.run tab_ok 1 rfl ?_
  refine WL.callAt 0 en21 rfl rfl (by decide) (CallOp.mkT rfl rfl rfl rfl) rfl (N_C w0 hz (by constructor <;> decide) _) ?_
  rintro _ _ _ _ - ⟨rfl, rfl, rfl, rfl⟩
  have hm40 := mod_range (nth (xs.take 2000) (0)) (show (1 : Int) ≤ 40 by decide)
  refine WG.y rfl rfl (by decide) (Yl.add rfl rfl rfl (fun _ => rfl) (by intro _; constructor <;> (try dsimp only) <;> omega)) ?_
  refine WG.run tab_ok 1 rfl ?_
  refine WL.callAt 0 en42 rfl rfl (by decide) (CallOp.mkT rfl rfl rfl rfl) rfl (Weights20_C w0 (n := 3) hz (by decide) _) ?_
  rintro _ _ _ _ - ⟨aw, cw, rfl, rfl, rfl, rfl⟩
  have hwl3 := fvals_len (wgtF 50 (xs.take 2000) (0 + 1)) 3
  have hwb : ∀ x ∈ fvals (wgtF 50 (xs.take 2000) (0 + 1)) 3, 1 ≤ x ∧ x ≤ 50 := all_of_nth (fun j hj => by
    rw [hwl3] at hj
    rw [fvals_nth _ hj]
    have := wgtF_range (show (1 : Int) ≤ 50 by decide) (xs.take 2000) (0 + 1) j
    omega)
  generalize fvals (wgtF 50 (xs.take 2000) (0 + 1)) 3 = w at hwl3 hwb ⊢
  refine WL.freeze (enc := encI) (xs := w) 0 rfl ?_
  intro R1 hR1 hw
  have hz := hz.mono hR1
  generalize 0 + 1 + 3 = cn1
  refine WG.run tab_ok 2 rfl ?_
  refine WG.nil ?_
  refine WE.nxt ?_
  refine W.seq ?_
  refine W.region _ ?_
  refine WG.run tab_ok 1 rfl ?_
  refine WL.callAt 0 en21 rfl rfl (by decide) (CallOp.mkT rfl rfl rfl rfl) rfl (N_C w0 hz (by constructor <;> decide) _) ?_
  rintro _ _ _ _ - ⟨rfl, rfl, rfl, rfl⟩
  have hm9 := mod_range (nth (xs.take 2000) (cn1)) (show (1 : Int) ≤ 9 by decide)
  refine WG.y rfl rfl (by decide) (Yl.add rfl rfl rfl (fun _ => rfl) (by intro _; constructor <;> (try dsimp only) <;> omega)) ?_
  -- build
  refine WG.y rfl rfl (by decide) (Yl.build (parts := [(0, .tmp 24), (1, .const (.int .i64 10))]) tab_ok rfl rfl rfl rfl (fun _ => rfl) rfl rfl) ?_
  -- build
  refine WG.y rfl rfl (by decide) (Yl.build (parts := [(0, .const (.int .i64 1)), (1, .const (.int .i64 9))]) tab_ok rfl rfl rfl rfl (fun _ => rfl) rfl rfl) ?_
  -- build
  refine WG.y rfl rfl (by decide) (Yl.build (parts := [(0, .const (.int .i64 1)), (1, .const (.int .i64 9))]) tab_ok rfl rfl rfl rfl (fun _ => rfl) rfl rfl) ?_
  refine WL.ef rfl rfl (by decide) (Ef.buildSliceD (enc := encZ) (parts := [.tmp 25, .tmp 26, .tmp 27]) [⟨_, _⟩, ⟨_, _⟩, ⟨_, _⟩] tab_ok rfl rfl rfl rfl rfl rfl rfl rfl (by decide) (by decide) (fun a28 => ?_))
  refine WL.freeze (enc := encZ) (xs := ([⟨1 + mod (nth (xs.take 2000) cn1) 9, 10⟩, ⟨1, 9⟩, ⟨1, 9⟩] : List Sz)) 0 rfl ?_
  intro R2 hR2 hzz
  have hw := hw.mono hR2
  have hz := hz.mono hR2
  refine WG.run tab_ok 1 rfl ?_
  refine WG.nil ?_
  refine WE.nxt ?_
  have hC : 3 ≤ (3 + mod (nth (xs.take 2000) 0) 40) ∧ (3 + mod (nth (xs.take 2000) 0) 40) ≤ 42 := by omega
  have hX : 1 ≤ 1 + mod (nth (xs.take 2000) cn1) 9 ∧ 1 + mod (nth (xs.take 2000) cn1) 9 ≤ 9 := by omega
  generalize (3 + mod (nth (xs.take 2000) 0) 40) = C at hC ⊢
  generalize 1 + mod (nth (xs.take 2000) cn1) 9 = x at hX hzz ⊢
  have hm3 := mod_range (nth (xs.take 2000) (cn1 + 1)) (show (1 : Int) ≤ 3 by decide)
  have hm20 := mod_range (nth (xs.take 2000) (cn1 + 1 + 1)) (show (1 : Int) ≤ 20 by decide)
  have hw1 := hwb _ (nth_mem (xs := w) (k := Int.toNat 1) (by show (Int.toNat 1) < _; omega))
  have hz9 : (nth ([⟨x, 10⟩, ⟨1, 9⟩, ⟨1, 9⟩] : List Sz) (Int.toNat 2)).most = 9 := rfl
  refine W.seq ?_
  refine W.region _ ?_
  refine WL.ef rfl rfl (by decide) (Ef.buildSliceD (enc := encI) (parts := []) [] tab_ok rfl rfl rfl rfl rfl rfl rfl rfl (by decide) (by decide) (fun a29 => ?_))
  refine WG.run tab_ok 1 rfl ?_
  refine WL.ef rfl rfl (by decide) (Ef.cloneL (enc := encI) 0 tab_ok rfl rfl rfl rfl rfl rfl rfl rfl rfl rfl hw (fun _ _ => rfl) (by dsimp only; omega) (by omega) (fun a31 c31 ha31 => ?_))
  refine WL.ef rfl rfl (by decide) (Ef.buildSliceD (enc := encZ) (parts := []) [] tab_ok rfl rfl rfl rfl rfl rfl rfl rfl (by decide) (by decide) (fun a32 => ?_))
  refine WG.run tab_ok 1 rfl ?_
  refine WL.ef rfl rfl (by decide) (Ef.cloneL (enc := encZ) (ys := ([⟨x, 10⟩, ⟨1, 9⟩, ⟨1, 9⟩] : List Sz)) 0 tab_ok rfl rfl rfl rfl rfl rfl rfl rfl rfl rfl hzz (fun _ _ => rfl) (by simp only [List.length_cons, List.length_nil]; omega) (by simp only [List.length_cons, List.length_nil]; omega) (fun a34 c34 ha34 => ?_))
  refine WG.run tab_ok 2 rfl ?_
  refine WG.nil ?_
  refine WE.nxt ?_
  refine W.seqCut (β := List Int) (fun m1 => m1 = (w.set (Int.toNat 1) (nth w (Int.toNat 1) + mod (nth (xs.take 2000) (cn1 + 1)) 3))) (fun m1 => [(3, true, .pointer (some ⟨b, 0, none⟩)), (4, true, .int .i64 C), (5, true, .slice aw w.length cw), (6, true, .slice (some ⟨a28, 0, none⟩) 3 3), (7, true, .slice a31 w.length c31), (8, true, .slice a34 3 c34)]) (fun _ => R2) (fun m1 => [.sl 48 2 a34 c34 (([⟨x, 10⟩, ⟨1, 9⟩, ⟨1, 9⟩] : List Sz).map encZ), .sl 3 1 a31 c31 (m1.map encI), srcE b a c (xs.take 2000) (cn1 + 1 + 1)]) ?_ ?_
  ·
    intro m1 hst
    have hmm : m1 = (w.set (Int.toNat 1) (nth w (Int.toNat 1) + mod (nth (xs.take 2000) (cn1 + 1)) 3)) := hst
    refine W.seqCut (β := List Sz) (fun z2 => z2 = (([⟨x, 10⟩, ⟨1, 9⟩, ⟨1, 9⟩] : List Sz).set (Int.toNat 2) (⟨(nth ([⟨x, 10⟩, ⟨1, 9⟩, ⟨1, 9⟩] : List Sz) (Int.toNat 2)).least, (nth ([⟨x, 10⟩, ⟨1, 9⟩, ⟨1, 9⟩] : List Sz) (Int.toNat 2)).most + mod (nth (xs.take 2000) (cn1 + 1 + 1)) 20⟩ : Sz))) (fun z2 => [(3, true, .pointer (some ⟨b, 0, none⟩)), (4, true, .int .i64 C), (5, true, .slice aw w.length cw), (6, true, .slice (some ⟨a28, 0, none⟩) 3 3), (7, true, .slice a31 w.length c31), (8, true, .slice a34 3 c34)]) (fun _ => R2) (fun z2 => [.sl 48 2 a34 c34 (z2.map encZ), .sl 3 1 a31 c31 (m1.map encI), srcE b a c (xs.take 2000) (cn1 + 1 + 1 + 1)]) ?_ ?_
    ·
      intro z2 hst
      have hzz0 : z2 = (([⟨x, 10⟩, ⟨1, 9⟩, ⟨1, 9⟩] : List Sz).set (Int.toNat 2) (⟨(nth ([⟨x, 10⟩, ⟨1, 9⟩, ⟨1, 9⟩] : List Sz) (Int.toNat 2)).least, (nth ([⟨x, 10⟩, ⟨1, 9⟩, ⟨1, 9⟩] : List Sz) (Int.toNat 2)).most + mod (nth (xs.take 2000) (cn1 + 1 + 1)) 20⟩ : Sz)) := hst
      obtain ⟨w1, w2, w3, rfl⟩ : ∃ w1 w2 w3, w = [w1, w2, w3] := by
        match w, hwl3 with
        | [w1, w2, w3], _ => exact ⟨w1, w2, w3, rfl⟩
      have b1 := hwb w1 (by simp)
      have b2 := hwb w2 (by simp)
      have b3 := hwb w3 (by simp)
      have hmz : m1 = [w1, w2 + mod (nth (xs.take 2000) (cn1 + 1)) 3, w3] := hmm
      have hzz2 : z2 = [⟨x, 10⟩, ⟨1, 9⟩, ⟨1, 9 + mod (nth (xs.take 2000) (cn1 + 1 + 1)) 20⟩] := hzz0
      generalize mod (nth (xs.take 2000) (cn1 + 1)) 3 = n3 at *
      generalize mod (nth (xs.take 2000) (cn1 + 1 + 1)) 20 = n20 at *
      have hml : m1.length = 3 := by rw [hmz]; rfl
      have hz2l : z2.length = 3 := by rw [hzz2]; rfl
      refine W.freeze (enc := encZ) (xs := z2) 0 rfl ?_
      intro R4 hR4 hbig
      refine W.freeze (enc := encI) (xs := m1) 0 rfl ?_
      intro R5 hR5 hmore
      have hbig := hbig.mono hR5
      have hw := hw.mono (hR4.trans hR5)
      have hzz := hzz.mono (hR4.trans hR5)
      have hxA := xs3 (w1 := w1) (w2 := w2) (w3 := w3) (a := x) (b := 10) (c := 1) (d := 9) (e := 1) (f := 9) (by omega) (by omega)
      have hxM := xs3 (w1 := w1) (w2 := w2 + n3) (w3 := w3) (a := x) (b := 10) (c := 1) (d := 9) (e := 1) (f := 9) (by omega) (by omega)
      have hxB := xs3 (w1 := w1) (w2 := w2) (w3 := w3) (a := x) (b := 10) (c := 1) (d := 9) (e := 1) (f := 9 + n20) (by omega) (by omega)
      have hxC := xs3 (w1 := w1) (w2 := w2 + n3) (w3 := w3) (a := x) (b := 10) (c := 1) (d := 9) (e := 1) (f := 9 + n20) (by omega) (by omega)
      refine W.seq ?_
      refine W.region _ ?_
      refine WG.run tab_ok 3 rfl ?_
      refine WL.call en46 rfl rfl (by decide) (CallOp.mkT rfl rfl rfl rfl) (CurveDef_len (w := [w1, w2, w3]) (z := ([⟨x, 10⟩, ⟨1, 9⟩, ⟨1, 9⟩] : List Sz)) hw hzz rfl rfl w0 _) ?_
      rintro _ R6 _ hR6 ⟨f1, fc1, rfl, hf1, hsub1⟩
      refine WL.subE hsub1 ?_
      unfold cvV
      have hw := hw.mono hR6
      have hzz := hzz.mono hR6
      have hmore := hmore.mono hR6
      have hbig := hbig.mono hR6
      refine WG.run tab_ok 3 rfl ?_
      refine WL.ef rfl rfl (by decide) (Ef.alloc tab_ok rfl rfl (fun b9 => ?_))
      first | refine WL.efN rfl rfl (Ef.store0 0 tab_ok rfl rfl rfl rfl rfl rfl rfl rfl ?_) | refine WL.efN rfl rfl (Ef.store0 1 tab_ok rfl rfl rfl rfl rfl rfl rfl rfl ?_) | refine WL.efN rfl rfl (Ef.store0 2 tab_ok rfl rfl rfl rfl rfl rfl rfl rfl ?_) | refine WL.efN rfl rfl (Ef.store0 3 tab_ok rfl rfl rfl rfl rfl rfl rfl rfl ?_) | refine WL.efN rfl rfl (Ef.store0 4 tab_ok rfl rfl rfl rfl rfl rfl rfl rfl ?_)
      refine WG.run tab_ok 1 rfl ?_
      refine WG.nil ?_
      refine WE.nxt ?_
      refine W.seq ?_
      refine W.region _ ?_
      refine WG.run tab_ok 3 rfl ?_
      refine WL.call en46 rfl rfl (by decide) (CallOp.mkT rfl rfl rfl rfl) (CurveDef_len (w := m1) (z := ([⟨x, 10⟩, ⟨1, 9⟩, ⟨1, 9⟩] : List Sz)) hmore hzz hml rfl w0 _) ?_
      rintro _ R7 _ hR7 ⟨f2, fc2, rfl, hf2, hsub2⟩
      refine WL.subE hsub2 ?_
      unfold cvV
      have hw := hw.mono hR7
      have hzz := hzz.mono hR7
      have hmore := hmore.mono hR7
      have hbig := hbig.mono hR7
      have hf1 := hf1.mono hR7
      refine WG.run tab_ok 3 rfl ?_
      refine WL.ef rfl rfl (by decide) (Ef.alloc tab_ok rfl rfl (fun b11 => ?_))
      first | refine WL.efN rfl rfl (Ef.store0 0 tab_ok rfl rfl rfl rfl rfl rfl rfl rfl ?_) | refine WL.efN rfl rfl (Ef.store0 1 tab_ok rfl rfl rfl rfl rfl rfl rfl rfl ?_) | refine WL.efN rfl rfl (Ef.store0 2 tab_ok rfl rfl rfl rfl rfl rfl rfl rfl ?_) | refine WL.efN rfl rfl (Ef.store0 3 tab_ok rfl rfl rfl rfl rfl rfl rfl rfl ?_) | refine WL.efN rfl rfl (Ef.store0 4 tab_ok rfl rfl rfl rfl rfl rfl rfl rfl ?_)
      refine WG.run tab_ok 1 rfl ?_
      refine WG.nil ?_
      refine WE.nxt ?_
      refine W.seq ?_
      refine W.region _ ?_
      refine WG.run tab_ok 3 rfl ?_
      refine WL.call en46 rfl rfl (by decide) (CallOp.mkT rfl rfl rfl rfl) (CurveDef_len (w := [w1, w2, w3]) (z := z2) hw hbig rfl hz2l w0 _) ?_
      rintro _ R8 _ hR8 ⟨f3, fc3, rfl, hf3, hsub3⟩
      refine WL.subE hsub3 ?_
      unfold cvV
      have hw := hw.mono hR8
      have hzz := hzz.mono hR8
      have hmore := hmore.mono hR8
      have hbig := hbig.mono hR8
      have hf1 := hf1.mono hR8
      have hf2 := hf2.mono hR8
      refine WG.run tab_ok 3 rfl ?_
      refine WL.ef rfl rfl (by decide) (Ef.alloc tab_ok rfl rfl (fun b13 => ?_))
      first | refine WL.efN rfl rfl (Ef.store0 0 tab_ok rfl rfl rfl rfl rfl rfl rfl rfl ?_) | refine WL.efN rfl rfl (Ef.store0 1 tab_ok rfl rfl rfl rfl rfl rfl rfl rfl ?_) | refine WL.efN rfl rfl (Ef.store0 2 tab_ok rfl rfl rfl rfl rfl rfl rfl rfl ?_) | refine WL.efN rfl rfl (Ef.store0 3 tab_ok rfl rfl rfl rfl rfl rfl rfl rfl ?_) | refine WL.efN rfl rfl (Ef.store0 4 tab_ok rfl rfl rfl rfl rfl rfl rfl rfl ?_)
      refine WG.run tab_ok 1 rfl ?_
      refine WG.nil ?_
      refine WE.nxt ?_
      refine W.seq ?_
      have hmA : ((defC C 0 [w1, w2, w3] ([⟨x, 10⟩, ⟨1, 9⟩, ⟨1, 9⟩] : List Sz)).2 == 0) = true → ((defC C 0 m1 ([⟨x, 10⟩, ⟨1, 9⟩, ⟨1, 9⟩] : List Sz)).2 == 0) = true → FnV Try.prog 38 [.agg #[.slice f2 (defC C 0 m1 ([⟨x, 10⟩, ⟨1, 9⟩, ⟨1, 9⟩] : List Sz)).1.vals.length fc2, .int .i64 (defC C 0 m1 ([⟨x, 10⟩, ⟨1, 9⟩, ⟨1, 9⟩] : List Sz)).1.per, .int .i64 (defC C 0 m1 ([⟨x, 10⟩, ⟨1, 9⟩, ⟨1, 9⟩] : List Sz)).1.inc], .agg #[.slice f1 (defC C 0 [w1, w2, w3] ([⟨x, 10⟩, ⟨1, 9⟩, ⟨1, 9⟩] : List Sz)).1.vals.length fc1, .int .i64 (defC C 0 [w1, w2, w3] ([⟨x, 10⟩, ⟨1, 9⟩, ⟨1, 9⟩] : List Sz)).1.per, .int .i64 (defC C 0 [w1, w2, w3] ([⟨x, 10⟩, ⟨1, 9⟩, ⟨1, 9⟩] : List Sz)).1.inc]] R8 (.bool true) := fun x1 x2 => by
        obtain ⟨F, G, S1, P1, S2, P2, I1, I2, y1, y2, y3, y4, y5, y6, y7, y8, y9⟩ := def_mono (w := [w1, w2, w3]) (z := ([⟨x, 10⟩, ⟨1, 9⟩, ⟨1, 9⟩] : List Sz)) (w' := m1) (z' := ([⟨x, 10⟩, ⟨1, 9⟩, ⟨1, 9⟩] : List Sz)) (eq_of_beq x1) (eq_of_beq x2) (by rw [hmz]; rfl) rfl (by rw [hml, hmz]; exact Int.le_trans (Int.le_of_eq hxA.1) (by rw [hxM.1]; omega)) (by rw [hml]; exact Int.le_refl _)
        have hfa := hf1
        have hfb := hf2
        rw [y1] at hfb ⊢
        rw [y2] at hfa ⊢
        exact AtMost_V hfb hfa y3 y4 y5 y6 y7 y8 y9
      have hmB : ((defC C 0 [w1, w2, w3] ([⟨x, 10⟩, ⟨1, 9⟩, ⟨1, 9⟩] : List Sz)).2 == 0) = true → ((defC C 0 [w1, w2, w3] z2).2 == 0) = true → FnV Try.prog 38 [.agg #[.slice f3 (defC C 0 [w1, w2, w3] z2).1.vals.length fc3, .int .i64 (defC C 0 [w1, w2, w3] z2).1.per, .int .i64 (defC C 0 [w1, w2, w3] z2).1.inc], .agg #[.slice f1 (defC C 0 [w1, w2, w3] ([⟨x, 10⟩, ⟨1, 9⟩, ⟨1, 9⟩] : List Sz)).1.vals.length fc1, .int .i64 (defC C 0 [w1, w2, w3] ([⟨x, 10⟩, ⟨1, 9⟩, ⟨1, 9⟩] : List Sz)).1.per, .int .i64 (defC C 0 [w1, w2, w3] ([⟨x, 10⟩, ⟨1, 9⟩, ⟨1, 9⟩] : List Sz)).1.inc]] R8 (.bool true) := fun x1 x2 => by
        obtain ⟨F, G, S1, P1, S2, P2, I1, I2, y1, y2, y3, y4, y5, y6, y7, y8, y9⟩ := def_mono (w := [w1, w2, w3]) (z := ([⟨x, 10⟩, ⟨1, 9⟩, ⟨1, 9⟩] : List Sz)) (w' := [w1, w2, w3]) (z' := z2) (eq_of_beq x1) (eq_of_beq x2) rfl (by rw [hzz2]; rfl) (by rw [hzz2]; exact Int.le_trans (Int.le_of_eq hxA.1) (Int.le_of_eq hxB.1.symm)) (by rw [hzz2]; exact Int.le_trans (Int.le_of_eq hxA.2) (Int.le_trans (by omega) (Int.le_of_eq hxB.2.symm)))
        have hfa := hf1
        have hfb := hf3
        rw [y1] at hfb ⊢
        rw [y2] at hfa ⊢
        exact AtMost_V hfb hfa y3 y4 y5 y6 y7 y8 y9
      have hkA : chkW 6000 1 0 [w1, w2, w3] ([⟨x, 10⟩, ⟨1, 9⟩, ⟨1, 9⟩] : List Sz) = 0 := by
        unfold chkW chk18
        have h1 : zOk ([⟨x, 10⟩, ⟨1, 9⟩, ⟨1, 9⟩] : List Sz) = true := zOk_iff.2 (by intro s hs; simp only [List.mem_cons, List.not_mem_nil, or_false] at hs; rcases hs with rfl | rfl | rfl <;> dsimp only <;> omega)
        have h2 : okW 6000 [w1, w2, w3] = true := okW_iff.2 (by intro y hy; simp only [List.mem_cons, List.not_mem_nil, or_false] at hy; rcases hy with rfl | rfl | rfl <;> omega)
        rw [h1, h2]; rfl
      have hkB : chkW 6000 1 0 m1 z2 = 0 := by
        unfold chkW chk18
        have h1 : zOk z2 = true := zOk_iff.2 (by rw [hzz2]; intro s hs; simp only [List.mem_cons, List.not_mem_nil, or_false] at hs; rcases hs with rfl | rfl | rfl <;> dsimp only <;> omega)
        have h2 : okW 6000 m1 = true := okW_iff.2 (by rw [hmz]; intro y hy; simp only [List.mem_cons, List.not_mem_nil, or_false] at hy; rcases hy with rfl | rfl | rfl <;> omega)
        rw [h1, h2, hmz, hzz2]; rfl
      have hoth : defOthers 0 [w1, w2, w3] ([⟨x, 10⟩, ⟨1, 9⟩, ⟨1, 9⟩] : List Sz) 5 ≤ defOthers 0 m1 z2 5 := by
        have e1 : defOthers 0 [w1, w2, w3] ([⟨x, 10⟩, ⟨1, 9⟩, ⟨1, 9⟩] : List Sz) 5 = ((5 + 10 - 1) / w1 + 1) * xSum 0 [w1, w2, w3] ([⟨x, 10⟩, ⟨1, 9⟩, ⟨1, 9⟩] : List Sz) 3 + zSum 0 ([⟨x, 10⟩, ⟨1, 9⟩, ⟨1, 9⟩] : List Sz) 3 := if_neg (by
          rintro (h | h | h | h)
          · exact h hkA
          · have : (10 : Int) < 1 := h; omega
          · omega
          · unfold MAXV at h; omega)
        have e2 : defOthers 0 m1 z2 5 = ((5 + 10 - 1) / w1 + 1) * xSum 0 m1 z2 3 + zSum 0 z2 3 := by
          have e : defOthers 0 m1 z2 5 = ((5 + (nth z2 (Int.toNat 0)).most - 1) / nth m1 (Int.toNat 0) + 1) * xSum 0 m1 z2 m1.length + zSum 0 z2 m1.length := if_neg (by
            rintro (h | h | h | h)
            · exact h hkB
            · rw [hzz2] at h; have : (10 : Int) < 1 := h; omega
            · omega
            · unfold MAXV at h; omega)
          rw [e, hml, hmz, hzz2]; rfl
        rw [e1, e2, hmz, hzz2, hxA.1, hxA.2, hxC.1, hxC.2]
        have hd : 0 ≤ (5 + 10 - 1) / w1 := Int.ediv_nonneg (by omega) (by omega)
        have := Int.mul_le_mul_of_nonneg_left (show w2 + w3 ≤ w2 + n3 + w3 by omega) (show 0 ≤ (5 + 10 - 1) / w1 + 1 by omega)
        omega
      refine W.seq ?_
      refine W.region _ ?_
      refine WG.run tab_ok 3 rfl ?_
      refine WG.y rfl rfl (by decide) (pureV_ok tab_ok rfl (by first | exact fun _ => rfl | exact fun h => h | (generalize ((defC C 0 [w1, w2, w3] ([⟨x, 10⟩, ⟨1, 9⟩, ⟨1, 9⟩] : List Sz)).2 == 0) = k1; generalize ((defC C 0 m1 ([⟨x, 10⟩, ⟨1, 9⟩, ⟨1, 9⟩] : List Sz)).2 == 0) = k2; generalize ((defC C 0 [w1, w2, w3] z2).2 == 0) = k3; revert k1 k2 k3; decide))) ?_
      refine WG.y rfl rfl (by decide) (pureV_ok tab_ok rfl (by first | exact fun _ => rfl | exact fun h => h | (generalize ((defC C 0 [w1, w2, w3] ([⟨x, 10⟩, ⟨1, 9⟩, ⟨1, 9⟩] : List Sz)).2 == 0) = k1; generalize ((defC C 0 m1 ([⟨x, 10⟩, ⟨1, 9⟩, ⟨1, 9⟩] : List Sz)).2 == 0) = k2; generalize ((defC C 0 [w1, w2, w3] z2).2 == 0) = k3; revert k1 k2 k3; decide))) ?_
      refine WG.y rfl rfl (by decide) (Yl.pand rfl rfl rfl (fun _ => rfl) (by first | exact fun _ _ => rfl | (generalize ((defC C 0 [w1, w2, w3] ([⟨x, 10⟩, ⟨1, 9⟩, ⟨1, 9⟩] : List Sz)).2 == 0) = k1; generalize ((defC C 0 m1 ([⟨x, 10⟩, ⟨1, 9⟩, ⟨1, 9⟩] : List Sz)).2 == 0) = k2; generalize ((defC C 0 [w1, w2, w3] z2).2 == 0) = k3; revert k1 k2 k3; decide))) ?_
      refine WG.run tab_ok 1 rfl ?_
      refine' WG.y rfl rfl (by decide) (Yl.loadG tab_ok rfl rfl rfl (by first | exact fun _ => rfl | exact fun h => h | (generalize ((defC C 0 [w1, w2, w3] ([⟨x, 10⟩, ⟨1, 9⟩, ⟨1, 9⟩] : List Sz)).2 == 0) = k1; generalize ((defC C 0 m1 ([⟨x, 10⟩, ⟨1, 9⟩, ⟨1, 9⟩] : List Sz)).2 == 0) = k2; generalize ((defC C 0 [w1, w2, w3] z2).2 == 0) = k3; revert k1 k2 k3; decide)) ?r1 rfl ?h1 ?g1) ?_
      case r1 => (first | exact Rd.blkC 0 rfl | exact Rd.blkC 1 rfl | exact Rd.blkC 2 rfl | exact Rd.blkC 3 rfl | exact Rd.blkC 4 rfl)
      case h1 => rfl
      case g1 => first | exact fun _ => trivial | (intro hg; (try simp only [decide_eq_true_eq, decide_eq_false_iff_not, beq_iff_eq, bne_iff_ne, beq_eq_false_iff_ne, bne_eq_false_iff_eq, ne_eq, Bool.or_eq_true, Bool.or_eq_false_iff, Bool.and_eq_true, Bool.and_eq_false_imp, Bool.not_eq_true, Bool.not_eq_true', Bool.not_eq_false', Classical.not_not, Int.not_lt, Int.not_le, gt_iff_lt, ge_iff_le] at hg); (try dsimp only); omega)
      refine' WG.y rfl rfl (by decide) (Yl.loadG tab_ok rfl rfl rfl (by first | exact fun _ => rfl | exact fun h => h | (generalize ((defC C 0 [w1, w2, w3] ([⟨x, 10⟩, ⟨1, 9⟩, ⟨1, 9⟩] : List Sz)).2 == 0) = k1; generalize ((defC C 0 m1 ([⟨x, 10⟩, ⟨1, 9⟩, ⟨1, 9⟩] : List Sz)).2 == 0) = k2; generalize ((defC C 0 [w1, w2, w3] z2).2 == 0) = k3; revert k1 k2 k3; decide)) ?r2 rfl ?h2 ?g2) ?_
      case r2 => (first | exact Rd.blkC 0 rfl | exact Rd.blkC 1 rfl | exact Rd.blkC 2 rfl | exact Rd.blkC 3 rfl | exact Rd.blkC 4 rfl)
      case h2 => rfl
      case g2 => first | exact fun _ => trivial | (intro hg; (try simp only [decide_eq_true_eq, decide_eq_false_iff_not, beq_iff_eq, bne_iff_ne, beq_eq_false_iff_ne, bne_eq_false_iff_eq, ne_eq, Bool.or_eq_true, Bool.or_eq_false_iff, Bool.and_eq_true, Bool.and_eq_false_imp, Bool.not_eq_true, Bool.not_eq_true', Bool.not_eq_false', Classical.not_not, Int.not_lt, Int.not_le, gt_iff_lt, ge_iff_le] at hg); (try dsimp only); omega)
      refine WG.callV (v := .bool true) en38 rfl rfl (by decide) (CallOp.mk' rfl rfl rfl rfl) (by first | exact fun _ => rfl | exact fun h => h | (generalize ((defC C 0 [w1, w2, w3] ([⟨x, 10⟩, ⟨1, 9⟩, ⟨1, 9⟩] : List Sz)).2 == 0) = k1; generalize ((defC C 0 m1 ([⟨x, 10⟩, ⟨1, 9⟩, ⟨1, 9⟩] : List Sz)).2 == 0) = k2; generalize ((defC C 0 [w1, w2, w3] z2).2 == 0) = k3; revert k1 k2 k3; decide)) (fun hg => hmA (by revert hg; generalize ((defC C 0 [w1, w2, w3] ([⟨x, 10⟩, ⟨1, 9⟩, ⟨1, 9⟩] : List Sz)).2 == 0) = k1; generalize ((defC C 0 m1 ([⟨x, 10⟩, ⟨1, 9⟩, ⟨1, 9⟩] : List Sz)).2 == 0) = k2; generalize ((defC C 0 [w1, w2, w3] z2).2 == 0) = k3; revert k1 k2 k3; decide) (by revert hg; generalize ((defC C 0 [w1, w2, w3] ([⟨x, 10⟩, ⟨1, 9⟩, ⟨1, 9⟩] : List Sz)).2 == 0) = k1; generalize ((defC C 0 m1 ([⟨x, 10⟩, ⟨1, 9⟩, ⟨1, 9⟩] : List Sz)).2 == 0) = k2; generalize ((defC C 0 [w1, w2, w3] z2).2 == 0) = k3; revert k1 k2 k3; decide)) ?_
      refine WG.y rfl rfl (by decide) (pureV_ok tab_ok rfl (by first | exact fun _ => rfl | exact fun h => h | (generalize ((defC C 0 [w1, w2, w3] ([⟨x, 10⟩, ⟨1, 9⟩, ⟨1, 9⟩] : List Sz)).2 == 0) = k1; generalize ((defC C 0 m1 ([⟨x, 10⟩, ⟨1, 9⟩, ⟨1, 9⟩] : List Sz)).2 == 0) = k2; generalize ((defC C 0 [w1, w2, w3] z2).2 == 0) = k3; revert k1 k2 k3; decide))) ?_
      refine WG.y rfl rfl (by decide) (Yl.pand rfl rfl rfl (fun _ => rfl) (by first | exact fun _ _ => rfl | (generalize ((defC C 0 [w1, w2, w3] ([⟨x, 10⟩, ⟨1, 9⟩, ⟨1, 9⟩] : List Sz)).2 == 0) = k1; generalize ((defC C 0 m1 ([⟨x, 10⟩, ⟨1, 9⟩, ⟨1, 9⟩] : List Sz)).2 == 0) = k2; generalize ((defC C 0 [w1, w2, w3] z2).2 == 0) = k3; revert k1 k2 k3; decide))) ?_
      refine WG.run tab_ok 1 rfl ?_
      refine WG.y rfl rfl (by decide) (pureV_ok tab_ok rfl (by first | exact fun _ => rfl | exact fun h => h | (generalize ((defC C 0 [w1, w2, w3] ([⟨x, 10⟩, ⟨1, 9⟩, ⟨1, 9⟩] : List Sz)).2 == 0) = k1; generalize ((defC C 0 m1 ([⟨x, 10⟩, ⟨1, 9⟩, ⟨1, 9⟩] : List Sz)).2 == 0) = k2; generalize ((defC C 0 [w1, w2, w3] z2).2 == 0) = k3; revert k1 k2 k3; decide))) ?_
      refine WG.y rfl rfl (by decide) (pureV_ok tab_ok rfl (by first | exact fun _ => rfl | exact fun h => h | (generalize ((defC C 0 [w1, w2, w3] ([⟨x, 10⟩, ⟨1, 9⟩, ⟨1, 9⟩] : List Sz)).2 == 0) = k1; generalize ((defC C 0 m1 ([⟨x, 10⟩, ⟨1, 9⟩, ⟨1, 9⟩] : List Sz)).2 == 0) = k2; generalize ((defC C 0 [w1, w2, w3] z2).2 == 0) = k3; revert k1 k2 k3; decide))) ?_
      refine WG.y rfl rfl (by decide) (pureV_ok tab_ok rfl (by first | exact fun _ => rfl | exact fun h => h | (generalize ((defC C 0 [w1, w2, w3] ([⟨x, 10⟩, ⟨1, 9⟩, ⟨1, 9⟩] : List Sz)).2 == 0) = k1; generalize ((defC C 0 m1 ([⟨x, 10⟩, ⟨1, 9⟩, ⟨1, 9⟩] : List Sz)).2 == 0) = k2; generalize ((defC C 0 [w1, w2, w3] z2).2 == 0) = k3; revert k1 k2 k3; decide))) ?_
      refine WG.y rfl rfl (by decide) (pureV_ok tab_ok rfl (by first | exact fun _ => rfl | exact fun h => h | (generalize ((defC C 0 [w1, w2, w3] ([⟨x, 10⟩, ⟨1, 9⟩, ⟨1, 9⟩] : List Sz)).2 == 0) = k1; generalize ((defC C 0 m1 ([⟨x, 10⟩, ⟨1, 9⟩, ⟨1, 9⟩] : List Sz)).2 == 0) = k2; generalize ((defC C 0 [w1, w2, w3] z2).2 == 0) = k3; revert k1 k2 k3; decide))) ?_
      refine WG.y rfl rfl (by decide) (pureV_ok tab_ok rfl (by first | exact fun _ => rfl | exact fun h => h | (generalize ((defC C 0 [w1, w2, w3] ([⟨x, 10⟩, ⟨1, 9⟩, ⟨1, 9⟩] : List Sz)).2 == 0) = k1; generalize ((defC C 0 m1 ([⟨x, 10⟩, ⟨1, 9⟩, ⟨1, 9⟩] : List Sz)).2 == 0) = k2; generalize ((defC C 0 [w1, w2, w3] z2).2 == 0) = k3; revert k1 k2 k3; decide))) ?_
      refine WG.y rfl rfl (by decide) (Yl.pand rfl rfl rfl (by first | exact fun _ => rfl | exact fun h => h | (generalize ((defC C 0 [w1, w2, w3] ([⟨x, 10⟩, ⟨1, 9⟩, ⟨1, 9⟩] : List Sz)).2 == 0) = k1; generalize ((defC C 0 m1 ([⟨x, 10⟩, ⟨1, 9⟩, ⟨1, 9⟩] : List Sz)).2 == 0) = k2; generalize ((defC C 0 [w1, w2, w3] z2).2 == 0) = k3; revert k1 k2 k3; decide)) (by first | exact fun _ _ => rfl | (generalize ((defC C 0 [w1, w2, w3] ([⟨x, 10⟩, ⟨1, 9⟩, ⟨1, 9⟩] : List Sz)).2 == 0) = k1; generalize ((defC C 0 m1 ([⟨x, 10⟩, ⟨1, 9⟩, ⟨1, 9⟩] : List Sz)).2 == 0) = k2; generalize ((defC C 0 [w1, w2, w3] z2).2 == 0) = k3; revert k1 k2 k3; decide))) ?_
      refine WG.y rfl rfl (by decide) (pureV_ok tab_ok rfl (by first | exact fun _ => rfl | exact fun h => h | (generalize ((defC C 0 [w1, w2, w3] ([⟨x, 10⟩, ⟨1, 9⟩, ⟨1, 9⟩] : List Sz)).2 == 0) = k1; generalize ((defC C 0 m1 ([⟨x, 10⟩, ⟨1, 9⟩, ⟨1, 9⟩] : List Sz)).2 == 0) = k2; generalize ((defC C 0 [w1, w2, w3] z2).2 == 0) = k3; revert k1 k2 k3; decide))) ?_
      refine' WG.y rfl rfl (by decide) (Yl.loadG tab_ok rfl rfl rfl (by first | exact fun _ => rfl | exact fun h => h | (generalize ((defC C 0 [w1, w2, w3] ([⟨x, 10⟩, ⟨1, 9⟩, ⟨1, 9⟩] : List Sz)).2 == 0) = k1; generalize ((defC C 0 m1 ([⟨x, 10⟩, ⟨1, 9⟩, ⟨1, 9⟩] : List Sz)).2 == 0) = k2; generalize ((defC C 0 [w1, w2, w3] z2).2 == 0) = k3; revert k1 k2 k3; decide)) ?r3 rfl ?h3 ?g3) ?_
      case r3 => (first | exact Rd.blkC 0 rfl | exact Rd.blkC 1 rfl | exact Rd.blkC 2 rfl | exact Rd.blkC 3 rfl | exact Rd.blkC 4 rfl)
      case h3 => rfl
      case g3 => first | exact fun _ => trivial | (intro hg; (try simp only [decide_eq_true_eq, decide_eq_false_iff_not, beq_iff_eq, bne_iff_ne, beq_eq_false_iff_ne, bne_eq_false_iff_eq, ne_eq, Bool.or_eq_true, Bool.or_eq_false_iff, Bool.and_eq_true, Bool.and_eq_false_imp, Bool.not_eq_true, Bool.not_eq_true', Bool.not_eq_false', Classical.not_not, Int.not_lt, Int.not_le, gt_iff_lt, ge_iff_le] at hg); (try dsimp only); omega)
      refine' WG.y rfl rfl (by decide) (Yl.loadG tab_ok rfl rfl rfl (by first | exact fun _ => rfl | exact fun h => h | (generalize ((defC C 0 [w1, w2, w3] ([⟨x, 10⟩, ⟨1, 9⟩, ⟨1, 9⟩] : List Sz)).2 == 0) = k1; generalize ((defC C 0 m1 ([⟨x, 10⟩, ⟨1, 9⟩, ⟨1, 9⟩] : List Sz)).2 == 0) = k2; generalize ((defC C 0 [w1, w2, w3] z2).2 == 0) = k3; revert k1 k2 k3; decide)) ?r4 rfl ?h4 ?g4) ?_
      case r4 => (first | exact Rd.blkC 0 rfl | exact Rd.blkC 1 rfl | exact Rd.blkC 2 rfl | exact Rd.blkC 3 rfl | exact Rd.blkC 4 rfl)
      case h4 => rfl
      case g4 => first | exact fun _ => trivial | (intro hg; (try simp only [decide_eq_true_eq, decide_eq_false_iff_not, beq_iff_eq, bne_iff_ne, beq_eq_false_iff_ne, bne_eq_false_iff_eq, ne_eq, Bool.or_eq_true, Bool.or_eq_false_iff, Bool.and_eq_true, Bool.and_eq_false_imp, Bool.not_eq_true, Bool.not_eq_true', Bool.not_eq_false', Classical.not_not, Int.not_lt, Int.not_le, gt_iff_lt, ge_iff_le] at hg); (try dsimp only); omega)
      refine WG.callV (v := .bool true) en38 rfl rfl (by decide) (CallOp.mk' rfl rfl rfl rfl) (by first | exact fun _ => rfl | exact fun h => h | (generalize ((defC C 0 [w1, w2, w3] ([⟨x, 10⟩, ⟨1, 9⟩, ⟨1, 9⟩] : List Sz)).2 == 0) = k1; generalize ((defC C 0 m1 ([⟨x, 10⟩, ⟨1, 9⟩, ⟨1, 9⟩] : List Sz)).2 == 0) = k2; generalize ((defC C 0 [w1, w2, w3] z2).2 == 0) = k3; revert k1 k2 k3; decide)) (fun hg => hmB (by revert hg; generalize ((defC C 0 [w1, w2, w3] ([⟨x, 10⟩, ⟨1, 9⟩, ⟨1, 9⟩] : List Sz)).2 == 0) = k1; generalize ((defC C 0 m1 ([⟨x, 10⟩, ⟨1, 9⟩, ⟨1, 9⟩] : List Sz)).2 == 0) = k2; generalize ((defC C 0 [w1, w2, w3] z2).2 == 0) = k3; revert k1 k2 k3; decide) (by revert hg; generalize ((defC C 0 [w1, w2, w3] ([⟨x, 10⟩, ⟨1, 9⟩, ⟨1, 9⟩] : List Sz)).2 == 0) = k1; generalize ((defC C 0 m1 ([⟨x, 10⟩, ⟨1, 9⟩, ⟨1, 9⟩] : List Sz)).2 == 0) = k2; generalize ((defC C 0 [w1, w2, w3] z2).2 == 0) = k3; revert k1 k2 k3; decide)) ?_
      refine WG.y rfl rfl (by decide) (pureV_ok tab_ok rfl (by first | exact fun _ => rfl | exact fun h => h | (generalize ((defC C 0 [w1, w2, w3] ([⟨x, 10⟩, ⟨1, 9⟩, ⟨1, 9⟩] : List Sz)).2 == 0) = k1; generalize ((defC C 0 m1 ([⟨x, 10⟩, ⟨1, 9⟩, ⟨1, 9⟩] : List Sz)).2 == 0) = k2; generalize ((defC C 0 [w1, w2, w3] z2).2 == 0) = k3; revert k1 k2 k3; decide))) ?_
      refine WG.y rfl rfl (by decide) (Yl.pand rfl rfl rfl (by first | exact fun _ => rfl | exact fun h => h | (generalize ((defC C 0 [w1, w2, w3] ([⟨x, 10⟩, ⟨1, 9⟩, ⟨1, 9⟩] : List Sz)).2 == 0) = k1; generalize ((defC C 0 m1 ([⟨x, 10⟩, ⟨1, 9⟩, ⟨1, 9⟩] : List Sz)).2 == 0) = k2; generalize ((defC C 0 [w1, w2, w3] z2).2 == 0) = k3; revert k1 k2 k3; decide)) (by first | exact fun _ _ => rfl | (generalize ((defC C 0 [w1, w2, w3] ([⟨x, 10⟩, ⟨1, 9⟩, ⟨1, 9⟩] : List Sz)).2 == 0) = k1; generalize ((defC C 0 m1 ([⟨x, 10⟩, ⟨1, 9⟩, ⟨1, 9⟩] : List Sz)).2 == 0) = k2; generalize ((defC C 0 [w1, w2, w3] z2).2 == 0) = k3; revert k1 k2 k3; decide))) ?_
      refine WG.y rfl rfl (by decide) (Yl.por rfl rfl rfl (fun _ => rfl) (by first | exact fun _ _ => rfl | (generalize ((defC C 0 [w1, w2, w3] ([⟨x, 10⟩, ⟨1, 9⟩, ⟨1, 9⟩] : List Sz)).2 == 0) = k1; generalize ((defC C 0 m1 ([⟨x, 10⟩, ⟨1, 9⟩, ⟨1, 9⟩] : List Sz)).2 == 0) = k2; generalize ((defC C 0 [w1, w2, w3] z2).2 == 0) = k3; revert k1 k2 k3; decide))) ?_
      refine WG.nil ?_
      refine WE.nxt ?_
      refine W.cond rfl (fun hc0 => ?_) (fun hc0 => ?_)
      · try simp only [Bool.true_and] at hc0
        exfalso; revert hc0; generalize ((defC C 0 [w1, w2, w3] ([⟨x, 10⟩, ⟨1, 9⟩, ⟨1, 9⟩] : List Sz)).2 == 0) = k1; generalize ((defC C 0 m1 ([⟨x, 10⟩, ⟨1, 9⟩, ⟨1, 9⟩] : List Sz)).2 == 0) = k2; generalize ((defC C 0 [w1, w2, w3] z2).2 == 0) = k3; revert k1 k2 k3; decide
      · try simp only [Bool.true_and] at hc0
        refine W.skip ?_
        refine WE.nxt ?_
        refine W.seq ?_
        refine W.region _ ?_
        refine WG.run tab_ok 2 rfl ?_
        refine WG.callV en51 rfl rfl (by decide) (CallOp.mk' rfl rfl rfl rfl) (fun _ => rfl) (fun hg => Others20_V (z := ([⟨x, 10⟩, ⟨1, 9⟩, ⟨1, 9⟩] : List Sz)) hw hzz (by constructor <;> decide)) ?_
        refine WG.run tab_ok 2 rfl ?_
        refine WG.callV en50 rfl rfl (by decide) (CallOp.mk' rfl rfl rfl rfl) (fun _ => rfl) (fun hg => OthersDef_len hmore hbig hml hz2l (by constructor <;> decide)) ?_
        refine WG.run tab_ok 2 rfl ?_
        refine WL.guardT rfl (by first | rfl | (simp; exact hoth) | simp [hoth]) ?_
        refine WL.call en41 rfl rfl (by decide) (CallOp.mkT rfl rfl rfl rfl) (Awake20_C w0 _) ?_
        rintro _ R9 E9 hR9 ⟨rfl, hsub9⟩
        refine WL.subE hsub9 ?_
        refine WG.y rfl rfl (by decide) (Yl.pand rfl rfl rfl (fun _ => rfl) (by first | exact fun _ _ => rfl | (generalize ((defC C 0 [w1, w2, w3] ([⟨x, 10⟩, ⟨1, 9⟩, ⟨1, 9⟩] : List Sz)).2 == 0) = k1; generalize ((defC C 0 m1 ([⟨x, 10⟩, ⟨1, 9⟩, ⟨1, 9⟩] : List Sz)).2 == 0) = k2; generalize ((defC C 0 [w1, w2, w3] z2).2 == 0) = k3; revert k1 k2 k3; decide))) ?_
        refine WG.run tab_ok 1 rfl ?_
        refine WG.nil ?_
        refine WE.nxt ?_
        refine W.ret ?_
        refine WE.retF tab_ok [_] rfl ⟨rfl, trivial⟩ (hR1.trans (hR2.trans (hR4.trans (hR5.trans (hR6.trans (hR7.trans (hR8.trans hR9))))))) ?_
        exact congrArg Value.bool (by rw [decide_eq_true hoth]; rfl)
    ·
      refine W.regionH _ (ES := []) mixed ?_
      refine WA.take 0 rfl (by kernel_rfl) (by kernel_rfl) (by kernel_rfl) rfl rfl (by decide) (pureV_ok tab_ok rfl (fun _ => rfl)) (by (repeat (first | exact List.Sublist.refl _ | exact List.nil_sublist _ | apply List.Sublist.cons_cons | apply List.Sublist.cons)); done) (by first | exact RLe.refl _ | assumption) ?_
      refine WA.take 1 rfl (by kernel_rfl) (by kernel_rfl) (by kernel_rfl) rfl rfl (by decide) (Yl.index tab_ok rfl rfl rfl rfl rfl rfl (fun _ => rfl) (by intro _; constructor <;> decide) (by intro _; first | exact fun _ _ _ h => ha31 h | exact fun _ _ _ h => ha34 h | exact fun _ _ _ _ => rfl | exact RS.has (by assumption) | exact fun _ _ _ _ => (by assumption) | exact HasMem.ownD 0 rfl | exact HasMem.ownD 1 rfl | exact HasMem.ownD 2 rfl | exact HasMem.ownD 3 rfl | exact HasMem.ownD 4 rfl)) (by (repeat (first | exact List.Sublist.refl _ | exact List.nil_sublist _ | apply List.Sublist.cons_cons | apply List.Sublist.cons)); done) (by first | exact RLe.refl _ | assumption) ?_
      refine WA.take 2 rfl (by kernel_rfl) (by kernel_rfl) (by kernel_rfl) rfl rfl (by decide) (pureV_ok tab_ok rfl (fun _ => rfl)) (by (repeat (first | exact List.Sublist.refl _ | exact List.nil_sublist _ | apply List.Sublist.cons_cons | apply List.Sublist.cons)); done) (by first | exact RLe.refl _ | assumption) ?_
      refine WA.take 4 rfl (by kernel_rfl) (by kernel_rfl) (by kernel_rfl) rfl rfl (by decide) (pureV_ok tab_ok rfl (fun _ => rfl)) (by (repeat (first | exact List.Sublist.refl _ | exact List.nil_sublist _ | apply List.Sublist.cons_cons | apply List.Sublist.cons)); done) (by first | exact RLe.refl _ | assumption) ?_
      refine WA.br2 (i := 3) (j := 5) (by kernel_rfl) ?_ ?_
      ·
        refine' WS.yl rfl rfl rfl (by decide) (Yl.load1 tab_ok rfl rfl rfl (fun _ => rfl) ?r5 rfl ?h5) (by (repeat (first | exact List.Sublist.refl _ | exact List.nil_sublist _ | apply List.Sublist.cons_cons | apply List.Sublist.cons)); done) (RLe.refl _) ?_
        case r5 => apply Rd.add; exact Rd.slD 0 rfl (by show (Int.toNat 2) < 3; decide)
        case h5 => rfl
        refine WA.callAt 2 5 rfl (by kernel_rfl) en21 rfl rfl (by decide) (CallOp.mkT rfl rfl rfl rfl) rfl (N_C w0 hz (by constructor <;> decide) _) ?_
        rintro _ _ _ _ - ⟨rfl, rfl, rfl, rfl⟩
        refine ⟨RLe.refl _, (by (repeat (first | exact List.Sublist.refl _ | exact List.nil_sublist _ | apply List.Sublist.cons_cons | apply List.Sublist.cons)); done), ?_⟩
        refine WA.take 6 rfl (by kernel_rfl) (by kernel_rfl) (by kernel_rfl) rfl rfl (by decide) (Yl.add rfl rfl rfl (fun _ => rfl) (by intro _; constructor <;> (try dsimp only) <;> omega)) (by (repeat (first | exact List.Sublist.refl _ | exact List.nil_sublist _ | apply List.Sublist.cons_cons | apply List.Sublist.cons)); done) (by first | exact RLe.refl _ | assumption) ?_
        refine WA.take 7 rfl (by kernel_rfl) (by kernel_rfl) (by kernel_rfl) rfl rfl (by decide) (Yl.index tab_ok rfl rfl rfl rfl rfl rfl (fun _ => rfl) (by intro _; constructor <;> decide) (by intro _; first | exact fun _ _ _ h => ha31 h | exact fun _ _ _ h => ha34 h | exact fun _ _ _ _ => rfl | exact RS.has (by assumption) | exact fun _ _ _ _ => (by assumption) | exact HasMem.ownD 0 rfl | exact HasMem.ownD 1 rfl | exact HasMem.ownD 2 rfl | exact HasMem.ownD 3 rfl | exact HasMem.ownD 4 rfl)) (by (repeat (first | exact List.Sublist.refl _ | exact List.nil_sublist _ | apply List.Sublist.cons_cons | apply List.Sublist.cons)); done) (by first | exact RLe.refl _ | assumption) ?_
        refine WA.take 8 rfl (by kernel_rfl) (by kernel_rfl) (by kernel_rfl) rfl rfl (by decide) (pureV_ok tab_ok rfl (fun _ => rfl)) (by (repeat (first | exact List.Sublist.refl _ | exact List.nil_sublist _ | apply List.Sublist.cons_cons | apply List.Sublist.cons)); done) (by first | exact RLe.refl _ | assumption) ?_
        refine WA.effN 9 rfl (by kernel_rfl) rfl rfl (Ef.storeF (enc := encZ) (xs := ([⟨x, 10⟩, ⟨1, 9⟩, ⟨1, 9⟩] : List Sz)) (⟨(nth ([⟨x, 10⟩, ⟨1, 9⟩, ⟨1, 9⟩] : List Sz) (Int.toNat 2)).least, (nth ([⟨x, 10⟩, ⟨1, 9⟩, ⟨1, 9⟩] : List Sz) (Int.toNat 2)).most + mod (nth (xs.take 2000) (cn1 + 1 + 1)) 20⟩ : Sz) 0 tab_ok rfl rfl rfl rfl rfl (by show (Int.toNat 2) < 3; decide) rfl rfl (by decide) rfl ?_)
        refine ⟨by first | exact RLe.refl _ | assumption, (by (repeat (first | exact List.Sublist.refl _ | exact List.nil_sublist _ | apply List.Sublist.cons_cons | apply List.Sublist.cons)); done), ?_⟩
        refine WA.done (by kernel_rfl) ?_
        refine WE.cut (([⟨x, 10⟩, ⟨1, 9⟩, ⟨1, 9⟩] : List Sz).set (Int.toNat 2) (⟨(nth ([⟨x, 10⟩, ⟨1, 9⟩, ⟨1, 9⟩] : List Sz) (Int.toNat 2)).least, (nth ([⟨x, 10⟩, ⟨1, 9⟩, ⟨1, 9⟩] : List Sz) (Int.toNat 2)).most + mod (nth (xs.take 2000) (cn1 + 1 + 1)) 20⟩ : Sz)) rfl ⟨rfl, rfl, rfl, rfl, rfl, rfl, rfl⟩ (RLe.refl _) (by (repeat (first | exact List.Sublist.refl _ | exact List.nil_sublist _ | apply List.Sublist.cons_cons | apply List.Sublist.cons)); done)
      ·
        refine WS.callAt 2 rfl en21 rfl rfl (by decide) (CallOp.mkT rfl rfl rfl rfl) rfl (N_C w0 hz (by constructor <;> decide) _) ?_
        rintro _ _ _ _ - ⟨rfl, rfl, rfl, rfl⟩
        refine ⟨by first | exact RLe.refl _ | assumption, (by (repeat (first | exact List.Sublist.refl _ | exact List.nil_sublist _ | apply List.Sublist.cons_cons | apply List.Sublist.cons)); done), ?_⟩
        refine' WA.yl 3 rfl (by kernel_rfl) rfl rfl (by decide) (Yl.load1 tab_ok rfl rfl rfl (fun _ => rfl) ?r6 rfl ?h6) (by (repeat (first | exact List.Sublist.refl _ | exact List.nil_sublist _ | apply List.Sublist.cons_cons | apply List.Sublist.cons)); done) (RLe.refl _) ?_
        case r6 => apply Rd.add; exact Rd.slD 0 rfl (by show (Int.toNat 2) < 3; decide)
        case h6 => rfl
        refine WA.take 6 rfl (by kernel_rfl) (by kernel_rfl) (by kernel_rfl) rfl rfl (by decide) (Yl.add rfl rfl rfl (fun _ => rfl) (by intro _; constructor <;> (try dsimp only) <;> omega)) (by (repeat (first | exact List.Sublist.refl _ | exact List.nil_sublist _ | apply List.Sublist.cons_cons | apply List.Sublist.cons)); done) (by first | exact RLe.refl _ | assumption) ?_
        refine WA.take 7 rfl (by kernel_rfl) (by kernel_rfl) (by kernel_rfl) rfl rfl (by decide) (Yl.index tab_ok rfl rfl rfl rfl rfl rfl (fun _ => rfl) (by intro _; constructor <;> decide) (by intro _; first | exact fun _ _ _ h => ha31 h | exact fun _ _ _ h => ha34 h | exact fun _ _ _ _ => rfl | exact RS.has (by assumption) | exact fun _ _ _ _ => (by assumption) | exact HasMem.ownD 0 rfl | exact HasMem.ownD 1 rfl | exact HasMem.ownD 2 rfl | exact HasMem.ownD 3 rfl | exact HasMem.ownD 4 rfl)) (by (repeat (first | exact List.Sublist.refl _ | exact List.nil_sublist _ | apply List.Sublist.cons_cons | apply List.Sublist.cons)); done) (by first | exact RLe.refl _ | assumption) ?_
        refine WA.take 8 rfl (by kernel_rfl) (by kernel_rfl) (by kernel_rfl) rfl rfl (by decide) (pureV_ok tab_ok rfl (fun _ => rfl)) (by (repeat (first | exact List.Sublist.refl _ | exact List.nil_sublist _ | apply List.Sublist.cons_cons | apply List.Sublist.cons)); done) (by first | exact RLe.refl _ | assumption) ?_
        refine WA.effN 9 rfl (by kernel_rfl) rfl rfl (Ef.storeF (enc := encZ) (xs := ([⟨x, 10⟩, ⟨1, 9⟩, ⟨1, 9⟩] : List Sz)) (⟨(nth ([⟨x, 10⟩, ⟨1, 9⟩, ⟨1, 9⟩] : List Sz) (Int.toNat 2)).least, (nth ([⟨x, 10⟩, ⟨1, 9⟩, ⟨1, 9⟩] : List Sz) (Int.toNat 2)).most + mod (nth (xs.take 2000) (cn1 + 1 + 1)) 20⟩ : Sz) 0 tab_ok rfl rfl rfl rfl rfl (by show (Int.toNat 2) < 3; decide) rfl rfl (by decide) rfl ?_)
        refine ⟨by first | exact RLe.refl _ | assumption, (by (repeat (first | exact List.Sublist.refl _ | exact List.nil_sublist _ | apply List.Sublist.cons_cons | apply List.Sublist.cons)); done), ?_⟩
        refine WA.done (by kernel_rfl) ?_
        refine WE.cut (([⟨x, 10⟩, ⟨1, 9⟩, ⟨1, 9⟩] : List Sz).set (Int.toNat 2) (⟨(nth ([⟨x, 10⟩, ⟨1, 9⟩, ⟨1, 9⟩] : List Sz) (Int.toNat 2)).least, (nth ([⟨x, 10⟩, ⟨1, 9⟩, ⟨1, 9⟩] : List Sz) (Int.toNat 2)).most + mod (nth (xs.take 2000) (cn1 + 1 + 1)) 20⟩ : Sz)) rfl ⟨rfl, rfl, rfl, rfl, rfl, rfl, rfl⟩ (RLe.refl _) (by (repeat (first | exact List.Sublist.refl _ | exact List.nil_sublist _ | apply List.Sublist.cons_cons | apply List.Sublist.cons)); done)
  ·
    refine W.regionH _ (ES := []) mixed ?_
    refine WA.take 0 rfl (by kernel_rfl) (by kernel_rfl) (by kernel_rfl) rfl rfl (by decide) (pureV_ok tab_ok rfl (fun _ => rfl)) (by (repeat (first | exact List.Sublist.refl _ | exact List.nil_sublist _ | apply List.Sublist.cons_cons | apply List.Sublist.cons)); done) (by first | exact RLe.refl _ | assumption) ?_
    refine WA.take 1 rfl (by kernel_rfl) (by kernel_rfl) (by kernel_rfl) rfl rfl (by decide) (Yl.index tab_ok rfl rfl rfl rfl rfl rfl (fun _ => rfl) (by intro _; constructor <;> (try dsimp only) <;> omega) (by intro _; first | exact fun _ _ _ h => ha31 h | exact fun _ _ _ h => ha34 h | exact fun _ _ _ _ => rfl | exact RS.has (by assumption) | exact fun _ _ _ _ => (by assumption) | exact HasMem.ownD 0 rfl | exact HasMem.ownD 1 rfl | exact HasMem.ownD 2 rfl | exact HasMem.ownD 3 rfl | exact HasMem.ownD 4 rfl)) (by (repeat (first | exact List.Sublist.refl _ | exact List.nil_sublist _ | apply List.Sublist.cons_cons | apply List.Sublist.cons)); done) (by first | exact RLe.refl _ | assumption) ?_
    refine WA.take 3 rfl (by kernel_rfl) (by kernel_rfl) (by kernel_rfl) rfl rfl (by decide) (pureV_ok tab_ok rfl (fun _ => rfl)) (by (repeat (first | exact List.Sublist.refl _ | exact List.nil_sublist _ | apply List.Sublist.cons_cons | apply List.Sublist.cons)); done) (by first | exact RLe.refl _ | assumption) ?_
    refine WA.br2 (i := 2) (j := 4) (by kernel_rfl) ?_ ?_
    ·
      refine' WS.yl rfl rfl rfl (by decide) (Yl.load1 tab_ok rfl rfl rfl (fun _ => rfl) ?r7 rfl ?h7) (by (repeat (first | exact List.Sublist.refl _ | exact List.nil_sublist _ | apply List.Sublist.cons_cons | apply List.Sublist.cons)); done) (RLe.refl _) ?_
      case r7 => exact Rd.slD 1 rfl (by show (Int.toNat 1) < _; omega)
      case h7 => rfl
      refine WA.callAt 2 4 rfl (by kernel_rfl) en21 rfl rfl (by decide) (CallOp.mkT rfl rfl rfl rfl) rfl (N_C w0 hz (by constructor <;> decide) _) ?_
      rintro _ _ _ _ - ⟨rfl, rfl, rfl, rfl⟩
      refine ⟨RLe.refl _, (by (repeat (first | exact List.Sublist.refl _ | exact List.nil_sublist _ | apply List.Sublist.cons_cons | apply List.Sublist.cons)); done), ?_⟩
      refine WA.take 5 rfl (by kernel_rfl) (by kernel_rfl) (by kernel_rfl) rfl rfl (by decide) (Yl.add rfl rfl rfl (fun _ => rfl) (by intro _; constructor <;> (try dsimp only) <;> omega)) (by (repeat (first | exact List.Sublist.refl _ | exact List.nil_sublist _ | apply List.Sublist.cons_cons | apply List.Sublist.cons)); done) (by first | exact RLe.refl _ | assumption) ?_
      refine WA.take 6 rfl (by kernel_rfl) (by kernel_rfl) (by kernel_rfl) rfl rfl (by decide) (Yl.index tab_ok rfl rfl rfl rfl rfl rfl (fun _ => rfl) (by intro _; constructor <;> (try dsimp only) <;> omega) (by intro _; first | exact fun _ _ _ h => ha31 h | exact fun _ _ _ h => ha34 h | exact fun _ _ _ _ => rfl | exact RS.has (by assumption) | exact fun _ _ _ _ => (by assumption) | exact HasMem.ownD 0 rfl | exact HasMem.ownD 1 rfl | exact HasMem.ownD 2 rfl | exact HasMem.ownD 3 rfl | exact HasMem.ownD 4 rfl)) (by (repeat (first | exact List.Sublist.refl _ | exact List.nil_sublist _ | apply List.Sublist.cons_cons | apply List.Sublist.cons)); done) (by first | exact RLe.refl _ | assumption) ?_
      refine WA.effN 7 rfl (by kernel_rfl) rfl rfl (Ef.storeD (enc := encI) (xs := w) (nth w (Int.toNat 1) + mod (nth (xs.take 2000) (cn1 + 1)) 3) 1 tab_ok rfl rfl rfl rfl rfl (by show (Int.toNat 1) < _; omega) rfl rfl rfl rfl ?_)
      refine ⟨by first | exact RLe.refl _ | assumption, (by (repeat (first | exact List.Sublist.refl _ | exact List.nil_sublist _ | apply List.Sublist.cons_cons | apply List.Sublist.cons)); done), ?_⟩
      refine WA.done (by kernel_rfl) ?_
      refine WE.cut (w.set (Int.toNat 1) (nth w (Int.toNat 1) + mod (nth (xs.take 2000) (cn1 + 1)) 3)) rfl ⟨rfl, rfl, rfl, rfl, rfl, rfl, rfl⟩ (RLe.refl _) (by (repeat (first | exact List.Sublist.refl _ | exact List.nil_sublist _ | apply List.Sublist.cons_cons | apply List.Sublist.cons)); done)
    ·
      refine WS.callAt 2 rfl en21 rfl rfl (by decide) (CallOp.mkT rfl rfl rfl rfl) rfl (N_C w0 hz (by constructor <;> decide) _) ?_
      rintro _ _ _ _ - ⟨rfl, rfl, rfl, rfl⟩
      refine ⟨by first | exact RLe.refl _ | assumption, (by (repeat (first | exact List.Sublist.refl _ | exact List.nil_sublist _ | apply List.Sublist.cons_cons | apply List.Sublist.cons)); done), ?_⟩
      refine' WA.yl 2 rfl (by kernel_rfl) rfl rfl (by decide) (Yl.load1 tab_ok rfl rfl rfl (fun _ => rfl) ?r8 rfl ?h8) (by (repeat (first | exact List.Sublist.refl _ | exact List.nil_sublist _ | apply List.Sublist.cons_cons | apply List.Sublist.cons)); done) (RLe.refl _) ?_
      case r8 => exact Rd.slD 1 rfl (by show (Int.toNat 1) < _; omega)
      case h8 => rfl
      refine WA.take 5 rfl (by kernel_rfl) (by kernel_rfl) (by kernel_rfl) rfl rfl (by decide) (Yl.add rfl rfl rfl (fun _ => rfl) (by intro _; constructor <;> (try dsimp only) <;> omega)) (by (repeat (first | exact List.Sublist.refl _ | exact List.nil_sublist _ | apply List.Sublist.cons_cons | apply List.Sublist.cons)); done) (by first | exact RLe.refl _ | assumption) ?_
      refine WA.take 6 rfl (by kernel_rfl) (by kernel_rfl) (by kernel_rfl) rfl rfl (by decide) (Yl.index tab_ok rfl rfl rfl rfl rfl rfl (fun _ => rfl) (by intro _; constructor <;> (try dsimp only) <;> omega) (by intro _; first | exact fun _ _ _ h => ha31 h | exact fun _ _ _ h => ha34 h | exact fun _ _ _ _ => rfl | exact RS.has (by assumption) | exact fun _ _ _ _ => (by assumption) | exact HasMem.ownD 0 rfl | exact HasMem.ownD 1 rfl | exact HasMem.ownD 2 rfl | exact HasMem.ownD 3 rfl | exact HasMem.ownD 4 rfl)) (by (repeat (first | exact List.Sublist.refl _ | exact List.nil_sublist _ | apply List.Sublist.cons_cons | apply List.Sublist.cons)); done) (by first | exact RLe.refl _ | assumption) ?_
      refine WA.effN 7 rfl (by kernel_rfl) rfl rfl (Ef.storeD (enc := encI) (xs := w) (nth w (Int.toNat 1) + mod (nth (xs.take 2000) (cn1 + 1)) 3) 1 tab_ok rfl rfl rfl rfl rfl (by show (Int.toNat 1) < _; omega) rfl rfl rfl rfl ?_)
      refine ⟨by first | exact RLe.refl _ | assumption, (by (repeat (first | exact List.Sublist.refl _ | exact List.nil_sublist _ | apply List.Sublist.cons_cons | apply List.Sublist.cons)); done), ?_⟩
      refine WA.done (by kernel_rfl) ?_
      refine WE.cut (w.set (Int.toNat 1) (nth w (Int.toNat 1) + mod (nth (xs.take 2000) (cn1 + 1)) 3)) rfl ⟨rfl, rfl, rfl, rfl, rfl, rfl, rfl⟩ (RLe.refl _) (by (repeat (first | exact List.Sublist.refl _ | exact List.nil_sublist _ | apply List.Sublist.cons_cons | apply List.Sublist.cons)); done)

end Go.Proofs.Ytcfnckccmkjjlaa

/- DeficitMonotone: for every list of numbers the law returns true, and the list reads afterwards as it read before. No condition. -/
namespace Go.Proofs.Ytcfnckccmkjjlaa
open Go Go.RowKit Go.ChangeShapes Go.WideShapes Go.ChangeAt Go.WideElems Go.Maps Go.Proofs.Ytcfnckccmkjjlaa.K
namespace deficitMonotone
theorem law : LawI Try.prog 11 := fun ha hc w0 => DeficitMonotone_F ha hc w0
theorem own : ownKnob Try.prog.godebug = none := by kernel_rfl
theorem laidOut : laidOutB Try.prog = true := by kernel_rfl
theorem cellsI : Try.prog.cellsOf 3 = 1 := by kernel_rfl
set_option maxRecDepth 100000 in
theorem lifted (os : Os) (started : os.Started) (H : Type) (enc : TypeId × Value → H) :
    ReturnsInHanded {} Try.checked os 11 .any (Rows.deficitMonotoneSpec.pre6 enc Try.prog Try.f11 Rows.deficitMonotoneRow.domain false) (Rows.deficitMonotoneSpec.post enc Try.prog Try.f11 false true false false) := by
  refine returnsInHanded_of_change (C := Try.checked) own started (by kernel_rfl) Try.func11
    (ChangeSpec.witness6 (enc := enc) (C := Try.checked) false ⟨#[], #[.slice none 0 0], []⟩ 8 (by kernel_rfl) (by kernel_rfl) (by kernel_rfl) (by kernel_rfl)) ?_
  intro W base args ds gs before hval0 hW _ _
  have hval : ∀ (j : Nat) t v, Try.f11.params[j]? = some t → args[j]? = some v → Value.okWide Try.prog W .any base t v := hval0
  have hW' := hW
  obtain ⟨p, q, hA0, hV, rfl, _, _⟩ := hW
  have hA : DataW.TrodAll enc Try.prog W 0 (fun _ => true) true Try.f11.params.toList args.toList ds p := hA0
  rw [Try.params11] at hA hval
  obtain ⟨v0, d0, rfl, rfl, h0⟩ := trodAll_one hA
  obtain ⟨rfl, rfl⟩ := trodVars_none hV
  have h0k := h0
  obtain ⟨fuel, hf⟩ := h0
  clear hA0 hval0
  simp only [List.append_nil] at hW'
  have hlt : ∀ x ∈ p, x.block < W.heap.size := fun x hx => by simpa using hW'.lt x hx
  have hargs : ∀ W', Below W.heap.size W W' → DataW.Trod enc Try.prog W' 0 (fun b => decide (b < W.heap.size)) true 23 v0 d0 p := fun W' hb =>
    Below.trod laidOut (by kernel_rfl) (of_decide_eq_true (by kernel_rfl)) h0k hb hlt
  obtain ⟨a0, len, cap, rfl⟩ := okWide_slice Try.underlying23 (hval 0 23 v0 rfl rfl)
  rcases open_ints Try.underlying23 Try.underlying3 cellsI hf with ⟨hcs, hx⟩ | ⟨a, len', cap', zs, hcs, _, hl, hm, hz, hx, hcell, hwz⟩
  · simp [Value.cells] at hcs
    obtain ⟨rfl, rfl, rfl⟩ := hcs
    simp only [Prod.mk.injEq] at hx
    obtain ⟨rfl, rfl⟩ := hx
    refine (law.nil W).mono fun e W' ⟨he, hb⟩ => ?_
    subst he
    exact ⟨_, rfl, ⟨_, _, _, [], _, [], hW', trodAll_mk1 (shut_bool Try.underlying4 _), trodAll_mk1 (hargs W' hb), rfl, hb.frame _, fun h => by cases h⟩⟩
  · simp [Value.cells] at hcs
    obtain ⟨rfl, rfl, rfl⟩ := hcs
    simp only [Prod.mk.injEq] at hx
    obtain ⟨rfl, rfl⟩ := hx
    simp only [if_true] at hz
    refine (law.some (len := len) hcell (by rw [hz]; simp only [maxLen] at hm; omega) hz hl).mono fun e W' ⟨he, hb⟩ => ?_
    subst he
    exact ⟨_, rfl, ⟨_, _, _, [], _, [], hW', trodAll_mk1 (shut_bool Try.underlying4 _), trodAll_mk1 (hargs W' hb), rfl, hb.frame _, fun h => by cases h⟩⟩
end deficitMonotone
theorem deficitMonotone_holds : Rows.DeficitMonotoneSaid :=
  OpenClaim.holds_of_wide 11 Try.f11 rfl rfl rfl rfl rfl rfl rfl ⟨rfl, rfl, rfl, rfl, rfl⟩ rfl rfl rfl rfl rfl (by kernel_rfl) Try.func11 (by kernel_rfl)
    (of_decide_eq_true (by kernel_rfl)) (by unfold Func.isWrapper; first | (rw [if_pos (by decide +kernel)]; kernel_rfl) | (rw [if_neg (by decide +kernel)]; exact ⟨rfl, rfl⟩))
    (fun os started H enc _ => deficitMonotone.lifted os started H enc)
end Go.Proofs.Ytcfnckccmkjjlaa
