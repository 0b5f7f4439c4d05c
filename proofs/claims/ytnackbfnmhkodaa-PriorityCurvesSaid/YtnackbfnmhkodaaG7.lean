/- PriorityCurves: for every input the law returns true, and the input reads afterwards as it read before. No condition. -/
import Derived.Test.YtnackbfnmhkodaaG6
/- The curves of priorities. No condition. -/
set_option maxRecDepth 4000
set_option linter.unusedSimpArgs false
set_option linter.unusedVariables false
namespace Go.Proofs.Ytnackbfnmhkodaa
open Go Go.RowKit Go.Proofs.Ytnackbfnmhkodaa.K Go.Proofs.Ytnackbfnmhkodaa.M

structure SlZ where
 a : Option Addr
 cap : Nat
 xs : List Sz
instance instSlZ : Inhabited SlZ := ⟨⟨none, 0, []⟩⟩
def encW (s : SlZ) : List Value := [.slice s.a s.xs.length s.cap]
theorem foldl_inv {α β : Type} {f : β → α → β} {I : β → Prop} : ∀ (l : List α) (b : β), I b → (∀ b a, a ∈ l → I b → I (f b a)) → I (l.foldl f b)
 | [], b, h, _ => h
 | x :: l, b, h, hs => foldl_inv l (f b x) (hs b x (by simp) h) (fun b a ha hb => hs b a (by simp [ha]) hb)
theorem sizes_ok {ps : List Pkt} {n : Nat} {M : Int} (hM : 0 ≤ M) (hs : ∀ p ∈ ps, 1 ≤ p.size ∧ p.size ≤ M) : (sizesL n ps).length = n ∧ ∀ s ∈ sizesL n ps, 0 ≤ s.least ∧ s.least ≤ s.most ∧ s.most ≤ M := by
 unfold sizesL
 refine foldl_inv (I := fun (z : List Sz) => z.length = n ∧ ∀ s ∈ z, 0 ≤ s.least ∧ s.least ≤ s.most ∧ s.most ≤ M) ps _ ⟨by simp, fun s h => ?_⟩ ?_
 ·obtain rfl := List.eq_of_mem_replicate h
  exact ⟨by decide, by decide, hM⟩
 ·intro z p hp ⟨h1, h2⟩
  have hps := hs p hp
  refine ⟨by rw [szAdd_len]; exact h1, ?_⟩
  unfold szAdd
  split
  ·exact h2
  ·rename_i hf
   have hfl : p.flow.toNat < z.length := by omega
   have h3 : ∀ s ∈ szPre z p, 0 ≤ s.least ∧ s.least ≤ s.most ∧ s.most ≤ M := by
    unfold szPre
    split
    ·intro s h
     rcases List.mem_or_eq_of_mem_set h with h | rfl
     ·exact h2 s h
     ·dsimp only; omega
    ·exact h2
   intro s h
   have h4 := h3 _ (nth_mem (xs := szPre z p) (k := p.flow.toNat) (by rw [szPre_len]; exact hfl))
   rcases List.mem_or_eq_of_mem_set h with h | rfl
   ·exact h3 s h
   ·dsimp only
    split <;> split <;> omega

set_option maxHeartbeats 2000000 in
theorem PriorityCurves_F {R : Ro} {la sa : Option Addr} {lc sc : Nat} {ls : List CvS} {sizes : List Sz} {cap cls : Int} {a : Option Addr} {c : Nat} {xs : List Int} (hls : RS R 3 encC la ls) (hlc : ls.length ≤ lc) (hoi : ∀ x ∈ ls, RS R 1 encI x.a x.cv.vals ∧ x.cv.vals.length ≤ x.cap) (hsz : RS R 2 encZ sa sizes) (hsc : sizes.length ≤ sc) (ha : RS R 1 encI a xs) (hc : xs.length ≤ c) (w0 : World) : K.Fn Try.prog 4 [.slice la ls.length lc, .slice sa sizes.length sc, .int .i64 cap, .int .i64 cls, .slice a xs.length c] w0 R [] (fun v _ _ => v = .bool true) := by
 have hlr := hsz.len
 have hll := hls.len
 refine Fn.enter (n := 164) Try.func4 rfl rfl (Nat.le_of_ble_eq_true rfl) rfl ?_
 refine W.seq (W.region _ (WG.run tab_ok 1 rfl (WG.nil (WE.nxt (W.seq (W.seq (W.region _ (WG.run tab_ok 4 rfl ?_))))))))
 refine WG.y rfl rfl qD (pureV_ok tab_ok rfl qE) ?_
 refine WG.y rfl rfl qD (pureV_ok tab_ok rfl qE) ?_
 refine WG.y rfl rfl qD (pureV_ok tab_ok rfl qE) ?_
 refine WG.y rfl rfl (by decide) (Yl.por rfl rfl rfl (fun _ => rfl) (by intro h1 h2; simp_all <;> omega)) ?_
 refine WG.nil (WE.nxt ?_)
 refine W.cond rfl (fun hc0 => ?_) (fun hc0 => ?_)
 ·try simp only [kk] at hc0
  refine W.seq (W.region _ ?_)
  refine WL.call en19 rfl rfl qD (CallOp.mkT rfl rfl rfl rfl) (Awake18_C w0 _) ?_
  rintro _ R9 E9 hR9 ⟨rfl, hsub9⟩
  refine WL.subE hsub9 ?_
  refine WG.run tab_ok 1 rfl (WG.nil (WE.nxt (W.ret (WE.then_ret ?_))))
  refine WE.retF tab_ok [_] rfl ⟨rfl, trivial⟩ ((by first | exact RLe.refl _ | assumption | exact hRAp.trans (hRk.trans hR9))) ?_
  exact rfl
 ·try simp only [kk] at hc0
  refine W.skip (WE.nxt (W.seq (W.seq (W.region _ (WG.run tab_ok 3 rfl (WG.nil (WE.nxt (W.block ?_))))))))
  refine W.loopK (β := Nat) (fun i => i ≤ ls.length ∧ ∀ j, j < i → (nth ls j).cv.vals.length ≤ 800) (fun i => [(36, true, .int .i64 (i : Int))]) [0, 1, 2, 3, 4, 35] [_, _, _, _, _, _] [] _ rfl (fun i => []) (fun i => ls.length - i) (0) (⟨Nat.zero_le _, fun j hj => by omega⟩) ⟨rfl, rfl, rfl, rfl, rfl, rfl, rfl, rfl⟩ qS ?_
  intro i hst
  dsimp only [zipE, setAll, List.cons_append, List.nil_append, List.set_cons_zero, List.set_cons_succ] at hst ⊢
  
  refine W.seq (W.region _ (WG.run tab_ok 1 rfl (WG.nil (WE.nxt (W.seq ?_)))))
  refine W.condD rfl (fun hc1 => ?_) (fun hc1 => ?_)
  ·try dsimp only at hc1
   have hil : i < ls.length := by omega
   refine W.skip (WE.nxt (W.seq (W.block (W.seq (W.region _ (WG.run tab_ok 2 rfl (WG.nil (WE.nxt (W.seq (W.region _ (WG.run tab_ok 2 rfl ?_)))))))))))
   refine WG.y rfl rfl qD (Yl.indexN tab_ok rfl rfl rfl rfl rfl rfl (fun _ => rfl) qN qH) ?_
   refine' WG.y rfl rfl qD (Yl.load1 tab_ok rfl rfl rfl (fun _ => rfl) ?r1 rfl ?h1) ?_
   case r1 => exact RS.rdD hls qO
   case h1 => rfl
   refine WG.callV (v := .bool (decide (((nth ls i).cv.vals.length : Int) ≤ 800))) en5 rfl rfl qD (CallOp.mk' rfl rfl rfl rfl) (fun _ => rfl) (fun hg => SmallK_V) ?_
   refine WG.run tab_ok 1 rfl (WG.nil (WE.nxt ?_))
   refine W.cond rfl (fun hc2 => ?_) (fun hc2 => ?_)
   ·try simp only [kk] at hc2
    refine W.seq (W.region _ ?_)
    refine WL.call en19 rfl rfl qD (CallOp.mkT rfl rfl rfl rfl) (Awake18_C w0 _) ?_
    rintro _ R9 E9 hR9 ⟨rfl, hsub9⟩
    refine WL.subE hsub9 ?_
    refine WG.run tab_ok 1 rfl (WG.nil (WE.nxt (W.ret (WE.blk_ret (WE.then_ret (WE.then_ret (WE.blk_ret (WE.then_ret ?_))))))))
    refine WE.retF tab_ok [_] rfl ⟨rfl, trivial⟩ ((by first | exact RLe.refl _ | assumption | exact hRAp.trans (hRk.trans hR9))) ?_
    exact rfl
   ·try simp only [kk] at hc2
    have hi8 : (nth ls i).cv.vals.length ≤ 800 := by first | omega | (simp at hc2; omega)
    refine W.skip (WE.blk _ (WE.nxt (W.region _ ?_)))
    refine WG.y rfl rfl qD (Yl.add rfl rfl rfl (fun _ => rfl) qA) ?_
    refine WG.run tab_ok 1 rfl (WG.nil ?_)
    refine WE.again (i + 1) (⟨by omega, fun j hj => by
     by_cases e : j = i
     ·subst e; exact hi8
     ·exact hst.2 j (by omega)⟩) (by (try dsimp only); omega) ⟨rfl, rfl, rfl, rfl, rfl, rfl, rfl, rfl⟩ (RLe.refl _) qS
  ·try dsimp only at hc1
   obtain rfl : i = ls.length := by omega
   have hsm : ∀ x ∈ ls, x.cv.vals.length ≤ 800 := fun x hx => by
    obtain ⟨j, hj, rfl⟩ := List.getElem_of_mem hx
    have := hst.2 j hj
    rw [nth_eq hj] at this
    exact this
   refine W.exit ?_
   refine WE.then_exit (WE.then_exit (WE.blk_exit (WE.nxt (W.seq (W.region _ (WG.run tab_ok 1 rfl ?_))))))
   refine WL.call en7 rfl rfl qD (CallOp.mkT rfl rfl rfl rfl) (New_C w0 _ hc) ?_
   rintro _ _ _ - ⟨b, rfl, rfl, rfl⟩
   have hz := ha.take 2000
   refine WG.run tab_ok 1 rfl (WG.nil (WE.nxt (W.seq (W.region _ (WG.run tab_ok 1 rfl ?_)))))
   refine WL.callAt 0 en8 rfl rfl qD (CallOp.mkT rfl rfl rfl rfl) rfl (Zero_C w0 hz (most := 5) qD _) ?_
   rintro _ Rz1 _ _ hRz1 ⟨f1, k1, n1, v1, rfl, hf1, hs1, hfn1, h01, hcp1, rfl, rfl⟩
   have hz := hz.mono hRz1
   have hls := hls.mono hRz1
   have hsz := hsz.mono hRz1
   refine WG.run tab_ok 1 rfl ?_
   refine WL.callAt 0 en8 rfl rfl qD (CallOp.mkT rfl rfl rfl rfl) rfl (Zero_C w0 hz (most := 5) qD _) ?_
   rintro _ Rz2 _ _ hRz2 ⟨f2, k2, n2, v2, rfl, hf2, hs2, hfn2, h02, hcp2, rfl, rfl⟩
   have hz := hz.mono hRz2
   have hls := hls.mono hRz2
   have hsz := hsz.mono hRz2
   have hf1 := hf1.mono hRz2
   refine WG.run tab_ok 1 rfl ?_
   refine WL.callAt 0 en10 rfl rfl qD (CallOp.mkT rfl rfl rfl rfl) rfl (KCurve_C w0 hz (most := 5) qD _) ?_
   rintro _ Rz3 _ _ hRz3 ⟨f3, k3, n3, v3, rfl, hf3, hs3, hcp3, rfl, rfl⟩
   have hz := hz.mono hRz3
   have hls := hls.mono hRz3
   have hsz := hsz.mono hRz3
   have hf1 := hf1.mono hRz3
   have hf2 := hf2.mono hRz3
   refine WL.ef rfl rfl qD (Ef.buildSliceD (enc := encC) (parts := [.tmp 50, .tmp 52, .tmp 54]) [(⟨f1, k1, v1⟩ : CvS), ⟨f2, k2, v2⟩, ⟨f3, k3, v3⟩] tab_ok rfl rfl rfl rfl rfl rfl rfl rfl qD qD (fun a55 => ?_))
   refine WL.freeze (enc := encC) (xs := ([⟨f1, k1, v1⟩, ⟨f2, k2, v2⟩, ⟨f3, k3, v3⟩] : List CvS)) 0 rfl ?_
   intro R1 hR1 hal
   have hz := hz.mono hR1
   have hls := hls.mono hR1
   have hsz := hsz.mono hR1
   have hf1 := hf1.mono hR1
   have hf2 := hf2.mono hR1
   have hf3 := hf3.mono hR1
   refine WG.run tab_ok 1 rfl (WG.nil (WE.nxt (W.seq (W.region _ (WG.run tab_ok 1 rfl ?_)))))
   refine WL.callAt 0 en21 rfl rfl qD (CallOp.mkT rfl rfl rfl rfl) rfl (Traffic_C w0 hz qD (by constructor <;> decide) qD _) ?_
   rintro _ _ _ _ - ⟨a2, c2, rfl, rfl, rfl, rfl⟩
   refine WL.freeze (enc := encP) (xs := (traffic (xs.take 2000) 9 3 40 (n3))) 0 rfl ?_
   intro R2 hR2 hp
   have hok := traffic_ok (xs.take 2000) (n := 9) (flows := 3) (most := 40) (by decide) (by decide) (by decide) (n3)
   have hat := traffic_at (xs.take 2000) (n := 9) (flows := 3) (most := 40) (by decide) (by decide) (by decide) (n3)
   have hlt := traffic_len (xs.take 2000) (n := 9) (flows := 3) (most := 40) (by decide) (n3)
   generalize (traffic (xs.take 2000) 9 3 40 (n3)) = ps at hp hok hat hlt ⊢
   have hz := hz.mono hR2
   have hls := hls.mono hR2
   have hsz := hsz.mono hR2
   have hf1 := hf1.mono hR2
   have hf2 := hf2.mono hR2
   have hf3 := hf3.mono hR2
   have hal := hal.mono hR2
   refine WL.call en20 rfl rfl qD (CallOp.mkT rfl rfl rfl rfl) (Sizes_C hp rfl (n := 3) qD w0 _) ?_
   rintro _ _ E4 - ⟨az, cz, rfl, rfl, hsub4⟩
   refine WL.subE hsub4 ?_
   obtain ⟨hzzl, hzzb⟩ := sizes_ok (n := 3) (M := 40) (by decide) (fun p hp => by have := hat p hp; omega : ∀ p ∈ ps, 1 ≤ p.size ∧ p.size ≤ 40)
   generalize sizesL 3 ps = zz at hzzl hzzb ⊢
   refine WL.cap 0 rfl ?_
   intro hcz
   rw [List.length_map] at hcz
   refine WL.freeze (enc := encZ) (xs := zz) 0 rfl ?_
   intro R3 hR3 hzz
   generalize n3 + 1 + 3 * trafficK (xs.take 2000) 9 n3 = cn1
   have hz := hz.mono hR3
   have hls := hls.mono hR3
   have hsz := hsz.mono hR3
   have hf1 := hf1.mono hR3
   have hf2 := hf2.mono hR3
   have hf3 := hf3.mono hR3
   have hal := hal.mono hR3
   refine WG.run tab_ok 1 rfl (WG.nil (WE.nxt (W.seq (W.seq ?_))))
   refine W.regionH _ (ES := []) mixed ?_
   refine WA.take 0 rfl qK qK qK rfl rfl qD (pureV_ok tab_ok rfl (fun _ => rfl)) qS qR ?_
   refine WA.take 1 rfl qK qK qK rfl rfl qD (pureV_ok tab_ok rfl (fun _ => rfl)) qS qR ?_
   refine WA.take 2 rfl qK qK qK rfl rfl qD (pureV_ok tab_ok rfl (fun _ => rfl)) qS qR ?_
   refine WA.take 3 rfl qK qK qK rfl rfl qD (pureV_ok tab_ok rfl (fun _ => rfl)) qS qR ?_
   refine WA.take 6 rfl qK qK qK rfl rfl qD (pureV_ok tab_ok rfl (fun _ => rfl)) qS qR ?_
   refine WA.take 7 rfl qK qK qK rfl rfl qD (Yl.index tab_ok rfl rfl rfl rfl rfl rfl (fun _ => rfl) (by intro _; constructor <;> decide) qH) qS qR ?_
   refine' WA.take 8 rfl qK qK qK rfl rfl qD (Yl.load1 tab_ok rfl rfl rfl (fun _ => rfl) ?r2 rfl ?h2) qS qR ?_
   case r2 => exact RS.rdD hal (by show 0 < 3; decide)
   case h2 => rfl
   refine WA.take 9 rfl qK qK qK rfl rfl qD (pureV_ok tab_ok rfl (fun _ => rfl)) qS qR ?_
   refine WA.take 10 rfl qK qK qK rfl rfl qD (pureV_ok tab_ok rfl (fun _ => rfl)) qS qR ?_
   refine WA.take 11 rfl qK qK qK rfl rfl qD (Yl.index tab_ok rfl rfl rfl rfl rfl rfl (fun _ => rfl) (by intro _; constructor <;> decide) qH) qS qR ?_
   refine' WA.take 12 rfl qK qK qK rfl rfl qD (Yl.load1 tab_ok rfl rfl rfl (fun _ => rfl) ?r3 rfl ?h3) qS qR ?_
   case r3 => exact RS.rdD hal (by show 1 < 3; decide)
   case h3 => rfl
   refine WA.take 14 rfl qK qK qK rfl rfl qD (pureV_ok tab_ok rfl (fun _ => rfl)) qS qR ?_
   refine WA.take 15 rfl qK qK qK rfl rfl qD (Yl.index tab_ok rfl rfl rfl rfl rfl rfl (fun _ => rfl) (by intro _; constructor <;> decide) qH) qS qR ?_
   refine' WA.take 16 rfl qK qK qK rfl rfl qD (Yl.load1 tab_ok rfl rfl rfl (fun _ => rfl) ?r4 rfl ?h4) qS qR ?_
   case r4 => exact RS.rdD hal (by show 2 < 3; decide)
   case h4 => rfl
   refine WA.take 20 rfl qK qK qK rfl rfl qD (pureV_ok tab_ok rfl (fun _ => rfl)) qS qR ?_
   refine WA.callAt 0 4 rfl qK en12 rfl rfl qD (CallOp.mkT rfl rfl rfl rfl) rfl (N_C w0 hz (by constructor <;> decide) _) ?_
   rintro _ _ _ _ - ⟨rfl, rfl, rfl, rfl⟩
   obtain ⟨m, hm, hm3⟩ : ∃ m : Nat, mod (nth (xs.take 2000) cn1) 3 = ((([⟨f1, k1, v1⟩, ⟨f2, k2, v2⟩, ⟨f3, k3, v3⟩] : List CvS).take m).length : Int) ∧ (([⟨f1, k1, v1⟩, ⟨f2, k2, v2⟩, ⟨f3, k3, v3⟩] : List CvS).take m).length ≤ 3 := by
    have := mod_range (nth (xs.take 2000) cn1) (show (1 : Int) ≤ 3 by decide)
    refine ⟨(mod (nth (xs.take 2000) cn1) 3).toNat, ?_, by rw [List.length_take]; exact Nat.min_le_right _ _⟩
    rw [List.length_take]
    simp only [List.length_cons, List.length_nil]
    omega
   rw [hm]
   refine ⟨RLe.refl _, qS, ?_⟩
   refine WA.take 5 rfl qK qK qK rfl rfl qD (Yl.sliceH tab_ok rfl rfl rfl rfl rfl (fun _ => rfl) (by intro _; omega) rfl) qS qR ?_
   refine WA.callAt 0 13 rfl qK en9 rfl rfl qD (CallOp.mkT rfl rfl rfl rfl) rfl (Bent_C w0 hz hs2.valid hf2 _) ?_
   rintro _ R4 _ _ hR4 ⟨f4, k4, n4, v4, rfl, hf4, hl4, hcp4, rfl, rfl⟩
   have hz := hz.mono hR4
   have hls := hls.mono hR4
   have hsz := hsz.mono hR4
   have hf1 := hf1.mono hR4
   have hf2 := hf2.mono hR4
   have hf3 := hf3.mono hR4
   have hal := hal.mono hR4
   have hzz := hzz.mono hR4
   refine ⟨hR4, qS, ?_⟩
   refine WA.eff 17 rfl qK rfl rfl qD (Ef.buildSliceD (enc := encC) (parts := [.tmp 67, .tmp 72, .tmp 75]) [(⟨f1, k1, v1⟩ : CvS), ⟨f4, k4, v4⟩, ⟨f3, k3, v3⟩] tab_ok rfl rfl rfl rfl rfl rfl rfl rfl qD qD (fun a76 => ?_))
   refine ⟨by first | exact RLe.refl _ | assumption, qS, ?_⟩
   refine WA.eff 18 rfl qK rfl rfl qD (Ef.buildSliceD (enc := encSl (α := CvS)) (parts := [.tmp 59, .tmp 60, .tmp 64, .tmp 76]) [(⟨some ⟨a55, 0, none⟩, 3, ([⟨f1, k1, v1⟩, ⟨f2, k2, v2⟩, ⟨f3, k3, v3⟩] : List CvS)⟩ : SlA CvS), ⟨la, lc, ls⟩, ⟨some ⟨a55, 0, none⟩, 3, ([⟨f1, k1, v1⟩, ⟨f2, k2, v2⟩, ⟨f3, k3, v3⟩] : List CvS).take m⟩, ⟨some ⟨a76, 0, none⟩, 3, ([⟨f1, k1, v1⟩, ⟨f4, k4, v4⟩, ⟨f3, k3, v3⟩] : List CvS)⟩] tab_ok rfl rfl rfl rfl rfl rfl rfl rfl qD qD (fun a77 => ?_))
   refine ⟨by first | exact RLe.refl _ | assumption, qS, ?_⟩
   refine WA.take 19 rfl qK qK qK rfl rfl qD (pureV_ok tab_ok rfl (fun _ => rfl)) qS qR ?_
   refine WA.done qK ?_
   refine WE.freeze (enc := encC) (xs := ([⟨f1, k1, v1⟩, ⟨f4, k4, v4⟩, ⟨f3, k3, v3⟩] : List CvS)) 1 rfl ?_
   intro R4b hR4b hab
   refine WE.freeze (enc := encSl (α := CvS)) (xs := ([⟨some ⟨a55, 0, none⟩, 3, ([⟨f1, k1, v1⟩, ⟨f2, k2, v2⟩, ⟨f3, k3, v3⟩] : List CvS)⟩, ⟨la, lc, ls⟩, ⟨some ⟨a55, 0, none⟩, 3, ([⟨f1, k1, v1⟩, ⟨f2, k2, v2⟩, ⟨f3, k3, v3⟩] : List CvS).take m⟩, ⟨some ⟨a76, 0, none⟩, 3, ([⟨f1, k1, v1⟩, ⟨f4, k4, v4⟩, ⟨f3, k3, v3⟩] : List CvS)⟩] : List (SlA CvS))) 0 rfl ?_
   intro Rp hRp htx0
   have hR4p := hR4b.trans hRp
   have hz := hz.mono hR4p
   have hls := hls.mono hR4p
   have hsz := hsz.mono hR4p
   have hf1 := hf1.mono hR4p
   have hf2 := hf2.mono hR4p
   have hf3 := hf3.mono hR4p
   have hal := hal.mono hR4p
   have hzz := hzz.mono hR4p
   have hf4 := hf4.mono hR4p
   have hab := hab.mono hRp
   have hR34 := hR4.trans hR4p
   have hoi : ∀ x ∈ ls, RS Rp 1 encI x.a x.cv.vals ∧ x.cv.vals.length ≤ x.cap := fun x hx => ⟨(hoi x hx).1.mono (hRz1.trans (hRz2.trans (hRz3.trans (hR1.trans (hR2.trans (hR3.trans hR34)))))), (hoi x hx).2⟩
   have hRAp := hRz1.trans (hRz2.trans (hRz3.trans (hR1.trans (hR2.trans (hR3.trans hR34)))))
   have y1 := valid_range hs1.valid
   have y2 := valid_range hs2.valid
   have y3 := valid_range hs3.valid
   have o1 : OkC Rp ⟨f1, k1, v1⟩ := ⟨hf1, by (try dsimp only); omega, hcp1⟩
   have o2 : OkC Rp ⟨f2, k2, v2⟩ := ⟨hf2, by (try dsimp only); omega, hcp2⟩
   have o3 : OkC Rp ⟨f3, k3, v3⟩ := ⟨hf3, by (try dsimp only); omega, hcp3⟩
   have o4 : OkC Rp ⟨f4, k4, v4⟩ := ⟨hf4, by (try dsimp only); omega, hcp4⟩
   have oal : ∀ x ∈ ([⟨f1, k1, v1⟩, ⟨f2, k2, v2⟩, ⟨f3, k3, v3⟩] : List CvS), OkC Rp x := by
    simp only [List.mem_cons, List.not_mem_nil, or_false, forall_eq_or_imp, forall_eq]
    exact ⟨o1, o2, o3⟩
   have htx : ∀ s ∈ ([⟨some ⟨a55, 0, none⟩, 3, ([⟨f1, k1, v1⟩, ⟨f2, k2, v2⟩, ⟨f3, k3, v3⟩] : List CvS)⟩, ⟨la, lc, ls⟩, ⟨some ⟨a55, 0, none⟩, 3, ([⟨f1, k1, v1⟩, ⟨f2, k2, v2⟩, ⟨f3, k3, v3⟩] : List CvS).take m⟩, ⟨some ⟨a76, 0, none⟩, 3, ([⟨f1, k1, v1⟩, ⟨f4, k4, v4⟩, ⟨f3, k3, v3⟩] : List CvS)⟩] : List (SlA CvS)), OkL Rp s := by
    simp only [List.mem_cons, List.not_mem_nil, or_false, forall_eq_or_imp, forall_eq]
    refine ⟨⟨hal, Nat.le_refl _, oal⟩, ⟨hls, hlc, fun x hx => ⟨(hoi x hx).1, by have := hsm x hx; omega, (hoi x hx).2⟩⟩, ⟨hal.take m, by rw [List.length_take]; exact Nat.le_trans (Nat.min_le_right _ _) (Nat.le_refl _), fun x hx => oal x (List.mem_of_mem_take hx)⟩, ⟨hab, Nat.le_refl _, ?_⟩⟩
    simp only [List.mem_cons, List.not_mem_nil, or_false, forall_eq_or_imp, forall_eq]
    exact ⟨o1, o4, o3⟩
   have hLt : ([⟨some ⟨a55, 0, none⟩, 3, ([⟨f1, k1, v1⟩, ⟨f2, k2, v2⟩, ⟨f3, k3, v3⟩] : List CvS)⟩, ⟨la, lc, ls⟩, ⟨some ⟨a55, 0, none⟩, 3, ([⟨f1, k1, v1⟩, ⟨f2, k2, v2⟩, ⟨f3, k3, v3⟩] : List CvS).take m⟩, ⟨some ⟨a76, 0, none⟩, 3, ([⟨f1, k1, v1⟩, ⟨f4, k4, v4⟩, ⟨f3, k3, v3⟩] : List CvS)⟩] : List (SlA CvS)).length = 4 := rfl
   generalize hTX : ([⟨some ⟨a55, 0, none⟩, 3, ([⟨f1, k1, v1⟩, ⟨f2, k2, v2⟩, ⟨f3, k3, v3⟩] : List CvS)⟩, ⟨la, lc, ls⟩, ⟨some ⟨a55, 0, none⟩, 3, ([⟨f1, k1, v1⟩, ⟨f2, k2, v2⟩, ⟨f3, k3, v3⟩] : List CvS).take m⟩, ⟨some ⟨a76, 0, none⟩, 3, ([⟨f1, k1, v1⟩, ⟨f4, k4, v4⟩, ⟨f3, k3, v3⟩] : List CvS)⟩] : List (SlA CvS)) = tx at htx0 htx hLt ⊢
   refine WE.nxt (W.block ?_)
   refine W.loopR (β := Nat × Nat × Ro) (fun (j, cn, Rk) => j ≤ tx.length ∧ RLe Rp Rk) (fun (j, cn, Rk) => [(79, true, .int .i64 (j : Int))]) [1, 2, 3, 12, 14, 77, 78] [_, _, _, _, _, _, _] [] _ rfl (fun (j, cn, Rk) => [(0, srcE b a c (xs.take 2000) cn)]) (fun (j, cn, Rk) => Rk) (fun (j, cn, Rk) => tx.length - j) ((0, n4, Rp)) (⟨Nat.zero_le _, RLe.refl _⟩) ⟨rfl, rfl, rfl, rfl, rfl, rfl, rfl, rfl, rfl⟩ (RLe.refl _) qS ?_
   intro zz1 hst
   obtain ⟨j, cn, Rk⟩ := zz1
   dsimp only [zipE, setAll, List.cons_append, List.nil_append, List.set_cons_zero, List.set_cons_succ] at hst ⊢
   obtain ⟨hj, hRk⟩ := hst
   have htx0 := htx0.mono hRk
   have htx : ∀ s ∈ tx, OkL Rk s := fun s hs => (htx s hs).mono hRk
   have hz := hz.mono hRk
   have hzz := hzz.mono hRk
   have hsz := hsz.mono hRk
   refine W.seq (W.region _ (WG.run tab_ok 1 rfl (WG.nil (WE.nxt (W.seq ?_)))))
   refine W.condD rfl (fun hc3 => ?_) (fun hc3 => ?_)
   ·try dsimp only at hc3
    have hjl : j < tx.length := by omega
    have hX := htx _ (nth_mem (xs := tx) (k := j) hjl)
    generalize hxx : nth tx j = X at hX
    refine W.skip (WE.nxt (W.seq (W.block (W.seq (W.region _ ?_)))))
    refine WG.y rfl rfl qD (Yl.indexN tab_ok rfl rfl rfl rfl rfl rfl (fun _ => rfl) qN qH) ?_
    refine' WG.y rfl rfl qD (Yl.load1 tab_ok rfl rfl rfl (fun _ => rfl) ?r5 rfl ?h5) ?_
    case r5 => exact RS.rdD htx0 qO
    case h5 => rfl
    rw [hxx]
    refine WG.run tab_ok 1 rfl (WG.nil (WE.nxt (W.seq (W.region _ (WG.run tab_ok 4 rfl ?_)))))
    refine WL.callAt 0 en22 rfl rfl qD (CallOp.mkT rfl rfl rfl rfl) rfl (TwistedK_C w0 hz hzz rfl qO (fun s hs => by have := hzzb s hs; omega) _) ?_
    rintro _ Ra _ _ hRa ⟨a87, c87, cnb, qs2, rfl, hqs2, hcq, rfl, rfl⟩
    have hz := hz.mono hRa
    have hzz := hzz.mono hRa
    have hsz := hsz.mono hRa
    refine WL.ef rfl rfl qD (Ef.buildSliceD (enc := encSl (α := Sz)) (parts := [.tmp 83, .tmp 84, .tmp 87]) [(⟨az, cz, zz⟩ : SlA Sz), ⟨sa, sc, sizes⟩, ⟨a87, c87, qs2⟩] tab_ok rfl rfl rfl rfl rfl rfl rfl rfl qD qD (fun a88 => ?_))
    refine WL.freeze (enc := encSl (α := Sz)) 0 rfl ?_
    intro Rc hRc htz0
    obtain ⟨tz, htz0, htzl, htz⟩ : ∃ tz : List (SlA Sz), RS Rc 1 encSl (some ⟨a88, 0, none⟩) tz ∧ tz.length = 3 ∧ ∀ s ∈ tz, RS Rc 2 encZ s.a s.xs ∧ s.xs.length ≤ s.cap := ⟨_, htz0, rfl, by
     simp only [List.mem_cons, List.not_mem_nil, or_false, forall_eq_or_imp, forall_eq]
     exact ⟨⟨hzz.mono hRc, hcz⟩, ⟨hsz.mono hRc, hsc⟩, ⟨hqs2.mono hRc, hcq⟩⟩⟩
    have hz := hz.mono hRc
    have hX := hX.mono (hRa.trans hRc)
    refine WG.run tab_ok 2 rfl (WG.nil (WE.nxt (W.block ?_)))
    refine W.loopR (β := Nat × Nat × Ro) (fun (i, cnb, Rk1) => i ≤ tz.length ∧ RLe Rc Rk1) (fun (i, cnb, Rk1) => [(90, true, .int .i64 (i : Int))]) [1, 2, 3, 12, 14, 16, 77, 78, 79, 88, 89] [_, _, _, _, _, _, _, _, _, _, _] [] _ rfl (fun (i, cnb, Rk1) => [(0, srcE b a c (xs.take 2000) cnb)]) (fun (i, cnb, Rk1) => Rk1) (fun (i, cnb, Rk1) => tz.length - i) ((0, cnb, Rc)) (⟨Nat.zero_le _, RLe.refl _⟩) ⟨rfl, rfl, rfl, rfl, rfl, rfl, rfl, rfl, rfl, rfl, rfl, rfl, rfl⟩ (RLe.refl _) qS ?_
    intro zz2 hst
    obtain ⟨i, cnb, Rk1⟩ := zz2
    dsimp only [zipE, setAll, List.cons_append, List.nil_append, List.set_cons_zero, List.set_cons_succ] at hst ⊢
    obtain ⟨hi, hRk1⟩ := hst
    have htz0 := htz0.mono hRk1
    have htz : ∀ s ∈ tz, RS Rk1 2 encZ s.a s.xs ∧ s.xs.length ≤ s.cap := fun s hs => ⟨(htz s hs).1.mono hRk1, (htz s hs).2⟩
    have hz := hz.mono hRk1
    have hX := hX.mono hRk1
    refine W.seq (W.region _ (WG.run tab_ok 1 rfl (WG.nil (WE.nxt (W.seq ?_)))))
    refine W.condD rfl (fun hc4 => ?_) (fun hc4 => ?_)
    ·try dsimp only at hc4
     have hil : i < tz.length := by omega
     have hY := htz _ (nth_mem (xs := tz) (k := i) hil)
     generalize hyy : nth tz i = Y at hY
     refine W.skip (WE.nxt (W.seq (W.block (W.seq (W.region _ ?_)))))
     refine WG.y rfl rfl qD (Yl.indexN tab_ok rfl rfl rfl rfl rfl rfl (fun _ => rfl) qN qH) ?_
     refine' WG.y rfl rfl qD (Yl.load1 tab_ok rfl rfl rfl (fun _ => rfl) ?r6 rfl ?h6) ?_
     case r6 => exact RS.rdD htz0 qO
     case h6 => rfl
     rw [hyy]
     refine WG.run tab_ok 1 rfl (WG.nil (WE.nxt (W.seq (W.region _ (WG.run tab_ok 1 rfl ?_)))))
     refine WL.callAt 0 en12 rfl rfl qD (CallOp.mkT rfl rfl rfl rfl) rfl (N_C w0 hz (by constructor <;> decide) _) ?_
     rintro _ _ _ _ - ⟨rfl, rfl, rfl, rfl⟩
     have hm30 := mod_range (nth (xs.take 2000) cnb) (show (1 : Int) ≤ 30 by decide)
     refine WG.y rfl rfl qD (Yl.add rfl rfl rfl (fun _ => rfl) qA) ?_
     refine WG.run tab_ok 1 rfl ?_
     refine WL.callAt 0 en12 rfl rfl qD (CallOp.mkT rfl rfl rfl rfl) rfl (N_C w0 hz (by constructor <;> decide) _) ?_
     rintro _ _ _ _ - ⟨rfl, rfl, rfl, rfl⟩
     -- build
     refine WG.y rfl rfl qD (Yl.buildArr (parts := [(0, .tmp 96), (1, .tmp 98)]) tab_ok rfl rfl rfl rfl rfl (fun _ => rfl) rfl) ?_
     refine WG.run tab_ok 2 rfl ?_
     -- build
     refine WG.y rfl rfl qD (Yl.buildArr (parts := [(0, .tmp 100), (1, .tmp 101)]) tab_ok rfl rfl rfl rfl rfl (fun _ => rfl) rfl) ?_
     refine WG.run tab_ok 1 rfl ?_
     refine WL.ef rfl rfl qD (Ef.buildSliceD (enc := encI) (parts := [.const (.int .i64 0), .const (.int .i64 1), .const (.int .i64 4000), .const (.int .i64 4001)]) [_, _, _, _] tab_ok rfl rfl rfl rfl rfl rfl rfl rfl qD qD (fun a104 => ?_))
     refine WL.callAt 1 en13 rfl rfl qD (CallOp.mkT rfl rfl rfl rfl) rfl (PickM_C (j := 0) w0 ([0, 1, 4000, 4001] : List Int) rfl qD qD hz rfl) ?_
     rintro _ _ _ _ - ⟨rfl, rfl, rfl, rfl⟩
     refine WG.run tab_ok 1 rfl ?_
     refine WL.ef rfl rfl qD (Ef.buildSliceD (enc := encI) (parts := [.const (.int .i64 (-1)), .const (.int .i64 0), .const (.int .i64 2), .const (.int .i64 3)]) [_, _, _, _] tab_ok rfl rfl rfl rfl rfl rfl rfl rfl qD qD (fun a107 => ?_))
     refine WL.callAt 2 en13 rfl rfl qD (CallOp.mkT rfl rfl rfl rfl) rfl (PickM_C (j := 0) w0 ([-1, 0, 2, 3] : List Int) rfl qD qD hz rfl) ?_
     rintro _ _ _ _ - ⟨rfl, rfl, rfl, rfl⟩
     -- build
     refine WG.y rfl rfl qD (Yl.buildArr (parts := [(0, .tmp 105), (1, .tmp 108)]) tab_ok rfl rfl rfl rfl rfl (fun _ => rfl) rfl) ?_
     refine WL.ef rfl rfl qD (Ef.buildSliceD (enc := enc2) (parts := [.tmp 99, .tmp 102, .tmp 109]) [⟨_, _⟩, ⟨_, _⟩, ⟨_, _⟩] tab_ok rfl rfl rfl rfl rfl rfl rfl rfl qD qD (fun a110 => ?_))
     refine WL.freeze (enc := enc2) 0 rfl ?_
     intro R7 hR7 htk
     obtain ⟨tk, htk, htkl⟩ : ∃ tk : List (Int × Int), RS R7 2 enc2 (some ⟨a110, 0, none⟩) tk ∧ tk.length = 3 := ⟨_, htk, rfl⟩
     have hX := hX.mono hR7
     have hz := hz.mono hR7
     have hY : RS R7 2 encZ Y.a Y.xs ∧ Y.xs.length ≤ Y.cap := ⟨hY.1.mono hR7, hY.2⟩
     refine WG.run tab_ok 2 rfl (WG.nil (WE.nxt (W.block ?_)))
     refine W.loopR (β := Nat × Ro) (fun (k, Rk2) => k ≤ tk.length ∧ RLe R7 Rk2) (fun (k, Rk2) => [(112, true, .int .i64 (k : Int))]) [1, 2, 3, 12, 14, 16, 18, 77, 78, 79, 88, 89, 90, 110, 111] [_, _, _, _, _, _, _, _, _, _, _, _, _, _, _] [] _ rfl (fun (k, Rk2) => []) (fun (k, Rk2) => Rk2) (fun (k, Rk2) => tk.length - k) ((0, R7)) (⟨Nat.zero_le _, RLe.refl _⟩) ⟨rfl, rfl, rfl, rfl, rfl, rfl, rfl, rfl, rfl, rfl, rfl, rfl, rfl, rfl, rfl, rfl, rfl⟩ (RLe.refl _) qS ?_
     intro zz3 hst
     obtain ⟨k, Rk2⟩ := zz3
     dsimp only [zipE, setAll, List.cons_append, List.nil_append, List.set_cons_zero, List.set_cons_succ] at hst ⊢
     obtain ⟨hk, hRk2⟩ := hst
     have htk := htk.mono hRk2
     have hX := hX.mono hRk2
     have hz := hz.mono hRk2
     have hY : RS Rk2 2 encZ Y.a Y.xs ∧ Y.xs.length ≤ Y.cap := ⟨hY.1.mono hRk2, hY.2⟩
     refine W.seq (W.region _ (WG.run tab_ok 1 rfl (WG.nil (WE.nxt (W.seq ?_)))))
     refine W.condD rfl (fun hc5 => ?_) (fun hc5 => ?_)
     ·try dsimp only at hc5
      have hkl : k < tk.length := by omega
      refine W.skip (WE.nxt (W.seq (W.block (W.seq (W.region _ ?_)))))
      refine WG.y rfl rfl qD (Yl.indexN tab_ok rfl rfl rfl rfl rfl rfl (fun _ => rfl) qN qH) ?_
      refine' WG.y rfl rfl qD (Yl.load1 tab_ok rfl rfl rfl (fun _ => rfl) ?r7 rfl ?h7) ?_
      case r7 => exact RS.rdD htk qO
      case h7 => rfl
      refine WL.ef rfl rfl qD (Ef.alloc tab_ok rfl rfl (fun b20 => ?_))
      refine WL.efN rfl rfl (Ef.store0 0 tab_ok rfl rfl rfl rfl rfl rfl rfl rfl ?_)
      refine WG.nil (WE.nxt (W.seq (W.region _ ?_)))
      refine WG.y rfl rfl qD (Yl.indexArr tab_ok rfl rfl rfl rfl rfl rfl (fun _ => rfl) qA) ?_
      refine' WG.y rfl rfl qD (Yl.load1 tab_ok rfl rfl rfl (fun _ => rfl) ?r8 rfl ?h8) ?_
      case r8 => apply Rd.add; (exact Rd.blk 0 rfl)
      case h8 => rfl
      refine WG.y rfl rfl qD (Yl.indexArr tab_ok rfl rfl rfl rfl rfl rfl (fun _ => rfl) qA) ?_
      refine' WG.y rfl rfl qD (Yl.load1 tab_ok rfl rfl rfl (fun _ => rfl) ?r9 rfl ?h9) ?_
      case r9 => apply Rd.add; (exact Rd.blk 0 rfl)
      case h9 => rfl
      refine WG.run tab_ok 2 rfl ?_
      refine WL.call en23 rfl rfl qD (CallOp.mkT rfl rfl rfl rfl) (PCurve_C (ls := X.xs) (z := Y.xs) (cap := (nth tk k).1) (cls := (nth tk k).2) hX.1 hX.2.1 (fun x hx => ⟨(hX.2.2 x hx).1, by have := (hX.2.2 x hx).2.1; omega⟩) hY.1 hY.2 w0 _) ?_
      rintro _ R5 _ hR5 ⟨g1, kg1, rfl, hg1, hsub1⟩
      refine WL.subE hsub1 ?_
      unfold cvV
      have hX := hX.mono hR5
      have hY : RS R5 2 encZ Y.a Y.xs ∧ Y.xs.length ≤ Y.cap := ⟨hY.1.mono hR5, hY.2⟩
      refine WG.run tab_ok 3 rfl ?_
      refine WL.ef rfl rfl qD (Ef.alloc tab_ok rfl rfl (fun b21 => ?_))
      refine WL.efN rfl rfl (Ef.store0 0 tab_ok rfl rfl rfl rfl rfl rfl rfl rfl ?_)
      refine WG.run tab_ok 1 rfl (WG.nil (WE.nxt (W.seq (W.region _ ?_))))
      refine WG.y rfl rfl qD (Yl.indexArr tab_ok rfl rfl rfl rfl rfl rfl (fun _ => rfl) qA) ?_
      refine' WG.y rfl rfl qD (Yl.load1 tab_ok rfl rfl rfl (fun _ => rfl) ?r10 rfl ?h10) ?_
      case r10 => apply Rd.add; (exact Rd.blk 1 rfl)
      case h10 => rfl
      refine WG.y rfl rfl qD (Yl.indexArr tab_ok rfl rfl rfl rfl rfl rfl (fun _ => rfl) qA) ?_
      refine' WG.y rfl rfl qD (Yl.load1 tab_ok rfl rfl rfl (fun _ => rfl) ?r11 rfl ?h11) ?_
      case r11 => apply Rd.add; (exact Rd.blk 1 rfl)
      case h11 => rfl
      refine WG.run tab_ok 2 rfl ?_
      refine WL.call en24 rfl rfl qD (CallOp.mkT rfl rfl rfl rfl) (RCurve18_C hX.1 hX.2.1 (fun x hx => ⟨(hX.2.2 x hx).1, by have := (hX.2.2 x hx).2.1; omega, (hX.2.2 x hx).2.2⟩) hY.1 (nth tk k).1 (nth tk k).2 w0 _) ?_
      rintro _ R6 _ hR6 ⟨g2, kg2, rfl, hg2, hkg2, hsub2⟩
      refine WL.subE hsub2 ?_
      unfold cvV
      have hg1 := hg1.mono hR6
      have hX := hX.mono hR6
      have hY : RS R6 2 encZ Y.a Y.xs ∧ Y.xs.length ≤ Y.cap := ⟨hY.1.mono hR6, hY.2⟩
      generalize (prioC (nth tk k).1 (nth tk k).2 (X.xs.map CvS.cv) Y.xs) = q at hg1 hg2 hkg2 ⊢
      refine WG.run tab_ok 3 rfl ?_
      refine WL.ef rfl rfl qD (Ef.alloc tab_ok rfl rfl (fun b23 => ?_))
      refine WL.efN rfl rfl (Ef.store0 0 tab_ok rfl rfl rfl rfl rfl rfl rfl rfl ?_)
      refine WG.run tab_ok 1 rfl (WG.nil (WE.nxt (W.seq ?_)))
      refine W.regionQ _ mixed qK ?_
      refine WG.run tab_ok 4 rfl ?_
      refine' WG.y rfl rfl qD (Yl.loadG tab_ok rfl rfl rfl qE ?r12 rfl ?h12 ?g12) ?_
      case r12 => (exact Rd.blkC 1 rfl)
      case h12 => rfl
      case g12 => exact fun _ => trivial
      refine' WG.y rfl rfl qD (Yl.loadG tab_ok rfl rfl rfl qE ?r13 rfl ?h13 ?g13) ?_
      case r13 => (exact Rd.blkC 0 rfl)
      case h13 => rfl
      case g13 => exact fun _ => trivial
      refine WG.callV (v := .bool true) en16 rfl rfl (by decide) (CallOp.mk' rfl rfl rfl rfl) qE (fun hg => by have h := Same02_V (ca := kg1) (cb := kg2) (p1 := q.1.per) (i1 := q.1.inc) (p2 := q.1.per) (i2 := q.1.inc) hg1 hg2; rw [decide_eq_true ⟨rfl, rfl, rfl⟩] at h; exact h) ?_
      refine WG.y rfl rfl qD (pureV_ok tab_ok rfl qE) ?_
      refine WG.y rfl rfl (by decide) (Yl.por rfl rfl rfl (fun _ => rfl) (by intro h1 h2; simp_all <;> omega)) ?_
      refine WG.run tab_ok 1 rfl ?_
      refine WG.y rfl rfl (by decide) (Yl.indexArr tab_ok rfl rfl rfl rfl rfl rfl qE (by intro hg; (try simp only [kk] at hg); constructor <;> (try dsimp only) <;> omega)) ?_
      refine' WG.y rfl rfl qD (Yl.loadG tab_ok rfl rfl rfl qE ?r14 rfl ?h14 ?g14) ?_
      case r14 => apply Rd.addC; (exact Rd.blkC 2 rfl)
      case h14 => rfl
      case g14 => exact fun _ => trivial
      refine WG.y rfl rfl (by decide) (Yl.indexArr tab_ok rfl rfl rfl rfl rfl rfl qE (by intro hg; (try simp only [kk] at hg); constructor <;> (try dsimp only) <;> omega)) ?_
      refine' WG.y rfl rfl qD (Yl.loadG tab_ok rfl rfl rfl qE ?r15 rfl ?h15 ?g15) ?_
      case r15 => apply Rd.addC; (exact Rd.blkC 2 rfl)
      case h15 => rfl
      case g15 => exact fun _ => trivial
      refine WG.y rfl rfl qD (pureV_ok tab_ok rfl qE) ?_
      refine WG.callV (v := .int .i64 (chk18 (nth tk k).1 (nth tk k).2 Y.xs)) en25 rfl rfl qD (CallOp.mk' rfl rfl rfl rfl) qE (fun hg => CheckP_V hY.1) ?_
      refine WG.y rfl rfl (by decide) (Yl.indexArr tab_ok rfl rfl rfl rfl rfl rfl qE (by intro hg; (try simp only [kk] at hg); constructor <;> (try dsimp only) <;> omega)) ?_
      refine' WG.y rfl rfl qD (Yl.loadG tab_ok rfl rfl rfl qE ?r16 rfl ?h16 ?g16) ?_
      case r16 => apply Rd.addC; (exact Rd.blkC 2 rfl)
      case h16 => rfl
      case g16 => exact fun _ => trivial
      refine WG.y rfl rfl (by decide) (Yl.indexArr tab_ok rfl rfl rfl rfl rfl rfl qE (by intro hg; (try simp only [kk] at hg); constructor <;> (try dsimp only) <;> omega)) ?_
      refine' WG.y rfl rfl qD (Yl.loadG tab_ok rfl rfl rfl qE ?r17 rfl ?h17 ?g17) ?_
      case r17 => apply Rd.addC; (exact Rd.blkC 2 rfl)
      case h17 => rfl
      case g17 => exact fun _ => trivial
      refine WG.y rfl rfl qD (pureV_ok tab_ok rfl qE) ?_
      refine WG.callV (v := .int .i64 (chk18 (nth tk k).1 (nth tk k).2 Y.xs)) en26 rfl rfl qD (CallOp.mk' rfl rfl rfl rfl) qE (fun hg => Check18_V hY.1) ?_
      refine WG.y rfl rfl qD (pureV_ok tab_ok rfl qE) ?_
      refine WG.y rfl rfl (by decide) (Yl.por rfl rfl rfl (fun _ => rfl) (by intro h1 h2; simp_all <;> omega)) ?_
      refine WG.nil (WE.nxt ?_)
      refine W.cond rfl (fun hc6 => ?_) (fun hc6 => ?_)
      ·try simp only [kk] at hc6
       (simp at hc6; done)
      ·try simp only [kk] at hc6
       refine W.skip (WE.blk _ (WE.nxt (W.region _ ?_)))
       refine WG.y rfl rfl qD (Yl.add rfl rfl rfl (fun _ => rfl) qA) ?_
       refine WG.run tab_ok 1 rfl (WG.nil ?_)
       refine WE.again ((k + 1, R6)) (⟨by (try dsimp only); omega, hRk2.trans (hR5.trans hR6)⟩) (by (try dsimp only); omega) ⟨rfl, rfl, rfl, rfl, rfl, rfl, rfl, rfl, rfl, rfl, rfl, rfl, rfl, rfl, rfl, rfl, rfl⟩ (RLe.refl _) qS
     ·try dsimp only at hc5
      refine W.exit ?_
      refine WE.then_exit (WE.then_exit (WE.blk_exit (WE.blk _ (WE.nxt (W.region _ ?_)))))
      refine WG.y rfl rfl qD (Yl.add rfl rfl rfl (fun _ => rfl) qA) ?_
      refine WG.run tab_ok 1 rfl (WG.nil ?_)
      refine WE.again ((i + 1, cnb + 1 + 1 + 1 + 1, Rk2)) (⟨by (try dsimp only); omega, hRk1.trans (hR7.trans hRk2)⟩) (by (try dsimp only); omega) ⟨rfl, rfl, rfl, rfl, rfl, rfl, rfl, rfl, rfl, rfl, rfl, rfl, rfl⟩ (RLe.refl _) qS
    ·try dsimp only at hc4
     refine W.exit ?_
     refine WE.then_exit (WE.then_exit (WE.blk_exit (WE.blk _ (WE.nxt (W.region _ ?_)))))
     refine WG.y rfl rfl qD (Yl.add rfl rfl rfl (fun _ => rfl) qA) ?_
     refine WG.run tab_ok 1 rfl (WG.nil ?_)
     refine WE.again ((j + 1, cnb, Rk1)) (⟨by (try dsimp only); omega, hRk.trans (hRa.trans (hRc.trans hRk1))⟩) (by (try dsimp only); omega) ⟨rfl, rfl, rfl, rfl, rfl, rfl, rfl, rfl, rfl⟩ (RLe.refl _) qS
   ·try dsimp only at hc3
    refine W.exit ?_
    refine WE.then_exit (WE.then_exit (WE.blk_exit (WE.nxt (W.seq (W.region _ ?_)))))
    refine WL.call en19 rfl rfl qD (CallOp.mkT rfl rfl rfl rfl) (Awake18_C w0 _) ?_
    rintro _ R9 E9 hR9 ⟨rfl, hsub9⟩
    refine WL.subE hsub9 ?_
    refine WG.run tab_ok 1 rfl (WG.nil (WE.nxt (W.ret ?_)))
    refine WE.retF tab_ok [_] rfl ⟨rfl, trivial⟩ ((by first | exact RLe.refl _ | assumption | exact hRAp.trans (hRk.trans hR9))) ?_
    exact rfl

end Go.Proofs.Ytnackbfnmhkodaa

/- PriorityCurves: for every input the law returns true, and the input reads afterwards as it read before. No condition. -/
namespace Go.Proofs.Ytnackbfnmhkodaa
open Go Go.RowKit Go.ChangeShapes Go.WideShapes Go.ChangeAt Go.WideElems Go.Maps Go.Proofs.Ytnackbfnmhkodaa.K Go.Proofs.Ytnackbfnmhkodaa.M
namespace priorityCurves
theorem own : ownKnob Try.prog.godebug = none := by kernel_rfl
theorem laidOut : laidOutB Try.prog = true := by kernel_rfl
theorem readable : (Try.f4.params.toList).all (fun t => Try.prog.readableRec t && decide (t < Try.prog.types.size)) = true := by kernel_rfl
theorem cellsI : Try.prog.cellsOf 3 = 1 := by kernel_rfl
section
variable {H : Type} {enc : TypeId × Value → H}
theorem flat_sizes : Flat enc Try.prog 88 2 := flat_struct Try.underlying88 (by kernel_rfl) (by
  intro j f hf
  match j, hf with
  | 0, hf => obtain rfl : _ = f := Option.some.inj hf; exact ⟨rfl, by kernel_rfl, Try.underlying3⟩
  | 1, hf => obtain rfl : _ = f := Option.some.inj hf; exact ⟨rfl, by kernel_rfl, Try.underlying3⟩
  | j + 2, hf => simp at hf)
theorem cells_sizes : Try.prog.cellsOf 88 = 2 := by kernel_rfl
theorem flat_ints : Flat enc Try.prog 3 1 := flat_int Try.underlying3
theorem cells_ints : Try.prog.cellsOf 3 = 1 := by kernel_rfl
theorem opn_cv : Opn enc Try.prog 24 3 encC OkI := opn_curve Try.underlying24 (by kernel_rfl) rfl rfl rfl (by kernel_rfl) (by kernel_rfl) rfl rfl rfl Try.underlying22 Try.underlying3
theorem opn_cvs : Opn enc Try.prog 45 1 (encSl (α := CvS)) (fun R s => RS R 3 encC s.a s.xs ∧ s.xs.length ≤ s.cap ∧ ∀ x ∈ s.xs, OkI R x) := opn_slice Try.underlying45 (by decide) (by kernel_rfl) opn_cv
end
set_option maxRecDepth 100000 in
theorem lifted (os : Os) (started : os.Started) (H : Type) (enc : TypeId × Value → H) :
    ReturnsInHanded {} Try.checked os 4 .any (Rows.priorityCurvesSpec.pre6 enc Try.prog Try.f4 Rows.priorityCurvesRow.domain false) (Rows.priorityCurvesSpec.post enc Try.prog Try.f4 false true false false) := by
  refine returnsInHanded_of_change (C := Try.checked) own started (by kernel_rfl) Try.func4
    (ChangeSpec.witness6 (enc := enc) (C := Try.checked) false ⟨#[], #[.slice none 0 0, .slice none 0 0, .int .i64 0, .int .i64 0, .slice none 0 0], []⟩ 8 (by kernel_rfl) (by kernel_rfl) (by kernel_rfl) (by kernel_rfl)) ?_
  intro W base args ds gs before hval0 hW _ _
  have hval : ∀ (j : Nat) t v, Try.f4.params[j]? = some t → args[j]? = some v → Value.okWide Try.prog W .any base t v := hval0
  have hW' := hW
  obtain ⟨p, q, hA0, hV, rfl, _, _⟩ := hW
  have hA : DataW.TrodAll enc Try.prog W 0 (fun _ => true) true Try.f4.params.toList args.toList ds p := hA0
  have hA1 := hA
  obtain ⟨rfl, rfl⟩ := trodVars_none hV
  simp only [List.append_nil] at hW'
  have hlt : ∀ x ∈ p, x.block < W.heap.size := fun x hx => by simpa using hW'.lt x hx
  have hcarry : ∀ W', Below W.heap.size W W' → DataW.TrodAll enc Try.prog W' 0 (fun b => decide (b < W.heap.size)) true Try.f4.params.toList args.toList ds p := fun W' hb => carryAll laidOut readable hA1 hb hlt
  clear hA0 hval0 hA1
  rw [Try.params4] at hA
  obtain ⟨v0, vs0, d0, ds0, p0, q0, e0, rfl, e20, h0, t0⟩ := trodAll_cons hA
  obtain ⟨v1, vs1, d1, ds1, p1, q1, rfl, rfl, e21, h1, t1⟩ := trodAll_cons t0
  obtain ⟨v2, vs2, d2, ds2, p2, q2, rfl, rfl, e22, h2, t2⟩ := trodAll_cons t1
  obtain ⟨v3, vs3, d3, ds3, p3, q3, rfl, rfl, e23, h3, t3⟩ := trodAll_cons t2
  obtain ⟨v4, vs4, d4, ds4, p4, q4, rfl, rfl, e24, h4, t4⟩ := trodAll_cons t3
  obtain ⟨rfl, rfl, _⟩ := trodAll_nil t4
  have hargs : args = #[v0, v1, v2, v3, v4] := by rw [← Array.toArray_toList (xs := args), e0]
  subst hargs
  obtain ⟨s0, rfl, k0⟩ := opn_cvs.topS Try.underlying45 (hval 0 45 _ rfl rfl) h0
  obtain ⟨a1, cp1, zs1, rfl, c1, l1, m1, r1⟩ := open_flat Try.underlying46 (by decide) cells_sizes flat_sizes (hval 1 46 _ rfl rfl) h1
  have g1 : RS (roOf W) 2 encZ a1 (zs1.map decZ) := RS.ofFlat m1 l1 decZ_enc
  have n1 : (zs1.map decZ).length = zs1.length := by simp
  rw [← n1] at c1
  obtain ⟨z2, rfl, _, _, w2⟩ := open_int Try.underlying3 (hval 2 3 _ rfl rfl) h2
  have r2 : InR z2 := bounds_i64 w2
  obtain ⟨z3, rfl, _, _, w3⟩ := open_int Try.underlying3 (hval 3 3 _ rfl rfl) h3
  have r3 : InR z3 := bounds_i64 w3
  obtain ⟨a4, cp4, zs4, rfl, c4, l4, m4, r4⟩ := open_flat Try.underlying22 (by decide) cells_ints flat_ints (hval 4 22 _ rfl rfl) h4
  have g4 : RS (roOf W) 1 encI a4 (zs4.map decI) := RS.ofFlat m4 l4 decI_enc
  have n4 : (zs4.map decI).length = zs4.length := by simp
  rw [← n4] at c4
  have hcall := lift_calls (P := Try.prog) (f := 4) (args := [.slice s0.a s0.xs.length s0.cap, .slice a1 (zs1.map decZ).length cp1, .int .i64 z2, .int .i64 z3, .slice a4 (zs4.map decI).length cp4]) (W := W) (PriorityCurves_F k0.1 k0.2.1 (fun x hx => ⟨(k0.2.2 x hx).1, (k0.2.2 x hx).2.1⟩) g1 c1 g4 c4 W)
  simp only [List.length_map] at hcall
  refine hcall.mono fun e W' ⟨he, hb⟩ => ?_
  subst he
  exact ⟨_, rfl, ⟨_, _, _, [], _, [], hW', trodAll_mk1 (shut_bool Try.underlying4 _), hcarry W' hb, rfl, hb.frame _, fun h => by cases h⟩⟩
end priorityCurves
theorem priorityCurves_holds : Rows.PriorityCurvesSaid :=
  OpenClaim.holds_of_wide 4 Try.f4 rfl rfl rfl rfl rfl rfl rfl ⟨rfl, rfl, rfl, rfl, rfl⟩ rfl rfl rfl rfl rfl (by kernel_rfl) Try.func4 (by kernel_rfl)
    (of_decide_eq_true (by kernel_rfl)) (by unfold Func.isWrapper; first | (rw [if_pos (by decide +kernel)]; kernel_rfl) | (rw [if_neg (by decide +kernel)]; exact ⟨rfl, rfl⟩))
    (fun os started H enc _ => priorityCurves.lifted os started H enc)
end Go.Proofs.Ytnackbfnmhkodaa
