/- RobinCurves: for every input the law returns true, and the input reads afterwards as it read before. No condition. -/
import Derived.Test.YtcfnckccmkjjlaaLiftB
import Derived.Test.YtcfnckccmkjjlaaLiftZ
import Derived.Test.YtcfnckccmkjjlaaT34
namespace Go.Proofs.Ytcfnckccmkjjlaa
open Go Go.RowKit Go.ChangeShapes Go.WideShapes Go.ChangeAt Go.WideElems Go.Maps Go.Proofs.Ytcfnckccmkjjlaa.K Go.Proofs.Ytcfnckccmkjjlaa.M
namespace robinCurves
theorem own : ownKnob Try.prog.godebug = none := by kernel_rfl
theorem laidOut : laidOutB Try.prog = true := by kernel_rfl
theorem readable : (Try.f4.params.toList).all (fun t => Try.prog.readableRec t && decide (t < Try.prog.types.size)) = true := by kernel_rfl
theorem cellsI : Try.prog.cellsOf 3 = 1 := by kernel_rfl
section
variable {H : Type} {enc : TypeId × Value → H}
theorem flat_ints : Flat enc Try.prog 3 1 := flat_int Try.underlying3
theorem cells_ints : Try.prog.cellsOf 3 = 1 := by kernel_rfl
theorem flat_sizes : Flat enc Try.prog 48 2 := flat_struct Try.underlying48 (by kernel_rfl) (by
  intro j f hf
  match j, hf with
  | 0, hf => obtain rfl : _ = f := Option.some.inj hf; exact ⟨rfl, by kernel_rfl, Try.underlying3⟩
  | 1, hf => obtain rfl : _ = f := Option.some.inj hf; exact ⟨rfl, by kernel_rfl, Try.underlying3⟩
  | j + 2, hf => simp at hf)
theorem cells_sizes : Try.prog.cellsOf 48 = 2 := by kernel_rfl
end
set_option maxRecDepth 100000 in
theorem lifted (os : Os) (started : os.Started) (H : Type) (enc : TypeId × Value → H) :
    ReturnsInHanded {} Try.checked os 4 .any (Rows.robinCurvesSpec.pre6 enc Try.prog Try.f4 Rows.robinCurvesRow.domain false) (Rows.robinCurvesSpec.post enc Try.prog Try.f4 false true false false) := by
  refine returnsInHanded_of_change (C := Try.checked) own started (by kernel_rfl) Try.func4
    (ChangeSpec.witness6 (enc := enc) (C := Try.checked) false ⟨#[], #[.slice none 0 0, .slice none 0 0, .int .i64 0, .int .i64 0, .int .i64 0, .slice none 0 0], []⟩ 8 (by kernel_rfl) (by kernel_rfl) (by kernel_rfl) (by kernel_rfl)) ?_
  intro W base args ds gs before hval0 hW _ _
  have hval : ∀ (j : Nat) t v, Try.f4.params[j]? = some t → args[j]? = some v → Value.okWide Try.prog W .any base t v := hval0
  have hW' := hW
  obtain ⟨p, q, hA0, hV, rfl, _, _⟩ := hW
  have hA : DataW.TrodAll enc Try.prog W 0 (fun _ => true) true Try.f4.params.toList args.toList ds p := hA0
  have hA1 := hA
  obtain ⟨rfl, rfl⟩ := trodVars_none hV
  simp only [List.append_nil] at hW'
  have hlt : ∀ x ∈ p, x.block < W.heap.size := fun x hx => by simpa using hW'.lt x hx
  have hcarry : ∀ W', Below W.heap.size W W' → DataW.TrodAll enc Try.prog W' 0 (fun b => decide (b < W.heap.size)) true Try.f4.params.toList args.toList ds p := fun W' hb => carryAll laidOut readable hA1 hb hlt
  clear hA0 hval0 hA1
  rw [Try.params4] at hA
  obtain ⟨v0, vs0, d0, ds0, p0, q0, e0, rfl, e20, h0, t0⟩ := trodAll_cons hA
  obtain ⟨v1, vs1, d1, ds1, p1, q1, rfl, rfl, e21, h1, t1⟩ := trodAll_cons t0
  obtain ⟨v2, vs2, d2, ds2, p2, q2, rfl, rfl, e22, h2, t2⟩ := trodAll_cons t1
  obtain ⟨v3, vs3, d3, ds3, p3, q3, rfl, rfl, e23, h3, t3⟩ := trodAll_cons t2
  obtain ⟨v4, vs4, d4, ds4, p4, q4, rfl, rfl, e24, h4, t4⟩ := trodAll_cons t3
  obtain ⟨v5, vs5, d5, ds5, p5, q5, rfl, rfl, e25, h5, t5⟩ := trodAll_cons t4
  obtain ⟨rfl, rfl, _⟩ := trodAll_nil t5
  have hargs : args = #[v0, v1, v2, v3, v4, v5] := by rw [← Array.toArray_toList (xs := args), e0]
  subst hargs
  obtain ⟨a0, cp0, zs0, rfl, c0, l0, m0, r0⟩ := open_flat Try.underlying23 (by decide) cells_ints flat_ints (hval 0 23 _ rfl rfl) h0
  have g0 : RS (roOf W) 1 encI a0 (zs0.map decI) := RS.ofFlat m0 l0 decI_enc
  have n0 : (zs0.map decI).length = zs0.length := by simp
  rw [← n0] at c0
  obtain ⟨a1, cp1, zs1, rfl, c1, l1, m1, r1⟩ := open_flat Try.underlying44 (by decide) cells_sizes flat_sizes (hval 1 44 _ rfl rfl) h1
  have g1 : RS (roOf W) 2 encZ a1 (zs1.map decZ) := RS.ofFlat m1 l1 decZ_enc
  have n1 : (zs1.map decZ).length = zs1.length := by simp
  rw [← n1] at c1
  obtain ⟨z2, rfl, _, _, w2⟩ := open_int Try.underlying3 (hval 2 3 _ rfl rfl) h2
  have r2 : InR z2 := bounds_i64 w2
  obtain ⟨z3, rfl, _, _, w3⟩ := open_int Try.underlying3 (hval 3 3 _ rfl rfl) h3
  have r3 : InR z3 := bounds_i64 w3
  obtain ⟨z4, rfl, _, _, w4⟩ := open_int Try.underlying3 (hval 4 3 _ rfl rfl) h4
  have r4 : InR z4 := bounds_i64 w4
  obtain ⟨a5, cp5, zs5, rfl, c5, l5, m5, r5⟩ := open_flat Try.underlying23 (by decide) cells_ints flat_ints (hval 5 23 _ rfl rfl) h5
  have g5 : RS (roOf W) 1 encI a5 (zs5.map decI) := RS.ofFlat m5 l5 decI_enc
  have n5 : (zs5.map decI).length = zs5.length := by simp
  rw [← n5] at c5
  have hcall := lift_calls (P := Try.prog) (f := 4) (args := [.slice a0 (zs0.map decI).length cp0, .slice a1 (zs1.map decZ).length cp1, .int .i64 z2, .int .i64 z3, .int .i64 z4, .slice a5 (zs5.map decI).length cp5]) (W := W) (RobinCurves_F g0 g1 r4 g5 c5 W)
  simp only [List.length_map] at hcall
  refine hcall.mono fun e W' ⟨he, hb⟩ => ?_
  subst he
  exact ⟨_, rfl, ⟨_, _, _, [], _, [], hW', trodAll_mk1 (shut_bool Try.underlying4 _), hcarry W' hb, rfl, hb.frame _, fun h => by cases h⟩⟩
end robinCurves
theorem robinCurves_holds : Rows.RobinCurvesSaid :=
  OpenClaim.holds_of_wide 4 Try.f4 rfl rfl rfl rfl rfl rfl rfl ⟨rfl, rfl, rfl, rfl, rfl⟩ rfl rfl rfl rfl rfl (by kernel_rfl) Try.func4 (by kernel_rfl)
    (of_decide_eq_true (by kernel_rfl)) (by unfold Func.isWrapper; first | (rw [if_pos (by decide +kernel)]; kernel_rfl) | (rw [if_neg (by decide +kernel)]; exact ⟨rfl, rfl⟩))
    (fun os started H enc _ => robinCurves.lifted os started H enc)
end Go.Proofs.Ytcfnckccmkjjlaa
