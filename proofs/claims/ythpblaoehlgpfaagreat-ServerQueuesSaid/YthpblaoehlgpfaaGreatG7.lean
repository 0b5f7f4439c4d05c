/- ServerQueues: for every list of numbers the law returns true, and the list reads afterwards as it read before. No condition. -/
import Derived.Test.YthpblaoehlgpfaaGreatG6
/- Chapter 22: server.Curve of any line. No condition. -/
set_option maxRecDepth 4000
set_option linter.unusedSimpArgs false
set_option linter.unusedVariables false
namespace Go.Proofs.YthpblaoehlgpfaaGreat
open Go Go.RowKit Go.Proofs.YthpblaoehlgpfaaGreat.K Go.Proofs.YthpblaoehlgpfaaGreat.M

theorem meth_curve1 (x y z u : Value) : Meth Tryz.prog 112 (.agg #[]) "netcalculus/server.curve" 185 [x, y, z, u] := fun w => by kernel_rfl
theorem meth_curve2 (x y z u : Value) : Meth Tryz.prog 113 (.agg #[]) "netcalculus/server.curve" 194 [x, y, z, u] := fun w => by kernel_rfl
theorem meth_curve3 (x y z u : Value) : Meth Tryz.prog 114 (.agg #[]) "netcalculus/server.curve" 208 [x, y, z, u] := fun w => by kernel_rfl
theorem meth_curve4 (x y z u : Value) : Meth Tryz.prog 115 (.agg #[]) "netcalculus/server.curve" 225 [x, y, z, u] := fun w => by kernel_rfl
theorem meth_curve5 (x y z u : Value) : Meth Tryz.prog 116 (.agg #[]) "netcalculus/server.curve" 238 [x, y, z, u] := fun w => by kernel_rfl

theorem arg_facts {L : Ln} {cls : Int} {l : List Cv} {z : List Sz} (h : argE L cls l z = 0) : chkL L = 0 ∧ (0 ≤ cls ∧ cls < L.n ∧ (l.length : Int) = L.n ∧ (z.length : Int) = L.n) ∧ chk18 L.cap cls z = 0 ∧ ∀ c ∈ l, validB c = true := by
 unfold argE at h
 split at h
 ·rename_i h1; exact absurd h h1
 ·rename_i h1
  split at h
  ·omega
  ·split at h
   ·rename_i h2; exact absurd h h2
   ·rename_i h2
    split at h
    ·rename_i h3
     exact ⟨by omega, by omega, by omega, fun c hc => List.all_eq_true.1 h3 c hc⟩
    ·omega

theorem CurveSrv1_C {R : Ro} {aw at_ : Option Addr} {lw cw lt ct : Nat} {L : Ln} (hw : RS R 1 encI aw L.w) (hlw : L.w.length = lw) (ht : RS R 1 encI at_ L.tb) (hlt : L.tb.length = lt) {la : Option Addr} {lc ll : Nat} {ls : List CvS} (hla : RS R 3 encC la ls) (hll : ls.length = ll) (hlc : ll ≤ lc) (hls : ∀ x ∈ ls, RS R 1 encI x.a x.cv.vals ∧ x.cv.vals.length ≤ 100000) {za : Option Addr} {zc lz : Nat} {z : List Sz} (hzr : RS R 2 encZ za z) (hlz : z.length = lz) (hzc : lz ≤ zc) {cls : Int} (hk1 : L.kind = 1) (w0 : World) (E : List Ent) : K.Fn Tryz.prog 15 [.agg #[.int .i64 L.kind, .int .i64 L.cap, .int .i64 L.n, .slice aw lw cw, .slice at_ lt ct], .int .i64 cls, .slice la ll lc, .slice za lz zc] w0 R E (fun r R' E' => ∃ (f : Option Addr) (fc : Nat), r = cvV f fc (curveL L cls (ls.map CvS.cv) z) ∧ RS R' 1 encI f (curveL L cls (ls.map CvS.cv) z).1.vals ∧ E.Sublist E') := by
 refine fE 36 Tryz.func15 ?_
 refine zQ (zG ?_)
 refine zO fun b4 => ?_
 refine zA fun b8 => ?_
 refine zR 1 rfl (zN (zU (zQ (zQ (zG ?_)))))
 refine yL (Rd.blk 1 rfl) ?_
 refine zR 3 rfl ?_
 refine WG.callV en45 rfl rfl qD (CallOp.mk' rfl rfl rfl rfl) (fun _ => rfl) (fun hg => ArgSrv_V hw hlw ht hlt hla hll hlc hls hzr hlz hzc) ?_
 refine zR 1 rfl (zN (zU (zQ (zG (zR 2 rfl (zN (zU ?_)))))))
 refine W.condN rfl (fun hc0 => ?_) (fun hc0 => ?_)
 ·try dsimp only at hc0
  have e : curveL L cls (ls.map CvS.cv) z = (zcv, argE L cls (ls.map CvS.cv) z) := if_pos hc0
  refine zQ (zG ?_)
  -- build
  refine WG.y rfl rfl qD (Yl.build (parts := []) tab_ok rfl rfl rfl rfl (fun _ => rfl) rfl rfl) ?_
  refine zR 1 rfl ?_
  refine zE 0 ?_
  refine zR 1 rfl (zN (zU (zT (wt ?_))))
  refine WE.retF tab_ok [_, _] rfl ⟨⟨_, _, _, rfl, rfl, rfl, qB, rfl⟩, rfl, trivial⟩ (by first | exact RLe.refl _ | exact hR2) ?_
  rw [e]
  exact ⟨none, 0, rfl, rs_nil, qS⟩
 ·try dsimp only at hc0
  have e : curveL L cls (ls.map CvS.cv) z = fifoC L.cap (ls.map CvS.cv) := (if_neg (fun h => h hc0)).trans (if_pos hk1)
  obtain ⟨hk0, -, -, hv⟩ := arg_facts hc0
  have hf := chk_facts hk0
  refine zK (zU (zQ (zG (zR 1 rfl ?_))))
  refine yL (Rd.add (Rd.blk 1 rfl) _) ?_
  refine WG.callV en44 rfl rfl qD (CallOp.mk' rfl rfl rfl rfl) (fun _ => rfl) (fun hg => Kind_V L.kind) ?_
  refine zR 5 rfl (zN (zU ?_))
  rw [show kindI L.kind = .iface 112 (.agg #[]) by rw [hk1]; rfl]
  refine zQ (zG (zR 1 rfl ?_))
  refine yL (Rd.blk 1 rfl) ?_
  refine zR 3 rfl ?_
  refine WL.callI (args := [.tmp 29, .tmp 30, .tmp 31, .tmp 32]) rfl rfl rfl qD rfl rfl (meth_curve1 _ _ _ _) (CurFifo_C hw hlw ht hlt hla hll hlc hls hzr hlz hzc ⟨hf.2.1, hf.2.2.1⟩ (fun x hx => hv _ (List.mem_map.2 ⟨x, hx, rfl⟩)) w0 _) ?_
  rintro _ R2 E2 hR2 ⟨f, fc, rfl, hf, hsub⟩
  refine WL.subE hsub ?_
  rw [← e] at hf ⊢
  unfold cvV
  refine zR 2 rfl ?_
  refine zE 0 ?_
  refine zR 1 rfl (zN (zU (zT ?_)))
  refine WE.retF tab_ok [_, _] rfl ⟨⟨_, _, _, rfl, rfl, rfl, qB, rfl⟩, rfl, trivial⟩ (by first | exact RLe.refl _ | exact hR2) ?_
  exact ⟨f, fc, rfl, hf, qS⟩


theorem curve_any {R : Ro} {aw at_ : Option Addr} {lw cw lt ct : Nat} {L : Ln} (hw : RS R 1 encI aw L.w) (hlw : L.w.length = lw) (ht : RS R 1 encI at_ L.tb) (hlt : L.tb.length = lt) {la : Option Addr} {lc ll : Nat} {ls : List CvS} (hla : RS R 3 encC la ls) (hll : ls.length = ll) (hlc : ll ≤ lc) (hls : ∀ x ∈ ls, RS R 1 encI x.a x.cv.vals ∧ x.cv.vals.length ≤ 100000) {za : Option Addr} {zc lz : Nat} {z : List Sz} (hzr : RS R 2 encZ za z) (hlz : z.length = lz) (hzc : lz ≤ zc) {cls : Int} (htc : lt ≤ ct) (h0 : argE L cls (ls.map CvS.cv) z = 0) (w0 : World) (E : List Ent) :
  ∃ (T f : Nat), kindI L.kind = .iface T (.agg #[]) ∧ Meth Tryz.prog T (.agg #[]) "netcalculus/server.curve" f [.agg #[.int .i64 L.kind, .int .i64 L.cap, .int .i64 L.n, .slice aw lw cw, .slice at_ lt ct], .int .i64 cls, .slice la ll lc, .slice za lz zc] ∧ K.Fn Tryz.prog f [.agg #[], .agg #[.int .i64 L.kind, .int .i64 L.cap, .int .i64 L.n, .slice aw lw cw, .slice at_ lt ct], .int .i64 cls, .slice la ll lc, .slice za lz zc] w0 R E (fun r R' E' => ∃ (f : Option Addr) (fc : Nat), r = cvV f fc (schedC L cls (ls.map CvS.cv) z) ∧ RS R' 1 encI f (schedC L cls (ls.map CvS.cv) z).1.vals ∧ E.Sublist E') := by
 obtain ⟨hk0, -, -, hv⟩ := arg_facts h0
 have hf := chk_facts hk0
 rcases (show L.kind = 1 ∨ L.kind = 2 ∨ L.kind = 3 ∨ L.kind = 4 ∨ L.kind = 5 by omega) with h | h | h | h | h
 ·have e : schedC L cls (ls.map CvS.cv) z = fifoC L.cap (ls.map CvS.cv) := by unfold schedC; rw [h]; rfl
  rw [e]
  exact ⟨_, _, by unfold kindI; rw [h]; rfl, meth_curve1 _ _ _ _, CurFifo_C hw hlw ht hlt hla hll hlc hls hzr hlz hzc ⟨hf.2.1, hf.2.2.1⟩ (fun x hx => hv _ (List.mem_map.2 ⟨x, hx, rfl⟩)) w0 E⟩
 ·have e : schedC L cls (ls.map CvS.cv) z = prioC L.cap cls (ls.map CvS.cv) z := by unfold schedC; rw [h]; rfl
  rw [e]
  exact ⟨_, _, by unfold kindI; rw [h]; rfl, meth_curve2 _ _ _ _, CurRanks_C hw hlw ht hlt hla hll hlc hls hzr hlz hzc htc w0 E⟩
 ·have e : schedC L cls (ls.map CvS.cv) z = robinC L.cap cls L.w z := by unfold schedC; rw [h]; rfl
  rw [e]
  exact ⟨_, _, by unfold kindI; rw [h]; rfl, meth_curve3 _ _ _ _, CurRobin_C hw hlw ht hlt hla hll hlc hls hzr hlz hzc htc w0 E⟩
 ·have e : schedC L cls (ls.map CvS.cv) z = defC L.cap cls L.w z := by unfold schedC; rw [h]; rfl
  rw [e]
  exact ⟨_, _, by unfold kindI; rw [h]; rfl, meth_curve4 _ _ _ _, CurDef_C hw hlw ht hlt hla hll hlc hls hzr hlz hzc htc w0 E⟩
 ·have e : schedC L cls (ls.map CvS.cv) z = slotC L.cap cls L.tb z := by unfold schedC; rw [h]; rfl
  rw [e]
  exact ⟨_, _, by unfold kindI; rw [h]; rfl, meth_curve5 _ _ _ _, CurTimes_C hw hlw ht hlt hla hll hlc hls hzr hlz hzc htc w0 E⟩

theorem CurveSrv_C {R : Ro} {aw at_ : Option Addr} {lw cw lt ct : Nat} {L : Ln} (hw : RS R 1 encI aw L.w) (hlw : L.w.length = lw) (ht : RS R 1 encI at_ L.tb) (hlt : L.tb.length = lt) {la : Option Addr} {lc ll : Nat} {ls : List CvS} (hla : RS R 3 encC la ls) (hll : ls.length = ll) (hlc : ll ≤ lc) (hls : ∀ x ∈ ls, RS R 1 encI x.a x.cv.vals ∧ x.cv.vals.length ≤ 100000) {za : Option Addr} {zc lz : Nat} {z : List Sz} (hzr : RS R 2 encZ za z) (hlz : z.length = lz) (hzc : lz ≤ zc) {cls : Int} (htc : lt ≤ ct) (w0 : World) (E : List Ent) : K.Fn Tryz.prog 15 [.agg #[.int .i64 L.kind, .int .i64 L.cap, .int .i64 L.n, .slice aw lw cw, .slice at_ lt ct], .int .i64 cls, .slice la ll lc, .slice za lz zc] w0 R E (fun r R' E' => ∃ (f : Option Addr) (fc : Nat), r = cvV f fc (curveL L cls (ls.map CvS.cv) z) ∧ RS R' 1 encI f (curveL L cls (ls.map CvS.cv) z).1.vals ∧ E.Sublist E') := by
 refine fE 36 Tryz.func15 ?_
 refine zQ (zG ?_)
 refine zO fun b4 => ?_
 refine zA fun b8 => ?_
 refine zR 1 rfl (zN (zU (zQ (zQ (zG ?_)))))
 refine yL (Rd.blk 1 rfl) ?_
 refine zR 3 rfl ?_
 refine WG.callV en45 rfl rfl qD (CallOp.mk' rfl rfl rfl rfl) (fun _ => rfl) (fun hg => ArgSrv_V hw hlw ht hlt hla hll hlc hls hzr hlz hzc) ?_
 refine zR 1 rfl (zN (zU (zQ (zG (zR 2 rfl (zN (zU ?_)))))))
 refine W.condN rfl (fun hc0 => ?_) (fun hc0 => ?_)
 ·try dsimp only at hc0
  have e : curveL L cls (ls.map CvS.cv) z = (zcv, argE L cls (ls.map CvS.cv) z) := if_pos hc0
  refine zQ (zG ?_)
  -- build
  refine WG.y rfl rfl qD (Yl.build (parts := []) tab_ok rfl rfl rfl rfl (fun _ => rfl) rfl rfl) ?_
  refine zR 1 rfl ?_
  refine zE 0 ?_
  refine zR 1 rfl (zN (zU (zT (wt ?_))))
  refine WE.retF tab_ok [_, _] rfl ⟨⟨_, _, _, rfl, rfl, rfl, qB, rfl⟩, rfl, trivial⟩ (by first | exact RLe.refl _ | exact hR2) ?_
  rw [e]
  exact ⟨none, 0, rfl, rs_nil, qS⟩
 ·try dsimp only at hc0
  have e : curveL L cls (ls.map CvS.cv) z = schedC L cls (ls.map CvS.cv) z := if_neg (fun h => h hc0)
  refine zK (zU (zQ (zG (zR 1 rfl ?_))))
  refine yL (Rd.add (Rd.blk 1 rfl) _) ?_
  refine WG.callV en44 rfl rfl qD (CallOp.mk' rfl rfl rfl rfl) (fun _ => rfl) (fun hg => Kind_V L.kind) ?_
  refine zR 5 rfl (zN (zU ?_))
  obtain ⟨T9, f9, e9, m9, v9⟩ := curve_any (R := R) (lw := lw) (lt := lt) (cw := cw) (ct := ct) (cls := cls) hw hlw ht hlt hla hll hlc hls hzr hlz hzc htc hc0 w0 (.blk b8 [.slice none 0 0, .int .i64 0, .int .i64 0] :: .blk b4 [.int .i64 L.kind, .int .i64 L.cap, .int .i64 L.n, .slice aw lw cw, .slice at_ lt ct] :: E)
  rw [e9]
  refine zQ (zG (zR 1 rfl ?_))
  refine yL (Rd.blk 1 rfl) ?_
  refine zR 3 rfl ?_
  refine WL.callI (args := [.tmp 29, .tmp 30, .tmp 31, .tmp 32]) rfl rfl rfl qD rfl rfl (m9) (v9) ?_
  rintro _ R2 E2 hR2 ⟨f, fc, rfl, hf, hsub⟩
  refine WL.subE hsub ?_
  rw [← e] at hf ⊢
  unfold cvV
  refine zR 2 rfl ?_
  refine zE 0 ?_
  refine zR 1 rfl (zN (zU (zT ?_)))
  refine WE.retF tab_ok [_, _] rfl ⟨⟨_, _, _, rfl, rfl, rfl, qB, rfl⟩, rfl, trivial⟩ (by first | exact RLe.refl _ | exact hR2) ?_
  exact ⟨f, fc, rfl, hf, qS⟩

end Go.Proofs.YthpblaoehlgpfaaGreat

/- Four operations of which any may come first. No condition. -/
namespace Go.Proofs.YthpblaoehlgpfaaGreat.K
open Go Go.RowKit
variable {P : Program} {T : Tab} {n : Nat} {env : Env} {w0 : World} {R : Ro} {E : List Ent} {Q : Exit → Act → World → Prop}
variable {ops : List Oper} {ES : List Ent} {R0 : Ro} {fuel : Nat} {listed : Array Bool}
theorem WE.retFS {E' : List Ent} (hE : E'.Sublist E) (hT : TabOk P T) {fn : Func} {Post : Value → Ro → List Ent → Prop} {R0 : Ro} {rs : List ResultVar} (vs : List Value) (hr : fn.results = rs.toArray) (h : ResAll T env R E rs vs) (hR : RLe R0 R) (hp : Post (resVal vs) R E') (hds : markOf env = none := by rfl) :
  WE (bodyPost P fn (FnR w0 R0 Post)) .ret n env w0 R E := fun _ _ hk hm => ⟨by rw [hk.defers]; unfold dsOf; rw [hds], resVal vs, results_ok hT hr hk hm h, resVal vs, R, E', rfl, hR, hm.sub (RLe.refl R) hE, hp⟩
end Go.Proofs.YthpblaoehlgpfaaGreat.K

/- Chapter 22: the lines that are drawn. No condition. -/
set_option maxRecDepth 4000
set_option linter.unusedSimpArgs false
set_option linter.unusedVariables false
namespace Go.Proofs.YthpblaoehlgpfaaGreat
open Go Go.RowKit Go.Proofs.YthpblaoehlgpfaaGreat.K Go.Proofs.YthpblaoehlgpfaaGreat.M



theorem srv_awake1 : curveL (⟨1, 10, 2, [], []⟩ : Ln) 1 [(⟨[0, 15], 1, 0⟩ : Cv), (⟨[0, 15], 1, 0⟩ : Cv)] [⟨15, 15⟩, ⟨15, 15⟩] = (⟨[0, 0, 0, INF], 1, 0⟩, 0) := by kernel_rfl
theorem srv_awake2 : srvE (⟨1, 10, 2, [], []⟩ : Ln) 4 ([⟨0, 0, 15⟩, ⟨1, 0, 15⟩] : List Pkt) = 0 := by kernel_rfl
theorem srv_awake3 : (srvL (⟨1, 10, 2, [], []⟩ : Ln) 4 ([⟨0, 0, 15⟩, ⟨1, 0, 15⟩] : List Pkt)).1 = [1, 2] := by kernel_rfl
theorem srv_awake4 : chkL (⟨1, 10, 2, [], []⟩ : Ln) = 0 := by kernel_rfl
theorem srv_awake5 : chkL ⟨0, 0, 0, [], []⟩ = 9 := by kernel_rfl

set_option maxHeartbeats 1000000 in
theorem Awake22_C {R : Ro} (w0 : World) (E : List Ent) : K.Fn Tryz.prog 18 [] w0 R E (fun v R' E' => v = .bool true ∧ E.Sublist E') := by
 refine fE 57 Tryz.func18 ?_
 refine zQ (zG (zR 1 rfl (zN (zU (zQ (zG ?_))))))
 -- build
 refine WG.y rfl rfl qD (Yl.build (parts := [(0, .const (.int .i64 1)), (1, .const (.int .i64 10)), (2, .const (.int .i64 2))]) tab_ok rfl rfl rfl rfl (fun _ => rfl) rfl rfl) ?_
 refine zA fun b1 => ?_
 refine zE 0 ?_
 refine zN (zU (zQ (zG ?_)))
 refine WL.ef rfl rfl qD (Ef.buildSliceD (enc := encI) (parts := [.const (.int .i64 0), .const (.int .i64 15)]) [_, _] tab_ok rfl rfl rfl rfl rfl rfl rfl rfl qD qD (fun a8 => ?_))
 refine WL.freeze (enc := encI) (xs := ([0, 15] : List Int)) 0 rfl ?_
 intro R1 hR1 hc1
 -- build
 refine WG.y rfl rfl qD (Yl.build (parts := [(0, .tmp 8), (1, .const (.int .i64 1))]) tab_ok rfl rfl rfl rfl (fun _ => rfl) rfl rfl) ?_
 refine zA fun b2 => ?_
 refine zE 0 ?_
 refine zN (zU (zQ (zG ?_)))
 refine yL (Rd.blk 1 rfl) ?_
 refine yL (Rd.blk 0 rfl) ?_
 refine yL (Rd.blk 0 rfl) ?_
 refine WL.ef rfl rfl qD (Ef.buildSlice (parts := [.tmp 12, .tmp 13]) tab_ok rfl rfl rfl rfl rfl rfl rfl qD qD (fun a14 => ?_))
 refine WL.freeze (enc := encC) (xs := ([⟨some ⟨a8, 0, none⟩, 2, (⟨[0, 15], 1, 0⟩ : Cv)⟩, ⟨some ⟨a8, 0, none⟩, 2, (⟨[0, 15], 1, 0⟩ : Cv)⟩] : List CvS)) 0 rfl ?_
 intro R2 hR2 hlc
 -- build
 refine WG.y rfl rfl qD (Yl.build (parts := [(0, .const (.int .i64 15)), (1, .const (.int .i64 15))]) tab_ok rfl rfl rfl rfl (fun _ => rfl) rfl rfl) ?_
 -- build
 refine WG.y rfl rfl qD (Yl.build (parts := [(0, .const (.int .i64 15)), (1, .const (.int .i64 15))]) tab_ok rfl rfl rfl rfl (fun _ => rfl) rfl rfl) ?_
 refine WL.ef rfl rfl qD (Ef.buildSliceD (enc := encZ) (parts := [.tmp 15, .tmp 16]) [⟨_, _⟩, ⟨_, _⟩] tab_ok rfl rfl rfl rfl rfl rfl rfl rfl qD qD (fun a17 => ?_))
 refine WL.freeze (enc := encZ) (xs := ([⟨15, 15⟩, ⟨15, 15⟩] : List Sz)) 0 rfl ?_
 intro R3 hR3 hzz
 have hlc := hlc.mono hR3
 have hc1 := hc1.mono (hR2.trans hR3)
 have hls : ∀ x ∈ ([⟨some ⟨a8, 0, none⟩, 2, (⟨[0, 15], 1, 0⟩ : Cv)⟩, ⟨some ⟨a8, 0, none⟩, 2, (⟨[0, 15], 1, 0⟩ : Cv)⟩] : List CvS), RS R3 1 encI x.a x.cv.vals ∧ x.cv.vals.length ≤ 100000 := fun x hx => by
  simp only [List.mem_cons, List.not_mem_nil, or_false] at hx
  rcases hx with rfl | rfl
  ·exact ⟨hc1, by show 2 ≤ 100000; decide⟩
  ·exact ⟨hc1, by show 2 ≤ 100000; decide⟩
 refine WL.call en15 rfl rfl qD (CallOp.mkT rfl rfl rfl rfl) (CurveSrv1_C (L := (⟨1, 10, 2, [], []⟩ : Ln)) (ls := ([⟨some ⟨a8, 0, none⟩, 2, (⟨[0, 15], 1, 0⟩ : Cv)⟩, ⟨some ⟨a8, 0, none⟩, 2, (⟨[0, 15], 1, 0⟩ : Cv)⟩] : List CvS)) (z := ([⟨15, 15⟩, ⟨15, 15⟩] : List Sz)) (cls := 1) (aw := none) (at_ := none) (lw := 0) (cw := 0) (lt := 0) (ct := 0) rs_nil rfl rs_nil rfl hlc rfl (Nat.le_refl 2) hls hzz rfl (Nat.le_refl 2) rfl w0 _) ?_
 rintro _ R4 E3 hR4 ⟨f1, fc1, rfl, hf1, hsub2⟩
 rw [show List.map CvS.cv ([⟨some ⟨a8, 0, none⟩, 2, (⟨[0, 15], 1, 0⟩ : Cv)⟩, ⟨some ⟨a8, 0, none⟩, 2, (⟨[0, 15], 1, 0⟩ : Cv)⟩] : List CvS) = [(⟨[0, 15], 1, 0⟩ : Cv), (⟨[0, 15], 1, 0⟩ : Cv)] from rfl, srv_awake1] at hf1 ⊢
 refine WL.subE hsub2 ?_
 unfold cvV
 refine zR 3 rfl ?_
 refine zA fun b3 => ?_
 refine zE 0 ?_
 refine zR 1 rfl (zN (zU (zQ (zG ?_))))
 refine yL (Rd.blk 2 rfl) ?_
 -- build
 refine WG.y rfl rfl qD (Yl.build (parts := [(2, .const (.int .i64 15))]) tab_ok rfl rfl rfl rfl (fun _ => rfl) rfl rfl) ?_
 -- build
 refine WG.y rfl rfl qD (Yl.build (parts := [(0, .const (.int .i64 1)), (2, .const (.int .i64 15))]) tab_ok rfl rfl rfl rfl (fun _ => rfl) rfl rfl) ?_
 refine WL.ef rfl rfl qD (Ef.buildSliceD (enc := encP) (parts := [.tmp 23, .tmp 24]) [⟨_, _, _⟩, ⟨_, _, _⟩] tab_ok rfl rfl rfl rfl rfl rfl rfl rfl qD qD (fun a25 => ?_))
 refine WL.freeze (enc := encP) (xs := ([⟨0, 0, 15⟩, ⟨1, 0, 15⟩] : List Pkt)) 0 rfl ?_
 intro R5 hR5 hp
 have hf1 := hf1.mono hR5
 refine WL.call en13 rfl rfl qD (CallOp.mkT rfl rfl rfl rfl) (RunSrv_C (L := (⟨1, 10, 2, [], []⟩ : Ln)) (ps := ([⟨0, 0, 15⟩, ⟨1, 0, 15⟩] : List Pkt)) (ticks := 4) (aw := none) (at_ := none) (lw := 0) (cw := 0) (lt := 0) (ct := 0) hp rfl rs_nil rfl rs_nil rfl w0 _) ?_
 rintro _ R6 E4 hR6 ⟨da, oa, dc, oc, rows, rfl, hd, ho, hrw, hrx, hcp, hsub⟩
 refine WL.subE hsub ?_
 rw [srv_awake3] at hd ⊢
 rw [srv_awake2]
 have hf1 := hf1.mono hR6
 refine zR 3 rfl ?_
 refine zA fun b5 => ?_
 refine zE 0 ?_
 refine zR 1 rfl (zN (zU (zQ (zG ?_))))
 refine yL (Rd.blk 3 rfl) ?_
 refine WG.callV (v := .int .i64 0) en27 rfl rfl qD (CallOp.mk' rfl rfl rfl rfl) (fun _ => rfl) (fun hg => by
  have h := ChkSrv_V (R := R6) (L := (⟨1, 10, 2, [], []⟩ : Ln)) (aw := none) (at_ := none) (cw := 0) (ct := 0) rs_nil rfl rs_nil rfl
  rw [srv_awake4] at h
  exact h) ?_
 refine zR 2 rfl ?_
 refine WL.guardT rfl (by rfl) ?_
 refine yP ?_
 refine WL.guardT rfl (by rfl) ?_
 refine yP ?_
 refine yN ?_
 refine zR 1 rfl ?_
 refine WL.guardT rfl (by rfl) ?_
 refine yL (Rd.blk 1 rfl) ?_
 refine WL.guardT rfl (by rfl) ?_
 refine WL.ef rfl rfl qD (Ef.buildSliceD (enc := encI) (parts := [.const (.int .i64 0), .const (.int .i64 0), .const (.int .i64 0), .const (.int .i64 4611686018427387904)]) [_, _, _, _] tab_ok rfl rfl rfl rfl rfl rfl rfl rfl qD qD (fun a38 => ?_))
 refine WL.freeze (enc := encI) (xs := ([0, 0, 0, 4611686018427387904] : List Int)) 0 rfl ?_
 intro R7 hR7 hi1
 have hd := hd.mono hR7
 have hf1 := hf1.mono hR7
 refine WL.guardT rfl (by rfl) ?_
 -- build
 refine WG.y rfl rfl qD (Yl.build (parts := [(0, .tmp 38), (1, .const (.int .i64 1))]) tab_ok rfl rfl rfl rfl (fun _ => rfl) rfl rfl) ?_
 refine WL.guardT rfl (by rfl) ?_
 refine WG.callV (v := .bool true) en39 rfl rfl qD (CallOp.mk' rfl rfl rfl rfl) (fun _ => rfl) (fun hg => by
  have h := Same02_V (ca := fc1) (cb := 4) (p1 := 1) (i1 := 0) (p2 := 1) (i2 := 0) hf1 hi1
  rw [decide_eq_true ⟨rfl, rfl, rfl⟩] at h
  exact h) ?_
 refine yN ?_
 refine zR 1 rfl ?_
 refine WL.guardT rfl (by rfl) ?_
 refine yP ?_
 refine WL.guardT rfl (by rfl) ?_
 refine yP ?_
 refine yN ?_
 refine zR 1 rfl ?_
 refine WL.guardT rfl (by rfl) ?_
 refine yP ?_
 refine WL.guardT rfl (by rfl) ?_
 refine yL (Rd.add (Rd.blk 0 rfl) _) ?_
 refine WL.guardT rfl (by rfl) ?_
 refine WL.ef rfl rfl qD (Ef.buildSliceD (enc := encI) (parts := [.const (.int .i64 1), .const (.int .i64 2)]) [_, _] tab_ok rfl rfl rfl rfl rfl rfl rfl rfl qD qD (fun a49 => ?_))
 refine WL.freeze (enc := encI) (xs := ([1, 2] : List Int)) 0 rfl ?_
 intro R8 hR8 hl1
 have hd := hd.mono hR8
 refine WL.guardT rfl (by rfl) ?_
 refine WG.callV (v := .bool true) en51 rfl rfl qD (CallOp.mk' rfl rfl rfl rfl) (fun _ => rfl) (fun hg => by
  have h := Ints_V (ca := dc) (cb := 2) hd hl1
  exact h) ?_
 refine yN ?_
 refine zR 1 rfl ?_
 refine WL.guardT rfl (by rfl) ?_
 -- build
 refine WG.y rfl rfl qD (Yl.build (parts := []) tab_ok rfl rfl rfl rfl (fun _ => rfl) rfl rfl) ?_
 refine WL.guardT rfl (by rfl) ?_
 refine WG.callV (v := .int .i64 9) en27 rfl rfl qD (CallOp.mk' rfl rfl rfl rfl) (fun _ => rfl) (fun hg => by
  have h := ChkSrv_V (R := R8) (L := (⟨0, 0, 0, [], []⟩ : Ln)) (aw := none) (at_ := none) (cw := 0) (ct := 0) rs_nil rfl rs_nil rfl
  rw [srv_awake5] at h
  exact h) ?_
 refine WL.guardT rfl (by rfl) ?_
 refine yP ?_
 refine yN ?_
 refine zR 1 rfl (zN (zU (zT ?_)))
 refine WE.retF tab_ok [_] rfl ⟨rfl, trivial⟩ (hR1.trans (hR2.trans (hR3.trans (hR4.trans (hR5.trans (hR6.trans (hR7.trans hR8))))))) ?_
 exact ⟨rfl, qS⟩



theorem Measure_C {R : Ro} {g : FuncId} (w0 : World) (E : List Ent) : K.Fn Tryz.prog 46 [.func (.func g) #[] #[]] w0 R E (fun v R' E' => ∃ b1 : Nat, v = .func (.func 85) #[] #[.pointer (some ⟨b1, 0, none⟩)] ∧ R' b1 = some [.func (.func g) #[] #[]] ∧ E.Sublist E') := by
 refine fE 4 Tryz.func46 ?_
 refine zQ (zG ?_)
 refine zO fun b1 => ?_
 refine zR 1 rfl (zN (zU ?_))
 refine W.freezeBlk (b := b1) 0 rfl (fun R1 hR1 hb1 => ?_)
 refine zQ (zG (zR 2 rfl (zN (zU (zT ?_)))))
 refine WE.retF tab_ok [_] rfl ⟨rfl, trivial⟩ (hR1) ?_
 exact ⟨b1, rfl, hb1, qS⟩

theorem Measure1_C {R : Ro} {aw at_ : Option Addr} {lw cw lt ct : Nat} {L : Ln} (hw : RS R 1 encI aw L.w) (hlw : L.w.length = lw) (ht : RS R 1 encI at_ L.tb) (hlt : L.tb.length = lt) {la : Option Addr} {lc ll : Nat} {ls : List CvS} (hla : RS R 3 encC la ls) (hll : ls.length = ll) (hlc : ll ≤ lc) (hls : ∀ x ∈ ls, RS R 1 encI x.a x.cv.vals ∧ x.cv.vals.length ≤ 100000) {za : Option Addr} {zc lz : Nat} {z : List Sz} (hzr : RS R 2 encZ za z) (hlz : z.length = lz) (hzc : lz ≤ zc) {cls : Int} (htc : lt ≤ ct) {g : FuncId} {D : Cv → Cv → (Bool × Int × Int) × Int} (heg : Enters Tryz.prog g) (hD : ∀ {R : Ro} {fa ga : Option Addr} {fc gc : Nat} {cf cg : Cv}, validB cf = true → RS R 1 encI fa cf.vals → validB cg = true → RS R 1 encI ga cg.vals → ∀ (w0 : World) (E : List Ent), K.Fn Tryz.prog g [.agg #[.slice fa cf.vals.length fc, .int .i64 cf.per, .int .i64 cf.inc], .agg #[.slice ga cg.vals.length gc, .int .i64 cg.per, .int .i64 cg.inc]] w0 R E (fun v R' E' => v = devV (D cf cg) ∧ E.Sublist E')) {b1 : Nat} (hb1 : R b1 = some [.func (.func g) #[] #[]]) (w0 : World) (E : List Ent) : K.Fn Tryz.prog 85 [.agg #[.int .i64 L.kind, .int .i64 L.cap, .int .i64 L.n, .slice aw lw cw, .slice at_ lt ct], .int .i64 cls, .slice la ll lc, .slice za lz zc, .pointer (some ⟨b1, 0, none⟩)] w0 R E (fun r R' E' => r = devV (measL D L cls (ls.map CvS.cv) z) ∧ E.Sublist E') := by
 have hl1 := hla.len
 have eM : measL D L cls (ls.map CvS.cv) z = if (curveL L cls (ls.map CvS.cv) z).2 ≠ 0 then ((false, 0, 0), (curveL L cls (ls.map CvS.cv) z).2) else D (nth (ls.map CvS.cv) cls.toNat) (curveL L cls (ls.map CvS.cv) z).1 := rfl
 refine fE 34 Tryz.func85 ?_
 refine zQ (zG ?_)
 refine zO fun b5 => ?_
 refine zA fun b9 => ?_
 refine zR 1 rfl (zN (zU (zQ (zG ?_))))
 refine yL (Rd.blk 1 rfl) ?_
 refine zR 3 rfl ?_
 refine WL.call en15 rfl rfl qD (CallOp.mkT rfl rfl rfl rfl) (CurveSrv_C hw hlw ht hlt hla hll hlc hls hzr hlz hzc htc w0 _) ?_
 rintro _ R2 E2 hR2 ⟨f, fc, rfl, hf, hsub⟩
 refine WL.subE hsub ?_
 have hcv : (curveL L cls (ls.map CvS.cv) z).2 = 0 → argE L cls (ls.map CvS.cv) z = 0 ∧ validB (curveL L cls (ls.map CvS.cv) z).1 = true := fun h => by
  have ha : argE L cls (ls.map CvS.cv) z = 0 := by
   apply Classical.byContradiction
   intro hn
   unfold curveL at h
   rw [if_pos hn] at h
   exact hn h
  refine ⟨ha, ?_⟩
  have e : curveL L cls (ls.map CvS.cv) z = schedC L cls (ls.map CvS.cv) z := if_neg (fun hn => hn ha)
  rw [e] at h ⊢
  exact sched_valid (arg_facts ha).2.2.2 h
 generalize curveL L cls (ls.map CvS.cv) z = q at hf eM hcv ⊢
 unfold cvV
 refine zR 3 rfl ?_
 refine zA fun b11 => ?_
 refine zE 0 ?_
 refine zR 1 rfl (zN (zU (zQ (zQ (zG (zR 2 rfl (zN (zU ?_))))))))
 refine W.condN rfl (fun hc0 => ?_) (fun hc0 => ?_)
 ·try dsimp only at hc0
  rw [if_pos hc0] at eM
  refine zQ (zG ?_)
  -- build
  refine WG.y rfl rfl qD (Yl.build (parts := []) tab_ok rfl rfl rfl rfl (fun _ => rfl) rfl rfl) ?_
  refine zR 1 rfl ?_
  refine zE 1 ?_
  refine zR 1 rfl (zN (zU (zT (wt ?_))))
  refine WE.retF tab_ok [_, _] rfl ⟨⟨_, _, _, rfl, rfl, rfl, qB, rfl⟩, rfl, trivial⟩ (by first | exact hR2 | exact hR2.trans hR3) ?_
  rw [eM]
  exact ⟨rfl, qS⟩
 ·try dsimp only at hc0
  rw [if_neg (fun h => h hc0)] at eM
  obtain ⟨ha, hqv⟩ := hcv hc0
  obtain ⟨-, hcl, -, hv⟩ := arg_facts ha
  rw [List.length_map] at hcl
  have hck : cls.toNat < ls.length := by omega
  have hla2 := hla.mono hR2
  have hnv : nth (ls.map CvS.cv) cls.toNat = (nth ls cls.toNat).cv := nth_map_lt _ hck
  have hvk : validB (nth ls cls.toNat).cv = true := hv _ (List.mem_map.2 ⟨_, nth_mem hck, rfl⟩)
  have hrk := (hls _ (nth_mem hck)).1.mono hR2
  obtain ⟨k, rfl⟩ := Int.eq_ofNat_of_zero_le hcl.1
  simp only [Int.toNat_natCast] at hck hnv hvk hrk eM
  subst hll
  have hbb := hR2 _ _ hb1
  refine zK (zU (zQ ?_))
  refine W.regionH _ (ES := (.blk b11 [.slice f q.1.vals.length fc, .int .i64 q.1.per, .int .i64 q.1.inc] :: E)) mixed ?_
  refine' WA.take 0 rfl qK qK qK rfl rfl qD (Yl.load1 tab_ok rfl rfl rfl (fun _ => rfl) ?r2 rfl ?h2) qS qR ?_
  case r2 => exact Rd.ro hbb
  case h2 => rfl
  refine tP 1 ?_
  refine tP 2 ?_
  refine WA.take 3 rfl qK qK qK rfl rfl qD (Yl.indexN tab_ok rfl rfl rfl rfl rfl rfl (fun _ => rfl) qN (by intro _; first | exact RS.has hla2 | exact qI)) qS qR ?_
  refine' WA.take 4 rfl qK qK qK rfl rfl qD (Yl.load1 tab_ok rfl rfl rfl (fun _ => rfl) ?r3 rfl ?h3) qS qR ?_
  case r3 => exact RS.rdD hla2 qO
  case h3 => rfl
  refine tL 5 (Rd.blk 0 rfl) ?_
  refine WA.callG 6 rfl qK heg rfl (by first | rfl | decide) rfl qD (CallOp.mkT rfl rfl rfl rfl) (hD (cf := (nth ls k).cv) (cg := q.1) (fc := (nth ls k).cap) (gc := fc) hvk hrk hqv hf w0 _) ?_
  rintro _ R3 E3 hR3 ⟨rfl, hsub3⟩
  refine ⟨hR3, List.Sublist.trans qS hsub3, ?_⟩
  refine WA.subE hsub3 ?_
  unfold devV
  refine tP 7 ?_
  refine tP 8 ?_
  refine zCE 9 1 ?_
  refine tP 10 ?_
  refine WA.done qK ?_
  refine zU (zT ?_)
  refine WE.retF tab_ok [_, _] rfl ⟨⟨_, _, _, rfl, rfl, rfl, qB, rfl⟩, rfl, trivial⟩ (by first | exact hR2 | exact hR2.trans hR3) ?_
  rw [eM, hnv]
  exact ⟨rfl, qS⟩



theorem BackSrv_C {R : Ro} {aw at_ : Option Addr} {lw cw lt ct : Nat} {L : Ln} (hw : RS R 1 encI aw L.w) (hlw : L.w.length = lw) (ht : RS R 1 encI at_ L.tb) (hlt : L.tb.length = lt) {la : Option Addr} {lc ll : Nat} {ls : List CvS} (hla : RS R 3 encC la ls) (hll : ls.length = ll) (hlc : ll ≤ lc) (hls : ∀ x ∈ ls, RS R 1 encI x.a x.cv.vals ∧ x.cv.vals.length ≤ 100000) {za : Option Addr} {zc lz : Nat} {z : List Sz} (hzr : RS R 2 encZ za z) (hlz : z.length = lz) (hzc : lz ≤ zc) {cls : Int} (htc : lt ≤ ct) (w0 : World) (E : List Ent) : K.Fn Tryz.prog 19 [.agg #[.int .i64 L.kind, .int .i64 L.cap, .int .i64 L.n, .slice aw lw cw, .slice at_ lt ct], .int .i64 cls, .slice la ll lc, .slice za lz zc] w0 R E (fun r R' E' => r = devV (measL backC L cls (ls.map CvS.cv) z) ∧ E.Sublist E') := by
 refine fE 18 Tryz.func19 ?_
 refine zQ (zG ?_)
 refine zO fun b4 => ?_
 refine zA fun b8 => ?_
 refine zR 1 rfl (zN (zU (zQ ?_)))
 refine W.regionH _ (ES := (.blk b4 [.int .i64 L.kind, .int .i64 L.cap, .int .i64 L.n, .slice aw lw cw, .slice at_ lt ct] :: E)) mixed ?_
 refine tL 1 (Rd.blk 0 rfl) ?_
 refine tP 2 ?_
 refine tP 3 ?_
 refine tP 4 ?_
 refine WA.callG 0 rfl qK en46 rfl (by first | rfl | decide) rfl qD (CallOp.mkT rfl rfl rfl rfl) (Measure_C w0 _) ?_
 rintro _ R2 E2 hR2 ⟨b1, rfl, hb1, hsub1⟩
 refine ⟨hR2, List.Sublist.trans qS hsub1, ?_⟩
 refine WA.subE hsub1 ?_
 refine WA.callG 5 rfl qK en85 rfl (by first | rfl | decide) rfl qD (CallOp.mkT rfl rfl rfl rfl) (Measure1_C (hw.mono hR2) hlw (ht.mono hR2) hlt (hla.mono hR2) hll hlc (fun x hx => ⟨(hls x hx).1.mono hR2, (hls x hx).2⟩) (hzr.mono hR2) hlz hzc htc (D := backC) en52 (fun a1 a2 a3 a4 w0 E => BacklogG_C a1 a2 a3 a4 w0 E) hb1 w0 _) ?_
 rintro _ R3 E3 hR3 ⟨rfl, hsub3⟩
 have hR9 := hR2.trans hR3
 refine ⟨hR9, List.Sublist.trans qS hsub3, ?_⟩
 refine WA.subE hsub3 ?_
 unfold devV
 refine tP 6 ?_
 refine tP 7 ?_
 refine zCE 8 0 ?_
 refine tP 9 ?_
 refine WA.done qK ?_
 refine zU (zT ?_)
 refine WE.retF tab_ok [_, _] rfl ⟨⟨_, _, _, rfl, rfl, rfl, qB, rfl⟩, rfl, trivial⟩ (hR9) ?_
 exact ⟨rfl, qS⟩

theorem PeakSrv_C {R : Ro} {aw at_ : Option Addr} {lw cw lt ct : Nat} {L : Ln} (hw : RS R 1 encI aw L.w) (hlw : L.w.length = lw) (ht : RS R 1 encI at_ L.tb) (hlt : L.tb.length = lt) {la : Option Addr} {lc ll : Nat} {ls : List CvS} (hla : RS R 3 encC la ls) (hll : ls.length = ll) (hlc : ll ≤ lc) (hls : ∀ x ∈ ls, RS R 1 encI x.a x.cv.vals ∧ x.cv.vals.length ≤ 100000) {za : Option Addr} {zc lz : Nat} {z : List Sz} (hzr : RS R 2 encZ za z) (hlz : z.length = lz) (hzc : lz ≤ zc) {cls : Int} (htc : lt ≤ ct) (w0 : World) (E : List Ent) : K.Fn Tryz.prog 20 [.agg #[.int .i64 L.kind, .int .i64 L.cap, .int .i64 L.n, .slice aw lw cw, .slice at_ lt ct], .int .i64 cls, .slice la ll lc, .slice za lz zc] w0 R E (fun r R' E' => r = devV (measL peakC L cls (ls.map CvS.cv) z) ∧ E.Sublist E') := by
 refine fE 18 Tryz.func20 ?_
 refine zQ (zG ?_)
 refine zO fun b4 => ?_
 refine zA fun b8 => ?_
 refine zR 1 rfl (zN (zU (zQ ?_)))
 refine W.regionH _ (ES := (.blk b4 [.int .i64 L.kind, .int .i64 L.cap, .int .i64 L.n, .slice aw lw cw, .slice at_ lt ct] :: E)) mixed ?_
 refine tL 1 (Rd.blk 0 rfl) ?_
 refine tP 2 ?_
 refine tP 3 ?_
 refine tP 4 ?_
 refine WA.callG 0 rfl qK en46 rfl (by first | rfl | decide) rfl qD (CallOp.mkT rfl rfl rfl rfl) (Measure_C w0 _) ?_
 rintro _ R2 E2 hR2 ⟨b1, rfl, hb1, hsub1⟩
 refine ⟨hR2, List.Sublist.trans qS hsub1, ?_⟩
 refine WA.subE hsub1 ?_
 refine WA.callG 5 rfl qK en85 rfl (by first | rfl | decide) rfl qD (CallOp.mkT rfl rfl rfl rfl) (Measure1_C (hw.mono hR2) hlw (ht.mono hR2) hlt (hla.mono hR2) hll hlc (fun x hx => ⟨(hls x hx).1.mono hR2, (hls x hx).2⟩) (hzr.mono hR2) hlz hzc htc (D := peakC) en53 (fun a1 a2 a3 a4 w0 E => PeakG_C a1 a2 a3 a4 w0 E) hb1 w0 _) ?_
 rintro _ R3 E3 hR3 ⟨rfl, hsub3⟩
 have hR9 := hR2.trans hR3
 refine ⟨hR9, List.Sublist.trans qS hsub3, ?_⟩
 refine WA.subE hsub3 ?_
 unfold devV
 refine tP 6 ?_
 refine tP 7 ?_
 refine zCE 8 0 ?_
 refine tP 9 ?_
 refine WA.done qK ?_
 refine zU (zT ?_)
 refine WE.retF tab_ok [_, _] rfl ⟨⟨_, _, _, rfl, rfl, rfl, qB, rfl⟩, rfl, trivial⟩ (hR9) ?_
 exact ⟨rfl, qS⟩



theorem CEnd_V {R : Ro} {pa : Option Addr} {pc : Nat} {ps : List Pkt} (hp : RS R 3 encP pa ps) (hok : Ok ps) : FnV Tryz.prog 139 [.slice pa ps.length pc] R (.int .i64 (endN ps)) := by
 have hlp := hp.len
 refine Fn.toV (fun w0 E => ?_)
 refine fE 14 Tryz.func139 ?_
 refine zQ (zG (zR 1 rfl (zN (zU (zQ (zQ (zG (zR 3 rfl (zN (zU ?_))))))))))
 refine W.condE rfl (fun hc0 => ?_) (fun hc0 => ?_)
 ·try dsimp only at hc0
  have e : endN ps = 0 := if_pos (by omega)
  refine zQ (zG (zR 1 rfl (zN (zU (zT (wt ?_))))))
  refine sE (E := E) ?_
  refine WE.retF tab_ok [_] rfl ⟨rfl, trivial⟩ (RLe.refl _) ?_
  exact ⟨by rw [e]; rfl, rfl⟩
 ·try dsimp only at hc0
  have e : endN ps = (nth ps (ps.length - 1)).time + 1 := if_neg (by omega)
  have hat := hok.at (nth_mem (xs := ps) (k := ps.length - 1) (by omega))
  have hix : ((ps.length : Int) - 1).toNat = ps.length - 1 := by omega
  refine zK (zU (zQ (zG (zR 3 rfl ?_))))
  refine yS ?_
  refine WG.y rfl rfl qD (Yl.index tab_ok rfl rfl rfl rfl rfl rfl (fun _ => rfl) qA qH) ?_
  refine zR 1 rfl ?_
  refine' WG.y rfl rfl qD (Yl.load1 tab_ok rfl rfl rfl (fun _ => rfl) ?r1 rfl ?h1) ?_
  case r1 => apply Rd.add; ((apply RS.rdD; assumption; ((try dsimp only) <;> omega)))
  case h1 => rfl
  refine WG.y rfl rfl (by decide) (Yl.add rfl rfl rfl (fun _ => rfl) (by intro _; rw [hix]; constructor <;> (try dsimp only) <;> omega)) ?_
  refine zR 1 rfl (zN (zU (zT ?_)))
  refine sE (E := E) ?_
  refine WE.retF tab_ok [_] rfl ⟨rfl, trivial⟩ (RLe.refl _) ?_
  exact ⟨by rw [e, hix]; rfl, rfl⟩

theorem CSums_C {R : Ro} {pa : Option Addr} {pc : Nat} {ps : List Pkt} (hp : RS R 3 encP pa ps) {flow : Int} {en : Nat} (hok : Ok ps) (hen : endN ps = en) (he : en ≤ 3000) (w0 : World) (E : List Ent) : K.Fn Tryz.prog 80 [.slice pa ps.length pc, .int .i64 flow] w0 R E (fun v R' E' => ∃ (a : Option Addr) (c : Nat), v = .slice a (cumL flow ps (en + 1)).length c ∧ R = R' ∧ (.sl 3 1 a c ((cumL flow ps (en + 1)).map encI) :: E).Sublist E') := by
 have hpl := hok.len
 have hcl : (cumL flow ps (en + 1)).length = en + 1 := by simp [cumL]
 have hsz : ∀ p ∈ ps, 0 ≤ p.size ∧ p.size ≤ 1000000 := fun p hp => by have := hok.at hp; omega
 refine fE 25 Tryz.func80 ?_
 refine zQ (zG (zR 1 rfl (zN (zU (zQ (zG (zR 1 rfl ?_)))))))
 refine WG.callV en139 rfl rfl qD (CallOp.mk' rfl rfl rfl rfl) (fun _ => rfl) (fun hg => hen ▸ CEnd_V hp hok) ?_
 refine yA ?_
 refine WL.ef rfl rfl qD (Ef.makeSliceD (enc := encI) 0 tab_ok rfl rfl rfl rfl rfl rfl qX qX qX qX qD rfl rfl (fun a10 => ?_))
 refine zR 1 rfl (zN (zU (zQ (zQ (zG (zR 3 rfl (zN (zU (zB ?_)))))))))
 refine W.loopK (β := Nat) (fun t => t ≤ en + 1) (fun t => [(13, true, .int .i64 (t : Int))]) [0, 1, 5, 12] [_, _, _, _] [] _ rfl (fun t => [(0, .sl 3 1 (some ⟨a10, 0, none⟩) (en + 1) ((partV (fun t : Nat => pbytes flow (t : Int) ps) t (en + 1)).map encI))]) (fun t => en + 1 - t) (0) (Nat.zero_le _) ⟨rfl, rfl, rfl, rfl, rfl, rfl⟩ qS ?_
 intro t hst
 dsimp only [zipE, setAll, List.cons_append, List.nil_append, List.set_cons_zero, List.set_cons_succ] at hst ⊢
 have hpv := partV_len (fun t : Nat => pbytes flow (t : Int) ps) (t := t) (n := en + 1) hst
 refine zQ (zG (zR 1 rfl (zN (zU (zQ ?_)))))
 refine W.condD rfl (fun hc0 => ?_) (fun hc0 => ?_)
 ·try dsimp only at hc0
  have htl : t < en + 1 := by omega
  have hset := partV_set (fun t : Nat => pbytes flow (t : Int) ps) htl
  refine zK (zU (zQ (zB (zQ (zG (zR 2 rfl (zN (zU (zG (zR 5 rfl ?_))))))))))
  refine WG.callV en54 rfl rfl qD (CallOp.mk' rfl rfl rfl rfl) (fun _ => rfl) (fun hg => Bytes_V hp hsz qO) ?_
  refine WG.y rfl rfl qD (Yl.indexN tab_ok rfl rfl rfl rfl rfl rfl (fun _ => rfl) qN qH) ?_
  refine WL.efN rfl rfl (Ef.storeD _ 0 tab_ok rfl rfl rfl rfl rfl qX rfl rfl rfl rfl ?_)
  refine zN (zL (zU (zG ?_)))
  refine yA ?_
  refine zR 1 rfl (zN ?_)
  refine WE.again (t + 1) (by omega) (by (try dsimp only); omega) ⟨rfl, rfl, rfl, rfl, rfl, rfl⟩ (RLe.refl _) (by dsimp only [setAll, List.set_cons_zero, List.set_cons_succ]; rw [← hset]; exact qS)
 ·try dsimp only at hc0
  obtain rfl : t = en + 1 := by omega
  rw [partV_all]
  refine zX ?_
  refine wx (wx (zY (zU (zQ (zG (zR 2 rfl (zN (zU (zT ?_)))))))))
  refine WE.retF tab_ok [_] rfl ⟨rfl, trivial⟩ (RLe.refl _) ?_
  exact ⟨_, _, by rw [hcl]; rfl, rfl, qS⟩

theorem LeastF_V {R : Ro} {va : Option Addr} {vc b8 en : Nat} {vs : List Int} (hv : RS R 1 encI va vs) (hl : vs.length = en + 1) (he : en ≤ 3000) (h8 : R b8 = some [.slice va vs.length vc]) {t : Nat} (ht : t ≤ 100000) : FnV Tryz.prog 81 [.int .i64 (t : Int), .pointer (some ⟨b8, 0, none⟩)] R (.int .i64 (nth vs (min t en))) := by
 refine Fn.toV (fun w0 E => ?_)
 have hix : (if ((vs.length : Int) - 1) < (t : Int) then ((vs.length : Int) - 1) else (t : Int)).toNat = min t en := by split <;> omega
 have hi0 : 0 ≤ (if ((vs.length : Int) - 1) < (t : Int) then ((vs.length : Int) - 1) else (t : Int)) := by split <;> omega
 have hi1 : (if ((vs.length : Int) - 1) < (t : Int) then ((vs.length : Int) - 1) else (t : Int)) < vs.length := by split <;> omega
 refine fE 12 Tryz.func81 ?_
 refine zQ (zG (zR 1 rfl (zN (zU (zQ (zG ?_))))))
 refine' WG.y rfl rfl qD (Yl.load1 tab_ok rfl rfl rfl (fun _ => rfl) ?r1 rfl ?h1) ?_
 case r1 => (exact Rd.ro qU)
 case h1 => rfl
 refine zR 1 rfl ?_
 refine' WG.y rfl rfl qD (Yl.load1 tab_ok rfl rfl rfl (fun _ => rfl) ?r2 rfl ?h2) ?_
 case r2 => (exact Rd.ro qU)
 case h2 => rfl
 refine zR 1 rfl ?_
 refine yS ?_
 refine zR 1 rfl ?_
 refine WG.y rfl rfl qD (Yl.index tab_ok rfl rfl rfl rfl rfl rfl (fun _ => rfl) (by intro _; exact ⟨hi0, hi1⟩) qH) ?_
 refine' WG.y rfl rfl qD (Yl.load1 tab_ok rfl rfl rfl (fun _ => rfl) ?r3 rfl ?h3) ?_
 case r3 => exact RS.rdD hv (by rw [hix]; omega)
 case h3 => rfl
 refine zR 1 rfl (zN (zU (zT ?_)))
 refine sE (E := E) ?_
 refine WE.retF tab_ok [_] rfl ⟨rfl, trivial⟩ (RLe.refl _) ?_
 exact ⟨by rw [hix]; rfl, rfl⟩



theorem Least1_C {R : Ro} {pa : Option Addr} {pc : Nat} {ps : List Pkt} (hp : RS R 3 encP pa ps) {flow : Int} (hok : Ok ps) (hfl : -1 ≤ flow) (htm : ∀ p ∈ ps, p.time ≤ 390) (w0 : World) (E : List Ent) : K.Fn Tryz.prog 43 [.slice pa ps.length pc, .int .i64 flow] w0 R E (fun v R' E' => ∃ (f : Option Addr) (fc : Nat) (F : Nat → Int) (s p : Nat) (q : Int), v = .tuple #[.agg #[.slice f (fvals F (s + p)).length fc, .int .i64 (p : Int), .int .i64 q], .int .i64 0] ∧ RS R' 1 encI f (fvals F (s + p)) ∧ FC F s p q ∧ p ≤ 1 ∧ (∀ x t : Nat, x ≤ t → pbytes flow (t : Int) ps - pbytes flow (x : Int) ps ≤ F (t - x)) ∧ E.Sublist E') := by
 have hpl := hok.len
 have hvv := (validate_ok ps).2 hok
 have hsz : ∀ p ∈ ps, 0 ≤ p.size ∧ p.size ≤ 1000000 := fun p hp => by have := hok.at hp; omega
 have heb := endN_bound (ps := ps) (B := 390) (by omega) (fun p hp => ⟨(hok.at hp).2.2.1, htm p hp⟩)
 obtain ⟨en, hen⟩ := Int.eq_ofNat_of_zero_le heb.1
 have hen1 : en ≤ 391 := by omega
 have hgt := endN_gt hok.sorted
 rw [hen] at hgt
 have hpb := fun u => pbytes_bound flow u ps hsz
 have hcl : (cumL flow ps (en + 1)).length = en + 1 := by simp [cumL]
 have hcn : ∀ u, u < en + 1 → nth (cumL flow ps (en + 1)) u = pbytes flow (u : Int) ps := fun u hu => range_map_nth _ hu
 generalize hA : cumL flow ps (en + 1) = A at hcl hcn
 refine fE 95 Tryz.func43 ?_
 refine zQ (zG ?_)
 refine zA fun b4 => ?_
 refine zR 1 rfl (zN (zU (zQ (zQ (zG (zR 1 rfl ?_))))))
 refine WG.callV en79 rfl rfl qD (CallOp.mk' rfl rfl rfl rfl) (fun _ => rfl) (fun hg => hvv ▸ Validate_V hp) ?_
 refine zR 1 rfl (zN (zU (zQ (zG (zR 2 rfl (zN (zU ?_)))))))
 refine W.condN rfl (fun hc0 => ?_) (fun hc0 => ?_)
 ·try dsimp only at hc0
  exact absurd rfl hc0
 ·try dsimp only at hc0
  refine zK (zU (zQ (zQ (zG (zR 2 rfl (zN (zU ?_)))))))
  refine W.condD rfl (fun hc1 => ?_) (fun hc1 => ?_)
  ·try dsimp only at hc1
   omega
  ·try dsimp only at hc1
   refine zK (zU (zQ (zG (zR 2 rfl ?_))))
   refine WL.call en80 rfl rfl qD (CallOp.mkT rfl rfl rfl rfl) (CSums_C (flow := flow) hp hok hen qO w0 _) ?_
   rintro _ _ E1 - ⟨aa, ac, rfl, rfl, hsub1⟩
   refine WL.subE hsub1 ?_
   rw [hA]
   refine WL.freeze (enc := encI) (xs := A) 0 rfl ?_
   intro R1 hR1 haA
   have hp := hp.mono hR1
   refine zR 1 rfl (zN (zU (zQ (zG (zR 2 rfl ?_)))))
   refine WL.ef rfl rfl qD (Ef.makeSliceD (enc := encI) 0 tab_ok rfl rfl rfl rfl rfl rfl qX qX qX qX qD rfl rfl (fun a28 => ?_))
   refine zA fun b8 => ?_
   refine zE 0 ?_
   refine zN (zU (zQ (zQ (zG (zR 3 rfl (zN (zU (zB ?_))))))))
   refine W.loopK (β := Nat × List Int) (fun (i, vs) => i ≤ ps.length ∧ vs.length = en + 1 ∧ (∀ j, j ≤ en → 0 ≤ nth vs j ∧ nth vs j ≤ 1000000 * 60) ∧ (∀ j, j < i → ∀ T t : Nat, (nth ps j).time = T → T ≤ t → t ≤ en → pbytes flow (t : Int) ps - pbytes flow (T : Int) ps ≤ nth vs (t - T))) (fun (i, vs) => [(31, true, .int .i64 (i : Int))]) [4, 7, 8, 29, 30] [_, _, _, _, _] [] _ rfl (fun (i, vs) => [(1, .sl 3 1 (some ⟨a28, 0, none⟩) A.length ((vs).map encI))]) (fun (i, vs) => ps.length - i) ((0, List.replicate A.length 0)) (⟨Nat.zero_le _, by simp [hcl], fun j hj => by (try dsimp only); rw [nth_replicate (by omega)]; omega, fun j hj => by (try dsimp only at hj); omega⟩) ⟨rfl, rfl, rfl, rfl, rfl, rfl, rfl⟩ qS ?_
   intro st hst
   obtain ⟨i, vs⟩ := st
   dsimp only [zipE, setAll, List.cons_append, List.nil_append, List.set_cons_zero, List.set_cons_succ] at hst ⊢
   obtain ⟨hi, hvl, hb, hold⟩ := hst
   refine zQ (zG (zR 1 rfl (zN (zU (zQ ?_)))))
   refine W.condD rfl (fun hc2 => ?_) (fun hc2 => ?_)
   ·try dsimp only at hc2
    have hil : i < ps.length := by omega
    refine zK (zU (zQ (zB (zQ (zG ?_)))))
    refine WG.y rfl rfl qD (Yl.indexN tab_ok rfl rfl rfl rfl rfl rfl (fun _ => rfl) qN qH) ?_
    refine yR ?_
    refine zA fun b10 => ?_
    refine zE 0 ?_
    refine zN (zU ?_)
    obtain ⟨T, hT⟩ := Int.eq_ofNat_of_zero_le (hok.at (nth_mem hil)).2.2.1
    have hTe : T ≤ en := by have := hgt _ (nth_mem hil); omega
    obtain ⟨fl, szz, hpi⟩ : ∃ fl szz, nth ps i = ⟨fl, (T : Int), szz⟩ := ⟨(nth ps i).flow, (nth ps i).size, by rw [← hT]⟩
    rw [hpi]
    refine zQ (zG (zR 1 rfl ?_))
    refine yL (Rd.add (Rd.blk 0 rfl) _) ?_
    refine zR 1 rfl (zN (zU (zB ?_)))
    refine W.loopK (β := Nat × List Int) (fun (t, vs) => T ≤ t ∧ t ≤ en + 1 ∧ vs.length = en + 1 ∧ (∀ j, j ≤ en → 0 ≤ nth vs j ∧ nth vs j ≤ 1000000 * 60) ∧ (∀ j, j < i → ∀ T t : Nat, (nth ps j).time = T → T ≤ t → t ≤ en → pbytes flow (t : Int) ps - pbytes flow (T : Int) ps ≤ nth vs (t - T)) ∧ (∀ u : Nat, T ≤ u → u < t → pbytes flow (u : Int) ps - pbytes flow (T : Int) ps ≤ nth vs (u - T))) (fun (t, vs) => [(11, true, .int .i64 (t : Int))]) [4, 7, 8, 10, 29, 30, 31] [_, _, _, _, _, _, _] [] _ rfl (fun (t, vs) => [(2, .sl 3 1 (some ⟨a28, 0, none⟩) A.length ((vs).map encI))]) (fun (t, vs) => en + 1 - t) ((T, vs)) (⟨Nat.le_refl _, by (try dsimp only); omega, hvl, hb, hold, fun u h1 h2 => by (try dsimp only at h2); omega⟩) ⟨rfl, rfl, rfl, rfl, rfl, rfl, rfl, rfl, rfl⟩ qS ?_
    intro st hst
    obtain ⟨t, vs⟩ := st
    dsimp only [zipE, setAll, List.cons_append, List.nil_append, List.set_cons_zero, List.set_cons_succ] at hst ⊢
    obtain ⟨hTt, ht, hvl, hb, hold, hnew⟩ := hst
    have hAt := hcn t
    have hAT := hcn T (by omega)
    have hbt := hpb t
    have hbT := hpb T
    have hix : ((t : Int) - (T : Int)).toNat = t - T := by omega
    refine zQ (zQ (zG (zR 4 rfl (zN (zU ?_)))))
    refine W.condD rfl (fun hc3 => ?_) (fun hc3 => ?_)
    ·try dsimp only at hc3
     have htl : t < en + 1 := by omega
     refine zK (zU (zQ (zB ?_)))
     refine W.regionH _ (ES := [.blk b10 [.int .i64 fl, .int .i64 (T : Int), .int .i64 szz], .blk b8 [.slice (some ⟨a28, 0, none⟩) A.length A.length]]) mixed ?_
     refine tL 0 (Rd.blk 1 rfl) ?_
     refine tP 1 ?_
     refine tP 2 ?_
     refine tL 3 (Rd.add (Rd.blk 0 rfl) _) ?_
     refine tS 4 ?_
     refine tL 5 (Rd.blk 1 rfl) ?_
     refine tP 6 ?_
     refine tP 7 ?_
     refine tL 8 (Rd.add (Rd.blk 0 rfl) _) ?_
     refine tS 9 ?_
     refine WA.take 10 rfl qK qK qK rfl rfl qD (Yl.index tab_ok rfl rfl rfl rfl rfl rfl (fun _ => rfl) qA qH) qS qR ?_
     refine tP 12 ?_
     refine tP 13 ?_
     refine WA.take 14 rfl qK qK qK rfl rfl qD (Yl.indexN tab_ok rfl rfl rfl rfl rfl rfl (fun _ => rfl) qN qH) qS qR ?_
     refine' WA.take 15 rfl qK qK qK rfl rfl qD (Yl.load1 tab_ok rfl rfl rfl (fun _ => rfl) ?r7 rfl ?h7) qS qR ?_
     case r7 => ((apply RS.rdD; assumption; ((try dsimp only) <;> omega)))
     case h7 => rfl
     refine tP 16 ?_
     refine tP 17 ?_
     refine tL 18 (Rd.add (Rd.blk 0 rfl) _) ?_
     refine WA.take 19 rfl qK qK qK rfl rfl qD (Yl.indexN tab_ok rfl rfl rfl rfl rfl rfl (fun _ => rfl) qN qH) qS qR ?_
     refine' WA.take 20 rfl qK qK qK rfl rfl qD (Yl.load1 tab_ok rfl rfl rfl (fun _ => rfl) ?r9 rfl ?h9) qS qR ?_
     case r9 => ((apply RS.rdD; assumption; ((try dsimp only) <;> omega)))
     case h9 => rfl
     refine tS 21 ?_
     refine' WA.yl 11 rfl qK rfl rfl qD (Yl.load1 tab_ok rfl rfl rfl (fun _ => rfl) ?r10 rfl ?h10) qS qR ?_
     case r10 => (exact Rd.slD 2 rfl qX)
     case h10 => rfl
     refine tP 22 ?_
     refine WA.take 23 rfl qK qK qK rfl rfl qD (Yl.index tab_ok rfl rfl rfl rfl rfl rfl (fun _ => rfl) qA qH) qS qR ?_
     refine WA.effN 24 rfl qK rfl rfl (Ef.storeD _ 2 tab_ok rfl rfl rfl rfl rfl qX rfl rfl rfl rfl ?_)
     refine ⟨qR, qS, ?_⟩
     refine WA.done qK ?_
     refine zL (zU (zG (zR 1 rfl ?_)))
     refine yA ?_
     refine zR 1 rfl (zN ?_)
     refine WE.again ((t + 1, vs.set (((t : Int) - (T : Int)).toNat) (if nth vs (((t : Int) - (T : Int)).toNat) < nth A t - nth A T then nth A t - nth A T else nth vs (((t : Int) - (T : Int)).toNat)))) (by
      have hAt := hcn t htl
      have hbj := hb (t - T) (by omega)
      rw [hix, hAt, hAT]
      have hr := nth_raise (vs := vs) (k := t - T) (x := if nth vs (t - T) < pbytes flow (t : Int) ps - pbytes flow (T : Int) ps then pbytes flow (t : Int) ps - pbytes flow (T : Int) ps else nth vs (t - T)) (by split <;> omega)
      refine ⟨by (try dsimp only); omega, by (try dsimp only); omega, by (try dsimp only); rw [List.length_set]; exact hvl, fun j hj => ?_, fun j hj T' u h1 h2 h3 => Int.le_trans (hold j hj T' u h1 h2 h3) (hr _), fun u h1 h2 => ?_⟩
      ·try dsimp only
       by_cases e : t - T = j
       ·rw [e, nth_set_self (by omega)]
        rw [e] at hbj
        split <;> omega
       ·rw [nth_set_ne e]; exact hb j hj
      ·try dsimp only at h2 ⊢
       by_cases e : u = t
       ·subst e
        rw [nth_set_self (by omega)]
        split <;> omega
       ·exact Int.le_trans (hnew u h1 (by omega)) (hr _)) (by (try dsimp only); omega) ⟨rfl, rfl, rfl, rfl, rfl, rfl, rfl, rfl, rfl⟩ (RLe.refl _) qS
    ·try dsimp only at hc3
     have htE : t = en + 1 := by omega
     refine zX ?_
     refine wx (wx (zY (zL (zU (zG ?_)))))
     refine yA ?_
     refine zR 1 rfl (zN ?_)
     refine WE.again ((i + 1, vs)) (⟨by (try dsimp only); omega, hvl, hb, fun j hj T' u h1 h2 h3 => by
      by_cases e : j = i
      ·subst e
       obtain rfl : T' = T := by omega
       exact hnew u h2 qO
      ·exact hold j (by (try dsimp only at hj); omega) T' u h1 h2 h3⟩) (by (try dsimp only); omega) ⟨rfl, rfl, rfl, rfl, rfl, rfl, rfl⟩ (RLe.refl _) qS
   ·try dsimp only at hc2
    refine zX ?_
    refine wx (wx (zY (zU (zQ ?_))))
    have hiE : i = ps.length := by omega
    refine zQ (zG (zR 1 rfl (zN (zU (zB ?_)))))
    refine W.loopK (β := Nat × List Int) (fun (k, vs) => 1 ≤ k ∧ k ≤ en + 1 ∧ vs.length = en + 1 ∧ (∀ j, j ≤ en → 0 ≤ nth vs j ∧ nth vs j ≤ 1000000 * 60) ∧ (∀ j, j < ps.length → ∀ T t : Nat, (nth ps j).time = T → T ≤ t → t ≤ en → pbytes flow (t : Int) ps - pbytes flow (T : Int) ps ≤ nth vs (t - T)) ∧ (∀ j, j + 1 < k → nth vs j ≤ nth vs (j + 1))) (fun (k, vs) => [(12, true, .int .i64 (k : Int))]) [4, 8] [_, _] [] _ rfl (fun (k, vs) => [(1, .sl 3 1 (some ⟨a28, 0, none⟩) A.length ((vs).map encI))]) (fun (k, vs) => en + 1 - k) ((1, vs)) (⟨Nat.le_refl _, by (try dsimp only); omega, hvl, hb, by rw [hiE] at hold; exact hold, fun j hj => by (try dsimp only at hj); omega⟩) ⟨rfl, rfl, rfl, rfl⟩ qS ?_
    intro st hst
    obtain ⟨k, vs⟩ := st
    dsimp only [zipE, setAll, List.cons_append, List.nil_append, List.set_cons_zero, List.set_cons_succ] at hst ⊢
    obtain ⟨hk1, hk2, hvl, hb, hold, hup0⟩ := hst
    have hix : ((k : Int) - 1).toNat = k - 1 := by omega
    refine zQ (zQ (zG (zR 1 rfl ?_)))
    refine yL (Rd.blk 0 rfl) ?_
    refine zR 2 rfl (zN (zU ?_))
    refine W.condD rfl (fun hc4 => ?_) (fun hc4 => ?_)
    ·try dsimp only at hc4
     have hkl : k < en + 1 := by omega
     refine zK (zU (zQ (zB ?_)))
     refine W.regionH _ (ES := [.blk b8 [.slice (some ⟨a28, 0, none⟩) A.length A.length]]) mixed ?_
     refine tL 0 (Rd.blk 0 rfl) ?_
     refine tP 1 ?_
     refine tL 2 (Rd.blk 0 rfl) ?_
     refine tP 3 ?_
     refine WA.take 4 rfl qK qK qK rfl rfl qD (Yl.indexN tab_ok rfl rfl rfl rfl rfl rfl (fun _ => rfl) qN qH) qS qR ?_
     refine tL 6 (Rd.blk 0 rfl) ?_
     refine tP 7 ?_
     refine tS 8 ?_
     refine WA.take 9 rfl qK qK qK rfl rfl qD (Yl.index tab_ok rfl rfl rfl rfl rfl rfl (fun _ => rfl) qA qH) qS qR ?_
     refine WA.br2 (i := 5) (j := 10) qK ?_ ?_
     ·
      refine' WS.yl rfl rfl rfl qD (Yl.load1 tab_ok rfl rfl rfl (fun _ => rfl) ?r15 rfl ?h15) qS qR ?_
      case r15 => (exact Rd.slD 1 rfl qX)
      case h15 => rfl
      refine' WA.yl 10 rfl qK rfl rfl qD (Yl.load1 tab_ok rfl rfl rfl (fun _ => rfl) ?r16 rfl ?h16) qS qR ?_
      case r16 => (exact Rd.slD 1 rfl qX)
      case h16 => rfl
      refine tP 11 ?_
      refine WA.take 12 rfl qK qK qK rfl rfl qD (Yl.indexN tab_ok rfl rfl rfl rfl rfl rfl (fun _ => rfl) qN qH) qS qR ?_
      refine WA.effN 13 rfl qK rfl rfl (Ef.storeD _ 1 tab_ok rfl rfl rfl rfl rfl qX rfl rfl rfl rfl ?_)
      refine ⟨qR, qS, ?_⟩
      refine WA.done qK ?_
      refine zL (zU (zG (zR 1 rfl ?_)))
      refine yA ?_
      refine zR 1 rfl (zN ?_)
      refine WE.again ((k + 1, vs.set k (if nth vs k < nth vs (((k : Int) - 1).toNat) then nth vs (((k : Int) - 1).toNat) else nth vs k))) (by
       have hbk := hb k (by omega)
       have hbk1 := hb (k - 1) (by omega)
       rw [hix]
       have hr := nth_raise (vs := vs) (k := k) (x := if nth vs k < nth vs (k - 1) then nth vs (k - 1) else nth vs k) (by split <;> omega)
       refine ⟨by (try dsimp only); omega, by (try dsimp only); omega, by (try dsimp only); rw [List.length_set]; exact hvl, fun j hj => ?_, fun j hj T' u h1 h2 h3 => Int.le_trans (hold j hj T' u h1 h2 h3) (hr _), fun j hj => ?_⟩
       ·try dsimp only
        by_cases e : k = j
        ·subst e
         rw [nth_set_self (by omega)]
         split <;> omega
        ·rw [nth_set_ne e]; exact hb j hj
       ·try dsimp only at hj ⊢
        by_cases e : j + 1 = k
        ·obtain rfl : j = k - 1 := by omega
         rw [nth_set_ne (show k ≠ k - 1 by omega), show k - 1 + 1 = k by omega, nth_set_self (by omega)]
         split <;> omega
        ·rw [nth_set_ne (show k ≠ j by omega), nth_set_ne (show k ≠ j + 1 by omega)]
         exact hup0 j qO) (by (try dsimp only); omega) ⟨rfl, rfl, rfl, rfl⟩ (RLe.refl _) qS
     ·
      refine' WS.yl rfl rfl rfl qD (Yl.load1 tab_ok rfl rfl rfl (fun _ => rfl) ?r17 rfl ?h17) qS qR ?_
      case r17 => (exact Rd.slD 1 rfl qX)
      case h17 => rfl
      refine' WA.yl 5 rfl qK rfl rfl qD (Yl.load1 tab_ok rfl rfl rfl (fun _ => rfl) ?r18 rfl ?h18) qS qR ?_
      case r18 => (exact Rd.slD 1 rfl qX)
      case h18 => rfl
      refine tP 11 ?_
      refine WA.take 12 rfl qK qK qK rfl rfl qD (Yl.indexN tab_ok rfl rfl rfl rfl rfl rfl (fun _ => rfl) qN qH) qS qR ?_
      refine WA.effN 13 rfl qK rfl rfl (Ef.storeD _ 1 tab_ok rfl rfl rfl rfl rfl qX rfl rfl rfl rfl ?_)
      refine ⟨qR, qS, ?_⟩
      refine WA.done qK ?_
      refine zL (zU (zG (zR 1 rfl ?_)))
      refine yA ?_
      refine zR 1 rfl (zN ?_)
      refine WE.again ((k + 1, vs.set k (if nth vs k < nth vs (((k : Int) - 1).toNat) then nth vs (((k : Int) - 1).toNat) else nth vs k))) (by
       have hbk := hb k (by omega)
       have hbk1 := hb (k - 1) (by omega)
       rw [hix]
       have hr := nth_raise (vs := vs) (k := k) (x := if nth vs k < nth vs (k - 1) then nth vs (k - 1) else nth vs k) (by split <;> omega)
       refine ⟨by (try dsimp only); omega, by (try dsimp only); omega, by (try dsimp only); rw [List.length_set]; exact hvl, fun j hj => ?_, fun j hj T' u h1 h2 h3 => Int.le_trans (hold j hj T' u h1 h2 h3) (hr _), fun j hj => ?_⟩
       ·try dsimp only
        by_cases e : k = j
        ·subst e
         rw [nth_set_self (by omega)]
         split <;> omega
        ·rw [nth_set_ne e]; exact hb j hj
       ·try dsimp only at hj ⊢
        by_cases e : j + 1 = k
        ·obtain rfl : j = k - 1 := by omega
         rw [nth_set_ne (show k ≠ k - 1 by omega), show k - 1 + 1 = k by omega, nth_set_self (by omega)]
         split <;> omega
        ·rw [nth_set_ne (show k ≠ j by omega), nth_set_ne (show k ≠ j + 1 by omega)]
         exact hup0 j qO) (by (try dsimp only); omega) ⟨rfl, rfl, rfl, rfl⟩ (RLe.refl _) qS
    ·try dsimp only at hc4
     have hkE : k = en + 1 := by omega
     refine zX ?_
     refine wx (wx (zY (zU ?_)))
     have hup : ∀ j, j < en → nth vs j ≤ nth vs (j + 1) := fun j hj => hup0 j (by omega)
     refine W.freeze (enc := encI) (xs := vs) 1 rfl ?_
     intro R2 hR2 hvf
     refine W.freezeBlk 0 rfl ?_
     intro R3 hR3 hb8
     have hvf := hvf.mono hR3
     have hF : ∀ t : Nat, t < en + 1 → FnV Tryz.prog 81 ((#[] : Array Value).toList ++ [.int .i64 (t : Int)] ++ (#[.pointer (some ⟨b8, 0, none⟩)] : Array Value).toList) R3 (.int .i64 (nth vs (min t en))) := fun t ht => LeastF_V hvf hvl (by omega) (by rw [hvl, ← hcl]; exact hb8) (by omega)
     refine zQ (zG (zR 2 rfl (zN (zU (zQ (zG (zR 1 rfl ?_)))))))
     refine' WG.y rfl rfl qD (Yl.load1 tab_ok rfl rfl rfl (fun _ => rfl) ?r19 rfl ?h19) ?_
     case r19 => (exact Rd.ro qU)
     case h19 => rfl
     refine zR 1 rfl ?_
     refine yS ?_
     (try simp only [Int.toNat_natCast])
     rw [show ((A.length : Int) - 1) = (en : Int) by omega]
     refine WL.call en82 rfl rfl qD (CallOp.mkT rfl rfl rfl rfl) (Build_C (S := en) (P := 1) (I := 0) (F := fun t => nth vs (min t en)) en81 qO qO qO (fun t ht => .inr (by have := hb (min t en) qO; (try dsimp only); omega)) hF w0 _) ?_
     rintro _ R4 E4 hR4 ⟨f, fc, rfl, hff, hsub4⟩
     refine WL.subE hsub4 ?_
     obtain ⟨s, p, q, hmb, hfc, _, hp1⟩ := build_ok (F := fun t => nth vs (min t en)) (S := en) (P := 1) (I := 0) (by omega) (by omega) (by omega) (fun t ht => by (try dsimp only); rw [Nat.min_eq_right (show en ≤ t + 1 by omega), Nat.min_eq_right (show en ≤ t by omega)]; omega) (fun t => nth_up hup (by omega) (by omega)) (hb _ (by omega)).1 (fun t ht => by have := (hb (min t en) (by omega)).2; (try dsimp only); omega)
     rw [hmb] at hff ⊢
     unfold cvV
     refine zR 2 rfl ?_
     refine zE 0 ?_
     refine zR 1 rfl (zN (zU (zT ?_)))
     refine WE.retF tab_ok [_, _] rfl ⟨⟨_, _, _, rfl, rfl, rfl, qB, rfl⟩, rfl, trivial⟩ (hR1.trans (hR2.trans (hR3.trans hR4))) ?_
     exact ⟨f, fc, _, s, p, q, rfl, hff, hfc, hp1, fun x t hxt => keeps hok.sorted (fun p hp => ⟨(hok.at hp).2.2.1, hgt p hp⟩) (fun j hj => (hb j hj).1) hup hold hxt, qS⟩



/-- a curve that a flow keeps -/
structure KeepC (ps : List Pkt) (k : Nat) (c : Cv) : Prop where
 fc : ∃ (F : Nat → Int) (s p : Nat) (q : Int), c = ⟨fvals F (s + p), p, q⟩ ∧ FC F s p q ∧ p ≤ 1 ∧ ∀ x t : Nat, x ≤ t → pbytes k (t : Int) ps - pbytes k (x : Int) ps ≤ F (t - x)
theorem fin_of {F : Nat → Int} {s p : Nat} {q : Int} (h : FC F s p q) : finB ⟨fvals F (s + p), p, q⟩ = true := by
 have hP := h.hP
 unfold finB
 dsimp only
 rw [fvals_len, fvals_nth F (by omega), bne_iff_ne]
 exact h.fin qO
theorem KeepC.facts {ps : List Pkt} {k : Nat} {c : Cv} (h : KeepC ps k c) : validB c = true ∧ finB c = true ∧ c.vals.length ≤ 100000 ∧ c.per ≤ 1 ∧ ∀ x t : Nat, x ≤ t → pbytes k (t : Int) ps - pbytes k (x : Int) ps ≤ cvF c (t - x) := by
 obtain ⟨F, s, p, q, rfl, h1, hp1, h2⟩ := h.fc
 have hn := h1.hn
 exact ⟨h1.valid', fin_of h1, by (show (fvals F (s + p)).length ≤ 100000); rw [fvals_len]; omega, by (show (p : Int) ≤ 1); omega, fun x t hx => by rw [cvF_fc h1]; exact h2 x t hx⟩

theorem Contr22_C {R : Ro} {pa : Option Addr} {pc : Nat} {ps : List Pkt} (hp : RS R 3 encP pa ps) (hok : Ok ps) (htm : ∀ p ∈ ps, p.time ≤ 390) {n : Nat} (hn : n ≤ 10) (w0 : World) (E : List Ent) : K.Fn Tryz.prog 11 [.slice pa ps.length pc, .int .i64 (n : Int)] w0 R E (fun v R' E' => ∃ (a : Option Addr) (c : Nat) (ls : List CvS), v = .slice a ls.length c ∧ RS R' 3 encC a ls ∧ ls.length = n ∧ ls.length ≤ c ∧ (∀ j, j < n → RS R' 1 encI (nth ls j).a (nth ls j).cv.vals ∧ KeepC ps j (nth ls j).cv) ∧ E.Sublist E') := by
 refine fE 25 Tryz.func11 ?_
 refine zQ (zG (zR 1 rfl (zN (zU (zQ (zG (zR 1 rfl (zN (zU (zQ ?_))))))))))
 refine W.nil 42 3 qD ?_
 refine zQ (zG (zR 1 rfl (zN (zU (zB ?_)))))
 refine W.loopR (β := Nat × List CvS × Option Addr × Nat × Ro) (fun (i, ls, a9, c9, Rk) => i ≤ n ∧ RLe R Rk ∧ ls.length = i ∧ ∀ j, j < i → RS Rk 1 encI (nth ls j).a (nth ls j).cv.vals ∧ KeepC ps j (nth ls j).cv) (fun (i, ls, a9, c9, Rk) => [(5, true, .slice a9 ls.length c9), (6, true, .int .i64 (i : Int))]) [0, 1] [_, _] [] _ rfl (fun (i, ls, a9, c9, Rk) => [(0, .sl 42 3 a9 c9 (ls.map encC))]) (fun (i, ls, a9, c9, Rk) => Rk) (fun (i, ls, a9, c9, Rk) => n - i) ((0, [], none, 0, R)) (⟨Nat.zero_le _, RLe.refl _, rfl, fun j hj => by omega⟩) ⟨rfl, rfl, rfl, rfl, rfl⟩ (RLe.refl _) qS ?_
 intro zz hst
 obtain ⟨i, ls, a9, c9, Rk⟩ := zz
 dsimp only [zipE, setAll, List.cons_append, List.nil_append, List.set_cons_zero, List.set_cons_succ] at hst ⊢
 obtain ⟨hi, hRk, hll, hall⟩ := hst
 have hp := hp.mono hRk
 refine zQ (zQ (zG (zR 3 rfl (zN (zU ?_)))))
 refine W.condD rfl (fun hc0 => ?_) (fun hc0 => ?_)
 ·try dsimp only at hc0
  have hin : i < n := by omega
  refine zK (zU (zQ (zB (zQ (zG (zR 2 rfl ?_))))))
  refine WL.call en43 rfl rfl qD (CallOp.mkT rfl rfl rfl rfl) (Least1_C (flow := (i : Int)) hp hok qO htm w0 _) ?_
  rintro _ RL _ hRL ⟨fa, fac, F, fs, fp, fq, rfl, hfa, hfcF, hp1, hkeep, hsubL⟩
  refine WL.subE hsubL ?_
  refine zR 3 rfl ?_
  refine zA fun b7 => ?_
  refine zE 0 ?_
  refine zR 1 rfl (zN (zU (zG (zR 1 rfl ?_))))
  refine yL (Rd.blk 0 rfl) ?_
  refine WL.ef rfl rfl qD (Ef.buildSliceD (enc := encC) (parts := [.tmp 21]) [(⟨fa, fac, ⟨fvals F (fs + fp), fp, fq⟩⟩ : CvS)] tab_ok rfl rfl rfl rfl rfl rfl rfl rfl qD qD (fun a22 => ?_))
  refine WL.ef rfl rfl (by decide) (Ef.appendD 2 0 tab_ok rfl rfl rfl rfl rfl rfl rfl rfl rfl rfl rfl (fun _ _ => rfl) (by simp only [List.length_cons, List.length_nil]; omega) (by simp only [List.length_cons, List.length_nil]; omega) (fun a23 c23 ha23 => ?_))
  refine zR 1 rfl (zN (zL (zU (zG (zR 1 rfl ?_)))))
  refine yA ?_
  refine zR 1 rfl (zN ?_)
  refine WE.again ((i + 1, ls ++ [(⟨fa, fac, ⟨fvals F (fs + fp), fp, fq⟩⟩ : CvS)], a23, c23, RL)) (⟨by dsimp only; omega, hRk.trans hRL, by simp [hll], fun j hj => by
   by_cases e : j = i
   ·subst e
    rw [show nth (ls ++ [(⟨fa, fac, ⟨fvals F (fs + fp), fp, fq⟩⟩ : CvS)]) j = ⟨fa, fac, ⟨fvals F (fs + fp), fp, fq⟩⟩ by unfold nth List.getD; rw [List.getElem?_append_right (by omega), hll]; simp]
    exact ⟨hfa, ⟨F, fs, fp, fq, rfl, hfcF, hp1, hkeep⟩⟩
   ·rw [show nth (ls ++ [(⟨fa, fac, ⟨fvals F (fs + fp), fp, fq⟩⟩ : CvS)]) j = nth ls j by unfold nth List.getD; rw [List.getElem?_append_left (by dsimp only at hj; omega)]]
    obtain ⟨h1, h2⟩ := hall j (by dsimp only at hj; omega)
    exact ⟨h1.mono hRL, h2⟩⟩) (by (try dsimp only); omega) ⟨by rw [List.length_append]; rfl, rfl, rfl, rfl, rfl⟩ (RLe.refl _) qS
 ·try dsimp only at hc0
  obtain rfl : i = n := by omega
  refine W.cap 0 rfl ?_
  intro hcp
  rw [List.length_map] at hcp
  refine W.freeze (enc := encC) (xs := ls) 0 rfl ?_
  intro R1 hR1 hls
  refine zX ?_
  refine wx (wx (zY (zU (zQ (zG (zR 2 rfl (zN (zU (zT ?_)))))))))
  refine WE.retF tab_ok [_] rfl ⟨rfl, trivial⟩ (hRk.trans hR1) ?_
  exact ⟨_, _, ls, rfl, hls, hll, hcp, fun j hj => ⟨(hall j hj).1.mono hR1, (hall j hj).2⟩, qS⟩



set_option maxHeartbeats 1000000 in
theorem DrawC_C {R : Ro} {b : Nat} {a : Option Addr} {cp : Nat} {xs : List Int} {c : Nat} (w0 : World) (ha : RS R 1 encI a xs) : FnAt Tryz.prog 9 [.pointer (some ⟨b, 0, none⟩)] w0 R (srcE b a cp xs c)
  (fun v R' e' N => ∃ (L : Ln) (aw at_ : Option Addr) (cw ct cn : Nat), v = .agg #[.int .i64 L.kind, .int .i64 L.cap, .int .i64 L.n, .slice aw L.w.length cw, .slice at_ L.tb.length ct] ∧ RS R' 1 encI aw L.w ∧ RS R' 1 encI at_ L.tb ∧ DrawOk L ∧ L.tb.length ≤ ct ∧ e' = srcE b a cp xs cn ∧ N = []) := by
 intro F
 refine fE 59 Tryz.func9 ?_
 refine zQ (zG ?_)
 refine zA fun b2 => ?_
 refine zN (zU (zQ (zG (zR 1 rfl ?_))))
 refine WL.callAt 1 en23 rfl rfl qD (CallOp.mkT rfl rfl rfl rfl) rfl (N_C w0 ha (by constructor <;> decide) _) ?_
 rintro _ _ _ _ - ⟨rfl, rfl, rfl, rfl⟩
 have hm0 := mod_range (nth xs (c)) (show (1 : Int) ≤ 5 by decide)
 refine yA ?_
 refine zR 1 rfl ?_
 refine WL.callAt 1 en23 rfl rfl qD (CallOp.mkT rfl rfl rfl rfl) rfl (N_C w0 ha (by constructor <;> decide) _) ?_
 rintro _ _ _ _ - ⟨rfl, rfl, rfl, rfl⟩
 have hm1 := mod_range (nth xs (c + 1)) (show (1 : Int) ≤ 40 by decide)
 refine yA ?_
 -- build
 refine WG.y rfl rfl qD (Yl.build (parts := [(0, .tmp 7), (1, .tmp 10), (2, .const (.int .i64 3))]) tab_ok rfl rfl rfl rfl (fun _ => rfl) rfl rfl) ?_
 refine zA fun b3 => ?_
 refine zE 0 ?_
 refine zN (zU (zQ (zQ (zG (zR 1 rfl ?_)))))
 refine yL (Rd.add (Rd.blk 0 rfl) _) ?_
 refine zN (zU (zB (zQ (zG (zR 2 rfl (zN (zU ?_)))))))
 refine W.condE rfl (fun hc0 => ?_) (fun hc0 => ?_)
 ·try dsimp only at hc0
  refine zG (zR 1 rfl ?_)
  refine WL.callAt 2 en23 rfl rfl qD (CallOp.mkT rfl rfl rfl rfl) rfl (N_C w0 ha (by constructor <;> decide) _) ?_
  rintro _ _ _ _ - ⟨rfl, rfl, rfl, rfl⟩
  have hm2 := mod_range (nth xs (c + 1 + 1)) (show (1 : Int) ≤ 3 by decide)
  refine yA ?_
  refine zR 1 rfl ?_
  refine WL.callAt 2 en23 rfl rfl qD (CallOp.mkT rfl rfl rfl rfl) rfl (N_C w0 ha (by constructor <;> decide) _) ?_
  rintro _ _ _ _ - ⟨rfl, rfl, rfl, rfl⟩
  have hm3 := mod_range (nth xs (c + 1 + 1 + 1)) (show (1 : Int) ≤ 3 by decide)
  refine yA ?_
  refine zR 1 rfl ?_
  refine WL.callAt 2 en23 rfl rfl qD (CallOp.mkT rfl rfl rfl rfl) rfl (N_C w0 ha (by constructor <;> decide) _) ?_
  rintro _ _ _ _ - ⟨rfl, rfl, rfl, rfl⟩
  have hm4 := mod_range (nth xs (c + 1 + 1 + 1 + 1)) (show (1 : Int) ≤ 3 by decide)
  refine yA ?_
  refine WL.ef rfl rfl qD (Ef.buildSliceD (enc := encI) (parts := [.tmp 18, .tmp 21, .tmp 24]) [_, _, _] tab_ok rfl rfl rfl rfl rfl rfl rfl rfl qD qD (fun a25 => ?_))
  refine zR 1 rfl ?_
  refine zF 1 ?_
  refine WL.freeze (enc := encI) (xs := ([1 + mod (nth xs (c + 1 + 1)) 3, 1 + mod (nth xs (c + 1 + 1 + 1)) 3, 1 + mod (nth xs (c + 1 + 1 + 1 + 1)) 3] : List Int)) 0 rfl ?_
  intro R1 hR1 hwz
  refine zN (zL (zU (zQ (zG ?_))))
  refine yL (Rd.blk 0 rfl) ?_
  refine zE 1 ?_
  refine zN (zU (zT ?_))
  refine WE.retFS (E' := srcE b a cp xs (c + 1 + 1 + 1 + 1 + 1) :: F) qS tab_ok [_] rfl ⟨⟨_, _, _, rfl, rfl, rfl, qB, rfl⟩, trivial⟩ (by first | exact hR1 | exact RLe.refl _) ?_
  exact ⟨_, [], rfl, ⟨(1 + mod (nth xs c) 5), (3 + mod (nth xs (c + 1)) 40), 3, ([1 + mod (nth xs (c + 1 + 1)) 3, 1 + mod (nth xs (c + 1 + 1 + 1)) 3, 1 + mod (nth xs (c + 1 + 1 + 1 + 1)) 3] : List Int), []⟩, _, none, _, 0, _, rfl, hwz, rs_nil, ⟨by dsimp only; omega, rfl, by dsimp only; omega, fun h => by dsimp only at h; omega, fun _ => ⟨rfl, fun x hx => by simp only [List.mem_cons, List.not_mem_nil, or_false] at hx; rcases hx with rfl | rfl | rfl <;> omega, rfl⟩, fun h => by dsimp only at h; omega, fun h => by dsimp only at h; omega⟩, Nat.le_refl 0, rfl, rfl⟩
 ·try dsimp only at hc0
  refine zQ (zG (zR 2 rfl (zN (zU ?_))))
  refine W.condE rfl (fun hc1 => ?_) (fun hc1 => ?_)
  ·try dsimp only at hc1
   refine zG (zR 1 rfl ?_)
   refine WL.callAt 2 en23 rfl rfl qD (CallOp.mkT rfl rfl rfl rfl) rfl (N_C w0 ha (by constructor <;> decide) _) ?_
   rintro _ _ _ _ - ⟨rfl, rfl, rfl, rfl⟩
   have hm2 := mod_range (nth xs (c + 1 + 1)) (show (1 : Int) ≤ 50 by decide)
   refine yA ?_
   refine zR 1 rfl ?_
   refine WL.callAt 2 en23 rfl rfl qD (CallOp.mkT rfl rfl rfl rfl) rfl (N_C w0 ha (by constructor <;> decide) _) ?_
   rintro _ _ _ _ - ⟨rfl, rfl, rfl, rfl⟩
   have hm3 := mod_range (nth xs (c + 1 + 1 + 1)) (show (1 : Int) ≤ 50 by decide)
   refine yA ?_
   refine zR 1 rfl ?_
   refine WL.callAt 2 en23 rfl rfl qD (CallOp.mkT rfl rfl rfl rfl) rfl (N_C w0 ha (by constructor <;> decide) _) ?_
   rintro _ _ _ _ - ⟨rfl, rfl, rfl, rfl⟩
   have hm4 := mod_range (nth xs (c + 1 + 1 + 1 + 1)) (show (1 : Int) ≤ 50 by decide)
   refine yA ?_
   refine WL.ef rfl rfl qD (Ef.buildSliceD (enc := encI) (parts := [.tmp 31, .tmp 34, .tmp 37]) [_, _, _] tab_ok rfl rfl rfl rfl rfl rfl rfl rfl qD qD (fun a38 => ?_))
   refine zR 1 rfl ?_
   refine zF 1 ?_
   refine WL.freeze (enc := encI) (xs := ([1 + mod (nth xs (c + 1 + 1)) 50, 1 + mod (nth xs (c + 1 + 1 + 1)) 50, 1 + mod (nth xs (c + 1 + 1 + 1 + 1)) 50] : List Int)) 0 rfl ?_
   intro R1 hR1 hwz
   refine zN (zL (zU (zQ (zG ?_))))
   refine yL (Rd.blk 0 rfl) ?_
   refine zE 1 ?_
   refine zN (zU (zT ?_))
   refine WE.retFS (E' := srcE b a cp xs (c + 1 + 1 + 1 + 1 + 1) :: F) qS tab_ok [_] rfl ⟨⟨_, _, _, rfl, rfl, rfl, qB, rfl⟩, trivial⟩ (by first | exact hR1 | exact RLe.refl _) ?_
   exact ⟨_, [], rfl, ⟨(1 + mod (nth xs c) 5), (3 + mod (nth xs (c + 1)) 40), 3, ([1 + mod (nth xs (c + 1 + 1)) 50, 1 + mod (nth xs (c + 1 + 1 + 1)) 50, 1 + mod (nth xs (c + 1 + 1 + 1 + 1)) 50] : List Int), []⟩, _, none, _, 0, _, rfl, hwz, rs_nil, ⟨by dsimp only; omega, rfl, by dsimp only; omega, fun h => by dsimp only at h; omega, fun h => by dsimp only at h; omega, fun _ => ⟨rfl, fun x hx => by simp only [List.mem_cons, List.not_mem_nil, or_false] at hx; rcases hx with rfl | rfl | rfl <;> omega, rfl⟩, fun h => by dsimp only at h; omega⟩, Nat.le_refl 0, rfl, rfl⟩
  ·try dsimp only at hc1
   refine zQ (zG (zR 2 rfl (zN (zU ?_))))
   refine W.condE rfl (fun hc2 => ?_) (fun hc2 => ?_)
   ·try dsimp only at hc2
    refine zQ (zG ?_)
    refine WL.ef rfl rfl qD (Ef.buildSliceD (enc := encI) (parts := [.const (.int .i64 0), .const (.int .i64 1), .const (.int .i64 2)]) [_, _, _] tab_ok rfl rfl rfl rfl rfl rfl rfl rfl qD qD (fun a42 => ?_))
    refine zR 1 rfl ?_
    refine zF 1 ?_
    refine zN (zU (zQ (zG (zR 1 rfl ?_))))
    refine WL.callAt 3 en23 rfl rfl qD (CallOp.mkT rfl rfl rfl rfl) rfl (N_C w0 ha (by constructor <;> decide) _) ?_
    rintro _ _ _ _ - ⟨rfl, rfl, rfl, rfl⟩
    have hm8 := mod_range (nth xs (c + 1 + 1)) (show (1 : Int) ≤ 4 by decide)
    obtain ⟨k8, hk8⟩ := Int.eq_ofNat_of_zero_le hm8.1
    rw [hk8]
    refine zR 1 rfl (zN (zU (zB ?_)))
    refine W.loopK (β := Nat × List Int × Nat × Option Addr × Nat) (fun (k, ys, cn, a9, c9) => 3 ≤ ys.length ∧ ys.length + k ≤ 6 ∧ ∀ y ∈ ys, -1 ≤ y ∧ y ≤ 2) (fun (k, ys, cn, a9, c9) => [(4, true, .int .i64 (k : Int))]) [0, 2, 3] [_, _, _] [] _ rfl (fun (k, ys, cn, a9, c9) => [(0, .sl 3 1 a9 c9 (ys.map encI)), (1, .blk b3 [.int .i64 (1 + mod (nth xs c) 5), .int .i64 (3 + mod (nth xs (c + 1)) 40), .int .i64 3, .slice none 0 0, .slice a9 ys.length c9]), (3, srcE b a cp xs cn)]) (fun (k, ys, cn, a9, c9) => k) ((k8, [0, 1, 2], c + 1 + 1 + 1, some ⟨a42, 0, none⟩, 3)) (⟨by decide, by dsimp only [List.length_cons, List.length_nil]; omega, by decide⟩) ⟨rfl, rfl, rfl, rfl, rfl⟩ qS ?_
    intro zz hst
    obtain ⟨k, ys, cn, a9, c9⟩ := zz
    dsimp only [zipE, setAll, List.cons_append, List.nil_append, List.set_cons_zero, List.set_cons_succ] at hst ⊢
    obtain ⟨hy1, hy2, hy3⟩ := hst
    refine zQ (zQ (zG (zR 2 rfl (zN (zU ?_)))))
    refine W.condD rfl (fun hc3 => ?_) (fun hc3 => ?_)
    ·try dsimp only at hc3
     obtain ⟨k, rfl⟩ : ∃ j, k = j + 1 := ⟨k - 1, by omega⟩
     refine zK (zU (zQ (zB ?_)))
     refine W.regionH _ (ES := (.blk b2 [.int .i64 0, .int .i64 0, .int .i64 0, .slice none 0 0, .slice none 0 0] :: F)) mixed ?_
     refine tP 0 ?_
     refine tP 2 ?_
     refine WA.br2 (i := 1) (j := 3) qK ?_ ?_
     ·
      refine sL (Rd.add (Rd.blk 1 rfl) _) ?_
      refine WA.callAt 3 3 rfl qK en23 rfl rfl qD (CallOp.mkT rfl rfl rfl rfl) rfl (N_C w0 ha (by constructor <;> decide) _) ?_
      rintro _ _ _ _ - ⟨rfl, rfl, rfl, rfl⟩
      refine ⟨RLe.refl _, qS, ?_⟩
      have hm9 := mod_range (nth xs cn) (show (1 : Int) ≤ 4 by decide)
      refine tS 4 ?_
      refine WA.eff 5 rfl qK rfl rfl qD (Ef.buildSliceD (enc := encI) (parts := [.tmp 54]) [_] tab_ok rfl rfl rfl rfl rfl rfl rfl rfl qD qD (fun a55 => ?_))
      refine ⟨qR, qS, ?_⟩
      refine WA.eff 6 rfl (by kernel_rfl) rfl rfl (by decide) (Ef.appendD 1 0 tab_ok rfl rfl rfl rfl rfl rfl rfl rfl rfl rfl rfl (fun _ _ => rfl) (by simp only [List.length_cons, List.length_nil]; omega) (by simp only [List.length_cons, List.length_nil]; omega) (fun a56 c56 ha56 => ?_))
      refine ⟨qR, qS, ?_⟩
      refine tP 7 ?_
      refine zCF 8 2 ?_
      refine WA.done qK ?_
      refine zL (zU (zG (zR 1 rfl ?_)))
      refine yS ?_
      refine zR 1 rfl (zN ?_)
      refine WE.again ((k, ys ++ [mod (nth xs cn) 4 - 1], cn + 1, a56, c56)) (⟨by simp only [List.length_append, List.length_cons, List.length_nil]; omega, by simp only [List.length_append, List.length_cons, List.length_nil]; omega, fun y hy => by rcases List.mem_append.1 hy with h | h; exact hy3 y h; have := List.mem_singleton.1 h; omega⟩) (by (try dsimp only); omega) ⟨vint (by omega), rfl, rfl, rfl, rfl⟩ (RLe.refl _) qS
     ·
      refine WS.callAt 3 rfl en23 rfl rfl qD (CallOp.mkT rfl rfl rfl rfl) rfl (N_C w0 ha (by constructor <;> decide) _) ?_
      rintro _ _ _ _ - ⟨rfl, rfl, rfl, rfl⟩
      refine ⟨RLe.refl _, qS, ?_⟩
      have hm9 := mod_range (nth xs cn) (show (1 : Int) ≤ 4 by decide)
      refine tS 4 ?_
      refine WA.br2 (i := 1) (j := 5) qK ?_ ?_
      ·
       refine sL (Rd.add (Rd.blk 1 rfl) _) ?_
       refine WA.eff 5 rfl qK rfl rfl qD (Ef.buildSliceD (enc := encI) (parts := [.tmp 54]) [_] tab_ok rfl rfl rfl rfl rfl rfl rfl rfl qD qD (fun a55 => ?_))
       refine ⟨qR, qS, ?_⟩
       refine WA.eff 6 rfl (by kernel_rfl) rfl rfl (by decide) (Ef.appendD 1 0 tab_ok rfl rfl rfl rfl rfl rfl rfl rfl rfl rfl rfl (fun _ _ => rfl) (by simp only [List.length_cons, List.length_nil]; omega) (by simp only [List.length_cons, List.length_nil]; omega) (fun a56 c56 ha56 => ?_))
       refine ⟨qR, qS, ?_⟩
       refine tP 7 ?_
       refine zCF 8 2 ?_
       refine WA.done qK ?_
       refine zL (zU (zG (zR 1 rfl ?_)))
       refine yS ?_
       refine zR 1 rfl (zN ?_)
       refine WE.again ((k, ys ++ [mod (nth xs cn) 4 - 1], cn + 1, a56, c56)) (⟨by simp only [List.length_append, List.length_cons, List.length_nil]; omega, by simp only [List.length_append, List.length_cons, List.length_nil]; omega, fun y hy => by rcases List.mem_append.1 hy with h | h; exact hy3 y h; have := List.mem_singleton.1 h; omega⟩) (by (try dsimp only); omega) ⟨vint (by omega), rfl, rfl, rfl, rfl⟩ (RLe.refl _) qS
      ·
       refine WS.eff rfl rfl rfl qD (Ef.buildSliceD (enc := encI) (parts := [.tmp 54]) [_] tab_ok rfl rfl rfl rfl rfl rfl rfl rfl qD qD (fun a55 => ?_))
       refine ⟨qR, qS, ?_⟩
       refine lL 1 (Rd.add (Rd.blk 2 rfl) _) ?_
       refine WA.eff 6 rfl (by kernel_rfl) rfl rfl (by decide) (Ef.appendD 1 0 tab_ok rfl rfl rfl rfl rfl rfl rfl rfl rfl rfl rfl (fun _ _ => rfl) (by simp only [List.length_cons, List.length_nil]; omega) (by simp only [List.length_cons, List.length_nil]; omega) (fun a56 c56 ha56 => ?_))
       refine ⟨qR, qS, ?_⟩
       refine tP 7 ?_
       refine zCF 8 2 ?_
       refine WA.done qK ?_
       refine zL (zU (zG (zR 1 rfl ?_)))
       refine yS ?_
       refine zR 1 rfl (zN ?_)
       refine WE.again ((k, ys ++ [mod (nth xs cn) 4 - 1], cn + 1, a56, c56)) (⟨by simp only [List.length_append, List.length_cons, List.length_nil]; omega, by simp only [List.length_append, List.length_cons, List.length_nil]; omega, fun y hy => by rcases List.mem_append.1 hy with h | h; exact hy3 y h; have := List.mem_singleton.1 h; omega⟩) (by (try dsimp only); omega) ⟨vint (by omega), rfl, rfl, rfl, rfl⟩ (RLe.refl _) qS
    ·try dsimp only at hc3
     refine W.cap 0 rfl ?_
     intro hcpT
     rw [List.length_map] at hcpT
     refine W.freeze (enc := encI) (xs := ys) 0 rfl ?_
     intro R1 hR1 hwz
     refine zX ?_
     refine wx (wx (zY (zL (zU (zQ (zG ?_))))))
     refine yL (Rd.blk 0 rfl) ?_
     refine zE 1 ?_
     refine zN (zU (zT ?_))
     refine WE.retFS (E' := srcE b a cp xs (cn) :: F) qS tab_ok [_] rfl ⟨⟨_, _, _, rfl, rfl, rfl, qB, rfl⟩, trivial⟩ (by first | exact hR1 | exact RLe.refl _) ?_
     exact ⟨_, [], rfl, ⟨(1 + mod (nth xs c) 5), (3 + mod (nth xs (c + 1)) 40), 3, [], ys⟩, none, _, 0, _, _, rfl, rs_nil, hwz, ⟨by dsimp only; omega, rfl, by dsimp only; omega, fun h => by dsimp only at h; omega, fun h => by dsimp only at h; omega, fun h => by dsimp only at h; omega, fun _ => ⟨rfl, hy1, by dsimp only; omega, hy3⟩⟩, hcpT, rfl, rfl⟩
   ·try dsimp only at hc2
    refine zK (zL (zU (zQ (zG ?_))))
    refine yL (Rd.blk 0 rfl) ?_
    refine zE 1 ?_
    refine zN (zU (zT ?_))
    refine WE.retFS (E' := srcE b a cp xs (c + 1 + 1) :: F) qS tab_ok [_] rfl ⟨⟨_, _, _, rfl, rfl, rfl, qB, rfl⟩, trivial⟩ (by first | exact hR1 | exact RLe.refl _) ?_
    exact ⟨_, [], rfl, ⟨(1 + mod (nth xs c) 5), (3 + mod (nth xs (c + 1)) 40), 3, [], []⟩, none, none, 0, 0, _, rfl, rs_nil, rs_nil, ⟨by dsimp only; omega, rfl, by dsimp only; omega, fun _ => ⟨rfl, rfl⟩, fun h => by dsimp only at h; omega, fun h => by dsimp only at h; omega, fun h => by dsimp only at h; omega⟩, Nat.le_refl 0, rfl, rfl⟩



def wgtF (hi : Int) (xs : List Int) (c : Nat) (i : Nat) : Int := 1 + mod (nth xs (c + i)) hi


def szPre (z : List Sz) (p : Pkt) : List Sz := if (nth z p.flow.toNat).most = 0 then z.set p.flow.toNat ⟨p.size, p.size⟩ else z
def szPut (z1 : List Sz) (p : Pkt) : List Sz := z1.set p.flow.toNat ⟨(if p.size < (nth z1 p.flow.toNat).least then p.size else (nth z1 p.flow.toNat).least), (if (nth z1 p.flow.toNat).most < p.size then p.size else (nth z1 p.flow.toNat).most)⟩
def szAdd (n : Nat) (z : List Sz) (p : Pkt) : List Sz := if p.flow < 0 ∨ p.flow ≥ (n : Int) then z else szPut (szPre z p) p
def sizesL (n : Nat) (ps : List Pkt) : List Sz := ps.foldl (szAdd n) (List.replicate n ⟨0, 0⟩)
theorem szPre_len (z : List Sz) (p : Pkt) : (szPre z p).length = z.length := by unfold szPre; split <;> simp
theorem szPut_len (z : List Sz) (p : Pkt) : (szPut z p).length = z.length := by simp [szPut]
theorem szAdd_len (n : Nat) (z : List Sz) (p : Pkt) : (szAdd n z p).length = z.length := by unfold szAdd; split; rfl; rw [szPut_len, szPre_len]

theorem Sizes_C {R : Ro} {pa : Option Addr} {pc pl : Nat} {ps : List Pkt} (hp : RS R 3 encP pa ps) (hpl : ps.length = pl) {n : Nat} (hn : n ≤ 1000) (w0 : World) (E : List Ent) :
  K.Fn Tryz.prog 12 [.slice pa pl pc, .int .i64 (n : Int)] w0 R E (fun v R' E' => ∃ (a2 : Option Addr) (c2 : Nat), v = .slice a2 (sizesL n ps).length c2 ∧ R = R' ∧ (.sl 59 2 a2 c2 ((sizesL n ps).map encZ) :: E).Sublist E') := by
 subst hpl
 have hla := hp.len
 have hen : ((n : Int)).toNat = n := by omega
 refine fE 64 Tryz.func12 ?_
 refine zQ (zG (zR 1 rfl (zN (zU (zQ (zG (zR 1 rfl ?_)))))))
 refine WL.ef rfl rfl qD (Ef.makeSliceD (enc := encZ) ⟨0, 0⟩ tab_ok rfl rfl rfl rfl rfl rfl qX qX qX qX qD rfl rfl (fun a10 => ?_))
 refine zR 1 rfl (zN (zU (zQ (zQ (zG (zR 3 rfl (zN (zU (zB ?_)))))))))
 refine W.loopK (β := Nat × List Sz) (fun (i, z) => i ≤ ps.length ∧ z = (ps.take i).foldl (szAdd n) (List.replicate n (⟨0, 0⟩ : Sz)) ∧ z.length = n) (fun (i, z) => [(13, true, .int .i64 (i : Int))]) [1, 5, 11, 12] [_, _, _, _] [] _ rfl (fun (i, z) => [(0, .sl 59 2 (some ⟨a10, 0, none⟩) n (z.map encZ))]) (fun (i, z) => ps.length - i) ((0, (List.replicate n (⟨0, 0⟩ : Sz)))) (⟨Nat.zero_le _, rfl, by simp⟩) ⟨rfl, rfl, rfl, rfl, rfl, rfl⟩ qS ?_
 intro st hst
 obtain ⟨i, z⟩ := st
 dsimp only [zipE, setAll, List.cons_append, List.nil_append, List.set_cons_zero, List.set_cons_succ] at hst ⊢
 obtain ⟨hi, hz, hzl⟩ := hst
 refine zQ (zG (zR 1 rfl (zN (zU (zQ ?_)))))
 refine W.condD rfl (fun hc0 => ?_) (fun hc0 => ?_)
 ·try dsimp only at hc0
  have hil : i < ps.length := by omega
  have hnx : szAdd n z (nth ps i) = (ps.take (i + 1)).foldl (szAdd n) (List.replicate n (⟨0, 0⟩ : Sz)) := by rw [take_nth hil, List.foldl_append, ← hz]; rfl
  have hnl : (szAdd n z (nth ps i)).length = n := by rw [szAdd_len]; exact hzl
  refine zK (zU (zQ (zB (zQ (zG ?_)))))
  refine WG.y rfl rfl qD (Yl.indexN tab_ok rfl rfl rfl rfl rfl rfl (fun _ => rfl) qN qH) ?_
  refine yR ?_
  refine zA fun b7 => ?_
  refine zE 0 ?_
  refine zN (zU (zQ (zQ (zG (zR 1 rfl ?_)))))
  refine yL (Rd.add (Rd.blk 0 rfl) _) ?_
  refine zR 2 rfl ?_
  refine yP ?_
  refine yG (Rd.addC (Rd.blkC 0 rfl) _) ?_
  refine yP ?_
  refine yP ?_
  refine yO ?_
  refine zN (zU ?_)
  refine W.cond rfl (fun hc1 => ?_) (fun hc1 => ?_)
  ·try simp only [zk] at hc1
   have hsame : szAdd n z (nth ps i) = z := if_pos hc1
   refine zX ?_
   refine wx (zY (zU (zG ?_)))
   refine yA ?_
   refine zR 1 rfl (zN ?_)
   refine WE.again ((i + 1, szAdd n z (nth ps i))) (⟨by dsimp only; omega, hnx, hnl⟩) (by (try dsimp only); omega) ⟨rfl, rfl, rfl, rfl, rfl, rfl⟩ (RLe.refl _) (by dsimp only [setAll, List.set_cons_zero, List.set_cons_succ]; first | (rw [hsame]; exact qS) | (rw [← hfin]; exact qS))
  ·try simp only [zk] at hc1
   have hadd : szAdd n z (nth ps i) = szPut (szPre z (nth ps i)) (nth ps i) := if_neg (by omega)
   have hf0 : 0 ≤ (nth ps i).flow ∧ (nth ps i).flow < n := by omega
   have hfz : (nth ps i).flow.toNat < z.length := by omega
   refine zK (zU (zQ (zG (zR 2 rfl ?_))))
   refine yL (Rd.add (Rd.blk 0 rfl) _) ?_
   refine WG.y rfl rfl qD (Yl.index tab_ok rfl rfl rfl rfl rfl rfl (fun _ => rfl) qA qH) ?_
   refine zR 1 rfl (zN (zU ?_))
   refine W.seqCut (β := List Sz) (fun z1 => z1 = szPre z (nth ps i)) (fun z1 => [(1, true, .int .i64 (n : Int)), (5, true, .slice (some ⟨a10, 0, none⟩) n n), (7, true, .pointer (some ⟨b7, 0, none⟩)), (8, true, .pointer (some (eaddr (some ⟨a10, 0, none⟩) 2 (nth ps i).flow.toNat))), (11, true, .slice pa ps.length pc), (12, true, .int .i64 (ps.length : Int)), (13, true, .int .i64 (i : Int))]) (fun _ => R) (fun z1 => .blk b7 (encP (nth ps i)) :: .sl 59 2 (some ⟨a10, 0, none⟩) n (z1.map encZ) :: E) ?_ ?_
   ·
    intro z1 hst
    have hst : z1 = szPre z (nth ps i) := hst
    have hl1 : z1.length = n := by rw [hst, szPre_len]; exact hzl
    have hns : nth (z1.set (nth ps i).flow.toNat (⟨(if (nth ps i).size < (nth z1 (nth ps i).flow.toNat).least then (nth ps i).size else (nth z1 (nth ps i).flow.toNat).least), (nth z1 (nth ps i).flow.toNat).most⟩ : Sz)) (nth ps i).flow.toNat = (⟨(if (nth ps i).size < (nth z1 (nth ps i).flow.toNat).least then (nth ps i).size else (nth z1 (nth ps i).flow.toNat).least), (nth z1 (nth ps i).flow.toNat).most⟩ : Sz) := nth_set_self (by omega)
    have hfin : (z1.set (nth ps i).flow.toNat (⟨(if (nth ps i).size < (nth z1 (nth ps i).flow.toNat).least then (nth ps i).size else (nth z1 (nth ps i).flow.toNat).least), (nth z1 (nth ps i).flow.toNat).most⟩ : Sz)).set (nth ps i).flow.toNat (⟨(if (nth ps i).size < (nth z1 (nth ps i).flow.toNat).least then (nth ps i).size else (nth z1 (nth ps i).flow.toNat).least), (if (nth z1 (nth ps i).flow.toNat).most < (nth ps i).size then (nth ps i).size else (nth z1 (nth ps i).flow.toNat).most)⟩ : Sz) = szAdd n z (nth ps i) := by rw [hadd, ← hst, List.set_set]; rfl
    refine W.regionH _ (ES := [.blk b7 (encP (nth ps i))]) mixed ?_
    refine tP 0 ?_
    refine tP 1 ?_
    refine tP 2 ?_
    refine tP 3 ?_
    refine tP 4 ?_
    refine tP 6 ?_
    refine tL 7 (Rd.add (Rd.blk 0 rfl) _) ?_
    refine tP 9 ?_
    refine tP 10 ?_
    refine tP 11 ?_
    refine tP 13 ?_
    refine tL 14 (Rd.add (Rd.blk 0 rfl) _) ?_
    refine WA.br2 (i := 5) (j := 12) qK ?_ ?_
    ·
     refine' WS.yl rfl rfl rfl qD (Yl.load1 tab_ok rfl rfl rfl (fun _ => rfl) ?r7 rfl ?h7) qS qR ?_
     case r7 => apply Rd.add; exact Rd.slD 1 rfl qO
     case h7 => rfl
     refine tP 8 ?_
     refine' WA.yl 12 rfl qK rfl rfl qD (Yl.load1 tab_ok rfl rfl rfl (fun _ => rfl) ?r8 rfl ?h8) qS qR ?_
     case r8 => apply Rd.add; exact Rd.slD 1 rfl (by (try rw [List.length_set]); omega)
     case h8 => rfl
     refine tP 15 ?_
     refine tP 16 ?_
     refine tP 17 ?_
     refine WA.effN 18 rfl qK rfl rfl (Ef.storeF (enc := encZ) (xs := z1) (⟨(if (nth ps i).size < (nth z1 (nth ps i).flow.toNat).least then (nth ps i).size else (nth z1 (nth ps i).flow.toNat).least), (nth z1 (nth ps i).flow.toNat).most⟩ : Sz) 1 tab_ok rfl rfl rfl rfl rfl qO rfl rfl qD rfl ?_)
     refine ⟨qR, qS, ?_⟩
     refine tP 19 ?_
     refine tP 20 ?_
     refine WA.effN 21 rfl (by kernel_rfl) rfl rfl (Ef.storeF (enc := encZ) (xs := z1.set (nth ps i).flow.toNat (⟨(if (nth ps i).size < (nth z1 (nth ps i).flow.toNat).least then (nth ps i).size else (nth z1 (nth ps i).flow.toNat).least), (nth z1 (nth ps i).flow.toNat).most⟩ : Sz)) (⟨(if (nth ps i).size < (nth z1 (nth ps i).flow.toNat).least then (nth ps i).size else (nth z1 (nth ps i).flow.toNat).least), (if (nth z1 (nth ps i).flow.toNat).most < (nth ps i).size then (nth ps i).size else (nth z1 (nth ps i).flow.toNat).most)⟩ : Sz) 1 tab_ok rfl rfl rfl rfl rfl (by rw [List.length_set]; omega) (by rw [hns]; rfl) rfl (by decide) rfl ?_)
     refine ⟨qR, qS, ?_⟩
     refine WA.done qK ?_
     refine zL (zU (zG ?_))
     refine yA ?_
     refine zR 1 rfl (zN ?_)
     refine WE.again ((i + 1, szAdd n z (nth ps i))) (⟨by dsimp only; omega, hnx, hnl⟩) (by (try dsimp only); omega) ⟨rfl, rfl, rfl, rfl, rfl, rfl⟩ (RLe.refl _) (by dsimp only [setAll, List.set_cons_zero, List.set_cons_succ]; first | (rw [hsame]; exact qS) | (rw [← hfin]; exact qS))
    ·
     refine' WS.yl rfl rfl rfl qD (Yl.load1 tab_ok rfl rfl rfl (fun _ => rfl) ?r9 rfl ?h9) qS qR ?_
     case r9 => apply Rd.add; exact Rd.slD 1 rfl (by (try rw [List.length_set]); omega)
     case h9 => rfl
     refine tP 15 ?_
     refine' WA.yl 5 rfl qK rfl rfl qD (Yl.load1 tab_ok rfl rfl rfl (fun _ => rfl) ?r10 rfl ?h10) qS qR ?_
     case r10 => apply Rd.add; exact Rd.slD 1 rfl qO
     case h10 => rfl
     refine tP 8 ?_
     refine tP 16 ?_
     refine tP 17 ?_
     refine WA.effN 18 rfl qK rfl rfl (Ef.storeF (enc := encZ) (xs := z1) (⟨(if (nth ps i).size < (nth z1 (nth ps i).flow.toNat).least then (nth ps i).size else (nth z1 (nth ps i).flow.toNat).least), (nth z1 (nth ps i).flow.toNat).most⟩ : Sz) 1 tab_ok rfl rfl rfl rfl rfl qO rfl rfl qD rfl ?_)
     refine ⟨qR, qS, ?_⟩
     refine tP 19 ?_
     refine tP 20 ?_
     refine WA.effN 21 rfl (by kernel_rfl) rfl rfl (Ef.storeF (enc := encZ) (xs := z1.set (nth ps i).flow.toNat (⟨(if (nth ps i).size < (nth z1 (nth ps i).flow.toNat).least then (nth ps i).size else (nth z1 (nth ps i).flow.toNat).least), (nth z1 (nth ps i).flow.toNat).most⟩ : Sz)) (⟨(if (nth ps i).size < (nth z1 (nth ps i).flow.toNat).least then (nth ps i).size else (nth z1 (nth ps i).flow.toNat).least), (if (nth z1 (nth ps i).flow.toNat).most < (nth ps i).size then (nth ps i).size else (nth z1 (nth ps i).flow.toNat).most)⟩ : Sz) 1 tab_ok rfl rfl rfl rfl rfl (by rw [List.length_set]; omega) (by rw [hns]; rfl) rfl (by decide) rfl ?_)
     refine ⟨qR, qS, ?_⟩
     refine WA.done qK ?_
     refine zL (zU (zG ?_))
     refine yA ?_
     refine zR 1 rfl (zN ?_)
     refine WE.again ((i + 1, szAdd n z (nth ps i))) (⟨by dsimp only; omega, hnx, hnl⟩) (by (try dsimp only); omega) ⟨rfl, rfl, rfl, rfl, rfl, rfl⟩ (RLe.refl _) (by dsimp only [setAll, List.set_cons_zero, List.set_cons_succ]; first | (rw [hsame]; exact qS) | (rw [← hfin]; exact qS))
   ·
    refine zQ (zG (zR 3 rfl ?_))
    refine' WG.y rfl rfl qD (Yl.load1 tab_ok rfl rfl rfl (fun _ => rfl) ?r11 rfl ?h11) ?_
    case r11 => apply Rd.add; exact Rd.slD 1 rfl qO
    case h11 => rfl
    refine zR 1 rfl (zN (zU ?_))
    refine W.condE rfl (fun hc2 => ?_) (fun hc2 => ?_)
    ·try dsimp only at hc2
     refine zG (zR 2 rfl ?_)
     refine yL (Rd.add (Rd.blk 0 rfl) _) ?_
     refine zR 1 rfl ?_
     refine yL (Rd.add (Rd.blk 0 rfl) _) ?_
     -- build
     refine WG.y rfl rfl qD (Yl.build (parts := [(0, .tmp 37), (1, .tmp 39)]) tab_ok rfl rfl rfl rfl (fun _ => rfl) rfl rfl) ?_
     refine zR 1 rfl ?_
     refine WL.efN rfl rfl (Ef.storeD (enc := encZ) (xs := z) (⟨(nth ps i).size, (nth ps i).size⟩ : Sz) 1 tab_ok rfl rfl rfl rfl rfl qO rfl rfl rfl rfl ?_)
     refine zN ?_
     refine WE.cut (z.set (nth ps i).flow.toNat ⟨(nth ps i).size, (nth ps i).size⟩) (show _ = szPre z (nth ps i) from by unfold szPre; rw [if_pos hc2]) ⟨rfl, rfl, rfl, rfl, rfl, rfl, rfl, rfl⟩ (RLe.refl _) qS
    ·try dsimp only at hc2
     refine zK ?_
     refine WE.cut z (show _ = szPre z (nth ps i) from by unfold szPre; rw [if_neg hc2]) ⟨rfl, rfl, rfl, rfl, rfl, rfl, rfl, rfl⟩ (RLe.refl _) qS
 ·try dsimp only at hc0
  obtain rfl : i = ps.length := by omega
  rw [List.take_length] at hz
  have hz2 : z = sizesL n ps := hz
  subst hz2
  refine zX ?_
  refine wx (wx (zY (zU (zQ (zG (zR 2 rfl (zN (zU (zT ?_)))))))))
  refine WE.retF tab_ok [_] rfl ⟨rfl, trivial⟩ (RLe.refl _) ?_
  exact ⟨some ⟨a10, 0, none⟩, n, by rw [hzl]; rfl, rfl, qS⟩



structure SlZ where
 a : Option Addr
 cap : Nat
 xs : List Sz
instance instSlZ : Inhabited SlZ := ⟨⟨none, 0, []⟩⟩
def encW (s : SlZ) : List Value := [.slice s.a s.xs.length s.cap]
theorem foldl_inv {α β : Type} {f : β → α → β} {I : β → Prop} : ∀ (l : List α) (b : β), I b → (∀ b a, a ∈ l → I b → I (f b a)) → I (l.foldl f b)
 | [], b, h, _ => h
 | x :: l, b, h, hs => foldl_inv l (f b x) (hs b x (by simp) h) (fun b a ha hb => hs b a (by simp [ha]) hb)
theorem sizes_ok {ps : List Pkt} {n : Nat} {M : Int} (hM : 0 ≤ M) (hs : ∀ p ∈ ps, 1 ≤ p.size ∧ p.size ≤ M) : (sizesL n ps).length = n ∧ ∀ s ∈ sizesL n ps, 0 ≤ s.least ∧ s.least ≤ s.most ∧ s.most ≤ M := by
 unfold sizesL
 refine foldl_inv (I := fun (z : List Sz) => z.length = n ∧ ∀ s ∈ z, 0 ≤ s.least ∧ s.least ≤ s.most ∧ s.most ≤ M) ps _ ⟨by simp, fun s h => ?_⟩ ?_
 ·obtain rfl := List.eq_of_mem_replicate h
  exact ⟨by decide, by decide, hM⟩
 ·intro z p hp ⟨h1, h2⟩
  have hps := hs p hp
  refine ⟨by rw [szAdd_len]; exact h1, ?_⟩
  unfold szAdd
  split
  ·exact h2
  ·rename_i hf
   have hfl : p.flow.toNat < z.length := by omega
   have h3 : ∀ s ∈ szPre z p, 0 ≤ s.least ∧ s.least ≤ s.most ∧ s.most ≤ M := by
    unfold szPre
    split
    ·intro s h
     rcases List.mem_or_eq_of_mem_set h with h | rfl
     ·exact h2 s h
     ·dsimp only; omega
    ·exact h2
   intro s h
   have h4 := h3 _ (nth_mem (xs := szPre z p) (k := p.flow.toNat) (by rw [szPre_len]; exact hfl))
   rcases List.mem_or_eq_of_mem_set h with h | rfl
   ·exact h3 s h
   ·dsimp only
    split <;> split <;> omega



def okZ (z : List Sz) (q : Pkt) : Prop := 0 < (nth z q.flow.toNat).most ∧ (nth z q.flow.toNat).least ≤ q.size ∧ q.size ≤ (nth z q.flow.toNat).most
theorem szAdd_ok {n : Nat} {z : List Sz} {p q : Pkt} (hz : z.length = n) (hp : 1 ≤ p.size ∧ 0 ≤ p.flow ∧ p.flow < n) (h : q = p ∨ okZ z q) : okZ (szAdd n z p) q := by
 have hfl : p.flow.toNat < z.length := by omega
 have e : szAdd n z p = szPut (szPre z p) p := if_neg (by omega)
 rw [e]
 have hl : (szPre z p).length = z.length := szPre_len z p
 unfold szPut okZ
 by_cases hf : p.flow.toNat = q.flow.toNat
 ·rw [← hf, nth_set_self (by omega)]
  dsimp only
  rcases h with rfl | h
  ·split <;> split <;> omega
  ·unfold okZ at h
   rw [← hf] at h
   have : nth (szPre z p) p.flow.toNat = nth z p.flow.toNat := by unfold szPre; rw [if_neg (by omega)]
   rw [this]
   split <;> split <;> omega
 ·rw [nth_set_ne hf]
  have h := h.resolve_left (fun e => hf (by rw [e]))
  have : nth (szPre z p) q.flow.toNat = nth z q.flow.toNat := by
   unfold szPre
   split
   ·rw [nth_set_ne hf]
   ·rfl
  rw [this]; exact h
theorem sizes_fold {n : Nat} : ∀ (l : List Pkt) (z : List Sz) (Q : Pkt → Prop), z.length = n → (∀ q, Q q → okZ z q) → (∀ p ∈ l, 1 ≤ p.size ∧ 0 ≤ p.flow ∧ p.flow < n) → ∀ q, Q q ∨ q ∈ l → okZ (l.foldl (szAdd n) z) q
 | [], z, Q, hz, hQ, _, q, h => by
  rcases h with h | h
  ·exact hQ q h
  ·simp at h
 | p :: l, z, Q, hz, hQ, hl, q, h => by
  have hp := hl p (by simp)
  refine sizes_fold l (szAdd n z p) (fun q => q = p ∨ Q q) (by rw [szAdd_len]; exact hz) (fun q h => szAdd_ok hz hp (h.imp id (hQ q))) (fun p h => hl p (by simp [h])) q ?_
  rcases h with h | h
  ·exact .inl (.inr h)
  ·rcases List.mem_cons.1 h with h | h
   ·exact .inl (.inl h)
   ·exact .inr h
theorem sizes_of {ps : List Pkt} {n : Nat} (h : ∀ p ∈ ps, 1 ≤ p.size ∧ 0 ≤ p.flow ∧ p.flow < n) : SzOf ps (sizesL n ps) := fun i hi => by
 have := sizes_fold ps (List.replicate n ⟨0, 0⟩) (fun _ => False) (by simp) (fun _ h => h.elim) h (nth ps i) (.inr (nth_mem hi))
 exact this.2



set_option maxHeartbeats 1000000 in
theorem ServerQueues_F {R : Ro} {a : Option Addr} {c : Nat} {xs : List Int} (ha : RS R 1 encI a xs) (hc : xs.length ≤ c) (w0 : World) : K.Fn Tryz.prog 4 [.slice a xs.length c] w0 R [] (fun v _ _ => v = .bool true) := by
 refine fE 103 Tryz.func4 ?_
 refine zQ (zG (zR 1 rfl (zN (zU (zQ (zG (zR 1 rfl ?_)))))))
 refine WL.call en8 rfl rfl qD (CallOp.mkT rfl rfl rfl rfl) (New_C w0 _ hc) ?_
 rintro _ _ _ - ⟨b, rfl, rfl, rfl⟩
 have hz := ha.take 2000
 refine zR 1 rfl (zN (zU (zQ (zG (zR 1 rfl ?_)))))
 refine WL.callAt 0 en9 rfl rfl qD (CallOp.mkT rfl rfl rfl rfl) rfl (DrawC_C w0 hz _) ?_
 rintro _ R0 _ _ hR0 ⟨L, aw, at_, cw, ct, cn, rfl, hw, ht, hL, hct, rfl, rfl⟩
 have hz := hz.mono hR0
 refine zR 1 rfl ?_
 refine WL.callAt 0 en10 rfl rfl qD (CallOp.mkT rfl rfl rfl rfl) rfl (Traffic_C w0 hz qD (by constructor <;> decide) qD _) ?_
 rintro _ _ _ _ - ⟨a2, c2, rfl, rfl, rfl, rfl⟩
 refine WL.freeze (enc := encP) (xs := (traffic (xs.take 2000) 12 3 40 cn)) 0 rfl ?_
 intro R1 hR1 hp
 have hz := hz.mono hR1
 have hw := hw.mono hR1
 have ht := ht.mono hR1
 have hok := traffic_ok (xs.take 2000) (n := 12) (flows := 3) (most := 40) (by decide) (by decide) (by decide) cn
 have hat := traffic_at (xs.take 2000) (n := 12) (flows := 3) (most := 40) (by decide) (by decide) (by decide) cn
 have hlt := traffic_len (xs.take 2000) (n := 12) (flows := 3) (most := 40) (by decide) cn
 refine zA fun b4 => ?_
 refine zE 0 ?_
 refine zR 1 rfl (zN (zU ?_))
 refine W.sub (env' := [(4, true, .pointer (some ⟨b4, 0, none⟩)), (5, true, .slice a2 (traffic (xs.take 2000) 12 3 40 cn).length c2)]) (R' := R1) (E' := [.blk b4 [.int .i64 L.kind, .int .i64 L.cap, .int .i64 L.n, .slice aw L.w.length cw, .slice at_ L.tb.length ct]]) ⟨rfl, rfl, rfl⟩ (RLe.refl _) qS ?_
 generalize (traffic (xs.take 2000) 12 3 40 cn) = ps at hp hok hat hlt ⊢
 have hla := hp.len
 have hcap1 : 1 ≤ L.cap ∧ L.cap ≤ 42 := by have := hL.cap; omega
 have hp3 : P3 ps := ⟨fun p hp => by have := hat p hp; omega, fun p hp => by have := hat p hp; omega, hok.sorted, fun p hp => by have := hat p hp; omega⟩
 have hn3 := hL.n
 have hcap := hL.cap
 refine zQ (zG (zR 1 rfl ?_))
 refine WL.call en11 rfl rfl qD (CallOp.mkT rfl rfl rfl rfl) (Contr22_C (n := 3) hp hok (fun p hp => by have := hat p hp; omega) qD w0 _) ?_
 rintro _ R2 _ hR2 ⟨al, acp, ls, rfl, hls, hlsn, hlsc, hlsa, hsubK⟩
 refine WL.subE hsubK ?_
 have hp := hp.mono hR2
 have hw := hw.mono hR2
 have ht := ht.mono hR2
 refine zR 1 rfl ?_
 refine WL.call en12 rfl rfl qD (CallOp.mkT rfl rfl rfl rfl) (Sizes_C hp rfl (n := 3) qD w0 _) ?_
 rintro _ _ E4 - ⟨az, cz, rfl, rfl, hsub4⟩
 refine WL.subE hsub4 ?_
 obtain ⟨hzzl, hzzb⟩ := sizes_ok (n := 3) (M := 40) (by decide) (fun p hp => by have := hat p hp; omega : ∀ p ∈ ps, 1 ≤ p.size ∧ p.size ≤ 40)
 have hSz : SzOf ps (sizesL 3 ps) := sizes_of (fun p hp => by have := hat p hp; omega)
 refine WL.cap 0 rfl ?_
 intro hzc
 rw [List.length_map] at hzc
 refine WL.freeze (enc := encZ) (xs := sizesL 3 ps) 0 rfl ?_
 intro R2b hR2b hzz
 generalize sizesL 3 ps = zz at hzzl hzzb hSz hzz hzc ⊢
 have hp := hp.mono hR2b
 have hw := hw.mono hR2b
 have ht := ht.mono hR2b
 have hls := hls.mono hR2b
 have hlsa : ∀ j, j < 3 → RS R2b 1 encI (nth ls j).a (nth ls j).cv.vals ∧ KeepC ps j (nth ls j).cv := fun j hj => ⟨(hlsa j hj).1.mono hR2b, (hlsa j hj).2⟩
 have hK : Kept ps (ls.map CvS.cv) zz := ⟨by rw [List.length_map, hlsn], fun j hj => by rw [nth_map_lt _ (by omega)]; have := (hlsa j hj).2.facts; exact ⟨this.1, this.2.1, this.2.2.2.2⟩, hzzl, fun s hs => by have := hzzb s hs; omega, hSz⟩
 
 refine zR 2 rfl (zN (zU (zQ (zG ?_))))
 refine yL (Rd.blk 0 rfl) ?_
 refine zR 1 rfl ?_
 refine WL.call en13 rfl rfl qD (CallOp.mkT rfl rfl rfl rfl) (RunSrv_C (L := L) (ps := ps) (ticks := 100) hp rfl hw rfl ht rfl w0 _) ?_
 rintro _ R3 E2 hR3 ⟨da1, oa1, dc1, oc1, rows1, rfl, hd1, ho1, hrw1, hrx1, hcp1, hsub1⟩
 refine WL.subE hsub1 ?_
 obtain ⟨ee1, ev1⟩ := fine_run (L := L) (ps := ps) hL.chk hn3 hok (fun p hp => (hat p hp).2.1) (ticks := 100) (t := 100) rfl ⟨by decide, by decide⟩
 rw [ev1] at hd1 hrx1 ⊢
 rw [ee1]
 clear ee1 ev1
 have hp := hp.mono hR3
 have hw := hw.mono hR3
 have ht := ht.mono hR3
 have hls := hls.mono hR3
 have hzz := hzz.mono hR3
 have hlsa : ∀ j, j < 3 → RS R3 1 encI (nth ls j).a (nth ls j).cv.vals ∧ KeepC ps j (nth ls j).cv := fun j hj => ⟨(hlsa j hj).1.mono hR3, (hlsa j hj).2⟩
 obtain ⟨q1_1, q2_1, q3_1, q4_1⟩ := send_rows (L := L) (t := 100) hL hp3 (by have := hok.len; omega)
 have hrl1 : rows1.length = 3 := by rw [← q2_1, ← hrx1, List.length_map]
 rw [hrl1, q1_1]
 have hx1 : ∀ r ∈ rows1, r.xs.length = 100 + 1 := fun r hr => (q3_1 r.xs (by rw [← hrx1]; exact List.mem_map_of_mem hr)).1
 generalize hq1 : sendL L 100 ps = Q1 at hd1 hrx1 q1_1 q2_1 q3_1 q4_1 ⊢
 refine zR 3 rfl ?_
 refine zA fun b8 => ?_
 refine zE 0 ?_
 refine zR 1 rfl (zN (zU (zQ (zQ (zG (zR 3 rfl ?_))))))
 refine WL.guardT rfl (by rfl) ?_
 refine yP ?_
 refine WL.guardT rfl (by rfl) ?_
 refine yL (Rd.blk 0 rfl) ?_
 refine WL.guardT rfl (by rfl) ?_
 refine WG.callV en14 rfl rfl (by decide) (CallOp.mk' rfl rfl rfl rfl) (fun _ => rfl) (fun hg => Sound_V (n := 3) ho1 hrl1 (by decide) (by decide) (fun r hr => by rw [hx1 r hr]; rfl)) ?_
 refine WL.guardT rfl (by rfl) ?_
 refine yP ?_
 refine WG.y rfl rfl (by decide) (Yl.por rfl rfl rfl (fun _ => rfl) (by first | exact fun _ _ => rfl | ((try generalize (bq.2 == 0) = k1); (try generalize bq.1.1 = k2); (try generalize decide ((queueR ps Q1.2 (k : Int) (t : Int)).1 > bq.1.2.1) = k3); (try generalize (pq.2 == 0) = k4); (try generalize pq.1.1 = k5); (try generalize decide ((queueR ps Q1.2 (k : Int) (t : Int)).2 > pq.1.2.1) = k6); (try revert k1); (try revert k2); (try revert k3); (try revert k4); (try revert k5); (try revert k6); decide) | (intro h1 h2; simp_all))) ?_
 refine zN (zU ?_)
 refine W.cond rfl (fun hc0 => ?_) (fun hc0 => ?_)
 ·try simp only [zk] at hc0
  (simp at hc0; done)
 ·try simp only [zk] at hc0
  refine zK (zU (zQ (zQ (zG (zR 1 rfl (zN (zU (zB ?_))))))))
  refine W.loopR (β := Nat × Ro) (fun (k, Rk) => k ≤ 3 ∧ RLe R3 Rk) (fun (k, Rk) => [(10, true, .int .i64 (k : Int))]) [4, 5, 6, 7, 8] [_, _, _, _, _] [] _ rfl (fun (k, Rk) => []) (fun (k, Rk) => Rk) (fun (k, Rk) => 3 - k) ((0, R3)) (⟨Nat.zero_le _, RLe.refl _⟩) ⟨rfl, rfl, rfl, rfl, rfl, rfl, rfl⟩ (RLe.refl _) qS ?_
  intro st hst
  obtain ⟨k, Rk⟩ := st
  dsimp only [zipE, setAll, List.cons_append, List.nil_append, List.set_cons_zero, List.set_cons_succ] at hst ⊢
  obtain ⟨hk3, hRk⟩ := hst
  have hp := hp.mono hRk
  have hw := hw.mono hRk
  have ht := ht.mono hRk
  have hls := hls.mono hRk
  have hzz := hzz.mono hRk
  have ho1 := ho1.mono hRk
  have hd1 := hd1.mono hRk
  have hlsa : ∀ j, j < 3 → RS Rk 1 encI (nth ls j).a (nth ls j).cv.vals ∧ KeepC ps j (nth ls j).cv := fun j hj => ⟨(hlsa j hj).1.mono hRk, (hlsa j hj).2⟩
  have hrw1 : ∀ r ∈ rows1, RS Rk 1 encI r.a r.xs := fun r hr => (hrw1 r hr).mono hRk
  refine zQ (zQ (zG (zR 2 rfl (zN (zU ?_)))))
  refine W.condD rfl (fun hc1 => ?_) (fun hc1 => ?_)
  ·try dsimp only at hc1
   have hk : k < 3 := by omega
   refine zK (zU (zQ (zB (zQ (zG ?_)))))
   refine yL (Rd.blk 1 rfl) ?_
   refine zR 3 rfl ?_
   refine WL.call en19 rfl rfl qD (CallOp.mkT rfl rfl rfl rfl) (BackSrv_C (L := L) (cls := (k : Int)) hw rfl ht rfl hls rfl hlsc (fun x hx => by
    obtain ⟨j, hj, rfl⟩ := List.getElem_of_mem hx
    have := hlsa j (by omega)
    rw [nth_eq hj] at this
    exact ⟨this.1, this.2.facts.2.2.1⟩) hzz rfl hzc hct w0 _) ?_
   rintro _ RC _ hRC ⟨rfl, hsubRC⟩
   refine WL.subE hsubRC ?_
   have hbl : (measL backC L (k : Int) (ls.map CvS.cv) zz).2 = 0 → (measL backC L (k : Int) (ls.map CvS.cv) zz).1.1 = false → ∀ t : Nat, t ≤ 100 → pbytes (k : Int) ((t + 0 : Nat) : Int) ps - nth (nth Q1.2 k) t ≤ (measL backC L (k : Int) (ls.map CvS.cv) zz).1.2.1 := fun a b => by
    rw [← hq1]
    exact (queue_law (m := 100) (d := 0) qD hL hp3 hk (ls := ls.map CvS.cv) (z := zz) hK (p := (measL backC L (k : Int) (ls.map CvS.cv) zz).1.2.2) (Prod.ext (Prod.ext b rfl) a)).2
   generalize measL backC L (k : Int) (ls.map CvS.cv) zz = bq at hbl ⊢
   unfold devV
   have hp := hp.mono hRC
   have hw := hw.mono hRC
   have ht := ht.mono hRC
   have hls := hls.mono hRC
   have hzz := hzz.mono hRC
   have ho1 := ho1.mono hRC
   have hd1 := hd1.mono hRC
   have hlsa : ∀ j, j < 3 → RS RC 1 encI (nth ls j).a (nth ls j).cv.vals ∧ KeepC ps j (nth ls j).cv := fun j hj => ⟨(hlsa j hj).1.mono hRC, (hlsa j hj).2⟩
   have hrw1 : ∀ r ∈ rows1, RS RC 1 encI r.a r.xs := fun r hr => (hrw1 r hr).mono hRC
   refine zR 3 rfl ?_
   refine zA fun b11 => ?_
   refine zE 0 ?_
   refine zR 1 rfl (zN (zU (zQ (zG ?_))))
   refine yL (Rd.blk 2 rfl) ?_
   refine zR 3 rfl ?_
   refine WL.call en20 rfl rfl qD (CallOp.mkT rfl rfl rfl rfl) (PeakSrv_C (L := L) (cls := (k : Int)) hw rfl ht rfl hls rfl hlsc (fun x hx => by
    obtain ⟨j, hj, rfl⟩ := List.getElem_of_mem hx
    have := hlsa j (by omega)
    rw [nth_eq hj] at this
    exact ⟨this.1, this.2.facts.2.2.1⟩) hzz rfl hzc hct w0 _) ?_
   rintro _ RD _ hRD ⟨rfl, hsubRD⟩
   refine WL.subE hsubRD ?_
   have hpk : (measL peakC L (k : Int) (ls.map CvS.cv) zz).2 = 0 → (measL peakC L (k : Int) (ls.map CvS.cv) zz).1.1 = false → ∀ t : Nat, t ≤ 100 → pbytes (k : Int) ((t + 1 : Nat) : Int) ps - nth (nth Q1.2 k) t ≤ (measL peakC L (k : Int) (ls.map CvS.cv) zz).1.2.1 := fun a b => by
    rw [← hq1]
    exact (queue_law (m := 100) (d := 1) qD hL hp3 hk (ls := ls.map CvS.cv) (z := zz) hK (p := (measL peakC L (k : Int) (ls.map CvS.cv) zz).1.2.2) (Prod.ext (Prod.ext b rfl) a)).2
   generalize measL peakC L (k : Int) (ls.map CvS.cv) zz = pq at hpk ⊢
   unfold devV
   have hp := hp.mono hRD
   have hw := hw.mono hRD
   have ht := ht.mono hRD
   have hls := hls.mono hRD
   have hzz := hzz.mono hRD
   have ho1 := ho1.mono hRD
   have hd1 := hd1.mono hRD
   have hlsa : ∀ j, j < 3 → RS RD 1 encI (nth ls j).a (nth ls j).cv.vals ∧ KeepC ps j (nth ls j).cv := fun j hj => ⟨(hlsa j hj).1.mono hRD, (hlsa j hj).2⟩
   have hrw1 : ∀ r ∈ rows1, RS RD 1 encI r.a r.xs := fun r hr => (hrw1 r hr).mono hRD
   refine zR 3 rfl ?_
   refine zA fun b13 => ?_
   refine zE 0 ?_
   refine zR 1 rfl (zN (zU (zQ (zG (zR 1 rfl (zN (zU (zB ?_))))))))
   refine W.loopK (β := Nat) (fun t => t ≤ 101) (fun t => [(15, true, .int .i64 (t : Int))]) [4, 5, 6, 7, 8, 10, 11, 12, 13, 14] [_, _, _, _, _, _, _, _, _, _] [] _ rfl (fun t => []) (fun t => 101 - t) (0) (Nat.zero_le _) ⟨rfl, rfl, rfl, rfl, rfl, rfl, rfl, rfl, rfl, rfl, rfl, rfl⟩ qS ?_
   intro t hst
   dsimp only [zipE, setAll, List.cons_append, List.nil_append, List.set_cons_zero, List.set_cons_succ] at hst ⊢
   
   refine zQ (zQ (zG (zR 2 rfl (zN (zU ?_)))))
   refine W.condD rfl (fun hc2 => ?_) (fun hc2 => ?_)
   ·try dsimp only at hc2
    have ht100 : t ≤ 100 := by omega
    have hqc := queue_class (ps := ps) (sent := Q1.2) (k := k) (t := t) (m := 101) (by omega) (fun l hl => (q3_1 l hl).1) hk (by omega)
    have hpb := pbytes_bound (k : Int) (t : Int) ps (fun p hp => by have := hat p hp; omega)
    have hpb2 := pbytes_bound (k : Int) ((t : Int) + 1) ps (fun p hp => by have := hat p hp; omega)
    refine zK (zU (zQ (zB (zQ (zG (zR 1 rfl ?_))))))
    refine yL (Rd.blk 2 rfl) ?_
    refine zR 2 rfl ?_
    refine WG.callV (v := .tuple #[.int .i64 (queueR ps Q1.2 (k : Int) (t : Int)).1, .int .i64 (queueR ps Q1.2 (k : Int) (t : Int)).2]) en21 rfl rfl qD (CallOp.mk' rfl rfl rfl rfl) (fun _ => rfl) (fun hg => by
     have h := Queue_V (cls := (k : Int)) (t := (t : Int)) (pc := c2) (oc := oc1) (da := da1) (dl := ps.length) (dc := dc1) hp ho1 hrw1 (fun p hp => by have := hat p hp; omega) (by omega) (fun r hr x hx => by have := (q3_1 r.xs (by rw [← hrx1]; exact List.mem_map_of_mem hr)).2 x hx; omega) (by omega) (by omega)
     rw [hrl1, hrx1] at h
     exact h) ?_
    refine zR 5 rfl (zN (zU (zQ (zG (zR 3 rfl ?_)))))
    refine WG.y rfl rfl (by decide) (pureV_ok tab_ok rfl (by first | exact fun _ => rfl | exact fun h => h | ((try generalize (bq.2 == 0) = k1); (try generalize bq.1.1 = k2); (try generalize decide ((queueR ps Q1.2 (k : Int) (t : Int)).1 > bq.1.2.1) = k3); (try generalize (pq.2 == 0) = k4); (try generalize pq.1.1 = k5); (try generalize decide ((queueR ps Q1.2 (k : Int) (t : Int)).2 > pq.1.2.1) = k6); (try revert k1); (try revert k2); (try revert k3); (try revert k4); (try revert k5); (try revert k6); decide) | (intro h; simp_all))) ?_
    refine' WG.y rfl rfl (by decide) (Yl.loadG tab_ok rfl rfl rfl (by first | exact fun _ => rfl | exact fun h => h | ((try generalize (bq.2 == 0) = k1); (try generalize bq.1.1 = k2); (try generalize decide ((queueR ps Q1.2 (k : Int) (t : Int)).1 > bq.1.2.1) = k3); (try generalize (pq.2 == 0) = k4); (try generalize pq.1.1 = k5); (try generalize decide ((queueR ps Q1.2 (k : Int) (t : Int)).2 > pq.1.2.1) = k6); (try revert k1); (try revert k2); (try revert k3); (try revert k4); (try revert k5); (try revert k6); decide) | (intro h; simp_all)) ?r6 rfl ?h6 ?g6) ?_
    case r6 => apply Rd.addC; (exact Rd.blkC 1 rfl)
    case h6 => rfl
    case g6 => exact fun _ => trivial
    refine WG.y rfl rfl (by decide) (pureV_ok tab_ok rfl (by first | exact fun _ => rfl | exact fun h => h | ((try generalize (bq.2 == 0) = k1); (try generalize bq.1.1 = k2); (try generalize decide ((queueR ps Q1.2 (k : Int) (t : Int)).1 > bq.1.2.1) = k3); (try generalize (pq.2 == 0) = k4); (try generalize pq.1.1 = k5); (try generalize decide ((queueR ps Q1.2 (k : Int) (t : Int)).2 > pq.1.2.1) = k6); (try revert k1); (try revert k2); (try revert k3); (try revert k4); (try revert k5); (try revert k6); decide) | (intro h; simp_all))) ?_
    refine WG.y rfl rfl (by decide) (Yl.pand rfl rfl rfl (fun _ => rfl) (by first | exact fun _ _ => rfl | ((try generalize (bq.2 == 0) = k1); (try generalize bq.1.1 = k2); (try generalize decide ((queueR ps Q1.2 (k : Int) (t : Int)).1 > bq.1.2.1) = k3); (try generalize (pq.2 == 0) = k4); (try generalize pq.1.1 = k5); (try generalize decide ((queueR ps Q1.2 (k : Int) (t : Int)).2 > pq.1.2.1) = k6); (try revert k1); (try revert k2); (try revert k3); (try revert k4); (try revert k5); (try revert k6); decide) | (intro h1 h2; simp_all))) ?_
    refine zR 1 rfl ?_
    refine WG.y rfl rfl (by decide) (pureV_ok tab_ok rfl (by first | exact fun _ => rfl | exact fun h => h | ((try generalize (bq.2 == 0) = k1); (try generalize bq.1.1 = k2); (try generalize decide ((queueR ps Q1.2 (k : Int) (t : Int)).1 > bq.1.2.1) = k3); (try generalize (pq.2 == 0) = k4); (try generalize pq.1.1 = k5); (try generalize decide ((queueR ps Q1.2 (k : Int) (t : Int)).2 > pq.1.2.1) = k6); (try revert k1); (try revert k2); (try revert k3); (try revert k4); (try revert k5); (try revert k6); decide) | (intro h; simp_all))) ?_
    refine WG.y rfl rfl (by decide) (pureV_ok tab_ok rfl (by first | exact fun _ => rfl | exact fun h => h | ((try generalize (bq.2 == 0) = k1); (try generalize bq.1.1 = k2); (try generalize decide ((queueR ps Q1.2 (k : Int) (t : Int)).1 > bq.1.2.1) = k3); (try generalize (pq.2 == 0) = k4); (try generalize pq.1.1 = k5); (try generalize decide ((queueR ps Q1.2 (k : Int) (t : Int)).2 > pq.1.2.1) = k6); (try revert k1); (try revert k2); (try revert k3); (try revert k4); (try revert k5); (try revert k6); decide) | (intro h; simp_all))) ?_
    refine' WG.y rfl rfl (by decide) (Yl.loadG tab_ok rfl rfl rfl (by first | exact fun _ => rfl | exact fun h => h | ((try generalize (bq.2 == 0) = k1); (try generalize bq.1.1 = k2); (try generalize decide ((queueR ps Q1.2 (k : Int) (t : Int)).1 > bq.1.2.1) = k3); (try generalize (pq.2 == 0) = k4); (try generalize pq.1.1 = k5); (try generalize decide ((queueR ps Q1.2 (k : Int) (t : Int)).2 > pq.1.2.1) = k6); (try revert k1); (try revert k2); (try revert k3); (try revert k4); (try revert k5); (try revert k6); decide) | (intro h; simp_all)) ?r7 rfl ?h7 ?g7) ?_
    case r7 => apply Rd.addC; (exact Rd.blkC 1 rfl)
    case h7 => rfl
    case g7 => exact fun _ => trivial
    refine WG.y rfl rfl (by decide) (pureV_ok tab_ok rfl (by first | exact fun _ => rfl | exact fun h => h | ((try generalize (bq.2 == 0) = k1); (try generalize bq.1.1 = k2); (try generalize decide ((queueR ps Q1.2 (k : Int) (t : Int)).1 > bq.1.2.1) = k3); (try generalize (pq.2 == 0) = k4); (try generalize pq.1.1 = k5); (try generalize decide ((queueR ps Q1.2 (k : Int) (t : Int)).2 > pq.1.2.1) = k6); (try revert k1); (try revert k2); (try revert k3); (try revert k4); (try revert k5); (try revert k6); decide) | (intro h; simp_all))) ?_
    refine WG.y rfl rfl (by decide) (Yl.pand rfl rfl rfl (fun _ => rfl) (by first | exact fun _ _ => rfl | ((try generalize (bq.2 == 0) = k1); (try generalize bq.1.1 = k2); (try generalize decide ((queueR ps Q1.2 (k : Int) (t : Int)).1 > bq.1.2.1) = k3); (try generalize (pq.2 == 0) = k4); (try generalize pq.1.1 = k5); (try generalize decide ((queueR ps Q1.2 (k : Int) (t : Int)).2 > pq.1.2.1) = k6); (try revert k1); (try revert k2); (try revert k3); (try revert k4); (try revert k5); (try revert k6); decide) | (intro h1 h2; simp_all))) ?_
    refine zR 1 rfl ?_
    refine WG.y rfl rfl (by decide) (pureV_ok tab_ok rfl (by first | exact fun _ => rfl | exact fun h => h | ((try generalize (bq.2 == 0) = k1); (try generalize bq.1.1 = k2); (try generalize decide ((queueR ps Q1.2 (k : Int) (t : Int)).1 > bq.1.2.1) = k3); (try generalize (pq.2 == 0) = k4); (try generalize pq.1.1 = k5); (try generalize decide ((queueR ps Q1.2 (k : Int) (t : Int)).2 > pq.1.2.1) = k6); (try revert k1); (try revert k2); (try revert k3); (try revert k4); (try revert k5); (try revert k6); decide) | (intro h; simp_all))) ?_
    refine WG.y rfl rfl (by decide) (pureV_ok tab_ok rfl (by first | exact fun _ => rfl | exact fun h => h | ((try generalize (bq.2 == 0) = k1); (try generalize bq.1.1 = k2); (try generalize decide ((queueR ps Q1.2 (k : Int) (t : Int)).1 > bq.1.2.1) = k3); (try generalize (pq.2 == 0) = k4); (try generalize pq.1.1 = k5); (try generalize decide ((queueR ps Q1.2 (k : Int) (t : Int)).2 > pq.1.2.1) = k6); (try revert k1); (try revert k2); (try revert k3); (try revert k4); (try revert k5); (try revert k6); decide) | (intro h; simp_all))) ?_
    refine WG.y rfl rfl (by decide) (pureV_ok tab_ok rfl (by first | exact fun _ => rfl | exact fun h => h | ((try generalize (bq.2 == 0) = k1); (try generalize bq.1.1 = k2); (try generalize decide ((queueR ps Q1.2 (k : Int) (t : Int)).1 > bq.1.2.1) = k3); (try generalize (pq.2 == 0) = k4); (try generalize pq.1.1 = k5); (try generalize decide ((queueR ps Q1.2 (k : Int) (t : Int)).2 > pq.1.2.1) = k6); (try revert k1); (try revert k2); (try revert k3); (try revert k4); (try revert k5); (try revert k6); decide) | (intro h; simp_all))) ?_
    refine WG.y rfl rfl (by decide) (pureV_ok tab_ok rfl (by first | exact fun _ => rfl | exact fun h => h | ((try generalize (bq.2 == 0) = k1); (try generalize bq.1.1 = k2); (try generalize decide ((queueR ps Q1.2 (k : Int) (t : Int)).1 > bq.1.2.1) = k3); (try generalize (pq.2 == 0) = k4); (try generalize pq.1.1 = k5); (try generalize decide ((queueR ps Q1.2 (k : Int) (t : Int)).2 > pq.1.2.1) = k6); (try revert k1); (try revert k2); (try revert k3); (try revert k4); (try revert k5); (try revert k6); decide) | (intro h; simp_all))) ?_
    refine' WG.y rfl rfl (by decide) (Yl.loadG tab_ok rfl rfl rfl (by first | exact fun _ => rfl | exact fun h => h | ((try generalize (bq.2 == 0) = k1); (try generalize bq.1.1 = k2); (try generalize decide ((queueR ps Q1.2 (k : Int) (t : Int)).1 > bq.1.2.1) = k3); (try generalize (pq.2 == 0) = k4); (try generalize pq.1.1 = k5); (try generalize decide ((queueR ps Q1.2 (k : Int) (t : Int)).2 > pq.1.2.1) = k6); (try revert k1); (try revert k2); (try revert k3); (try revert k4); (try revert k5); (try revert k6); decide) | (intro h; simp_all)) ?r8 rfl ?h8 ?g8) ?_
    case r8 => apply Rd.addC; (exact Rd.blkC 0 rfl)
    case h8 => rfl
    case g8 => exact fun _ => trivial
    refine WG.y rfl rfl (by decide) (pureV_ok tab_ok rfl (by first | exact fun _ => rfl | exact fun h => h | ((try generalize (bq.2 == 0) = k1); (try generalize bq.1.1 = k2); (try generalize decide ((queueR ps Q1.2 (k : Int) (t : Int)).1 > bq.1.2.1) = k3); (try generalize (pq.2 == 0) = k4); (try generalize pq.1.1 = k5); (try generalize decide ((queueR ps Q1.2 (k : Int) (t : Int)).2 > pq.1.2.1) = k6); (try revert k1); (try revert k2); (try revert k3); (try revert k4); (try revert k5); (try revert k6); decide) | (intro h; simp_all))) ?_
    refine WG.y rfl rfl (by decide) (Yl.pand rfl rfl rfl (by first | exact fun _ => rfl | exact fun h => h | ((try generalize (bq.2 == 0) = k1); (try generalize bq.1.1 = k2); (try generalize decide ((queueR ps Q1.2 (k : Int) (t : Int)).1 > bq.1.2.1) = k3); (try generalize (pq.2 == 0) = k4); (try generalize pq.1.1 = k5); (try generalize decide ((queueR ps Q1.2 (k : Int) (t : Int)).2 > pq.1.2.1) = k6); (try revert k1); (try revert k2); (try revert k3); (try revert k4); (try revert k5); (try revert k6); decide) | (intro h; simp_all)) (by first | exact fun _ _ => rfl | ((try generalize (bq.2 == 0) = k1); (try generalize bq.1.1 = k2); (try generalize decide ((queueR ps Q1.2 (k : Int) (t : Int)).1 > bq.1.2.1) = k3); (try generalize (pq.2 == 0) = k4); (try generalize pq.1.1 = k5); (try generalize decide ((queueR ps Q1.2 (k : Int) (t : Int)).2 > pq.1.2.1) = k6); (try revert k1); (try revert k2); (try revert k3); (try revert k4); (try revert k5); (try revert k6); decide) | (intro h1 h2; simp_all))) ?_
    refine WG.y rfl rfl (by decide) (pureV_ok tab_ok rfl (by first | exact fun _ => rfl | exact fun h => h | ((try generalize (bq.2 == 0) = k1); (try generalize bq.1.1 = k2); (try generalize decide ((queueR ps Q1.2 (k : Int) (t : Int)).1 > bq.1.2.1) = k3); (try generalize (pq.2 == 0) = k4); (try generalize pq.1.1 = k5); (try generalize decide ((queueR ps Q1.2 (k : Int) (t : Int)).2 > pq.1.2.1) = k6); (try revert k1); (try revert k2); (try revert k3); (try revert k4); (try revert k5); (try revert k6); decide) | (intro h; simp_all))) ?_
    refine WG.y rfl rfl (by decide) (pureV_ok tab_ok rfl (by first | exact fun _ => rfl | exact fun h => h | ((try generalize (bq.2 == 0) = k1); (try generalize bq.1.1 = k2); (try generalize decide ((queueR ps Q1.2 (k : Int) (t : Int)).1 > bq.1.2.1) = k3); (try generalize (pq.2 == 0) = k4); (try generalize pq.1.1 = k5); (try generalize decide ((queueR ps Q1.2 (k : Int) (t : Int)).2 > pq.1.2.1) = k6); (try revert k1); (try revert k2); (try revert k3); (try revert k4); (try revert k5); (try revert k6); decide) | (intro h; simp_all))) ?_
    refine WG.y rfl rfl (by decide) (pureV_ok tab_ok rfl (by first | exact fun _ => rfl | exact fun h => h | ((try generalize (bq.2 == 0) = k1); (try generalize bq.1.1 = k2); (try generalize decide ((queueR ps Q1.2 (k : Int) (t : Int)).1 > bq.1.2.1) = k3); (try generalize (pq.2 == 0) = k4); (try generalize pq.1.1 = k5); (try generalize decide ((queueR ps Q1.2 (k : Int) (t : Int)).2 > pq.1.2.1) = k6); (try revert k1); (try revert k2); (try revert k3); (try revert k4); (try revert k5); (try revert k6); decide) | (intro h; simp_all))) ?_
    refine' WG.y rfl rfl (by decide) (Yl.loadG tab_ok rfl rfl rfl (by first | exact fun _ => rfl | exact fun h => h | ((try generalize (bq.2 == 0) = k1); (try generalize bq.1.1 = k2); (try generalize decide ((queueR ps Q1.2 (k : Int) (t : Int)).1 > bq.1.2.1) = k3); (try generalize (pq.2 == 0) = k4); (try generalize pq.1.1 = k5); (try generalize decide ((queueR ps Q1.2 (k : Int) (t : Int)).2 > pq.1.2.1) = k6); (try revert k1); (try revert k2); (try revert k3); (try revert k4); (try revert k5); (try revert k6); decide) | (intro h; simp_all)) ?r9 rfl ?h9 ?g9) ?_
    case r9 => apply Rd.addC; (exact Rd.blkC 0 rfl)
    case h9 => rfl
    case g9 => exact fun _ => trivial
    refine WG.y rfl rfl (by decide) (pureV_ok tab_ok rfl (by first | exact fun _ => rfl | exact fun h => h | ((try generalize (bq.2 == 0) = k1); (try generalize bq.1.1 = k2); (try generalize decide ((queueR ps Q1.2 (k : Int) (t : Int)).1 > bq.1.2.1) = k3); (try generalize (pq.2 == 0) = k4); (try generalize pq.1.1 = k5); (try generalize decide ((queueR ps Q1.2 (k : Int) (t : Int)).2 > pq.1.2.1) = k6); (try revert k1); (try revert k2); (try revert k3); (try revert k4); (try revert k5); (try revert k6); decide) | (intro h; simp_all))) ?_
    refine WG.y rfl rfl (by decide) (Yl.pand rfl rfl rfl (by first | exact fun _ => rfl | exact fun h => h | ((try generalize (bq.2 == 0) = k1); (try generalize bq.1.1 = k2); (try generalize decide ((queueR ps Q1.2 (k : Int) (t : Int)).1 > bq.1.2.1) = k3); (try generalize (pq.2 == 0) = k4); (try generalize pq.1.1 = k5); (try generalize decide ((queueR ps Q1.2 (k : Int) (t : Int)).2 > pq.1.2.1) = k6); (try revert k1); (try revert k2); (try revert k3); (try revert k4); (try revert k5); (try revert k6); decide) | (intro h; simp_all)) (by first | exact fun _ _ => rfl | ((try generalize (bq.2 == 0) = k1); (try generalize bq.1.1 = k2); (try generalize decide ((queueR ps Q1.2 (k : Int) (t : Int)).1 > bq.1.2.1) = k3); (try generalize (pq.2 == 0) = k4); (try generalize pq.1.1 = k5); (try generalize decide ((queueR ps Q1.2 (k : Int) (t : Int)).2 > pq.1.2.1) = k6); (try revert k1); (try revert k2); (try revert k3); (try revert k4); (try revert k5); (try revert k6); decide) | (intro h1 h2; simp_all))) ?_
    refine WG.y rfl rfl (by decide) (Yl.por rfl rfl rfl (fun _ => rfl) (by first | exact fun _ _ => rfl | ((try generalize (bq.2 == 0) = k1); (try generalize bq.1.1 = k2); (try generalize decide ((queueR ps Q1.2 (k : Int) (t : Int)).1 > bq.1.2.1) = k3); (try generalize (pq.2 == 0) = k4); (try generalize pq.1.1 = k5); (try generalize decide ((queueR ps Q1.2 (k : Int) (t : Int)).2 > pq.1.2.1) = k6); (try revert k1); (try revert k2); (try revert k3); (try revert k4); (try revert k5); (try revert k6); decide) | (intro h1 h2; simp_all))) ?_
    refine zN (zU ?_)
    refine W.cond rfl (fun hc3 => ?_) (fun hc3 => ?_)
    ·try simp only [zk] at hc3
     exfalso
     rw [hqc] at hc3
     rcases hc3 with ⟨⟨q2, q4⟩, q5⟩ | ⟨⟨q2, q4⟩, q5⟩
     ·have := hbl q2 (by simpa using q4) t ht100
      dsimp only at q5
      simp only [Nat.add_zero] at this
      omega
     ·have := hpk q2 (by simpa using q4) t ht100
      dsimp only at q5
      rw [show ((t + 1 : Nat) : Int) = (t : Int) + 1 by omega] at this
      omega
    ·try simp only [zk] at hc3
     refine zK (zL (zU (zG (zR 1 rfl ?_))))
     refine yA ?_
     refine zR 1 rfl (zN ?_)
     refine WE.again (t + 1) qO (by (try dsimp only); omega) ⟨rfl, rfl, rfl, rfl, rfl, rfl, rfl, rfl, rfl, rfl, rfl, rfl⟩ (RLe.refl _) qS
   ·try dsimp only at hc2
    refine zX ?_
    refine wx (wx (zY (zL (zU (zG (zR 1 rfl ?_))))))
    refine yA ?_
    refine zR 1 rfl (zN ?_)
    refine WE.again ((k + 1, RD)) (⟨by dsimp only; omega, hRk.trans (hRC.trans hRD)⟩) (by (try dsimp only); omega) ⟨rfl, rfl, rfl, rfl, rfl, rfl, rfl⟩ (RLe.refl _) qS
  ·try dsimp only at hc1
   refine zX ?_
   refine wx (wx (zY (zU (zQ (zG ?_)))))
   refine WL.call en18 rfl rfl qD (CallOp.mkT rfl rfl rfl rfl) (Awake22_C w0 _) ?_
   rintro _ R13 E9 hR13 ⟨rfl, hsub9⟩
   refine WL.subE hsub9 ?_
   refine zR 1 rfl (zN (zU (zT ?_)))
   refine WE.retF tab_ok [_] rfl ⟨rfl, trivial⟩ (by first | exact hR0.trans (hR1.trans (hR2.trans (hR2b.trans (hR3.trans (hRk.trans hR13))))) | exact hR0.trans (hR1.trans (hR2.trans (hR2b.trans (hR3.trans (hRk.trans (hRC.trans hRD)))))) | exact hR0.trans (hR1.trans (hR2.trans (hR2b.trans (hR3.trans (RLe.refl _)))))) ?_
   exact rfl

end Go.Proofs.YthpblaoehlgpfaaGreat

/- ServerQueues: for every list of numbers the law returns true, and the list reads afterwards as it read before. No condition. -/
namespace Go.Proofs.YthpblaoehlgpfaaGreat
open Go Go.RowKit Go.ChangeShapes Go.WideShapes Go.ChangeAt Go.WideElems Go.Maps Go.Proofs.YthpblaoehlgpfaaGreat.K
namespace serverQueues
theorem law : LawI Tryz.prog 4 := fun ha hc w0 => ServerQueues_F ha hc w0
theorem own : ownKnob Tryz.prog.godebug = none := by kernel_rfl
theorem laidOut : laidOutB Tryz.prog = true := by kernel_rfl
theorem cellsI : Tryz.prog.cellsOf 3 = 1 := by kernel_rfl
set_option maxRecDepth 100000 in
theorem lifted (os : Os) (started : os.Started) (H : Type) (enc : TypeId × Value → H) :
  ReturnsInHanded {} Tryz.checked os 4 .any (Rows.serverQueuesSpec.pre6 enc Tryz.prog Tryz.f4 Rows.serverQueuesRow.domain false) (Rows.serverQueuesSpec.post enc Tryz.prog Tryz.f4 false true false false) := by
 refine returnsInHanded_of_change (C := Tryz.checked) own started (by kernel_rfl) Tryz.func4
  (ChangeSpec.witness6 (enc := enc) (C := Tryz.checked) false ⟨#[], #[.slice none 0 0], []⟩ 8 (by kernel_rfl) (by kernel_rfl) (by kernel_rfl) (by kernel_rfl)) ?_
 intro W base args ds gs before hval0 hW _ _
 have hval : ∀ (j : Nat) t v, Tryz.f4.params[j]? = some t → args[j]? = some v → Value.okWide Tryz.prog W .any base t v := hval0
 have hW' := hW
 obtain ⟨p, q, hA0, hV, rfl, _, _⟩ := hW
 have hA : DataW.TrodAll enc Tryz.prog W 0 (fun _ => true) true Tryz.f4.params.toList args.toList ds p := hA0
 rw [Tryz.params4] at hA hval
 obtain ⟨v0, d0, rfl, rfl, h0⟩ := trodAll_one hA
 obtain ⟨rfl, rfl⟩ := trodVars_none hV
 have h0k := h0
 obtain ⟨fuel, hf⟩ := h0
 clear hA0 hval0
 simp only [List.append_nil] at hW'
 have hlt : ∀ x ∈ p, x.block < W.heap.size := fun x hx => by simpa using hW'.lt x hx
 have hargs : ∀ W', Below W.heap.size W W' → DataW.Trod enc Tryz.prog W' 0 (fun b => decide (b < W.heap.size)) true 22 v0 d0 p := fun W' hb =>
  Below.trod laidOut (by kernel_rfl) (of_decide_eq_true (by kernel_rfl)) h0k hb hlt
 obtain ⟨a0, len, cap, rfl⟩ := okWide_slice Tryz.underlying22 (hval 0 22 v0 rfl rfl)
 rcases open_ints Tryz.underlying22 Tryz.underlying3 cellsI hf with ⟨hcs, hx⟩ | ⟨a, len', cap', zs, hcs, _, hl, hm, hz, hx, hcell, hwz⟩
 ·simp [Value.cells] at hcs
  obtain ⟨rfl, rfl, rfl⟩ := hcs
  simp only [Prod.mk.injEq] at hx
  obtain ⟨rfl, rfl⟩ := hx
  refine (law.nil W).mono fun e W' ⟨he, hb⟩ => ?_
  subst he
  exact ⟨_, rfl, ⟨_, _, _, [], _, [], hW', trodAll_mk1 (shut_bool Tryz.underlying4 _), trodAll_mk1 (hargs W' hb), rfl, hb.frame _, fun h => by cases h⟩⟩
 ·simp [Value.cells] at hcs
  obtain ⟨rfl, rfl, rfl⟩ := hcs
  simp only [Prod.mk.injEq] at hx
  obtain ⟨rfl, rfl⟩ := hx
  simp only [if_true] at hz
  refine (law.some (len := len) hcell (by rw [hz]; simp only [maxLen] at hm; omega) hz hl).mono fun e W' ⟨he, hb⟩ => ?_
  subst he
  exact ⟨_, rfl, ⟨_, _, _, [], _, [], hW', trodAll_mk1 (shut_bool Tryz.underlying4 _), trodAll_mk1 (hargs W' hb), rfl, hb.frame _, fun h => by cases h⟩⟩
end serverQueues
theorem serverQueues_holds : Rows.ServerQueuesSaid :=
 OpenClaim.holds_of_wide 4 Tryz.f4 rfl rfl rfl rfl rfl rfl rfl ⟨rfl, rfl, rfl, rfl, rfl⟩ rfl rfl rfl rfl rfl (by kernel_rfl) Tryz.func4 (by kernel_rfl)
  (of_decide_eq_true (by kernel_rfl)) (by unfold Func.isWrapper; first | (rw [if_pos (by decide +kernel)]; kernel_rfl) | (rw [if_neg (by decide +kernel)]; exact ⟨rfl, rfl⟩))
  (fun os started H enc _ => serverQueues.lifted os started H enc)
end Go.Proofs.YthpblaoehlgpfaaGreat
