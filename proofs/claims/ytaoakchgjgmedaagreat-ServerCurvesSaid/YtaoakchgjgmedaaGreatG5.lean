/- Rules and walks, joined from 34 texts: the first of them says: Chapter 22: the lists of each kind. No condition. -/
import Derived.Test.YtaoakchgjgmedaaGreatG4
set_option maxRecDepth 4000
set_option linter.unusedSimpArgs false
set_option linter.unusedVariables false
namespace Go.Proofs.YtaoakchgjgmedaaGreat
open Go Go.RowKit Go.Proofs.YtaoakchgjgmedaaGreat.K Go.Proofs.YtaoakchgjgmedaaGreat.M
theorem ChkFifo_V {R : Ro} {aw at_ : Option Addr} {lw cw lt ct : Nat} {L : Ln} (hw : RS R 1 encI aw L.w) (hlw : L.w.length = lw) (ht : RS R 1 encI at_ L.tb) (hlt : L.tb.length = lt) (hn : 1 ≤ L.n ∧ L.n ≤ 6) : FnV Tryz.prog 137 [.agg #[], .agg #[.int .i64 L.kind, .int .i64 L.cap, .int .i64 L.n, .slice aw lw cw, .slice at_ lt ct]] R (.int .i64 (listsE true [L.w, L.tb])) := by
 subst hlw
 subst hlt
 have hw1 := hw.len
 have ht1 := ht.len
 refine Fn.toV (fun w0 E => ?_)
 refine fE 11 Tryz.func137 ?_
 refine zQ (zG ?_)
 refine zO fun b2 => ?_
 refine zO fun b3 => ?_
 refine zR 1 rfl (zN (zU (zQ (zG (zR 1 rfl ?_)))))
 refine yM 0 ?_
 refine zR 1 rfl ?_
 refine yM 0 ?_
 refine WL.ef rfl rfl qD (Ef.buildSliceD (enc := encS) (parts := [.tmp 6, .tmp 8]) [⟨_, _, _⟩, ⟨_, _, _⟩] tab_ok rfl rfl rfl rfl rfl rfl rfl rfl qD qD (fun a9 => ?_))
 refine WL.freeze (enc := encS) (xs := [⟨aw, cw, L.w⟩, ⟨at_, ct, L.tb⟩]) 0 rfl ?_
 intro R1 hR1 hz
 refine WG.callV en140 rfl rfl qD (CallOp.mk' rfl rfl rfl rfl) (fun _ => rfl) (fun hg => Lists_V (rows := [⟨aw, cw, L.w⟩, ⟨at_, ct, L.tb⟩]) hz) ?_
 refine zR 1 rfl (zN (zU (zT ?_)))
 refine sE (E := E) ?_
 refine zq1 (hR1) ?_
 exact ⟨rfl, rfl⟩
theorem ChkRanks_V {R : Ro} {aw at_ : Option Addr} {lw cw lt ct : Nat} {L : Ln} (hw : RS R 1 encI aw L.w) (hlw : L.w.length = lw) (ht : RS R 1 encI at_ L.tb) (hlt : L.tb.length = lt) (hn : 1 ≤ L.n ∧ L.n ≤ 6) : FnV Tryz.prog 147 [.agg #[], .agg #[.int .i64 L.kind, .int .i64 L.cap, .int .i64 L.n, .slice aw lw cw, .slice at_ lt ct]] R (.int .i64 (listsE true [L.w, L.tb])) := by
 subst hlw
 subst hlt
 have hw1 := hw.len
 have ht1 := ht.len
 refine Fn.toV (fun w0 E => ?_)
 refine fE 11 Tryz.func147 ?_
 refine zQ (zG ?_)
 refine zO fun b2 => ?_
 refine zO fun b3 => ?_
 refine zR 1 rfl (zN (zU (zQ (zG (zR 1 rfl ?_)))))
 refine yM 0 ?_
 refine zR 1 rfl ?_
 refine yM 0 ?_
 refine WL.ef rfl rfl qD (Ef.buildSliceD (enc := encS) (parts := [.tmp 6, .tmp 8]) [⟨_, _, _⟩, ⟨_, _, _⟩] tab_ok rfl rfl rfl rfl rfl rfl rfl rfl qD qD (fun a9 => ?_))
 refine WL.freeze (enc := encS) (xs := [⟨aw, cw, L.w⟩, ⟨at_, ct, L.tb⟩]) 0 rfl ?_
 intro R1 hR1 hz
 refine WG.callV en140 rfl rfl qD (CallOp.mk' rfl rfl rfl rfl) (fun _ => rfl) (fun hg => Lists_V (rows := [⟨aw, cw, L.w⟩, ⟨at_, ct, L.tb⟩]) hz) ?_
 refine zR 1 rfl (zN (zU (zT ?_)))
 refine sE (E := E) ?_
 refine zq1 (hR1) ?_
 exact ⟨rfl, rfl⟩
theorem ChkRobin_V {R : Ro} {aw at_ : Option Addr} {lw cw lt ct : Nat} {L : Ln} (hw : RS R 1 encI aw L.w) (hlw : L.w.length = lw) (ht : RS R 1 encI at_ L.tb) (hlt : L.tb.length = lt) (hn : 1 ≤ L.n ∧ L.n ≤ 6) : FnV Tryz.prog 161 [.agg #[], .agg #[.int .i64 L.kind, .int .i64 L.cap, .int .i64 L.n, .slice aw lw cw, .slice at_ lt ct]] R (.int .i64 (listsE (decide ((L.w.length : Int) = L.n) && withinB L.w 1 20) [L.tb])) := by
 subst hlw
 subst hlt
 have hw1 := hw.len
 have ht1 := ht.len
 refine Fn.toV (fun w0 E => ?_)
 refine fE 20 Tryz.func161 ?_
 refine zQ (zG ?_)
 refine zO fun b2 => ?_
 refine zO fun b3 => ?_
 refine zR 1 rfl (zN (zU (zQ ?_)))
 refine W.regionH _ (ES := (.blk b3 [.int .i64 L.kind, .int .i64 L.cap, .int .i64 L.n, .slice aw L.w.length cw, .slice at_ L.tb.length ct] :: .blk b2 [] :: E)) mixed ?_
 refine tP 0 ?_
 refine tL 1 (Rd.add (Rd.blk 0 rfl) _) ?_
 refine tP 2 ?_
 refine tP 3 ?_
 refine tL 4 (Rd.add (Rd.blk 0 rfl) _) ?_
 refine tP 5 ?_
 refine tP 6 ?_
 refine WA.take 7 rfl qK qK qK rfl rfl qD (pureV_ok tab_ok rfl qE) qS qR ?_
 refine' WA.take 8 rfl qK qK qK rfl rfl qD (Yl.loadG tab_ok rfl rfl rfl qE ?r3 rfl ?h3 ?g3) qS qR ?_
 case r3 => apply Rd.addC; (exact Rd.blkC 0 rfl)
 case h3 => rfl
 case g3 => exact fun _ => trivial
 refine tP 11 ?_
 refine tL 12 (Rd.add (Rd.blk 0 rfl) _) ?_
 refine WA.br2 (i := 9) (j := 13) qK ?_ ?_
 ·
  refine WS.callV rfl en164 rfl rfl qD (CallOp.mk' rfl rfl rfl rfl) qE (fun hg => Within_V (by first | exact hw | exact hw.mono hR1) rfl) qS qR ?_
  refine WA.take 10 rfl (by kernel_rfl) (by kernel_rfl) (by kernel_rfl) rfl rfl (by decide) (Yl.pand rfl rfl rfl (fun _ => rfl) (by intro h1 h2; simp_all <;> omega)) qS (by first | exact RLe.refl _ | assumption) ?_
  refine WA.eff 13 rfl qK rfl rfl qD (Ef.buildSliceD (enc := encS) (parts := [.tmp 17]) [⟨_, _, _⟩] tab_ok rfl rfl rfl rfl rfl rfl rfl rfl qD qD (fun a18 => ?_))
  refine ⟨qR, qS, ?_⟩
  refine WA.freeze (enc := encS) (xs := [⟨at_, ct, L.tb⟩]) 0 rfl ?_
  intro R1 hR1 hz
  refine WA.callV 14 rfl qK en140 rfl rfl qD (CallOp.mk' rfl rfl rfl rfl) (fun _ => rfl) (fun hg => Lists_V (rows := [⟨at_, ct, L.tb⟩]) hz) qS qR ?_
  refine tP 15 ?_
  refine WA.done qK ?_
  refine zU (zT ?_)
  refine sE (E := E) ?_
  refine zq1 (hR1) ?_
  exact ⟨rfl, rfl⟩
 ·
  refine WS.eff rfl rfl rfl qD (Ef.buildSliceD (enc := encS) (parts := [.tmp 17]) [⟨_, _, _⟩] tab_ok rfl rfl rfl rfl rfl rfl rfl rfl qD qD (fun a18 => ?_))
  refine ⟨qR, qS, ?_⟩
  refine WA.freeze (enc := encS) (xs := [⟨at_, ct, L.tb⟩]) 0 rfl ?_
  intro R1 hR1 hz
  refine WA.callV 9 rfl qK en164 rfl rfl qD (CallOp.mk' rfl rfl rfl rfl) qE (fun hg => Within_V (by first | exact hw | exact hw.mono hR1) rfl) qS qR ?_
  refine WA.take 10 rfl (by kernel_rfl) (by kernel_rfl) (by kernel_rfl) rfl rfl (by decide) (Yl.pand rfl rfl rfl (fun _ => rfl) (by intro h1 h2; simp_all <;> omega)) qS (by first | exact RLe.refl _ | assumption) ?_
  refine WA.callV 14 rfl qK en140 rfl rfl qD (CallOp.mk' rfl rfl rfl rfl) (fun _ => rfl) (fun hg => Lists_V (rows := [⟨at_, ct, L.tb⟩]) hz) qS qR ?_
  refine tP 15 ?_
  refine WA.done qK ?_
  refine zU (zT ?_)
  refine sE (E := E) ?_
  refine zq1 (hR1) ?_
  exact ⟨rfl, rfl⟩
theorem ChkDef_V {R : Ro} {aw at_ : Option Addr} {lw cw lt ct : Nat} {L : Ln} (hw : RS R 1 encI aw L.w) (hlw : L.w.length = lw) (ht : RS R 1 encI at_ L.tb) (hlt : L.tb.length = lt) (hn : 1 ≤ L.n ∧ L.n ≤ 6) : FnV Tryz.prog 178 [.agg #[], .agg #[.int .i64 L.kind, .int .i64 L.cap, .int .i64 L.n, .slice aw lw cw, .slice at_ lt ct]] R (.int .i64 (listsE (decide ((L.w.length : Int) = L.n) && withinB L.w 1 6000) [L.tb])) := by
 subst hlw
 subst hlt
 have hw1 := hw.len
 have ht1 := ht.len
 refine Fn.toV (fun w0 E => ?_)
 refine fE 20 Tryz.func178 ?_
 refine zQ (zG ?_)
 refine zO fun b2 => ?_
 refine zO fun b3 => ?_
 refine zR 1 rfl (zN (zU (zQ ?_)))
 refine W.regionH _ (ES := (.blk b3 [.int .i64 L.kind, .int .i64 L.cap, .int .i64 L.n, .slice aw L.w.length cw, .slice at_ L.tb.length ct] :: .blk b2 [] :: E)) mixed ?_
 refine tP 0 ?_
 refine tL 1 (Rd.add (Rd.blk 0 rfl) _) ?_
 refine tP 2 ?_
 refine tP 3 ?_
 refine tL 4 (Rd.add (Rd.blk 0 rfl) _) ?_
 refine tP 5 ?_
 refine tP 6 ?_
 refine WA.take 7 rfl qK qK qK rfl rfl qD (pureV_ok tab_ok rfl qE) qS qR ?_
 refine' WA.take 8 rfl qK qK qK rfl rfl qD (Yl.loadG tab_ok rfl rfl rfl qE ?r3 rfl ?h3 ?g3) qS qR ?_
 case r3 => apply Rd.addC; (exact Rd.blkC 0 rfl)
 case h3 => rfl
 case g3 => exact fun _ => trivial
 refine tP 11 ?_
 refine tL 12 (Rd.add (Rd.blk 0 rfl) _) ?_
 refine WA.br2 (i := 9) (j := 13) qK ?_ ?_
 ·
  refine WS.callV rfl en164 rfl rfl qD (CallOp.mk' rfl rfl rfl rfl) qE (fun hg => Within_V (by first | exact hw | exact hw.mono hR1) rfl) qS qR ?_
  refine WA.take 10 rfl (by kernel_rfl) (by kernel_rfl) (by kernel_rfl) rfl rfl (by decide) (Yl.pand rfl rfl rfl (fun _ => rfl) (by intro h1 h2; simp_all <;> omega)) qS (by first | exact RLe.refl _ | assumption) ?_
  refine WA.eff 13 rfl qK rfl rfl qD (Ef.buildSliceD (enc := encS) (parts := [.tmp 17]) [⟨_, _, _⟩] tab_ok rfl rfl rfl rfl rfl rfl rfl rfl qD qD (fun a18 => ?_))
  refine ⟨qR, qS, ?_⟩
  refine WA.freeze (enc := encS) (xs := [⟨at_, ct, L.tb⟩]) 0 rfl ?_
  intro R1 hR1 hz
  refine WA.callV 14 rfl qK en140 rfl rfl qD (CallOp.mk' rfl rfl rfl rfl) (fun _ => rfl) (fun hg => Lists_V (rows := [⟨at_, ct, L.tb⟩]) hz) qS qR ?_
  refine tP 15 ?_
  refine WA.done qK ?_
  refine zU (zT ?_)
  refine sE (E := E) ?_
  refine zq1 (hR1) ?_
  exact ⟨rfl, rfl⟩
 ·
  refine WS.eff rfl rfl rfl qD (Ef.buildSliceD (enc := encS) (parts := [.tmp 17]) [⟨_, _, _⟩] tab_ok rfl rfl rfl rfl rfl rfl rfl rfl qD qD (fun a18 => ?_))
  refine ⟨qR, qS, ?_⟩
  refine WA.freeze (enc := encS) (xs := [⟨at_, ct, L.tb⟩]) 0 rfl ?_
  intro R1 hR1 hz
  refine WA.callV 9 rfl qK en164 rfl rfl qD (CallOp.mk' rfl rfl rfl rfl) qE (fun hg => Within_V (by first | exact hw | exact hw.mono hR1) rfl) qS qR ?_
  refine WA.take 10 rfl (by kernel_rfl) (by kernel_rfl) (by kernel_rfl) rfl rfl (by decide) (Yl.pand rfl rfl rfl (fun _ => rfl) (by intro h1 h2; simp_all <;> omega)) qS (by first | exact RLe.refl _ | assumption) ?_
  refine WA.callV 14 rfl qK en140 rfl rfl qD (CallOp.mk' rfl rfl rfl rfl) (fun _ => rfl) (fun hg => Lists_V (rows := [⟨at_, ct, L.tb⟩]) hz) qS qR ?_
  refine tP 15 ?_
  refine WA.done qK ?_
  refine zU (zT ?_)
  refine sE (E := E) ?_
  refine zq1 (hR1) ?_
  exact ⟨rfl, rfl⟩
theorem ChkTimes_V {R : Ro} {aw at_ : Option Addr} {lw cw lt ct : Nat} {L : Ln} (hw : RS R 1 encI aw L.w) (hlw : L.w.length = lw) (ht : RS R 1 encI at_ L.tb) (hlt : L.tb.length = lt) (hn : 1 ≤ L.n ∧ L.n ≤ 6) : FnV Tryz.prog 191 [.agg #[], .agg #[.int .i64 L.kind, .int .i64 L.cap, .int .i64 L.n, .slice aw lw cw, .slice at_ lt ct]] R (.int .i64 (listsE (decide (1 ≤ (L.tb.length : Int)) && decide ((L.tb.length : Int) ≤ 40) && withinB L.tb (-1) (L.n - 1)) [L.w])) := by
 subst hlw
 subst hlt
 have hw1 := hw.len
 have ht1 := ht.len
 refine Fn.toV (fun w0 E => ?_)
 refine fE 27 Tryz.func191 ?_
 refine zQ (zG ?_)
 refine zO fun b2 => ?_
 refine zO fun b3 => ?_
 refine zR 1 rfl (zN (zU (zQ ?_)))
 refine W.regionH _ (ES := (.blk b3 [.int .i64 L.kind, .int .i64 L.cap, .int .i64 L.n, .slice aw L.w.length cw, .slice at_ L.tb.length ct] :: .blk b2 [] :: E)) mixed ?_
 refine tP 0 ?_
 refine tL 1 (Rd.add (Rd.blk 0 rfl) _) ?_
 refine tP 2 ?_
 refine tP 3 ?_
 refine tP 4 ?_
 refine WA.take 5 rfl qK qK qK rfl rfl qD (pureV_ok tab_ok rfl qE) qS qR ?_
 refine' WA.take 6 rfl qK qK qK rfl rfl qD (Yl.loadG tab_ok rfl rfl rfl qE ?r2 rfl ?h2 ?g2) qS qR ?_
 case r2 => apply Rd.addC; (exact Rd.blkC 0 rfl)
 case h2 => rfl
 case g2 => exact fun _ => trivial
 refine WA.take 7 rfl qK qK qK rfl rfl qD (pureV_ok tab_ok rfl qE) qS qR ?_
 refine WA.take 8 rfl qK qK qK rfl rfl qD (pureV_ok tab_ok rfl qE) qS qR ?_
 refine WA.take 9 rfl (by kernel_rfl) (by kernel_rfl) (by kernel_rfl) rfl rfl (by decide) (Yl.pand rfl rfl rfl (fun _ => rfl) (by intro h1 h2; simp_all <;> omega)) qS (by first | exact RLe.refl _ | assumption) ?_
 refine tP 10 ?_
 refine WA.take 11 rfl qK qK qK rfl rfl qD (pureV_ok tab_ok rfl qE) qS qR ?_
 refine' WA.take 12 rfl qK qK qK rfl rfl qD (Yl.loadG tab_ok rfl rfl rfl qE ?r3 rfl ?h3 ?g3) qS qR ?_
 case r3 => apply Rd.addC; (exact Rd.blkC 0 rfl)
 case h3 => rfl
 case g3 => exact fun _ => trivial
 refine WA.take 13 rfl qK qK qK rfl rfl qD (pureV_ok tab_ok rfl qE) qS qR ?_
 refine' WA.take 14 rfl qK qK qK rfl rfl qD (Yl.loadG tab_ok rfl rfl rfl qE ?r4 rfl ?h4 ?g4) qS qR ?_
 case r4 => apply Rd.addC; (exact Rd.blkC 0 rfl)
 case h4 => rfl
 case g4 => exact fun _ => trivial
 refine WA.take 15 rfl (by kernel_rfl) (by kernel_rfl) (by kernel_rfl) rfl rfl (by decide) (Yl.sub rfl rfl rfl qE (by intro hg; (try simp only [zk] at hg); constructor <;> (try dsimp only) <;> omega)) qS (by first | exact RLe.refl _ | assumption) ?_
 refine tP 18 ?_
 refine tL 19 (Rd.add (Rd.blk 0 rfl) _) ?_
 refine WA.br2 (i := 16) (j := 20) qK ?_ ?_
 ·
  refine WS.callV rfl en164 rfl rfl qD (CallOp.mk' rfl rfl rfl rfl) qE (fun hg => Within_V (by first | exact ht | exact ht.mono hR1) rfl) qS qR ?_
  refine WA.take 17 rfl (by kernel_rfl) (by kernel_rfl) (by kernel_rfl) rfl rfl (by decide) (Yl.pand rfl rfl rfl (fun _ => rfl) (by intro h1 h2; simp_all <;> omega)) qS (by first | exact RLe.refl _ | assumption) ?_
  refine WA.eff 20 rfl qK rfl rfl qD (Ef.buildSliceD (enc := encS) (parts := [.tmp 24]) [⟨_, _, _⟩] tab_ok rfl rfl rfl rfl rfl rfl rfl rfl qD qD (fun a25 => ?_))
  refine ⟨qR, qS, ?_⟩
  refine WA.freeze (enc := encS) (xs := [⟨aw, cw, L.w⟩]) 0 rfl ?_
  intro R1 hR1 hz
  refine WA.callV 21 rfl qK en140 rfl rfl qD (CallOp.mk' rfl rfl rfl rfl) (fun _ => rfl) (fun hg => Lists_V (rows := [⟨aw, cw, L.w⟩]) hz) qS qR ?_
  refine tP 22 ?_
  refine WA.done qK ?_
  refine zU (zT ?_)
  refine sE (E := E) ?_
  refine zq1 (hR1) ?_
  exact ⟨rfl, rfl⟩
 ·
  refine WS.eff rfl rfl rfl qD (Ef.buildSliceD (enc := encS) (parts := [.tmp 24]) [⟨_, _, _⟩] tab_ok rfl rfl rfl rfl rfl rfl rfl rfl qD qD (fun a25 => ?_))
  refine ⟨qR, qS, ?_⟩
  refine WA.freeze (enc := encS) (xs := [⟨aw, cw, L.w⟩]) 0 rfl ?_
  intro R1 hR1 hz
  refine WA.callV 16 rfl qK en164 rfl rfl qD (CallOp.mk' rfl rfl rfl rfl) qE (fun hg => Within_V (by first | exact ht | exact ht.mono hR1) rfl) qS qR ?_
  refine WA.take 17 rfl (by kernel_rfl) (by kernel_rfl) (by kernel_rfl) rfl rfl (by decide) (Yl.pand rfl rfl rfl (fun _ => rfl) (by intro h1 h2; simp_all <;> omega)) qS (by first | exact RLe.refl _ | assumption) ?_
  refine WA.callV 21 rfl qK en140 rfl rfl qD (CallOp.mk' rfl rfl rfl rfl) (fun _ => rfl) (fun hg => Lists_V (rows := [⟨aw, cw, L.w⟩]) hz) qS qR ?_
  refine tP 22 ?_
  refine WA.done qK ?_
  refine zU (zT ?_)
  refine sE (E := E) ?_
  refine zq1 (hR1) ?_
  exact ⟨rfl, rfl⟩

theorem meth_check1 (x : Value) : Meth Tryz.prog 85 (.agg #[]) "netcalculus/server.check" 137 [x] := fun w => by kernel_rfl
theorem meth_run1 (x y z : Value) : Meth Tryz.prog 85 (.agg #[]) "netcalculus/server.run" 139 [x, y, z] := fun w => by kernel_rfl
theorem meth_check2 (x : Value) : Meth Tryz.prog 86 (.agg #[]) "netcalculus/server.check" 147 [x] := fun w => by kernel_rfl
theorem meth_check3 (x : Value) : Meth Tryz.prog 87 (.agg #[]) "netcalculus/server.check" 161 [x] := fun w => by kernel_rfl
theorem meth_check4 (x : Value) : Meth Tryz.prog 88 (.agg #[]) "netcalculus/server.check" 178 [x] := fun w => by kernel_rfl
theorem meth_check5 (x : Value) : Meth Tryz.prog 89 (.agg #[]) "netcalculus/server.check" 191 [x] := fun w => by kernel_rfl
theorem check_any {R : Ro} {aw at_ : Option Addr} {lw cw lt ct : Nat} {L : Ln} (hw : RS R 1 encI aw L.w) (hlw : L.w.length = lw) (ht : RS R 1 encI at_ L.tb) (hlt : L.tb.length = lt) (hn : 1 ≤ L.n ∧ L.n ≤ 6) (hk : 1 ≤ L.kind ∧ L.kind ≤ 5) :
  ∃ (T f : Nat), kindI L.kind = .iface T (.agg #[]) ∧ Meth Tryz.prog T (.agg #[]) "netcalculus/server.check" f [.agg #[.int .i64 L.kind, .int .i64 L.cap, .int .i64 L.n, .slice aw lw cw, .slice at_ lt ct]] ∧ FnV Tryz.prog f [.agg #[], .agg #[.int .i64 L.kind, .int .i64 L.cap, .int .i64 L.n, .slice aw lw cw, .slice at_ lt ct]] R (.int .i64 (lchkL L)) := by
 rcases (show L.kind = 1 ∨ L.kind = 2 ∨ L.kind = 3 ∨ L.kind = 4 ∨ L.kind = 5 by omega) with h | h | h | h | h
 ·exact ⟨_, _, by unfold kindI; rw [h]; rfl, meth_check1 _, by have e : lchkL L = _ := (show lchkL L = listsE true [L.w, L.tb] by unfold lchkL; rw [h]; rfl); rw [e]; exact ChkFifo_V hw hlw ht hlt hn⟩
 ·exact ⟨_, _, by unfold kindI; rw [h]; rfl, meth_check2 _, by have e : lchkL L = _ := (show lchkL L = listsE true [L.w, L.tb] by unfold lchkL; rw [h]; rfl); rw [e]; exact ChkRanks_V hw hlw ht hlt hn⟩
 ·exact ⟨_, _, by unfold kindI; rw [h]; rfl, meth_check3 _, by have e : lchkL L = _ := (show lchkL L = listsE (decide ((L.w.length : Int) = L.n) && withinB L.w 1 20) [L.tb] by unfold lchkL; rw [h]; rfl); rw [e]; exact ChkRobin_V hw hlw ht hlt hn⟩
 ·exact ⟨_, _, by unfold kindI; rw [h]; rfl, meth_check4 _, by have e : lchkL L = _ := (show lchkL L = listsE (decide ((L.w.length : Int) = L.n) && withinB L.w 1 6000) [L.tb] by unfold lchkL; rw [h]; rfl); rw [e]; exact ChkDef_V hw hlw ht hlt hn⟩
 ·exact ⟨_, _, by unfold kindI; rw [h]; rfl, meth_check5 _, by have e : lchkL L = _ := (show lchkL L = listsE (decide (1 ≤ (L.tb.length : Int)) && decide ((L.tb.length : Int) ≤ 40) && withinB L.tb (-1) (L.n - 1)) [L.w] by unfold lchkL; rw [h]; rfl); rw [e]; exact ChkTimes_V hw hlw ht hlt hn⟩
theorem ChkSrv_V {R : Ro} {aw at_ : Option Addr} {lw cw lt ct : Nat} {L : Ln} (hw : RS R 1 encI aw L.w) (hlw : L.w.length = lw) (ht : RS R 1 encI at_ L.tb) (hlt : L.tb.length = lt) : FnV Tryz.prog 26 [.agg #[.int .i64 L.kind, .int .i64 L.cap, .int .i64 L.n, .slice aw lw cw, .slice at_ lt ct]] R (.int .i64 (chkL L)) := by
 refine Fn.toV (fun w0 E => ?_)
 refine fE 34 Tryz.func26 ?_
 refine zQ (zG ?_)
 refine zO fun b1 => ?_
 refine zR 1 rfl (zN (zU (zQ (zG (zR 1 rfl ?_)))))
 refine yM 0 ?_
 refine WG.callV en32 rfl rfl qD (CallOp.mk' rfl rfl rfl rfl) (fun _ => rfl) (fun hg => Kind_V L.kind) ?_
 refine zR 5 rfl (zN (zU (zQ (zQ (zG (zR 2 rfl (zN (zU ?_))))))))
 refine cC rfl ?_ ?_ <;> intro hc0
 ·try simp only [zk] at hc0
  have e : chkL L = 9 := by
   unfold chkL
   rw [if_pos]
   unfold kindB at hc0
   simp only [Bool.and_eq_false_iff, decide_eq_false_iff_not] at hc0
   omega
  refine zQ (zG (zR 1 rfl (zN (zU (zT (wt ?_))))))
  refine sE (E := E) ?_
  refine zr1 ?_
  exact ⟨by rw [e]; rfl, rfl⟩
 ·try simp only [zk] at hc0
  have hkk : 1 ≤ L.kind ∧ L.kind ≤ 5 := by
   unfold kindB at hc0
   simpa using hc0
  refine zK (zU (zQ (zQ (zG (zR 1 rfl ?_)))))
  refine yM 0 ?_
  refine zR 2 rfl ?_
  refine yP ?_
  refine yG (Rd.addC (Rd.blkC 0 rfl) _) ?_
  refine yP ?_
  refine yO ?_
  refine zR 1 rfl ?_
  refine yP ?_
  refine yG (Rd.addC (Rd.blkC 0 rfl) _) ?_
  refine yP ?_
  refine yO ?_
  refine zR 1 rfl ?_
  refine yP ?_
  refine yG (Rd.addC (Rd.blkC 0 rfl) _) ?_
  refine yP ?_
  refine yO ?_
  refine zN (zU ?_)
  refine cC rfl ?_ ?_ <;> intro hc1
  ·try simp only [zk] at hc1
   have e : chkL L = 2 := by unfold chkL; rw [if_neg (by omega), if_pos (by omega)]
   refine zQ (zG (zR 1 rfl (zN (zU (zT (wt ?_))))))
   refine sE (E := E) ?_
   refine zr1 ?_
   exact ⟨by rw [e]; rfl, rfl⟩
  ·try simp only [zk] at hc1
   have hn : 1 ≤ L.n ∧ L.n ≤ 6 := by omega
   have e : chkL L = lchkL L := by unfold chkL; rw [if_neg (by omega), if_neg (by omega)]
   obtain ⟨T9, f9, e9, m9, v9⟩ := check_any (R := R) (lw := lw) (lt := lt) (cw := cw) (ct := ct) hw hlw ht hlt hn hkk
   refine zK (zU ?_)
   rw [e9]
   refine zQ (zG (zR 1 rfl ?_))
   refine yB 0 ?_
   refine WL.callI (args := [.tmp 32]) rfl rfl rfl qD rfl rfl (m9) (v9.toFn) ?_
   rintro _ _ _ - ⟨rfl, rfl, rfl⟩
   refine zR 1 rfl (zN (zU (zT ?_)))
   refine sE (E := E) ?_
   refine zr1 ?_
   exact ⟨by rw [e]; rfl, rfl⟩





theorem Weighed20_V {R : Ro} {a : Option Addr} {c : Nat} {w : List Int} (ha : RS R 1 encI a w) : FnV Tryz.prog 188 [.slice a w.length c] R (.bool (okW 6000 w)) := by
 have hla := ha.len
 refine Fn.toV (fun w0 E => ?_)
 refine fE 18 Tryz.func188 ?_
 refine zQ (zG (zR 1 rfl (zN (zU (zQ (zQ (zG (zR 3 rfl (zN (zU (zB ?_)))))))))))
 refine W.loopK (β := Nat) (fun k => k ≤ w.length ∧ ∀ j, j < k → 1 ≤ nth w j ∧ nth w j ≤ 6000) (fun k => [(7, true, .int .i64 (k : Int))]) [5, 6] [_, _] [] _ rfl (fun k => []) (fun k => w.length - k) (0) (⟨Nat.zero_le _, fun j hj => by omega⟩) ⟨rfl, rfl, rfl, rfl⟩ qS ?_
 intro k hst
 refine zQ (zG (zR 1 rfl (zN (zU (zQ ?_)))))
 refine cD rfl ?_ ?_ <;> intro hc0
 ·
  refine zK (zU (zQ (zB (zQ (zG ?_)))))
  refine yI ?_
  refine yD (r := by ((apply RS.rdD; assumption; ((try dsimp only) <;> omega)))) (k := ?_)
  refine zR 1 rfl (zN (zU (zQ (zG (zR 3 rfl ?_)))))
  refine yP ?_
  refine yP ?_
  refine yO ?_
  refine zN (zU ?_)
  refine cC rfl ?_ ?_ <;> intro hc1
  ·try simp only [zk] at hc1
   have hkl : k < w.length := by omega
   refine zQ (zG (zR 1 rfl (zN (zU (zT (wb (wt (wt (wb (wt ?_))))))))))
   refine sE (E := E) ?_
   refine zr1 ?_
   refine ⟨congrArg Value.bool ?_, rfl⟩
   symm
   rw [← Bool.not_eq_true]
   intro h
   have := okW_iff.1 h _ (nth_mem hkl)
   omega
  ·try simp only [zk] at hc1
   refine zK (zL (zU (zG ?_)))
   refine yA ?_
   refine zR 1 rfl (zN ?_)
   refine WE.again (k + 1) (⟨by omega, fun j hj => by
    by_cases e : j = k
    ·subst e; omega
    ·exact hst.2 j (by omega)⟩) (by (try dsimp only); omega) ⟨rfl, rfl, rfl, rfl⟩ (RLe.refl _) qS
 ·
  refine zX ?_
  refine wx (wx (zY (zU (zQ (zG (zR 1 rfl (zN (zU (zT ?_)))))))))
  refine sE (E := E) ?_
  refine zr1 ?_
  refine ⟨congrArg Value.bool ?_, rfl⟩
  symm
  exact okW_iff.2 (all_of_nth (fun j hj => hst.2 j qO))
theorem Right20_V {R : Ro} {a : Option Addr} {c : Nat} {w : List Int} (ha : RS R 1 encI a w) : FnV Tryz.prog 97 [.slice a w.length c] R (.bool (okW 6000 w)) := by
 have hla := ha.len
 refine Fn.toV (fun w0 E => ?_)
 refine fE 22 Tryz.func97 ?_
 refine zQ (zG (zR 1 rfl (zN (zU (zQ (zQ (zG (zR 1 rfl (zN (zU (zB ?_)))))))))))
 refine W.loopK (β := Nat) (fun k => k ≤ w.length ∧ ∀ j, j < k → 1 ≤ nth w j ∧ nth w j ≤ 6000) (fun k => [(3, true, .int .i64 (k : Int))]) [0] [_] [] _ rfl (fun k => []) (fun k => w.length - k) (0) (⟨Nat.zero_le _, fun j hj => by omega⟩) ⟨rfl, rfl, rfl⟩ qS ?_
 intro k hst
 refine zQ (zQ (zG (zR 4 rfl (zN (zU ?_)))))
 refine cD rfl ?_ ?_ <;> intro hc0
 ·
  refine zK (zU (zQ (zB (zQ (zG (zR 2 rfl ?_))))))
  refine yI ?_
  refine yD (r := by ((apply RS.rdD; assumption; ((try dsimp only) <;> omega)))) (k := ?_)
  refine zR 2 rfl ?_
  refine yP ?_
  refine yP ?_
  refine gI ?_
  refine yJ (r := by ((apply RS.rdC; assumption))) (k := ?_)
  refine yP ?_
  refine yO ?_
  refine zN (zU ?_)
  refine cC rfl ?_ ?_ <;> intro hc1
  ·try simp only [zk] at hc1
   have hkl : k < w.length := by omega
   refine zQ (zG (zR 1 rfl (zN (zU (zT (wb (wt (wt (wb (wt ?_))))))))))
   refine sE (E := E) ?_
   refine zr1 ?_
   refine ⟨congrArg Value.bool ?_, rfl⟩
   symm
   rw [← Bool.not_eq_true]
   intro h
   have := okW_iff.1 h _ (nth_mem hkl)
   omega
  ·try simp only [zk] at hc1
   refine zK (zL (zU (zG (zR 1 rfl ?_))))
   refine yA ?_
   refine zR 1 rfl (zN ?_)
   refine WE.again (k + 1) (⟨by omega, fun j hj => by
    by_cases e : j = k
    ·subst e; omega
    ·exact hst.2 j (by omega)⟩) (by (try dsimp only); omega) ⟨rfl, rfl, rfl⟩ (RLe.refl _) qS
 ·
  refine zX ?_
  refine wx (wx (zY (zU (zQ (zG (zR 1 rfl (zN (zU (zT ?_)))))))))
  refine sE (E := E) ?_
  refine zr1 ?_
  refine ⟨congrArg Value.bool ?_, rfl⟩
  symm
  exact okW_iff.2 (all_of_nth (fun j hj => hst.2 j qO))




theorem Ahead_V {R : Ro} {wa : Option Addr} {wc : Nat} {tb : List Int} (hwr : RS R 1 encI wa tb) {cls : Int} {t : Nat} (hl : tb.length ≤ 1000) (ht : t ≤ 1000000) : FnV Tryz.prog 202 [.slice wa tb.length wc, .int .i64 cls, .int .i64 (t : Int)] R (.tuple #[.int .i64 (aheadV tb cls t).1, .bool (aheadV tb cls t).2]) := by
 have hla := hwr.len
 refine Fn.toV (fun w0 E => ?_)
 refine fE 31 Tryz.func202 ?_
 refine zQ (zG (zR 2 rfl (zN (zU (zQ (zQ (zG (zR 3 rfl (zN (zU (zB ?_)))))))))))
 refine W.loopK (β := Nat) (fun k => k ≤ tb.length ∧ ∀ j, j < k → aheadP tb cls t j = false) (fun k => [(11, true, .int .i64 (k : Int))]) [0, 1, 2, 10] [_, _, _, _] [] _ rfl (fun k => []) (fun k => tb.length - k) (0) (⟨Nat.zero_le _, fun j hj => by omega⟩) ⟨rfl, rfl, rfl, rfl, rfl, rfl⟩ qS ?_
 intro k hst
 obtain ⟨hk, hno⟩ := hst
 have hce : ((t : Int) + (k : Int)) % (tb.length : Int) = (((t + k) % tb.length : Nat) : Int) := rfl
 have hml : 0 < tb.length → (t + k) % tb.length < tb.length := fun h => Nat.mod_lt _ h
 refine zQ (zG (zR 1 rfl (zN (zU (zQ ?_)))))
 refine cD rfl ?_ ?_ <;> intro hc0
 ·
  have hkl : k < tb.length := by omega
  have hml := hml (by omega)
  refine zK (zU (zQ (zB (zQ (zG (zR 2 rfl (zN (zU (zQ (zG (zR 3 rfl ?_)))))))))))
  refine yP ?_
  refine yP ?_
  refine yP ?_
  refine WG.y rfl rfl (by decide) (Yl.add rfl rfl rfl qE (by intro hg; (try simp only [zk] at hg); constructor <;> (try dsimp only) <;> omega)) ?_
  refine yP ?_
  refine yP ?_
  refine WG.y rfl rfl (by decide) (Yl.rem rfl rfl rfl qE (by intro hg; (try simp only [zk] at hg); (try dsimp only) <;> omega) (by intro hg; (try simp only [zk] at hg); (try dsimp only) <;> omega)) ?_
  rw [hce]
  refine gI ?_
  refine yJ (r := by ((apply RS.rdC; assumption))) (k := ?_)
  refine yP ?_
  refine yP ?_
  refine yO ?_
  refine zN (zU ?_)
  refine cC rfl ?_ ?_ <;> intro hc1
  ·try simp only [zk] at hc1
   have hP : aheadP tb cls t k = true := aheadP_iff.2 hc1
   have hav : aheadV tb cls t = ((k : Int), true) := by unfold aheadV; rw [aheadN_some hkl hP hno, if_neg (by omega)]
   refine zQ (zG (zR 3 rfl (zN (zU (zT (wb (wt (wt (wb (wt ?_))))))))))
   refine sE (E := E) ?_
   refine zr2 ?_
   exact ⟨by rw [hav]; rfl, rfl⟩
  ·try simp only [zk] at hc1
   have hP : aheadP tb cls t k = false := by
    rw [← Bool.not_eq_true, aheadP_iff]
    intro h
    rcases h with h | h <;> simp_all <;> omega
   refine zK (zL (zU (zG ?_)))
   refine yA ?_
   refine zR 1 rfl (zN ?_)
   refine WE.again (k + 1) (⟨by omega, fun j hj => by
    by_cases e : j = k
    ·subst e; exact hP
    ·exact hno j (by omega)⟩) (by (try dsimp only); omega) ⟨rfl, rfl, rfl, rfl, rfl, rfl⟩ (RLe.refl _) qS
 ·
  have hav : aheadV tb cls t = (0, false) := by unfold aheadV; rw [if_pos (aheadN_none (fun j hj => hno j (by omega)))]
  refine zX ?_
  refine wx (wx (zY (zU (zQ (zG (zR 2 rfl (zN (zU (zT ?_)))))))))
  refine sE (E := E) ?_
  refine zr2 ?_
  exact ⟨by rw [hav]; rfl, rfl⟩
theorem AheadT_V {R : Ro} {wa : Option Addr} {wc : Nat} {tb : List Int} (hwr : RS R 1 encI wa tb) {cls : Int} {t : Nat} (hl : tb.length ≤ 1000) (ht : t ≤ 1000000) : FnV Tryz.prog 198 [.slice wa tb.length wc, .int .i64 cls, .int .i64 (t : Int)] R (.tuple #[.int .i64 (aheadV tb cls t).1, .bool (aheadV tb cls t).2]) := by
 have hla := hwr.len
 refine Fn.toV (fun w0 E => ?_)
 refine fE 14 Tryz.func198 ?_
 refine zQ (zG (zR 2 rfl (zN (zU (zQ (zG (zR 3 rfl ?_)))))))
 refine WG.callV en202 rfl rfl qD (CallOp.mk' rfl rfl rfl rfl) (fun _ => rfl) (fun hg => Ahead_V hwr hl ht) ?_
 refine zR 4 rfl (zN (zU (zT ?_)))
 refine sE (E := E) ?_
 refine zr2 ?_
 exact ⟨rfl, rfl⟩
theorem ValidT_V {R : Ro} {wa : Option Addr} {wc : Nat} {tb : List Int} (hwr : RS R 1 encI wa tb) {n : Int} : FnV Tryz.prog 203 [.slice wa tb.length wc, .int .i64 n] R (.bool (okT n tb)) := by
 have hla := hwr.len
 refine Fn.toV (fun w0 E => ?_)
 refine fE 29 Tryz.func203 ?_
 refine zQ (zG (zR 1 rfl (zN (zU (zQ (zQ (zG (zR 4 rfl ?_))))))))
 refine yP ?_
 refine yP ?_
 refine yP ?_
 refine yO ?_
 refine zN (zU ?_)
 refine cC rfl ?_ ?_ <;> intro hc0
 ·try simp only [zk] at hc0
  have hk : okT n tb = false := by
   rw [← Bool.not_eq_true, okT_iff]
   intro h
   omega
  refine zQ (zG (zR 1 rfl (zN (zU (zT (wt ?_))))))
  refine sE (E := E) ?_
  refine zr1 ?_
  exact ⟨by rw [hk]; rfl, rfl⟩
 ·try simp only [zk] at hc0
  have hl1 : 1 ≤ tb.length ∧ tb.length ≤ 40 := by omega
  refine zK (zU (zQ (zQ (zG (zR 3 rfl (zN (zU (zB ?_))))))))
  refine W.loopK (β := Nat) (fun k => k ≤ tb.length ∧ ∀ j, j < k → -1 ≤ nth tb j ∧ nth tb j < n) (fun k => [(17, true, .int .i64 (k : Int))]) [1, 15, 16] [_, _, _] [] _ rfl (fun k => []) (fun k => tb.length - k) (0) (⟨Nat.zero_le _, fun j hj => by omega⟩) ⟨rfl, rfl, rfl, rfl, rfl⟩ qS ?_
  intro k hst
  refine zQ (zG (zR 1 rfl (zN (zU (zQ ?_)))))
  refine cD rfl ?_ ?_ <;> intro hc1
  ·
   have hkl : k < tb.length := by omega
   refine zK (zU (zQ (zB (zQ (zG ?_)))))
   refine yI ?_
   refine yD (r := by ((apply RS.rdD; assumption; ((try dsimp only) <;> omega)))) (k := ?_)
   refine zR 1 rfl (zN (zU (zQ (zG (zR 3 rfl ?_)))))
   refine yP ?_
   refine yP ?_
   refine yP ?_
   refine yO ?_
   refine zN (zU ?_)
   refine cC rfl ?_ ?_ <;> intro hc2
   ·try simp only [zk] at hc2
    have hk : okT n tb = false := by
     rw [← Bool.not_eq_true, okT_iff]
     intro h
     have := h.2.2 _ (nth_mem hkl)
     omega
    refine zQ (zG (zR 1 rfl (zN (zU (zT (wb (wt (wt (wb (wt ?_))))))))))
    refine sE (E := E) ?_
    refine zr1 ?_
    exact ⟨by rw [hk]; rfl, rfl⟩
   ·try simp only [zk] at hc2
    refine zK (zL (zU (zG ?_)))
    refine yA ?_
    refine zR 1 rfl (zN ?_)
    refine WE.again (k + 1) (⟨by omega, fun j hj => by
     by_cases e : j = k
     ·subst e; omega
     ·exact hst.2 j (by omega)⟩) (by (try dsimp only); omega) ⟨rfl, rfl, rfl, rfl, rfl⟩ (RLe.refl _) qS
  ·
   have hk : okT n tb = true := okT_at hl1.1 hl1.2 (fun j hj => hst.2 j (by omega))
   refine zX ?_
   refine wx (wx (zY (zU (zQ (zG (zR 1 rfl (zN (zU (zT ?_)))))))))
   refine sE (E := E) ?_
   refine zr1 ?_
   exact ⟨by rw [hk]; rfl, rfl⟩
theorem Right21_V {R : Ro} {wa : Option Addr} {wc : Nat} {tb : List Int} (hwr : RS R 1 encI wa tb) {n : Int} : FnV Tryz.prog 98 [.slice wa tb.length wc, .int .i64 n] R (.bool (okT n tb)) := by
 have hla := hwr.len
 refine Fn.toV (fun w0 E => ?_)
 refine fE 33 Tryz.func98 ?_
 refine zQ (zG (zR 1 rfl (zN (zU (zQ (zQ (zG (zR 4 rfl ?_))))))))
 refine yP ?_
 refine yP ?_
 refine yP ?_
 refine yO ?_
 refine zN (zU ?_)
 refine cC rfl ?_ ?_ <;> intro hc0
 ·try simp only [zk] at hc0
  have hk : okT n tb = false := by
   rw [← Bool.not_eq_true, okT_iff]
   intro h
   omega
  refine zQ (zG (zR 1 rfl (zN (zU (zT (wt ?_))))))
  refine sE (E := E) ?_
  refine zr1 ?_
  exact ⟨by rw [hk]; rfl, rfl⟩
 ·try simp only [zk] at hc0
  have hl1 : 1 ≤ tb.length ∧ tb.length ≤ 40 := by omega
  refine zK (zU (zQ (zQ (zG (zR 1 rfl (zN (zU (zB ?_))))))))
  refine W.loopK (β := Nat) (fun k => k ≤ tb.length ∧ ∀ j, j < k → -1 ≤ nth tb j ∧ nth tb j < n) (fun k => [(5, true, .int .i64 (k : Int))]) [0, 1] [_, _] [] _ rfl (fun k => []) (fun k => tb.length - k) (0) (⟨Nat.zero_le _, fun j hj => by omega⟩) ⟨rfl, rfl, rfl, rfl⟩ qS ?_
  intro k hst
  refine zQ (zQ (zG (zR 4 rfl (zN (zU ?_)))))
  refine cD rfl ?_ ?_ <;> intro hc1
  ·
   have hkl : k < tb.length := by omega
   refine zK (zU (zQ (zB (zQ (zG (zR 2 rfl ?_))))))
   refine yI ?_
   refine yD (r := by ((apply RS.rdD; assumption; ((try dsimp only) <;> omega)))) (k := ?_)
   refine zR 2 rfl ?_
   refine yP ?_
   refine yP ?_
   refine gI ?_
   refine yJ (r := by ((apply RS.rdC; assumption))) (k := ?_)
   refine yP ?_
   refine yP ?_
   refine yO ?_
   refine zN (zU ?_)
   refine cC rfl ?_ ?_ <;> intro hc2
   ·try simp only [zk] at hc2
    have hk : okT n tb = false := by
     rw [← Bool.not_eq_true, okT_iff]
     intro h
     have := h.2.2 _ (nth_mem hkl)
     omega
    refine zQ (zG (zR 1 rfl (zN (zU (zT (wb (wt (wt (wb (wt ?_))))))))))
    refine sE (E := E) ?_
    refine zr1 ?_
    exact ⟨by rw [hk]; rfl, rfl⟩
   ·try simp only [zk] at hc2
    refine zK (zL (zU (zG (zR 1 rfl ?_))))
    refine yA ?_
    refine zR 1 rfl (zN ?_)
    refine WE.again (k + 1) (⟨by omega, fun j hj => by
     by_cases e : j = k
     ·subst e; omega
     ·exact hst.2 j (by omega)⟩) (by (try dsimp only); omega) ⟨rfl, rfl, rfl, rfl⟩ (RLe.refl _) qS
  ·
   have hk : okT n tb = true := okT_at hl1.1 hl1.2 (fun j hj => hst.2 j (by omega))
   refine zX ?_
   refine wx (wx (zY (zU (zQ (zG (zR 1 rfl (zN (zU (zT ?_)))))))))
   refine sE (E := E) ?_
   refine zr1 ?_
   exact ⟨by rw [hk]; rfl, rfl⟩
theorem MineT_V {R : Ro} {wa : Option Addr} {wc : Nat} {tb : List Int} (hwr : RS R 1 encI wa tb) {cls : Int} {t : Nat} (hn : 0 < tb.length) (hc : 0 ≤ cls) (ht : t ≤ 1000000) : FnV Tryz.prog 197 [.slice wa tb.length wc, .int .i64 cls, .int .i64 (t : Int)] R (.bool (mineT tb cls t)) := by
 have hla := hwr.len
 refine Fn.toV (fun w0 E => ?_)
 have hce : (t : Int) % (tb.length : Int) = ((t % tb.length : Nat) : Int) := rfl
 have hml := Nat.mod_lt t hn
 have hd : decide (cls ≥ 0) = true := decide_eq_true hc
 refine fE 20 Tryz.func197 ?_
 refine zQ (zG (zR 1 rfl (zN (zU (zQ (zG (zR 3 rfl ?_)))))))
 refine yP ?_
 refine yP ?_
 refine yP ?_
 refine yP ?_
 refine WG.y rfl rfl (by decide) (Yl.rem rfl rfl rfl qE (by intro hg; (try simp only [zk] at hg); (try dsimp only) <;> omega) (by intro hg; (try simp only [zk] at hg); (try dsimp only) <;> omega)) ?_
 rw [hce]
 refine gI ?_
 refine yJ (r := by ((apply RS.rdC; assumption))) (k := ?_)
 refine yP ?_
 refine yP ?_
 refine yN ?_
 refine zR 1 rfl (zN (zU (zT ?_)))
 refine sE (E := E) ?_
 refine zr1 ?_
 exact ⟨by show Value.bool (decide (cls ≥ 0) && _) = _; rw [hd]; rfl, rfl⟩



theorem LRun_anyC {R : Ro} {pa : Option Addr} {pc l : Nat} {ps : List Pkt} (hp : RS R 3 encP pa ps) (hl : ps.length = l) {cap classes ticks : Int} (w0 : World) (E : List Ent) :
  K.Fn Tryz.prog 142 [.int .i64 cap, .int .i64 classes, .slice pa l pc, .int .i64 ticks] w0 R E (fun v R' E' => ∃ (da oa : Option Addr) (dc oc : Nat) (rows : List Sl), v = .tuple #[.agg #[.slice da (lineOut cap classes ticks ps).1.length dc, .slice oa rows.length oc], .int .i64 (lrunE cap classes ticks ps)] ∧ RS R' 1 encI da (lineOut cap classes ticks ps).1 ∧ RS R' 1 encS oa rows ∧ (∀ r ∈ rows, RS R' 1 encI r.a r.xs) ∧ rows.map Sl.xs = (lineOut cap classes ticks ps).2 ∧ (∀ r ∈ rows, r.xs.length ≤ r.cap) ∧ E.Sublist E') := by
 subst hl
 by_cases h : lrunE cap classes ticks ps = 0
 ·obtain ⟨hok, hv, hck, c1, c2, c3, c4, c5, c6, hs, hf⟩ := lrunE_ok h
  obtain ⟨nc, rfl⟩ := Int.eq_ofNat_of_zero_le (show 0 ≤ classes by omega)
  obtain ⟨nt, rfl⟩ := Int.eq_ofNat_of_zero_le c5
  have ho : lineOut cap nc nt ps = ((mrun ps (fifo ps) cap nc nt ()).done, (mrun ps (fifo ps) cap nc nt ()).sent) := by unfold lineOut; rw [if_neg (by omega)]; rfl
  intro w hm
  refine (LRun_ok (pc := pc) hp w0 hok hck E w hm).mono ?_
  rintro e w' ⟨v, R', E', rfl, hR, hm', rows, gd, go, s, rfl, rfl, rfl, h1, h2, h3, hsub⟩
  have hm1 := hm'.sub (RLe.refl _) hsub
  obtain ⟨R1, g1, g2, g3⟩ := hm1.freeze (i := 0) (enc := encI) (xs := (mrun ps (fifo ps) cap nc nt ()).done) rfl
  obtain ⟨R2, k1, k2, k3⟩ := g3.freeze (i := 0) (enc := encS) (xs := rows) rfl
  obtain ⟨R3, j1, j2, j3⟩ := Mem.freezeRows (rows := rows) (G := E) k3
  have hcapp := Mem.rowsCap (rows := rows) (G := E) k3
  have hdl := h3.done
  have hlr : rows.length = nc := by rw [← h3.sent, ← h1, List.length_map]
  refine ⟨_, R3, E, rfl, g1.trans (k1.trans j1), j3, some ⟨gd, 0, none⟩, some ⟨go, 0, none⟩, ps.length, nc, rows, ?_, ?_, k2.mono j1, j2, ?_, hcapp, List.Sublist.refl _⟩
  ·rw [ho, h]; dsimp only; rw [hdl, hlr]
  ·rw [ho]; exact g2.mono (k1.trans j1)
  ·rw [ho]; exact h1
 ·refine (LRun_err hp w0 h E).mono ?_
  rintro v R' E' hR ⟨rfl, rfl, hsub⟩
  have ho : lineOut cap classes ticks ps = ([], []) := by unfold lineOut; rw [if_pos h]
  exact ⟨none, none, 0, 0, [], by rw [ho]; rfl, by rw [ho]; exact rs_nil, rs_nil, by simp, by rw [ho]; rfl, by simp, hsub⟩
theorem RunFifo_C {R : Ro} {pa : Option Addr} {pc l : Nat} {ps : List Pkt} (hp : RS R 3 encP pa ps) (hl : ps.length = l) {ticks : Int} {aw at_ : Option Addr} {lw cw lt ct : Nat} {L : Ln} (hw : RS R 1 encI aw L.w) (hlw : L.w.length = lw) (ht : RS R 1 encI at_ L.tb) (hlt : L.tb.length = lt) (hn : 1 ≤ L.n ∧ L.n ≤ 6) (hk : L.kind = 1) (w0 : World) (E : List Ent) : K.Fn Tryz.prog 139 [.agg #[], .agg #[.int .i64 L.kind, .int .i64 L.cap, .int .i64 L.n, .slice aw lw cw, .slice at_ lt ct], .slice pa l pc, .int .i64 ticks] w0 R E (RunV (runL L ticks ps) E (fun r => .tuple #[r, .int .i64 (runE L ticks ps)])) := by
 have e1 : lineOut L.cap L.n ticks ps = runL L ticks ps := by simp [runL, runE, sendL, lineOut, hk]
 have e2 : lrunE L.cap L.n ticks ps = runE L ticks ps := by simp [runE, hk]
 refine fE 19 Tryz.func139 ?_
 refine zQ (zG ?_)
 refine zO fun b4 => ?_
 refine zO fun b5 => ?_
 refine zA fun b8 => ?_
 refine zR 1 rfl (zN (zU (zQ (zG (zR 1 rfl ?_)))))
 refine yM 1 ?_
 refine zR 1 rfl ?_
 refine yM 1 ?_
 refine zR 2 rfl ?_
 refine WL.call en142 rfl rfl qD (CallOp.mkT rfl rfl rfl rfl) (LRun_anyC hp hl w0 _) ?_
 rintro _ R2 E2 hR2 ⟨da, oa, dc, oc, rows, rfl, hd, ho, hrw, hrx, hcp, hsub⟩
 refine WL.subE hsub ?_
 rw [e1] at hd hrx
 rw [e1, e2]
 refine zR 2 rfl ?_
 refine zE 0 ?_
 refine zR 1 rfl (zN (zU (zT ?_)))
 refine zq4 (hR2) ?_
 exact ⟨da, oa, dc, oc, rows, rfl, hd, ho, hrw, hrx, hcp, qS⟩

theorem CheckT_V {R : Ro} {wa : Option Addr} {wc : Nat} {tb : List Int} (hwr : RS R 1 encI wa tb) {za : Option Addr} {zc : Nat} {z : List Sz} (hzr : RS R 2 encZ za z) {cap cls : Int} : FnV Tryz.prog 196 [.int .i64 cap, .int .i64 cls, .slice wa tb.length wc, .slice za z.length zc] R (.int .i64 (chkT cap cls tb z)) := by
 have hla := hwr.len
 have hlz := hzr.len
 refine Fn.toV (fun w0 E => ?_)
 have h18 := chk18_vals cap cls z
 refine fE 22 Tryz.func196 ?_
 refine zQ (zG (zR 1 rfl (zN (zU (zQ (zQ (zG (zR 3 rfl ?_))))))))
 refine WG.callV en49 rfl rfl qD (CallOp.mk' rfl rfl rfl rfl) (fun _ => rfl) (fun hg => CheckP_V hzr) ?_
 refine zR 1 rfl (zN (zU (zQ (zG (zR 2 rfl (zN (zU ?_)))))))
 refine cN rfl ?_ ?_ <;> intro hc0
 ·
  have e : chkT cap cls tb z = 2 := if_pos hc0
  rw [show chk18 cap cls z = 2 by omega]
  refine zQ (zG (zR 2 rfl (zN (zU (zT (wt ?_))))))
  refine sE (E := E) ?_
  refine zr1 ?_
  exact ⟨by rw [e]; rfl, rfl⟩
 ·
  refine zK (zU (zQ (zQ (zG (zR 3 rfl ?_)))))
  refine WG.callV en203 rfl rfl qD (CallOp.mk' rfl rfl rfl rfl) (fun _ => rfl) (fun hg => ValidT_V hwr) ?_
  refine zR 1 rfl (zN (zU ?_))
  refine cC rfl ?_ ?_ <;> intro hc1
  ·try simp only [zk] at hc1
   have e : chkT cap cls tb z = 2 := by unfold chkT; rw [if_neg (fun h => h hc0), if_pos hc1]
   refine zQ (zG (zR 1 rfl (zN (zU (zT (wt ?_))))))
   refine sE (E := E) ?_
   refine zr1 ?_
   exact ⟨by rw [e]; rfl, rfl⟩
  ·try simp only [zk] at hc1
   have e : chkT cap cls tb z = 0 := by unfold chkT; rw [if_neg (fun h => h hc0), if_neg (by simp [hc1])]
   refine zK (zU (zQ (zG (zR 1 rfl (zN (zU (zT ?_)))))))
   refine sE (E := E) ?_
   refine zr1 ?_
   exact ⟨by rw [e]; rfl, rfl⟩
theorem Check21_V {R : Ro} {wa : Option Addr} {wc : Nat} {tb : List Int} (hwr : RS R 1 encI wa tb) {za : Option Addr} {zc : Nat} {z : List Sz} (hzr : RS R 2 encZ za z) {cap cls : Int} : FnV Tryz.prog 67 [.int .i64 cap, .int .i64 cls, .slice wa tb.length wc, .slice za z.length zc] R (.int .i64 (chkT cap cls tb z)) := by
 have hla := hwr.len
 have hlz := hzr.len
 refine Fn.toV (fun w0 E => ?_)
 have h18 := chk18_vals cap cls z
 refine fE 21 Tryz.func67 ?_
 refine zQ (zG (zR 1 rfl (zN (zU (zQ (zQ (zG (zR 3 rfl ?_))))))))
 refine WG.callV en54 rfl rfl qD (CallOp.mk' rfl rfl rfl rfl) (fun _ => rfl) (fun hg => Check18_V hzr) ?_
 refine zR 2 rfl ?_
 refine yP ?_
 refine yP ?_
 refine yP ?_
 refine WG.callV en98 rfl rfl qD (CallOp.mk' rfl rfl rfl rfl) qE (fun hg => Right21_V hwr) ?_
 refine yP ?_
 refine yO ?_
 refine zN (zU ?_)
 refine cC rfl ?_ ?_ <;> intro hc0
 ·try simp only [zk] at hc0
  have e : chkT cap cls tb z = 2 := by
   unfold chkT
   rcases hc0 with h | h
   ·rw [if_pos h]
   ·by_cases h2 : chk18 cap cls z ≠ 0
    ·rw [if_pos h2]
    ·rw [if_neg h2, if_pos h]
  refine zQ (zG (zR 1 rfl (zN (zU (zT (wt ?_))))))
  refine sE (E := E) ?_
  refine zr1 ?_
  exact ⟨by rw [e]; rfl, rfl⟩
 ·try simp only [zk] at hc0
  have e : chkT cap cls tb z = 0 := by unfold chkT; rw [if_neg (fun h => h hc0.1), if_neg (by simp [hc0.2])]
  refine zK (zU (zQ (zG (zR 1 rfl (zN (zU (zT ?_)))))))
  refine sE (E := E) ?_
  refine zr1 ?_
  exact ⟨by rw [e]; rfl, rfl⟩





theorem WAt_V {R : Ro} {fa : Option Addr} {fc : Nat} {F : Nat → Int} {S P : Nat} {I : Int} (hf : FC F S P I) (ha : RS R 1 encI fa (fvals F (S + P))) {t : Nat} (ht : t ≤ 1000000000000000000) (hG : F t ≤ 4000000000000000000) : FnV Tryz.prog 75 [.agg #[.slice fa (fvals F (S + P)).length fc, .int .i64 (P : Int), .int .i64 I], .int .i64 (t : Int)] R (.int .i64 (F t)) := by
 have hfl := fvals_len F (S + P)
 have hP := hf.hP
 have hn := hf.hn
 have hI := hf.hI
 refine Fn.toV (fun w0 E => ?_)
 refine fE 45 Tryz.func75 ?_
 refine zQ (zG ?_)
 refine zO fun b2 => ?_
 refine zR 1 rfl (zN (zU (zQ (zG (zR 1 rfl ?_)))))
 refine yM 0 ?_
 refine zR 2 rfl (zN (zU (zQ (zQ (zG (zR 3 rfl (zN (zU ?_))))))))
 refine cD rfl ?_ ?_ <;> intro hc0
 ·
  have htl : t < S + P := by omega
  refine zQ (zG (zR 1 rfl ?_))
  refine yM 0 ?_
  refine zR 1 rfl ?_
  refine yI ?_
  refine yD (r := by ((apply RS.rdD; assumption; ((try dsimp only) <;> omega)))) (k := ?_)
  refine zR 1 rfl (zN (zU (zT (wt ?_))))
  refine sE (E := E) ?_
  refine zr1 ?_
  exact ⟨by rw [fvals_nth F htl]; rfl, rfl⟩
 ·
  obtain ⟨q, hq⟩ := Int.eq_ofNat_of_zero_le (show 0 ≤ ((t : Int) - ((fvals F (S + P)).length : Int)) / (P : Int) from Int.ediv_nonneg (by omega) (by omega))
  have hq1 : (q : Int) * P ≤ (t : Int) - (S + P : Nat) := by rw [← hfl, ← hq]; exact Int.ediv_mul_le _ (by omega)
  have hq2 : (t : Int) - (S + P : Nat) < P * (q : Int) + P := by rw [← hfl, ← hq]; exact Int.lt_mul_ediv_self_add (by omega)
  rw [Int.mul_comm] at hq2
  have hq3 : (q + 1) * P = q * P + P := by rw [Nat.add_mul]; omega
  have hq4 : ((q * P : Nat) : Int) = (q : Int) * P := by rw [Int.natCast_mul]
  have hq5 : ((q : Int) + 1) * (P : Int) = (((q + 1) * P : Nat) : Int) := by rw [Int.natCast_mul]; rfl
  have hqle : q ≤ t := Nat.le_trans (Nat.le_mul_of_pos_right q (show 0 < P by omega)) (by omega)
  have hgm := hf.hg.mul (q + 1) (t - (q + 1) * P) (by omega)
  rw [show t - (q + 1) * P + (q + 1) * P = t by omega, show ((q + 1 : Nat) : Int) = (q : Int) + 1 from rfl] at hgm
  have hF0 := hf.nonneg (t - (q + 1) * P)
  have hF1 := hf.fin (t := t - (q + 1) * P) (by omega)
  have hqI : 0 ≤ ((q : Int) + 1) * I := Int.mul_nonneg (by omega) (by omega)
  refine zK (zU (zQ (zG (zR 2 rfl ?_))))
  refine yS ?_
  refine zR 1 rfl ?_
  refine yM 0 ?_
  refine yV ?_
  refine yA ?_
  refine zR 1 rfl (zN (zU ?_))
  rw [hq]
  refine zQ (zG (zR 1 rfl ?_))
  refine yM 0 ?_
  refine zR 3 rfl ?_
  refine yM 0 ?_
  refine yU ?_
  refine yS ?_
  rw [hq5, show (t : Int) - (((q + 1) * P : Nat) : Int) = ((t - (q + 1) * P : Nat) : Int) by omega]
  refine yI ?_
  refine yD (r := by ((apply RS.rdD; assumption; ((try dsimp only) <;> omega)))) (k := ?_)
  refine zR 1 rfl (zN (zU (zQ ?_)))
  rw [fvals_nth F (show t - (q + 1) * P < S + P by omega)]
  refine zQ (zG (zR 2 rfl (zN (zU ?_))))
  refine cE rfl ?_ ?_ <;> intro hc1
  ·
   exact absurd hc1 hF1
  ·
   refine zK (zU (zQ (zG (zR 3 rfl ?_))))
   refine yM 0 ?_
   refine yU ?_
   refine yA ?_
   refine zR 1 rfl (zN (zU (zT ?_)))
   refine sE (E := E) ?_
   refine zr1 ?_
   exact ⟨by rw [hgm]; rfl, rfl⟩

theorem CloneI_C {R : Ro} {fa : Option Addr} {fc : Nat} {xs : List Int} (ha : RS R 1 encI fa xs) (hx : 0 < xs.length) (hl : xs.length ≤ 100000) (w0 : World) (E : List Ent) : K.Fn Tryz.prog 110 [.slice fa xs.length fc] w0 R E (fun v R' E' => ∃ (a2 : Option Addr) (c2 : Nat), v = .slice a2 xs.length c2 ∧ R = R' ∧ (.sl 3 1 a2 c2 (xs.map encI) :: E).Sublist E') := by
 have hns := ha.some hx
 refine fE 8 Tryz.func110 ?_
 refine zQ (zG (zR 1 rfl (zN (zU (zQ (zQ (zG (zR 1 rfl ?_))))))))
 refine WG.y rfl rfl qD (Yl.eqNilS Tryz.underlying22 rfl rfl rfl (fun _ => rfl)) ?_
 refine zN (zU ?_)
 refine cC rfl ?_ ?_ <;> intro hc0
 ·try simp only [zk] at hc0
  rw [hns] at hc0; cases hc0
 ·try simp only [zk] at hc0
  refine zK (zU (zQ (zG ?_)))
  refine WL.ef rfl rfl qD (Ef.buildSliceD (enc := encI) (parts := []) [] tab_ok rfl rfl rfl rfl rfl rfl rfl rfl qD qD (fun a5 => ?_))
  refine zR 1 rfl ?_
  refine WL.ef rfl rfl qD (Ef.cloneL (enc := encI) 0 tab_ok rfl rfl rfl rfl rfl rfl rfl rfl rfl rfl ha (fun _ _ => rfl) (by dsimp only; omega) qO (fun a7 c7 ha7 => ?_))
  refine zR 1 rfl (zN (zU (zT ?_)))
  refine zr1 ?_
  exact ⟨_, _, rfl, rfl, qS⟩

theorem WAtG_V {R : Ro} {fa : Option Addr} {fc : Nat} {c : Cv} (hv : validB c = true) (ha : RS R 1 encI fa c.vals) {t : Nat} (ht : t ≤ 1000000000) : FnV Tryz.prog 75 [.agg #[.slice fa c.vals.length fc, .int .i64 c.per, .int .i64 c.inc], .int .i64 (t : Int)] R (.int .i64 (cvF c t)) := by
 refine Fn.toV (fun w0 E => ?_)
 obtain ⟨hr1, hr2, hr3, hr4, hr5, hr6, hr7, hr8⟩ := valid_range hv
 refine fE 45 Tryz.func75 ?_
 refine zQ (zG ?_)
 refine zO fun b2 => ?_
 refine zR 1 rfl (zN (zU (zQ (zG (zR 1 rfl ?_)))))
 refine yM 0 ?_
 refine zR 2 rfl (zN (zU (zQ (zQ (zG (zR 3 rfl (zN (zU ?_))))))))
 refine cD rfl ?_ ?_ <;> intro hc0
 ·
  have htl : t < c.vals.length := by omega
  refine zQ (zG (zR 1 rfl ?_))
  refine yM 0 ?_
  refine zR 1 rfl ?_
  refine yI ?_
  refine yD (r := by ((apply RS.rdD; assumption; ((try dsimp only) <;> omega)))) (k := ?_)
  refine zR 1 rfl (zN (zU (zT (wt ?_))))
  refine sE (E := E) ?_
  refine zr1 ?_
  exact ⟨by rw [cvF_low htl]; rfl, rfl⟩
 ·
  obtain ⟨P, hP⟩ := Int.eq_ofNat_of_zero_le (show 0 ≤ c.per by omega)
  have hPn : 1 ≤ P ∧ P ≤ c.vals.length := by omega
  obtain ⟨j1, j2, j3⟩ := cvJ_at hPn (show c.vals.length ≤ t by omega)
  have hcv := cvF_high hP hPn (show c.vals.length ≤ t by omega)
  generalize hq : (t - c.vals.length) / P = q at j3 hcv
  have hq1 : ((t : Int) - (c.vals.length : Int)) / c.per = (q : Int) := by rw [hP, show (t : Int) - (c.vals.length : Int) = ((t - c.vals.length : Nat) : Int) by omega, ← hq]; rfl
  have hq5 : ((q : Int) + 1) * c.per = (((q + 1) * P : Nat) : Int) := by rw [hP, Int.natCast_mul]; rfl
  have hj : (t : Int) - (((q + 1) * P : Nat) : Int) = (cvJ c.vals.length P t : Int) := by omega
  have hqt : q + 1 ≤ t := Nat.le_trans (Nat.le_mul_of_pos_right (q + 1) (show 0 < P by omega)) (by omega)
  have hve := valid_each hv _ j2
  have hqI := mulB (a := (q : Int) + 1) (b := c.inc) (A := 1000000000) (B := 1073741824) (by omega) (by omega)
  refine zK (zU (zQ (zG (zR 2 rfl ?_))))
  refine yS ?_
  refine zR 1 rfl ?_
  refine yM 0 ?_
  refine yV ?_
  refine yA ?_
  refine zR 1 rfl (zN (zU ?_))
  rw [hq1]
  refine zQ (zG (zR 1 rfl ?_))
  refine yM 0 ?_
  refine zR 3 rfl ?_
  refine yM 0 ?_
  refine yU ?_
  refine yS ?_
  rw [hq5, hj]
  refine yI ?_
  refine yD (r := by ((apply RS.rdD; assumption; ((try dsimp only) <;> omega)))) (k := ?_)
  refine zR 1 rfl (zN (zU (zQ (zQ (zG (zR 2 rfl (zN (zU ?_))))))))
  refine cE rfl ?_ ?_ <;> intro hc1
  ·
   have hcv : cvF c t = 4611686018427387904 := by rw [hcv, if_pos (show _ = INF from hc1)]; rfl
   refine zQ (zG (zR 2 rfl (zN (zU (zT (wt ?_))))))
   refine sE (E := E) ?_
   refine zr1 ?_
   exact ⟨by rw [hcv, hc1]; rfl, rfl⟩
  ·
   have hvm := hve.resolve_left hc1
   unfold MAXV at hvm
   rw [if_neg (show ¬ _ = INF from hc1), show ((q + 1 : Nat) : Int) = (q : Int) + 1 from rfl] at hcv
   refine zK (zU (zQ (zG (zR 3 rfl ?_))))
   refine yM 0 ?_
   refine yU ?_
   refine yA ?_
   refine zR 1 rfl (zN (zU (zT ?_)))
   refine sE (E := E) ?_
   refine zr1 ?_
   exact ⟨by rw [hcv]; rfl, rfl⟩
theorem WFiniteG_V {R : Ro} {fa : Option Addr} {fc : Nat} {c : Cv} (hv : validB c = true) (ha : RS R 1 encI fa c.vals) : FnV Tryz.prog 102 [.agg #[.slice fa c.vals.length fc, .int .i64 c.per, .int .i64 c.inc]] R (.bool (finB c)) := by
 refine Fn.toV (fun w0 E => ?_)
 obtain ⟨hr1, hr2, hr3, hr4, hr5, hr6, hr7, hr8⟩ := valid_range hv
 have hl : ((c.vals.length : Int) - 1).toNat = c.vals.length - 1 := by omega
 refine fE 12 Tryz.func102 ?_
 refine zQ (zG ?_)
 refine zO fun b1 => ?_
 refine zR 1 rfl (zN (zU (zQ (zG (zR 1 rfl ?_)))))
 refine yM 0 ?_
 refine zR 1 rfl ?_
 refine yM 0 ?_
 refine zR 1 rfl ?_
 refine yS ?_
 refine yX ?_
 refine yD (r := by ((apply RS.rdD; assumption; ((try dsimp only) <;> omega)))) (k := ?_)
 refine zR 2 rfl (zN (zU (zT ?_)))
 refine sE (E := E) ?_
 refine zr1 ?_
 exact ⟨by rw [hl]; rfl, rfl⟩
theorem WStartG_V {R : Ro} {fa : Option Addr} {fc : Nat} {c : Cv} (hv : validB c = true) (ha : RS R 1 encI fa c.vals) : FnV Tryz.prog 101 [.agg #[.slice fa c.vals.length fc, .int .i64 c.per, .int .i64 c.inc]] R (.int .i64 (stN c : Int)) := by
 refine Fn.toV (fun w0 E => ?_)
 obtain ⟨hr1, hr2, hr3, hr4, hr5, hr6, hr7, hr8⟩ := valid_range hv
 have hl : (c.vals.length : Int) - c.per = (stN c : Int) := by unfold stN; omega
 refine fE 9 Tryz.func101 ?_
 refine zQ (zG ?_)
 refine zO fun b1 => ?_
 refine zR 1 rfl (zN (zU (zQ (zG (zR 1 rfl ?_)))))
 refine yM 0 ?_
 refine zR 2 rfl ?_
 refine yM 0 ?_
 refine yS ?_
 refine zR 1 rfl (zN (zU (zT ?_)))
 refine sE (E := E) ?_
 refine zr1 ?_
 exact ⟨by rw [hl]; rfl, rfl⟩
theorem WGainG_V {R : Ro} {fa : Option Addr} {fc : Nat} {c : Cv} (hv : validB c = true) (ha : RS R 1 encI fa c.vals) {L : Nat} (hL : L ≤ 100000) : FnV Tryz.prog 103 [.agg #[.slice fa c.vals.length fc, .int .i64 c.per, .int .i64 c.inc], .int .i64 (L : Int)] R (.int .i64 (gainC c L)) := by
 refine Fn.toV (fun w0 E => ?_)
 obtain ⟨hr1, hr2, hr3, hr4, hr5, hr6, hr7, hr8⟩ := valid_range hv
 have hd0 : 0 ≤ (L : Int) / c.per := Int.ediv_nonneg (by omega) (by omega)
 have hd1 : (L : Int) / c.per ≤ L := Int.ediv_le_self _ (by omega)
 have hd2 := mulB (a := (L : Int) / c.per) (b := c.inc) (A := 100000) (B := 1073741824) (by omega) (by omega)
 refine fE 12 Tryz.func103 ?_
 refine zQ (zG ?_)
 refine zO fun b2 => ?_
 refine zR 1 rfl (zN (zU (zQ ?_)))
 refine W.regionQ _ mixed qK ?_
 refine zR 2 rfl ?_
 refine yM 0 ?_
 refine yV ?_
 refine zR 1 rfl ?_
 refine yM 0 ?_
 refine yU ?_
 refine zR 1 rfl (zN (zU (zT ?_)))
 refine sE (E := E) ?_
 refine zr1 ?_
 exact ⟨rfl, rfl⟩
theorem PGainG_V {R : Ro} {fa : Option Addr} {fc : Nat} {c : Cv} (hv : validB c = true) (ha : RS R 1 encI fa c.vals) {L : Nat} (hL : L ≤ 100000) : FnV Tryz.prog 117 [.agg #[.slice fa c.vals.length fc, .int .i64 c.per, .int .i64 c.inc], .int .i64 (L : Int)] R (.int .i64 (gainC c L)) := by
 refine Fn.toV (fun w0 E => ?_)
 obtain ⟨hr1, hr2, hr3, hr4, hr5, hr6, hr7, hr8⟩ := valid_range hv
 have hd0 : 0 ≤ (L : Int) / c.per := Int.ediv_nonneg (by omega) (by omega)
 have hd1 : (L : Int) / c.per ≤ L := Int.ediv_le_self _ (by omega)
 have hd2 := mulB (a := (L : Int) / c.per) (b := c.inc) (A := 100000) (B := 1073741824) (by omega) (by omega)
 refine fE 12 Tryz.func117 ?_
 refine zQ (zG ?_)
 refine zO fun b2 => ?_
 refine zR 1 rfl (zN (zU (zQ ?_)))
 refine W.regionQ _ mixed qK ?_
 refine zR 2 rfl ?_
 refine yM 0 ?_
 refine yV ?_
 refine zR 1 rfl ?_
 refine yM 0 ?_
 refine yU ?_
 refine zR 1 rfl (zN (zU (zT ?_)))
 refine sE (E := E) ?_
 refine zr1 ?_
 exact ⟨rfl, rfl⟩
theorem WPlus_V {R : Ro} {x y : Int} (hx : x = 4611686018427387904 ∨ (-1000000000000000000 ≤ x ∧ x ≤ 1000000000000000000)) (hy : y = 4611686018427387904 ∨ (-1000000000000000000 ≤ y ∧ y ≤ 1000000000000000000)) : FnV Tryz.prog 116 [.int .i64 x, .int .i64 y] R (.int .i64 (if x = 4611686018427387904 ∨ y = 4611686018427387904 then 4611686018427387904 else x + y)) := by
 refine Fn.toV (fun w0 E => ?_)
 refine fE 14 Tryz.func116 ?_
 refine zQ (zG (zR 1 rfl (zN (zU (zQ (zQ (zG (zR 3 rfl ?_))))))))
 refine yP ?_
 refine yP ?_
 refine yO ?_
 refine zN (zU ?_)
 refine cC rfl ?_ ?_ <;> intro hc0
 ·try simp only [zk] at hc0
  rw [if_pos hc0]
  refine zQ (zG (zR 1 rfl (zN (zU (zT (wt ?_))))))
  refine sE (E := E) ?_
  refine zr1 ?_
  exact ⟨rfl, rfl⟩
 ·try simp only [zk] at hc0
  have hno : ¬ (x = 4611686018427387904 ∨ y = 4611686018427387904) := by omega
  rw [if_neg hno]
  refine zK (zU (zQ (zG (zR 2 rfl ?_))))
  refine yA ?_
  refine zR 1 rfl (zN (zU (zT ?_)))
  refine sE (E := E) ?_
  refine zr1 ?_
  exact ⟨rfl, rfl⟩
theorem CValidG_V {R : Ro} {fa : Option Addr} {fc : Nat} {c : Cv} (ha : RS R 1 encI fa c.vals) (hl : c.vals.length ≤ 100000) : FnV Tryz.prog 50 [.agg #[.slice fa c.vals.length fc, .int .i64 c.per, .int .i64 c.inc]] R (.bool (validB c)) := by
 refine Fn.toV (fun w0 E => ?_)
 refine fE 85 Tryz.func50 ?_
 refine zQ (zG ?_)
 refine zO fun b1 => ?_
 refine zR 1 rfl (zN (zU (zQ (zG (zR 1 rfl ?_)))))
 refine yM 0 ?_
 refine zR 2 rfl (zN (zU (zQ (zQ (zG (zR 3 rfl ?_))))))
 refine yP ?_
 refine yP ?_
 refine yO ?_
 refine zR 1 rfl ?_
 refine yP ?_
 refine yG (Rd.addC (Rd.blkC 0 rfl) _) ?_
 refine yP ?_
 refine yO ?_
 refine zR 1 rfl ?_
 refine yP ?_
 refine yG (Rd.addC (Rd.blkC 0 rfl) _) ?_
 refine yP ?_
 refine yO ?_
 refine zR 1 rfl ?_
 refine yP ?_
 refine yG (Rd.addC (Rd.blkC 0 rfl) _) ?_
 refine yP ?_
 refine yP ?_
 refine yO ?_
 refine zR 1 rfl ?_
 refine yP ?_
 refine yG (Rd.addC (Rd.blkC 0 rfl) _) ?_
 refine yP ?_
 refine yO ?_
 refine zR 1 rfl ?_
 refine yP ?_
 refine yG (Rd.addC (Rd.blkC 0 rfl) _) ?_
 refine yP ?_
 refine yO ?_
 refine zN (zU ?_)
 refine cC rfl ?_ ?_ <;> intro hc0
 ·try simp only [zk] at hc0
  have hno : validB c = false := validB_false (fun h => by obtain ⟨⟨a1, a2, a3, a4, a5, a6, a7⟩, _⟩ := h; unfold MAXV at a7; omega)
  refine zQ (zG (zR 1 rfl (zN (zU (zT (wt ?_))))))
  refine sE (E := E) ?_
  refine zr1 ?_
  exact ⟨by rw [hno]; rfl, rfl⟩
 ·try simp only [zk] at hc0
  have hall : 1 ≤ c.vals.length ∧ c.vals.length ≤ 400 ∧ 1 ≤ c.per ∧ c.per ≤ 120 ∧ c.per ≤ c.vals.length ∧ 0 ≤ c.inc ∧ c.inc ≤ MAXV := by unfold MAXV; omega
  refine zK (zU (zQ (zG (zR 1 rfl (zN (zU (zQ (zQ (zG (zR 1 rfl ?_))))))))))
  refine yM 0 ?_
  refine zR 2 rfl (zN (zU (zB ?_)))
  refine W.loopK (β := Nat) (fun t => t ≤ c.vals.length ∧ ∀ i, i < t → (nth c.vals i = INF ∨ (0 ≤ nth c.vals i ∧ nth c.vals i ≤ MAXV)) ∧ (i = 0 ∨ nth c.vals (i - 1) ≤ nth c.vals i)) (fun t => [(4, true, .int .i64 (lastV c.vals t)), (45, true, .int .i64 (t : Int))]) [1, 3, 43, 44] [_, _, _, _] [] _ rfl (fun t => []) (fun t => c.vals.length - t) (0) (⟨Nat.zero_le _, fun i hi => by omega⟩) ⟨rfl, rfl, rfl, rfl, rfl, rfl, rfl⟩ qS ?_
  intro t hst
  have hlast : 0 ≤ lastV c.vals t ∧ (lastV c.vals t = INF ∨ lastV c.vals t ≤ MAXV) := by
   unfold lastV
   by_cases h : t = 0
   ·rw [if_pos h]; exact ⟨Int.le_refl _, .inr (by decide)⟩
   ·rw [if_neg h]
    have := (hst.2 (t - 1) (by omega)).1
    unfold INF MAXV at this ⊢
    omega
  refine zQ (zG (zR 1 rfl (zN (zU (zQ ?_)))))
  refine cD rfl ?_ ?_ <;> intro hc1
  ·
   have htl : t < c.vals.length := by omega
   refine zK (zU (zQ (zB (zQ (zG ?_)))))
   refine yI ?_
   refine yD (r := by ((apply RS.rdD; assumption; ((try dsimp only) <;> omega)))) (k := ?_)
   refine zR 1 rfl (zN (zU (zQ (zQ (zG (zR 4 rfl ?_))))))
   refine yP ?_
   refine yP ?_
   refine yP ?_
   refine yP ?_
   refine yP ?_
   refine yN ?_
   refine yO ?_
   refine zN (zU ?_)
   refine cC rfl ?_ ?_ <;> intro hc2
   ·try simp only [zk] at hc2
    have hno : validB c = false := validB_false (fun h => by
     have h2 := h.2.1 t htl
     unfold lastV at hc2
     unfold INF MAXV at h2
     rcases hc2 with x | x
     ·split at x
      ·omega
      ·have := h2.2.resolve_left (by omega)
       omega
     ·omega)
    refine zQ (zG (zR 1 rfl (zN (zU (zT (wt (wb (wt (wt (wb (wt ?_)))))))))))
    refine sE (E := E) ?_
    refine zr1 ?_
    exact ⟨by rw [hno]; rfl, rfl⟩
   ·try simp only [zk] at hc2
    have hy : (nth c.vals t = INF ∨ (0 ≤ nth c.vals t ∧ nth c.vals t ≤ MAXV)) ∧ (t = 0 ∨ nth c.vals (t - 1) ≤ nth c.vals t) := by
     unfold INF MAXV
     have hle : lastV c.vals t ≤ nth c.vals t := by omega
     refine ⟨by omega, ?_⟩
     unfold lastV at hle
     by_cases h : t = 0
     ·exact .inl h
     ·rw [if_neg h] at hle; exact .inr hle
    refine zK (zU (zG (zR 2 rfl (zN (zL (zU (zG ?_)))))))
    refine yA ?_
    refine zR 1 rfl (zN ?_)
    refine WE.again (t + 1) (⟨by omega, fun i hi => by
     by_cases e : i = t
     ·subst e; exact hy
     ·exact hst.2 i (by omega)⟩) (by (try dsimp only); omega) ⟨vint (lastV_succ _ _), rfl, rfl, rfl, rfl, rfl, rfl⟩ (RLe.refl _) qS
  ·
   obtain rfl : t = c.vals.length := by omega
   obtain ⟨P, hP⟩ := Int.eq_ofNat_of_zero_le (show 0 ≤ c.per by omega)
   have hlv : lastV c.vals c.vals.length = nth c.vals (c.vals.length - 1) := if_neg (by omega)
   have e3 : ((c.vals.length : Int) - c.per).toNat = c.vals.length - c.per.toNat := by omega
   refine zX ?_
   refine wx (wx (zY (zU (zQ (zQ (zG (zR 2 rfl (zN (zU ?_)))))))))
   refine cE rfl ?_ ?_ <;> intro hc3
   ·
    have hif : (if nth c.vals (c.vals.length - 1) = INF then c.per = 1 ∧ c.inc = 0 else nth c.vals (c.vals.length - 1) ≤ nth c.vals (c.vals.length - c.per.toNat) + c.inc) ↔ (c.per = 1 ∧ c.inc = 0) := by rw [if_pos (by rw [← hlv]; exact hc3)]
    refine zQ (zG (zR 1 rfl ?_))
    refine yM 0 ?_
    refine zR 2 rfl ?_
    refine yP ?_
    refine yG (Rd.addC (Rd.blkC 0 rfl) _) ?_
    refine yP ?_
    refine yN ?_
    refine zR 1 rfl (zN (zU (zT (wt ?_))))
    refine sE (E := E) ?_
    refine zr1 ?_
    refine ⟨congrArg Value.bool ?_, rfl⟩
    rw [Bool.eq_iff_iff, validB_iff, hif]
    simp only [Bool.and_eq_true, beq_iff_eq]
    exact ⟨fun h => ⟨hall, fun j hj => hst.2 j hj, h⟩, fun h => h.2.2⟩
   ·
    have hif : (if nth c.vals (c.vals.length - 1) = INF then c.per = 1 ∧ c.inc = 0 else nth c.vals (c.vals.length - 1) ≤ nth c.vals (c.vals.length - c.per.toNat) + c.inc) ↔ (nth c.vals (c.vals.length - 1) ≤ nth c.vals (c.vals.length - c.per.toNat) + c.inc) := by rw [if_neg (by rw [← hlv]; exact hc3)]
    have hx2 := (hst.2 (c.vals.length - c.per.toNat) (by omega)).1
    rw [← e3] at hx2
    unfold INF MAXV at hx2 hall
    refine zK (zU (zQ ?_))
    refine W.regionQ _ mixed qK ?_
    refine zR 1 rfl ?_
    refine yM 0 ?_
    refine zR 2 rfl ?_
    refine yM 0 ?_
    refine yS ?_
    refine yX ?_
    refine yD (r := by ((apply RS.rdD; assumption; ((try dsimp only) <;> omega)))) (k := ?_)
    refine zR 1 rfl ?_
    refine yM 0 ?_
    refine yA ?_
    refine zR 3 rfl (zN (zU (zT ?_)))
    refine sE (E := E) ?_
    refine zr1 ?_
    refine ⟨congrArg Value.bool ?_, rfl⟩
    rw [Bool.eq_iff_iff, validB_iff, hif, e3, hlv]
    simp only [decide_eq_true_eq]
    exact ⟨fun h => ⟨by unfold MAXV; omega, fun j hj => hst.2 j hj, by omega⟩, fun h => by have := h.2.2; omega⟩
theorem NormG_V {R : Ro} {fa : Option Addr} {fc : Nat} {c : Cv} (hv : validB c = true) (ha : RS R 1 encI fa c.vals) {b1 : Nat} (h1 : R b1 = some [.slice fa c.vals.length fc, .int .i64 c.per, .int .i64 c.inc]) {t : Nat} (ht : t ≤ 1000000) : FnV Tryz.prog 112 [.int .i64 (t : Int), .pointer (some ⟨b1, 0, none⟩)] R (.int .i64 (cvF c t)) := by
 refine Fn.toV (fun w0 E => ?_)
 refine fE 7 Tryz.func112 ?_
 refine zQ (zG (zR 1 rfl (zN (zU (zQ (zG ?_))))))
 refine yD (r := by (exact Rd.ro qU)) (k := ?_)
 refine zR 1 rfl ?_
 refine WG.callV en75 rfl rfl qD (CallOp.mk' rfl rfl rfl rfl) (fun _ => rfl) (fun hg => WAtG_V hv ha qO) ?_
 refine zR 1 rfl (zN (zU (zT ?_)))
 refine sE (E := E) ?_
 refine zr1 ?_
 exact ⟨rfl, rfl⟩
theorem CNormalG_C {R : Ro} {fa : Option Addr} {fc : Nat} {c : Cv} (ha : RS R 1 encI fa c.vals) (hl : c.vals.length ≤ 100000) (w0 : World) (E : List Ent) : K.Fn Tryz.prog 99 [.agg #[.slice fa c.vals.length fc, .int .i64 c.per, .int .i64 c.inc]] w0 R E (fun r R' E' => ∃ (f : Option Addr) (fc : Nat), r = cvV f fc (normC c) ∧ RS R' 1 encI f (normC c).1.vals ∧ E.Sublist E') := by
 refine fE 22 Tryz.func99 ?_
 refine zQ (zG ?_)
 refine zO fun b1 => ?_
 refine zA fun b2 => ?_
 refine zR 1 rfl (zN (zU (zQ (zQ (zG ?_)))))
 refine yB 1 ?_
 refine WG.callV en50 rfl rfl qD (CallOp.mk' rfl rfl rfl rfl) (fun _ => rfl) (fun hg => CValidG_V ha hl) ?_
 refine zR 1 rfl (zN (zU ?_))
 refine cC rfl ?_ ?_ <;> intro hc0
 ·try simp only [zk] at hc0
  have hn : normC c = (zcv, 1) := if_neg (by simp [hc0])
  refine zQ (zG ?_)
  refine yW [] ?_
  refine zE 0 ?_
  refine zR 1 rfl (zN (zU (zT (wt ?_))))
  refine zq4 (by first | exact hR1.trans (hR2.trans hR4) | exact RLe.refl _) ?_
  exact ⟨none, 0, by rw [hn]; rfl, by rw [hn]; exact rs_nil, qS⟩
 ·try simp only [zk] at hc0
  have hv : validB c = true := by simpa using hc0
  have hn : normC c = (normR c, 0) := if_pos hv
  obtain ⟨hr1, hr2, hr3, hr4, hr5, hr6, hr7, hr8⟩ := valid_range hv
  have hst := stN_lt hv
  refine zK (zU (zQ (zG (zR 1 rfl ?_))))
  refine yM 1 ?_
  refine WL.call en110 rfl rfl qD (CallOp.mkT rfl rfl rfl rfl) (CloneI_C ha qO qO w0 _) ?_
  rintro _ _ E2 - ⟨a2, c2, rfl, rfl, hsub⟩
  refine WL.subE hsub ?_
  refine zR 1 rfl ?_
  refine zF 2 ?_
  refine zN (zU ?_)
  refine W.freeze (enc := encI) (xs := c.vals) 0 rfl ?_
  intro R1 hR1 ha1
  refine W.freezeBlk 1 rfl ?_
  intro R2 hR2 hb1
  have ha2 := ha1.mono hR2
  have hperI : ((c.per.toNat : Nat) : Int) = c.per := by omega
  have hF : ∀ t : Nat, t < stN c + c.per.toNat → FnV Tryz.prog 112 ((#[] : Array Value).toList ++ [.int .i64 (t : Int)] ++ (#[.pointer (some ⟨b1, 0, none⟩)] : Array Value).toList) R2 (.int .i64 (cvF c t)) := fun t ht => NormG_V hv ha2 hb1 (by omega)
  refine zQ ?_
  refine W.regionH _ (ES := []) mixed ?_
  refine WA.take 0 rfl qK qK qK rfl rfl qD (Yl.makeFunc (fi := []) (ca := [.tmp 1]) rfl rfl rfl (fun _ => rfl)) qS qR ?_
  refine tD 1 (r := by (exact Rd.ro qU)) (k := ?_)
  refine tP 3 ?_
  refine tD 4 (r := by apply Rd.add; (exact Rd.ro qU)) (k := ?_)
  refine tP 5 ?_
  refine tD 6 (r := by apply Rd.add; (exact Rd.ro qU)) (k := ?_)
  refine WA.callG 2 rfl qK en101 rfl (by first | rfl | decide) rfl qD (CallOp.mkT rfl rfl rfl rfl) ((WStartG_V hv ha2).toFn) ?_
  rintro _ _ _ - ⟨rfl, rfl, rfl⟩
  refine ⟨qR, qS, ?_⟩
  refine WA.callG 7 rfl qK en111 rfl (by first | rfl | decide) rfl qD (CallOp.mkT rfl rfl rfl rfl) (hperI ▸ Build_C (S := stN c) (P := c.per.toNat) (F := cvF c) en112 qO qO qO (fun t ht => (cvF_bound hv t).2.imp id (fun h => ⟨(cvF_bound hv t).1, by omega⟩)) hF w0 _) ?_
  rintro _ R4 E4 hR4 ⟨f, fc', rfl, hff, hsub⟩
  refine ⟨hR4, List.nil_sublist _, ?_⟩
  refine WA.subE hsub ?_
  rw [norm_build hv] at hff ⊢
  unfold cvV
  refine tP 8 ?_
  refine tP 9 ?_
  refine zCE 10 0 ?_
  refine tP 11 ?_
  refine WA.done qK ?_
  refine zU (zT ?_)
  refine zq4 (by first | exact hR1.trans (hR2.trans hR4) | exact RLe.refl _) ?_
  exact ⟨f, fc', by rw [hn]; rfl, by rw [hn]; exact hff, qS⟩
theorem CNormalV_C {R : Ro} {fa : Option Addr} {fc : Nat} {c : Cv} (hv : validB c = true) (ha : RS R 1 encI fa c.vals) (w0 : World) (E : List Ent) : K.Fn Tryz.prog 99 [.agg #[.slice fa c.vals.length fc, .int .i64 c.per, .int .i64 c.inc]] w0 R E (fun r R' E' => ∃ (f : Option Addr) (fc : Nat), r = cvV f fc (normR c, 0) ∧ RS R' 1 encI f ((normR c, (0 : Int))).1.vals ∧ E.Sublist E') := by
 have h := CNormalG_C (fc := fc) ha (by have := valid_range hv; omega) w0 E
 rw [show normC c = (normR c, 0) from if_pos hv] at h
 exact h

theorem PBoth_lim {R : Ro} {fa : Option Addr} {fc : Nat} {cf : Cv} (hvf : validB cf = true) (ha : RS R 1 encI fa cf.vals) {ga : Option Addr} {gc : Nat} {cg : Cv} (hvg : validB cg = true) (hb : RS R 1 encI ga cg.vals) (hl : 120 < lcmC (normR cf) (normR cg)) (w0 : World) (E : List Ent) : K.Fn Tryz.prog 114 [.agg #[.slice fa cf.vals.length fc, .int .i64 cf.per, .int .i64 cf.inc], .agg #[.slice ga cg.vals.length gc, .int .i64 cg.per, .int .i64 cg.inc]] w0 R E (fun v R' E' => v = .tuple #[.agg #[.slice none 0 0, .int .i64 0, .int .i64 0], .agg #[.slice none 0 0, .int .i64 0, .int .i64 0], .int .i64 0, .int .i64 3] ∧ E.Sublist E') := by
 have hnf := norm_nrm hvf
 have hng := norm_nrm hvg
 obtain ⟨_, f1, f2, f3, f4, f5, f6, f7⟩ := valid_range hnf.valid
 obtain ⟨_, g1, g2, g3, g4, g5, g6, g7⟩ := valid_range hng.valid
 obtain ⟨P1, hP1⟩ := Int.eq_ofNat_of_zero_le (show 0 ≤ (normR cf).per by omega)
 obtain ⟨P2, hP2⟩ := Int.eq_ofNat_of_zero_le (show 0 ≤ (normR cg).per by omega)
 have hlc : lcmC (normR cf) (normR cg) = lcmN P1 P2 := by unfold lcmC; rw [hP1, hP2]; rfl
 have hlb : lcmN P1 P2 ≤ 14400 := Nat.le_trans (lcmN_facts (by omega) (by omega)).2.2.1 (Nat.mul_le_mul (show P1 ≤ 120 by omega) (show P2 ≤ 120 by omega))
 have hlp := (lcmN_facts (a := P1) (b := P2) (by omega) (by omega)).2.2.2
 rw [hlc] at hl
 refine fE 40 Tryz.func114 ?_
 refine zQ (zG ?_)
 refine zO fun b2 => ?_
 refine zO fun b3 => ?_
 refine zA fun b4 => ?_
 refine zA fun b5 => ?_
 refine zR 2 rfl (zN (zU (zQ (zQ (zG ?_)))))
 refine yB 3 ?_
 refine WL.call en99 rfl rfl qD (CallOp.mkT rfl rfl rfl rfl) (CNormalV_C hvf ha w0 _) ?_
 rintro _ R1 _ hR1 ⟨fa1x, ca1x, rfl, ha1x, hsub⟩
 refine WL.subE hsub ?_
 unfold cvV
 dsimp only at ha1x ⊢
 have hb := hb.mono hR1
 refine zR 3 rfl ?_
 refine zE 1 ?_
 refine zR 1 rfl (zN (zU (zQ (zG (zR 2 rfl (zN (zU ?_)))))))
 refine cN rfl ?_ ?_ <;> intro hc0
 ·
  exact absurd rfl hc0
 ·
  refine zK (zU (zQ (zQ (zG ?_))))
  refine yB 2 ?_
  refine WL.call en99 rfl rfl qD (CallOp.mkT rfl rfl rfl rfl) (CNormalV_C hvg hb w0 _) ?_
  rintro _ R2 _ hR2 ⟨fa2x, ca2x, rfl, ha2x, hsub⟩
  refine WL.subE hsub ?_
  unfold cvV
  dsimp only at ha2x ⊢
  have ha1x := ha1x.mono hR2
  refine zR 3 rfl ?_
  refine zE 0 ?_
  refine zR 1 rfl (zN (zU (zQ (zG (zR 2 rfl (zN (zU ?_)))))))
  refine cN rfl ?_ ?_ <;> intro hc1
  ·
   exact absurd rfl hc1
  ·
   refine zK (zU (zQ (zQ (zG (zR 1 rfl ?_)))))
   refine yM 1 ?_
   refine zR 1 rfl ?_
   refine yM 0 ?_
   refine WG.callV (v := .int .i64 (lcmN P1 P2 : Int)) en100 rfl rfl (by decide) (CallOp.mk' rfl rfl rfl rfl) (fun _ => rfl) (fun hg => by rw [hP1, hP2]; exact Common_V (by omega) (by omega)) ?_
   refine zR 1 rfl (zN (zU (zQ (zG (zR 2 rfl (zN (zU ?_)))))))
   refine cD rfl ?_ ?_ <;> intro hc2
   ·
    refine zQ (zG ?_)
    refine yW [] ?_
    refine yW [] ?_
    refine zE 1 ?_
    refine zE 0 ?_
    refine zR 2 rfl (zN (zU (zT (wt ?_))))
    refine WE.retF tab_ok [_, _, _, _] rfl ⟨⟨_, _, _, rfl, rfl, rfl, qB, rfl⟩, ⟨_, _, _, rfl, rfl, rfl, qB, rfl⟩, rfl, rfl, trivial⟩ (hR1.trans hR2) ?_
    exact ⟨rfl, qS⟩
   ·
    omega
theorem PBoth_ok {R : Ro} {fa : Option Addr} {fc : Nat} {cf : Cv} (hvf : validB cf = true) (ha : RS R 1 encI fa cf.vals) {ga : Option Addr} {gc : Nat} {cg : Cv} (hvg : validB cg = true) (hb : RS R 1 encI ga cg.vals) (hl : lcmC (normR cf) (normR cg) ≤ 120) (w0 : World) (E : List Ent) : K.Fn Tryz.prog 114 [.agg #[.slice fa cf.vals.length fc, .int .i64 cf.per, .int .i64 cf.inc], .agg #[.slice ga cg.vals.length gc, .int .i64 cg.per, .int .i64 cg.inc]] w0 R E (fun v R' E' => ∃ (a1 a2 : Option Addr) (c1 c2 : Nat), v = .tuple #[.agg #[.slice a1 (normR cf).vals.length c1, .int .i64 (normR cf).per, .int .i64 (normR cf).inc], .agg #[.slice a2 (normR cg).vals.length c2, .int .i64 (normR cg).per, .int .i64 (normR cg).inc], .int .i64 (lcmC (normR cf) (normR cg) : Int), .int .i64 0] ∧ RS R' 1 encI a1 (normR cf).vals ∧ RS R' 1 encI a2 (normR cg).vals ∧ E.Sublist E') := by
 have hnf := norm_nrm hvf
 have hng := norm_nrm hvg
 obtain ⟨_, f1, f2, f3, f4, f5, f6, f7⟩ := valid_range hnf.valid
 obtain ⟨_, g1, g2, g3, g4, g5, g6, g7⟩ := valid_range hng.valid
 obtain ⟨P1, hP1⟩ := Int.eq_ofNat_of_zero_le (show 0 ≤ (normR cf).per by omega)
 obtain ⟨P2, hP2⟩ := Int.eq_ofNat_of_zero_le (show 0 ≤ (normR cg).per by omega)
 have hlc : lcmC (normR cf) (normR cg) = lcmN P1 P2 := by unfold lcmC; rw [hP1, hP2]; rfl
 have hlb : lcmN P1 P2 ≤ 14400 := Nat.le_trans (lcmN_facts (by omega) (by omega)).2.2.1 (Nat.mul_le_mul (show P1 ≤ 120 by omega) (show P2 ≤ 120 by omega))
 have hlp := (lcmN_facts (a := P1) (b := P2) (by omega) (by omega)).2.2.2
 rw [hlc] at hl
 rw [hlc]
 refine fE 40 Tryz.func114 ?_
 refine zQ (zG ?_)
 refine zO fun b2 => ?_
 refine zO fun b3 => ?_
 refine zA fun b4 => ?_
 refine zA fun b5 => ?_
 refine zR 2 rfl (zN (zU (zQ (zQ (zG ?_)))))
 refine yB 3 ?_
 refine WL.call en99 rfl rfl qD (CallOp.mkT rfl rfl rfl rfl) (CNormalV_C hvf ha w0 _) ?_
 rintro _ R1 _ hR1 ⟨fa1x, ca1x, rfl, ha1x, hsub⟩
 refine WL.subE hsub ?_
 unfold cvV
 dsimp only at ha1x ⊢
 have hb := hb.mono hR1
 refine zR 3 rfl ?_
 refine zE 1 ?_
 refine zR 1 rfl (zN (zU (zQ (zG (zR 2 rfl (zN (zU ?_)))))))
 refine cN rfl ?_ ?_ <;> intro hc0
 ·
  exact absurd rfl hc0
 ·
  refine zK (zU (zQ (zQ (zG ?_))))
  refine yB 2 ?_
  refine WL.call en99 rfl rfl qD (CallOp.mkT rfl rfl rfl rfl) (CNormalV_C hvg hb w0 _) ?_
  rintro _ R2 _ hR2 ⟨fa2x, ca2x, rfl, ha2x, hsub⟩
  refine WL.subE hsub ?_
  unfold cvV
  dsimp only at ha2x ⊢
  have ha1x := ha1x.mono hR2
  refine zR 3 rfl ?_
  refine zE 0 ?_
  refine zR 1 rfl (zN (zU (zQ (zG (zR 2 rfl (zN (zU ?_)))))))
  refine cN rfl ?_ ?_ <;> intro hc1
  ·
   exact absurd rfl hc1
  ·
   refine zK (zU (zQ (zQ (zG (zR 1 rfl ?_)))))
   refine yM 1 ?_
   refine zR 1 rfl ?_
   refine yM 0 ?_
   refine WG.callV (v := .int .i64 (lcmN P1 P2 : Int)) en100 rfl rfl (by decide) (CallOp.mk' rfl rfl rfl rfl) (fun _ => rfl) (fun hg => by rw [hP1, hP2]; exact Common_V (by omega) (by omega)) ?_
   refine zR 1 rfl (zN (zU (zQ (zG (zR 2 rfl (zN (zU ?_)))))))
   refine cD rfl ?_ ?_ <;> intro hc2
   ·
    omega
   ·
    refine zK (zU (zQ ?_))
    refine W.regionH _ (ES := []) mixed ?_
    refine tP 2 ?_
    refine WA.br2 (i := 0) (j := 1) qK ?_ ?_
    ·
     refine sL (Rd.blk 1 rfl) ?_
     refine WA.br2 (i := 1) (j := 3) qK ?_ ?_
     ·
      refine sL (Rd.blk 0 rfl) ?_
      refine zCE 3 1 ?_
      refine zCE 4 0 ?_
      refine tP 5 ?_
      refine tP 6 ?_
      refine WA.done qK ?_
      refine zU (zT ?_)
      refine WE.retF tab_ok [_, _, _, _] rfl ⟨⟨_, _, _, rfl, rfl, rfl, qB, rfl⟩, ⟨_, _, _, rfl, rfl, rfl, qB, rfl⟩, rfl, rfl, trivial⟩ (hR1.trans hR2) ?_
      exact ⟨_, _, _, _, rfl, ha1x, ha2x, qS⟩
     ·
      refine WS.effN rfl rfl rfl (Ef.store0 1 tab_ok rfl rfl rfl rfl rfl rfl rfl rfl ?_)
      refine ⟨qR, qS, ?_⟩
      refine lL 1 (Rd.blk 0 rfl) ?_
      refine zCE 4 0 ?_
      refine tP 5 ?_
      refine tP 6 ?_
      refine WA.done qK ?_
      refine zU (zT ?_)
      refine WE.retF tab_ok [_, _, _, _] rfl ⟨⟨_, _, _, rfl, rfl, rfl, qB, rfl⟩, ⟨_, _, _, rfl, rfl, rfl, qB, rfl⟩, rfl, rfl, trivial⟩ (hR1.trans hR2) ?_
      exact ⟨_, _, _, _, rfl, ha1x, ha2x, qS⟩
    ·
     refine sL (Rd.blk 0 rfl) ?_
     refine lL 0 (Rd.blk 1 rfl) ?_
     refine zCE 3 1 ?_
     refine zCE 4 0 ?_
     refine tP 5 ?_
     refine tP 6 ?_
     refine WA.done qK ?_
     refine zU (zT ?_)
     refine WE.retF tab_ok [_, _, _, _] rfl ⟨⟨_, _, _, rfl, rfl, rfl, qB, rfl⟩, ⟨_, _, _, rfl, rfl, rfl, qB, rfl⟩, rfl, rfl, trivial⟩ (hR1.trans hR2) ?_
     exact ⟨_, _, _, _, rfl, ha1x, ha2x, qS⟩
theorem PBoth_C {R : Ro} {fa : Option Addr} {fc : Nat} {cf : Cv} (hvf : validB cf = true) (ha : RS R 1 encI fa cf.vals) {ga : Option Addr} {gc : Nat} {cg : Cv} (hvg : validB cg = true) (hb : RS R 1 encI ga cg.vals) (w0 : World) (E : List Ent) : K.Fn Tryz.prog 114 [.agg #[.slice fa cf.vals.length fc, .int .i64 cf.per, .int .i64 cf.inc], .agg #[.slice ga cg.vals.length gc, .int .i64 cg.per, .int .i64 cg.inc]] w0 R E (fun v R' E' => ∃ (a1 a2 : Option Addr) (c1 c2 : Nat) (x y : Cv) (l e : Int), v = .tuple #[.agg #[.slice a1 x.vals.length c1, .int .i64 x.per, .int .i64 x.inc], .agg #[.slice a2 y.vals.length c2, .int .i64 y.per, .int .i64 y.inc], .int .i64 l, .int .i64 e] ∧ RS R' 1 encI a1 x.vals ∧ RS R' 1 encI a2 y.vals ∧ ((120 < lcmC (normR cf) (normR cg) ∧ e = 3) ∨ (lcmC (normR cf) (normR cg) ≤ 120 ∧ x = normR cf ∧ y = normR cg ∧ l = (lcmC (normR cf) (normR cg) : Int) ∧ e = 0)) ∧ E.Sublist E') := by
 rcases Nat.lt_or_ge 120 (lcmC (normR cf) (normR cg)) with hl | hl
 ·refine (PBoth_lim hvf ha hvg hb hl w0 E).mono ?_
  rintro v R' E' hR ⟨rfl, hsub⟩
  exact ⟨none, none, 0, 0, zcv, zcv, 0, 3, rfl, rs_nil, rs_nil, .inl ⟨hl, rfl⟩, hsub⟩
 ·refine (PBoth_ok hvf ha hvg hb hl w0 E).mono ?_
  rintro v R' E' hR ⟨a1, a2, c1, c2, rfl, h1, h2, hsub⟩
  exact ⟨a1, a2, c1, c2, _, _, _, 0, rfl, h1, h2, .inr ⟨hl, rfl, rfl, rfl, rfl⟩, hsub⟩
theorem SumF_V {R : Ro} {fa : Option Addr} {fc : Nat} {cf : Cv} (hvf : validB cf = true) (ha : RS R 1 encI fa cf.vals) {ga : Option Addr} {gc : Nat} {cg : Cv} (hvg : validB cg = true) (hb : RS R 1 encI ga cg.vals) {b6 b7 : Nat} (h6 : R b6 = some [.slice fa cf.vals.length fc, .int .i64 cf.per, .int .i64 cf.inc]) (h7 : R b7 = some [.slice ga cg.vals.length gc, .int .i64 cg.per, .int .i64 cg.inc]) {t : Nat} (ht : t ≤ 1000000) : FnV Tryz.prog 115 [.int .i64 (t : Int), .pointer (some ⟨b6, 0, none⟩), .pointer (some ⟨b7, 0, none⟩)] R (.int .i64 (plusF cf cg t)) := by
 refine Fn.toV (fun w0 E => ?_)
 have hbf := cvF_bound hvf t
 have hbg := cvF_bound hvg t
 have i1 := isInf_iff hvf (t := t) (by omega)
 have i2 := isInf_iff hvg (t := t) (by omega)
 have hpl : plusF cf cg t = if cvF cf t = 4611686018427387904 ∨ cvF cg t = 4611686018427387904 then 4611686018427387904 else cvF cf t + cvF cg t := by
  unfold plusF
  by_cases h : isInf cf t ∨ isInf cg t
  ·rw [if_pos h]; exact (if_pos (h.imp i1.1 i2.1)).symm
  ·rw [if_neg h]; exact (if_neg (fun hh => h (hh.imp i1.2 i2.2))).symm
 unfold INF at hbf hbg
 refine fE 12 Tryz.func115 ?_
 refine zQ (zG (zR 1 rfl (zN (zU (zQ ?_)))))
 refine W.regionQ _ mixed qK ?_
 refine yD (r := by exact Rd.ro h6) (k := ?_)
 refine zR 1 rfl ?_
 refine WG.callV en75 rfl rfl qD (CallOp.mk' rfl rfl rfl rfl) (fun _ => rfl) (fun hg => WAtG_V hvf ha qO) ?_
 refine yD (r := by exact Rd.ro h7) (k := ?_)
 refine zR 1 rfl ?_
 refine WG.callV en75 rfl rfl qD (CallOp.mk' rfl rfl rfl rfl) (fun _ => rfl) (fun hg => WAtG_V hvg hb qO) ?_
 refine WG.callV en116 rfl rfl qD (CallOp.mk' rfl rfl rfl rfl) (fun _ => rfl) (fun hg => WPlus_V qO qO) ?_
 refine zR 1 rfl (zN (zU (zT ?_)))
 refine sE (E := E) ?_
 refine zr1 ?_
 exact ⟨by rw [hpl]; rfl, rfl⟩
set_option maxHeartbeats 1000000 in
theorem PSum_C {R : Ro} {fa : Option Addr} {fc : Nat} {cf : Cv} (hvf : validB cf = true) (ha : RS R 1 encI fa cf.vals) {ga : Option Addr} {gc : Nat} {cg : Cv} (hvg : validB cg = true) (hb : RS R 1 encI ga cg.vals) (w0 : World) (E : List Ent) : K.Fn Tryz.prog 105 [.agg #[.slice fa cf.vals.length fc, .int .i64 cf.per, .int .i64 cf.inc], .agg #[.slice ga cg.vals.length gc, .int .i64 cg.per, .int .i64 cg.inc]] w0 R E (fun r R' E' => ∃ (f : Option Addr) (fc : Nat), r = cvV f fc (sumC cf cg) ∧ RS R' 1 encI f (sumC cf cg).1.vals ∧ E.Sublist E') := by
 have hnf := norm_nrm hvf
 have hng := norm_nrm hvg
 obtain ⟨_, f1, f2, f3, f4, f5, f6, f7⟩ := valid_range hnf.valid
 obtain ⟨_, g1, g2, g3, g4, g5, g6, g7⟩ := valid_range hng.valid
 obtain ⟨P1, hP1⟩ := Int.eq_ofNat_of_zero_le (show 0 ≤ (normR cf).per by omega)
 obtain ⟨P2, hP2⟩ := Int.eq_ofNat_of_zero_le (show 0 ≤ (normR cg).per by omega)
 have hlc : lcmC (normR cf) (normR cg) = lcmN P1 P2 := by unfold lcmC; rw [hP1, hP2]; rfl
 have hlb : lcmN P1 P2 ≤ 14400 := Nat.le_trans (lcmN_facts (by omega) (by omega)).2.2.1 (Nat.mul_le_mul (show P1 ≤ 120 by omega) (show P2 ≤ 120 by omega))
 have hlp := (lcmN_facts (a := P1) (b := P2) (by omega) (by omega)).2.2.2
 have hs1 := stN_lt hnf.valid
 have hs2 := stN_lt hng.valid
 refine fE 41 Tryz.func105 ?_
 refine zQ (zG ?_)
 refine zO fun b2 => ?_
 refine zO fun b3 => ?_
 refine zA fun b4 => ?_
 refine zR 1 rfl (zN (zU (zQ (zG ?_))))
 refine yB 2 ?_
 refine yB 1 ?_
 refine WL.call en114 rfl rfl qD (CallOp.mkT rfl rfl rfl rfl) (PBoth_C hvf ha hvg hb w0 _) ?_
 rintro _ R1 _ hR1 ⟨a1, a2, c1, c2, x, y, l, e, rfl, hx1, hx2, hcase, hsub⟩
 refine WL.subE hsub ?_
 refine zR 5 rfl ?_
 refine zA fun b6 => ?_
 refine zA fun b7 => ?_
 refine zE 1 ?_
 refine zE 0 ?_
 refine zR 2 rfl (zN (zU (zQ (zQ (zG (zR 2 rfl (zN (zU ?_))))))))
 refine cN rfl ?_ ?_ <;> intro hc0
 ·
  obtain ⟨hl, rfl⟩ : 120 < lcmC (normR cf) (normR cg) ∧ e = 3 := by
   rcases hcase with h | h
   ·exact h
   ·exact absurd h.2.2.2.2 (by omega)
  have hd : sumC cf cg = (zcv, 3) := by unfold sumC; rw [if_neg (by rw [hvf, hvg]; simp), if_pos (by omega)]
  refine zQ (zG ?_)
  refine yW [] ?_
  refine zR 1 rfl ?_
  refine zE 2 ?_
  refine zR 1 rfl (zN (zU (zT (wt ?_))))
  refine zq4 (by first | exact hR1 | exact hR1.trans (hR2.trans (hR3.trans hR4))) ?_
  exact ⟨none, 0, by rw [hd]; rfl, by rw [hd]; exact rs_nil, qS⟩
 ·
  obtain ⟨hl, rfl, rfl, rfl, rfl⟩ : lcmC (normR cf) (normR cg) ≤ 120 ∧ x = normR cf ∧ y = normR cg ∧ l = (lcmC (normR cf) (normR cg) : Int) ∧ e = 0 := by
   rcases hcase with h | h
   ·exact absurd h.2 (by omega)
   ·exact h
  rw [hlc] at hl ⊢
  have hd : sumC cf cg = mbuild (plusF (normR cf) (normR cg)) (max (stN (normR cf)) (stN (normR cg))) (lcmN P1 P2) (gainC (normR cf) (lcmN P1 P2) + gainC (normR cg) (lcmN P1 P2)) := by unfold sumC; rw [if_neg (by rw [hvf, hvg]; simp), if_neg (by omega), hlc]
  have hga : 0 ≤ gainC (normR cf) (lcmN P1 P2) ∧ gainC (normR cf) (lcmN P1 P2) ≤ 120 * 1073741824 := by
   unfold gainC
   have hd0 : 0 ≤ ((lcmN P1 P2) : Int) / (normR cf).per := Int.ediv_nonneg (by omega) (by omega)
   have hd1 : ((lcmN P1 P2) : Int) / (normR cf).per ≤ (lcmN P1 P2) := Int.ediv_le_self _ (by omega)
   exact mulB qO qO
  have hgb : 0 ≤ gainC (normR cg) (lcmN P1 P2) ∧ gainC (normR cg) (lcmN P1 P2) ≤ 120 * 1073741824 := by
   unfold gainC
   have hd0 : 0 ≤ ((lcmN P1 P2) : Int) / (normR cg).per := Int.ediv_nonneg (by omega) (by omega)
   have hd1 : ((lcmN P1 P2) : Int) / (normR cg).per ≤ (lcmN P1 P2) := Int.ediv_le_self _ (by omega)
   exact mulB qO qO
  have hmx : (if (stN (normR cf) : Int) < (stN (normR cg) : Int) then (stN (normR cg) : Int) else (stN (normR cf) : Int)) = ((max (stN (normR cf)) (stN (normR cg)) : Nat) : Int) := by split <;> omega
  have hpb : ∀ t : Nat, t ≤ 1000 → (plusF (normR cf) (normR cg)) t = INF ∨ (0 ≤ (plusF (normR cf) (normR cg)) t ∧ (plusF (normR cf) (normR cg)) t ≤ 1000000000000000) := fun t ht => by
   unfold plusF
   by_cases h : isInf (normR cf) t ∨ isInf (normR cg) t
   ·rw [if_pos h]; exact .inl rfl
   ·rw [if_neg h]
    have a1 := fin_part hnf.valid (fun x => h (.inl x)) (show t ≤ 1000000000 by omega)
    have a2 := fin_part hng.valid (fun x => h (.inr x)) (show t ≤ 1000000000 by omega)
    right; omega
  refine zK (zU (zQ (zG (zR 2 rfl (zN (zU ?_))))))
  refine W.freezeBlk 0 rfl ?_
  intro R2 hR2 h7
  refine W.freezeBlk 0 rfl ?_
  intro R3 hR3 h6
  have h7 := hR3 _ _ h7
  have hx1 := hx1.mono (hR2.trans hR3)
  have hx2 := hx2.mono (hR2.trans hR3)
  have hF : ∀ t : Nat, t < max (stN (normR cf)) (stN (normR cg)) + (lcmN P1 P2) → FnV Tryz.prog 115 ((#[] : Array Value).toList ++ [.int .i64 (t : Int)] ++ (#[.pointer (some ⟨b6, 0, none⟩), .pointer (some ⟨b7, 0, none⟩)] : Array Value).toList) R3 (.int .i64 ((plusF (normR cf) (normR cg)) t)) := fun t ht => SumF_V hnf.valid hx1 hng.valid hx2 h6 h7 (by omega)
  refine zQ ?_
  refine W.regionH _ (ES := []) mixed ?_
  refine tP 0 ?_
  refine tD 1 (r := by (exact Rd.ro qU)) (k := ?_)
  refine tD 3 (r := by (exact Rd.ro qU)) (k := ?_)
  refine tP 6 ?_
  refine tD 7 (r := by (exact Rd.ro qU)) (k := ?_)
  refine tP 8 ?_
  refine tD 10 (r := by (exact Rd.ro qU)) (k := ?_)
  refine tP 11 ?_
  refine WA.callG 2 rfl qK en101 rfl (by first | rfl | decide) rfl qD (CallOp.mkT rfl rfl rfl rfl) ((WStartG_V hnf.valid hx1).toFn) ?_
  rintro _ _ _ - ⟨rfl, rfl, rfl⟩
  refine ⟨qR, qS, ?_⟩
  refine WA.callG 4 rfl qK en101 rfl (by first | rfl | decide) rfl qD (CallOp.mkT rfl rfl rfl rfl) ((WStartG_V hng.valid hx2).toFn) ?_
  rintro _ _ _ - ⟨rfl, rfl, rfl⟩
  refine ⟨qR, qS, ?_⟩
  refine tP 5 ?_
  refine WA.callG 9 rfl qK en117 rfl (by first | rfl | decide) rfl qD (CallOp.mkT rfl rfl rfl rfl) ((PGainG_V hnf.valid hx1 qO).toFn) ?_
  rintro _ _ _ - ⟨rfl, rfl, rfl⟩
  refine ⟨qR, qS, ?_⟩
  refine WA.callG 12 rfl qK en117 rfl (by first | rfl | decide) rfl qD (CallOp.mkT rfl rfl rfl rfl) ((PGainG_V hng.valid hx2 qO).toFn) ?_
  rintro _ _ _ - ⟨rfl, rfl, rfl⟩
  refine ⟨qR, qS, ?_⟩
  refine tA 13 ?_
  refine WA.callG 14 rfl qK en111 rfl (by first | rfl | decide) rfl qD (CallOp.mkT rfl rfl rfl rfl) (hmx ▸ Build_C (S := max (stN (normR cf)) (stN (normR cg))) (P := (lcmN P1 P2)) (F := (plusF (normR cf) (normR cg))) en115 qO qO qO (fun t ht => hpb t qO) hF w0 _) ?_
  rintro _ R4 E4 hR4 ⟨fr, frc, rfl, hfr, hsub⟩
  refine ⟨hR4, List.nil_sublist _, ?_⟩
  refine WA.subE hsub ?_
  rw [← hd] at hfr ⊢
  unfold cvV
  refine tP 15 ?_
  refine tP 16 ?_
  refine zCE 17 0 ?_
  refine tP 18 ?_
  refine WA.done qK ?_
  refine zU (zT ?_)
  refine zq4 (by first | exact hR1 | exact hR1.trans (hR2.trans (hR3.trans hR4))) ?_
  exact ⟨fr, frc, rfl, hfr, qS⟩

theorem POne_C {R : Ro} {fa : Option Addr} {fc : Nat} {cf : Cv} (hvf : validB cf = true) (ha : RS R 1 encI fa cf.vals) {k low high : Int} (hk : low ≤ k ∧ k ≤ high) (w0 : World) (E : List Ent) : K.Fn Tryz.prog 156 [.agg #[.slice fa cf.vals.length fc, .int .i64 cf.per, .int .i64 cf.inc], .int .i64 k, .int .i64 low, .int .i64 high] w0 R E (fun r R' E' => ∃ (f : Option Addr) (fc : Nat), r = cvV f fc (normR cf, 0) ∧ RS R' 1 encI f ((normR cf, (0 : Int))).1.vals ∧ E.Sublist E') := by
 refine fE 31 Tryz.func156 ?_
 refine zQ (zG ?_)
 refine zO fun b4 => ?_
 refine zA fun b8 => ?_
 refine zR 1 rfl (zN (zU (zQ (zG ?_))))
 refine yB 1 ?_
 refine WL.call en99 rfl rfl qD (CallOp.mkT rfl rfl rfl rfl) (CNormalV_C hvf ha w0 _) ?_
 rintro _ R1 _ hR1 ⟨fa1x, ca1x, rfl, ha1x, hsub⟩
 refine WL.subE hsub ?_
 unfold cvV
 dsimp only at ha1x ⊢
 refine zR 3 rfl ?_
 refine zA fun b10 => ?_
 refine zE 0 ?_
 refine zR 1 rfl (zN (zU (zQ (zQ (zG (zR 2 rfl (zN (zU ?_))))))))
 refine cN rfl ?_ ?_ <;> intro hc0
 ·
  exact absurd rfl hc0
 ·
  refine zK (zU (zQ (zQ (zG (zR 4 rfl ?_)))))
  refine yP ?_
  refine yP ?_
  refine yP ?_
  refine yO ?_
  refine zN (zU ?_)
  refine cC rfl ?_ ?_ <;> intro hc1
  ·try simp only [zk] at hc1
   omega
  ·try simp only [zk] at hc1
   refine zK (zU (zQ (zG ?_)))
   refine yB 0 ?_
   refine zE 1 ?_
   refine zR 1 rfl (zN (zU (zT ?_)))
   refine zq4 (hR1) ?_
   exact ⟨_, _, rfl, ha1x, qS⟩
theorem RaiseF_V {R : Ro} {fa : Option Addr} {fc : Nat} {cf : Cv} (hvf : validB cf = true) (ha : RS R 1 encI fa cf.vals) {b6 b3 : Nat} {k : Int} (h6 : R b6 = some [.slice fa cf.vals.length fc, .int .i64 cf.per, .int .i64 cf.inc]) (h3 : R b3 = some [.int .i64 k]) (hk : 0 ≤ k ∧ k ≤ 1073741824) {t : Nat} (ht : t ≤ 1000000) : FnV Tryz.prog 157 [.int .i64 (t : Int), .pointer (some ⟨b6, 0, none⟩), .pointer (some ⟨b3, 0, none⟩)] R (.int .i64 (raiseF cf k t)) := by
 refine Fn.toV (fun w0 E => ?_)
 have hbf := cvF_bound hvf t
 have i1 := isInf_iff hvf (t := t) (by omega)
 unfold INF at hbf
 refine fE 12 Tryz.func157 ?_
 refine zQ (zG (zR 1 rfl (zN (zU (zQ (zQ (zG (zR 2 rfl (zN (zU ?_))))))))))
 refine cE rfl ?_ ?_ <;> intro hc0
 ·
  obtain rfl : t = 0 := by omega
  have hpl : raiseF cf k 0 = 0 := if_pos rfl
  refine zQ (zG (zR 1 rfl (zN (zU (zT (wt ?_))))))
  refine sE (E := E) ?_
  refine zr1 ?_
  exact ⟨by rw [hpl]; rfl, rfl⟩
 ·
  have hpl : raiseF cf k t = if cvF cf t = 4611686018427387904 ∨ k = 4611686018427387904 then 4611686018427387904 else cvF cf t + k := by
   have e : raiseF cf k t = if isInf cf t then INF else cvF cf t + k := if_neg (by omega)
   rw [e]
   by_cases h : isInf cf t
   ·rw [if_pos h]; exact (if_pos (.inl (i1.1 h))).symm
   ·rw [if_neg h]; exact (if_neg (fun hh => hh.elim (fun x => h (i1.2 x)) (fun x => by omega))).symm
  refine zK (zU (zQ ?_))
  refine W.regionQ _ mixed qK ?_
  refine yD (r := by exact Rd.ro h6) (k := ?_)
  refine zR 1 rfl ?_
  refine WG.callV en75 rfl rfl qD (CallOp.mk' rfl rfl rfl rfl) (fun _ => rfl) (fun hg => WAtG_V hvf ha qO) ?_
  refine yD (r := by exact Rd.ro h3) (k := ?_)
  refine WG.callV en116 rfl rfl qD (CallOp.mk' rfl rfl rfl rfl) (fun _ => rfl) (fun hg => WPlus_V qO qO) ?_
  refine zR 1 rfl (zN (zU (zT ?_)))
  refine sE (E := E) ?_
  refine zr1 ?_
  exact ⟨by rw [hpl]; rfl, rfl⟩
set_option maxHeartbeats 1000000 in
theorem PRaise_C {R : Ro} {fa : Option Addr} {fc : Nat} {cf : Cv} (hvf : validB cf = true) (ha : RS R 1 encI fa cf.vals) {k : Int} (hk : 0 ≤ k ∧ k ≤ 1073741824) (w0 : World) (E : List Ent) : K.Fn Tryz.prog 152 [.agg #[.slice fa cf.vals.length fc, .int .i64 cf.per, .int .i64 cf.inc], .int .i64 k] w0 R E (fun r R' E' => ∃ (f : Option Addr) (fc : Nat), r = cvV f fc (raiseC cf k) ∧ RS R' 1 encI f (raiseC cf k).1.vals ∧ E.Sublist E') := by
 have hnf := norm_nrm hvf
 obtain ⟨_, f1, f2, f3, f4, f5, f6, f7⟩ := valid_range hnf.valid
 have hst := stN_lt hnf.valid
 have hd : raiseC cf k = mbuild (raiseF (normR cf) k) (max 1 (stN (normR cf))) (normR cf).per.toNat (normR cf).inc := by unfold raiseC MAXV; rw [if_neg (by rw [hvf]; simp), if_neg (by omega)]
 have hperI : (((normR cf).per.toNat : Nat) : Int) = (normR cf).per := by omega
 have hmx : (if (1 : Int) < (stN (normR cf) : Int) then (stN (normR cf) : Int) else (1 : Int)) = ((max 1 (stN (normR cf)) : Nat) : Int) := by split <;> omega
 have hpb : ∀ t : Nat, t ≤ 1000 → (raiseF (normR cf) k) t = INF ∨ (0 ≤ (raiseF (normR cf) k) t ∧ (raiseF (normR cf) k) t ≤ 1000000000000000) := fun t ht => by
  unfold raiseF
  by_cases h0 : t = 0
  ·rw [if_pos h0]; right; omega
  ·rw [if_neg h0]
   by_cases h : isInf (normR cf) t
   ·rw [if_pos h]; exact .inl rfl
   ·rw [if_neg h]
    have a1 := fin_part hnf.valid h (show t ≤ 1000000000 by omega)
    right; omega
 refine fE 31 Tryz.func152 ?_
 refine zQ (zG ?_)
 refine zO fun b2 => ?_
 refine zO fun b3 => ?_
 refine zA fun b4 => ?_
 refine zR 1 rfl (zN (zU (zQ (zG ?_))))
 refine yB 2 ?_
 refine yB 1 ?_
 refine WL.call en156 rfl rfl qD (CallOp.mkT rfl rfl rfl rfl) (POne_C hvf ha qO w0 _) ?_
 rintro _ R1 _ hR1 ⟨a1, c1, rfl, hx1, hsub⟩
 refine WL.subE hsub ?_
 unfold cvV
 dsimp only at hx1 ⊢
 refine zR 3 rfl ?_
 refine zA fun b6 => ?_
 refine zE 0 ?_
 refine zR 1 rfl (zN (zU (zQ (zQ (zG (zR 2 rfl (zN (zU ?_))))))))
 refine cN rfl ?_ ?_ <;> intro hc0
 ·
  exact absurd rfl hc0
 ·
  refine zK (zU (zQ (zG (zR 2 rfl (zN (zU ?_))))))
  refine W.freezeBlk 0 rfl ?_
  intro R2 hR2 h6
  refine W.freezeBlk 1 rfl ?_
  intro R3 hR3 h3
  have h6 := hR3 _ _ h6
  have hx1 := hx1.mono (hR2.trans hR3)
  have hF : ∀ t : Nat, t < max 1 (stN (normR cf)) + (normR cf).per.toNat → FnV Tryz.prog 157 ((#[] : Array Value).toList ++ [.int .i64 (t : Int)] ++ (#[.pointer (some ⟨b6, 0, none⟩), .pointer (some ⟨b3, 0, none⟩)] : Array Value).toList) R3 (.int .i64 ((raiseF (normR cf) k) t)) := fun t ht => RaiseF_V hnf.valid hx1 h6 h3 hk (by omega)
  refine zQ ?_
  refine W.regionH _ (ES := []) mixed ?_
  refine tP 0 ?_
  refine tD 1 (r := by (exact Rd.ro qU)) (k := ?_)
  refine tP 4 ?_
  refine tD 5 (r := by apply Rd.add; (exact Rd.ro qU)) (k := ?_)
  refine tP 6 ?_
  refine tD 7 (r := by apply Rd.add; (exact Rd.ro qU)) (k := ?_)
  refine WA.callG 2 rfl qK en101 rfl (by first | rfl | decide) rfl qD (CallOp.mkT rfl rfl rfl rfl) ((WStartG_V hnf.valid hx1).toFn) ?_
  rintro _ _ _ - ⟨rfl, rfl, rfl⟩
  refine ⟨qR, qS, ?_⟩
  refine tP 3 ?_
  refine WA.callG 8 rfl qK en111 rfl (by first | rfl | decide) rfl qD (CallOp.mkT rfl rfl rfl rfl) (hmx ▸ hperI ▸ Build_C (S := max 1 (stN (normR cf))) (P := (normR cf).per.toNat) (F := (raiseF (normR cf) k)) en157 qO qO qO (fun t ht => hpb t qO) hF w0 _) ?_
  rintro _ R4 E4 hR4 ⟨fr, frc, rfl, hfr, hsub⟩
  refine ⟨hR4, List.nil_sublist _, ?_⟩
  refine WA.subE hsub ?_
  rw [← hd] at hfr ⊢
  unfold cvV
  refine tP 9 ?_
  refine tP 10 ?_
  refine zCE 11 0 ?_
  refine tP 12 ?_
  refine WA.done qK ?_
  refine zU (zT ?_)
  refine zq4 (by first | exact hR1.trans (hR2.trans (hR3.trans hR4))) ?_
  exact ⟨fr, frc, rfl, hfr, qS⟩
theorem FlatF_V {R : Ro} {b1 : Nat} {k : Int} (h1 : R b1 = some [.int .i64 k]) (hk : 0 ≤ k ∧ k ≤ 1073741824) {t : Nat} (ht : t ≤ 1000000) : FnV Tryz.prog 113 [.int .i64 (t : Int), .pointer (some ⟨b1, 0, none⟩)] R (.int .i64 (flatF k t)) := by
 refine Fn.toV (fun w0 E => ?_)
 have hfl : k * (if (1 : Int) < (t : Int) then (1 : Int) else (t : Int)) = flatF k t := by
  unfold flatF
  by_cases h : t = 0
  ·subst h; simp
  ·rw [if_neg h, show (if (1 : Int) < (t : Int) then (1 : Int) else (t : Int)) = 1 by split <;> omega, Int.mul_one]
 have hfb : 0 ≤ flatF k t ∧ flatF k t ≤ 1073741824 := by unfold flatF; split <;> omega
 refine fE 8 Tryz.func113 ?_
 refine zQ (zG (zR 1 rfl (zN (zU (zQ (zG ?_))))))
 refine yD (r := by exact Rd.ro h1) (k := ?_)
 refine zR 2 rfl ?_
 refine yU ?_
 refine zR 1 rfl (zN (zU (zT ?_)))
 refine sE (E := E) ?_
 refine zr1 ?_
 exact ⟨by rw [← hfl]; rfl, rfl⟩
theorem CFlat_C {R : Ro} {k : Int} (hk : 0 ≤ k ∧ k ≤ 1073741824) (w0 : World) (E : List Ent) : K.Fn Tryz.prog 104 [.int .i64 k] w0 R E (fun r R' E' => ∃ (f : Option Addr) (fc : Nat), r = cvV f fc (flatC k) ∧ RS R' 1 encI f (flatC k).1.vals ∧ E.Sublist E') := by
 have hd : flatC k = mbuild (flatF k) 1 1 0 := rfl
 refine fE 14 Tryz.func104 ?_
 refine zQ (zG ?_)
 refine zO fun b1 => ?_
 refine zA fun b2 => ?_
 refine zR 1 rfl (zN (zU (zQ (zQ (zG ?_)))))
 refine yB 1 ?_
 refine zR 1 rfl (zN (zU ?_))
 refine cD rfl ?_ ?_ <;> intro hc0
 ·
  omega
 ·
  refine zK (zU (zQ (zQ (zG ?_))))
  refine yB 1 ?_
  refine zR 1 rfl (zN (zU ?_))
  refine cD rfl ?_ ?_ <;> intro hc1
  ·
   omega
  ·
   refine zK (zU ?_)
   refine W.freezeBlk 1 rfl ?_
   intro R2 hR2 h1
   have hF : ∀ t : Nat, t < 1 + 1 → FnV Tryz.prog 113 ((#[] : Array Value).toList ++ [.int .i64 (t : Int)] ++ (#[.pointer (some ⟨b1, 0, none⟩)] : Array Value).toList) R2 (.int .i64 (flatF k t)) := fun t ht => FlatF_V h1 hk (by omega)
   refine zQ (zG (zR 1 rfl ?_))
   refine WL.call en111 rfl rfl qD (CallOp.mkT rfl rfl rfl rfl) (Build_C (S := 1) (P := 1) (F := flatF k) en113 qO qO qO (fun t ht => .inr (flatF_bound hk t)) hF w0 _) ?_
   rintro _ R4 E4 hR4 ⟨fr, frc, rfl, hfr, hsub⟩
   refine WL.subE hsub ?_
   rw [← hd] at hfr ⊢
   unfold cvV
   refine zR 2 rfl ?_
   refine zE 0 ?_
   refine zR 1 rfl (zN (zU (zT ?_)))
   refine zq4 (hR2.trans hR4) ?_
   exact ⟨fr, frc, rfl, hfr, qS⟩
set_option maxHeartbeats 1000000 in
theorem PTotal_C {R : Ro} {la : Option Addr} {lc : Nat} {ls : List CvS} (hla : RS R 3 encC la ls) (hls : ∀ x ∈ ls, RS R 1 encI x.a x.cv.vals ∧ validB x.cv = true) (w0 : World) (E : List Ent) : K.Fn Tryz.prog 76 [.slice la ls.length lc] w0 R E (fun r R' E' => ∃ (f : Option Addr) (fc : Nat), r = cvV f fc (totalC (ls.map CvS.cv)) ∧ RS R' 1 encI f (totalC (ls.map CvS.cv)).1.vals ∧ E.Sublist E') := by
 have hll := hla.len
 have hz0 : flatC 0 = (zeroC, 0) := flat_zero
 refine fE 31 Tryz.func76 ?_
 refine zQ (zG ?_)
 refine zA fun b2 => ?_
 refine zR 1 rfl (zN (zU (zQ (zG ?_))))
 refine WL.call en104 rfl rfl qD (CallOp.mkT rfl rfl rfl rfl) (CFlat_C (k := 0) qD w0 _) ?_
 rintro _ R1 _ hR1 ⟨fz, fzc, rfl, hfz, hsub⟩
 refine WL.subE hsub ?_
 rw [hz0] at hfz ⊢
 unfold cvV
 dsimp only at hfz ⊢
 refine zR 3 rfl ?_
 refine zA fun b4 => ?_
 refine zE 0 ?_
 refine zR 1 rfl (zN (zU (zQ (zQ (zG (zR 3 rfl (zN (zU (zB ?_)))))))))
 refine W.loopR (β := Nat × Cv × Option Addr × Nat × Ro) (fun (i, s, sa, sc, Rk) => i ≤ ls.length ∧ RLe R1 Rk ∧ Nrm s ∧ RS Rk 1 encI sa s.vals ∧ totalC (ls.map CvS.cv) = totalGo s ((ls.map CvS.cv).drop i)) (fun (i, s, sa, sc, Rk) => [(5, true, .int .i64 0), (14, true, .int .i64 (i : Int))]) [2, 4, 12, 13] [_, _, _, _] [] _ rfl (fun (i, s, sa, sc, Rk) => [(0, .blk b4 [.slice sa s.vals.length sc, .int .i64 s.per, .int .i64 s.inc])]) (fun (i, s, sa, sc, Rk) => Rk) (fun (i, s, sa, sc, Rk) => ls.length - i) ((0, zeroC, fz, fzc, R1)) (⟨Nat.zero_le _, RLe.refl _, zero_nrm, hfz, rfl⟩) ⟨rfl, rfl, rfl, rfl, rfl, rfl, rfl⟩ (RLe.refl _) qS ?_
 intro zz hst
 obtain ⟨i, s, sa, sc, Rk⟩ := zz
 obtain ⟨hi, hRk, hns, hsa, htot⟩ := hst
 have hla := hla.mono (hR1.trans hRk)
 refine zQ (zG (zR 1 rfl (zN (zU (zQ ?_)))))
 refine cD rfl ?_ ?_ <;> intro hc0
 ·
  have hil : i < ls.length := by omega
  have hxi := hls _ (nth_mem hil)
  have hvx := hxi.2
  have hxa := hxi.1.mono (hR1.trans hRk)
  refine zK (zU (zQ (zB (zQ (zG ?_)))))
  refine yI ?_
  refine yD (r := by ((apply RS.rdD; assumption; ((try dsimp only) <;> omega)))) (k := ?_)
  refine zA fun b7 => ?_
  refine zE 0 ?_
  refine zN (zU (zQ (zG ?_)))
  refine yB 1 ?_
  refine yB 0 ?_
  refine WL.call en105 rfl rfl qD (CallOp.mkT rfl rfl rfl rfl) (PSum_C hns.valid hsa hvx hxa w0 _) ?_
  rintro _ R2 _ hR2 ⟨fr, frc, rfl, hfr, hsub⟩
  refine WL.subE hsub ?_
  unfold cvV
  have hgo : totalC (ls.map CvS.cv) = if (sumC s (nth ls i).cv).2 ≠ 0 then (zcv, (sumC s (nth ls i).cv).2) else totalGo (sumC s (nth ls i).cv).1 ((ls.map CvS.cv).drop (i + 1)) := by
   rw [htot, drop_map_cons hil]
   rfl
  have hsr := sum_res hns.valid hvx
  generalize sumC s (nth ls i).cv = sr at hfr hgo hsr ⊢
  obtain ⟨sv, se⟩ := sr
  dsimp only at hfr hgo hsr ⊢
  refine zR 3 rfl ?_
  refine zE 1 ?_
  refine zR 1 rfl (zN (zU (zQ (zG (zR 2 rfl (zN (zU ?_)))))))
  refine cN rfl ?_ ?_ <;> intro hc1
  ·
   have hd : totalC (ls.map CvS.cv) = (zcv, se) := by rw [hgo, if_pos hc1]
   refine zQ (zG ?_)
   refine yW [] ?_
   refine zR 1 rfl ?_
   refine zE 2 ?_
   refine zR 1 rfl (zN (zU (zT (wb (wt (wt (wb (wt ?_))))))))
   refine zq4 (by first | exact hR1.trans (hRk.trans hR2) | exact hR1.trans hRk) ?_
   exact ⟨none, 0, by rw [hd]; rfl, by rw [hd]; exact rs_nil, qS⟩
  ·
   have hd2 : totalC (ls.map CvS.cv) = totalGo sv ((ls.map CvS.cv).drop (i + 1)) := by rw [hgo, if_neg (fun h => h hc1)]
   obtain ⟨rfl, hnsv⟩ : se = 0 ∧ Nrm sv := by
    rcases hsr with h | ⟨c, h1, h2, _⟩
    ·have := congrArg Prod.snd h; dsimp only at this; omega
    ·have e1 := congrArg Prod.fst h1
     have e2 := congrArg Prod.snd h1
     dsimp only at e1 e2
     exact ⟨e2, by rw [e1]; exact h2⟩
   refine zK (zL (zU (zG ?_)))
   refine yA ?_
   refine zR 1 rfl (zN ?_)
   refine WE.again ((i + 1, sv, fr, frc, R2)) (⟨by dsimp only; omega, hRk.trans hR2, hnsv, hfr, hd2⟩) (by (try dsimp only); omega) ⟨rfl, rfl, rfl, rfl, rfl, rfl, rfl⟩ (RLe.refl _) qS
 ·
  obtain rfl : i = ls.length := by omega
  have hd : totalC (ls.map CvS.cv) = (s, 0) := by rw [htot, List.drop_eq_nil_of_le (by simp)]; rfl
  refine zX ?_
  refine wx (wx (zY (zU (zQ (zG ?_)))))
  refine yB 0 ?_
  refine zR 1 rfl ?_
  refine zE 1 ?_
  refine zR 1 rfl (zN (zU (zT ?_)))
  refine zq4 (by first | exact hR1.trans (hRk.trans hR2) | exact hR1.trans hRk) ?_
  exact ⟨sa, sc, by rw [hd]; rfl, by rw [hd]; exact hsa, qS⟩

theorem ComOne_V {R : Ro} {P2 : Nat} {p : Int} (hp : p = (P2 : Int)) (hb : 0 < P2 ∧ P2 ≤ 1000) : FnV Tryz.prog 100 [.int .i64 1, .int .i64 p] R (.int .i64 p) := by
 subst hp
 have h := Common_V (R := R) (a := 1) (b := P2) (by omega) (by omega)
 rw [show 1 / Nat.gcd 1 P2 * P2 = P2 by rw [Nat.gcd_one_left]; simp] at h
 exact h
set_option maxHeartbeats 1000000 in
theorem RBoth_C {R : Ro} {la : Option Addr} {lc : Nat} {cap : Int} (hcap : 1 ≤ cap ∧ cap ≤ 4000) (hla : RS R 1 encI la (lineC cap).vals) {ga : Option Addr} {gc : Nat} {cg : Cv} (hvg : validB cg = true) (hb : RS R 1 encI ga cg.vals) (w0 : World) (E : List Ent) : K.Fn Tryz.prog 158 [.agg #[.slice la (lineC cap).vals.length lc, .int .i64 (lineC cap).per, .int .i64 (lineC cap).inc], .agg #[.slice ga cg.vals.length gc, .int .i64 cg.per, .int .i64 cg.inc]] w0 R E (fun v R' E' => ∃ (a1 a2 : Option Addr) (c1 c2 : Nat), v = .tuple #[.agg #[.slice a1 (lineC cap).vals.length c1, .int .i64 (lineC cap).per, .int .i64 (lineC cap).inc, .slice a2 (normR cg).vals.length c2, .int .i64 (normR cg).per, .int .i64 (normR cg).inc, .int .i64 (stN (normR cg) : Int), .int .i64 (normR cg).per, .int .i64 (driftL cap (normR cg))], .int .i64 0] ∧ RS R' 1 encI a1 (lineC cap).vals ∧ RS R' 1 encI a2 (normR cg).vals ∧ E.Sublist E') := by
 obtain ⟨hln, hlcv, hlf, hls⟩ := line_facts (cap := cap) (by omega)
 have hlnn : normR (lineC cap) = lineC cap := hln.norm
 have hng := norm_nrm hvg
 obtain ⟨_, g1, g2, g3, g4, g5, g6, g7⟩ := valid_range hng.valid
 have hst := stN_lt hng.valid
 obtain ⟨P2, hP2⟩ := Int.eq_ofNat_of_zero_le (show 0 ≤ (normR cg).per by omega)
 have hmx : (if (stN (lineC cap) : Int) < (stN (normR cg) : Int) then (stN (normR cg) : Int) else (stN (lineC cap) : Int)) = (stN (normR cg) : Int) := by rw [hls]; split <;> omega
 have hcom : ((1 / Nat.gcd 1 P2 * P2 : Nat) : Int) = (normR cg).per := by rw [hP2, Nat.gcd_one_left]; simp
 have hmul := mulB (a := (normR cg).per) (b := cap) (A := 120) (B := 4000) (by omega) (by omega)
 have hdv : (normR cg).per / (normR cg).per = 1 := Int.ediv_self (by omega)
 have hlp : (lineC cap).per = 1 := rfl
 have hli : (lineC cap).inc = cap := rfl
 have hdr : (normR cg).per / (lineC cap).per * (lineC cap).inc - (normR cg).per / (normR cg).per * (normR cg).inc = driftL cap (normR cg) := by rw [hdv, hlp, hli, Int.ediv_one, Int.one_mul]; rfl
 have ha1 : (normR cg).per / (lineC cap).per * (lineC cap).inc = (normR cg).per * cap := by rw [hlp, hli, Int.ediv_one]
 have ha2 : (normR cg).per / (normR cg).per * (normR cg).inc = (normR cg).inc := by rw [hdv, Int.one_mul]
 have ha0 : 0 ≤ (normR cg).per / (lineC cap).per ∧ (normR cg).per / (lineC cap).per ≤ 120 := by rw [hlp, Int.ediv_one]; omega
 refine fE 64 Tryz.func158 ?_
 refine zQ (zG ?_)
 refine zO fun b2 => ?_
 refine zO fun b3 => ?_
 refine zA fun b4 => ?_
 refine zR 1 rfl (zN (zU (zQ (zG ?_))))
 refine yB 2 ?_
 refine WL.call en99 rfl rfl qD (CallOp.mkT rfl rfl rfl rfl) (CNormalV_C hln.valid hla w0 _) ?_
 rintro _ R1 _ hR1 ⟨fa1x, ca1x, rfl, ha1x, hsub⟩
 refine WL.subE hsub ?_
 unfold cvV
 rw [hlnn] at ha1x ⊢
 dsimp only at ha1x ⊢
 have hb := hb.mono hR1
 refine zR 3 rfl ?_
 refine zA fun b6 => ?_
 refine zE 0 ?_
 refine zR 1 rfl (zN (zU (zQ (zQ (zG (zR 2 rfl (zN (zU ?_))))))))
 refine cN rfl ?_ ?_ <;> intro hc0
 ·
  exact absurd rfl hc0
 ·
  refine zK (zU (zQ (zG ?_)))
  refine yB 2 ?_
  refine WL.call en99 rfl rfl qD (CallOp.mkT rfl rfl rfl rfl) (CNormalV_C hvg hb w0 _) ?_
  rintro _ R2 _ hR2 ⟨fa2x, ca2x, rfl, ha2x, hsub⟩
  refine WL.subE hsub ?_
  unfold cvV
  dsimp only at ha2x ⊢
  have ha1x := ha1x.mono hR2
  refine zR 3 rfl ?_
  refine zA fun b8 => ?_
  refine zE 0 ?_
  refine zR 1 rfl (zN (zU (zQ (zQ (zG (zR 2 rfl (zN (zU ?_))))))))
  refine cN rfl ?_ ?_ <;> intro hc1
  ·
   exact absurd rfl hc1
  ·
   refine zK (zU ?_)
   refine W.seqCut (β := Nat) (fun b9 => True) (fun b9 => [(4, true, .pointer (some ⟨b4, 0, none⟩)), (6, true, .pointer (some ⟨b6, 0, none⟩)), (8, true, .pointer (some ⟨b8, 0, none⟩)), (9, true, .pointer (some ⟨b9, 0, none⟩))]) (fun _ => R2) (fun b9 => .blk b9 [.slice fa1x (lineC cap).vals.length ca1x, .int .i64 (lineC cap).per, .int .i64 (lineC cap).inc, .slice fa2x (normR cg).vals.length ca2x, .int .i64 (normR cg).per, .int .i64 (normR cg).inc, .int .i64 (stN (normR cg) : Int), .int .i64 (normR cg).per, .int .i64 0] :: .blk b8 [.slice fa2x (normR cg).vals.length ca2x, .int .i64 (normR cg).per, .int .i64 (normR cg).inc] :: .blk b6 [.slice fa1x (lineC cap).vals.length ca1x, .int .i64 (lineC cap).per, .int .i64 (lineC cap).inc] :: .blk b4 [.slice none 0 0, .int .i64 0, .int .i64 0, .slice none 0 0, .int .i64 0, .int .i64 0, .int .i64 0, .int .i64 0, .int .i64 0] :: E) ?_ ?_
   ·
    intro b9 hst
    refine zQ (zQ (zG (zR 1 rfl ?_)))
    refine yM 0 ?_
    refine zR 1 rfl (zN (zU ?_))
    refine cD rfl ?_ ?_ <;> intro hc2
    ·
     omega
    ·
     refine zK (zU (zQ ?_))
     refine W.regionH _ (ES := [.blk b8 [.slice fa2x (normR cg).vals.length ca2x, .int .i64 (normR cg).per, .int .i64 (normR cg).inc], .blk b6 [.slice fa1x (lineC cap).vals.length ca1x, .int .i64 (lineC cap).per, .int .i64 (lineC cap).inc]]) mixed ?_
     refine tP 0 ?_
     refine tP 2 ?_
     refine tL 3 (Rd.add (Rd.blk 1 rfl) _) ?_
     refine tP 5 ?_
     refine tL 6 (Rd.add (Rd.blk 1 rfl) _) ?_
     refine tP 8 ?_
     refine tP 10 ?_
     refine tL 11 (Rd.add (Rd.blk 0 rfl) _) ?_
     refine tP 13 ?_
     refine tL 14 (Rd.add (Rd.blk 0 rfl) _) ?_
     refine WA.br2 (i := 1) (j := 9) qK ?_ ?_
     ·
      refine sL (Rd.add (Rd.blk 0 rfl) _) ?_
      refine WA.take 4 rfl qK qK qK rfl rfl qD (Yl.quo rfl rfl rfl (fun _ => rfl) qA (by intro _; omega)) qS qR ?_
      refine WA.take 7 rfl qK qK qK rfl rfl qD (Yl.mul rfl rfl rfl (fun _ => rfl) qA) qS qR ?_
      refine lL 9 (Rd.add (Rd.blk 0 rfl) _) ?_
      refine WA.take 12 rfl qK qK qK rfl rfl qD (Yl.quo rfl rfl rfl (fun _ => rfl) qA (by intro _; omega)) qS qR ?_
      refine WA.take 15 rfl qK qK qK rfl rfl qD (Yl.mul rfl rfl rfl (fun _ => rfl) qA) qS qR ?_
      refine tS 16 ?_
      refine tP 17 ?_
      refine zCF 18 0 ?_
      refine WA.done qK ?_
      refine zU (zQ (zG ?_))
      refine yB 0 ?_
      refine zE 3 ?_
      refine zR 1 rfl (zN (zU (zT ?_)))
      refine zq4 (hR1.trans hR2) ?_
      exact ⟨_, _, _, _, by first | rfl | (rw [hdr]; rfl), ha1x, ha2x, qS⟩
     ·
      refine sL (Rd.add (Rd.blk 0 rfl) _) ?_
      refine WA.take 12 rfl qK qK qK rfl rfl qD (Yl.quo rfl rfl rfl (fun _ => rfl) qA (by intro _; omega)) qS qR ?_
      refine WA.take 15 rfl qK qK qK rfl rfl qD (Yl.mul rfl rfl rfl (fun _ => rfl) qA) qS qR ?_
      refine lL 1 (Rd.add (Rd.blk 0 rfl) _) ?_
      refine WA.take 4 rfl qK qK qK rfl rfl qD (Yl.quo rfl rfl rfl (fun _ => rfl) qA (by intro _; omega)) qS qR ?_
      refine WA.take 7 rfl qK qK qK rfl rfl qD (Yl.mul rfl rfl rfl (fun _ => rfl) qA) qS qR ?_
      refine tS 16 ?_
      refine tP 17 ?_
      refine zCF 18 0 ?_
      refine WA.done qK ?_
      refine zU (zQ (zG ?_))
      refine yB 0 ?_
      refine zE 3 ?_
      refine zR 1 rfl (zN (zU (zT ?_)))
      refine zq4 (hR1.trans hR2) ?_
      exact ⟨_, _, _, _, by first | rfl | (rw [hdr]; rfl), ha1x, ha2x, qS⟩
   ·
    refine W.regionH _ (ES := [.blk b8 [.slice fa2x (normR cg).vals.length ca2x, .int .i64 (normR cg).per, .int .i64 (normR cg).inc], .blk b6 [.slice fa1x (lineC cap).vals.length ca1x, .int .i64 (lineC cap).per, .int .i64 (lineC cap).inc]]) mixed ?_
    refine tL 0 (Rd.blk 1 rfl) ?_
    refine tL 1 (Rd.blk 0 rfl) ?_
    refine tL 2 (Rd.blk 1 rfl) ?_
    refine tL 4 (Rd.blk 0 rfl) ?_
    refine tP 7 ?_
    refine tL 8 (Rd.add (Rd.blk 1 rfl) _) ?_
    refine tP 9 ?_
    refine tL 10 (Rd.add (Rd.blk 0 rfl) _) ?_
    refine WA.br2 (i := 3) (j := 13) qK ?_ ?_
    ·
     refine WS.callG rfl en101 rfl (by first | rfl | decide) rfl qD (CallOp.mkT rfl rfl rfl rfl) ((WStartG_V hln.valid ha1x).toFn) ?_
     rintro _ _ _ - ⟨rfl, rfl, rfl⟩
     refine ⟨qR, qS, ?_⟩
     refine WA.br2 (i := 5) (j := 13) qK ?_ ?_
     ·
      refine WS.callG rfl en101 rfl (by first | rfl | decide) rfl qD (CallOp.mkT rfl rfl rfl rfl) ((WStartG_V hng.valid ha2x).toFn) ?_
      rintro _ _ _ - ⟨rfl, rfl, rfl⟩
      refine ⟨qR, qS, ?_⟩
      refine tP 6 ?_
      refine WA.br2 (i := 11) (j := 13) qK ?_ ?_
      ·
       refine WS.callG rfl en100 rfl (by first | rfl | decide) rfl qD (CallOp.mkT rfl rfl rfl rfl) ((ComOne_V hP2 qO).toFn) ?_
       rintro _ _ _ - ⟨rfl, rfl, rfl⟩
       refine ⟨qR, qS, ?_⟩
       refine WA.take 12 rfl qK qK qK rfl rfl qD (Yl.build (parts := [(0, .tmp 28), (1, .tmp 29), (2, .tmp 34), (3, .tmp 39)]) tab_ok rfl rfl rfl rfl (fun _ => rfl) rfl rfl) qS qR ?_
       refine WA.eff 13 rfl qK rfl rfl qD (Ef.alloc tab_ok rfl rfl (fun b9 => ?_))
       refine ⟨qR, qS, ?_⟩
       refine zCE 14 0 ?_
       refine WA.done qK ?_
       (rw [hmx]; refine WE.cut b9 trivial ⟨rfl, rfl, rfl, rfl, rfl⟩ (RLe.refl _) qS)
      ·
       refine WS.eff rfl rfl rfl qD (Ef.alloc tab_ok rfl rfl (fun b9 => ?_))
       refine ⟨qR, qS, ?_⟩
       refine WA.callG 11 rfl qK en100 rfl (by first | rfl | decide) rfl qD (CallOp.mkT rfl rfl rfl rfl) ((ComOne_V hP2 qO).toFn) ?_
       rintro _ _ _ - ⟨rfl, rfl, rfl⟩
       refine ⟨qR, qS, ?_⟩
       refine WA.take 12 rfl qK qK qK rfl rfl qD (Yl.build (parts := [(0, .tmp 28), (1, .tmp 29), (2, .tmp 34), (3, .tmp 39)]) tab_ok rfl rfl rfl rfl (fun _ => rfl) rfl rfl) qS qR ?_
       refine zCE 14 0 ?_
       refine WA.done qK ?_
       (rw [hmx]; refine WE.cut b9 trivial ⟨rfl, rfl, rfl, rfl, rfl⟩ (RLe.refl _) qS)
     ·
      refine WS.eff rfl rfl rfl qD (Ef.alloc tab_ok rfl rfl (fun b9 => ?_))
      refine ⟨qR, qS, ?_⟩
      refine WA.callG 5 rfl qK en101 rfl (by first | rfl | decide) rfl qD (CallOp.mkT rfl rfl rfl rfl) ((WStartG_V hng.valid ha2x).toFn) ?_
      rintro _ _ _ - ⟨rfl, rfl, rfl⟩
      refine ⟨qR, qS, ?_⟩
      refine tP 6 ?_
      refine WA.callG 11 rfl qK en100 rfl (by first | rfl | decide) rfl qD (CallOp.mkT rfl rfl rfl rfl) ((ComOne_V hP2 qO).toFn) ?_
      rintro _ _ _ - ⟨rfl, rfl, rfl⟩
      refine ⟨qR, qS, ?_⟩
      refine WA.take 12 rfl qK qK qK rfl rfl qD (Yl.build (parts := [(0, .tmp 28), (1, .tmp 29), (2, .tmp 34), (3, .tmp 39)]) tab_ok rfl rfl rfl rfl (fun _ => rfl) rfl rfl) qS qR ?_
      refine zCE 14 0 ?_
      refine WA.done qK ?_
      (rw [hmx]; refine WE.cut b9 trivial ⟨rfl, rfl, rfl, rfl, rfl⟩ (RLe.refl _) qS)
    ·
     refine WS.eff rfl rfl rfl qD (Ef.alloc tab_ok rfl rfl (fun b9 => ?_))
     refine ⟨qR, qS, ?_⟩
     refine WA.callG 3 rfl qK en101 rfl (by first | rfl | decide) rfl qD (CallOp.mkT rfl rfl rfl rfl) ((WStartG_V hln.valid ha1x).toFn) ?_
     rintro _ _ _ - ⟨rfl, rfl, rfl⟩
     refine ⟨qR, qS, ?_⟩
     refine WA.callG 5 rfl qK en101 rfl (by first | rfl | decide) rfl qD (CallOp.mkT rfl rfl rfl rfl) ((WStartG_V hng.valid ha2x).toFn) ?_
     rintro _ _ _ - ⟨rfl, rfl, rfl⟩
     refine ⟨qR, qS, ?_⟩
     refine tP 6 ?_
     refine WA.callG 11 rfl qK en100 rfl (by first | rfl | decide) rfl qD (CallOp.mkT rfl rfl rfl rfl) ((ComOne_V hP2 qO).toFn) ?_
     rintro _ _ _ - ⟨rfl, rfl, rfl⟩
     refine ⟨qR, qS, ?_⟩
     refine WA.take 12 rfl qK qK qK rfl rfl qD (Yl.build (parts := [(0, .tmp 28), (1, .tmp 29), (2, .tmp 34), (3, .tmp 39)]) tab_ok rfl rfl rfl rfl (fun _ => rfl) rfl rfl) qS qR ?_
     refine zCE 14 0 ?_
     refine WA.done qK ?_
     (rw [hmx]; refine WE.cut b9 trivial ⟨rfl, rfl, rfl, rfl, rfl⟩ (RLe.refl _) qS)
theorem RawG_V {R : Ro} {a1 : Option Addr} {c1 : Nat} {cap : Int} (hcap : 1 ≤ cap ∧ cap ≤ 4000) (hx1 : RS R 1 encI a1 (lineC cap).vals) {a2 : Option Addr} {c2 : Nat} {b : Cv} (hvb : validB b = true) (hx2 : RS R 1 encI a2 b.vals) {t : Nat} (ht : t ≤ 10000) : FnV Tryz.prog 159 [.agg #[.slice a1 (lineC cap).vals.length c1, .int .i64 (lineC cap).per, .int .i64 (lineC cap).inc, .slice a2 b.vals.length c2, .int .i64 b.per, .int .i64 b.inc, .int .i64 (stN b : Int), .int .i64 b.per, .int .i64 (driftL cap b)], .int .i64 (t : Int)] R (.int .i64 (rawL cap b t)) := by
 refine Fn.toV (fun w0 E => ?_)
 obtain ⟨hln, hlcv, hlf, hls⟩ := line_facts (cap := cap) (by omega)
 have hlnn : normR (lineC cap) = lineC cap := hln.norm
 have hbb := cvF_bound hvb t
 have i1 := isInf_iff hvb (t := t) (by omega)
 have hm := mulB (a := cap) (b := (t : Int)) (A := 4000) (B := 10000) (by omega) (by omega)
 have hlt : cvF (lineC cap) t = cap * (t : Int) := by rw [hlcv]
 unfold INF at hbb
 refine fE 25 Tryz.func159 ?_
 refine zQ (zG ?_)
 refine zO fun b2 => ?_
 refine zR 1 rfl (zN (zU (zQ ?_)))
 refine W.regionQ _ mixed qK ?_
 refine zR 1 rfl ?_
 refine yM 0 ?_
 refine zR 1 rfl ?_
 refine WG.callV en75 rfl rfl (by decide) (CallOp.mk' rfl rfl rfl rfl) (fun _ => rfl) (fun hg => by have h := WAtG_V (fc := c1) hln.valid hx1 (t := t) (by omega); rw [hlt] at h; exact h) ?_
 refine zR 1 rfl ?_
 refine yM 0 ?_
 refine zR 1 rfl ?_
 refine WG.callV en75 rfl rfl qD (CallOp.mk' rfl rfl rfl rfl) (fun _ => rfl) (fun hg => WAtG_V hvb hx2 qO) ?_
 refine zR 2 rfl (zN (zU (zQ (zB (zQ (zG (zR 3 rfl (zN (zU ?_)))))))))
 refine cE rfl ?_ ?_ <;> intro hc0
 ·
  have hr : rawL cap b t = 0 := if_pos (i1.2 hc0)
  refine zQ (zG (zR 1 rfl (zN (zU (zT (wb (wt ?_)))))))
  refine sE (E := E) ?_
  refine zr1 ?_
  exact ⟨by rw [hr]; rfl, rfl⟩
 ·
  have hr : rawL cap b t = cap * (t : Int) - cvF b t := if_neg (fun h => hc0 (i1.1 h))
  refine zQ (zG (zR 3 rfl (zN (zU ?_))))
  refine cE rfl ?_ ?_ <;> intro hc1
  ·
   exfalso; omega
  ·
   refine zK (zL (zU (zQ (zG (zR 2 rfl ?_)))))
   refine yS ?_
   refine zR 1 rfl (zN (zU (zT ?_)))
   refine sE (E := E) ?_
   refine zr1 ?_
   exact ⟨by rw [hr]; rfl, rfl⟩
theorem RestF_V {R : Ro} {b11 : Nat} {a : Option Addr} {c : Nat} {xs : List Int} (h11 : R b11 = some [.slice a xs.length c]) (hx : RS R 1 encI a xs) {t : Nat} (ht : t < xs.length) : FnV Tryz.prog 160 [.int .i64 (t : Int), .pointer (some ⟨b11, 0, none⟩)] R (.int .i64 (nth xs t)) := by
 refine Fn.toV (fun w0 E => ?_)
 have hla := hx.len
 refine fE 8 Tryz.func160 ?_
 refine zQ (zG (zR 1 rfl (zN (zU (zQ (zG ?_))))))
 refine yD (r := by exact Rd.ro h11) (k := ?_)
 refine zR 1 rfl ?_
 refine yI ?_
 refine yD (r := by ((apply RS.rdD; assumption; ((try dsimp only) <;> omega)))) (k := ?_)
 refine zR 1 rfl (zN (zU (zT ?_)))
 refine sE (E := E) ?_
 refine zr1 ?_
 exact ⟨rfl, rfl⟩
set_option maxHeartbeats 2000000 in
theorem Rest_C {R : Ro} {la : Option Addr} {lc : Nat} {cap : Int} (hcap : 1 ≤ cap ∧ cap ≤ 4000) (hla : RS R 1 encI la (lineC cap).vals) {ga : Option Addr} {gc : Nat} {cg : Cv} (hvg : validB cg = true) (hb : RS R 1 encI ga cg.vals) (w0 : World) (E : List Ent) : K.Fn Tryz.prog 153 [.agg #[.slice la (lineC cap).vals.length lc, .int .i64 (lineC cap).per, .int .i64 (lineC cap).inc], .agg #[.slice ga cg.vals.length gc, .int .i64 cg.per, .int .i64 cg.inc]] w0 R E (fun r R' E' => ∃ (f : Option Addr) (fc : Nat), r = cvV f fc (restC cap cg) ∧ RS R' 1 encI f (restC cap cg).1.vals ∧ E.Sublist E') := by
 obtain ⟨hln, hlcv, hlf, hls⟩ := line_facts (cap := cap) (by omega)
 have hlnn : normR (lineC cap) = lineC cap := hln.norm
 have hng := norm_nrm hvg
 obtain ⟨_, g1, g2, g3, g4, g5, g6, g7⟩ := valid_range hng.valid
 have hst := stN_lt hng.valid
 obtain ⟨P2, hP2⟩ := Int.eq_ofNat_of_zero_le (show 0 ≤ (normR cg).per by omega)
 have hmul := mulB (a := (normR cg).per) (b := cap) (A := 120) (B := 4000) (by omega) (by omega)
 have hdb : -2000000000 ≤ driftL cap (normR cg) ∧ driftL cap (normR cg) ≤ 480000 := by unfold driftL; omega
 have hperI : (((normR cg).per.toNat : Nat) : Int) = (normR cg).per := by omega
 have hfr := fun t (ht : t ≤ 10000) => rawL_range (cap := cap) (b := normR cg) (by omega) hng.valid ht
 have hmr := fun t (ht : t ≤ 10000) => mostV_range (cap := cap) (b := normR cg) (s := stN (normR cg)) (by omega) hng.valid ht
 have htr := fun t (ht : t ≤ 10000) => tailV_range (cap := cap) (b := normR cg) (s := stN (normR cg)) (by omega) hng.valid ht
 unfold INF at htr
 refine fE 99 Tryz.func153 ?_
 refine zQ (zG ?_)
 refine zO fun b2 => ?_
 refine zO fun b3 => ?_
 refine zA fun b4 => ?_
 refine zR 1 rfl (zN (zU (zQ (zG ?_))))
 refine yB 2 ?_
 refine yB 1 ?_
 refine WL.call en158 rfl rfl qD (CallOp.mkT rfl rfl rfl rfl) (RBoth_C hcap hla hvg hb w0 _) ?_
 rintro _ R1 _ hR1 ⟨a1, a2, c1, c2, rfl, hx1, hx2, hsub⟩
 refine WL.subE hsub ?_
 refine zR 3 rfl ?_
 refine zA fun b6 => ?_
 refine zE 0 ?_
 refine zR 1 rfl (zN (zU (zQ (zQ (zG (zR 2 rfl (zN (zU ?_))))))))
 refine cN rfl ?_ ?_ <;> intro hc0
 ·
  exact absurd rfl hc0
 ·
  refine zK (zU (zQ (zG (zR 1 rfl ?_))))
  refine yM 0 ?_
  refine zR 1 rfl ?_
  refine yM 0 ?_
  refine yA ?_
  refine zR 3 rfl (zN (zU ?_))
  refine W.seqCut (β := Nat × Nat × Int) (fun (x, y, z) => ((finB (normR cg) = true ∧ 0 < driftL cap (normR cg)) ∧ x = 400 ∧ y = (normR cg).per.toNat ∧ z = driftL cap (normR cg)) ∨ (¬ (finB (normR cg) = true ∧ 0 < driftL cap (normR cg)) ∧ x = (stN (normR cg)) + (normR cg).per.toNat ∧ y = 1 ∧ z = 0)) (fun (x, y, z) => [(4, true, .pointer (some ⟨b4, 0, none⟩)), (6, true, .pointer (some ⟨b6, 0, none⟩)), (8, true, .int .i64 (x : Int)), (9, true, .int .i64 (y : Int)), (10, true, .int .i64 z)]) (fun _ => R1) (fun _ => .blk b6 [.slice a1 (lineC cap).vals.length c1, .int .i64 (lineC cap).per, .int .i64 (lineC cap).inc, .slice a2 (normR cg).vals.length c2, .int .i64 (normR cg).per, .int .i64 (normR cg).inc, .int .i64 (stN (normR cg) : Int), .int .i64 (normR cg).per, .int .i64 (driftL cap (normR cg))] :: .blk b4 [.slice none 0 0, .int .i64 0, .int .i64 0] :: E) ?_ ?_
  ·
   intro st hst
   obtain ⟨from_, per, inc⟩ := st
   dsimp only at hst ⊢
   have hcs := hst
   have hst := stN_lt hng.valid
   have hfp : from_ ≤ 400 ∧ 1 ≤ per ∧ per ≤ 120 ∧ 0 ≤ inc ∧ inc ≤ 480000 := by rcases hcs with ⟨h1, h2, h3, h4⟩ | ⟨h1, h2, h3, h4⟩ <;> omega
   refine zQ (zG (zR 2 rfl ?_))
   refine yA ?_
   refine WL.ef rfl rfl qD (Ef.makeSliceD (enc := encI) 0 tab_ok rfl rfl rfl rfl rfl rfl qX qX qX qX qD rfl rfl (fun a53 => ?_))
   refine zA fun b11 => ?_
   refine zE 0 ?_
   refine zN (zU ?_)
   have e3 : ((from_ : Int) + (per : Int)).toNat = from_ + per := by omega
   rw [e3, ← partV_zero (restF cap (normR cg))]
   refine zQ (zG (zR 2 rfl (zN (zU (zQ (zQ (zG ?_)))))))
   refine yB 0 ?_
   refine zR 2 rfl (zN (zU (zB ?_)))
   refine W.loopK (β := Nat) (fun t => t ≤ from_ + per ∧ ((finB (normR cg) = true ∧ 0 < driftL cap (normR cg)) → 400 < t → ¬ tailF (rawL cap (normR cg)) (stN (normR cg)) (400 - (stN (normR cg))) < mostF (rawL cap (normR cg)) (stN (normR cg)))) (fun t => [(12, true, .int .i64 (mostV (rawL cap (normR cg)) (stN (normR cg)) t)), (13, true, .int .i64 (tailV (rawL cap (normR cg)) (stN (normR cg)) t)), (56, true, .int .i64 (t : Int))]) [4, 6, 8, 9, 10, 11, 55] [_, _, _, _, _, _, _] [] _ rfl (fun t => [(1, .sl 3 1 (some ⟨a53, 0, none⟩) (from_ + per) ((partV (restF cap (normR cg)) t (from_ + per)).map encI))]) (fun t => from_ + per - t) (0) (⟨Nat.zero_le _, fun _ h => by omega⟩) ⟨vint (by unfold mostV; rw [Nat.zero_min]; rfl), vint (by unfold tailV; rw [if_pos (Nat.zero_le _)]; rfl), rfl, rfl, rfl, rfl, rfl, rfl, rfl, rfl, rfl⟩ qS ?_
   intro t hst
   have hlp := hst
   refine zQ (zG (zR 1 rfl (zN (zU (zQ ?_)))))
   refine cD rfl ?_ ?_ <;> intro hc1
   ·
    have htn : t < from_ + per := by omega
    have hpl := partV_len (restF cap (normR cg)) (t := t) (n := from_ + per) (by omega)
    have hset := partV_set (restF cap (normR cg)) htn
    have hr1 := hfr t (by omega)
    have hm1 := hmr t (by omega)
    have ht1 := htr t (by omega)
    have hval := rest_vals (cap := cap) (b := normR cg) (s := (stN (normR cg))) (t := t)
    refine zK (zU (zQ (zB (zQ (zG (zR 2 rfl (zN (zU (zQ (zG ?_))))))))))
    refine yB 2 ?_
    refine zR 1 rfl ?_
    refine WG.callV en159 rfl rfl qD (CallOp.mk' rfl rfl rfl rfl) (fun _ => rfl) (fun hg => RawG_V hcap hx1 hng.valid hx2 qO) ?_
    refine zR 1 rfl (zN (zU (zQ (zQ (zG (zR 2 rfl ?_))))))
    refine yM 2 ?_
    refine zR 1 rfl (zN (zU ?_))
    refine cD rfl ?_ ?_ <;> intro hc2
    ·
     have hge : (stN (normR cg)) ≤ t := by omega
     have htl : (if tailV (rawL cap (normR cg)) (stN (normR cg)) t < (rawL cap (normR cg)) t then (rawL cap (normR cg)) t else tailV (rawL cap (normR cg)) (stN (normR cg)) t) = tailV (rawL cap (normR cg)) (stN (normR cg)) (t + 1) := by rw [tailV_succ hge (by unfold INF; omega)]; split <;> omega
     have hms := mostV_high (f := (rawL cap (normR cg))) hge
     rw [hms] at hval
     have hvx : (if mostV (rawL cap (normR cg)) (stN (normR cg)) t < tailV (rawL cap (normR cg)) (stN (normR cg)) (t + 1) then tailV (rawL cap (normR cg)) (stN (normR cg)) (t + 1) else mostV (rawL cap (normR cg)) (stN (normR cg)) t) = (restF cap (normR cg)) t := by rw [← hval]; split <;> omega
     refine zG (zR 4 rfl ?_)
     rw [htl]
     refine zN (zU (zQ (zG ?_)))
     refine yB 0 ?_
     refine zR 4 rfl ?_
     rw [hvx]
     refine yI ?_
     refine WL.efN rfl rfl (Ef.storeD _ 1 tab_ok rfl rfl rfl rfl rfl qX rfl rfl rfl rfl ?_)
     refine zN (zU (zQ (zG (zR 4 rfl ?_))))
     refine yP ?_
     refine yP ?_
     refine yN ?_
     refine zR 1 rfl ?_
     refine yP ?_
     refine yP ?_
     refine yP ?_
     refine yN ?_
     refine zN (zU ?_)
     refine cC rfl ?_ ?_ <;> intro hc3
     ·try simp only [zk] at hc3
      have hd : restC cap cg = (zcv, 3) := by
       unfold restC
       rw [if_neg (by rw [hvg]; simp)]
       rcases hcs with ⟨h1, rfl, rfl, rfl⟩ | ⟨h1, rfl, rfl, rfl⟩
       ·obtain rfl : t = 400 := by omega
        rw [if_pos h1, if_pos]
        have h2 := hc3.2
        unfold tailV mostV at h2
        rw [if_neg (by omega), show 400 + 1 - 1 - (stN (normR cg)) = 400 - (stN (normR cg)) by omega, show min 400 (stN (normR cg)) = (stN (normR cg)) by omega] at h2
        exact h2
       ·omega
      refine zQ (zG ?_)
      refine yW [] ?_
      refine zE 3 ?_
      refine zR 1 rfl (zN (zU (zT (wb (wt (wt (wb (wt ?_))))))))
      refine zq4 (by first | exact hR1 | exact hR1.trans (hR2.trans (hR3.trans hR4))) ?_
      exact ⟨none, 0, by rw [hd]; rfl, by rw [hd]; exact rs_nil, qS⟩
     ·try simp only [zk] at hc3
      have hnx : (finB (normR cg) = true ∧ 0 < driftL cap (normR cg)) → 400 < t + 1 → ¬ tailF (rawL cap (normR cg)) (stN (normR cg)) (400 - (stN (normR cg))) < mostF (rawL cap (normR cg)) (stN (normR cg)) := fun h1 h2 => by
       by_cases e : t = 400
       ·subst e
        rcases hcs with ⟨_, rfl, rfl, rfl⟩ | ⟨h3, _⟩
        ·intro h4
         have h5 : ¬ tailV (rawL cap (normR cg)) (stN (normR cg)) (400 + 1) < mostV (rawL cap (normR cg)) (stN (normR cg)) 400 := fun hh => by
          (have := hc3 ⟨rfl, h1.2⟩; omega)
         unfold tailV mostV at h5
         rw [if_neg (by omega), show 400 + 1 - 1 - (stN (normR cg)) = 400 - (stN (normR cg)) by omega, show min 400 (stN (normR cg)) = (stN (normR cg)) by omega] at h5
         exact h5 h4
        ·exact absurd h1 h3
       ·exact hlp.2 h1 (by omega)
      refine zK (zL (zU (zG ?_)))
      refine yA ?_
      refine zR 1 rfl (zN ?_)
      refine WE.again (t + 1) (⟨by omega, hnx⟩) (by (try dsimp only); omega) ⟨vint hms.symm, rfl, rfl, rfl, rfl, rfl, rfl, rfl, rfl, rfl, rfl⟩ (RLe.refl _) (by dsimp only [setAll, List.set_cons_zero, List.set_cons_succ]; rw [hset]; exact List.Sublist.refl _)
    ·
     have hlt : t < (stN (normR cg)) := by omega
     have hml : (if mostV (rawL cap (normR cg)) (stN (normR cg)) t < (rawL cap (normR cg)) t then (rawL cap (normR cg)) t else mostV (rawL cap (normR cg)) (stN (normR cg)) t) = mostV (rawL cap (normR cg)) (stN (normR cg)) (t + 1) := by rw [mostV_succ hlt]; split <;> omega
     have hts := tailV_low (f := (rawL cap (normR cg))) hlt
     rw [hts] at hval
     have hvx : (if mostV (rawL cap (normR cg)) (stN (normR cg)) (t + 1) < tailV (rawL cap (normR cg)) (stN (normR cg)) t then tailV (rawL cap (normR cg)) (stN (normR cg)) t else mostV (rawL cap (normR cg)) (stN (normR cg)) (t + 1)) = (restF cap (normR cg)) t := by rw [← hval]; split <;> omega
     refine zG (zR 4 rfl ?_)
     rw [hml]
     refine zN (zU (zQ (zG ?_)))
     refine yB 0 ?_
     refine zR 4 rfl ?_
     rw [hvx]
     refine yI ?_
     refine WL.efN rfl rfl (Ef.storeD _ 1 tab_ok rfl rfl rfl rfl rfl qX rfl rfl rfl rfl ?_)
     refine zN (zU (zQ (zG (zR 4 rfl ?_))))
     refine yP ?_
     refine yP ?_
     refine yN ?_
     refine zR 1 rfl ?_
     refine yP ?_
     refine yP ?_
     refine yP ?_
     refine yN ?_
     refine zN (zU ?_)
     refine cC rfl ?_ ?_ <;> intro hc4
     ·try simp only [zk] at hc4
      exfalso; rcases hcs with ⟨h1, rfl, rfl, rfl⟩ | ⟨h1, rfl, rfl, rfl⟩ <;> omega
     ·try simp only [zk] at hc4
      have hnx : (finB (normR cg) = true ∧ 0 < driftL cap (normR cg)) → 400 < t + 1 → ¬ tailF (rawL cap (normR cg)) (stN (normR cg)) (400 - (stN (normR cg))) < mostF (rawL cap (normR cg)) (stN (normR cg)) := fun h1 h2 => hlp.2 h1 (by omega)
      refine zK (zL (zU (zG ?_)))
      refine yA ?_
      refine zR 1 rfl (zN ?_)
      refine WE.again (t + 1) (⟨by omega, hnx⟩) (by (try dsimp only); omega) ⟨rfl, vint hts.symm, rfl, rfl, rfl, rfl, rfl, rfl, rfl, rfl, rfl⟩ (RLe.refl _) (by dsimp only [setAll, List.set_cons_zero, List.set_cons_succ]; rw [hset]; exact List.Sublist.refl _)
   ·
    obtain rfl : t = from_ + per := by omega
    rw [partV_all]
    have hd : restC cap cg = mbuild (restF cap (normR cg)) from_ per inc := by
     unfold restC
     rw [if_neg (by rw [hvg]; simp)]
     rcases hcs with ⟨h1, rfl, rfl, rfl⟩ | ⟨h1, rfl, rfl, rfl⟩
     ·rw [if_pos h1, if_neg (hlp.2 h1 (by omega))]
     ·rw [if_neg h1]
    have hrb : ∀ t : Nat, t ≤ 1000 → 0 ≤ (restF cap (normR cg)) t ∧ (restF cap (normR cg)) t ≤ 1000000000000000 := fun t ht => by
     have h1 := restF_bound (cap := cap) (b := normR cg) (by omega) hng.valid t
     have h2 := mulB (a := cap) (b := (t : Int)) (A := 4000) (B := 1000) (by omega) (by omega)
     omega
    refine zX ?_
    refine wx (wx (zY (zU ?_)))
    refine W.freeze (enc := encI) (xs := fvals (restF cap (normR cg)) (from_ + per)) 1 rfl ?_
    intro R2 hR2 hxs
    refine W.freezeBlk 0 rfl ?_
    intro R3 hR3 h11
    have hxs := hxs.mono hR3
    have hfl := fvals_len (restF cap (normR cg)) (from_ + per)
    have h11' := h11
    rw [← hfl] at h11'
    have hF : ∀ t : Nat, t < from_ + per → FnV Tryz.prog 160 ((#[] : Array Value).toList ++ [.int .i64 (t : Int)] ++ (#[.pointer (some ⟨b11, 0, none⟩)] : Array Value).toList) R3 (.int .i64 ((restF cap (normR cg)) t)) := fun t ht => by
     have h := RestF_V h11' hxs (t := t) (by omega)
     rw [fvals_nth _ ht] at h
     exact h
    refine zQ (zG (zR 4 rfl ?_))
    refine WL.call en111 rfl rfl qD (CallOp.mkT rfl rfl rfl rfl) (Build_C (S := from_) (P := per) (I := inc) (F := (restF cap (normR cg))) en160 qO qO qO (fun t ht => .inr (hrb t qO)) hF w0 _) ?_
    rintro _ R4 E4 hR4 ⟨fr, frc, rfl, hfr4, hsub⟩
    refine WL.subE hsub ?_
    rw [← hd] at hfr4 ⊢
    unfold cvV
    refine zR 2 rfl ?_
    refine zE 1 ?_
    refine zR 1 rfl (zN (zU (zT ?_)))
    refine zq4 (by first | exact hR1 | exact hR1.trans (hR2.trans (hR3.trans hR4))) ?_
    exact ⟨fr, frc, rfl, hfr4, qS⟩
  ·
   refine zQ (zG (zR 1 rfl ?_))
   refine yM 0 ?_
   refine WG.callV (v := .bool true) en102 rfl rfl (by decide) (CallOp.mk' rfl rfl rfl rfl) (fun _ => rfl) (fun hg => by have h := WFiniteG_V (fc := c1) hln.valid hx1; rw [hlf] at h; exact h) ?_
   refine zR 1 rfl ?_
   refine yP ?_
   refine yG (Rd.addC (Rd.blkC 0 rfl) _) ?_
   refine WG.callV en102 rfl rfl qD (CallOp.mk' rfl rfl rfl rfl) qE (fun hg => WFiniteG_V hng.valid hx2) ?_
   refine yN ?_
   refine zR 1 rfl ?_
   refine yP ?_
   refine yG (Rd.addC (Rd.blkC 0 rfl) _) ?_
   refine yP ?_
   refine yN ?_
   refine zN (zU ?_)
   refine cC rfl ?_ ?_ <;> intro hc5
   ·try simp only [zk] at hc5
    obtain ⟨_, m1, m2, _⟩ := line_facts (cap := cap) (by omega)
    have hdc : (finB (normR cg) = true ∧ 0 < driftL cap (normR cg)) := by first | exact ⟨hc5.1.2, hc5.2⟩ | exact hc5 | exact ⟨hc5.1, hc5.2⟩
    have hmx4 : (if (400 : Int) < (stN (normR cg) : Int) + (normR cg).per then (stN (normR cg) : Int) + (normR cg).per else (400 : Int)) = 400 := if_neg (by omega)
    refine W.regionQ _ mixed qK ?_
    refine zR 3 rfl ?_
    refine yM 0 ?_
    refine zR 1 rfl ?_
    refine yM 0 ?_
    refine zR 3 rfl (zN ?_)
    refine WE.cut (400, (normR cg).per.toNat, driftL cap (normR cg)) (.inl ⟨hdc, rfl, rfl, rfl⟩) ⟨rfl, rfl, vint (by rw [hmx4]; rfl), vint hperI.symm, rfl, rfl⟩ (RLe.refl _) qS
   ·try simp only [zk] at hc5
    have hdc : ¬ (finB (normR cg) = true ∧ 0 < driftL cap (normR cg)) := fun h => by first | exact hc5 h | exact hc5 h.1 h.2 | (have := hc5 h.1; have := h.2; omega) | (have := hc5 ⟨rfl, h.1⟩; have := h.2; omega) | (have := hc5 ⟨trivial, h.1⟩; have := h.2; omega) | (have := hc5 rfl h.1; have := h.2; omega)
    refine zK ?_
    refine WE.cut (stN (normR cg) + (normR cg).per.toNat, 1, 0) (.inr ⟨hdc, rfl, rfl, rfl⟩) ⟨rfl, rfl, vint qO, rfl, rfl, rfl⟩ (RLe.refl _) qS

theorem PTotal_len {R : Ro} {la : Option Addr} {lc l : Nat} {ls : List CvS} (hl : ls.length = l) (hla : RS R 3 encC la ls) (hls : ∀ x ∈ ls, RS R 1 encI x.a x.cv.vals ∧ validB x.cv = true) (w0 : World) (E : List Ent) : K.Fn Tryz.prog 76 [.slice la l lc] w0 R E (fun r R' E' => ∃ (f : Option Addr) (fc : Nat), r = cvV f fc (totalC (ls.map CvS.cv)) ∧ RS R' 1 encI f (totalC (ls.map CvS.cv)).1.vals ∧ E.Sublist E') := by
 subst hl; exact PTotal_C hla hls w0 E
set_option maxHeartbeats 1000000 in
theorem PCurve_C {R : Ro} {la za : Option Addr} {lc zc : Nat} {ls : List CvS} {z : List Sz} (hla : RS R 3 encC la ls) (hlc : ls.length ≤ lc) (hls : ∀ x ∈ ls, RS R 1 encI x.a x.cv.vals ∧ x.cv.vals.length ≤ 100000) (hzr : RS R 2 encZ za z) (hzc : z.length ≤ zc) {cap cls : Int} (w0 : World) (E : List Ent) : K.Fn Tryz.prog 150 [.int .i64 cap, .int .i64 cls, .slice la ls.length lc, .slice za z.length zc] w0 R E (fun r R' E' => ∃ (f : Option Addr) (fc : Nat), r = cvV f fc (prioC cap cls (ls.map CvS.cv) z) ∧ RS R' 1 encI f (prioC cap cls (ls.map CvS.cv) z).1.vals ∧ E.Sublist E') := by
 have hll := hla.len
 have hlz := hzr.len
 refine fE 92 Tryz.func150 ?_
 refine zQ (zG ?_)
 refine zA fun b8 => ?_
 refine zR 1 rfl (zN (zU (zQ (zQ (zG (zR 3 rfl ?_))))))
 refine WG.callV en49 rfl rfl qD (CallOp.mk' rfl rfl rfl rfl) (fun _ => rfl) (fun hg => CheckP_V hzr) ?_
 refine zR 1 rfl (zN (zU (zQ (zG (zR 2 rfl (zN (zU ?_)))))))
 refine cN rfl ?_ ?_ <;> intro hc0
 ·
  have hd : (prioC cap cls (ls.map CvS.cv) z) = (zcv, chk18 cap cls z) := if_pos hc0
  refine zQ (zG ?_)
  refine yW [] ?_
  refine zR 1 rfl ?_
  refine zE 0 ?_
  refine zR 1 rfl (zN (zU (zT (wt ?_))))
  refine zq4 (by first | exact RLe.refl _ | exact hRm | exact hRm.trans (hR3.trans hR4)) ?_
  exact ⟨none, 0, by rw [hd]; rfl, by rw [hd]; exact rs_nil, qS⟩
 ·
  obtain ⟨p1, p2, p3, p4, p5, hz⟩ := chk18_ok hc0
  have hmap : (ls.map CvS.cv).length = ls.length := by simp
  refine zK (zU (zQ (zQ (zG (zR 5 rfl (zN (zU ?_)))))))
  refine cN rfl ?_ ?_ <;> intro hc1
  ·
   have hd : (prioC cap cls (ls.map CvS.cv) z) = (zcv, 2) := by unfold prioC; rw [if_neg (fun h => h hc0), if_pos (by rw [hmap]; omega)]
   refine zQ (zG ?_)
   refine yW [] ?_
   refine zE 0 ?_
   refine zR 1 rfl (zN (zU (zT (wt ?_))))
   refine zq4 (by first | exact RLe.refl _ | exact hRm | exact hRm.trans (hR3.trans hR4)) ?_
   exact ⟨none, 0, by rw [hd]; rfl, by rw [hd]; exact rs_nil, qS⟩
  ·
   have hle : ls.length = z.length := by omega
   refine zK (zU (zQ (zQ (zG (zR 3 rfl (zN (zU (zB ?_))))))))
   refine W.loopK (β := Nat) (fun i => i ≤ ls.length ∧ ∀ j, j < i → validB (nth ls j).cv = true) (fun i => [(35, true, .int .i64 (i : Int))]) [0, 1, 2, 3, 8, 33, 34] [_, _, _, _, _, _, _] [] _ rfl (fun i => []) (fun i => ls.length - i) (0) (⟨Nat.zero_le _, fun j hj => by omega⟩) ⟨rfl, rfl, rfl, rfl, rfl, rfl, rfl, rfl, rfl⟩ qS ?_
   intro i hst
   refine zQ (zG (zR 1 rfl (zN (zU (zQ ?_)))))
   refine cD rfl ?_ ?_ <;> intro hc2
   ·
    have hil : i < ls.length := by omega
    have hxi := hls _ (nth_mem hil)
    refine zK (zU (zQ (zB (zQ (zG ?_)))))
    refine yI ?_
    refine yD (r := by ((apply RS.rdD; assumption; ((try dsimp only) <;> omega)))) (k := ?_)
    refine zA fun b12 => ?_
    refine zE 0 ?_
    refine zN (zU (zQ (zG ?_)))
    refine yB 0 ?_
    refine WG.callV en50 rfl rfl qD (CallOp.mk' rfl rfl rfl rfl) (fun _ => rfl) (fun hg => CValidG_V hxi.1 hxi.2) ?_
    refine zR 1 rfl (zN (zU ?_))
    refine cC rfl ?_ ?_ <;> intro hc3
    ·try simp only [zk] at hc3
     have hno : allV (ls.map CvS.cv) = false := by
      rw [← Bool.not_eq_true, allV_iff]
      intro h
      have := h _ (List.mem_map_of_mem (nth_mem hil))
      simp [this] at hc3
     have hd : (prioC cap cls (ls.map CvS.cv) z) = (zcv, 1) := by unfold prioC; rw [if_neg (fun h => h hc0), if_neg (by rw [hmap]; omega), if_pos hno]
     refine zQ (zG ?_)
     refine yW [] ?_
     refine zE 1 ?_
     refine zR 1 rfl (zN (zU (zT (wb (wt (wt (wb (wt ?_))))))))
     refine zq4 (by first | exact RLe.refl _ | exact hRm | exact hRm.trans (hR3.trans hR4)) ?_
     exact ⟨none, 0, by rw [hd]; rfl, by rw [hd]; exact rs_nil, qS⟩
    ·try simp only [zk] at hc3
     have hvi : validB (nth ls i).cv = true := by simpa using hc3
     refine zK (zL (zU (zG ?_)))
     refine yA ?_
     refine zR 1 rfl (zN ?_)
     refine WE.again (i + 1) (⟨by omega, fun j hj => by
      by_cases e : j = i
      ·subst e; exact hvi
      ·exact hst.2 j (by omega)⟩) (by (try dsimp only); omega) ⟨rfl, rfl, rfl, rfl, rfl, rfl, rfl, rfl, rfl⟩ (RLe.refl _) qS
   ·
    obtain rfl : i = ls.length := by omega
    have hav : ∀ c ∈ ls.map CvS.cv, validB c = true := fun c hc => by
     obtain ⟨x, hx, rfl⟩ := List.mem_map.1 hc
     obtain ⟨j, hj, rfl⟩ := List.getElem_of_mem hx
     have := hst.2 j hj
     rw [nth_eq hj] at this
     exact this
    have hav2 : allV (ls.map CvS.cv) = true := allV_iff.2 hav
    refine zX ?_
    refine wx (wx (zY (zU (zQ (zG (zR 1 rfl (zN (zU (zQ (zQ (zG (zR 2 rfl ?_))))))))))))
    refine yA ?_
    refine WG.y rfl rfl qD (Yl.sliceL tab_ok rfl rfl rfl rfl rfl rfl (fun _ => rfl) (by intro _; omega)) ?_
    have hdl : (z.drop (cls + 1).toNat).length = z.length - (cls + 1).toNat := List.length_drop
    rw [← hdl]
    have hzdr := hzr.subL (l := (cls + 1).toNat) (cap := zc) (by omega) hzc
    refine zR 2 rfl (zN (zU (zB ?_)))
    refine W.loopK (β := Nat) (fun k => k ≤ z.length - (cls + 1).toNat) (fun k => [(13, true, .int .i64 (mostF (blkF cls z) k)), (49, true, .int .i64 (k : Int))]) [0, 1, 2, 8, 47, 48] [_, _, _, _, _, _] [] _ rfl (fun k => []) (fun k => z.length - (cls + 1).toNat - k) (0) (Nat.zero_le _) ⟨rfl, rfl, rfl, rfl, rfl, rfl, rfl, rfl, rfl⟩ qS ?_
    intro k hst
    refine zQ (zG (zR 1 rfl (zN (zU (zQ ?_)))))
    refine cD rfl ?_ ?_ <;> intro hc4
    ·
     have hkl : k < z.length - (cls + 1).toNat := by omega
     have hkd : k < (z.drop (cls + 1).toNat).length := by rw [List.length_drop]; exact hkl
     have hzd := hz _ (List.mem_of_mem_drop (nth_mem hkd))
     have hmk := blk_range (cls := cls) hz (n := k) (by omega)
     have hmx : (if mostF (blkF cls z) k < (nth (z.drop (cls + 1).toNat) k).most - 1 then (nth (z.drop (cls + 1).toNat) k).most - 1 else mostF (blkF cls z) k) = mostF (blkF cls z) (k + 1) := by
      show _ = max (mostF (blkF cls z) k) (blkF cls z k)
      unfold blkF
      split <;> omega
     refine zK (zU (zQ (zB (zQ (zG ?_)))))
     refine yI ?_
     refine yD (r := by ((apply RS.rdD; assumption; ((try dsimp only) <;> omega)))) (k := ?_)
     refine zA fun b15 => ?_
     refine zE 0 ?_
     refine zN (zU (zG (zR 2 rfl ?_)))
     refine yM 0 ?_
     refine yS ?_
     refine zR 2 rfl (zN (zL (zU (zG ?_))))
     refine yA ?_
     refine zR 1 rfl (zN ?_)
     refine WE.again (k + 1) qO (by (try dsimp only); omega) ⟨vint hmx, rfl, rfl, rfl, rfl, rfl, rfl, rfl, rfl⟩ (RLe.refl _) qS
    ·
     obtain rfl : k = z.length - (cls + 1).toNat := by omega
     have hbk : 0 ≤ blkN cls z ∧ blkN cls z ≤ 1499 := blk_range hz (Nat.le_refl _)
     have hmr := mid_res (l := (ls.map CvS.cv).take cls.toNat) (fun c hc => hav c (List.mem_of_mem_take hc)) (k := blkN cls z) (by unfold MAXV; omega)
     have htr := total_res ((ls.map CvS.cv).take cls.toNat) zeroC zero_nrm.valid zero_nrm (fun c hc => hav c (List.mem_of_mem_take hc))
     rw [show mostF (blkF cls z) (z.length - (cls + 1).toNat) = blkN cls z from rfl]
     refine zX ?_
     refine wx (wx (zY (zU (zQ (zG (zR 2 rfl ?_))))))
     refine WG.y rfl rfl qD (Yl.sliceH tab_ok rfl rfl rfl rfl rfl (fun _ => rfl) (by intro _; omega) rfl) ?_
     refine WL.call en76 rfl rfl (by decide) (CallOp.mkT rfl rfl rfl rfl) (PTotal_len (ls := ls.take cls.toNat) (by rw [List.length_take]; omega) (hla.take _) (fun x hx => ⟨(hls x (List.mem_of_mem_take hx)).1, hav x.cv (List.mem_map_of_mem (List.mem_of_mem_take hx))⟩) w0 _) ?_
     rintro _ R1 _ hR1 ⟨ft, ftc, rfl, hft, hsub⟩
     refine WL.subE hsub ?_
     rw [List.map_take] at hft ⊢
     unfold cvV
     refine zR 3 rfl ?_
     refine zA fun b16 => ?_
     refine zE 0 ?_
     refine zR 1 rfl (zN (zU ?_))
     refine W.seqCut (β := (Cv × Int) × Option Addr × Nat × Ro × Nat) (fun (mid, fm, fmc, Rm, b16) => RLe R Rm ∧ RS Rm 1 encI fm mid.1.vals ∧ (midC (totalC ((ls.map CvS.cv).take cls.toNat)) (blkN cls z)) = mid) (fun (mid, fm, fmc, Rm, b16) => [(0, true, .int .i64 cap), (8, true, .pointer (some ⟨b8, 0, none⟩)), (16, true, .pointer (some ⟨b16, 0, none⟩)), (17, true, .int .i64 mid.2)]) (fun (mid, fm, fmc, Rm, b16) => Rm) (fun (mid, fm, fmc, Rm, b16) => .blk b16 [.slice fm mid.1.vals.length fmc, .int .i64 mid.1.per, .int .i64 mid.1.inc] :: .blk b8 [.slice none 0 0, .int .i64 0, .int .i64 0] :: E) ?_ ?_
     ·
      intro st hst
      obtain ⟨mid, fm, fmc, Rm, b16⟩ := st
      obtain ⟨hRm, hm, hmid⟩ := hst
      dsimp only at hRm hm ⊢
      refine zQ (zQ (zG (zR 2 rfl (zN (zU ?_)))))
      refine cN rfl ?_ ?_ <;> intro hc5
      ·
       have hd : (prioC cap cls (ls.map CvS.cv) z) = (zcv, mid.2) := by unfold prioC; rw [if_neg (fun h => h hc0), if_neg (by rw [hmap]; omega), if_neg (by rw [hav2]; decide), hmid, if_pos hc5]
       refine zQ (zG ?_)
       refine yW [] ?_
       refine zR 1 rfl ?_
       refine zE 1 ?_
       refine zR 1 rfl (zN (zU (zT (wt ?_))))
       refine zq4 (by first | exact RLe.refl _ | exact hRm | exact hRm.trans (hR3.trans hR4)) ?_
       exact ⟨none, 0, by rw [hd]; rfl, by rw [hd]; exact rs_nil, qS⟩
      ·
       have hd : (prioC cap cls (ls.map CvS.cv) z) = restC cap mid.1 := by unfold prioC; rw [if_neg (fun h => h hc0), if_neg (by rw [hmap]; omega), if_neg (by rw [hav2]; decide), hmid, if_neg (fun h => h hc5)]
       have hmv : validB mid.1 = true := by
        rw [← hmid] at hc5 ⊢
        rcases hmr with h | ⟨c, h1, h2⟩
        ·rw [h] at hc5; exact absurd hc5 (by decide)
        ·rw [h1]; exact h2.valid
       refine zK (zU (zQ (zG (zR 1 rfl ?_))))
       refine WL.call en77 rfl rfl qD (CallOp.mkT rfl rfl rfl rfl) (Serve_ok (cap := cap) w0 qO _) ?_
       rintro _ _ E2 - ⟨g, rfl, rfl, hsub⟩
       refine WL.subE hsub ?_
       refine WL.freeze (enc := encI) (xs := (lineC cap).vals) 0 rfl ?_
       intro R3 hR3 hsv
       have hm := hm.mono hR3
       refine zR 3 rfl ?_
       refine zA fun b18 => ?_
       refine zE 0 ?_
       refine zR 1 rfl (zN (zU (zQ (zQ (zG (zR 2 rfl (zN (zU ?_))))))))
       refine cN rfl ?_ ?_ <;> intro hc6
       ·
        exact absurd rfl hc6
       ·
        refine zK (zU (zQ (zG ?_)))
        refine yB 0 ?_
        refine yB 1 ?_
        refine WL.call en153 rfl rfl qD (CallOp.mkT rfl rfl rfl rfl) (Rest_C (lc := 1) qO hsv (cg := mid.1) hmv hm w0 _) ?_
        rintro _ R4 E4 hR4 ⟨fr, frc, rfl, hfr, hsub⟩
        refine WL.subE hsub ?_
        unfold cvV
        refine zR 2 rfl ?_
        refine zE 2 ?_
        refine zR 1 rfl (zN (zU (zT ?_)))
        refine zq4 (by first | exact RLe.refl _ | exact hRm | exact hRm.trans (hR3.trans hR4)) ?_
        exact ⟨fr, frc, by rw [hd]; rfl, by rw [hd]; exact hfr, qS⟩
     ·
      refine zQ (zG (zR 2 rfl (zN (zU ?_))))
      refine cE rfl ?_ ?_ <;> intro hc7
      ·
       have hme : (midC (totalC ((ls.map CvS.cv).take cls.toNat)) (blkN cls z)) = raiseC (totalC ((ls.map CvS.cv).take cls.toNat)).1 (blkN cls z) := if_pos hc7
       have htv : validB (totalC ((ls.map CvS.cv).take cls.toNat)).1 = true := by
        rcases htr with h | ⟨c, h1, h2, _⟩
        ·rw [show totalC ((ls.map CvS.cv).take cls.toNat) = (zcv, 3) from h] at hc7; exact absurd hc7 (by decide)
        ·rw [show totalC ((ls.map CvS.cv).take cls.toNat) = (c, 0) from h1]; exact h2.valid
       refine zG ?_
       refine yB 0 ?_
       refine zR 1 rfl ?_
       refine WL.call en152 rfl rfl qD (CallOp.mkT rfl rfl rfl rfl) (PRaise_C (cf := (totalC ((ls.map CvS.cv).take cls.toNat)).1) (k := blkN cls z) htv hft qO w0 _) ?_
       rintro _ R2 _ hR2 ⟨fm, fmc, rfl, hfm, hsub⟩
       refine WL.subE hsub ?_
       unfold cvV
       refine zR 3 rfl ?_
       refine zE 0 ?_
       refine zR 1 rfl (zN ?_)
       refine WE.cut (raiseC (totalC ((ls.map CvS.cv).take cls.toNat)).1 (blkN cls z), fm, fmc, R2, b16) ⟨hR1.trans hR2, hfm, hme⟩ ⟨rfl, rfl, rfl, rfl, rfl⟩ (RLe.refl _) qS
      ·
       have hme : (midC (totalC ((ls.map CvS.cv).take cls.toNat)) (blkN cls z)) = totalC ((ls.map CvS.cv).take cls.toNat) := if_neg hc7
       refine zK ?_
       refine WE.cut (totalC ((ls.map CvS.cv).take cls.toNat), ft, ftc, R1, b16) ⟨hR1, hft, hme⟩ ⟨rfl, rfl, rfl, rfl, rfl⟩ (RLe.refl _) qS

theorem ReachF_V {R : Ro} {fa : Option Addr} {fc : Nat} {F : Nat → Int} {S P : Nat} {I : Int} (hf : FC F S P I) (ha : RS R 1 encI fa (fvals F (S + P))) {v : Int} (hv : 0 ≤ v ∧ v ≤ 1000000000000000) : FnV Tryz.prog 74 [.agg #[.slice fa (fvals F (S + P)).length fc, .int .i64 (P : Int), .int .i64 I], .int .i64 v] R (.tuple #[.int .i64 (reachF F S P I v).1, .bool (reachF F S P I v).2]) := by
 have hfl := fvals_len F (S + P)
 have hP := hf.hP
 have hn := hf.hn
 have hI := hf.hI
 refine Fn.toV (fun w0 E => ?_)
 refine fE 66 Tryz.func74 ?_
 refine zQ (zG ?_)
 refine zO fun b2 => ?_
 refine zR 2 rfl (zN (zU (zQ (zQ (zG (zR 1 rfl ?_))))))
 refine yM 0 ?_
 refine zR 2 rfl (zN (zU (zB ?_)))
 refine W.loopK (β := Nat) (fun t => t ≤ S + P ∧ ∀ j, j < t → F j < v) (fun t => [(15, true, .int .i64 (t : Int))]) [1, 2, 13, 14] [_, _, _, _] [] _ rfl (fun t => []) (fun t => S + P - t) (0) (⟨Nat.zero_le _, fun j hj => by omega⟩) ⟨rfl, rfl, rfl, rfl, rfl, rfl⟩ qS ?_
 intro t hst
 dsimp only [zipE, setAll, List.cons_append, List.nil_append, List.set_cons_zero, List.set_cons_succ]
 obtain ⟨ht, hno⟩ := hst
 refine zQ (zG (zR 1 rfl (zN (zU (zQ ?_)))))
 refine cD rfl ?_ ?_ <;> intro hc0
 ·
  have htl : t < S + P := by omega
  have hft := fvals_nth F htl
  refine zK (zU (zQ (zB (zQ (zG (zR 1 rfl ?_))))))
  refine yI ?_
  refine yD (r := by ((apply RS.rdD; assumption; ((try dsimp only) <;> omega)))) (k := ?_)
  refine zR 2 rfl (zN (zU (zQ (zG (zR 3 rfl (zN (zU ?_)))))))
  refine cD rfl ?_ ?_ <;> intro hc1
  ·
   have hff : findFrom (fun t => decide (F t ≥ v)) (S + P) 0 = t := findFrom_some (Nat.zero_le _) (by omega) (decide_eq_true (by rw [← hft]; exact hc1)) (fun j _ hj => decide_eq_false (by have := hno j hj; omega))
   have hr : reachF F S P I v = ((t : Int), true) := by unfold reachF; rw [hff, if_pos (by omega)]
   refine zQ (zG (zR 3 rfl (zN (zU (zT (wb (wt (wt (wb (wt ?_))))))))))
   refine sE (E := E) ?_
   refine zr2 ?_
   exact ⟨by rw [hr]; rfl, rfl⟩
  ·
   refine zK (zL (zU (zG ?_)))
   refine yA ?_
   refine zR 1 rfl (zN ?_)
   refine WE.again (t + 1) (⟨by omega, fun j hj => by
    by_cases e : j = t
    ·subst e; rw [← hft]; omega
    ·exact hno j (by omega)⟩) (by (try dsimp only); omega) ⟨rfl, rfl, rfl, rfl, rfl, rfl⟩ (RLe.refl _) qS
 ·
  obtain rfl : t = S + P := by omega
  have hff : findFrom (fun t => decide (F t ≥ v)) (S + P) 0 = -1 := findFrom_none (fun j _ hj => decide_eq_false (by have := hno j (by omega); omega))
  have hlast := hno (S + P - 1) (by omega)
  have hvl : nth (fvals F (S + P)) ((((fvals F (S + P)).length : Int) - 1).toNat) = F (S + P - 1) := by rw [show (((fvals F (S + P)).length : Int) - 1).toNat = S + P - 1 by omega, fvals_nth F (by omega)]
  have hlb := hf.hb (S + P - 1) (by omega)
  have hl0 := hf.nonneg (S + P - 1)
  refine zX ?_
  refine wx (wx (zY (zU (zQ ?_))))
  refine W.regionQ _ mixed qK ?_
  refine zR 1 rfl ?_
  refine yM 0 ?_
  refine zR 2 rfl ?_
  refine yM 0 ?_
  refine zR 2 rfl (zN (zU (zQ (zQ (zG (zR 3 rfl ?_))))))
  refine yP ?_
  refine yG (Rd.addC (Rd.blkC 0 rfl) _) ?_
  refine yP ?_
  refine yO ?_
  refine zN (zU ?_)
  refine cC rfl ?_ ?_ <;> intro hc2
  ·try simp only [zk] at hc2
   have hI0 : I = 0 := by rcases hc2 with h | h; omega; exact h
   have hr : reachF F S P I v = (0, false) := by unfold reachF; rw [hff, if_neg (fun hh => hh rfl), if_pos hI0]
   refine zQ (zG (zR 2 rfl (zN (zU (zT (wt ?_))))))
   refine sE (E := E) ?_
   refine zr2 ?_
   exact ⟨by rw [hr]; rfl, rfl⟩
  ·try simp only [zk] at hc2
   have hI0 : I ≠ 0 := by
    intro h
    apply Classical.byContradiction
    intro hn
    simp_all
   obtain ⟨g1, g2, g3, g4⟩ := reach_facts hf hI0 hlast
   obtain ⟨k, hk⟩ := Int.eq_ofNat_of_zero_le (show 0 ≤ (v - F (S + P - 1) + I - 1) / I by omega)
   have hkv : (k : Int) ≤ v + I := by
    have : (k : Int) * 1 ≤ (k : Int) * I := Int.mul_le_mul_of_nonneg_left (by omega) (by omega)
    rw [hk] at g2; omega
   have hr : reachF F S P I v = (findFrom (fun t => decide (F t ≥ v)) (P + 1) (S + P + (k - 1) * P), true) := by unfold reachF; rw [hff, if_neg (fun hh => hh rfl), if_neg hI0, hk, Int.toNat_natCast]
   rw [hk, Int.toNat_natCast] at g3
   rw [hk] at g1 g2 g4
   have hkP : ((k - 1) * P : Nat) ≤ 1100000000000000 * 120 := Nat.mul_le_mul (by omega) (by omega)
   have hkP2 : ((k : Int) - 1) * (P : Int) = (((k - 1) * P : Nat) : Int) := by rw [Int.natCast_mul, show ((k - 1 : Nat) : Int) = (k : Int) - 1 by omega]
   generalize ht0 : S + P + (k - 1) * P = t0 at hr g3
   refine zK (zU (zQ ?_))
   refine W.regionQ _ mixed qK ?_
   refine zR 2 rfl ?_
   refine yM 0 ?_
   refine zR 1 rfl ?_
   refine yS ?_
   refine yX ?_
   refine yD (r := by ((apply RS.rdD; assumption; ((try dsimp only) <;> omega)))) (k := ?_)
   rw [hvl]
   refine yS ?_
   refine zR 1 rfl ?_
   refine yM 0 ?_
   refine yA ?_
   refine yS ?_
   refine zR 1 rfl ?_
   refine yM 0 ?_
   refine yV ?_
   refine zR 1 rfl (zN (zU ?_))
   rw [hk]
   refine zQ (zG (zR 2 rfl ?_))
   refine yS ?_
   refine zR 1 rfl ?_
   refine yU ?_
   refine yA ?_
   rw [hkP2, show (((fvals F (S + P)).length : Int)) + (((k - 1) * P : Nat) : Int) = (t0 : Int) by omega]
   refine zR 1 rfl (zN (zU (zQ (zB ?_))))
   refine W.loopK (β := Nat) (fun t => t0 ≤ t ∧ t ≤ t0 + (P - 1) ∧ ∀ j, t0 ≤ j → j < t → F j < v) (fun t => [(11, true, .int .i64 (t : Int))]) [1, 2] [_, _] [] _ rfl (fun t => []) (fun t => t0 + P - t) (t0) (⟨Nat.le_refl _, by omega, fun j a b => by omega⟩) ⟨rfl, rfl, rfl, rfl⟩ qS ?_
   intro t hst
   dsimp only [zipE, setAll, List.cons_append, List.nil_append, List.set_cons_zero, List.set_cons_succ]
   obtain ⟨ht1, ht2, hno2⟩ := hst
   have hmt := hf.mono ht2
   have hbt : F t ≤ v + 1073741824 := by omega
   refine zQ (zQ (zG ?_))
   refine yB 0 ?_
   refine zR 1 rfl ?_
   refine WG.callV en75 rfl rfl qD (CallOp.mk' rfl rfl rfl rfl) (fun _ => rfl) (fun hg => WAt_V hf ha qO qO) ?_
   refine zR 2 rfl (zN (zU ?_))
   refine cD rfl ?_ ?_ <;> intro hc3
   ·
    refine zK (zU (zB (zG (zR 1 rfl ?_))))
    refine yA ?_
    refine zR 1 rfl (zN (zL ?_))
    refine WE.again (t + 1) (⟨by omega, by
     apply Classical.byContradiction
     intro hn
     have e : t = t0 + (P - 1) := by omega
     rw [e, g3] at hc3
     omega, fun j a b => by
     by_cases e : j = t
     ·subst e; exact hc3
     ·exact hno2 j a (by omega)⟩) (by (try dsimp only); omega) ⟨rfl, rfl, rfl, rfl⟩ (RLe.refl _) qS
   ·
    have hff2 : findFrom (fun t => decide (F t ≥ v)) (P + 1) t0 = t := findFrom_some ht1 (by omega) (decide_eq_true (by omega)) (fun j a b => decide_eq_false (by have := hno2 j a b; omega))
    rw [hff2] at hr
    refine zX ?_
    refine wx (wx (zY (zU (zQ (zG (zR 3 rfl (zN (zU (zT ?_)))))))))
    refine sE (E := E) ?_
    refine zr2 ?_
    exact ⟨by rw [hr]; rfl, rfl⟩
theorem Greatest_V {R : Ro} {g : FuncId} {fi ca : Array Value} {f : Nat → Int × Bool} {n : Nat} (hE : Enters Tryz.prog g) (hF : ∀ t : Nat, t < n → FnV Tryz.prog g (fi.toList ++ [.int .i64 (t : Int)] ++ ca.toList) R (.tuple #[.int .i64 (f t).1, .bool (f t).2])) (hn : n ≤ 1000000) : FnV Tryz.prog 72 [.int .i64 (n : Int), .func (.func g) fi ca] R (.agg #[.bool (greatW f n 0 0 0).1, .int .i64 (greatW f n 0 0 0).2.1, .int .i64 (greatW f n 0 0 0).2.2]) := by
 refine Fn.toVS (fun w0 E => ?_)
 refine fE 32 Tryz.func72 ?_
 refine zQ (zG ?_)
 refine zA fun b4 => ?_
 refine zN (zU (zQ (zG ?_)))
 refine zA fun b5 => ?_
 refine zN (zU (zQ (zQ (zG (zR 2 rfl (zN (zU (zB ?_))))))))
 refine W.loopK (β := Nat × Int × Int) (fun (t, v, a) => t ≤ n ∧ greatW f (n - t) t v a = greatW f n 0 0 0) (fun (t, v, a) => [(10, true, .int .i64 (t : Int))]) [1, 4, 5, 9] [_, _, _, _] [] _ rfl (fun (t, v, a) => [(0, .blk b5 [.bool false, .int .i64 v, .int .i64 a])]) (fun (t, v, a) => n - t) ((0, 0, 0)) (⟨Nat.zero_le _, by rfl⟩) ⟨rfl, rfl, rfl, rfl, rfl, rfl⟩ qS ?_
 intro st hst
 obtain ⟨t, v, a⟩ := st
 dsimp only [zipE, setAll, List.cons_append, List.nil_append, List.set_cons_zero, List.set_cons_succ]
 obtain ⟨ht, hg⟩ := hst
 refine zQ (zG (zR 1 rfl (zN (zU (zQ ?_)))))
 refine cD rfl ?_ ?_ <;> intro hc0
 ·
  have htl : t < n := by omega
  obtain ⟨m, hm⟩ : ∃ m, n - t = m + 1 := ⟨n - t - 1, by omega⟩
  have hm2 : n - (t + 1) = m := by omega
  rw [hm, greatW] at hg
  refine zK (zU (zQ (zB (zQ (zG (zR 2 rfl (zN (zU (zQ (zG (zR 2 rfl ?_)))))))))))
  refine WG.callV (v := .tuple #[.int .i64 (f t).1, .bool (f t).2]) hE rfl rfl qD (CallOp.mk' rfl rfl rfl rfl) (fun _ => rfl) (fun hg => hF t htl) ?_
  refine zR 5 rfl (zN (zU (zQ (zQ (zG (zR 2 rfl (zN (zU ?_))))))))
  refine cC rfl ?_ ?_ <;> intro hc1
  ·try simp only [zk] at hc1
   have hok : (f t).2 = false := by simpa using hc1
   rw [if_pos hok] at hg
   refine zQ (zG ?_)
   refine yW [(0, .const (.bool true))] ?_
   refine zE 1 ?_
   refine zN (zU (zT (wt (wb (wt (wt (wb (wt ?_))))))))
   refine zr3 ?_
   exact ⟨by rw [← hg]; rfl, qS⟩
  ·try simp only [zk] at hc1
   have hok : ¬ (f t).2 = false := by simpa using hc1
   rw [if_neg hok] at hg
   refine zK (zU (zQ (zG (zR 2 rfl ?_))))
   refine yM 0 ?_
   refine zR 1 rfl (zN (zU ?_))
   refine cD rfl ?_ ?_ <;> intro hc2
   ·
    rw [if_pos hc2, ← hm2] at hg
    refine zG (zR 3 rfl ?_)
    refine zF 0 ?_
    refine zR 1 rfl ?_
    refine zF 0 ?_
    refine zN (zL (zU (zG ?_)))
    refine yA ?_
    refine zR 1 rfl (zN ?_)
    refine WE.again ((t + 1, (f t).1, t)) (⟨by dsimp only; omega, hg⟩) (by (try dsimp only); omega) ⟨rfl, rfl, rfl, rfl, rfl, rfl⟩ (RLe.refl _) qS
   ·
    rw [if_neg (by omega), ← hm2] at hg
    refine zK (zL (zU (zG ?_)))
    refine yA ?_
    refine zR 1 rfl (zN ?_)
    refine WE.again ((t + 1, v, a)) (⟨by dsimp only; omega, hg⟩) (by (try dsimp only); omega) ⟨rfl, rfl, rfl, rfl, rfl, rfl⟩ (RLe.refl _) qS
 ·
  obtain rfl : t = n := by omega
  rw [Nat.sub_self, greatW] at hg
  refine zX ?_
  refine wx (wx (zY (zU (zQ (zG ?_)))))
  refine yB 0 ?_
  refine zE 1 ?_
  refine zN (zU (zT ?_))
  refine zr3 ?_
  exact ⟨by rw [← hg]; rfl, qS⟩


theorem CommonC_V {R : Ro} {m1 m2 : Cv} (hv1 : validB m1 = true) (hv2 : validB m2 = true) : FnV Tryz.prog 100 [.int .i64 m1.per, .int .i64 m2.per] R (.int .i64 (lcmC m1 m2 : Int)) := by
 obtain ⟨_, _, _, p1, p2, _⟩ := valid_range hv1
 obtain ⟨_, _, _, q1, q2, _⟩ := valid_range hv2
 have h := Common_V (R := R) (a := m1.per.toNat) (b := m2.per.toNat) (by omega) (by omega)
 rw [Int.toNat_of_nonneg (by omega), Int.toNat_of_nonneg (by omega)] at h
 exact h
theorem lcmC_le {m1 m2 : Cv} (hv1 : validB m1 = true) (hv2 : validB m2 = true) : lcmC m1 m2 ≤ 14400 := by
 obtain ⟨_, _, _, p1, p2, _⟩ := valid_range hv1
 obtain ⟨_, _, _, q1, q2, _⟩ := valid_range hv2
 exact Nat.le_trans (lcmN_facts qO qO).2.2.1 (Nat.mul_le_mul (show m1.per.toNat ≤ 120 by omega) (show m2.per.toNat ≤ 120 by omega))

theorem ReachI_V {R : Ro} {fa : Option Addr} {fc : Nat} {c : Cv} (hv : validB c = true) (ha : RS R 1 encI fa c.vals) {v : Int} (hx : (v = 4611686018427387904 ∧ finB c = true) ∨ (finB c = false ∧ 0 ≤ v ∧ v ≤ 4611686018427387904)) : FnV Tryz.prog 74 [.agg #[.slice fa c.vals.length fc, .int .i64 c.per, .int .i64 c.inc], .int .i64 v] R (.tuple #[.int .i64 (reachG c v).1, .bool (reachG c v).2]) := by
 refine Fn.toV (fun w0 E => ?_)
 obtain ⟨hr1, hr2, hr3, hr4, hr5, hr6, hr7, hr8⟩ := valid_range hv
 refine fE 66 Tryz.func74 ?_
 refine zQ (zG ?_)
 refine zO fun b2 => ?_
 refine zR 2 rfl (zN (zU (zQ (zQ (zG (zR 1 rfl ?_))))))
 refine yM 0 ?_
 refine zR 2 rfl (zN (zU (zB ?_)))
 refine W.loopK (β := Nat) (fun t => t ≤ c.vals.length ∧ ∀ j, j < t → cvF c j < v) (fun t => [(15, true, .int .i64 (t : Int))]) [1, 2, 13, 14] [_, _, _, _] [] _ rfl (fun t => []) (fun t => c.vals.length - t) (0) (⟨Nat.zero_le _, fun j hj => by omega⟩) ⟨rfl, rfl, rfl, rfl, rfl, rfl⟩ qS ?_
 intro t hst
 obtain ⟨ht, hno⟩ := hst
 refine zQ (zG (zR 1 rfl (zN (zU (zQ ?_)))))
 refine cD rfl ?_ ?_ <;> intro hc0
 ·
  have htl : t < c.vals.length := by omega
  have hft := cvF_low htl
  refine zK (zU (zQ (zB (zQ (zG (zR 1 rfl ?_))))))
  refine yI ?_
  refine yD (r := by ((apply RS.rdD; assumption; ((try dsimp only) <;> omega)))) (k := ?_)
  refine zR 2 rfl (zN (zU (zQ (zG (zR 3 rfl (zN (zU ?_)))))))
  refine cD rfl ?_ ?_ <;> intro hc1
  ·
   have hff : findFrom (fun t => decide (cvF c t ≥ v)) c.vals.length 0 = t := findFrom_some (Nat.zero_le _) (by omega) (decide_eq_true (by rw [hft]; exact hc1)) (fun j _ hj => decide_eq_false (by have := hno j hj; omega))
   have hr : reachG c v = ((t : Int), true) := by unfold reachG; rw [hff, if_pos (by omega)]
   refine zQ (zG (zR 3 rfl (zN (zU (zT (wb (wt (wt (wb (wt ?_))))))))))
   refine sE (E := E) ?_
   refine zr2 ?_
   exact ⟨by rw [hr]; rfl, rfl⟩
  ·
   refine zK (zL (zU (zG ?_)))
   refine yA ?_
   refine zR 1 rfl (zN ?_)
   refine WE.again (t + 1) (⟨by omega, fun j hj => by
    by_cases e : j = t
    ·subst e; rw [hft]; omega
    ·exact hno j (by omega)⟩) (by (try dsimp only); omega) ⟨rfl, rfl, rfl, rfl, rfl, rfl⟩ (RLe.refl _) qS
 ·
  obtain rfl : t = c.vals.length := by omega
  have hff : findFrom (fun t => decide (cvF c t ≥ v)) c.vals.length 0 = -1 := findFrom_none (fun j _ hj => decide_eq_false (by have := hno j (by omega); omega))
  refine zX ?_
  refine wx (wx (zY (zU (zQ ?_))))
  refine W.regionQ _ mixed qK ?_
  refine zR 1 rfl ?_
  refine yM 0 ?_
  refine zR 2 rfl ?_
  refine yM 0 ?_
  refine zR 2 rfl (zN (zU (zQ (zQ (zG (zR 3 rfl ?_))))))
  refine yP ?_
  refine yG (Rd.addC (Rd.blkC 0 rfl) _) ?_
  refine yP ?_
  refine yO ?_
  refine zN (zU ?_)
  refine cC rfl ?_ ?_ <;> intro hc2
  ·try simp only [zk] at hc2
   have hr : reachG c v = (0, false) := by unfold reachG; rw [hff, if_neg (fun hh => hh rfl), if_pos (by unfold INF; omega)]
   refine zQ (zG (zR 2 rfl (zN (zU (zT (wt ?_))))))
   refine sE (E := E) ?_
   refine zr2 ?_
   exact ⟨by rw [hr]; rfl, rfl⟩
  ·try simp only [zk] at hc2
   exfalso
   rcases hx with ⟨h, _⟩ | ⟨h1, h2, h3⟩
   ·first | exact hc2 (.inl h) | exact hc2.1 h
   ·obtain ⟨n, n1, _, n3⟩ := inf_at hv h1
    have hs := stN_lt hv
    have h4 := hno n (by omega)
    rw [n3.hi n (Nat.le_refl _)] at h4
    unfold INF at h4; omega
theorem ReachG_V {R : Ro} {fa : Option Addr} {fc : Nat} {c : Cv} (hv : validB c = true) (ha : RS R 1 encI fa c.vals) {v : Int} (hvv : v = 4611686018427387904 ∨ (0 ≤ v ∧ v ≤ 1000000000000000)) : FnV Tryz.prog 74 [.agg #[.slice fa c.vals.length fc, .int .i64 c.per, .int .i64 c.inc], .int .i64 v] R (.tuple #[.int .i64 (reachG c v).1, .bool (reachG c v).2]) := by
 cases hf : finB c with
 | false => exact ReachI_V hv ha (.inr ⟨hf, by omega⟩)
 | true =>
  by_cases h : v = 4611686018427387904
  ·exact ReachI_V hv ha (.inl ⟨h, hf⟩)
  ·rcases valid_cases hv with ⟨S, P, e, hl, hp, hfc, _⟩ | ⟨_, _, _, _, _, _, _, f⟩
   ·have h2 := reachG_F hl hp (v := v) (by unfold INF; exact h)
    have e2 : c.vals = fvals (cvF c) (S + P) := by rw [← hl]; exact cvF_vals c
    rw [h2, hp, e2]
    rw [e2] at ha
    exact ReachF_V hfc ha qO
   ·rw [hf] at f; cases f
set_option maxHeartbeats 2000000 in
theorem DBothG_C {R : Ro} {fa : Option Addr} {fc : Nat} {cf : Cv} (hvf : validB cf = true) (ha : RS R 1 encI fa cf.vals) {ga : Option Addr} {gc : Nat} {cg : Cv} (hvg : validB cg = true) (hb : RS R 1 encI ga cg.vals) (w0 : World) (E : List Ent) : K.Fn Tryz.prog 71 [.agg #[.slice fa cf.vals.length fc, .int .i64 cf.per, .int .i64 cf.inc], .agg #[.slice ga cg.vals.length gc, .int .i64 cg.per, .int .i64 cg.inc]] w0 R E (fun v R' E' => ∃ (f1 : Option Addr) (n1 c1 : Nat) (p1 q1 : Int) (f2 : Option Addr) (n2 c2 : Nat) (p2 q2 tk : Int) (lo : Bool) (e : Int), v = .tuple #[.agg #[.slice f1 n1 c1, .int .i64 p1, .int .i64 q1, .slice f2 n2 c2, .int .i64 p2, .int .i64 q2, .int .i64 tk, .bool lo], .int .i64 e] ∧
   ((e = 3 ∧ 120 < lcmC (normR cf) (normR cg)) ∨ (e = 0 ∧ ¬ 120 < lcmC (normR cf) (normR cg) ∧ n1 = (normR cf).vals.length ∧ p1 = (normR cf).per ∧ q1 = (normR cf).inc ∧ n2 = (normR cg).vals.length ∧ p2 = (normR cg).per ∧ q2 = (normR cg).inc ∧ RS R' 1 encI f1 (normR cf).vals ∧ RS R' 1 encI f2 (normR cg).vals ∧ tk = ((max (stN (normR cf)) (stN (normR cg)) + lcmC (normR cf) (normR cg) : Nat) : Int) ∧ lo = decide (loose (normR cf) (normR cg)))) ∧ E.Sublist E') := by
 have hnf := norm_nrm hvf
 have hng := norm_nrm hvg
 refine fE 65 Tryz.func71 ?_
 refine zQ (zG ?_)
 refine zO fun b2 => ?_
 refine zO fun b3 => ?_
 refine zA fun b4 => ?_
 refine zR 1 rfl (zN (zU (zQ (zG ?_))))
 refine yB 2 ?_
 refine WL.call en99 rfl rfl qD (CallOp.mkT rfl rfl rfl rfl) (CNormalV_C hvf ha w0 _) ?_
 rintro _ R1 _ hR1 ⟨fa1x, ca1x, rfl, ha1x, hsub⟩
 refine WL.subE hsub ?_
 unfold cvV
 dsimp only at ha1x ⊢
 have hb := hb.mono hR1
 refine zR 3 rfl ?_
 refine zA fun b6 => ?_
 refine zE 0 ?_
 refine zR 1 rfl (zN (zU (zQ (zQ (zG (zR 2 rfl (zN (zU ?_))))))))
 refine cN rfl ?_ ?_ <;> intro hc0
 ·
  exact absurd rfl hc0
 ·
  refine zK (zU (zQ (zG ?_)))
  refine yB 2 ?_
  refine WL.call en99 rfl rfl qD (CallOp.mkT rfl rfl rfl rfl) (CNormalV_C hvg hb w0 _) ?_
  rintro _ R2 _ hR2 ⟨fa2x, ca2x, rfl, ha2x, hsub⟩
  refine WL.subE hsub ?_
  unfold cvV
  dsimp only at ha2x ⊢
  have ha1x := ha1x.mono hR2
  generalize normR cf = m1 at *
  generalize normR cg = m2 at *
  have hv1 := hnf.valid
  have hv2 := hng.valid
  have hlle := lcmC_le hv1 hv2
  have hlp := lcm_pos hv1 hv2
  have hs1 := stN_lt hv1
  have hs2 := stN_lt hv2
  refine zR 3 rfl ?_
  refine zA fun b8 => ?_
  refine zE 0 ?_
  refine zR 1 rfl (zN (zU (zQ (zQ (zG (zR 2 rfl (zN (zU ?_))))))))
  refine cN rfl ?_ ?_ <;> intro hc1
  ·
   exact absurd rfl hc1
  ·
   refine zK (zU (zQ (zG (zR 1 rfl ?_))))
   refine yM 1 ?_
   refine zR 1 rfl ?_
   refine yM 0 ?_
   refine WG.callV (v := .int .i64 (lcmC m1 m2 : Int)) en100 rfl rfl qD (CallOp.mk' rfl rfl rfl rfl) (fun _ => rfl) (fun hg => CommonC_V hv1 hv2) ?_
   refine zR 1 rfl (zN (zU (zQ (zQ (zG (zR 2 rfl (zN (zU ?_))))))))
   refine cD rfl ?_ ?_ <;> intro hc2
   ·
    refine zQ (zG ?_)
    refine yW [] ?_
    refine zE 2 ?_
    refine zR 1 rfl (zN (zU (zT (wt ?_))))
    refine zq4 (hR1.trans hR2) ?_
    exact ⟨none, 0, 0, 0, 0, none, 0, 0, 0, 0, 0, false, _, rfl, .inl ⟨rfl, by omega⟩, qS⟩
   ·
    have hl1 : ¬ 120 < lcmC m1 m2 := by omega
    refine zK (zU ?_)
    refine W.seqCut (β := Nat × Int) (fun (b10, tk) => tk = ((max (stN m1) (stN m2) + lcmC m1 m2 : Nat) : Int)) (fun (b10, tk) => [(4, true, .pointer (some ⟨b4, 0, none⟩)), (6, true, .pointer (some ⟨b6, 0, none⟩)), (8, true, .pointer (some ⟨b8, 0, none⟩)), (9, true, .int .i64 (lcmC m1 m2 : Int)), (10, true, .pointer (some ⟨b10, 0, none⟩))]) (fun _ => R2) (fun (b10, tk) => .blk b10 [.slice fa1x m1.vals.length ca1x, .int .i64 m1.per, .int .i64 m1.inc, .slice fa2x m2.vals.length ca2x, .int .i64 m2.per, .int .i64 m2.inc, .int .i64 tk, .bool false] :: .blk b8 [.slice fa2x m2.vals.length ca2x, .int .i64 m2.per, .int .i64 m2.inc] :: .blk b6 [.slice fa1x m1.vals.length ca1x, .int .i64 m1.per, .int .i64 m1.inc] :: .blk b4 [.slice none 0 0, .int .i64 0, .int .i64 0, .slice none 0 0, .int .i64 0, .int .i64 0, .int .i64 0, .bool false] :: E) ?_ ?_
    ·
     intro st hst
     obtain ⟨b10, tk⟩ := st
     obtain rfl : tk = _ := hst
     dsimp only
     have hloq : (finB m2 && (!finB m1 || decide (gainC m1 (lcmC m1 m2) > gainC m2 (lcmC m1 m2)))) = decide (loose m1 m2) := by
      rw [Bool.eq_iff_iff, decide_eq_true_iff]
      unfold loose
      simp
     refine zQ ?_
     refine W.regionH _ (ES := [.blk b8 [.slice fa2x m2.vals.length ca2x, .int .i64 m2.per, .int .i64 m2.inc], .blk b6 [.slice fa1x m1.vals.length ca1x, .int .i64 m1.per, .int .i64 m1.inc]]) mixed ?_
     refine tL 0 (Rd.blk 0 rfl) ?_
     refine WA.callV 1 rfl qK en102 rfl rfl qD (CallOp.mk' rfl rfl rfl rfl) (fun _ => rfl) (fun hg => WFiniteG_V hv2 ha2x) qS qR ?_
     refine tP 2 ?_
     refine' WA.take 3 rfl qK qK qK rfl rfl qD (Yl.loadG tab_ok rfl rfl rfl qE ?r6 rfl ?h6 ?g6) qS qR ?_
     case r6 => (exact Rd.blkC 1 rfl)
     case h6 => rfl
     case g6 => exact fun _ => trivial
     refine WA.callV 4 rfl qK en102 rfl rfl qD (CallOp.mk' rfl rfl rfl rfl) qE (fun hg => WFiniteG_V hv1 ha1x) qS qR ?_
     refine WA.take 5 rfl qK qK qK rfl rfl qD (pureV_ok tab_ok rfl qE) qS qR ?_
     refine WA.take 6 rfl qK qK qK rfl rfl qD (pureV_ok tab_ok rfl qE) qS qR ?_
     refine' WA.take 7 rfl qK qK qK rfl rfl qD (Yl.loadG tab_ok rfl rfl rfl qE ?r7 rfl ?h7 ?g7) qS qR ?_
     case r7 => (exact Rd.blkC 1 rfl)
     case h7 => rfl
     case g7 => exact fun _ => trivial
     refine WA.take 8 rfl qK qK qK rfl rfl qD (pureV_ok tab_ok rfl qE) qS qR ?_
     refine' WA.take 10 rfl qK qK qK rfl rfl qD (Yl.loadG tab_ok rfl rfl rfl qE ?r8 rfl ?h8 ?g8) qS qR ?_
     case r8 => (exact Rd.blkC 0 rfl)
     case h8 => rfl
     case g8 => exact fun _ => trivial
     refine WA.take 11 rfl qK qK qK rfl rfl qD (pureV_ok tab_ok rfl qE) qS qR ?_
     refine WA.callV 9 (v := .int .i64 (gainC m1 (lcmC m1 m2))) rfl qK en103 rfl rfl qD (CallOp.mk' rfl rfl rfl rfl) qE (fun hg => WGainG_V hv1 ha1x (L := lcmC m1 m2) qO) qS qR ?_
     refine WA.callV 12 (v := .int .i64 (gainC m2 (lcmC m1 m2))) rfl qK en103 rfl rfl qD (CallOp.mk' rfl rfl rfl rfl) qE (fun hg => WGainG_V hv2 ha2x (L := lcmC m1 m2) qO) qS qR ?_
     refine WA.take 13 rfl qK qK qK rfl rfl qD (pureV_ok tab_ok rfl qE) qS qR ?_
     refine WA.take 14 rfl (by kernel_rfl) (by kernel_rfl) (by kernel_rfl) rfl rfl (by decide) (Yl.por rfl rfl rfl qE (by intro h1 h2; simp_all <;> omega)) qS (by first | exact RLe.refl _ | assumption) ?_
     refine WA.take 15 rfl (by kernel_rfl) (by kernel_rfl) (by kernel_rfl) rfl rfl (by decide) (Yl.pand rfl rfl rfl (fun _ => rfl) (by intro h1 h2; simp_all <;> omega)) qS (by first | exact RLe.refl _ | assumption) ?_
     refine tP 16 ?_
     refine zCF 17 0 ?_
     refine WA.done qK ?_
     refine zU (zQ (zG ?_))
     refine yB 0 ?_
     refine zE 3 ?_
     refine zR 1 rfl (zN (zU (zT ?_)))
     refine zq4 (hR1.trans hR2) ?_
     refine ⟨fa1x, _, ca1x, _, _, fa2x, _, ca2x, _, _, _, _, _, rfl, .inr ⟨rfl, hl1, rfl, rfl, rfl, rfl, rfl, rfl, ha1x, ha2x, ?_, ?_⟩, qS⟩
     ·first | rfl | omega | (split <;> omega)
     ·first | exact hloq | (rw [← hloq]; rfl)
    ·
     refine W.regionH _ (ES := [.blk b8 [.slice fa2x m2.vals.length ca2x, .int .i64 m2.per, .int .i64 m2.inc], .blk b6 [.slice fa1x m1.vals.length ca1x, .int .i64 m1.per, .int .i64 m1.inc]]) mixed ?_
     refine tL 0 (Rd.blk 1 rfl) ?_
     refine tL 1 (Rd.blk 0 rfl) ?_
     refine tL 2 (Rd.blk 1 rfl) ?_
     refine tL 4 (Rd.blk 0 rfl) ?_
     refine tP 7 ?_
     refine WA.br2 (i := 3) (j := 10) qK ?_ ?_
     ·
      refine WS.callV rfl en101 rfl rfl qD (CallOp.mk' rfl rfl rfl rfl) (fun _ => rfl) (fun hg => WStartG_V hv1 ha1x) qS qR ?_
      refine WA.br2 (i := 5) (j := 10) qK ?_ ?_
      ·
       refine WS.callV rfl en101 rfl rfl qD (CallOp.mk' rfl rfl rfl rfl) (fun _ => rfl) (fun hg => WStartG_V hv2 ha2x) qS qR ?_
       refine tP 6 ?_
       refine tA 8 ?_
       refine WA.take 9 rfl qK qK qK rfl rfl qD (Yl.build (parts := [(0, .tmp 37), (1, .tmp 38), (2, .tmp 45)]) tab_ok rfl rfl rfl rfl (fun _ => rfl) rfl rfl) qS qR ?_
       refine WA.eff 10 rfl qK rfl rfl qD (Ef.alloc tab_ok rfl rfl (fun b10 => ?_))
       refine ⟨qR, qS, ?_⟩
       refine zCE 11 0 ?_
       refine WA.done qK ?_
       refine WE.cut (b10, (if (stN m1 : Int) < (stN m2 : Int) then (stN m2 : Int) else (stN m1 : Int)) + (lcmC m1 m2 : Int)) (by first | rfl | omega | (split <;> omega)) ⟨rfl, rfl, rfl, rfl, rfl, rfl⟩ (RLe.refl _) qS
      ·
       refine WS.eff rfl rfl rfl qD (Ef.alloc tab_ok rfl rfl (fun b10 => ?_))
       refine ⟨qR, qS, ?_⟩
       refine WA.callV 5 rfl qK en101 rfl rfl qD (CallOp.mk' rfl rfl rfl rfl) (fun _ => rfl) (fun hg => WStartG_V hv2 ha2x) qS qR ?_
       refine tP 6 ?_
       refine tA 8 ?_
       refine WA.take 9 rfl qK qK qK rfl rfl qD (Yl.build (parts := [(0, .tmp 37), (1, .tmp 38), (2, .tmp 45)]) tab_ok rfl rfl rfl rfl (fun _ => rfl) rfl rfl) qS qR ?_
       refine zCE 11 0 ?_
       refine WA.done qK ?_
       refine WE.cut (b10, (if (stN m1 : Int) < (stN m2 : Int) then (stN m2 : Int) else (stN m1 : Int)) + (lcmC m1 m2 : Int)) (by first | rfl | omega | (split <;> omega)) ⟨rfl, rfl, rfl, rfl, rfl, rfl⟩ (RLe.refl _) qS
     ·
      refine WS.eff rfl rfl rfl qD (Ef.alloc tab_ok rfl rfl (fun b10 => ?_))
      refine ⟨qR, qS, ?_⟩
      refine WA.callV 3 rfl qK en101 rfl rfl qD (CallOp.mk' rfl rfl rfl rfl) (fun _ => rfl) (fun hg => WStartG_V hv1 ha1x) qS qR ?_
      refine WA.callV 5 rfl qK en101 rfl rfl qD (CallOp.mk' rfl rfl rfl rfl) (fun _ => rfl) (fun hg => WStartG_V hv2 ha2x) qS qR ?_
      refine tP 6 ?_
      refine tA 8 ?_
      refine WA.take 9 rfl qK qK qK rfl rfl qD (Yl.build (parts := [(0, .tmp 37), (1, .tmp 38), (2, .tmp 45)]) tab_ok rfl rfl rfl rfl (fun _ => rfl) rfl rfl) qS qR ?_
      refine zCE 11 0 ?_
      refine WA.done qK ?_
      refine WE.cut (b10, (if (stN m1 : Int) < (stN m2 : Int) then (stN m2 : Int) else (stN m1 : Int)) + (lcmC m1 m2 : Int)) (by first | rfl | omega | (split <;> omega)) ⟨rfl, rfl, rfl, rfl, rfl, rfl⟩ (RLe.refl _) qS
theorem DelayFG_V {R : Ro} {a1 : Option Addr} {c1 : Nat} {m1 : Cv} (hv1 : validB m1 = true) (hx1 : RS R 1 encI a1 m1.vals) {a2 : Option Addr} {c2 : Nat} {m2 : Cv} (hv2 : validB m2 = true) (hx2 : RS R 1 encI a2 m2.vals) {b6 : Nat} {tk : Int} {lo : Bool} (h6 : R b6 = some [.slice a1 m1.vals.length c1, .int .i64 m1.per, .int .i64 m1.inc, .slice a2 m2.vals.length c2, .int .i64 m2.per, .int .i64 m2.inc, .int .i64 tk, .bool lo]) {t : Nat} (ht : t ≤ 100000) : FnV Tryz.prog 73 [.int .i64 (t : Int), .pointer (some ⟨b6, 0, none⟩)] R (.tuple #[.int .i64 (gapD m1 m2 t).1, .bool (gapD m1 m2 t).2]) := by
 have hlow := cvF_low15 hv1 ht
 have hrb := reachG_bound hv2 hlow
 unfold INF at hlow
 refine Fn.toV (fun w0 E => ?_)
 refine fE 21 Tryz.func73 ?_
 refine zQ (zG (zR 2 rfl (zN (zU (zQ ?_)))))
 refine W.regionQ _ mixed qK ?_
 refine zR 1 rfl ?_
 refine yD (r := by apply Rd.add; (exact Rd.ro qU)) (k := ?_)
 refine zR 1 rfl ?_
 refine yD (r := by apply Rd.add; (exact Rd.ro qU)) (k := ?_)
 refine zR 1 rfl ?_
 refine WG.callV en75 rfl rfl qD (CallOp.mk' rfl rfl rfl rfl) (fun _ => rfl) (fun hg => WAtG_V hv1 hx1 qO) ?_
 refine WG.callV en74 rfl rfl qD (CallOp.mk' rfl rfl rfl rfl) (fun _ => rfl) (fun hg => ReachG_V hv2 hx2 hlow) ?_
 refine zR 5 rfl (zN (zU (zQ (zG (zR 2 rfl ?_)))))
 refine yS ?_
 refine zR 3 rfl (zN (zU (zT ?_)))
 refine sE (E := E) ?_
 refine zr2 ?_
 exact ⟨rfl, rfl⟩
theorem DelayG_C {R : Ro} {fa : Option Addr} {fc : Nat} {cf : Cv} (hvf : validB cf = true) (ha : RS R 1 encI fa cf.vals) {ga : Option Addr} {gc : Nat} {cg : Cv} (hvg : validB cg = true) (hb : RS R 1 encI ga cg.vals) (w0 : World) (E : List Ent) : K.Fn Tryz.prog 41 [.agg #[.slice fa cf.vals.length fc, .int .i64 cf.per, .int .i64 cf.inc], .agg #[.slice ga cg.vals.length gc, .int .i64 cg.per, .int .i64 cg.inc]] w0 R E (fun v R' E' => v = .tuple #[.agg #[.bool ((devN (normR cf) (normR cg) (gapD (normR cf) (normR cg)))).1.1, .int .i64 ((devN (normR cf) (normR cg) (gapD (normR cf) (normR cg)))).1.2.1, .int .i64 ((devN (normR cf) (normR cg) (gapD (normR cf) (normR cg)))).1.2.2], .int .i64 ((devN (normR cf) (normR cg) (gapD (normR cf) (normR cg)))).2] ∧ E.Sublist E') := by
 have hnf := norm_nrm hvf
 have hng := norm_nrm hvg
 refine fE 25 Tryz.func41 ?_
 refine zQ (zG ?_)
 refine zO fun b2 => ?_
 refine zO fun b3 => ?_
 refine zA fun b4 => ?_
 refine zR 1 rfl (zN (zU (zQ (zG ?_))))
 refine yB 2 ?_
 refine yB 1 ?_
 refine WL.call en71 rfl rfl qD (CallOp.mkT rfl rfl rfl rfl) (DBothG_C hvf ha hvg hb w0 _) ?_
 rintro _ R1 _ hR1 ⟨a1, n1, c1, p1, q1, a2, n2, c2, p2, q2, tk, lo, e, rfl, hpair, hsub⟩
 refine WL.subE hsub ?_
 refine zR 3 rfl ?_
 refine zA fun b6 => ?_
 refine zE 0 ?_
 refine zR 1 rfl (zN (zU (zQ (zQ (zG (zR 2 rfl (zN (zU ?_))))))))
 refine cN rfl ?_ ?_ <;> intro hc0
 ·
  obtain ⟨rfl, hl⟩ : e = 3 ∧ 120 < lcmC (normR cf) (normR cg) := by
   rcases hpair with h | h
   ·exact h
   ·exact absurd h.1 hc0
  have hd : (devN (normR cf) (normR cg) (gapD (normR cf) (normR cg))) = ((false, 0, 0), 3) := by unfold devN; rw [if_pos hl]
  refine zQ (zG ?_)
  refine yW [] ?_
  refine zR 1 rfl ?_
  refine zE 1 ?_
  refine zR 1 rfl (zN (zU (zT (wt ?_))))
  refine zq4 (by first | exact hR1.trans (hR2.trans hR3) | exact hR1.trans hR2 | exact hR1) ?_
  exact ⟨by rw [hd]; rfl, qS⟩
 ·
  obtain ⟨rfl, hl, rfl, rfl, rfl, rfl, rfl, rfl, hx1, hx2, rfl, rfl⟩ := hpair.resolve_left (fun h => by omega)
  generalize normR cf = m1 at *
  generalize normR cg = m2 at *
  have hv1 := hnf.valid
  have hv2 := hng.valid
  have hs1 := stN_lt hv1
  have hs2 := stN_lt hv2
  refine zK (zU (zQ (zQ (zG (zR 1 rfl ?_)))))
  refine yM 0 ?_
  refine zN (zU ?_)
  refine cC rfl ?_ ?_ <;> intro hc1
  ·try simp only [zk] at hc1
   have hlo : loose m1 m2 := by simpa using hc1
   have hd : devN m1 m2 (gapD m1 m2) = ((true, 0, 0), 0) := by unfold devN; rw [if_neg hl, if_pos hlo]
   refine zQ (zG ?_)
   refine yW [(0, .const (.bool true))] ?_
   refine zE 1 ?_
   refine zR 1 rfl (zN (zU (zT (wt ?_))))
   refine zq4 (by first | exact hR1.trans (hR2.trans hR3) | exact hR1.trans hR2 | exact hR1) ?_
   exact ⟨by rw [hd]; rfl, qS⟩
  ·try simp only [zk] at hc1
   have hlo : ¬ loose m1 m2 := by simpa using hc1
   have hd : devN m1 m2 (gapD m1 m2) = (greatW (gapD m1 m2) (max (stN m1) (stN m2) + lcmC m1 m2) 0 0 0, 0) := by unfold devN; rw [if_neg hl, if_neg hlo]
   refine zK (zU ?_)
   refine W.freezeBlk 0 rfl ?_
   intro R2 hR2 hb6
   have hF : ∀ t : Nat, t < max (stN m1) (stN m2) + lcmC m1 m2 → FnV Tryz.prog 73 ((#[] : Array Value).toList ++ [.int .i64 (t : Int)] ++ (#[.pointer (some ⟨b6, 0, none⟩)] : Array Value).toList) R2 (.tuple #[.int .i64 (gapD m1 m2 t).1, .bool (gapD m1 m2 t).2]) := fun t ht => DelayFG_V hv1 (hx1.mono hR2) hv2 (hx2.mono hR2) hb6 (by omega)
   refine zQ (zG (zR 1 rfl ?_))
   refine yD (r := by apply Rd.add; (exact Rd.ro qU)) (k := ?_)
   refine zR 1 rfl ?_
   refine WG.callV en72 rfl rfl qD (CallOp.mk' rfl rfl rfl rfl) (fun _ => rfl) (fun hg => Greatest_V (f := gapD m1 m2) (n := max (stN m1) (stN m2) + lcmC m1 m2) en73 hF qO) ?_
   refine zE 0 ?_
   refine zR 1 rfl (zN (zU (zT ?_)))
   refine zq4 (by first | exact hR1.trans (hR2.trans hR3) | exact hR1.trans hR2 | exact hR1) ?_
   exact ⟨by rw [hd]; rfl, qS⟩
theorem AheadFG_V {R : Ro} {a1 : Option Addr} {c1 : Nat} {m1 : Cv} (hv1 : validB m1 = true) (hx1 : RS R 1 encI a1 m1.vals) {a2 : Option Addr} {c2 : Nat} {m2 : Cv} (hv2 : validB m2 = true) (hx2 : RS R 1 encI a2 m2.vals) {b6 b5 : Nat} {tk : Int} {lo : Bool} {dd : Nat} (h6 : R b6 = some [.slice a1 m1.vals.length c1, .int .i64 m1.per, .int .i64 m1.inc, .slice a2 m2.vals.length c2, .int .i64 m2.per, .int .i64 m2.inc, .int .i64 tk, .bool lo]) (h5 : R b5 = some [.int .i64 (dd : Int)]) (hdd : dd ≤ 10) {t : Nat} (ht : t ≤ 100000) : FnV Tryz.prog 108 [.int .i64 (t : Int), .pointer (some ⟨b6, 0, none⟩), .pointer (some ⟨b5, 0, none⟩)] R (.tuple #[.int .i64 (gapA m1 m2 dd t).1, .bool (gapA m1 m2 dd t).2]) := by
 have hl1 := cvF_bound hv1 (t + dd)
 have hl2 := cvF_bound hv2 t
 have i1 := isInf_iff hv1 (t := t + dd) (by omega)
 have i2 := isInf_iff hv2 (t := t) (by omega)
 unfold INF at hl1 hl2 i1 i2
 refine Fn.toV (fun w0 E => ?_)
 refine fE 25 Tryz.func108 ?_
 refine zQ (zG (zR 2 rfl (zN (zU (zQ ?_)))))
 refine W.regionQ _ mixed qK ?_
 refine zR 1 rfl ?_
 refine yD (r := by apply Rd.add; (exact Rd.ro qU)) (k := ?_)
 refine zR 1 rfl ?_
 refine yD (r := by (exact Rd.ro qU)) (k := ?_)
 refine yA ?_
 refine WG.callV (v := .int .i64 (cvF m1 (t + dd))) en75 rfl rfl qD (CallOp.mk' rfl rfl rfl rfl) (fun _ => rfl) (fun hg => WAtG_V (t := t + dd) hv1 hx1 qO) ?_
 refine zR 1 rfl ?_
 refine yD (r := by apply Rd.add; (exact Rd.ro qU)) (k := ?_)
 refine zR 1 rfl ?_
 refine WG.callV (v := .int .i64 (cvF m2 t)) en75 rfl rfl qD (CallOp.mk' rfl rfl rfl rfl) (fun _ => rfl) (fun hg => WAtG_V (t := t) hv2 hx2 qO) ?_
 refine zR 2 rfl (zN (zU (zQ (zQ (zG (zR 2 rfl (zN (zU ?_))))))))
 refine cE rfl ?_ ?_ <;> intro hc0
 ·
  have hr : gapA m1 m2 dd t = (0, true) := if_pos (i2.2 hc0)
  refine zQ (zG (zR 2 rfl (zN (zU (zT (wt ?_))))))
  refine sE (E := E) ?_
  refine zr2 ?_
  exact ⟨by rw [hr]; rfl, rfl⟩
 ·
  have hr : gapA m1 m2 dd t = (cvF m1 (t + dd) - cvF m2 t, (cvF m1 (t + dd)) != (4611686018427387904 : Int)) := by
   unfold gapA
   rw [if_neg (fun h => hc0 (i2.1 h))]
   congr 1
   rw [Bool.eq_iff_iff]
   simp [i1]
  refine zK (zU (zQ (zG (zR 2 rfl ?_))))
  refine yS ?_
  refine zR 4 rfl (zN (zU (zT ?_)))
  refine sE (E := E) ?_
  refine zr2 ?_
  exact ⟨by rw [hr]; rfl, rfl⟩
theorem AheadG_C {R : Ro} {fa : Option Addr} {fc : Nat} {cf : Cv} (hvf : validB cf = true) (ha : RS R 1 encI fa cf.vals) {ga : Option Addr} {gc : Nat} {cg : Cv} (hvg : validB cg = true) (hb : RS R 1 encI ga cg.vals) {dd : Nat} (hdd : dd ≤ 10) (w0 : World) (E : List Ent) : K.Fn Tryz.prog 84 [.agg #[.slice fa cf.vals.length fc, .int .i64 cf.per, .int .i64 cf.inc], .agg #[.slice ga cg.vals.length gc, .int .i64 cg.per, .int .i64 cg.inc], .int .i64 (dd : Int)] w0 R E (fun v R' E' => v = .tuple #[.agg #[.bool ((devN (normR cf) (normR cg) (gapA (normR cf) (normR cg) dd))).1.1, .int .i64 ((devN (normR cf) (normR cg) (gapA (normR cf) (normR cg) dd))).1.2.1, .int .i64 ((devN (normR cf) (normR cg) (gapA (normR cf) (normR cg) dd))).1.2.2], .int .i64 ((devN (normR cf) (normR cg) (gapA (normR cf) (normR cg) dd))).2] ∧ E.Sublist E') := by
 have hnf := norm_nrm hvf
 have hng := norm_nrm hvg
 refine fE 27 Tryz.func84 ?_
 refine zQ (zG ?_)
 refine zO fun b3 => ?_
 refine zO fun b4 => ?_
 refine zO fun b5 => ?_
 refine zA fun b6 => ?_
 refine zR 1 rfl (zN (zU (zQ (zG ?_))))
 refine yB 3 ?_
 refine yB 2 ?_
 refine WL.call en71 rfl rfl qD (CallOp.mkT rfl rfl rfl rfl) (DBothG_C hvf ha hvg hb w0 _) ?_
 rintro _ R1 _ hR1 ⟨a1, n1, c1, p1, q1, a2, n2, c2, p2, q2, tk, lo, e, rfl, hpair, hsub⟩
 refine WL.subE hsub ?_
 refine zR 3 rfl ?_
 refine zA fun b8 => ?_
 refine zE 0 ?_
 refine zR 1 rfl (zN (zU (zQ (zQ (zG (zR 2 rfl (zN (zU ?_))))))))
 refine cN rfl ?_ ?_ <;> intro hc0
 ·
  obtain ⟨rfl, hl⟩ : e = 3 ∧ 120 < lcmC (normR cf) (normR cg) := by
   rcases hpair with h | h
   ·exact h
   ·exact absurd h.1 hc0
  have hd : (devN (normR cf) (normR cg) (gapA (normR cf) (normR cg) dd)) = ((false, 0, 0), 3) := by unfold devN; rw [if_pos hl]
  refine zQ (zG ?_)
  refine yW [] ?_
  refine zR 1 rfl ?_
  refine zE 1 ?_
  refine zR 1 rfl (zN (zU (zT (wt ?_))))
  refine zq4 (by first | exact hR1.trans (hR2.trans hR3) | exact hR1.trans hR2 | exact hR1) ?_
  exact ⟨by rw [hd]; rfl, qS⟩
 ·
  obtain ⟨rfl, hl, rfl, rfl, rfl, rfl, rfl, rfl, hx1, hx2, rfl, rfl⟩ := hpair.resolve_left (fun h => by omega)
  generalize normR cf = m1 at *
  generalize normR cg = m2 at *
  have hv1 := hnf.valid
  have hv2 := hng.valid
  have hs1 := stN_lt hv1
  have hs2 := stN_lt hv2
  refine zK (zU (zQ (zQ (zG (zR 1 rfl ?_)))))
  refine yM 0 ?_
  refine zN (zU ?_)
  refine cC rfl ?_ ?_ <;> intro hc1
  ·try simp only [zk] at hc1
   have hlo : loose m1 m2 := by simpa using hc1
   have hd : devN m1 m2 (gapA m1 m2 dd) = ((true, 0, 0), 0) := by unfold devN; rw [if_neg hl, if_pos hlo]
   refine zQ (zG ?_)
   refine yW [(0, .const (.bool true))] ?_
   refine zE 1 ?_
   refine zR 1 rfl (zN (zU (zT (wt ?_))))
   refine zq4 (by first | exact hR1.trans (hR2.trans hR3) | exact hR1.trans hR2 | exact hR1) ?_
   exact ⟨by rw [hd]; rfl, qS⟩
  ·try simp only [zk] at hc1
   have hlo : ¬ loose m1 m2 := by simpa using hc1
   have hd : devN m1 m2 (gapA m1 m2 dd) = (greatW (gapA m1 m2 dd) (max (stN m1) (stN m2) + lcmC m1 m2) 0 0 0, 0) := by unfold devN; rw [if_neg hl, if_neg hlo]
   refine zK (zU ?_)
   refine W.freezeBlk 0 rfl ?_
   intro R2 hR2 hb6
   refine W.freezeBlk 1 rfl ?_
   intro R3 hR3 hb5
   have hb6 := hR3 _ _ hb6
   have hF : ∀ t : Nat, t < max (stN m1) (stN m2) + lcmC m1 m2 → FnV Tryz.prog 108 ((#[] : Array Value).toList ++ [.int .i64 (t : Int)] ++ (#[.pointer (some ⟨b8, 0, none⟩), .pointer (some ⟨b5, 0, none⟩)] : Array Value).toList) R3 (.tuple #[.int .i64 (gapA m1 m2 dd t).1, .bool (gapA m1 m2 dd t).2]) := fun t ht => AheadFG_V hv1 (hx1.mono (hR2.trans hR3)) hv2 (hx2.mono (hR2.trans hR3)) hb6 hb5 hdd (by omega)
   refine zQ (zG (zR 1 rfl ?_))
   refine yD (r := by apply Rd.add; (exact Rd.ro qU)) (k := ?_)
   refine zR 1 rfl ?_
   refine WG.callV en72 rfl rfl qD (CallOp.mk' rfl rfl rfl rfl) (fun _ => rfl) (fun hg => Greatest_V (f := gapA m1 m2 dd) (n := max (stN m1) (stN m2) + lcmC m1 m2) en108 hF qO) ?_
   refine zE 0 ?_
   refine zR 1 rfl (zN (zU (zT ?_)))
   refine zq4 (by first | exact hR1.trans (hR2.trans hR3) | exact hR1.trans hR2 | exact hR1) ?_
   exact ⟨by rw [hd]; rfl, qS⟩
theorem BacklogG_C {R : Ro} {fa : Option Addr} {fc : Nat} {cf : Cv} (hvf : validB cf = true) (ha : RS R 1 encI fa cf.vals) {ga : Option Addr} {gc : Nat} {cg : Cv} (hvg : validB cg = true) (hb : RS R 1 encI ga cg.vals) (w0 : World) (E : List Ent) : K.Fn Tryz.prog 44 [.agg #[.slice fa cf.vals.length fc, .int .i64 cf.per, .int .i64 cf.inc], .agg #[.slice ga cg.vals.length gc, .int .i64 cg.per, .int .i64 cg.inc]] w0 R E (fun v R' E' => v = .tuple #[.agg #[.bool ((devN (normR cf) (normR cg) (gapA (normR cf) (normR cg) 0))).1.1, .int .i64 ((devN (normR cf) (normR cg) (gapA (normR cf) (normR cg) 0))).1.2.1, .int .i64 ((devN (normR cf) (normR cg) (gapA (normR cf) (normR cg) 0))).1.2.2], .int .i64 ((devN (normR cf) (normR cg) (gapA (normR cf) (normR cg) 0))).2] ∧ E.Sublist E') := by
 refine fE 11 Tryz.func44 ?_
 refine zQ (zG ?_)
 refine zO fun b2 => ?_
 refine zO fun b3 => ?_
 refine zA fun b4 => ?_
 refine zR 1 rfl (zN (zU (zQ (zG ?_))))
 refine yB 2 ?_
 refine yB 1 ?_
 refine WL.call en84 rfl rfl qD (CallOp.mkT rfl rfl rfl rfl) (AheadG_C (dd := 0) hvf ha hvg hb qD w0 _) ?_
 rintro _ R1 _ hR1 ⟨rfl, hsub⟩
 refine WL.subE hsub ?_
 refine zR 2 rfl ?_
 refine zE 0 ?_
 refine zR 1 rfl (zN (zU (zT ?_)))
 refine zq4 (hR1) ?_
 exact ⟨rfl, qS⟩
theorem PeakG_C {R : Ro} {fa : Option Addr} {fc : Nat} {cf : Cv} (hvf : validB cf = true) (ha : RS R 1 encI fa cf.vals) {ga : Option Addr} {gc : Nat} {cg : Cv} (hvg : validB cg = true) (hb : RS R 1 encI ga cg.vals) (w0 : World) (E : List Ent) : K.Fn Tryz.prog 46 [.agg #[.slice fa cf.vals.length fc, .int .i64 cf.per, .int .i64 cf.inc], .agg #[.slice ga cg.vals.length gc, .int .i64 cg.per, .int .i64 cg.inc]] w0 R E (fun v R' E' => v = .tuple #[.agg #[.bool ((devN (normR cf) (normR cg) (gapA (normR cf) (normR cg) 1))).1.1, .int .i64 ((devN (normR cf) (normR cg) (gapA (normR cf) (normR cg) 1))).1.2.1, .int .i64 ((devN (normR cf) (normR cg) (gapA (normR cf) (normR cg) 1))).1.2.2], .int .i64 ((devN (normR cf) (normR cg) (gapA (normR cf) (normR cg) 1))).2] ∧ E.Sublist E') := by
 refine fE 11 Tryz.func46 ?_
 refine zQ (zG ?_)
 refine zO fun b2 => ?_
 refine zO fun b3 => ?_
 refine zA fun b4 => ?_
 refine zR 1 rfl (zN (zU (zQ (zG ?_))))
 refine yB 2 ?_
 refine yB 1 ?_
 refine WL.call en84 rfl rfl qD (CallOp.mkT rfl rfl rfl rfl) (AheadG_C (dd := 1) hvf ha hvg hb qD w0 _) ?_
 rintro _ R1 _ hR1 ⟨rfl, hsub⟩
 refine WL.subE hsub ?_
 refine zR 2 rfl ?_
 refine zE 0 ?_
 refine zR 1 rfl (zN (zU (zT ?_)))
 refine zq4 (hR1) ?_
 exact ⟨rfl, qS⟩

theorem Wait_C {R : Ro} {v : Int} (w0 : World) (E : List Ent) : K.Fn Tryz.prog 141 [.int .i64 v] w0 R E (fun r R' E' => ∃ (f : Option Addr) (fc : Nat), r = cvV f fc (waitC v) ∧ RS R' 1 encI f (waitC v).1.vals ∧ E.Sublist E') := by
 refine fE 20 Tryz.func141 ?_
 refine zQ (zG ?_)
 refine zA fun b2 => ?_
 refine zR 1 rfl (zN (zU (zQ (zQ (zG (zR 2 rfl (zN (zU ?_))))))))
 refine cD rfl ?_ ?_ <;> intro hc0
 ·
  have e : waitC v = (zcv, 2) := if_pos hc0
  refine zQ (zG ?_)
  refine yW [] ?_
  refine zE 0 ?_
  refine zR 1 rfl (zN (zU (zT (wt ?_))))
  refine zq4 (by first | exact RLe.refl _ | exact hR1) ?_
  rw [e]
  exact ⟨none, 0, rfl, rs_nil, qS⟩
 ·
  refine zK (zU (zQ (zQ (zG (zR 2 rfl (zN (zU ?_)))))))
  refine cD rfl ?_ ?_ <;> intro hc1
  ·
   have e : waitC v = (zcv, 3) := by unfold waitC; rw [if_neg (by omega), if_pos (by omega)]
   refine zQ (zG ?_)
   refine yW [] ?_
   refine zE 0 ?_
   refine zR 1 rfl (zN (zU (zT (wt ?_))))
   refine zq4 (by first | exact RLe.refl _ | exact hR1) ?_
   rw [e]
   exact ⟨none, 0, rfl, rs_nil, qS⟩
  ·
   have e : waitC v = (⟨waitL v, 1, 0⟩, 0) := by unfold waitC; rw [if_neg (by omega), if_neg (by omega)]
   refine zK (zU (zQ (zG (zR 1 rfl ?_))))
   refine yA ?_
   refine WL.ef rfl rfl qD (Ef.makeSliceD (enc := encI) 0 tab_ok rfl rfl rfl rfl rfl rfl qX qX qX qX qD rfl rfl (fun a13 => ?_))
   refine zR 1 rfl (zN (zU (zQ (zG (zR 2 rfl ?_)))))
   refine yA ?_
   refine yX ?_
   refine WL.efN rfl rfl (Ef.storeD (enc := encI) (xs := List.replicate (v + 2).toNat 0) 4611686018427387904 0 tab_ok rfl rfl rfl rfl rfl (by rw [List.length_replicate]; omega) rfl rfl rfl rfl ?_)
   refine zN (zU ?_)
   refine W.freeze (enc := encI) (xs := waitL v) 0 rfl ?_
   intro R1 hR1 hwz
   refine zQ (zG (zR 1 rfl ?_))
   refine yW [(0, .tmp 18), (1, .const (.int .i64 1))] ?_
   refine zE 0 ?_
   refine zR 1 rfl (zN (zU (zT ?_)))
   refine zq4 (by first | exact RLe.refl _ | exact hR1) ?_
   rw [e]
   refine ⟨some ⟨a13, 0, none⟩, (v + 2).toNat, ?_, hwz, qS⟩
   unfold cvV waitL
   dsimp only
   rw [List.length_set, List.length_replicate]
   rfl
theorem AllSrv_C {R : Ro} {aw at_ : Option Addr} {lw cw lt ct : Nat} {L : Ln} (hw : RS R 1 encI aw L.w) (hlw : L.w.length = lw) (ht : RS R 1 encI at_ L.tb) (hlt : L.tb.length = lt) {la : Option Addr} {lc ll : Nat} {ls : List CvS} (hla : RS R 3 encC la ls) (hll : ls.length = ll) (hls : ∀ x ∈ ls, RS R 1 encI x.a x.cv.vals ∧ validB x.cv = true) (hc : 1 ≤ L.cap ∧ L.cap ≤ 4000) (w0 : World) (E : List Ent) : K.Fn Tryz.prog 42 [.agg #[.int .i64 L.kind, .int .i64 L.cap, .int .i64 L.n, .slice aw lw cw, .slice at_ lt ct], .slice la ll lc] w0 R E (fun r R' E' => r = devV (allC L.cap (ls.map CvS.cv)) ∧ E.Sublist E') := by
 have hvt := total_valid (ls := ls.map CvS.cv) (fun c hc => by obtain ⟨x, hx, rfl⟩ := List.mem_map.1 hc; exact (hls x hx).2)
 have eA : allC L.cap (ls.map CvS.cv) = if (totalC (ls.map CvS.cv)).2 ≠ 0 then ((false, 0, 0), (totalC (ls.map CvS.cv)).2) else delayC (totalC (ls.map CvS.cv)).1 (lineC L.cap) := rfl
 refine fE 33 Tryz.func42 ?_
 refine zQ (zG ?_)
 refine zO fun b2 => ?_
 refine zA fun b4 => ?_
 refine zR 1 rfl (zN (zU (zQ (zG (zR 1 rfl ?_)))))
 refine WL.call en76 rfl rfl qD (CallOp.mkT rfl rfl rfl rfl) (PTotal_len hll hla hls w0 _) ?_
 rintro _ R2 E2 hR2 ⟨f, fc, rfl, hf, hsub⟩
 refine WL.subE hsub ?_
 generalize hq : totalC (ls.map CvS.cv) = q at hf hvt eA ⊢
 unfold cvV
 refine zR 3 rfl ?_
 refine zA fun b6 => ?_
 refine zE 0 ?_
 refine zR 1 rfl (zN (zU (zQ (zQ (zG (zR 2 rfl (zN (zU ?_))))))))
 refine cN rfl ?_ ?_ <;> intro hc0
 ·
  rw [if_pos hc0] at eA
  refine zQ (zG ?_)
  refine yW [] ?_
  refine zR 1 rfl ?_
  refine zE 1 ?_
  refine zR 1 rfl (zN (zU (zT (wt ?_))))
  refine zq4 (by first | exact hR2 | exact hR2.trans (hR3.trans hR4)) ?_
  exact ⟨by rw [eA]; rfl, qS⟩
 ·
  rw [if_neg (fun h => h hc0)] at eA
  refine zK (zU (zQ (zG (zR 1 rfl ?_))))
  refine yM 2 ?_
  refine WL.call en77 rfl rfl qD (CallOp.mkT rfl rfl rfl rfl) (Serve_ok (cap := L.cap) w0 hc _) ?_
  rintro _ _ E3 - ⟨g, rfl, rfl, hsub3⟩
  refine WL.subE hsub3 ?_
  refine WL.freeze (enc := encI) (xs := [0]) 0 rfl ?_
  intro R3 hR3 hg0
  refine zR 3 rfl ?_
  refine zA fun b8 => ?_
  refine zE 0 ?_
  refine zR 1 rfl (zN (zU (zQ (zQ (zG (zR 2 rfl (zN (zU ?_))))))))
  refine cN rfl ?_ ?_ <;> intro hc1
  ·
   exact absurd rfl hc1
  ·
   refine zK (zU (zQ (zG ?_)))
   refine yB 1 ?_
   refine yB 0 ?_
   refine WL.call en41 rfl rfl qD (CallOp.mkT rfl rfl rfl rfl) (DelayG_C (cf := q.1) (cg := lineC L.cap) (hvt hc0) (hf.mono hR3) (line_facts (cap := L.cap) ⟨by omega, by omega⟩).1.valid hg0 w0 _) ?_
   rintro _ R4 E4 hR4 ⟨rfl, hsub4⟩
   refine WL.subE hsub4 ?_
   refine zR 2 rfl ?_
   refine zE 2 ?_
   refine zR 1 rfl (zN (zU (zT ?_)))
   refine zq4 (by first | exact hR2 | exact hR2.trans (hR3.trans hR4)) ?_
   exact ⟨by rw [eA]; rfl, qS⟩

theorem CheckDef_V {R : Ro} {wa za : Option Addr} {wc zc : Nat} {w : List Int} {z : List Sz} (hwr : RS R 1 encI wa w) (hzr : RS R 2 encZ za z) {cap cls : Int} : FnV Tryz.prog 183 [.int .i64 cap, .int .i64 cls, .slice wa w.length wc, .slice za z.length zc] R (.int .i64 (chkW 6000 cap cls w z)) := by
 have hla := hzr.len
 have hlw := hwr.len
 refine Fn.toV (fun w0 E => ?_)
 have h18 := chk18_vals cap cls z
 refine fE 27 Tryz.func183 ?_
 refine zQ (zG (zR 1 rfl (zN (zU (zQ (zQ (zG (zR 3 rfl ?_))))))))
 refine WG.callV en49 rfl rfl qD (CallOp.mk' rfl rfl rfl rfl) (fun _ => rfl) (fun hg => CheckP_V hzr) ?_
 refine zR 1 rfl (zN (zU (zQ (zG (zR 2 rfl (zN (zU ?_)))))))
 refine cN rfl ?_ ?_ <;> intro hc0
 ·
  have e : chkW 6000 cap cls w z = 2 := if_pos hc0
  refine zQ (zG (zR 2 rfl (zN (zU (zT (wt ?_))))))
  refine sE (E := E) ?_
  refine zr1 ?_
  exact ⟨by rw [e, show chk18 cap cls z = 2 by omega]; rfl, rfl⟩
 ·
  refine zK (zU (zQ (zQ (zG (zR 6 rfl ?_)))))
  refine yP ?_
  refine WG.callV en188 rfl rfl qD (CallOp.mk' rfl rfl rfl rfl) qE (fun hg => Weighed20_V hwr) ?_
  refine yP ?_
  refine yO ?_
  refine zN (zU ?_)
  refine cC rfl ?_ ?_ <;> intro hc1
  ·try simp only [zk] at hc1
   have e : chkW 6000 cap cls w z = 2 := by unfold chkW; rw [if_neg (fun h => h hc0), if_pos (by rcases hc1 with h | h; exact .inl (by omega); exact .inr h)]
   refine zQ (zG (zR 1 rfl (zN (zU (zT (wt ?_))))))
   refine sE (E := E) ?_
   refine zr1 ?_
   exact ⟨by rw [e]; rfl, rfl⟩
  ·try simp only [zk] at hc1
   have e : chkW 6000 cap cls w z = 0 := by unfold chkW; rw [if_neg (fun h => h hc0), if_neg (by rintro (h | h) <;> first | omega | (simp_all; done))]
   refine zK (zU (zQ (zG (zR 1 rfl (zN (zU (zT ?_)))))))
   refine sE (E := E) ?_
   refine zr1 ?_
   exact ⟨by rw [e]; rfl, rfl⟩
theorem Check20_V {R : Ro} {wa za : Option Addr} {wc zc : Nat} {w : List Int} {z : List Sz} (hwr : RS R 1 encI wa w) (hzr : RS R 2 encZ za z) {cap cls : Int} : FnV Tryz.prog 65 [.int .i64 cap, .int .i64 cls, .slice wa w.length wc, .slice za z.length zc] R (.int .i64 (chkW 6000 cap cls w z)) := by
 have hla := hzr.len
 have hlw := hwr.len
 refine Fn.toV (fun w0 E => ?_)
 have h18 := chk18_vals cap cls z
 refine fE 26 Tryz.func65 ?_
 refine zQ (zG (zR 1 rfl (zN (zU (zQ (zQ (zG (zR 3 rfl ?_))))))))
 refine WG.callV en54 rfl rfl qD (CallOp.mk' rfl rfl rfl rfl) (fun _ => rfl) (fun hg => Check18_V hzr) ?_
 refine zR 2 rfl ?_
 refine yP ?_
 refine yP ?_
 refine yP ?_
 refine yP ?_
 refine yP ?_
 refine yO ?_
 refine zR 1 rfl ?_
 refine yP ?_
 refine WG.callV en97 rfl rfl qD (CallOp.mk' rfl rfl rfl rfl) qE (fun hg => Right20_V hwr) ?_
 refine yP ?_
 refine yO ?_
 refine zN (zU ?_)
 refine cC rfl ?_ ?_ <;> intro hc0
 ·try simp only [zk] at hc0
  have e : chkW 6000 cap cls w z = 2 := by
   unfold chkW
   rcases hc0 with (h | h) | h
   ·rw [if_pos h]
   ·split
    ·rfl
    ·rw [if_pos (.inl (by omega))]
   ·split
    ·rfl
    ·rw [if_pos (.inr h)]
  refine zQ (zG (zR 1 rfl (zN (zU (zT (wt ?_))))))
  refine sE (E := E) ?_
  refine zr1 ?_
  exact ⟨by rw [e]; rfl, rfl⟩
 ·try simp only [zk] at hc0
  have e : chkW 6000 cap cls w z = 0 := by unfold chkW; rw [if_neg (fun h => h hc0.1.1), if_neg (by rintro (h | h) <;> first | omega | (simp_all; done))]
  refine zK (zU (zQ (zG (zR 1 rfl (zN (zU (zT ?_)))))))
  refine sE (E := E) ?_
  refine zr1 ?_
  exact ⟨by rw [e]; rfl, rfl⟩
theorem Others20p_V {R : Ro} {wa za : Option Addr} {wc zc : Nat} {w : List Int} {z : List Sz} (hwr : RS R 1 encI wa w) (hzr : RS R 2 encZ za z) {cls : Int} (hw : ∀ x ∈ w, 1 ≤ x ∧ x ≤ 6000) (hz : ∀ s ∈ z, 0 ≤ s.least ∧ s.least ≤ s.most ∧ s.most ≤ 1500) (hwz : w.length = z.length) (hwl : z.length ≤ 6) : FnV Tryz.prog 184 [.int .i64 cls, .slice wa w.length wc, .slice za z.length zc] R (.tuple #[.int .i64 (xSum cls w z w.length), .int .i64 (zSum cls z w.length)]) := by
 have hla := hzr.len
 have hlw := hwr.len
 refine Fn.toV (fun w0 E => ?_)
 refine fE 42 Tryz.func184 ?_
 refine zQ (zG (zR 2 rfl (zN (zU (zQ (zQ (zG (zR 3 rfl (zN (zU (zB ?_)))))))))))
 refine W.loopK (β := Nat × Int × Int) (fun (i, x, y) => i ≤ w.length ∧ x = xSum cls w z i ∧ y = zSum cls z i) (fun (i, x, y) => [(6, true, .int .i64 x), (7, true, .int .i64 y), (12, true, .int .i64 (i : Int))]) [0, 2, 10, 11] [_, _, _, _] [] _ rfl (fun (i, x, y) => []) (fun (i, x, y) => w.length - i) ((0, 0, 0)) (⟨Nat.zero_le _, rfl, rfl⟩) ⟨rfl, rfl, rfl, rfl, rfl, rfl, rfl, rfl⟩ qS ?_
 intro st hst
 obtain ⟨i, x, y⟩ := st
 dsimp only [zipE, setAll, List.cons_append, List.nil_append, List.set_cons_zero, List.set_cons_succ]
 obtain ⟨hi, rfl, rfl⟩ := hst
 have hxb := xSum_bound (k := cls) (z := z) hw i (by omega)
 have hyb := zSum_bound (k := cls) hz i (by omega)
 refine zQ (zG (zR 1 rfl (zN (zU (zQ ?_)))))
 refine cD rfl ?_ ?_ <;> intro hc0
 ·
  have hil : i < w.length := by omega
  have hwi := hw _ (nth_mem hil)
  have hzi := hz _ (nth_mem (xs := z) (k := i) (by omega))
  refine zK (zU (zQ (zB (zQ (zG (zR 1 rfl ?_))))))
  refine yI ?_
  refine yD (r := by ((apply RS.rdD; assumption; ((try dsimp only) <;> omega)))) (k := ?_)
  refine zR 2 rfl (zN (zU (zQ (zG (zR 4 rfl ?_)))))
  refine yP ?_
  refine yP ?_
  refine gI ?_
  refine yP ?_
  refine yJ (r := by apply Rd.addC; ((apply RS.rdC; assumption))) (k := ?_)
  refine yP ?_
  refine yN ?_
  refine zN (zU ?_)
  refine cC rfl ?_ ?_ <;> intro hc1
  ·try simp only [zk] at hc1
   have hx1 : xSum cls w z (i + 1) = xSum cls w z i + nth w i := by simp only [xSum]; rw [if_pos hc1]
   have hy1 : zSum cls z (i + 1) = zSum cls z i + ((nth z i).most - 1) := by simp only [zSum]; rw [if_pos hc1]
   refine zQ (zG (zR 2 rfl ?_))
   refine yA ?_
   refine zR 1 rfl (zN (zU (zG (zR 3 rfl ?_))))
   refine yI ?_
   refine zR 1 rfl ?_
   refine yD (r := by apply Rd.add; ((apply RS.rdD; assumption; ((try dsimp only) <;> omega)))) (k := ?_)
   refine yS ?_
   refine yA ?_
   refine zR 1 rfl (zN (zL (zU (zG ?_))))
   refine yA ?_
   refine zR 1 rfl (zN ?_)
   refine WE.again ((i + 1, xSum cls w z i + nth w i, zSum cls z i + ((nth z i).most - 1))) (⟨by dsimp only; omega, by dsimp only; rw [hx1], by dsimp only; rw [hy1]; try omega⟩) (by (try dsimp only); omega) ⟨rfl, rfl, rfl, rfl, rfl, rfl, rfl, rfl⟩ (RLe.refl _) qS
  ·try simp only [zk] at hc1
   have hno : ¬ ((i : Int) ≠ cls ∧ 1 ≤ (nth z i).most) := by rintro ⟨a1, a2⟩; have := hc1 a1; omega
   have hx1 : xSum cls w z (i + 1) = xSum cls w z i := by simp only [xSum]; rw [if_neg hno]; omega
   have hy1 : zSum cls z (i + 1) = zSum cls z i := by simp only [zSum]; rw [if_neg hno]; omega
   refine zK (zL (zU (zG ?_)))
   refine yA ?_
   refine zR 1 rfl (zN ?_)
   refine WE.again ((i + 1, xSum cls w z i, zSum cls z i)) (⟨by dsimp only; omega, by dsimp only; rw [hx1], by dsimp only; rw [hy1]⟩) (by (try dsimp only); omega) ⟨rfl, rfl, rfl, rfl, rfl, rfl, rfl, rfl⟩ (RLe.refl _) qS
 ·
  obtain rfl : i = w.length := by omega
  refine zX ?_
  refine wx (wx (zY (zU (zQ (zG (zR 4 rfl (zN (zU (zT ?_)))))))))
  refine sE (E := E) ?_
  refine zr2 ?_
  exact ⟨rfl, rfl⟩
theorem Sums20_V {R : Ro} {wa za : Option Addr} {wc zc : Nat} {w : List Int} {z : List Sz} (hwr : RS R 1 encI wa w) (hzr : RS R 2 encZ za z) {cls : Int} (hw : ∀ x ∈ w, 1 ≤ x ∧ x ≤ 6000) (hz : ∀ s ∈ z, 0 ≤ s.least ∧ s.least ≤ s.most ∧ s.most ≤ 1500) (hwz : w.length = z.length) (hwl : z.length ≤ 6) : FnV Tryz.prog 66 [.int .i64 cls, .slice wa w.length wc, .slice za z.length zc] R (.tuple #[.int .i64 (xSum cls w z w.length), .int .i64 (zSum cls z w.length)]) := by
 have hla := hzr.len
 have hlw := hwr.len
 refine Fn.toV (fun w0 E => ?_)
 refine fE 44 Tryz.func66 ?_
 refine zQ (zG (zR 2 rfl (zN (zU (zQ (zG (zR 2 rfl (zN (zU (zQ (zQ (zG (zR 1 rfl (zN (zU (zB ?_))))))))))))))))
 refine W.loopK (β := Nat × Int × Int) (fun (i, x, y) => i ≤ w.length ∧ x = xSum cls w z i ∧ y = zSum cls z i) (fun (i, x, y) => [(8, true, .int .i64 x), (9, true, .int .i64 y), (10, true, .int .i64 (i : Int))]) [0, 1, 2] [_, _, _] [] _ rfl (fun (i, x, y) => []) (fun (i, x, y) => w.length - i) ((0, 0, 0)) (⟨Nat.zero_le _, rfl, rfl⟩) ⟨rfl, rfl, rfl, rfl, rfl, rfl, rfl⟩ qS ?_
 intro st hst
 obtain ⟨i, x, y⟩ := st
 dsimp only [zipE, setAll, List.cons_append, List.nil_append, List.set_cons_zero, List.set_cons_succ]
 obtain ⟨hi, rfl, rfl⟩ := hst
 have hxb := xSum_bound (k := cls) (z := z) hw i (by omega)
 have hyb := zSum_bound (k := cls) hz i (by omega)
 refine zQ (zQ (zG (zR 4 rfl (zN (zU ?_)))))
 refine cD rfl ?_ ?_ <;> intro hc0
 ·
  have hil : i < w.length := by omega
  have hwi := hw _ (nth_mem hil)
  have hzi := hz _ (nth_mem (xs := z) (k := i) (by omega))
  refine zK (zU (zQ (zB (zQ (zG (zR 4 rfl ?_))))))
  refine yP ?_
  refine yP ?_
  refine gI ?_
  refine yP ?_
  refine yJ (r := by apply Rd.addC; ((apply RS.rdC; assumption))) (k := ?_)
  refine yP ?_
  refine yN ?_
  refine zN (zU ?_)
  refine cC rfl ?_ ?_ <;> intro hc1
  ·try simp only [zk] at hc1
   have hx1 : xSum cls w z (i + 1) = xSum cls w z i + nth w i := by simp only [xSum]; rw [if_pos hc1]
   have hy1 : zSum cls z (i + 1) = zSum cls z i + ((nth z i).most - 1) := by simp only [zSum]; rw [if_pos hc1]
   refine W.regionQ _ mixed qK ?_
   refine zR 3 rfl ?_
   refine yI ?_
   refine yD (r := by ((apply RS.rdD; assumption; ((try dsimp only) <;> omega)))) (k := ?_)
   refine yA ?_
   refine zR 3 rfl ?_
   refine yI ?_
   refine zR 1 rfl ?_
   refine yD (r := by apply Rd.add; ((apply RS.rdD; assumption; ((try dsimp only) <;> omega)))) (k := ?_)
   refine yA ?_
   refine yS ?_
   refine zR 2 rfl (zN (zL (zU (zG (zR 1 rfl ?_)))))
   refine yA ?_
   refine zR 1 rfl (zN ?_)
   refine WE.again ((i + 1, xSum cls w z i + nth w i, zSum cls z i + (nth z i).most - 1)) (⟨by dsimp only; omega, by dsimp only; rw [hx1], by dsimp only; rw [hy1]; try omega⟩) (by (try dsimp only); omega) ⟨rfl, rfl, rfl, rfl, rfl, rfl, rfl⟩ (RLe.refl _) qS
  ·try simp only [zk] at hc1
   have hno : ¬ ((i : Int) ≠ cls ∧ 1 ≤ (nth z i).most) := by rintro ⟨a1, a2⟩; have := hc1 a1; omega
   have hx1 : xSum cls w z (i + 1) = xSum cls w z i := by simp only [xSum]; rw [if_neg hno]; omega
   have hy1 : zSum cls z (i + 1) = zSum cls z i := by simp only [zSum]; rw [if_neg hno]; omega
   refine zK (zL (zU (zG (zR 1 rfl ?_))))
   refine yA ?_
   refine zR 1 rfl (zN ?_)
   refine WE.again ((i + 1, xSum cls w z i, zSum cls z i)) (⟨by dsimp only; omega, by dsimp only; rw [hx1], by dsimp only; rw [hy1]⟩) (by (try dsimp only); omega) ⟨rfl, rfl, rfl, rfl, rfl, rfl, rfl⟩ (RLe.refl _) qS
 ·
  obtain rfl : i = w.length := by omega
  refine zX ?_
  refine wx (wx (zY (zU (zQ (zG (zR 4 rfl (zN (zU (zT ?_)))))))))
  refine sE (E := E) ?_
  refine zr2 ?_
  exact ⟨rfl, rfl⟩
theorem CurveDA_V {R : Ro} {b1 b2 b3 b4 : Nat} {s q l z y : Int} (h1 : R b1 = some [.int .i64 s]) (h2 : R b2 = some [.int .i64 q]) (h3 : R b3 = some [.int .i64 l]) (h4 : R b4 = some [.int .i64 z]) (hq : 1 ≤ q ∧ q ≤ s) (hs : s ≤ 480000) (hl : 1 ≤ l ∧ l ≤ 1500) (hz : 0 ≤ z ∧ z ≤ 9000) (hy : -1 ≤ y ∧ y ≤ 100000000) (hy2 : 0 ≤ y + l - 1) : FnV Tryz.prog 185 [.int .i64 y, .pointer (some ⟨b1, 0, none⟩), .pointer (some ⟨b2, 0, none⟩), .pointer (some ⟨b3, 0, none⟩), .pointer (some ⟨b4, 0, none⟩)] R (.int .i64 (allD s q l z y)) := by
 refine Fn.toV (fun w0 E => ?_)
 have hq0 : 0 ≤ (y + l - 1) / q := Int.ediv_nonneg (by omega) (by omega)
 have hq1 : (y + l - 1) / q ≤ y + l - 1 := Int.ediv_le_self _ (by omega)
 have hp1 := mulB (a := s - q) (b := (y + l - 1) / q + 1) (A := 480000) (B := 100010001) (by omega) (by omega)
 refine fE 22 Tryz.func185 ?_
 refine zQ (zG (zR 1 rfl (zN (zU (zQ ?_)))))
 refine W.regionQ _ mixed qK ?_
 refine zR 1 rfl ?_
 refine yD (r := by (exact Rd.ro qU)) (k := ?_)
 refine yD (r := by (exact Rd.ro qU)) (k := ?_)
 refine yS ?_
 refine zR 1 rfl ?_
 refine yD (r := by (exact Rd.ro qU)) (k := ?_)
 refine yA ?_
 refine yS ?_
 refine yD (r := by (exact Rd.ro qU)) (k := ?_)
 refine yV ?_
 refine yA ?_
 refine yU ?_
 refine yA ?_
 refine yD (r := by (exact Rd.ro qU)) (k := ?_)
 refine yA ?_
 refine zR 1 rfl (zN (zU (zT ?_)))
 refine sE (E := E) ?_
 refine zr1 ?_
 exact ⟨rfl, rfl⟩
theorem CurveDH_V {R : Ro} {b1 b2 b3 b4 b5 b6 b7 : Nat} {cap s q l z : Int} {t y : Nat} (h1 : R b1 = some [.int .i64 s]) (h2 : R b2 = some [.int .i64 q]) (h3 : R b3 = some [.int .i64 l]) (h4 : R b4 = some [.int .i64 z]) (h5 : R b5 = some [.func (.func 185) #[] #[.pointer (some ⟨b1, 0, none⟩), .pointer (some ⟨b2, 0, none⟩), .pointer (some ⟨b3, 0, none⟩), .pointer (some ⟨b4, 0, none⟩)]]) (h6 : R b6 = some [.int .i64 cap]) (h7 : R b7 = some [.int .i64 (t : Int)]) (hc : 0 ≤ cap ∧ cap ≤ 4000) (hq : 1 ≤ q ∧ q ≤ s) (hs : s ≤ 480000) (hl : 1 ≤ l ∧ l ≤ 1500) (hz : 0 ≤ z ∧ z ≤ 9000) (ht : t ≤ 1000) (hy : y ≤ 100000000) : FnV Tryz.prog 187 [.int .i64 (y : Int), .pointer (some ⟨b5, 0, none⟩), .pointer (some ⟨b6, 0, none⟩), .pointer (some ⟨b7, 0, none⟩)] R (.bool (defH cap s q l z t y)) := by
 refine Fn.toV (fun w0 E => ?_)
 have hp2 := mulB (a := cap) (b := (t : Int)) (A := 4000) (B := 1000) (by omega) (by omega)
 refine fE 13 Tryz.func187 ?_
 refine zQ (zG (zR 1 rfl (zN (zU (zQ ?_)))))
 refine W.regionQ _ mixed qK ?_
 refine yD (r := by (exact Rd.ro qU)) (k := ?_)
 refine zR 1 rfl ?_
 refine WG.callV (v := .int .i64 (allD s q l z (y : Int))) en185 rfl rfl qD (CallOp.mk' rfl rfl rfl rfl) (fun _ => rfl) (fun hg => CurveDA_V h1 h2 h3 h4 hq hs hl hz ⟨by omega, by omega⟩ qO) ?_
 refine yD (r := by (exact Rd.ro qU)) (k := ?_)
 refine yD (r := by (exact Rd.ro qU)) (k := ?_)
 refine yU ?_
 refine zR 2 rfl (zN (zU (zT ?_)))
 refine sE (E := E) ?_
 refine zr1 ?_
 exact ⟨rfl, rfl⟩
theorem CurveDG_V {R : Ro} {e1 e2 e3 e4 e5 e6 : Nat} {cap s q l z : Int} {t : Nat} (h1 : R e1 = some [.int .i64 s]) (h2 : R e2 = some [.int .i64 q]) (h3 : R e3 = some [.int .i64 l]) (h4 : R e4 = some [.int .i64 z]) (h5 : R e5 = some [.func (.func 185) #[] #[.pointer (some ⟨e1, 0, none⟩), .pointer (some ⟨e2, 0, none⟩), .pointer (some ⟨e3, 0, none⟩), .pointer (some ⟨e4, 0, none⟩)]]) (h6 : R e6 = some [.int .i64 cap]) (hc : 0 ≤ cap ∧ cap ≤ 4000) (hq : 1 ≤ q ∧ q ≤ s) (hs : s ≤ 480000) (hl : 1 ≤ l ∧ l ≤ 1500) (hz : 0 ≤ z ∧ z ≤ 9000) (ht : t ≤ 1000) : FnV Tryz.prog 186 [.int .i64 (t : Int), .pointer (some ⟨e5, 0, none⟩), .pointer (some ⟨e6, 0, none⟩)] R (.int .i64 (defFn cap s q l z t)) := by
 refine Fn.toVS (fun w0 E => ?_)
 have hp2 := mulB (a := cap) (b := (t : Int)) (A := 4000) (B := 1000) (by omega) (by omega)
 refine fE 7 Tryz.func186 ?_
 refine zQ (zG ?_)
 refine zO fun b3 => ?_
 refine zR 1 rfl ?_
 refine WL.freezeBlk 0 rfl ?_
 intro R1 hR1 hb7
 have h1 := hR1 _ _ h1
 have h2 := hR1 _ _ h2
 have h3 := hR1 _ _ h3
 have h4 := hR1 _ _ h4
 have h5 := hR1 _ _ h5
 have h6 := hR1 _ _ h6
 generalize hbd : (cap * (t : Int)).toNat = bd
 have hbd4 : bd ≤ 4000000 := by omega
 have hHb : defH cap s q l z t bd = true := by rw [← hbd]; exact defH_bound (by omega) hq.2 hl.1 hz.1 t hc.1
 have hF : ∀ y : Nat, y ≤ 2 * bd + 1 → FnV Tryz.prog 187 ((#[] : Array Value).toList ++ [.int .i64 (y : Int)] ++ (#[.pointer (some ⟨e5, 0, none⟩), .pointer (some ⟨e6, 0, none⟩), .pointer (some ⟨b3, 0, none⟩)] : Array Value).toList) R1 (.bool (defH cap s q l z t y)) := fun y hy => CurveDH_V h1 h2 h3 h4 h5 h6 hb7 hc hq hs hl hz ht (by omega)
 refine zN (zU (zQ (zG (zR 1 rfl ?_))))
 refine WG.callV en173 rfl rfl qD (CallOp.mk' rfl rfl rfl rfl) (fun _ => rfl) (fun hg => FirstH_V (H := defH cap s q l z t) (b := bd) en187 qO hHb (fun y y' h hy => defH_mono qO hq.2 h hy) hF) ?_
 refine zR 1 rfl (zN (zU (zT ?_)))
 refine zq1 (hR1) ?_
 exact ⟨by subst hbd; rfl, qS⟩

theorem CurveDef_C {R : Ro} {wa za : Option Addr} {wc zc : Nat} {w : List Int} {z : List Sz} (hwr : RS R 1 encI wa w) (hzr : RS R 2 encZ za z) {cap cls : Int} (w0 : World) (E : List Ent) : K.Fn Tryz.prog 181 [.int .i64 cap, .int .i64 cls, .slice wa w.length wc, .slice za z.length zc] w0 R E (fun r R' E' => ∃ (f : Option Addr) (fc : Nat), r = cvV f fc (defC cap cls w z) ∧ RS R' 1 encI f (defC cap cls w z).1.vals ∧ E.Sublist E') := by
 have hla := hzr.len
 have hlw := hwr.len
 refine fE 97 Tryz.func181 ?_
 refine zQ (zG ?_)
 refine zO fun b4 => ?_
 refine zA fun b8 => ?_
 refine zR 1 rfl (zN (zU (zQ (zQ (zG ?_)))))
 refine yB 1 ?_
 refine zR 3 rfl ?_
 refine WG.callV en183 rfl rfl qD (CallOp.mk' rfl rfl rfl rfl) (fun _ => rfl) (fun hg => CheckDef_V hwr hzr) ?_
 refine zR 1 rfl (zN (zU (zQ (zG (zR 2 rfl (zN (zU ?_)))))))
 refine cN rfl ?_ ?_ <;> intro hc0
 ·
  have hdef : defC cap cls w z = (zcv, chkW 6000 cap cls w z) := if_pos hc0
  refine zQ (zG ?_)
  refine yW [] ?_
  refine zR 1 rfl ?_
  refine zE 0 ?_
  refine zR 1 rfl (zN (zU (zT (wt ?_))))
  refine zq4 (by first | exact hRa.trans (hRb.trans (hRc.trans (hRu.trans (hRe.trans (hRf.trans hR4))))) | exact RLe.refl _ | exact hRa.trans (hRb.trans (hRc.trans (hRu.trans (hRe.trans hRf))))) ?_
  exact ⟨none, 0, by rw [hdef]; rfl, by rw [hdef]; exact rs_nil, qS⟩
 ·
  obtain ⟨_, _, hk1, hk2, _, hk4, _⟩ := chkW_ok hc0
  refine zK (zU (zQ (zQ (zG (zR 2 rfl ?_)))))
  refine yX ?_
  refine zR 1 rfl ?_
  refine yD (r := by apply Rd.add; ((apply RS.rdD; assumption; ((try dsimp only) <;> omega)))) (k := ?_)
  refine zR 1 rfl (zN (zU ?_))
  refine cD rfl ?_ ?_ <;> intro hc1
  ·
   have hdef : defC cap cls w z = (zcv, 5) := by unfold defC; rw [if_neg (fun h => h hc0), if_pos hc1]
   refine zQ (zG ?_)
   refine yW [] ?_
   refine zE 0 ?_
   refine zR 1 rfl (zN (zU (zT (wt ?_))))
   refine zq4 (by first | exact hRa.trans (hRb.trans (hRc.trans (hRu.trans (hRe.trans (hRf.trans hR4))))) | exact RLe.refl _ | exact hRa.trans (hRb.trans (hRc.trans (hRu.trans (hRe.trans hRf))))) ?_
   exact ⟨none, 0, by rw [hdef]; rfl, by rw [hdef]; exact rs_nil, qS⟩
  ·
   obtain ⟨cn, kn, m, q, l, x, y, rfl, rfl, c1, k1, zl, hwl, hw, hz, hq, hl, q1, l1, hx, hy, x1, y1, hm, m1, hcase⟩ := def_cases hc0 (by omega)
   refine zK (zU ?_)
   refine W.seqCut (β := Nat × Nat × Int × Int) (fun (b11, b12, q', l') => q = q' ∧ l = l') (fun (b11, b12, q', l') => [(1, true, .int .i64 (kn : Int)), (2, true, .slice wa w.length wc), (3, true, .slice za z.length zc), (4, true, .pointer (some ⟨b4, 0, none⟩)), (8, true, .pointer (some ⟨b8, 0, none⟩)), (11, true, .pointer (some ⟨b11, 0, none⟩)), (12, true, .pointer (some ⟨b12, 0, none⟩))]) (fun _ => R) (fun (b11, b12, q', l') => .blk b11 [.int .i64 q'] :: .blk b12 [.int .i64 l'] :: .blk b8 [.slice none 0 0, .int .i64 0, .int .i64 0] :: .blk b4 [.int .i64 (cn : Int)] :: E) ?_ ?_
   ·
    intro st hst
    obtain ⟨b11, b12, q', l'⟩ := st
    obtain ⟨rfl, rfl⟩ := hst
    dsimp only
    refine zQ (zG (zR 3 rfl ?_))
    refine WG.callV (v := .tuple #[.int .i64 x, .int .i64 y]) en184 rfl rfl (by decide) (CallOp.mk' rfl rfl rfl rfl) (fun _ => rfl) (fun hg => by rw [hx, hy]; exact Others20p_V hwr hzr hw hz hwl (by omega)) ?_
    refine zR 3 rfl ?_
    refine zA fun b14 => ?_
    refine zR 1 rfl ?_
    refine zE 0 ?_
    refine zN (zU (zQ (zG ?_)))
    refine yB 1 ?_
    refine zR 1 rfl ?_
    refine yA ?_
    refine yB 4 ?_
    refine WG.callV (v := rvR (shortN m cn) cn) en171 rfl rfl (by decide) (CallOp.mk' rfl rfl rfl rfl) (fun _ => rfl) (fun hg => by rw [← hm]; exact Rounds_V (by omega) (by omega)) ?_
    refine zR 4 rfl ?_
    refine zA fun b15 => ?_
    refine zE 0 ?_
    refine zR 2 rfl (zN (zU (zQ (zQ (zG (zR 2 rfl (zN (zU ?_))))))))
    refine cC rfl ?_ ?_ <;> intro hc2
    ·try simp only [zk] at hc2
     have hdef : defC cn kn w z = (zcv, 3) := by
      rcases hcase with ⟨_, h⟩ | ⟨s, p, mm, hro, _⟩
      ·exact h
      ·rw [hro.hs] at hc2; omega
     refine zQ (zG ?_)
     refine yW [] ?_
     refine zE 4 ?_
     refine zR 1 rfl (zN (zU (zT (wt ?_))))
     refine zq4 (by first | exact hRa.trans (hRb.trans (hRc.trans (hRu.trans (hRe.trans (hRf.trans hR4))))) | exact RLe.refl _ | exact hRa.trans (hRb.trans (hRc.trans (hRu.trans (hRe.trans hRf))))) ?_
     exact ⟨none, 0, by rw [hdef]; rfl, by rw [hdef]; exact rs_nil, qS⟩
    ·try simp only [zk] at hc2
     refine zK (zU ?_)
     obtain ⟨s, p, mm, hro, hdef⟩ : ∃ s p mm, DefOk cn kn w z cn kn m s p mm q l x y ∧ defC cn kn w z = if 400 < fromD cn s q l y then (zcv, 3) else madeR ⟨fvals (defFn cn s q l y) ((fromD cn s q l y).toNat + p), p, (cn : Int) * p / s * q⟩ := by
      rcases hcase with ⟨h, _⟩ | h
      ·exact absurd h hc2
      ·exact h
     have hsn := hro.hs
     have hne : ¬ ((s : Int) = -1) := by omega
     have hs1 := hro.s1
     have hsx := hro.sx
     have hp1 := hro.p1
     have hsb : (s : Int) ≤ 480000 := by omega
     obtain ⟨hst0, hst1, hst2⟩ := start_bound (cap := (cn : Int)) (s := (s : Int)) (q := q) (l := l) (z := y) (by omega) (by omega) (by omega) (by omega) (by omega)
     have hFb : ∀ t : Nat, t ≤ 1000 → 0 ≤ defFn cn s q l y t ∧ defFn cn s q l y t ≤ 4000000 := fun t ht => by
      have h1 := defFn_bound (cap := (cn : Int)) (s := (s : Int)) (q := q) (l := l) (z := y) (by omega) (by omega) (by omega) (by omega) (by omega) t
      have h2 := mulB (a := (cn : Int)) (b := (t : Int)) (A := 4000) (B := 1000) (by omega) (by omega)
      omega
     have hinc : 0 ≤ (cn : Int) * p / s * q ∧ (cn : Int) * p / s * q ≤ 24000000 := by
      rw [hro.hinc]
      have := hro.mm1
      have := mulB (a := (mm : Int)) (b := q) (A := 4000) (B := 6000) (by omega) (by omega)
      omega
     have hcp := mulB (a := (cn : Int)) (b := (p : Int)) (A := 4000) (B := 120) (by omega) (by omega)
     have hcq : 0 ≤ (cn : Int) * p / s := Int.ediv_nonneg (by omega) (by omega)
     have hcq2 : (cn : Int) * p / s ≤ (cn : Int) * p := Int.ediv_le_self _ (by omega)
     rw [hsn, if_neg hne, if_neg hne, Int.toNat_natCast, ← hro.hp]
     refine zQ (zG ?_)
     refine WG.y rfl rfl qD (Yl.makeFunc (fi := []) (ca := [.tmp 15, .tmp 11, .tmp 12, .tmp 14]) rfl rfl rfl (fun _ => rfl)) ?_
     refine zA fun b18 => ?_
     refine zE 0 ?_
     refine zN (zU ?_)
     refine W.freezeBlk 0 rfl ?_
     intro Ra hRa hb18
     refine W.freezeBlk 0 rfl ?_
     intro Rb hRb hb15
     have hb18 := hRb _ _ hb18
     refine W.freezeBlk 0 rfl ?_
     intro Rc hRc hb14
     have hb18 := hRc _ _ hb18
     have hb15 := hRc _ _ hb15
     refine W.freezeBlk 0 rfl ?_
     intro Ru hRu hb11
     have hb18 := hRu _ _ hb18
     have hb15 := hRu _ _ hb15
     have hb14 := hRu _ _ hb14
     refine W.freezeBlk 0 rfl ?_
     intro Re hRe hb12
     have hb18 := hRe _ _ hb18
     have hb15 := hRe _ _ hb15
     have hb14 := hRe _ _ hb14
     have hb11 := hRe _ _ hb11
     refine W.freezeBlk 1 rfl ?_
     intro Rf hRf hb4
     have hb18 := hRf _ _ hb18
     have hb15 := hRf _ _ hb15
     have hb14 := hRf _ _ hb14
     have hb11 := hRf _ _ hb11
     have hb12 := hRf _ _ hb12
     have hF : ∀ t : Nat, t ≤ 1000 → FnV Tryz.prog 186 ((#[] : Array Value).toList ++ [.int .i64 (t : Int)] ++ (#[.pointer (some ⟨b18, 0, none⟩), .pointer (some ⟨b4, 0, none⟩)] : Array Value).toList) Rf (.int .i64 (defFn cn s q l y t)) := fun t ht => CurveDG_V hb15 hb11 hb12 hb14 hb18 hb4 (by omega) (by omega) hsb l1 y1 ht
     refine zQ (zG (zR 1 rfl (zN (zU ?_))))
     refine W.seqCut (β := Int) (fun st0 => st0 = startD cn s q l y) (fun st0 => [(4, true, .pointer (some ⟨b4, 0, none⟩)), (8, true, .pointer (some ⟨b8, 0, none⟩)), (11, true, .pointer (some ⟨b11, 0, none⟩)), (15, true, .pointer (some ⟨b15, 0, none⟩)), (16, true, .int .i64 (p : Int)), (18, true, .pointer (some ⟨b18, 0, none⟩)), (19, true, .int .i64 st0)]) (fun _ => Rf) (fun _ => .blk b8 [.slice none 0 0, .int .i64 0, .int .i64 0] :: E) ?_ ?_
     ·
      intro st0 hst
      obtain ⟨S, hS⟩ := Int.eq_ofNat_of_zero_le (show 0 ≤ st0 by omega)
      subst hS
      refine zQ (zQ (zG (zR 2 rfl (zN (zU ?_)))))
      refine cD rfl ?_ ?_ <;> intro hc3
      ·
       have hdef : defC cn kn w z = (zcv, 3) := by rw [hdef, if_pos (by omega)]
       refine zQ (zG ?_)
       refine yW [] ?_
       refine zE 0 ?_
       refine zR 1 rfl (zN (zU (zT (wt ?_))))
       refine zq4 (by first | exact hRa.trans (hRb.trans (hRc.trans (hRu.trans (hRe.trans (hRf.trans hR4))))) | exact RLe.refl _ | exact hRa.trans (hRb.trans (hRc.trans (hRu.trans (hRe.trans hRf))))) ?_
       exact ⟨none, 0, by rw [hdef]; rfl, by rw [hdef]; exact rs_nil, qS⟩
      ·
       have hF : ∀ t : Nat, t < S + p → FnV Tryz.prog 186 ((#[] : Array Value).toList ++ [.int .i64 (t : Int)] ++ (#[.pointer (some ⟨b18, 0, none⟩), .pointer (some ⟨b4, 0, none⟩)] : Array Value).toList) Rf (.int .i64 (defFn cn s q l y t)) := fun t ht => hF t (by omega)
       refine zK (zU (zQ (zG (zR 2 rfl (zN (zU (zQ ?_)))))))
       refine W.regionH _ (ES := []) mixed ?_
       refine tP 0 ?_
       refine tP 1 ?_
       refine tP 2 ?_
       refine tD 3 (r := by (exact Rd.ro qU)) (k := ?_)
       refine tP 4 ?_
       refine WA.take 5 rfl qK qK qK rfl rfl qD (Yl.mul rfl rfl rfl (fun _ => rfl) qA) qS qR ?_
       refine tD 6 (r := by (exact Rd.ro qU)) (k := ?_)
       refine WA.take 7 rfl qK qK qK rfl rfl qD (Yl.quo rfl rfl rfl (fun _ => rfl) qA (by intro _; omega)) qS qR ?_
       refine tD 8 (r := by (exact Rd.ro qU)) (k := ?_)
       refine WA.take 9 rfl qK qK qK rfl rfl qD (Yl.mul rfl rfl rfl (fun _ => rfl) qA) qS qR ?_
       refine WA.callG 10 rfl qK en111 rfl (by first | rfl | decide) rfl qD (CallOp.mkT rfl rfl rfl rfl) (Build_C (S := S) (P := p) (F := (defFn (cn : Int) (s : Int) q l y)) en186 qO qO qO (fun t ht => .inr (by have := hFb t qO; omega)) hF w0 _) ?_
       rintro _ R4 E4 hR4 ⟨f, fc, rfl, hf, hsub⟩
       refine ⟨hR4, List.nil_sublist _, ?_⟩
       refine WA.subE hsub ?_
       have hbm : mbuild (defFn cn s q l y) S p ((cn : Int) * p / s * q) = defC cn kn w z := by
        rw [hdef, hro.hinc, show S = (startD (cn : Int) (s : Int) q l y).toNat by omega]
        exact def_build qO qO qO qO qO qO hro.hmm qO
       rw [hbm] at hf ⊢
       unfold cvV
       refine tP 11 ?_
       refine tP 12 ?_
       refine zCE 13 0 ?_
       refine tP 14 ?_
       refine WA.done qK ?_
       refine zU (zT ?_)
       refine zq4 (by first | exact hRa.trans (hRb.trans (hRc.trans (hRu.trans (hRe.trans (hRf.trans hR4))))) | exact RLe.refl _ | exact hRa.trans (hRb.trans (hRc.trans (hRu.trans (hRe.trans hRf))))) ?_
       exact ⟨f, fc, rfl, hf, qS⟩
     ·
      refine zQ (zG ?_)
      refine yD (r := by (exact Rd.ro qU)) (k := ?_)
      refine zR 1 rfl (zN (zU ?_))
      refine cD rfl ?_ ?_ <;> intro hc4
      ·
       have e19 : (allD s q l y (-1)).tdiv cn + 1 = startD cn s q l y := (if_pos hc4).symm
       have hA1 := allD_ge (s := (s : Int)) (q := q) (l := l) (z := y) (y := -1) (by omega) (by omega) (by omega) (by omega)
       have hA2 : allD s q l y (-1) ≤ 2000000000 := by
        unfold allD
        have hq0 : 0 ≤ (-1 + l - 1) / q := Int.ediv_nonneg (by omega) (by omega)
        have hq1 : (-1 + l - 1) / q ≤ -1 + l - 1 := Int.ediv_le_self _ (by omega)
        have := mulB (a := (s : Int) - q) (b := (-1 + l - 1) / q + 1) (A := 480000) (B := 1501) (by omega) (by omega)
        omega
       have hA3 : ((allD s q l y (-1)).tdiv cn).natAbs ≤ (allD s q l y (-1)).natAbs := by rw [Int.natAbs_tdiv]; exact Nat.div_le_self _ _
       refine W.regionQ _ mixed qK ?_
       refine yD (r := by (exact Rd.ro qU)) (k := ?_)
       refine WG.callV (v := .int .i64 (allD s q l y (-1))) en185 rfl rfl qD (CallOp.mk' rfl rfl rfl rfl) (fun _ => rfl) (fun hg => CurveDA_V hb15 hb11 hb12 hb14 qO hsb l1 y1 ⟨by omega, by omega⟩ qO) ?_
       refine yD (r := by (exact Rd.ro qU)) (k := ?_)
       refine WG.y rfl rfl qD (Yl.tquo rfl rfl rfl (fun _ => rfl) qA (by intro _; omega)) ?_
       refine yA ?_
       refine zR 1 rfl (zN ?_)
       refine WE.cut _ e19 ⟨rfl, rfl, rfl, rfl, rfl, rfl, rfl, rfl⟩ (RLe.refl _) qS
      ·
       refine zQ (zG ?_)
       refine yD (r := by (exact Rd.ro qU)) (k := ?_)
       refine zR 1 rfl (zN (zU ?_))
       refine cD rfl ?_ ?_ <;> intro hc5
       ·
        have e19 : (y - 1) / cn + 1 = startD cn s q l y := by unfold startD; rw [if_neg (by omega), if_pos hc5]
        have hA3 : (y - 1) / (cn : Int) ≤ y - 1 := Int.ediv_le_self _ (by omega)
        have hA4 : 0 ≤ (y - 1) / (cn : Int) := Int.ediv_nonneg (by omega) (by omega)
        refine zG ?_
        refine yD (r := by (exact Rd.ro qU)) (k := ?_)
        refine yS ?_
        refine yD (r := by (exact Rd.ro qU)) (k := ?_)
        refine yV ?_
        refine yA ?_
        refine zR 1 rfl (zN ?_)
        refine WE.cut _ e19 ⟨rfl, rfl, rfl, rfl, rfl, rfl, rfl, rfl⟩ (RLe.refl _) qS
       ·
        have e19 : 0 = startD cn s q l y := by unfold startD; rw [if_neg (by omega), if_neg (by omega)]
        refine zK ?_
        refine WE.cut (0 : Int) e19 ⟨rfl, rfl, rfl, rfl, rfl, rfl, rfl, rfl⟩ (RLe.refl _) qS
   ·
    refine W.regionH _ (ES := [.blk b8 [.slice none 0 0, .int .i64 0, .int .i64 0]]) mixed ?_
    refine tP 0 ?_
    refine tP 1 ?_
    refine tX 2 ?_
    refine tD 3 (r := by ((apply RS.rdD; assumption; ((try dsimp only) <;> omega)))) (k := ?_)
    refine tP 4 ?_
    refine tP 5 ?_
    refine tX 6 ?_
    refine tP 7 ?_
    refine tD 8 (r := by apply Rd.add; ((apply RS.rdD; assumption; ((try dsimp only) <;> omega)))) (k := ?_)
    refine WA.br2 (i := 9) (j := 10) qK ?_ ?_
    ·
     refine WS.eff rfl rfl rfl qD (Ef.alloc tab_ok rfl rfl (fun b11 => ?_))
     refine ⟨qR, qS, ?_⟩
     refine WA.eff 10 rfl qK rfl rfl qD (Ef.alloc tab_ok rfl rfl (fun b12 => ?_))
     refine ⟨qR, qS, ?_⟩
     refine zCE 11 1 ?_
     refine zCE 12 0 ?_
     refine WA.done qK ?_
     refine WE.cutP (b11, b12, nth w kn, (nth z kn).most) ⟨hq, hl⟩ ⟨rfl, rfl, rfl, rfl, rfl, rfl, rfl, rfl⟩ (RLe.refl _) (by dsimp only; first | exact List.Perm.refl _ | exact List.Perm.swap _ _ _)
    ·
     refine WS.eff rfl rfl rfl qD (Ef.alloc tab_ok rfl rfl (fun b12 => ?_))
     refine ⟨qR, qS, ?_⟩
     refine WA.eff 9 rfl qK rfl rfl qD (Ef.alloc tab_ok rfl rfl (fun b11 => ?_))
     refine ⟨qR, qS, ?_⟩
     refine zCE 11 0 ?_
     refine zCE 12 1 ?_
     refine WA.done qK ?_
     refine WE.cutP (b11, b12, nth w kn, (nth z kn).most) ⟨hq, hl⟩ ⟨rfl, rfl, rfl, rfl, rfl, rfl, rfl, rfl⟩ (RLe.refl _) (by dsimp only; first | exact List.Perm.refl _ | exact List.Perm.swap _ _ _)

theorem CurveTL_V {R : Ro} {b4 b12 : Nat} {cap lost : Int} {t : Nat} (h4 : R b4 = some [.int .i64 cap]) (h12 : R b12 = some [.int .i64 lost]) (hc : 0 ≤ cap ∧ cap ≤ 4000) (hl : 0 ≤ lost ∧ lost ≤ 1500) (ht : t ≤ 10000) : FnV Tryz.prog 199 [.int .i64 (t : Int), .pointer (some ⟨b4, 0, none⟩), .pointer (some ⟨b12, 0, none⟩)] R (.int .i64 (lineF cap lost t)) := by
 refine Fn.toV (fun w0 E => ?_)
 have hm := mulB (a := cap) (b := (t : Int)) (A := 4000) (B := 10000) (by omega) (by omega)
 have hv : (if (0 : Int) < cap * t - lost then cap * t - lost else 0) = lineF cap lost t := by unfold lineF; split <;> omega
 refine fE 11 Tryz.func199 ?_
 refine zQ (zG (zR 1 rfl (zN (zU (zQ (zG ?_))))))
 refine yD (r := by exact Rd.ro h4) (k := ?_)
 refine zR 1 rfl ?_
 refine yU ?_
 refine yD (r := by exact Rd.ro h12) (k := ?_)
 refine yS ?_
 refine zR 2 rfl (zN (zU (zT ?_)))
 refine sE (E := E) ?_
 refine zr1 ?_
 exact ⟨by rw [← hv]; rfl, rfl⟩
theorem CurveTG_V {R : Ro} {b19 : Nat} {a : Option Addr} {c : Nat} {xs : List Int} {t : Nat} (h19 : R b19 = some [.slice a xs.length c]) (hx : RS R 1 encI a xs) (ht : t < xs.length) : FnV Tryz.prog 200 [.int .i64 (t : Int), .pointer (some ⟨b19, 0, none⟩)] R (.int .i64 (nth xs t)) := by
 refine Fn.toV (fun w0 E => ?_)
 have hla := hx.len
 refine fE 8 Tryz.func200 ?_
 refine zQ (zG (zR 1 rfl (zN (zU (zQ (zG ?_))))))
 refine yD (r := by exact Rd.ro h19) (k := ?_)
 refine zR 1 rfl ?_
 refine yI ?_
 refine yD (r := by ((apply RS.rdD; assumption; ((try dsimp only) <;> omega)))) (k := ?_)
 refine zR 1 rfl (zN (zU (zT ?_)))
 refine sE (E := E) ?_
 refine zr1 ?_
 exact ⟨rfl, rfl⟩
end Go.Proofs.YtaoakchgjgmedaaGreat