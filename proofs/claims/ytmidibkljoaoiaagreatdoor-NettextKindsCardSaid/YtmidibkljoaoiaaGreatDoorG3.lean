/- Rules and walks, joined from 20 texts: the first of them says: Chapter 22: the lists of each kind. No condition. -/
import Derived.Test.YtmidibkljoaoiaaGreatDoorG2
import Derived.WalkSmall
import Derived.Defers
import Derived.Recover
import Derived.Shelf.Strconv.AppendIntPublic10
import Derived.Shelf.Strconv.AtoiAll
import Derived.Shelf.Strconv.ErrVarAll
import Derived.Shelf.Strings.SplitShaped
import Derived.Shelf.Strings.Split
import Derived.Shelf.Strings.Shaped
import Derived.Shelf.Strings.Cut
import Derived.RangeFuncLeaves
import Derived.RangeFuncOwn
import Derived.WalkSpells
import Derived.Lib.ItoaLen
import Derived.ProofKit
import Derived.WalkKit
import Derived.WalkLawsBesides
import Derived.Shelf.Strings.OnBuilder
import Derived.Shelf.Strings.Builder1
/- Chapter 22: the lists of each kind. No condition. -/
set_option maxRecDepth 4000
set_option linter.unusedSimpArgs false
set_option linter.unusedVariables false
namespace Go.Proofs.YtmidibkljoaoiaaGreatDoor
open Go Go.RowKit Go.Proofs.YtmidibkljoaoiaaGreatDoor.K Go.Proofs.YtmidibkljoaoiaaGreatDoor.M

theorem ChkFifo_V {R : Ro} {aw at_ : Option Addr} {lw cw lt ct : Nat} {L : Ln} (hw : RS R 1 encI aw L.w) (hlw : L.w.length = lw) (ht : RS R 1 encI at_ L.tb) (hlt : L.tb.length = lt) (hn : 1 ≤ L.n ∧ L.n ≤ 6) : FnV Tryz.prog 164 [.agg #[], .agg #[.int .i64 L.kind, .int .i64 L.cap, .int .i64 L.n, .slice aw lw cw, .slice at_ lt ct]] R (.int .i64 (listsE true [L.w, L.tb])) := by
 subst hlw
 subst hlt
 have hw1 := hw.len
 have ht1 := ht.len
 refine Fn.toV (fun w0 E => ?_)
 refine fE 11 Tryz.func164 ?_
 refine zQ (zG ?_)
 refine zO fun b2 => ?_
 refine zO fun b3 => ?_
 refine zR 1 rfl (zN (zU (zQ (zG (zR 1 rfl ?_)))))
 refine yL (Rd.add (Rd.blk 0 rfl) _) ?_
 refine zR 1 rfl ?_
 refine yL (Rd.add (Rd.blk 0 rfl) _) ?_
 refine WL.ef rfl rfl qD (Ef.buildSliceD (enc := encS) (parts := [.tmp 6, .tmp 8]) [⟨_, _, _⟩, ⟨_, _, _⟩] tab_ok rfl rfl rfl rfl rfl rfl rfl rfl qD qD (fun a9 => ?_))
 refine WL.freeze (enc := encS) (xs := [⟨aw, cw, L.w⟩, ⟨at_, ct, L.tb⟩]) 0 rfl ?_
 intro R1 hR1 hz
 refine WG.callV en167 rfl rfl qD (CallOp.mk' rfl rfl rfl rfl) (fun _ => rfl) (fun hg => Lists_V (rows := [⟨aw, cw, L.w⟩, ⟨at_, ct, L.tb⟩]) hz) ?_
 refine zR 1 rfl (zN (zU (zT ?_)))
 refine sE (E := E) ?_
 refine WE.retF tab_ok [_] rfl ⟨rfl, trivial⟩ (hR1) ?_
 exact ⟨rfl, rfl⟩

theorem ChkRanks_V {R : Ro} {aw at_ : Option Addr} {lw cw lt ct : Nat} {L : Ln} (hw : RS R 1 encI aw L.w) (hlw : L.w.length = lw) (ht : RS R 1 encI at_ L.tb) (hlt : L.tb.length = lt) (hn : 1 ≤ L.n ∧ L.n ≤ 6) : FnV Tryz.prog 168 [.agg #[], .agg #[.int .i64 L.kind, .int .i64 L.cap, .int .i64 L.n, .slice aw lw cw, .slice at_ lt ct]] R (.int .i64 (listsE true [L.w, L.tb])) := by
 subst hlw
 subst hlt
 have hw1 := hw.len
 have ht1 := ht.len
 refine Fn.toV (fun w0 E => ?_)
 refine fE 11 Tryz.func168 ?_
 refine zQ (zG ?_)
 refine zO fun b2 => ?_
 refine zO fun b3 => ?_
 refine zR 1 rfl (zN (zU (zQ (zG (zR 1 rfl ?_)))))
 refine yL (Rd.add (Rd.blk 0 rfl) _) ?_
 refine zR 1 rfl ?_
 refine yL (Rd.add (Rd.blk 0 rfl) _) ?_
 refine WL.ef rfl rfl qD (Ef.buildSliceD (enc := encS) (parts := [.tmp 6, .tmp 8]) [⟨_, _, _⟩, ⟨_, _, _⟩] tab_ok rfl rfl rfl rfl rfl rfl rfl rfl qD qD (fun a9 => ?_))
 refine WL.freeze (enc := encS) (xs := [⟨aw, cw, L.w⟩, ⟨at_, ct, L.tb⟩]) 0 rfl ?_
 intro R1 hR1 hz
 refine WG.callV en167 rfl rfl qD (CallOp.mk' rfl rfl rfl rfl) (fun _ => rfl) (fun hg => Lists_V (rows := [⟨aw, cw, L.w⟩, ⟨at_, ct, L.tb⟩]) hz) ?_
 refine zR 1 rfl (zN (zU (zT ?_)))
 refine sE (E := E) ?_
 refine WE.retF tab_ok [_] rfl ⟨rfl, trivial⟩ (hR1) ?_
 exact ⟨rfl, rfl⟩

theorem ChkRobin_V {R : Ro} {aw at_ : Option Addr} {lw cw lt ct : Nat} {L : Ln} (hw : RS R 1 encI aw L.w) (hlw : L.w.length = lw) (ht : RS R 1 encI at_ L.tb) (hlt : L.tb.length = lt) (hn : 1 ≤ L.n ∧ L.n ≤ 6) : FnV Tryz.prog 171 [.agg #[], .agg #[.int .i64 L.kind, .int .i64 L.cap, .int .i64 L.n, .slice aw lw cw, .slice at_ lt ct]] R (.int .i64 (listsE (decide ((L.w.length : Int) = L.n) && withinB L.w 1 20) [L.tb])) := by
 subst hlw
 subst hlt
 have hw1 := hw.len
 have ht1 := ht.len
 refine Fn.toV (fun w0 E => ?_)
 refine fE 20 Tryz.func171 ?_
 refine zQ (zG ?_)
 refine zO fun b2 => ?_
 refine zO fun b3 => ?_
 refine zR 1 rfl (zN (zU (zQ ?_)))
 refine W.regionH _ (ES := (.blk b3 [.int .i64 L.kind, .int .i64 L.cap, .int .i64 L.n, .slice aw L.w.length cw, .slice at_ L.tb.length ct] :: .blk b2 [] :: E)) mixed ?_
 refine tP 0 ?_
 refine tL 1 (Rd.add (Rd.blk 0 rfl) _) ?_
 refine tP 2 ?_
 refine tP 3 ?_
 refine tL 4 (Rd.add (Rd.blk 0 rfl) _) ?_
 refine tP 5 ?_
 refine tP 6 ?_
 refine WA.take 7 rfl qK qK qK rfl rfl qD (pureV_ok tab_ok rfl qE) qS qR ?_
 refine' WA.take 8 rfl qK qK qK rfl rfl qD (Yl.loadG tab_ok rfl rfl rfl qE ?r3 rfl ?h3 ?g3) qS qR ?_
 case r3 => apply Rd.addC; (exact Rd.blkC 0 rfl)
 case h3 => rfl
 case g3 => exact fun _ => trivial
 refine tP 11 ?_
 refine tL 12 (Rd.add (Rd.blk 0 rfl) _) ?_
 refine WA.br2 (i := 9) (j := 13) qK ?_ ?_
 ·
  refine WS.callV rfl en174 rfl rfl qD (CallOp.mk' rfl rfl rfl rfl) qE (fun hg => Within_V (by first | exact hw | exact hw.mono hR1) rfl) qS qR ?_
  refine WA.take 10 rfl (by kernel_rfl) (by kernel_rfl) (by kernel_rfl) rfl rfl (by decide) (Yl.pand rfl rfl rfl (fun _ => rfl) (by intro h1 h2; simp_all <;> omega)) qS (by first | exact RLe.refl _ | assumption) ?_
  refine WA.eff 13 rfl qK rfl rfl qD (Ef.buildSliceD (enc := encS) (parts := [.tmp 17]) [⟨_, _, _⟩] tab_ok rfl rfl rfl rfl rfl rfl rfl rfl qD qD (fun a18 => ?_))
  refine ⟨qR, qS, ?_⟩
  refine WA.freeze (enc := encS) (xs := [⟨at_, ct, L.tb⟩]) 0 rfl ?_
  intro R1 hR1 hz
  refine WA.callV 14 rfl qK en167 rfl rfl qD (CallOp.mk' rfl rfl rfl rfl) (fun _ => rfl) (fun hg => Lists_V (rows := [⟨at_, ct, L.tb⟩]) hz) qS qR ?_
  refine tP 15 ?_
  refine WA.done qK ?_
  refine zU (zT ?_)
  refine sE (E := E) ?_
  refine WE.retF tab_ok [_] rfl ⟨rfl, trivial⟩ (hR1) ?_
  exact ⟨rfl, rfl⟩
 ·
  refine WS.eff rfl rfl rfl qD (Ef.buildSliceD (enc := encS) (parts := [.tmp 17]) [⟨_, _, _⟩] tab_ok rfl rfl rfl rfl rfl rfl rfl rfl qD qD (fun a18 => ?_))
  refine ⟨qR, qS, ?_⟩
  refine WA.freeze (enc := encS) (xs := [⟨at_, ct, L.tb⟩]) 0 rfl ?_
  intro R1 hR1 hz
  refine WA.callV 9 rfl qK en174 rfl rfl qD (CallOp.mk' rfl rfl rfl rfl) qE (fun hg => Within_V (by first | exact hw | exact hw.mono hR1) rfl) qS qR ?_
  refine WA.take 10 rfl (by kernel_rfl) (by kernel_rfl) (by kernel_rfl) rfl rfl (by decide) (Yl.pand rfl rfl rfl (fun _ => rfl) (by intro h1 h2; simp_all <;> omega)) qS (by first | exact RLe.refl _ | assumption) ?_
  refine WA.callV 14 rfl qK en167 rfl rfl qD (CallOp.mk' rfl rfl rfl rfl) (fun _ => rfl) (fun hg => Lists_V (rows := [⟨at_, ct, L.tb⟩]) hz) qS qR ?_
  refine tP 15 ?_
  refine WA.done qK ?_
  refine zU (zT ?_)
  refine sE (E := E) ?_
  refine WE.retF tab_ok [_] rfl ⟨rfl, trivial⟩ (hR1) ?_
  exact ⟨rfl, rfl⟩

theorem ChkDef_V {R : Ro} {aw at_ : Option Addr} {lw cw lt ct : Nat} {L : Ln} (hw : RS R 1 encI aw L.w) (hlw : L.w.length = lw) (ht : RS R 1 encI at_ L.tb) (hlt : L.tb.length = lt) (hn : 1 ≤ L.n ∧ L.n ≤ 6) : FnV Tryz.prog 178 [.agg #[], .agg #[.int .i64 L.kind, .int .i64 L.cap, .int .i64 L.n, .slice aw lw cw, .slice at_ lt ct]] R (.int .i64 (listsE (decide ((L.w.length : Int) = L.n) && withinB L.w 1 6000) [L.tb])) := by
 subst hlw
 subst hlt
 have hw1 := hw.len
 have ht1 := ht.len
 refine Fn.toV (fun w0 E => ?_)
 refine fE 20 Tryz.func178 ?_
 refine zQ (zG ?_)
 refine zO fun b2 => ?_
 refine zO fun b3 => ?_
 refine zR 1 rfl (zN (zU (zQ ?_)))
 refine W.regionH _ (ES := (.blk b3 [.int .i64 L.kind, .int .i64 L.cap, .int .i64 L.n, .slice aw L.w.length cw, .slice at_ L.tb.length ct] :: .blk b2 [] :: E)) mixed ?_
 refine tP 0 ?_
 refine tL 1 (Rd.add (Rd.blk 0 rfl) _) ?_
 refine tP 2 ?_
 refine tP 3 ?_
 refine tL 4 (Rd.add (Rd.blk 0 rfl) _) ?_
 refine tP 5 ?_
 refine tP 6 ?_
 refine WA.take 7 rfl qK qK qK rfl rfl qD (pureV_ok tab_ok rfl qE) qS qR ?_
 refine' WA.take 8 rfl qK qK qK rfl rfl qD (Yl.loadG tab_ok rfl rfl rfl qE ?r3 rfl ?h3 ?g3) qS qR ?_
 case r3 => apply Rd.addC; (exact Rd.blkC 0 rfl)
 case h3 => rfl
 case g3 => exact fun _ => trivial
 refine tP 11 ?_
 refine tL 12 (Rd.add (Rd.blk 0 rfl) _) ?_
 refine WA.br2 (i := 9) (j := 13) qK ?_ ?_
 ·
  refine WS.callV rfl en174 rfl rfl qD (CallOp.mk' rfl rfl rfl rfl) qE (fun hg => Within_V (by first | exact hw | exact hw.mono hR1) rfl) qS qR ?_
  refine WA.take 10 rfl (by kernel_rfl) (by kernel_rfl) (by kernel_rfl) rfl rfl (by decide) (Yl.pand rfl rfl rfl (fun _ => rfl) (by intro h1 h2; simp_all <;> omega)) qS (by first | exact RLe.refl _ | assumption) ?_
  refine WA.eff 13 rfl qK rfl rfl qD (Ef.buildSliceD (enc := encS) (parts := [.tmp 17]) [⟨_, _, _⟩] tab_ok rfl rfl rfl rfl rfl rfl rfl rfl qD qD (fun a18 => ?_))
  refine ⟨qR, qS, ?_⟩
  refine WA.freeze (enc := encS) (xs := [⟨at_, ct, L.tb⟩]) 0 rfl ?_
  intro R1 hR1 hz
  refine WA.callV 14 rfl qK en167 rfl rfl qD (CallOp.mk' rfl rfl rfl rfl) (fun _ => rfl) (fun hg => Lists_V (rows := [⟨at_, ct, L.tb⟩]) hz) qS qR ?_
  refine tP 15 ?_
  refine WA.done qK ?_
  refine zU (zT ?_)
  refine sE (E := E) ?_
  refine WE.retF tab_ok [_] rfl ⟨rfl, trivial⟩ (hR1) ?_
  exact ⟨rfl, rfl⟩
 ·
  refine WS.eff rfl rfl rfl qD (Ef.buildSliceD (enc := encS) (parts := [.tmp 17]) [⟨_, _, _⟩] tab_ok rfl rfl rfl rfl rfl rfl rfl rfl qD qD (fun a18 => ?_))
  refine ⟨qR, qS, ?_⟩
  refine WA.freeze (enc := encS) (xs := [⟨at_, ct, L.tb⟩]) 0 rfl ?_
  intro R1 hR1 hz
  refine WA.callV 9 rfl qK en174 rfl rfl qD (CallOp.mk' rfl rfl rfl rfl) qE (fun hg => Within_V (by first | exact hw | exact hw.mono hR1) rfl) qS qR ?_
  refine WA.take 10 rfl (by kernel_rfl) (by kernel_rfl) (by kernel_rfl) rfl rfl (by decide) (Yl.pand rfl rfl rfl (fun _ => rfl) (by intro h1 h2; simp_all <;> omega)) qS (by first | exact RLe.refl _ | assumption) ?_
  refine WA.callV 14 rfl qK en167 rfl rfl qD (CallOp.mk' rfl rfl rfl rfl) (fun _ => rfl) (fun hg => Lists_V (rows := [⟨at_, ct, L.tb⟩]) hz) qS qR ?_
  refine tP 15 ?_
  refine WA.done qK ?_
  refine zU (zT ?_)
  refine sE (E := E) ?_
  refine WE.retF tab_ok [_] rfl ⟨rfl, trivial⟩ (hR1) ?_
  exact ⟨rfl, rfl⟩

theorem ChkTimes_V {R : Ro} {aw at_ : Option Addr} {lw cw lt ct : Nat} {L : Ln} (hw : RS R 1 encI aw L.w) (hlw : L.w.length = lw) (ht : RS R 1 encI at_ L.tb) (hlt : L.tb.length = lt) (hn : 1 ≤ L.n ∧ L.n ≤ 6) : FnV Tryz.prog 181 [.agg #[], .agg #[.int .i64 L.kind, .int .i64 L.cap, .int .i64 L.n, .slice aw lw cw, .slice at_ lt ct]] R (.int .i64 (listsE (decide (1 ≤ (L.tb.length : Int)) && decide ((L.tb.length : Int) ≤ 40) && withinB L.tb (-1) (L.n - 1)) [L.w])) := by
 subst hlw
 subst hlt
 have hw1 := hw.len
 have ht1 := ht.len
 refine Fn.toV (fun w0 E => ?_)
 refine fE 27 Tryz.func181 ?_
 refine zQ (zG ?_)
 refine zO fun b2 => ?_
 refine zO fun b3 => ?_
 refine zR 1 rfl (zN (zU (zQ ?_)))
 refine W.regionH _ (ES := (.blk b3 [.int .i64 L.kind, .int .i64 L.cap, .int .i64 L.n, .slice aw L.w.length cw, .slice at_ L.tb.length ct] :: .blk b2 [] :: E)) mixed ?_
 refine tP 0 ?_
 refine tL 1 (Rd.add (Rd.blk 0 rfl) _) ?_
 refine tP 2 ?_
 refine tP 3 ?_
 refine tP 4 ?_
 refine WA.take 5 rfl qK qK qK rfl rfl qD (pureV_ok tab_ok rfl qE) qS qR ?_
 refine' WA.take 6 rfl qK qK qK rfl rfl qD (Yl.loadG tab_ok rfl rfl rfl qE ?r2 rfl ?h2 ?g2) qS qR ?_
 case r2 => apply Rd.addC; (exact Rd.blkC 0 rfl)
 case h2 => rfl
 case g2 => exact fun _ => trivial
 refine WA.take 7 rfl qK qK qK rfl rfl qD (pureV_ok tab_ok rfl qE) qS qR ?_
 refine WA.take 8 rfl qK qK qK rfl rfl qD (pureV_ok tab_ok rfl qE) qS qR ?_
 refine WA.take 9 rfl (by kernel_rfl) (by kernel_rfl) (by kernel_rfl) rfl rfl (by decide) (Yl.pand rfl rfl rfl (fun _ => rfl) (by intro h1 h2; simp_all <;> omega)) qS (by first | exact RLe.refl _ | assumption) ?_
 refine tP 10 ?_
 refine WA.take 11 rfl qK qK qK rfl rfl qD (pureV_ok tab_ok rfl qE) qS qR ?_
 refine' WA.take 12 rfl qK qK qK rfl rfl qD (Yl.loadG tab_ok rfl rfl rfl qE ?r3 rfl ?h3 ?g3) qS qR ?_
 case r3 => apply Rd.addC; (exact Rd.blkC 0 rfl)
 case h3 => rfl
 case g3 => exact fun _ => trivial
 refine WA.take 13 rfl qK qK qK rfl rfl qD (pureV_ok tab_ok rfl qE) qS qR ?_
 refine' WA.take 14 rfl qK qK qK rfl rfl qD (Yl.loadG tab_ok rfl rfl rfl qE ?r4 rfl ?h4 ?g4) qS qR ?_
 case r4 => apply Rd.addC; (exact Rd.blkC 0 rfl)
 case h4 => rfl
 case g4 => exact fun _ => trivial
 refine WA.take 15 rfl (by kernel_rfl) (by kernel_rfl) (by kernel_rfl) rfl rfl (by decide) (Yl.sub rfl rfl rfl qE (by intro hg; (try simp only [zk] at hg); constructor <;> (try dsimp only) <;> omega)) qS (by first | exact RLe.refl _ | assumption) ?_
 refine tP 18 ?_
 refine tL 19 (Rd.add (Rd.blk 0 rfl) _) ?_
 refine WA.br2 (i := 16) (j := 20) qK ?_ ?_
 ·
  refine WS.callV rfl en174 rfl rfl qD (CallOp.mk' rfl rfl rfl rfl) qE (fun hg => Within_V (by first | exact ht | exact ht.mono hR1) rfl) qS qR ?_
  refine WA.take 17 rfl (by kernel_rfl) (by kernel_rfl) (by kernel_rfl) rfl rfl (by decide) (Yl.pand rfl rfl rfl (fun _ => rfl) (by intro h1 h2; simp_all <;> omega)) qS (by first | exact RLe.refl _ | assumption) ?_
  refine WA.eff 20 rfl qK rfl rfl qD (Ef.buildSliceD (enc := encS) (parts := [.tmp 24]) [⟨_, _, _⟩] tab_ok rfl rfl rfl rfl rfl rfl rfl rfl qD qD (fun a25 => ?_))
  refine ⟨qR, qS, ?_⟩
  refine WA.freeze (enc := encS) (xs := [⟨aw, cw, L.w⟩]) 0 rfl ?_
  intro R1 hR1 hz
  refine WA.callV 21 rfl qK en167 rfl rfl qD (CallOp.mk' rfl rfl rfl rfl) (fun _ => rfl) (fun hg => Lists_V (rows := [⟨aw, cw, L.w⟩]) hz) qS qR ?_
  refine tP 22 ?_
  refine WA.done qK ?_
  refine zU (zT ?_)
  refine sE (E := E) ?_
  refine WE.retF tab_ok [_] rfl ⟨rfl, trivial⟩ (hR1) ?_
  exact ⟨rfl, rfl⟩
 ·
  refine WS.eff rfl rfl rfl qD (Ef.buildSliceD (enc := encS) (parts := [.tmp 24]) [⟨_, _, _⟩] tab_ok rfl rfl rfl rfl rfl rfl rfl rfl qD qD (fun a25 => ?_))
  refine ⟨qR, qS, ?_⟩
  refine WA.freeze (enc := encS) (xs := [⟨aw, cw, L.w⟩]) 0 rfl ?_
  intro R1 hR1 hz
  refine WA.callV 16 rfl qK en174 rfl rfl qD (CallOp.mk' rfl rfl rfl rfl) qE (fun hg => Within_V (by first | exact ht | exact ht.mono hR1) rfl) qS qR ?_
  refine WA.take 17 rfl (by kernel_rfl) (by kernel_rfl) (by kernel_rfl) rfl rfl (by decide) (Yl.pand rfl rfl rfl (fun _ => rfl) (by intro h1 h2; simp_all <;> omega)) qS (by first | exact RLe.refl _ | assumption) ?_
  refine WA.callV 21 rfl qK en167 rfl rfl qD (CallOp.mk' rfl rfl rfl rfl) (fun _ => rfl) (fun hg => Lists_V (rows := [⟨aw, cw, L.w⟩]) hz) qS qR ?_
  refine tP 22 ?_
  refine WA.done qK ?_
  refine zU (zT ?_)
  refine sE (E := E) ?_
  refine WE.retF tab_ok [_] rfl ⟨rfl, trivial⟩ (hR1) ?_
  exact ⟨rfl, rfl⟩



theorem meth_check1 (x : Value) : Meth Tryz.prog 129 (.agg #[]) "netcalculus/server.check" 164 [x] := fun w => by kernel_rfl
theorem meth_check2 (x : Value) : Meth Tryz.prog 130 (.agg #[]) "netcalculus/server.check" 168 [x] := fun w => by kernel_rfl
theorem meth_check3 (x : Value) : Meth Tryz.prog 131 (.agg #[]) "netcalculus/server.check" 171 [x] := fun w => by kernel_rfl
theorem meth_check4 (x : Value) : Meth Tryz.prog 132 (.agg #[]) "netcalculus/server.check" 178 [x] := fun w => by kernel_rfl
theorem meth_check5 (x : Value) : Meth Tryz.prog 133 (.agg #[]) "netcalculus/server.check" 181 [x] := fun w => by kernel_rfl

theorem check_any {R : Ro} {aw at_ : Option Addr} {lw cw lt ct : Nat} {L : Ln} (hw : RS R 1 encI aw L.w) (hlw : L.w.length = lw) (ht : RS R 1 encI at_ L.tb) (hlt : L.tb.length = lt) (hn : 1 ≤ L.n ∧ L.n ≤ 6) (hk : 1 ≤ L.kind ∧ L.kind ≤ 5) :
  ∃ (T f : Nat), kindI L.kind = .iface T (.agg #[]) ∧ Meth Tryz.prog T (.agg #[]) "netcalculus/server.check" f [.agg #[.int .i64 L.kind, .int .i64 L.cap, .int .i64 L.n, .slice aw lw cw, .slice at_ lt ct]] ∧ FnV Tryz.prog f [.agg #[], .agg #[.int .i64 L.kind, .int .i64 L.cap, .int .i64 L.n, .slice aw lw cw, .slice at_ lt ct]] R (.int .i64 (lchkL L)) := by
 rcases (show L.kind = 1 ∨ L.kind = 2 ∨ L.kind = 3 ∨ L.kind = 4 ∨ L.kind = 5 by omega) with h | h | h | h | h
 ·exact ⟨_, _, by unfold kindI; rw [h]; rfl, meth_check1 _, by have e : lchkL L = _ := (show lchkL L = listsE true [L.w, L.tb] by unfold lchkL; rw [h]; rfl); rw [e]; exact ChkFifo_V hw hlw ht hlt hn⟩
 ·exact ⟨_, _, by unfold kindI; rw [h]; rfl, meth_check2 _, by have e : lchkL L = _ := (show lchkL L = listsE true [L.w, L.tb] by unfold lchkL; rw [h]; rfl); rw [e]; exact ChkRanks_V hw hlw ht hlt hn⟩
 ·exact ⟨_, _, by unfold kindI; rw [h]; rfl, meth_check3 _, by have e : lchkL L = _ := (show lchkL L = listsE (decide ((L.w.length : Int) = L.n) && withinB L.w 1 20) [L.tb] by unfold lchkL; rw [h]; rfl); rw [e]; exact ChkRobin_V hw hlw ht hlt hn⟩
 ·exact ⟨_, _, by unfold kindI; rw [h]; rfl, meth_check4 _, by have e : lchkL L = _ := (show lchkL L = listsE (decide ((L.w.length : Int) = L.n) && withinB L.w 1 6000) [L.tb] by unfold lchkL; rw [h]; rfl); rw [e]; exact ChkDef_V hw hlw ht hlt hn⟩
 ·exact ⟨_, _, by unfold kindI; rw [h]; rfl, meth_check5 _, by have e : lchkL L = _ := (show lchkL L = listsE (decide (1 ≤ (L.tb.length : Int)) && decide ((L.tb.length : Int) ≤ 40) && withinB L.tb (-1) (L.n - 1)) [L.w] by unfold lchkL; rw [h]; rfl); rw [e]; exact ChkTimes_V hw hlw ht hlt hn⟩

theorem ChkSrv_V {R : Ro} {aw at_ : Option Addr} {lw cw lt ct : Nat} {L : Ln} (hw : RS R 1 encI aw L.w) (hlw : L.w.length = lw) (ht : RS R 1 encI at_ L.tb) (hlt : L.tb.length = lt) : FnV Tryz.prog 42 [.agg #[.int .i64 L.kind, .int .i64 L.cap, .int .i64 L.n, .slice aw lw cw, .slice at_ lt ct]] R (.int .i64 (chkL L)) := by
 refine Fn.toV (fun w0 E => ?_)
 refine fE 34 Tryz.func42 ?_
 refine zQ (zG ?_)
 refine zO fun b1 => ?_
 refine zR 1 rfl (zN (zU (zQ (zG (zR 1 rfl ?_)))))
 refine yL (Rd.add (Rd.blk 0 rfl) _) ?_
 refine WG.callV en70 rfl rfl qD (CallOp.mk' rfl rfl rfl rfl) (fun _ => rfl) (fun hg => Kind_V L.kind) ?_
 refine zR 5 rfl (zN (zU (zQ (zQ (zG (zR 2 rfl (zN (zU ?_))))))))
 refine W.cond rfl (fun hc0 => ?_) (fun hc0 => ?_)
 ·try simp only [zk] at hc0
  have e : chkL L = 9 := by
   unfold chkL
   rw [if_pos]
   unfold kindB at hc0
   simp only [Bool.and_eq_false_iff, decide_eq_false_iff_not] at hc0
   omega
  refine zQ (zG (zR 1 rfl (zN (zU (zT (wt ?_))))))
  refine sE (E := E) ?_
  refine WE.retF tab_ok [_] rfl ⟨rfl, trivial⟩ (RLe.refl _) ?_
  exact ⟨by rw [e]; rfl, rfl⟩
 ·try simp only [zk] at hc0
  have hkk : 1 ≤ L.kind ∧ L.kind ≤ 5 := by
   unfold kindB at hc0
   simpa using hc0
  refine zK (zU (zQ (zQ (zG (zR 1 rfl ?_)))))
  refine yL (Rd.add (Rd.blk 0 rfl) _) ?_
  refine zR 2 rfl ?_
  refine yP ?_
  refine yG (Rd.addC (Rd.blkC 0 rfl) _) ?_
  refine yP ?_
  refine yO ?_
  refine zR 1 rfl ?_
  refine yP ?_
  refine yG (Rd.addC (Rd.blkC 0 rfl) _) ?_
  refine yP ?_
  refine yO ?_
  refine zR 1 rfl ?_
  refine yP ?_
  refine yG (Rd.addC (Rd.blkC 0 rfl) _) ?_
  refine yP ?_
  refine yO ?_
  refine zN (zU ?_)
  refine W.cond rfl (fun hc1 => ?_) (fun hc1 => ?_)
  ·try simp only [zk] at hc1
   have e : chkL L = 2 := by unfold chkL; rw [if_neg (by omega), if_pos (by omega)]
   refine zQ (zG (zR 1 rfl (zN (zU (zT (wt ?_))))))
   refine sE (E := E) ?_
   refine WE.retF tab_ok [_] rfl ⟨rfl, trivial⟩ (RLe.refl _) ?_
   exact ⟨by rw [e]; rfl, rfl⟩
  ·try simp only [zk] at hc1
   have hn : 1 ≤ L.n ∧ L.n ≤ 6 := by omega
   have e : chkL L = lchkL L := by unfold chkL; rw [if_neg (by omega), if_neg (by omega)]
   obtain ⟨T9, f9, e9, m9, v9⟩ := check_any (R := R) (lw := lw) (lt := lt) (cw := cw) (ct := ct) hw hlw ht hlt hn hkk
   refine zK (zU ?_)
   rw [e9]
   refine zQ (zG (zR 1 rfl ?_))
   refine yL (Rd.blk 0 rfl) ?_
   refine WL.callI (args := [.tmp 32]) rfl rfl rfl qD rfl rfl (m9) (v9.toFn) ?_
   rintro _ _ _ - ⟨rfl, rfl, rfl⟩
   refine zR 1 rfl (zN (zU (zT ?_)))
   refine sE (E := E) ?_
   refine WE.retF tab_ok [_] rfl ⟨rfl, trivial⟩ (RLe.refl _) ?_
   exact ⟨by rw [e]; rfl, rfl⟩

end Go.Proofs.YtmidibkljoaoiaaGreatDoor

/- Functions that may panic with a value: their contracts, and the rules that take and pass a panic. No condition. -/
namespace Go.Proofs.YtmidibkljoaoiaaGreatDoor.K
open Go Go.RowKit
section
variable {P : Program} {T : Tab} {n : Nat} {env : Env} {w0 : World} {R : Ro} {E : List Ent} {Q : Exit → Act → World → Prop} {K : Act → World → Prop} {ch : List PanicEntry}
/-- a function's contract: it returns, or it panics with a value -/
def FnXR (w0 : World) (R0 : Ro) (Post PX : Value → Ro → List Ent → Prop) : Ending → World → Prop :=
  fun e w' => (∃ v R' E', e = .returned v ∧ RLe R0 R' ∧ Mem w0 w' R' E' ∧ Post v R' E') ∨ (∃ v R' E', e = .panicked [{ v := v, recovered := false }] ∧ RLe R0 R' ∧ Mem w0 w' R' E' ∧ PX v R' E')
def FnX (P : Program) (f : FuncId) (args : List Value) (w0 : World) (R : Ro) (E : List Ent) (Post PX : Value → Ro → List Ent → Prop) : Prop :=
  ∀ w, Mem w0 w R E → Calls P f args.toArray w (FnXR w0 R Post PX)
def FnXAt (P : Program) (f : FuncId) (vs : List Value) (w0 : World) (R : Ro) (e : Ent) (Post : Value → Ro → Ent → List Ent → Prop) (PX : Value → Ro → Ent → Prop) : Prop :=
  ∀ F, FnX P f vs w0 R (e :: F) (fun v R' E' => ∃ e' N, E' = N ++ e' :: F ∧ Post v R' e' N) (fun v R' E' => ∃ e', E' = e' :: F ∧ PX v R' e')
theorem FnX.enter {f : FuncId} {fn : Func} {c : Code} {args : List Value} {Post PX : Value → Ro → List Ent → Prop} {n : Nat}
  (hf : P.funcs[f]? = some fn) (hb : fn.body = some c) (hn : fn.ntmps = n) (ha : args.length ≤ n) (hs : Nat.ble n 99999 = true)
  (h : W P c (bodyPost P fn (FnXR w0 R Post PX)) n (argEnv 0 args) w0 R E) : FnX P f args w0 R E Post PX := by
 intro w hm
 have hs := Nat.le_of_ble_eq_true hs
 refine calls_of_wp hf hb (h _ w ⟨?_, hs, (argEnv_mark 0 args (by omega)).symm, fun t p v ht => ?_⟩ hm)
 ·simp [hn]; omega
 ·obtain ⟨hp, _, hv⟩ := argEnv_look 0 args t p v ht
  simp only [Nat.sub_zero] at hv
  subst hp
  have hlt : t < args.length := (List.getElem?_eq_some_iff.1 hv).1
  rw [Array.getElem?_append_left (by simpa using hlt)]
  simpa using hv
variable {o : Oper} {ops rest : List Oper}
/-- the text's own panic -/
theorem WL.panic {x : Operand} {t : TypeId} {u : Value} (hg : o.guard = none) (ho : o.op = .panic x) (hx : ev env x = some (true, .iface t u))
  (h : WE Q (.panic [{ v := .iface t u, recovered := false }]) n env w0 R E) : WG false P ops Q (o :: rest) n env w0 R E := by
 intro a w hk hm
 refine wpList_plain hg fun K hK => ?_
 have e : (execOp a.eval o).run P w = .halt (.panic (.iface t u)) w := by
  unfold execOp
  rw [ho]
  simp only [hk.ev hx rfl, Sem.run_bind, run_panic_iface]
  rfl
 unfold Oper.wp
 rw [e]
 exact h a w hk hm
end
end Go.Proofs.YtmidibkljoaoiaaGreatDoor.K

/- The reader of words. No condition. -/
set_option maxRecDepth 4000
set_option linter.unusedSimpArgs false
set_option linter.unusedVariables false
namespace Go.Proofs.YtmidibkljoaoiaaGreatDoor
open Go Go.RowKit Go.Proofs.YtmidibkljoaoiaaGreatDoor.K Go.Proofs.YtmidibkljoaoiaaGreatDoor.M

def encT (l : List UInt8) : List Value := [.string (str l)]
def rdE (b : Nat) (a : Option Addr) (cp : Nat) (ws : List (List UInt8)) (k at' size : Nat) : Ent := .blk b [.slice a ws.length cp, .int .i64 (k : Int), .int .i64 (at' : Int), .int .i64 (size : Int)]
def failV (at' : Nat) (e : Int) : Value := .iface 145 (.agg #[.int .i64 (at' : Int), .int .i64 e])



set_option maxHeartbeats 400000 in
theorem NCheck0_V {R : Ro} {na la fa : Option Addr} {nc lc fc : Nat} {names : List (List UInt8)} {ms : List LnM} (hna : K.RS R 1 encT na names) (hla : K.RS R 5 encLn la ms) (hok : ∀ m ∈ ms, K.RS R 1 encI m.a1 m.L.w ∧ K.RS R 1 encI m.a2 m.L.tb) (hnl : ∀ x ∈ names, x.length ≤ 9223372036854775807) : FnV Tryz.prog 32 [.agg #[.slice na names.length nc, .slice la ms.length lc, .slice fa 0 fc]] R (.int .i64 (chkNet0 names (ms.map (·.L)))) := by
 refine FnV.ofOwn (fun w0 hb0 => ?_)
 have hll := hla.len
 have hml : (ms.map (·.L)).length = ms.length := List.length_map ..
 refine fE 89 Tryz.func32 ?_
 refine zQ (zG ?_)
 refine zO fun b1 => ?_
 refine zR 1 rfl (zN (zU (zQ (zQ (zG (zR 1 rfl ?_))))))
 refine yL (Rd.add (Rd.blk 0 rfl) _) ?_
 refine zR 3 rfl ?_
 refine yP ?_
 refine yG (Rd.addC (Rd.blkC 0 rfl) _) ?_
 refine yP ?_
 refine yP ?_
 refine yO ?_
 refine zR 1 rfl ?_
 refine yP ?_
 refine yG (Rd.addC (Rd.blkC 0 rfl) _) ?_
 refine yP ?_
 refine yP ?_
 refine yO ?_
 refine zN (zU ?_)
 refine W.cond rfl (fun hc0 => ?_) (fun hc0 => ?_)
 ·try simp only [zk] at hc0
  refine zQ (zG (zR 1 rfl (zN (zU (zT (wt ?_))))))
  refine WE.subE (E' := []) qS ?_
  refine WE.retF tab_ok [_] rfl ⟨rfl, trivial⟩ (RLe.refl _) ?_
  show Value.int .i64 _ = Value.int .i64 _
  unfold chkNet0; rw [hml, if_pos (by omega)]
 ·try simp only [zk] at hc0
  refine zK (zU (zQ (zQ (zG (zR 1 rfl ?_)))))
  refine yL (Rd.add (Rd.blk 0 rfl) _) ?_
  refine zR 2 rfl ?_
  refine yL (Rd.add (Rd.blk 0 rfl) _) ?_
  refine zR 2 rfl (zN (zU ?_))
  refine W.condN rfl (fun hc1 => ?_) (fun hc1 => ?_)
  ·try dsimp only at hc1
   refine zQ (zG (zR 1 rfl (zN (zU (zT (wt ?_))))))
   refine WE.subE (E' := []) qS ?_
   refine WE.retF tab_ok [_] rfl ⟨rfl, trivial⟩ (RLe.refl _) ?_
   show Value.int .i64 _ = Value.int .i64 _
   unfold chkNet0; rw [hml, if_neg (by omega), if_pos (by omega)]
  ·try dsimp only at hc1
   have hcn : chkNet0 names (ms.map (·.L)) = chkLs [] (names.zip (ms.map (·.L))) := by unfold chkNet0; rw [hml, if_neg (by omega), if_neg (by omega)]
   refine zK (zU (zQ (zG ?_)))
   refine WL.ef rfl rfl qD (Ef.makeMap rfl (fun b37 => ?_))
   refine zR 1 rfl (zN (zU (zQ (zQ (zG (zR 1 rfl ?_))))))
   refine yL (Rd.add (Rd.blk 1 rfl) _) ?_
   refine zR 2 rfl (zN (zU (zB ?_)))
   refine W.loopK (β := Nat) (fun i => i ≤ ms.length ∧ chkLs (names.take i) ((names.zip (ms.map (·.L))).drop i) = chkLs [] (names.zip (ms.map (·.L)))) (fun i => [(41, true, .int .i64 (i : Int))]) [1, 3, 39, 40] [_, _, _, _] [] _ rfl (fun i => [(0, .obj b37 (setO (names.take i)))]) (fun i => ms.length - i) (0) (⟨Nat.zero_le _, rfl⟩) ⟨rfl, rfl, rfl, rfl, rfl, rfl⟩ qS ?_
   intro i hst
   dsimp only [zipE, setAll, List.cons_append, List.nil_append, List.set_cons_zero, List.set_cons_succ] at hst ⊢
   obtain ⟨hi, hch⟩ := hst
   refine zQ (zG (zR 1 rfl (zN (zU (zQ ?_)))))
   refine W.condD rfl (fun hc2 => ?_) (fun hc2 => ?_)
   ·try dsimp only at hc2
    have him : i < ms.length := by omega
    have hin : i < names.length := by omega
    have hnL : ∃ q : Ln, q = (nth ms i).L ∧ (ms.map (·.L)).length = ms.length ∧ (names.zip (ms.map (·.L))).drop i = (nth names i, q) :: (names.zip (ms.map (·.L))).drop (i + 1) := by
     have hl : i < (names.zip (ms.map (·.L))).length := by rw [List.length_zip, hml]; omega
     refine ⟨_, rfl, hml, ?_⟩
     rw [List.drop_eq_getElem_cons hl, List.getElem_zip, nth_eq hin, nth_eq him, List.getElem_map]
    obtain ⟨q, hq, _, hdr⟩ := hnL
    rw [hdr, chkLs] at hch
    dsimp only at hch
    subst hq
    refine zK (zU (zQ (zB (zQ (zG (zR 1 rfl ?_))))))
    refine WG.y rfl rfl qD (Yl.indexN tab_ok rfl rfl rfl rfl rfl rfl (fun _ => rfl) qN qH) ?_
    refine' WG.y rfl rfl qD (Yl.load1 tab_ok rfl rfl rfl (fun _ => rfl) ?r7 rfl ?h7) ?_
    case r7 => exact RS.rdD hla him
    case h7 => rfl
    refine zA fun b5 => ?_
    refine zR 1 rfl ?_
    refine zE 0 ?_
    refine zN (zU (zQ (zQ (zG (zR 2 rfl ?_)))))
    refine yL (Rd.add (Rd.blk 2 rfl) _) ?_
    refine zR 1 rfl ?_
    refine WG.y rfl rfl qD (Yl.indexN tab_ok rfl rfl rfl rfl rfl rfl (fun _ => rfl) qN qH) ?_
    refine' WG.y rfl rfl qD (Yl.load1 tab_ok rfl rfl rfl (fun _ => rfl) ?r9 rfl ?h9) ?_
    case r9 => exact RS.rdD hna hin
    case h9 => rfl
    refine WL.callAt 1 en62 rfl rfl qD (CallOp.mkT rfl rfl rfl rfl) rfl (Fresh_C (met := names.take i) (n := nth names i) (hnl _ (nth_mem hin)) w0 _) ?_
    rintro _ _ _ _ - ⟨rfl, rfl, rfl, rfl⟩
    refine zR 1 rfl (zN (zU (zQ (zG (zR 2 rfl (zN (zU ?_)))))))
    refine W.condN rfl (fun hc3 => ?_) (fun hc3 => ?_)
    ·try dsimp only at hc3
     rw [if_pos hc3] at hch
     refine zQ (zG (zR 2 rfl (zN (zU (zT (wt (wb (wt (wt (wb (wt ?_)))))))))))
     refine WE.subE (E' := []) qS ?_
     refine WE.retF tab_ok [_] rfl ⟨rfl, trivial⟩ (RLe.refl _) ?_
     show Value.int .i64 _ = Value.int .i64 _
     rw [hcn, ← hch]
    ·try dsimp only at hc3
     have hf0 : frE (names.take i) (nth names i) = 0 := by first | exact hc3 | exact Classical.not_not.1 hc3
     rw [if_neg (fun h => h hf0)] at hch
     rw [if_pos hf0, ← take_nth hin]
     refine zK (zU (zQ (zG ?_)))
     refine yL (Rd.blk 0 rfl) ?_
     refine WG.callV en42 rfl rfl qD (CallOp.mk' rfl rfl rfl rfl) (fun _ => rfl) (fun hg => ChkSrv_V (L := (nth ms i).L) (hok _ (nth_mem him)).1 rfl (hok _ (nth_mem him)).2 rfl) ?_
     refine zR 1 rfl (zN (zU (zQ (zG (zR 2 rfl (zN (zU ?_)))))))
     refine W.condN rfl (fun hc4 => ?_) (fun hc4 => ?_)
     ·try dsimp only at hc4
      rw [if_pos hc4] at hch
      refine zQ (zG (zR 2 rfl (zN (zU (zT (wb (wt (wt (wb (wt ?_))))))))))
      refine WE.subE (E' := []) qS ?_
      refine WE.retF tab_ok [_] rfl ⟨rfl, trivial⟩ (RLe.refl _) ?_
      show Value.int .i64 _ = Value.int .i64 _
      rw [hcn, ← hch]
     ·try dsimp only at hc4
      have hf1 : chkL (nth ms i).L = 0 := by first | exact hc4 | exact Classical.not_not.1 hc4
      rw [if_neg (fun h => h hf1), ← take_nth hin] at hch
      refine zK (zL (zU (zG ?_)))
      refine yA ?_
      refine zR 1 rfl (zN ?_)
      refine WE.again (i + 1) (⟨by omega, hch⟩) (by (try dsimp only); omega) ⟨rfl, rfl, rfl, rfl, rfl, rfl⟩ (RLe.refl _) qS
   ·try dsimp only at hc2
    obtain rfl : i = ms.length := by omega
    rw [List.drop_of_length_le (by rw [List.length_zip, hml]; omega)] at hch
    refine zX ?_
    refine wx (wx (zY (zU (zQ (zG ?_)))))
    refine WL.ef rfl rfl qD (Ef.makeMap rfl (fun b62 => ?_))
    refine zR 1 rfl (zN (zU (zQ (zQ (zG (zR 1 rfl ?_))))))
    refine yL (Rd.add (Rd.blk 2 rfl) _) ?_
    refine zR 2 rfl (zN (zU (zB ?_)))
    refine W.loopK (β := Unit) (fun _u => True) (fun _u => [(66, true, .int .i64 0)]) [1, 8, 64, 65] [_, _, _, _] [] _ rfl (fun _u => []) (fun _u => 0) (()) (trivial) ⟨rfl, rfl, rfl, rfl, rfl, rfl⟩ qS ?_
    intro _u hst
    dsimp only [zipE, setAll, List.cons_append, List.nil_append, List.set_cons_zero, List.set_cons_succ] at hst ⊢
    
    refine zQ (zG (zR 1 rfl (zN (zU (zQ ?_)))))
    refine W.condD rfl (fun hc5 => ?_) (fun hc5 => ?_)
    ·try dsimp only at hc5
     omega
    ·try dsimp only at hc5
     refine zX ?_
     refine wx (wx (zY (zU (zQ (zG (zR 1 rfl (zN (zU (zT ?_)))))))))
     refine WE.subE (E' := []) qS ?_
     refine WE.retF tab_ok [_] rfl ⟨rfl, trivial⟩ (RLe.refl _) ?_
     show Value.int .i64 _ = Value.int .i64 _
     rw [hcn, ← hch]; rfl

end Go.Proofs.YtmidibkljoaoiaaGreatDoor

/- The contracts of the library that the walks take, laid at this translation. No condition. -/
namespace Go.Proofs.YtmidibkljoaoiaaGreatDoor
open Go.Shelf
def sh_lays169_ren : Go.Shelf.Ren := ⟨fun | 169 => 35 | n => n, fun | 70 => 72 | 9 => 9 | 0 => 0 | 72 => 75 | 37 => 73 | 127 => 106 | 3 => 3 | 5 => 5 | n => n, fun | n => n⟩
theorem sh_lays169 : Go.Proofs.Lays.n169 Tryz.prog sh_lays169_ren := {
  mixed := by kernel_rfl
  f169 := Tryz.func35.trans (congrArg some (by kernel_rfl))
  t0 := Tryz.underlying0
  a0 := Tryz.isAgg0
  z0 := Tryz.sizeOf0
  v0 := Tryz.zeroValue0
  t3 := Tryz.underlying3
  a3 := Tryz.isAgg3
  z3 := Tryz.sizeOf3
  v3 := Tryz.zeroValue3
  t9 := Tryz.underlying9
  a9 := Tryz.isAgg9
  z9 := Tryz.sizeOf9
  v9 := Tryz.zeroValue9
  t37 := Tryz.underlying73
  a37 := Tryz.isAgg73
  z37 := Tryz.sizeOf73
  v37 := Tryz.zeroValue73
  t70 := Tryz.underlying72
  a70 := Tryz.isAgg72
  z70 := Tryz.sizeOf72
  v70 := Tryz.zeroValue72
  t72 := Tryz.underlying75
  a72 := Tryz.isAgg75
  z72 := Tryz.sizeOf75
  v72 := Tryz.zeroValue75
  t127 := Tryz.underlying106
  a127 := Tryz.isAgg106
  z127 := Tryz.sizeOf106
  v127 := Tryz.zeroValue106 }
theorem sh_Builder_Extra_169 : Builder.Extra Tryz.prog sh_lays169_ren := {
  sizeBuilder := by kernel_rfl
  liesBuilder := by kernel_rfl
  t5 := Tryz.underlying5
  a5 := Tryz.isAgg5
  z5 := Tryz.sizeOf5
  v5 := Tryz.zeroValue5
  infoByte := by kernel_rfl
  cellsByte := by kernel_rfl
  sizeByte := by kernel_rfl
  neB5 := by decide }
open Go.RowKit in
theorem sh_Builder_String_any (B b : Nat) (l : List UInt8) (w : World) (h : Lib.IsBuilder 75 5 B b (Lib.byteCells l) w) (hBw : B ≤ w.heap.size) :
  Calls Tryz.prog 35 #[.pointer (some ⟨b, 0, none⟩)] w fun e w' => e = .returned (.string ⟨l.toArray⟩) ∧ Below B w w' := Any.Builder_String_any sh_lays169 sh_Builder_Extra_169 B b l w h hBw
def sh_lays156_ren : Go.Shelf.Ren := ⟨fun | 156 => 37 | 165 => 68 | 166 => 33 | 169 => 35 | 240 => 65 | 241 => 86 | 276 => 84 | 277 => 96 | n => n, fun | 31 => 23 | 9 => 9 | 3 => 3 | 4 => 4 | 0 => 0 | 20 => 20 | 72 => 75 | 76 => 78 | 70 => 72 | 37 => 73 | 75 => 77 | 127 => 106 | 164 => 125 | 5 => 5 | 80 => 81 | n => n, fun | n => n⟩
theorem sh_lays156 : Go.Proofs.Lays.n156 Tryz.prog sh_lays156_ren := {
  mixed := by kernel_rfl
  f156 := Tryz.func37.trans (congrArg some (by kernel_rfl))
  f165 := Tryz.func68.trans (congrArg some (by kernel_rfl))
  f166 := Tryz.func33.trans (congrArg some (by kernel_rfl))
  f169 := Tryz.func35.trans (congrArg some (by kernel_rfl))
  f240 := Tryz.func65.trans (congrArg some (by kernel_rfl))
  f241 := Tryz.func86.trans (congrArg some (by kernel_rfl))
  f276 := Tryz.func84.trans (congrArg some (by kernel_rfl))
  f277 := Tryz.func96.trans (congrArg some (by kernel_rfl))
  t0 := Tryz.underlying0
  a0 := Tryz.isAgg0
  z0 := Tryz.sizeOf0
  v0 := Tryz.zeroValue0
  t3 := Tryz.underlying3
  a3 := Tryz.isAgg3
  z3 := Tryz.sizeOf3
  v3 := Tryz.zeroValue3
  t4 := Tryz.underlying4
  a4 := Tryz.isAgg4
  z4 := Tryz.sizeOf4
  v4 := Tryz.zeroValue4
  t9 := Tryz.underlying9
  a9 := Tryz.isAgg9
  z9 := Tryz.sizeOf9
  v9 := Tryz.zeroValue9
  t20 := Tryz.underlying20
  a20 := Tryz.isAgg20
  z20 := Tryz.sizeOf20
  v20 := Tryz.zeroValue20
  t31 := Tryz.underlying23
  a31 := Tryz.isAgg23
  z31 := Tryz.sizeOf23
  v31 := Tryz.zeroValue23
  t37 := Tryz.underlying73
  a37 := Tryz.isAgg73
  z37 := Tryz.sizeOf73
  v37 := Tryz.zeroValue73
  t70 := Tryz.underlying72
  a70 := Tryz.isAgg72
  z70 := Tryz.sizeOf72
  v70 := Tryz.zeroValue72
  t72 := Tryz.underlying75
  a72 := Tryz.isAgg75
  z72 := Tryz.sizeOf75
  v72 := Tryz.zeroValue75
  t75 := Tryz.underlying77
  a75 := Tryz.isAgg77
  z75 := Tryz.sizeOf77
  v75 := Tryz.zeroValue77
  t76 := Tryz.underlying78
  a76 := Tryz.isAgg78
  z76 := Tryz.sizeOf78
  v76 := Tryz.zeroValue78
  t127 := Tryz.underlying106
  a127 := Tryz.isAgg106
  z127 := Tryz.sizeOf106
  v127 := Tryz.zeroValue106
  t164 := Tryz.underlying125
  a164 := Tryz.isAgg125
  z164 := Tryz.sizeOf125
  v164 := Tryz.zeroValue125 }
theorem sh_Builder_Extra_156 : Builder.Extra Tryz.prog sh_lays156_ren := {
  sizeBuilder := by kernel_rfl
  liesBuilder := by kernel_rfl
  t5 := Tryz.underlying5
  a5 := Tryz.isAgg5
  z5 := Tryz.sizeOf5
  v5 := Tryz.zeroValue5
  infoByte := by kernel_rfl
  cellsByte := by kernel_rfl
  sizeByte := by kernel_rfl
  neB5 := by decide }
open Go.RowKit in
theorem sh_strings_Join (bk o c : Nat) (xs : List ByteArray) (sep : ByteArray) (w : World) (hcells : ∀ (j : Nat) x, xs[j]? = some x → w.cell? ⟨bk, o + j, none⟩ = some (.string x)) (hbk : bk < w.heap.size) (hN : xs.length ≤ 140737488355328) (hcap : xs.length ≤ c) (hlen : (Lib.join (xs.map (·.data.toList)) sep.data.toList).length ≤ 140737488355328) :
  Calls Tryz.prog 37 #[.slice (some ⟨bk, o, none⟩) xs.length c, .string sep] w fun e w' => e = .returned (.string ⟨(Lib.join (xs.map (·.data.toList)) sep.data.toList).toArray⟩) ∧ Below w.heap.size w w' := Any.strings_Join sh_lays156 sh_Builder_Extra_156 bk o c xs sep w hcells hbk hN hcap hlen
def sh_laysC172_ren : Go.Shelf.Ren := ⟨fun | 172 => 123 | 244 => 130 | 245 => 131 | 247 => 134 | 279 => 135 | 280 => 136 | 281 => 137 | 282 => 138 | 287 => 139 | 316 => 140 | 171 => 142 | 205 => 141 | 321 => 143 | 322 => 144 | 243 => 145 | 246 => 146 | 283 => 115 | 284 => 116 | 285 => 117 | 286 => 118 | 129 => 125 | 317 => 124 | 318 => 126 | 319 => 127 | 320 => 128 | 337 => 132 | 338 => 133 | n => n, fun | 9 => 9 | 3 => 3 | 75 => 77 | 76 => 78 | 4 => 4 | 5 => 5 | 167 => 178 | 37 => 73 | 0 => 0 | 85 => 179 | 2 => 2 | 168 => 181 | 53 => 150 | 175 => 186 | 46 => 142 | 210 => 190 | 127 => 106 | 145 => 195 | 143 => 193 | 21 => 21 | 171 => 159 | 173 => 162 | 212 => 168 | 51 => 152 | 20 => 20 | 213 => 169 | 232 => 184 | 233 => 185 | 80 => 81 | n => n, fun | 15 => 6 | 16 => 7 | 17 => 1 | 18 => 4 | 19 => 5 | n => n⟩
open Go.RowKit in
open Go.RowKit in
open Go.RowKit in
def sh_lays145_ren : Go.Shelf.Ren := ⟨fun | 145 => 51 | 220 => 74 | 219 => 87 | 217 => 97 | 225 => 98 | 224 => 99 | 267 => 100 | 266 => 105 | 314 => 106 | n => n, fun | 9 => 9 | 4 => 4 | 59 => 90 | 3 => 3 | 5 => 5 | 46 => 142 | 146 => 153 | 51 => 152 | n => n, fun | 1 => 0 | n => n⟩
theorem sh_lays145 : Go.Proofs.Lays.n145 Tryz.prog sh_lays145_ren := {
  mixed := by kernel_rfl
  f145 := Tryz.func51.trans (congrArg some (by kernel_rfl))
  f217 := Tryz.func97.trans (congrArg some (by kernel_rfl))
  f219 := Tryz.func87.trans (congrArg some (by kernel_rfl))
  f220 := Tryz.func74.trans (congrArg some (by kernel_rfl))
  f224 := Tryz.func99.trans (congrArg some (by kernel_rfl))
  f225 := Tryz.func98.trans (congrArg some (by kernel_rfl))
  f266 := Tryz.func105.trans (congrArg some (by kernel_rfl))
  f267 := Tryz.func100.trans (congrArg some (by kernel_rfl))
  f314 := Tryz.func106.trans (congrArg some (by kernel_rfl))
  t3 := Tryz.underlying3
  a3 := Tryz.isAgg3
  z3 := Tryz.sizeOf3
  v3 := Tryz.zeroValue3
  t4 := Tryz.underlying4
  a4 := Tryz.isAgg4
  z4 := Tryz.sizeOf4
  v4 := Tryz.zeroValue4
  t5 := Tryz.underlying5
  a5 := Tryz.isAgg5
  z5 := Tryz.sizeOf5
  v5 := Tryz.zeroValue5
  t9 := Tryz.underlying9
  a9 := Tryz.isAgg9
  z9 := Tryz.sizeOf9
  v9 := Tryz.zeroValue9
  t46 := Tryz.underlying142
  a46 := Tryz.isAgg142
  z46 := Tryz.sizeOf142
  v46 := Tryz.zeroValue142
  t51 := Tryz.underlying152
  a51 := Tryz.isAgg152
  z51 := Tryz.sizeOf152
  v51 := Tryz.zeroValue152
  t59 := Tryz.underlying90
  a59 := Tryz.isAgg90
  z59 := Tryz.sizeOf90
  v59 := Tryz.zeroValue90
  t146 := Tryz.underlying153
  a146 := Tryz.isAgg153
  z146 := Tryz.sizeOf153
  v146 := Tryz.zeroValue153
  g1 := by kernel_rfl }
open Go.RowKit Go.Lib in
theorem sh_strings_Cut (s sep : ByteArray) (m : Int) (w : World) (hs : s.size < 4294967281) (hm : w.cell? ⟨0, 0, none⟩ = some (.int .i64 m)) :
  Calls Tryz.prog 51 #[.string s, .string sep] w fun e w' => e = .returned (.tuple #[.string ⟨(Lib.cut s.data.toList sep.data.toList).1.toArray⟩, .string ⟨(Lib.cut s.data.toList sep.data.toList).2.1.toArray⟩, .bool (Lib.cut s.data.toList sep.data.toList).2.2]) ∧ ∃ n, w' = w.drewN n := Any.strings_Cut sh_lays145 s sep m w hs hm
def sh_laysM176_ren : Go.Shelf.Ren := ⟨fun | 176 => 85 | 249 => 95 | 288 => 104 | 283 => 115 | 284 => 116 | 285 => 117 | 286 => 118 | 129 => 125 | 317 => 124 | 318 => 126 | 319 => 127 | 320 => 128 | 337 => 132 | 338 => 133 | n => n, fun | 37 => 73 | 2 => 2 | 3 => 3 | 53 => 150 | 4 => 4 | 9 => 9 | 171 => 159 | 0 => 0 | 173 => 162 | 212 => 168 | 51 => 152 | 5 => 5 | 20 => 20 | 213 => 169 | 46 => 142 | 232 => 184 | 233 => 185 | n => n, fun | 17 => 1 | 18 => 4 | 19 => 5 | n => n⟩
open Go.RowKit Go.Sort Go.Lib in
def sh_lays146_ren : Go.Shelf.Ren := ⟨fun | 146 => 88 | 221 => 101 | 268 => 107 | 138 => 108 | 143 => 109 | 195 => 119 | 197 => 120 | 218 => 121 | 219 => 87 | 260 => 129 | 217 => 97 | 225 => 98 | 224 => 99 | 267 => 100 | 266 => 105 | 314 => 106 | n => n, fun | 9 => 9 | 31 => 23 | 3 => 3 | 4 => 4 | 0 => 0 | 105 => 165 | 21 => 21 | 5 => 5 | 46 => 142 | 119 => 174 | 139 => 177 | 138 => 176 | 146 => 153 | 51 => 152 | n => n, fun | 1 => 0 | 3 => 2 | 4 => 3 | n => n⟩
theorem sh_lays146 : Go.Proofs.Lays.n146 Tryz.prog sh_lays146_ren := {
  mixed := by kernel_rfl
  f138 := Tryz.func108.trans (congrArg some (by kernel_rfl))
  f143 := Tryz.func109.trans (congrArg some (by kernel_rfl))
  f146 := Tryz.func88.trans (congrArg some (by kernel_rfl))
  f195 := Tryz.func119.trans (congrArg some (by kernel_rfl))
  f197 := Tryz.func120.trans (congrArg some (by kernel_rfl))
  f217 := Tryz.func97.trans (congrArg some (by kernel_rfl))
  f218 := Tryz.func121.trans (congrArg some (by kernel_rfl))
  f219 := Tryz.func87.trans (congrArg some (by kernel_rfl))
  f221 := Tryz.func101.trans (congrArg some (by kernel_rfl))
  f224 := Tryz.func99.trans (congrArg some (by kernel_rfl))
  f225 := Tryz.func98.trans (congrArg some (by kernel_rfl))
  f260 := Tryz.func129.trans (congrArg some (by kernel_rfl))
  f266 := Tryz.func105.trans (congrArg some (by kernel_rfl))
  f267 := Tryz.func100.trans (congrArg some (by kernel_rfl))
  f268 := Tryz.func107.trans (congrArg some (by kernel_rfl))
  f314 := Tryz.func106.trans (congrArg some (by kernel_rfl))
  t0 := Tryz.underlying0
  a0 := Tryz.isAgg0
  z0 := Tryz.sizeOf0
  v0 := Tryz.zeroValue0
  t3 := Tryz.underlying3
  a3 := Tryz.isAgg3
  z3 := Tryz.sizeOf3
  v3 := Tryz.zeroValue3
  t4 := Tryz.underlying4
  a4 := Tryz.isAgg4
  z4 := Tryz.sizeOf4
  v4 := Tryz.zeroValue4
  t5 := Tryz.underlying5
  a5 := Tryz.isAgg5
  z5 := Tryz.sizeOf5
  v5 := Tryz.zeroValue5
  t9 := Tryz.underlying9
  a9 := Tryz.isAgg9
  z9 := Tryz.sizeOf9
  v9 := Tryz.zeroValue9
  t21 := Tryz.underlying21
  a21 := Tryz.isAgg21
  z21 := Tryz.sizeOf21
  v21 := Tryz.zeroValue21
  t31 := Tryz.underlying23
  a31 := Tryz.isAgg23
  z31 := Tryz.sizeOf23
  v31 := Tryz.zeroValue23
  t46 := Tryz.underlying142
  a46 := Tryz.isAgg142
  z46 := Tryz.sizeOf142
  v46 := Tryz.zeroValue142
  t51 := Tryz.underlying152
  a51 := Tryz.isAgg152
  z51 := Tryz.sizeOf152
  v51 := Tryz.zeroValue152
  t105 := Tryz.underlying165
  a105 := Tryz.isAgg165
  z105 := Tryz.sizeOf165
  v105 := Tryz.zeroValue165
  t119 := Tryz.underlying174
  a119 := Tryz.isAgg174
  z119 := Tryz.sizeOf174
  t138 := Tryz.underlying176
  a138 := Tryz.isAgg176
  z138 := Tryz.sizeOf176
  v138 := Tryz.zeroValue176
  t139 := Tryz.underlying177
  a139 := Tryz.isAgg177
  z139 := Tryz.sizeOf177
  v139 := Tryz.zeroValue177
  t146 := Tryz.underlying153
  a146 := Tryz.isAgg153
  z146 := Tryz.sizeOf153
  v146 := Tryz.zeroValue153
  g1 := by kernel_rfl
  g3 := by kernel_rfl
  g4 := by kernel_rfl }
open Go.RowKit Go.Lib in
theorem sh_strings_Split (s sep : ByteArray) (m : Int) (w : World) (hs : s.size < 4294967281) (hm : w.cell? ⟨0, 0, none⟩ = some (.int .i64 m)) (h1 : 1 ≤ sep.size) :
  Calls Tryz.prog 88 #[.string s, .string sep] w fun e w' =>
   e = .returned (.slice (some ⟨w.heap.size, 0, none⟩) (Lib.countB s sep + 1) (Lib.countB s sep + 1)) ∧ w' = w.alloc (.cells ((Lib.splitB sep 0 (Lib.countB s sep) s).map Value.string).toArray 9) := Any.strings_Split sh_lays146 (by kernel_rfl) s sep m w hs hm h1
def sh_lays147_ren : Go.Shelf.Ren := ⟨fun | 147 => 91 | 221 => 101 | 268 => 107 | 138 => 108 | 143 => 109 | 195 => 119 | 197 => 120 | 218 => 121 | 219 => 87 | 260 => 129 | 217 => 97 | 225 => 98 | 224 => 99 | 267 => 100 | 266 => 105 | 314 => 106 | n => n, fun | 9 => 9 | 3 => 3 | 31 => 23 | 4 => 4 | 0 => 0 | 105 => 165 | 21 => 21 | 5 => 5 | 46 => 142 | 119 => 174 | 139 => 177 | 138 => 176 | 146 => 153 | 51 => 152 | n => n, fun | 1 => 0 | 3 => 2 | 4 => 3 | n => n⟩
theorem sh_lays147 : Go.Proofs.Lays.n147 Tryz.prog sh_lays147_ren := {
  mixed := by kernel_rfl
  f138 := Tryz.func108.trans (congrArg some (by kernel_rfl))
  f143 := Tryz.func109.trans (congrArg some (by kernel_rfl))
  f147 := Tryz.func91.trans (congrArg some (by kernel_rfl))
  f195 := Tryz.func119.trans (congrArg some (by kernel_rfl))
  f197 := Tryz.func120.trans (congrArg some (by kernel_rfl))
  f217 := Tryz.func97.trans (congrArg some (by kernel_rfl))
  f218 := Tryz.func121.trans (congrArg some (by kernel_rfl))
  f219 := Tryz.func87.trans (congrArg some (by kernel_rfl))
  f221 := Tryz.func101.trans (congrArg some (by kernel_rfl))
  f224 := Tryz.func99.trans (congrArg some (by kernel_rfl))
  f225 := Tryz.func98.trans (congrArg some (by kernel_rfl))
  f260 := Tryz.func129.trans (congrArg some (by kernel_rfl))
  f266 := Tryz.func105.trans (congrArg some (by kernel_rfl))
  f267 := Tryz.func100.trans (congrArg some (by kernel_rfl))
  f268 := Tryz.func107.trans (congrArg some (by kernel_rfl))
  f314 := Tryz.func106.trans (congrArg some (by kernel_rfl))
  t0 := Tryz.underlying0
  a0 := Tryz.isAgg0
  z0 := Tryz.sizeOf0
  v0 := Tryz.zeroValue0
  t3 := Tryz.underlying3
  a3 := Tryz.isAgg3
  z3 := Tryz.sizeOf3
  v3 := Tryz.zeroValue3
  t4 := Tryz.underlying4
  a4 := Tryz.isAgg4
  z4 := Tryz.sizeOf4
  v4 := Tryz.zeroValue4
  t5 := Tryz.underlying5
  a5 := Tryz.isAgg5
  z5 := Tryz.sizeOf5
  v5 := Tryz.zeroValue5
  t9 := Tryz.underlying9
  a9 := Tryz.isAgg9
  z9 := Tryz.sizeOf9
  v9 := Tryz.zeroValue9
  t21 := Tryz.underlying21
  a21 := Tryz.isAgg21
  z21 := Tryz.sizeOf21
  v21 := Tryz.zeroValue21
  t31 := Tryz.underlying23
  a31 := Tryz.isAgg23
  z31 := Tryz.sizeOf23
  v31 := Tryz.zeroValue23
  t46 := Tryz.underlying142
  a46 := Tryz.isAgg142
  z46 := Tryz.sizeOf142
  v46 := Tryz.zeroValue142
  t51 := Tryz.underlying152
  a51 := Tryz.isAgg152
  z51 := Tryz.sizeOf152
  v51 := Tryz.zeroValue152
  t105 := Tryz.underlying165
  a105 := Tryz.isAgg165
  z105 := Tryz.sizeOf165
  v105 := Tryz.zeroValue165
  t119 := Tryz.underlying174
  a119 := Tryz.isAgg174
  z119 := Tryz.sizeOf174
  t138 := Tryz.underlying176
  a138 := Tryz.isAgg176
  z138 := Tryz.sizeOf176
  v138 := Tryz.zeroValue176
  t139 := Tryz.underlying177
  a139 := Tryz.isAgg177
  z139 := Tryz.sizeOf177
  v139 := Tryz.zeroValue177
  t146 := Tryz.underlying153
  a146 := Tryz.isAgg153
  z146 := Tryz.sizeOf153
  v146 := Tryz.zeroValue153
  g1 := by kernel_rfl
  g3 := by kernel_rfl
  g4 := by kernel_rfl }
open Go.RowKit Go.Lib in
theorem sh_strings_SplitN (s sep : ByteArray) (n : Nat) (m : Int) (w : World) (hs : s.size < 4294967281) (hm : w.cell? ⟨0, 0, none⟩ = some (.int .i64 m)) (h1 : 1 ≤ sep.size) (hn : 1 ≤ n) (hn63 : n ≤ 9223372036854775807) :
  Calls Tryz.prog 91 #[.string s, .string sep, .int .i64 n] w fun e w' =>
   e = .returned (.slice (some ⟨w.heap.size, 0, none⟩) (Lib.splitB sep 0 (min n (s.size + 1) - 1) s).length (min n (s.size + 1))) ∧ w' = w.alloc (.cells (Lib.cellsOf (Lib.splitB sep 0 (min n (s.size + 1) - 1) s) (min n (s.size + 1))) 9) := Any.strings_SplitN sh_lays147 (by kernel_rfl) s sep n m w hs hm h1 hn hn63
end Go.Proofs.YtmidibkljoaoiaaGreatDoor

/- The reader of words: a certain word; digits. No condition. -/
set_option maxRecDepth 4000
set_option linter.unusedSimpArgs false
set_option linter.unusedVariables false
namespace Go.Proofs.YtmidibkljoaoiaaGreatDoor
open Go Go.RowKit Go.Proofs.YtmidibkljoaoiaaGreatDoor.K Go.Proofs.YtmidibkljoaoiaaGreatDoor.M



structure GlobE (R : Ro) : Prop where
 m : ∃ (m : Int) (rest : List Value), R 0 = some (.int .i64 m :: rest)
 pow : R 1 = some (Lib.pow10Tab.map fun z => Value.int .u64 z)
 es : ∃ (t : TypeId) (p : Value), R 6 = some [.iface t p]
 er : ∃ (t : TypeId) (p : Value), R 7 = some [.iface t p]
theorem GlobE.mono {R R' : Ro} (h : GlobE R) (hR : RLe R R') : GlobE R' := ⟨by obtain ⟨m, r, h⟩ := h.m; exact ⟨m, r, hR _ _ h⟩, hR _ _ h.pow, by obtain ⟨t, p, h⟩ := h.es; exact ⟨t, p, hR _ _ h⟩, by obtain ⟨t, p, h⟩ := h.er; exact ⟨t, p, hR _ _ h⟩⟩


theorem Split_C {R : Ro} (hG : GlobE R) {s : List UInt8} {d : UInt8} (hs : s.length ≤ 4000000000) (w0 : World) (E : List Ent) : K.Fn Tryz.prog 88 [.string (str s), .string (str [d])] w0 R E (fun v R' E' => ∃ a : Addr, v = .slice (some a) (splC d s).length (splC d s).length ∧ RS R' 1 encT (some a) (splC d s) ∧ E = E') := by
 obtain ⟨m, rest, hm0⟩ := hG.m
 intro w hm
 have hsz := str_size s
 obtain ⟨g1, g2⟩ := split_splC d s.length s (Nat.le_refl _)
 have hls : (str s).data.toList = s := by simp [str]
 have hld : (str [d]).data.toList = [d] := by simp [str]
 have hcb : Lib.countB (str s) (str [d]) + 1 = (splC d s).length := by
  show Lib.count _ _ + 1 = _
  rw [hls, hld]; exact g2
 have hsp : (Lib.splitB (str [d]) 0 (Lib.countB (str s) (str [d])) (str s)).map Value.string = ((splC d s).map encT).flatten := by
  have h1 := Lib.splitB_data (str [d]) 0 (Lib.countB (str s) (str [d])) (str s)
  have h2 : Lib.splitB (str [d]) 0 (Lib.countB (str s) (str [d])) (str s) = (splC d s).map str := by
   have h3 : (Lib.splitB (str [d]) 0 (Lib.countB (str s) (str [d])) (str s)) = ((Lib.splitB (str [d]) 0 (Lib.countB (str s) (str [d])) (str s)).map (·.data.toList)).map str := by
    rw [List.map_map]
    refine (List.map_id'' (fun x => ?_) _).symm
    exact (str_of x).symm
   rw [h3, h1]
   show (Lib.splitK _ _ (Lib.count _ _) _).map str = _
   rw [hls, hld, g1]
  rw [h2, List.map_map]
  generalize splC d s = l
  induction l with
  | nil => rfl
  | cons x l ih => simp only [List.map_cons, List.flatten_cons, ih]; rfl
 refine (sh_strings_Split (str s) (str [d]) m w (by omega) (hm.cell hm0) (by rw [str_size]; exact Nat.le_refl 1)).mono ?_
 rintro e w' ⟨rfl, rfl⟩
 rw [hcb, hsp]
 have hlen := splC_len d s
 have hfl : ((splC d s).map encT).flatten.length = (splC d s).length := by
  generalize splC d s = l
  induction l with
  | nil => rfl
  | cons x l ih => simp only [List.map_cons, List.flatten_cons, List.length_append, ih, List.length_cons]; show 1 + _ = _; omega
 have hmn : Mem w0 (w.alloc (.cells ((splC d s).map encT).flatten.toArray 9)) R (.sl 9 1 (some ⟨w.heap.size, 0, none⟩) (splC d s).length ((splC d s).map encT) :: E) := by
  refine hm.new (e' := .sl 9 1 (some ⟨w.heap.size, 0, none⟩) (splC d s).length ((splC d s).map encT)) ⟨rfl, rfl, rfl, by simp, fun j hj _ => heap_alloc_old w _ hj⟩ ?_ (fun b hb => by simp [Ent.block] at hb; omega)
  refine ⟨fun r hr => by obtain ⟨c, _, rfl⟩ := List.mem_map.1 hr; rfl, Nat.one_pos, ?_, ?_⟩
  ·rw [hfl, List.length_map]; omega
  ·right
   refine ⟨w.heap.size, _, _, by rw [List.length_map], hm.below.size, heap_alloc_new w _, by rw [List.length_map]; exact Nat.le_refl _, by unfold maxLen; omega, by simp only [List.size_toArray]; rw [hfl]; omega, ?_⟩
   rw [List.length_map]; exact List.take_of_length_le (by show ((splC d s).map encT).flatten.length ≤ _; rw [hfl]; omega)
 obtain ⟨R2, k1, k2, k3⟩ := hmn.freeze (i := 0) (enc := encT) (xs := splC d s) rfl
 exact ⟨_, R2, E, rfl, k1, k3, ⟨w.heap.size, 0, none⟩, rfl, k2, rfl⟩



set_option maxHeartbeats 1000000 in
theorem NumsG_C {R : Ro} (hG : GlobE R) {s : List UInt8} {fr : Bool} (hs : s.length ≤ 1000000) (w0 : World) (E : List Ent) : K.Fn Tryz.prog 90 [.string (str s), .bool fr] w0 R E (fun v R' E' => ∃ (a : Option Addr) (c : Nat), v = .tuple #[.slice a (numsL fr s).length c, .bool (numsO fr s)] ∧ RS R' 1 encI a (numsL fr s) ∧ (numsL fr s).length ≤ c ∧ E' = E) := by
 
 refine fE 36 Tryz.func90 ?_
 refine zQ (zG (zR 2 rfl (zN (zU (zQ (zG (zR 1 rfl (zN (zU (zQ ?_))))))))))
 refine W.nil 3 1 qD ?_
 refine zQ (zG (zR 1 rfl ?_))
 refine WL.call en88 rfl rfl qD (CallOp.mkT rfl rfl rfl rfl) (Split_C hG (s := s) (d := 44) qO w0 _) ?_
 rintro _ R1 _ hR1 ⟨a12, rfl, hws, rfl⟩
 have hRR := hR1
 have hG := hG.mono hR1
 have hwl := splC_len 44 s
 have hwm := splC_mem 44 s
 generalize hwg : splC 44 s = ws at hws hwl hwm ⊢
 refine zR 2 rfl (zN (zU (zB ?_)))
 refine W.loopK (β := Nat × List Int × Option Addr × Nat) (fun (i, xs, a6, c6) => i ≤ ws.length ∧ xs.length = i ∧ (ws.take i).all (okN9 fr) = true ∧ xs = (ws.take i).map (valN9 fr)) (fun (i, xs, a6, c6) => [(6, true, .slice a6 xs.length c6), (14, true, .int .i64 (i : Int))]) [1, 12, 13] [_, _, _] [] _ rfl (fun (i, xs, a6, c6) => [(0, .sl 3 1 a6 c6 (xs.map encI))]) (fun (i, xs, a6, c6) => ws.length - i) ((0, [], none, 0)) (⟨Nat.zero_le _, rfl, rfl, rfl⟩) ⟨rfl, rfl, rfl, rfl, rfl, rfl⟩ qS ?_
 intro zz hst
 obtain ⟨i, xs, a6, c6⟩ := zz
 dsimp only [zipE, setAll, List.cons_append, List.nil_append, List.set_cons_zero, List.set_cons_succ] at hst ⊢
 obtain ⟨hi, hxl, hal, hxv⟩ := hst
 refine zQ (zG (zR 1 rfl (zN (zU (zQ ?_)))))
 refine W.condD rfl (fun hc0 => ?_) (fun hc0 => ?_)
 ·try dsimp only at hc0
  have hil : i < ws.length := by omega
  have hwi := hwm _ (nth_mem hil)
  refine zK (zU (zQ (zB (zQ (zG ?_)))))
  refine WG.y rfl rfl qD (Yl.indexN tab_ok rfl rfl rfl rfl rfl rfl (fun _ => rfl) qN qH) ?_
  refine yR ?_
  refine zR 1 rfl (zN (zU (zQ (zG (zR 1 rfl ?_)))))
  refine WG.callV en89 rfl rfl qD (CallOp.mk' rfl rfl rfl rfl) (fun _ => rfl) (fun hg => Number9_V (w := nth ws i) qO) ?_
  refine zR 5 rfl (zN (zU (zQ (zQ (zG (zR 2 rfl ?_))))))
  refine yP ?_
  refine WG.y rfl rfl qD (Yl.eqS rfl rfl rfl qE) ?_
  refine yN ?_
  refine zN (zU ?_)
  refine W.cond rfl (fun hc1 => ?_) (fun hc1 => ?_)
  ·try simp only [zk] at hc1
   have h45 : (fr && decide (nth ws i = [45])) = true := by rw [Bool.and_eq_true, decide_eq_true_eq]; exact ⟨hc1.1, str_inj (b := [45]) hc1.2⟩
   refine zG (zR 2 rfl (zN (zU (zQ (zQ (zG (zR 2 rfl (zN (zU ?_)))))))))
   refine W.cond rfl (fun hc2 => ?_) (fun hc2 => ?_)
   ·try simp only [zk] at hc2
    refine zQ (zG (zR 2 rfl (zN (zU (zT (wt (wb (wt (wt (wb (wt ?_)))))))))))
    refine sE (E := E) ?_
    refine WE.retF tab_ok [_, _] rfl ⟨rfl, rfl, trivial⟩ (hRR) ?_
    exact absurd hc2 (by simp)
   ·try simp only [zk] at hc2
    refine zK (zU (zG (zR 2 rfl ?_)))
    refine WL.ef rfl rfl qD (Ef.buildSliceD (enc := encI) (parts := [.tmp 31]) [_] tab_ok rfl rfl rfl rfl rfl rfl rfl rfl qD qD (fun a32 => ?_))
    refine WL.ef rfl rfl (by decide) (Ef.appendD 1 0 tab_ok rfl rfl rfl rfl rfl rfl rfl rfl rfl rfl rfl (fun _ _ => rfl) (by simp only [List.length_cons, List.length_nil]; omega) (by simp only [List.length_cons, List.length_nil]; omega) (fun a33 c33 ha33 => ?_))
    refine zR 1 rfl (zN (zL (zU (zG ?_))))
    refine yA ?_
    refine zR 1 rfl (zN ?_)
    refine WE.again ((i + 1, xs ++ [-1], a33, c33)) (⟨by omega, by rw [List.length_append, hxl]; rfl, by
     show (ws.take (i + 1)).all _ = true
     rw [take_nth hil, List.all_append, hal, List.all_cons, List.all_nil]
     unfold okN9
     rw [h45]; rfl, by
     show _ = (ws.take (i + 1)).map _
     rw [take_nth hil, List.map_append, List.map_singleton, ← hxv, show valN9 fr (nth ws i) = -1 from if_pos h45]⟩) (by (try dsimp only); omega) ⟨rfl, rfl, rfl, rfl, rfl, rfl⟩ (RLe.refl _) qS
  ·try simp only [zk] at hc1
   have h45 : (fr && decide (nth ws i = [45])) = false := by
    rw [Bool.and_eq_false_iff, decide_eq_false_iff_not]
    cases hf : fr with
    | false => left; rfl
    | true => right; intro h; rw [h] at hc1; first | exact hc1 ⟨hf, rfl⟩ | exact hc1 hf rfl
   refine zK (zU (zQ (zQ (zG (zR 2 rfl (zN (zU ?_)))))))
   refine W.cond rfl (fun hc3 => ?_) (fun hc3 => ?_)
   ·try simp only [zk] at hc3
    have h9 : num9 (nth ws i) = false := by simpa using hc3
    have hno : numsO fr s = false := by
     unfold numsO
     rw [hwg, List.all_eq_false]
     exact ⟨_, nth_mem hil, by unfold okN9; rw [h45, h9]; decide⟩
    refine zQ (zG (zR 2 rfl (zN (zU (zT (wt (wb (wt (wt (wb (wt ?_)))))))))))
    refine sE (E := E) ?_
    refine WE.retF tab_ok [_, _] rfl ⟨rfl, rfl, trivial⟩ (hRR) ?_
    have hL : numsL fr s = [] := if_neg (by rw [hno]; decide)
    exact ⟨none, 0, by rw [hno, hL]; rfl, by rw [hL]; exact ⟨by simp, .inl rfl, by simp⟩, by rw [hL]; exact Nat.le_refl _, rfl⟩
   ·try simp only [zk] at hc3
    have h9 : num9 (nth ws i) = true := by simpa using hc3
    refine zK (zU (zG (zR 2 rfl ?_)))
    refine WL.ef rfl rfl qD (Ef.buildSliceD (enc := encI) (parts := [.tmp 31]) [_] tab_ok rfl rfl rfl rfl rfl rfl rfl rfl qD qD (fun a32 => ?_))
    refine WL.ef rfl rfl (by decide) (Ef.appendD 1 0 tab_ok rfl rfl rfl rfl rfl rfl rfl rfl rfl rfl rfl (fun _ _ => rfl) (by simp only [List.length_cons, List.length_nil]; omega) (by simp only [List.length_cons, List.length_nil]; omega) (fun a33 c33 ha33 => ?_))
    refine zR 1 rfl (zN (zL (zU (zG ?_))))
    refine yA ?_
    refine zR 1 rfl (zN ?_)
    refine WE.again ((i + 1, xs ++ [(num9V (nth ws i) : Int)], a33, c33)) (⟨by omega, by rw [List.length_append, hxl]; rfl, by
     show (ws.take (i + 1)).all _ = true
     rw [take_nth hil, List.all_append, hal, List.all_cons, List.all_nil]
     unfold okN9
     rw [h45, h9]; rfl, by
     show _ = (ws.take (i + 1)).map _
     rw [take_nth hil, List.map_append, List.map_singleton, ← hxv, show valN9 fr (nth ws i) = (num9V (nth ws i) : Int) from if_neg (by rw [h45]; decide)]⟩) (by (try dsimp only); omega) ⟨rfl, rfl, rfl, rfl, rfl, rfl⟩ (RLe.refl _) qS
 ·try dsimp only at hc0
  obtain rfl : i = ws.length := by omega
  refine zX ?_
  refine wx (wx (zY (zU ?_)))
  refine W.cap 0 rfl ?_
  intro hcl
  refine W.freeze (enc := encI) (xs := xs) 0 rfl ?_
  intro R2 hR2 hxs
  have hRR := hR1.trans hR2
  refine zQ (zG (zR 3 rfl (zN (zU (zT ?_)))))
  refine sE (E := E) ?_
  refine WE.retF tab_ok [_, _] rfl ⟨rfl, rfl, trivial⟩ (hRR) ?_
  rw [List.take_length] at hal hxv
  have hyes : numsO fr s = true := by unfold numsO; rw [hwg]; exact hal
  have hL : numsL fr s = xs := by unfold numsL; rw [if_pos hyes, hwg, hxv]
  exact ⟨a6, c6, by rw [hyes, hL]; rfl, by rw [hL]; exact hxs, by rw [hL]; simpa using hcl, rfl⟩

end Go.Proofs.YtmidibkljoaoiaaGreatDoor

/- An operation without a value, one of several that may come up. No condition. -/
namespace Go.Proofs.YtmidibkljoaoiaaGreatDoor.K
open Go Go.RowKit
variable {P : Program} {T : Tab} {n : Nat} {env : Env} {w0 : World} {R : Ro} {E : List Ent} {Q : Exit → Act → World → Prop}
variable {ops : List Oper} {o : Oper} {ES : List Ent} {R0 : Ro} {fuel : Nat} {listed : Array Bool}
theorem WS.effN {i : Nat} (hi : ops.toArray[i]? = some o) (hg : o.guard = none) (hd : o.dst = none)
  (h : Ef P n env w0 R E o fun _ R' E' => RLe R0 R' ∧ ES.Sublist E' ∧ WA P ops Q ES R0 w0 fuel (listed.setIfInBounds i true) n env R' E') : WS P ops Q ES R0 w0 fuel listed n env R E i := by
 intro a w hk hm
 unfold wpOp
 rw [hi]
 simp only [Region.wanted, hg, if_true]
 left
 obtain ⟨v, w', R', E', hrun, hm', hR', hsub', hn⟩ := h a w hk hm
 unfold Oper.wp
 rcases hrun with hrun | ⟨hrun, rfl⟩
 ·rw [hrun]; simp only [Oper.upon, hd]; exact ⟨hm'.sub hR' hsub', hn _ _ hk hm'⟩
 ·rw [hrun]; simp only [Oper.upon, hd]; exact ⟨hm'.sub hR' hsub', hn _ _ hk hm'⟩
end Go.Proofs.YtmidibkljoaoiaaGreatDoor.K

/- Four operations of which any may come first. No condition. -/
namespace Go.Proofs.YtmidibkljoaoiaaGreatDoor.K
open Go Go.RowKit
variable {P : Program} {T : Tab} {n : Nat} {env : Env} {w0 : World} {R : Ro} {E : List Ent} {Q : Exit → Act → World → Prop}
variable {ops : List Oper} {ES : List Ent} {R0 : Ro} {fuel : Nat} {listed : Array Bool}
theorem WA.br4 {i j k l : Nat} (hr : Region.ready .any ops.toArray listed = [i, j, k, l]) (h1 : WS P ops Q ES R0 w0 fuel listed n env R E i) (h2 : WS P ops Q ES R0 w0 fuel listed n env R E j) (h3 : WS P ops Q ES R0 w0 fuel listed n env R E k) (h4 : WS P ops Q ES R0 w0 fuel listed n env R E l) : WA P ops Q ES R0 w0 (fuel + 1) listed n env R E := by
 intro a w hk hm
 refine wpAnyH_all hr (by simp) fun m hm' => ?_
 simp only [List.mem_cons, List.not_mem_nil, or_false] at hm'
 rcases hm' with rfl | rfl | rfl | rfl
 ·exact h1 a w hk hm
 ·exact h2 a w hk hm
 ·exact h3 a w hk hm
 ·exact h4 a w hk hm
theorem WE.retFS {E' : List Ent} (hE : E'.Sublist E) (hT : TabOk P T) {fn : Func} {Post : Value → Ro → List Ent → Prop} {R0 : Ro} {rs : List ResultVar} (vs : List Value) (hr : fn.results = rs.toArray) (h : ResAll T env R E rs vs) (hR : RLe R0 R) (hp : Post (resVal vs) R E') (hds : markOf env = none := by rfl) :
  WE (bodyPost P fn (FnR w0 R0 Post)) .ret n env w0 R E := fun _ _ hk hm => ⟨by rw [hk.defers]; unfold dsOf; rw [hds], resVal vs, results_ok hT hr hk hm h, resVal vs, R, E', rfl, hR, hm.sub (RLe.refl R) hE, hp⟩
end Go.Proofs.YtmidibkljoaoiaaGreatDoor.K

/- Chapter 24: a line. No condition. -/
set_option maxRecDepth 4000
set_option linter.unusedSimpArgs false
set_option linter.unusedVariables false
namespace Go.Proofs.YtmidibkljoaoiaaGreatDoor
open Go Go.RowKit Go.Proofs.YtmidibkljoaoiaaGreatDoor.K Go.Proofs.YtmidibkljoaoiaaGreatDoor.M

set_option maxHeartbeats 4000000 in
theorem LineP_C {R : Ro} (hG : GlobE R) {s : List UInt8} (hs : s.length ≤ 1000000) (w0 : World) (E : List Ent) : K.Fn Tryz.prog 75 [.string (str s)] w0 R E (fun v R' E' => ∃ (nm : List UInt8) (L : Ln) (a1 a2 : Option Addr) (c1 c2 : Nat), v = .tuple #[.string (str nm), .agg #[.int .i64 L.kind, .int .i64 L.cap, .int .i64 L.n, .slice a1 L.w.length c1, .slice a2 L.tb.length c2], .bool (lineO s)] ∧ RS R' 1 encI a1 L.w ∧ RS R' 1 encI a2 L.tb ∧ L.w.length ≤ c1 ∧ L.tb.length ≤ c2 ∧ (lineO s = true → nm = nth (splC 32 s) 1 ∧ L = lnVal (splC 32 s)) ∧ E' = E) := by
 
 refine fE 125 Tryz.func75 ?_
 refine zQ (zG (zR 1 rfl ?_))
 refine zA fun b3 => ?_
 refine zR 1 rfl (zN (zU (zQ (zG (zR 1 rfl ?_)))))
 refine WL.call en88 rfl rfl qD (CallOp.mkT rfl rfl rfl rfl) (Split_C hG (s := s) (d := 32) qO w0 _) ?_
 rintro _ R1 _ hR1 ⟨a12, rfl, hws, rfl⟩
 have hRR := hR1
 have hG := hG.mono hR1
 have hwl := splC_len 32 s
 have hwm := splC_mem 32 s
 generalize hwg : splC 32 s = ws at hws hwl hwm ⊢
 have hwa : ∀ i, (nth ws i).length ≤ s.length := fun i => by
  by_cases h : i < ws.length
  ·exact hwm _ (nth_mem h)
  ·rw [nth_out (by omega)]; exact Nat.zero_le _
 refine zR 1 rfl (zN (zU (zQ (zQ (zG (zR 4 rfl ?_))))))
 refine yP ?_
 refine WG.y rfl rfl (by decide) (Yl.indexN tab_ok rfl rfl rfl rfl rfl rfl qE (by intro hg; (try simp only [zk] at hg); (try dsimp only) <;> omega) (by intro hg; (try simp only [zk] at hg); first | exact qI)) ?_
 refine' WG.y rfl rfl qD (Yl.loadG tab_ok rfl rfl rfl qE ?r1 rfl ?h1 ?g1) ?_
 case r1 => ((apply RS.rdC; assumption))
 case h1 => rfl
 case g1 => (intro hg; (try simp only [zk] at hg); (try dsimp only); omega)
 refine WG.y rfl rfl qD (Yl.neS rfl rfl rfl qE) ?_
 refine yO ?_
 refine zR 1 rfl ?_
 refine yP ?_
 refine WG.y rfl rfl (by decide) (Yl.indexN tab_ok rfl rfl rfl rfl rfl rfl qE (by intro hg; (try simp only [zk] at hg); (try dsimp only) <;> omega) (by intro hg; (try simp only [zk] at hg); first | exact qI)) ?_
 refine' WG.y rfl rfl qD (Yl.loadG tab_ok rfl rfl rfl qE ?r2 rfl ?h2 ?g2) ?_
 case r2 => ((apply RS.rdC; assumption))
 case h2 => rfl
 case g2 => (intro hg; (try simp only [zk] at hg); (try dsimp only); omega)
 refine WG.callV en41 rfl rfl qD (CallOp.mk' rfl rfl rfl rfl) qE (fun hg => Word_V (s := nth ws 1) (by have := hwa 1; omega)) ?_
 refine yP ?_
 refine yO ?_
 refine zN (zU ?_)
 refine W.cond rfl (fun hc0 => ?_) (fun hc0 => ?_)
 ·try simp only [zk] at hc0
  have hhd : lnHead ws = false := by
   unfold lnHead
   rw [Bool.and_eq_false_iff, Bool.and_eq_false_iff, decide_eq_false_iff_not, decide_eq_false_iff_not]
   rcases hc0 with (h | h) | h
   ·left; omega
   ·right; left; intro e; exact h (by rw [e]; rfl)
   ·right; right; simpa using h
  refine zQ (zG ?_)
  -- build
  refine WG.y rfl rfl qD (Yl.build (parts := []) tab_ok rfl rfl rfl rfl (fun _ => rfl) rfl rfl) ?_
  refine zR 1 rfl ?_
  refine zE 0 ?_
  refine zR 1 rfl (zN (zU (zT (wt ?_))))
  refine WE.retFS (E' := E) qS tab_ok [_, _, _] rfl ⟨rfl, ⟨_, _, _, rfl, rfl, rfl, qB, rfl⟩, rfl, trivial⟩ (hRR) ?_
  have hO : lineO s = false := by unfold lineO; rw [hwg, hhd]; rfl
  exact ⟨[], ⟨0, 0, 0, [], []⟩, none, none, 0, 0, by rw [hO]; rfl, ⟨by simp, .inl rfl, by simp⟩, ⟨by simp, .inl rfl, by simp⟩, Nat.le_refl _, Nat.le_refl _, (fun h => by rw [hO] at h; cases h), rfl⟩
 ·try simp only [zk] at hc0
  obtain ⟨⟨h4, hl0⟩, hw1⟩ := hc0
  have h4n : 4 ≤ ws.length := by omega
  have hhd : lnHead ws = true := by unfold lnHead; rw [decide_eq_true h4n, decide_eq_true (str_inj (b := wLine) hl0), hw1]; rfl
  refine zK (zU (zQ (zG ?_)))
  -- build
  refine WG.y rfl rfl qD (Yl.build (parts := []) tab_ok rfl rfl rfl rfl (fun _ => rfl) rfl rfl) ?_
  refine zA fun b6 => ?_
  refine zE 0 ?_
  refine zN (zU (zQ (zG (zR 2 rfl (zN (zU (zQ (zG (zR 1 rfl ?_)))))))))
  refine WG.y rfl rfl qD (Yl.indexN tab_ok rfl rfl rfl rfl rfl rfl (fun _ => rfl) qN qH) ?_
  refine yR ?_
  refine WG.callV en89 rfl rfl qD (CallOp.mk' rfl rfl rfl rfl) (fun _ => rfl) (fun hg => Number9_V (w := nth ws 3) (by have := hwa 3; omega)) ?_
  refine zR 4 rfl ?_
  refine zF 0 ?_
  refine zR 1 rfl (zN (zU ?_))
  refine W.seqCut (β := Ln × Option Addr × Option Addr × Nat × Nat × Bool × Ro) (fun (L, a1, a2, c1, c2, mo, Rk) => RS Rk 1 encI a1 L.w ∧ RS Rk 1 encI a2 L.tb ∧ L.w.length ≤ c1 ∧ L.tb.length ≤ c2 ∧ RLe R1 Rk ∧ mo = lnMore ws ∧ (mo = true → L = lnVal ws)) (fun (L, a1, a2, c1, c2, mo, Rk) => [(3, true, .pointer (some ⟨b3, 0, none⟩)), (5, true, .slice (some a12) ws.length ws.length), (6, true, .pointer (some ⟨b6, 0, none⟩)), (7, true, .bool (num9 (nth ws 3))), (8, true, .bool mo)]) (fun (L, a1, a2, c1, c2, mo, Rk) => Rk) (fun (L, a1, a2, c1, c2, mo, Rk) => .blk b6 [.int .i64 L.kind, .int .i64 L.cap, .int .i64 L.n, .slice a1 L.w.length c1, .slice a2 L.tb.length c2] :: .blk b3 [.int .i64 0, .int .i64 0, .int .i64 0, .slice none 0 0, .slice none 0 0] :: E) ?_ ?_
  ·
   intro zz hst
   obtain ⟨L, a1, a2, c1, c2, mo, Rk⟩ := zz
   obtain ⟨hf1, hf2, hg1, hg2, hRk, hmo, hLv⟩ := hst
   dsimp only at hf1 hf2 hg1 hg2 hRk hmo hLv ⊢
   have hws := hws.mono hRk
   have hRR := hRR.trans hRk
   refine zQ (zQ (zG (zR 3 rfl ?_)))
   refine yP ?_
   refine yP ?_
   refine yO ?_
   refine zN (zU ?_)
   refine W.cond rfl (fun hc1 => ?_) (fun hc1 => ?_)
   ·try simp only [zk] at hc1
    have hO : lineO s = false := by
     unfold lineO
     rw [hwg, hhd, ← hmo, Bool.true_and, Bool.and_eq_false_iff]
     simpa using hc1
    refine zQ (zG ?_)
    -- build
    refine WG.y rfl rfl qD (Yl.build (parts := []) tab_ok rfl rfl rfl rfl (fun _ => rfl) rfl rfl) ?_
    refine zR 1 rfl ?_
    refine zE 1 ?_
    refine zR 1 rfl (zN (zU (zT (wt ?_))))
    refine WE.retFS (E' := E) qS tab_ok [_, _, _] rfl ⟨rfl, ⟨_, _, _, rfl, rfl, rfl, qB, rfl⟩, rfl, trivial⟩ (hRR) ?_
    exact ⟨[], ⟨0, 0, 0, [], []⟩, none, none, 0, 0, by rw [hO]; rfl, ⟨by simp, .inl rfl, by simp⟩, ⟨by simp, .inl rfl, by simp⟩, Nat.le_refl _, Nat.le_refl _, (fun h => by rw [hO] at h; cases h), rfl⟩
   ·try simp only [zk] at hc1
    have hO : lineO s = true := by unfold lineO; rw [hwg, hhd, ← hmo, hc1.1, hc1.2]; rfl
    refine zK (zU (zQ ?_))
    refine W.regionH _ (ES := [.blk b6 [.int .i64 L.kind, .int .i64 L.cap, .int .i64 L.n, .slice a1 L.w.length c1, .slice a2 L.tb.length c2]]) mixed ?_
    refine tP 0 ?_
    refine WA.take 1 rfl qK qK qK rfl rfl qD (Yl.indexN tab_ok rfl rfl rfl rfl rfl rfl (fun _ => rfl) qN qH) qS qR ?_
    refine' WA.take 2 rfl qK qK qK rfl rfl qD (Yl.load1 tab_ok rfl rfl rfl (fun _ => rfl) ?r4 rfl ?h4) qS qR ?_
    case r4 => ((apply RS.rdD; assumption; ((try dsimp only) <;> omega)))
    case h4 => rfl
    refine tL 3 (Rd.blk 0 rfl) ?_
    refine tP 4 ?_
    refine zCE 5 1 ?_
    refine tP 6 ?_
    refine WA.done qK ?_
    refine zU (zT ?_)
    refine WE.retFS (E' := E) qS tab_ok [_, _, _] rfl ⟨rfl, ⟨_, _, _, rfl, rfl, rfl, qB, rfl⟩, rfl, trivial⟩ (hRR) ?_
    exact ⟨nth ws 1, L, a1, a2, c1, c2, by rw [hO]; rfl, hf1, hf2, hg1, hg2, fun _ => ⟨rfl, hLv hc1.2⟩, rfl⟩
  ·
   refine zQ (zG (zR 1 rfl ?_))
   refine WG.y rfl rfl qD (Yl.indexN tab_ok rfl rfl rfl rfl rfl rfl (fun _ => rfl) qN qH) ?_
   refine yR ?_
   refine zN (zU (zB (zQ (zG ?_))))
   refine WG.y rfl rfl qD (Yl.eqS rfl rfl rfl (fun _ => rfl)) ?_
   refine zR 1 rfl (zN (zU ?_))
   refine W.cond rfl (fun hc2 => ?_) (fun hc2 => ?_)
   ·try simp only [zk] at hc2
    have hkF : nth ws 2 = wFifo := str_inj (b := wFifo) hc2
    refine zQ (zG (zR 1 rfl ?_))
    refine zF 0 ?_
    refine zR 1 rfl ?_
    refine zF 0 ?_
    refine zN (zU (zG (zR 4 rfl (zN (zL ?_)))))
    refine WE.cut (⟨1, (num9V (nth ws 3) : Int), 1, [], []⟩, none, none, 0, 0, decide ((ws.length : Int) = 4), R1) ⟨⟨by simp, .inl rfl, by simp⟩, ⟨by simp, .inl rfl, by simp⟩, Nat.le_refl _, Nat.le_refl _, RLe.refl _, by unfold lnMore; rw [if_pos hkF]; exact decide_eq_decide.2 (by omega), fun _ => by unfold lnVal; rw [if_pos hkF]⟩ ⟨rfl, rfl, rfl, rfl, rfl, rfl⟩ (RLe.refl _) qS
   ·try simp only [zk] at hc2
    have hnF : ¬ nth ws 2 = wFifo := fun h => hc2 (by rw [h]; rfl)
    refine zQ (zG ?_)
    refine WG.y rfl rfl qD (Yl.eqS rfl rfl rfl (fun _ => rfl)) ?_
    refine zR 1 rfl (zN (zU ?_))
    refine W.cond rfl (fun hc3 => ?_) (fun hc3 => ?_)
    ·try simp only [zk] at hc3
     have hkP : nth ws 2 = wPrio := str_inj (b := wPrio) hc3
     refine zQ (zG (zR 1 rfl ?_))
     refine zF 0 ?_
     refine zN (zU (zQ (zG (zR 3 rfl (zN (zU ?_))))))
     refine W.condE rfl (fun hc4 => ?_) (fun hc4 => ?_)
     ·try dsimp only at hc4
      refine zG (zR 1 rfl ?_)
      refine WG.y rfl rfl qD (Yl.indexN tab_ok rfl rfl rfl rfl rfl rfl (fun _ => rfl) qN qH) ?_
      refine yR ?_
      refine WG.callV en89 rfl rfl qD (CallOp.mk' rfl rfl rfl rfl) (fun _ => rfl) (fun hg => Number9_V (w := nth ws 4) (by have := hwa 4; omega)) ?_
      refine zR 4 rfl ?_
      refine zF 0 ?_
      refine zR 1 rfl (zN (zL ?_))
      refine WE.cut (⟨2, (num9V (nth ws 3) : Int), (num9V (nth ws 4) : Int), [], []⟩, none, none, 0, 0, num9 (nth ws 4), R1) ⟨⟨by simp, .inl rfl, by simp⟩, ⟨by simp, .inl rfl, by simp⟩, Nat.le_refl _, Nat.le_refl _, RLe.refl _, by unfold lnMore; rw [if_neg hnF, if_pos hkP, decide_eq_true (show ws.length = 5 by omega), Bool.true_and], fun _ => by unfold lnVal; rw [if_neg hnF, if_pos hkP]⟩ ⟨rfl, rfl, rfl, rfl, rfl, rfl⟩ (RLe.refl _) qS
     ·try dsimp only at hc4
      refine zK (zL ?_)
      refine WE.cut (⟨2, (num9V (nth ws 3) : Int), 0, [], []⟩, none, none, 0, 0, false, R1) ⟨⟨by simp, .inl rfl, by simp⟩, ⟨by simp, .inl rfl, by simp⟩, Nat.le_refl _, Nat.le_refl _, RLe.refl _, by unfold lnMore; rw [if_neg hnF, if_pos hkP, decide_eq_false (show ¬ ws.length = 5 by omega), Bool.false_and], fun h => by cases h⟩ ⟨rfl, rfl, rfl, rfl, rfl, rfl⟩ (RLe.refl _) qS
    ·try simp only [zk] at hc3
     have hnP : ¬ nth ws 2 = wPrio := fun h => hc3 (by rw [h]; rfl)
     refine zQ (zQ (zG ?_))
     refine WG.y rfl rfl qD (Yl.eqS rfl rfl rfl (fun _ => rfl)) ?_
     refine zR 1 rfl (zN (zU ?_))
     refine W.cond rfl (fun hc5 => ?_) (fun hc5 => ?_)
     ·try simp only [zk] at hc5
      have hkR : nth ws 2 = wRob := str_inj (b := wRob) hc5
      refine zK (zU ?_)
      refine W.cond rfl (fun hc6 => ?_) (fun hc6 => ?_)
      ·try simp only [zk] at hc6
       refine zQ (zG (zR 1 rfl ?_))
       refine zF 0 ?_
       refine zN (zU (zQ (zQ (zG (zR 1 rfl ?_)))))
       refine WG.y rfl rfl qD (Yl.indexN tab_ok rfl rfl rfl rfl rfl rfl (fun _ => rfl) qN qH) ?_
       refine yR ?_
       refine WG.y rfl rfl qD (Yl.eqS rfl rfl rfl (fun _ => rfl)) ?_
       refine zN (zU ?_)
       refine W.cond rfl (fun hc7 => ?_) (fun hc7 => ?_)
       ·try simp only [zk] at hc7
        exact absurd (hkR.symm.trans (str_inj (b := wDef) hc7)) qD
       ·try simp only [zk] at hc7
        refine zK (zU (zQ (zG (zR 3 rfl (zN (zU ?_))))))
        refine W.condE rfl (fun hc8 => ?_) (fun hc8 => ?_)
        ·try dsimp only at hc8
         refine zQ (zG (zR 1 rfl ?_))
         refine WG.y rfl rfl qD (Yl.indexN tab_ok rfl rfl rfl rfl rfl rfl (fun _ => rfl) qN qH) ?_
         refine yR ?_
         refine WL.call en90 rfl rfl qD (CallOp.mkT rfl rfl rfl rfl) (NumsG_C hG (s := nth ws 4) (fr := false) (by have := hwa 4; omega) w0 _) ?_
         rintro _ R2 _ hR2 ⟨a80, c80, rfl, hl80, hc80, rfl⟩
         have hws := hws.mono hR2
         refine zR 4 rfl ?_
         refine zF 0 ?_
         refine zR 1 rfl (zN (zU (zG (zR 1 rfl ?_))))
         refine yL (Rd.add (Rd.blk 0 rfl) _) ?_
         refine zR 2 rfl ?_
         refine zF 0 ?_
         refine zN (zL ?_)
         refine WE.cut (⟨3, (num9V (nth ws 3) : Int), ((numsL false (nth ws 4)).length : Int), numsL false (nth ws 4), []⟩, a80, none, c80, 0, numsO false (nth ws 4), R2) ⟨hl80, ⟨by simp, .inl rfl, by simp⟩, hc80, Nat.le_refl _, hR2, by unfold lnMore; rw [if_neg hnF, if_neg hnP, if_pos (.inl hkR), decide_eq_true (show ws.length = 5 by omega), Bool.true_and], fun _ => by unfold lnVal; rw [if_neg hnF, if_neg hnP, if_pos hkR]⟩ ⟨rfl, rfl, rfl, rfl, rfl, rfl⟩ (RLe.refl _) qS
        ·try dsimp only at hc8
         refine zK (zL ?_)
         refine WE.cut (⟨3, (num9V (nth ws 3) : Int), 0, [], []⟩, none, none, 0, 0, false, R1) ⟨⟨by simp, .inl rfl, by simp⟩, ⟨by simp, .inl rfl, by simp⟩, Nat.le_refl _, Nat.le_refl _, RLe.refl _, by unfold lnMore; rw [if_neg hnF, if_neg hnP, if_pos (.inl hkR), decide_eq_false (show ¬ ws.length = 5 by omega), Bool.false_and], fun h => by cases h⟩ ⟨rfl, rfl, rfl, rfl, rfl, rfl⟩ (RLe.refl _) qS
      ·try simp only [zk] at hc6
       exact absurd hc5 hc6
     ·try simp only [zk] at hc5
      have hnR : ¬ nth ws 2 = wRob := fun h => hc5 (by rw [h]; rfl)
      refine zG ?_
      refine WG.y rfl rfl qD (Yl.eqS rfl rfl rfl (fun _ => rfl)) ?_
      refine zR 1 rfl (zN (zU ?_))
      refine W.cond rfl (fun hc9 => ?_) (fun hc9 => ?_)
      ·try simp only [zk] at hc9
       have hkD : nth ws 2 = wDef := str_inj (b := wDef) hc9
       refine zQ (zG (zR 1 rfl ?_))
       refine zF 0 ?_
       refine zN (zU (zQ (zQ (zG (zR 1 rfl ?_)))))
       refine WG.y rfl rfl qD (Yl.indexN tab_ok rfl rfl rfl rfl rfl rfl (fun _ => rfl) qN qH) ?_
       refine yR ?_
       refine WG.y rfl rfl qD (Yl.eqS rfl rfl rfl (fun _ => rfl)) ?_
       refine zN (zU ?_)
       refine W.cond rfl (fun hc10 => ?_) (fun hc10 => ?_)
       ·try simp only [zk] at hc10
        refine zG (zR 1 rfl ?_)
        refine zF 0 ?_
        refine zN (zU (zQ (zG (zR 3 rfl (zN (zU ?_))))))
        refine W.condE rfl (fun hc11 => ?_) (fun hc11 => ?_)
        ·try dsimp only at hc11
         refine zQ (zG (zR 1 rfl ?_))
         refine WG.y rfl rfl qD (Yl.indexN tab_ok rfl rfl rfl rfl rfl rfl (fun _ => rfl) qN qH) ?_
         refine yR ?_
         refine WL.call en90 rfl rfl qD (CallOp.mkT rfl rfl rfl rfl) (NumsG_C hG (s := nth ws 4) (fr := false) (by have := hwa 4; omega) w0 _) ?_
         rintro _ R2 _ hR2 ⟨a80, c80, rfl, hl80, hc80, rfl⟩
         have hws := hws.mono hR2
         refine zR 4 rfl ?_
         refine zF 0 ?_
         refine zR 1 rfl (zN (zU (zG (zR 1 rfl ?_))))
         refine yL (Rd.add (Rd.blk 0 rfl) _) ?_
         refine zR 2 rfl ?_
         refine zF 0 ?_
         refine zN (zL ?_)
         refine WE.cut (⟨4, (num9V (nth ws 3) : Int), ((numsL false (nth ws 4)).length : Int), numsL false (nth ws 4), []⟩, a80, none, c80, 0, numsO false (nth ws 4), R2) ⟨hl80, ⟨by simp, .inl rfl, by simp⟩, hc80, Nat.le_refl _, hR2, by unfold lnMore; rw [if_neg hnF, if_neg hnP, if_pos (.inr hkD), decide_eq_true (show ws.length = 5 by omega), Bool.true_and], fun _ => by unfold lnVal; rw [if_neg hnF, if_neg hnP, if_neg hnR, if_pos hkD]⟩ ⟨rfl, rfl, rfl, rfl, rfl, rfl⟩ (RLe.refl _) qS
        ·try dsimp only at hc11
         refine zK (zL ?_)
         refine WE.cut (⟨4, (num9V (nth ws 3) : Int), 0, [], []⟩, none, none, 0, 0, false, R1) ⟨⟨by simp, .inl rfl, by simp⟩, ⟨by simp, .inl rfl, by simp⟩, Nat.le_refl _, Nat.le_refl _, RLe.refl _, by unfold lnMore; rw [if_neg hnF, if_neg hnP, if_pos (.inr hkD), decide_eq_false (show ¬ ws.length = 5 by omega), Bool.false_and], fun h => by cases h⟩ ⟨rfl, rfl, rfl, rfl, rfl, rfl⟩ (RLe.refl _) qS
       ·try simp only [zk] at hc10
        exact absurd hc9 hc10
      ·try simp only [zk] at hc9
       have hnD : ¬ nth ws 2 = wDef := fun h => hc9 (by rw [h]; rfl)
       refine zQ (zG ?_)
       refine WG.y rfl rfl qD (Yl.eqS rfl rfl rfl (fun _ => rfl)) ?_
       refine zR 1 rfl (zN (zU ?_))
       refine W.cond rfl (fun hc12 => ?_) (fun hc12 => ?_)
       ·try simp only [zk] at hc12
        have hkS : nth ws 2 = wSlots := str_inj (b := wSlots) hc12
        refine zQ (zG (zR 1 rfl ?_))
        refine zF 0 ?_
        refine zN (zU (zQ (zG (zR 3 rfl (zN (zU ?_))))))
        refine W.condE rfl (fun hc13 => ?_) (fun hc13 => ?_)
        ·try dsimp only at hc13
         refine zQ (zG (zR 1 rfl ?_))
         refine WG.y rfl rfl qD (Yl.indexN tab_ok rfl rfl rfl rfl rfl rfl (fun _ => rfl) qN qH) ?_
         refine yR ?_
         refine WG.callV en89 rfl rfl qD (CallOp.mk' rfl rfl rfl rfl) (fun _ => rfl) (fun hg => Number9_V (w := nth ws 4) (by have := hwa 4; omega)) ?_
         refine zR 4 rfl ?_
         refine zF 0 ?_
         refine zR 1 rfl (zN (zU (zQ (zG (zR 1 rfl ?_)))))
         refine WG.y rfl rfl qD (Yl.indexN tab_ok rfl rfl rfl rfl rfl rfl (fun _ => rfl) qN qH) ?_
         refine yR ?_
         refine WL.call en90 rfl rfl qD (CallOp.mkT rfl rfl rfl rfl) (NumsG_C hG (s := nth ws 5) (fr := true) (by have := hwa 5; omega) w0 _) ?_
         rintro _ R2 _ hR2 ⟨a80, c80, rfl, hl80, hc80, rfl⟩
         have hws := hws.mono hR2
         refine zR 5 rfl (zN (zU (zG (zR 3 rfl ?_))))
         refine yP ?_
         refine yN ?_
         refine zR 1 rfl ?_
         refine zF 0 ?_
         refine zR 1 rfl (zN (zL ?_))
         refine WE.cut (⟨5, (num9V (nth ws 3) : Int), (num9V (nth ws 4) : Int), [], numsL true (nth ws 5)⟩, none, a80, 0, c80, (num9 (nth ws 4) && numsO true (nth ws 5)), R2) ⟨⟨by simp, .inl rfl, by simp⟩, hl80, Nat.le_refl _, hc80, hR2, by unfold lnMore; rw [if_neg hnF, if_neg hnP, if_neg (fun h => h.elim hnR hnD), if_pos hkS, decide_eq_true (show ws.length = 6 by omega), Bool.true_and], fun _ => by unfold lnVal; rw [if_neg hnF, if_neg hnP, if_neg hnR, if_neg hnD]⟩ ⟨rfl, rfl, rfl, rfl, rfl, rfl⟩ (RLe.refl _) qS
        ·try dsimp only at hc13
         refine zK (zL ?_)
         refine WE.cut (⟨5, (num9V (nth ws 3) : Int), 0, [], []⟩, none, none, 0, 0, false, R1) ⟨⟨by simp, .inl rfl, by simp⟩, ⟨by simp, .inl rfl, by simp⟩, Nat.le_refl _, Nat.le_refl _, RLe.refl _, by unfold lnMore; rw [if_neg hnF, if_neg hnP, if_neg (fun h => h.elim hnR hnD), if_pos hkS, decide_eq_false (show ¬ ws.length = 6 by omega), Bool.false_and], fun h => by cases h⟩ ⟨rfl, rfl, rfl, rfl, rfl, rfl⟩ (RLe.refl _) qS
       ·try simp only [zk] at hc12
        have hnS : ¬ nth ws 2 = wSlots := fun h => hc12 (by rw [h]; rfl)
        refine zK (zL ?_)
        refine WE.cut (⟨0, (num9V (nth ws 3) : Int), 0, [], []⟩, none, none, 0, 0, false, R1) ⟨⟨by simp, .inl rfl, by simp⟩, ⟨by simp, .inl rfl, by simp⟩, Nat.le_refl _, Nat.le_refl _, RLe.refl _, by unfold lnMore; rw [if_neg hnF, if_neg hnP, if_neg (fun h => h.elim hnR hnD), if_neg hnS], fun h => by cases h⟩ ⟨rfl, rfl, rfl, rfl, rfl, rfl⟩ (RLe.refl _) qS



theorem SplitN_C {R : Ro} (hG : GlobE R) {s : List UInt8} (hs : s.length ≤ 1000000) (w0 : World) (E : List Ent) : K.Fn Tryz.prog 91 [.string (str s), .string (str [32]), .int .i64 7] w0 R E (fun v R' E' => ∃ (a : Addr) (c : Nat), v = .slice (some a) (Lib.splitB (str [32]) 0 (min 7 ((str s).size + 1) - 1) (str s)).length c ∧ R = R' ∧ E = E') := by
 obtain ⟨m, rest, hm0⟩ := hG.m
 intro w hm
 have hsz := str_size s
 refine (sh_strings_SplitN (str s) (str [32]) 7 m w (by omega) (hm.cell hm0) (by rw [str_size]; exact Nat.le_refl 1) (by decide) (by decide)).mono ?_
 rintro e w' ⟨rfl, rfl⟩
 exact ⟨_, R, E, rfl, RLe.refl R, hm.belowAll (Below.alloc (Below.refl _ w) (Nat.le_refl _) _), _, _, rfl, rfl, rfl⟩

set_option maxHeartbeats 1000000 in
theorem FlowNo_C {R : Ro} (hG : GlobE R) {s : List UInt8} (hs : s.length ≤ 1000000) (h7 : (Lib.splitB (str [32]) 0 (min 7 ((str s).size + 1) - 1) (str s)).length ≠ 7) {na : Value} (w0 : World) (E : List Ent) : K.Fn Tryz.prog 76 [na, .string (str s)] w0 R E (fun v R' E' => v = .tuple #[.agg #[.string (str []), .slice none 0 0, .int .i64 0, .int .i64 0, .int .i64 0, .slice none 0 0, .int .i64 0, .int .i64 0], .bool false] ∧ R = R' ∧ E' = E) := by
 
 refine fE 117 Tryz.func76 ?_
 refine zQ (zG ?_)
 refine zA fun b4 => ?_
 refine zR 1 rfl (zN (zU (zQ (zG (zR 1 rfl ?_)))))
 refine WL.call en91 rfl rfl qD (CallOp.mkT rfl rfl rfl rfl) (SplitN_C hG hs w0 _) ?_
 rintro _ _ _ - ⟨a9, c9, rfl, rfl, rfl⟩
 generalize (Lib.splitB (str [32]) 0 (min 7 ((str s).size + 1) - 1) (str s)).length = len at h7 ⊢
 have h7i : ¬ (len : Int) = 7 := by omega
 refine zR 1 rfl (zN (zU (zQ (zQ (zG (zR 4 rfl ?_))))))
 refine yP ?_
 refine WG.y rfl rfl (by decide) (Yl.off (v := .pointer none) (by simp [h7i])) ?_
 refine WG.y rfl rfl (by decide) (Yl.off (v := .string (str [])) (by simp [h7i])) ?_
 refine WG.y rfl rfl qD (Yl.neS rfl rfl rfl qE) ?_
 refine yO ?_
 refine zR 1 rfl ?_
 refine yP ?_
 refine WG.y rfl rfl (by decide) (Yl.off (v := .pointer none) (by simp [h7i])) ?_
 refine WG.y rfl rfl (by decide) (Yl.off (v := .string (str [])) (by simp [h7i])) ?_
 refine WG.callV en41 rfl rfl qD (CallOp.mk' rfl rfl rfl rfl) qE (fun hg => Word_V (s := []) qD) ?_
 refine yP ?_
 refine yO ?_
 refine zN (zU ?_)
 refine W.cond rfl (fun hc0 => ?_) (fun hc0 => ?_)
 ·try simp only [zk] at hc0
  refine zQ (zG ?_)
  -- build
  refine WG.y rfl rfl qD (Yl.build (parts := []) tab_ok rfl rfl rfl rfl (fun _ => rfl) rfl rfl) ?_
  refine zE 0 ?_
  refine zR 1 rfl (zN (zU (zT (wt ?_))))
  refine WE.retFS (E' := E) qS tab_ok [_, _] rfl ⟨⟨_, _, _, rfl, rfl, rfl, (Rd.blk 0 rfl), rfl⟩, rfl, trivial⟩ (RLe.refl _) ?_
  exact ⟨rfl, rfl, rfl⟩
 ·try simp only [zk] at hc0
  exact absurd hc0 (by simp [h7i])



set_option maxHeartbeats 8000000 in
theorem Take0_C {R : Ro} (hG : GlobE R) {s : List UInt8} (hs : s.length ≤ 1000000) (h7 : lineO s = false → (Lib.splitB (str [32]) 0 (min 7 ((str s).size + 1) - 1) (str s)).length ≠ 7) {b : Nat} {a1 a2 : Option Addr} {c1 c2 : Nat} {ns : List (List UInt8)} {ms : List LnM} (hns : ns.length ≤ 1000) (hms : ms.length ≤ 1000) (w0 : World) (F : List Ent) : K.Fn Tryz.prog 52 [.pointer (some ⟨b, 0, none⟩), .string (str s)] w0 R (.sl 9 1 a1 c1 (ns.map encT) :: .sl 29 5 a2 c2 (ms.map encLn) :: .blk b [.slice a1 ns.length c1, .slice a2 ms.length c2, .slice none 0 0] :: F) (fun v R' E' => v = .bool (lineO s) ∧ ∃ (a1' a2' : Option Addr) (c1' c2' : Nat) (ns' : List (List UInt8)) (ms' : List LnM), E' = .sl 9 1 a1' c1' (ns'.map encT) :: .sl 29 5 a2' c2' (ms'.map encLn) :: .blk b [.slice a1' ns'.length c1', .slice a2' ms'.length c2', .slice none 0 0] :: F ∧ (lineO s = false → ns' = ns ∧ ms' = ms) ∧ (lineO s = true → ∃ m, ns' = ns ++ [nth (splC 32 s) 1] ∧ ms' = ms ++ [m] ∧ OkLn R' m ∧ m.L = lnVal (splC 32 s))) := by
 
 refine fE 66 Tryz.func52 ?_
 refine zQ (zG (zR 1 rfl (zN (zU (zQ (zQ (zG (zR 1 rfl ?_))))))))
 refine WL.call en75 rfl rfl qD (CallOp.mkT rfl rfl rfl rfl) (LineP_C hG hs w0 _) ?_
 rintro _ R1 _ hR1 ⟨nm, L, x1, x2, y1, y2, rfl, hf1, hf2, hg1, hg2, hLv, rfl⟩
 have hG := hG.mono hR1
 refine zR 4 rfl ?_
 refine zA fun b6 => ?_
 refine zR 1 rfl ?_
 refine zE 0 ?_
 refine zR 1 rfl (zN (zU (zQ (zG (zR 2 rfl ?_)))))
 refine yP ?_
 refine yP ?_
 refine yP ?_
 refine yG (Rd.addC (Rd.blkC 3 rfl) _) ?_
 refine yP ?_
 refine yP ?_
 refine yN ?_
 refine zN (zU ?_)
 refine W.cond rfl (fun hc0 => ?_) (fun hc0 => ?_)
 ·try simp only [zk] at hc0
  have hyes : lineO s = true := by simpa using hc0
  refine zQ ?_
  refine W.regionH _ (ES := [.blk b6 [.int .i64 L.kind, .int .i64 L.cap, .int .i64 L.n, .slice x1 L.w.length y1, .slice x2 L.tb.length y2]]) mixed ?_
  refine tP 0 ?_
  refine tP 1 ?_
  refine tP 2 ?_
  refine tP 3 ?_
  refine tP 4 ?_
  refine tP 6 ?_
  refine tP 9 ?_
  refine tP 10 ?_
  refine tP 11 ?_
  refine tL 13 (Rd.blk 0 rfl) ?_
  refine WA.br4 (i := 5) (j := 7) (k := 12) (l := 14) qK ?_ ?_ ?_ ?_
  ·
   refine sL (Rd.add (Rd.blk 3 rfl) _) ?_
   refine WA.br3 (i := 7) (j := 12) (k := 14) qK ?_ ?_ ?_
   ·
    refine WS.eff rfl rfl rfl qD (Ef.buildSliceD (enc := encT) (parts := [.tmp 31]) [nm] tab_ok rfl rfl rfl rfl rfl rfl rfl rfl qD qD (fun a32 => ?_))
    refine ⟨qR, qS, ?_⟩
    refine WA.br3 (i := 8) (j := 12) (k := 14) qK ?_ ?_ ?_
    ·
     refine WS.eff rfl rfl rfl (by decide) (Ef.appendD 2 0 tab_ok rfl rfl rfl rfl rfl rfl rfl rfl rfl rfl rfl (fun _ _ => rfl) (by simp only [List.length_cons, List.length_nil]; omega) (by simp only [List.length_cons, List.length_nil]; omega) (fun a33 c33 ha33 => ?_))
     refine ⟨qR, qS, ?_⟩
     refine WA.br2 (i := 12) (j := 14) qK ?_ ?_
     ·
      refine sL (Rd.add (Rd.blk 4 rfl) _) ?_
      refine WA.eff 14 rfl qK rfl rfl qD (Ef.buildSliceD (enc := encLn) (parts := [.tmp 38]) [⟨x1, y1, x2, y2, L⟩] tab_ok rfl rfl rfl rfl rfl rfl rfl rfl qD qD (fun a39 => ?_))
      refine ⟨qR, qS, ?_⟩
      refine WA.eff 15 rfl (by kernel_rfl) rfl rfl (by decide) (Ef.appendD 4 0 tab_ok rfl rfl rfl rfl rfl rfl rfl rfl rfl rfl rfl (fun _ _ => rfl) (by simp only [List.length_cons, List.length_nil]; omega) (by simp only [List.length_cons, List.length_nil]; omega) (fun a40 c40 ha40 => ?_))
      refine ⟨qR, qS, ?_⟩
      refine tP 16 ?_
      refine tP 17 ?_
      refine zCF 18 5 ?_
      refine tP 19 ?_
      refine tP 20 ?_
      refine zCF 21 5 ?_
      refine WA.done qK ?_
      refine zU (zQ (zG (zR 1 rfl (zN (zU (zT (wt ?_)))))))
      refine WE.subE (E' := .sl 9 1 a33 c33 ((ns ++ [nm]).map encT) :: .sl 29 5 a40 c40 ((ms ++ [(⟨x1, y1, x2, y2, L⟩ : LnM)]).map encLn) :: .blk b [.slice a33 (ns ++ [nm]).length c33, .slice a40 (ms ++ [(⟨x1, y1, x2, y2, L⟩ : LnM)]).length c40, .slice none 0 0] :: F) qS ?_
      refine WE.retF tab_ok [_] rfl ⟨rfl, trivial⟩ qR ?_
      exact ⟨by rw [hyes]; rfl, _, _, _, _, _, _, rfl, (fun h => by rw [hyes] at h; cases h), fun _ => ⟨⟨x1, y1, x2, y2, L⟩, by rw [(hLv hyes).1], rfl, ⟨hf1, hf2⟩, (hLv hyes).2⟩⟩
     ·
      refine WS.eff rfl rfl rfl qD (Ef.buildSliceD (enc := encLn) (parts := [.tmp 38]) [⟨x1, y1, x2, y2, L⟩] tab_ok rfl rfl rfl rfl rfl rfl rfl rfl qD qD (fun a39 => ?_))
      refine ⟨qR, qS, ?_⟩
      refine lL 12 (Rd.add (Rd.blk 5 rfl) _) ?_
      refine WA.eff 15 rfl (by kernel_rfl) rfl rfl (by decide) (Ef.appendD 4 0 tab_ok rfl rfl rfl rfl rfl rfl rfl rfl rfl rfl rfl (fun _ _ => rfl) (by simp only [List.length_cons, List.length_nil]; omega) (by simp only [List.length_cons, List.length_nil]; omega) (fun a40 c40 ha40 => ?_))
      refine ⟨qR, qS, ?_⟩
      refine tP 16 ?_
      refine tP 17 ?_
      refine zCF 18 5 ?_
      refine tP 19 ?_
      refine tP 20 ?_
      refine zCF 21 5 ?_
      refine WA.done qK ?_
      refine zU (zQ (zG (zR 1 rfl (zN (zU (zT (wt ?_)))))))
      refine WE.subE (E' := .sl 9 1 a33 c33 ((ns ++ [nm]).map encT) :: .sl 29 5 a40 c40 ((ms ++ [(⟨x1, y1, x2, y2, L⟩ : LnM)]).map encLn) :: .blk b [.slice a33 (ns ++ [nm]).length c33, .slice a40 (ms ++ [(⟨x1, y1, x2, y2, L⟩ : LnM)]).length c40, .slice none 0 0] :: F) qS ?_
      refine WE.retF tab_ok [_] rfl ⟨rfl, trivial⟩ qR ?_
      exact ⟨by rw [hyes]; rfl, _, _, _, _, _, _, rfl, (fun h => by rw [hyes] at h; cases h), fun _ => ⟨⟨x1, y1, x2, y2, L⟩, by rw [(hLv hyes).1], rfl, ⟨hf1, hf2⟩, (hLv hyes).2⟩⟩
    ·
     refine sL (Rd.add (Rd.blk 4 rfl) _) ?_
     refine WA.br2 (i := 8) (j := 14) qK ?_ ?_
     ·
      refine WS.eff rfl rfl rfl (by decide) (Ef.appendD 2 0 tab_ok rfl rfl rfl rfl rfl rfl rfl rfl rfl rfl rfl (fun _ _ => rfl) (by simp only [List.length_cons, List.length_nil]; omega) (by simp only [List.length_cons, List.length_nil]; omega) (fun a33 c33 ha33 => ?_))
      refine ⟨qR, qS, ?_⟩
      refine WA.eff 14 rfl qK rfl rfl qD (Ef.buildSliceD (enc := encLn) (parts := [.tmp 38]) [⟨x1, y1, x2, y2, L⟩] tab_ok rfl rfl rfl rfl rfl rfl rfl rfl qD qD (fun a39 => ?_))
      refine ⟨qR, qS, ?_⟩
      refine WA.eff 15 rfl (by kernel_rfl) rfl rfl (by decide) (Ef.appendD 4 0 tab_ok rfl rfl rfl rfl rfl rfl rfl rfl rfl rfl rfl (fun _ _ => rfl) (by simp only [List.length_cons, List.length_nil]; omega) (by simp only [List.length_cons, List.length_nil]; omega) (fun a40 c40 ha40 => ?_))
      refine ⟨qR, qS, ?_⟩
      refine tP 16 ?_
      refine tP 17 ?_
      refine zCF 18 5 ?_
      refine tP 19 ?_
      refine tP 20 ?_
      refine zCF 21 5 ?_
      refine WA.done qK ?_
      refine zU (zQ (zG (zR 1 rfl (zN (zU (zT (wt ?_)))))))
      refine WE.subE (E' := .sl 9 1 a33 c33 ((ns ++ [nm]).map encT) :: .sl 29 5 a40 c40 ((ms ++ [(⟨x1, y1, x2, y2, L⟩ : LnM)]).map encLn) :: .blk b [.slice a33 (ns ++ [nm]).length c33, .slice a40 (ms ++ [(⟨x1, y1, x2, y2, L⟩ : LnM)]).length c40, .slice none 0 0] :: F) qS ?_
      refine WE.retF tab_ok [_] rfl ⟨rfl, trivial⟩ qR ?_
      exact ⟨by rw [hyes]; rfl, _, _, _, _, _, _, rfl, (fun h => by rw [hyes] at h; cases h), fun _ => ⟨⟨x1, y1, x2, y2, L⟩, by rw [(hLv hyes).1], rfl, ⟨hf1, hf2⟩, (hLv hyes).2⟩⟩
     ·
      refine WS.eff rfl rfl rfl qD (Ef.buildSliceD (enc := encLn) (parts := [.tmp 38]) [⟨x1, y1, x2, y2, L⟩] tab_ok rfl rfl rfl rfl rfl rfl rfl rfl qD qD (fun a39 => ?_))
      refine ⟨qR, qS, ?_⟩
      refine WA.eff 8 rfl (by kernel_rfl) rfl rfl (by decide) (Ef.appendD 3 1 tab_ok rfl rfl rfl rfl rfl rfl rfl rfl rfl rfl rfl (fun _ _ => rfl) (by simp only [List.length_cons, List.length_nil]; omega) (by simp only [List.length_cons, List.length_nil]; omega) (fun a33 c33 ha33 => ?_))
      refine ⟨qR, qS, ?_⟩
      refine WA.eff 15 rfl (by kernel_rfl) rfl rfl (by decide) (Ef.appendD 4 0 tab_ok rfl rfl rfl rfl rfl rfl rfl rfl rfl rfl rfl (fun _ _ => rfl) (by simp only [List.length_cons, List.length_nil]; omega) (by simp only [List.length_cons, List.length_nil]; omega) (fun a40 c40 ha40 => ?_))
      refine ⟨qR, qS, ?_⟩
      refine tP 16 ?_
      refine tP 17 ?_
      refine zCF 18 5 ?_
      refine tP 19 ?_
      refine tP 20 ?_
      refine zCF 21 5 ?_
      refine WA.done qK ?_
      refine zU (zQ (zG (zR 1 rfl (zN (zU (zT (wt ?_)))))))
      refine WE.subE (E' := .sl 9 1 a33 c33 ((ns ++ [nm]).map encT) :: .sl 29 5 a40 c40 ((ms ++ [(⟨x1, y1, x2, y2, L⟩ : LnM)]).map encLn) :: .blk b [.slice a33 (ns ++ [nm]).length c33, .slice a40 (ms ++ [(⟨x1, y1, x2, y2, L⟩ : LnM)]).length c40, .slice none 0 0] :: F) qS ?_
      refine WE.retF tab_ok [_] rfl ⟨rfl, trivial⟩ qR ?_
      exact ⟨by rw [hyes]; rfl, _, _, _, _, _, _, rfl, (fun h => by rw [hyes] at h; cases h), fun _ => ⟨⟨x1, y1, x2, y2, L⟩, by rw [(hLv hyes).1], rfl, ⟨hf1, hf2⟩, (hLv hyes).2⟩⟩
    ·
     refine WS.eff rfl rfl rfl qD (Ef.buildSliceD (enc := encLn) (parts := [.tmp 38]) [⟨x1, y1, x2, y2, L⟩] tab_ok rfl rfl rfl rfl rfl rfl rfl rfl qD qD (fun a39 => ?_))
     refine ⟨qR, qS, ?_⟩
     refine WA.br2 (i := 8) (j := 12) qK ?_ ?_
     ·
      refine WS.eff rfl rfl rfl (by decide) (Ef.appendD 3 1 tab_ok rfl rfl rfl rfl rfl rfl rfl rfl rfl rfl rfl (fun _ _ => rfl) (by simp only [List.length_cons, List.length_nil]; omega) (by simp only [List.length_cons, List.length_nil]; omega) (fun a33 c33 ha33 => ?_))
      refine ⟨qR, qS, ?_⟩
      refine lL 12 (Rd.add (Rd.blk 5 rfl) _) ?_
      refine WA.eff 15 rfl (by kernel_rfl) rfl rfl (by decide) (Ef.appendD 4 0 tab_ok rfl rfl rfl rfl rfl rfl rfl rfl rfl rfl rfl (fun _ _ => rfl) (by simp only [List.length_cons, List.length_nil]; omega) (by simp only [List.length_cons, List.length_nil]; omega) (fun a40 c40 ha40 => ?_))
      refine ⟨qR, qS, ?_⟩
      refine tP 16 ?_
      refine tP 17 ?_
      refine zCF 18 5 ?_
      refine tP 19 ?_
      refine tP 20 ?_
      refine zCF 21 5 ?_
      refine WA.done qK ?_
      refine zU (zQ (zG (zR 1 rfl (zN (zU (zT (wt ?_)))))))
      refine WE.subE (E' := .sl 9 1 a33 c33 ((ns ++ [nm]).map encT) :: .sl 29 5 a40 c40 ((ms ++ [(⟨x1, y1, x2, y2, L⟩ : LnM)]).map encLn) :: .blk b [.slice a33 (ns ++ [nm]).length c33, .slice a40 (ms ++ [(⟨x1, y1, x2, y2, L⟩ : LnM)]).length c40, .slice none 0 0] :: F) qS ?_
      refine WE.retF tab_ok [_] rfl ⟨rfl, trivial⟩ qR ?_
      exact ⟨by rw [hyes]; rfl, _, _, _, _, _, _, rfl, (fun h => by rw [hyes] at h; cases h), fun _ => ⟨⟨x1, y1, x2, y2, L⟩, by rw [(hLv hyes).1], rfl, ⟨hf1, hf2⟩, (hLv hyes).2⟩⟩
     ·
      refine sL (Rd.add (Rd.blk 5 rfl) _) ?_
      refine WA.eff 8 rfl (by kernel_rfl) rfl rfl (by decide) (Ef.appendD 3 1 tab_ok rfl rfl rfl rfl rfl rfl rfl rfl rfl rfl rfl (fun _ _ => rfl) (by simp only [List.length_cons, List.length_nil]; omega) (by simp only [List.length_cons, List.length_nil]; omega) (fun a33 c33 ha33 => ?_))
      refine ⟨qR, qS, ?_⟩
      refine WA.eff 15 rfl (by kernel_rfl) rfl rfl (by decide) (Ef.appendD 4 0 tab_ok rfl rfl rfl rfl rfl rfl rfl rfl rfl rfl rfl (fun _ _ => rfl) (by simp only [List.length_cons, List.length_nil]; omega) (by simp only [List.length_cons, List.length_nil]; omega) (fun a40 c40 ha40 => ?_))
      refine ⟨qR, qS, ?_⟩
      refine tP 16 ?_
      refine tP 17 ?_
      refine zCF 18 5 ?_
      refine tP 19 ?_
      refine tP 20 ?_
      refine zCF 21 5 ?_
      refine WA.done qK ?_
      refine zU (zQ (zG (zR 1 rfl (zN (zU (zT (wt ?_)))))))
      refine WE.subE (E' := .sl 9 1 a33 c33 ((ns ++ [nm]).map encT) :: .sl 29 5 a40 c40 ((ms ++ [(⟨x1, y1, x2, y2, L⟩ : LnM)]).map encLn) :: .blk b [.slice a33 (ns ++ [nm]).length c33, .slice a40 (ms ++ [(⟨x1, y1, x2, y2, L⟩ : LnM)]).length c40, .slice none 0 0] :: F) qS ?_
      refine WE.retF tab_ok [_] rfl ⟨rfl, trivial⟩ qR ?_
      exact ⟨by rw [hyes]; rfl, _, _, _, _, _, _, rfl, (fun h => by rw [hyes] at h; cases h), fun _ => ⟨⟨x1, y1, x2, y2, L⟩, by rw [(hLv hyes).1], rfl, ⟨hf1, hf2⟩, (hLv hyes).2⟩⟩
   ·
    refine sL (Rd.add (Rd.blk 3 rfl) _) ?_
    refine WA.br2 (i := 7) (j := 14) qK ?_ ?_
    ·
     refine WS.eff rfl rfl rfl qD (Ef.buildSliceD (enc := encT) (parts := [.tmp 31]) [nm] tab_ok rfl rfl rfl rfl rfl rfl rfl rfl qD qD (fun a32 => ?_))
     refine ⟨qR, qS, ?_⟩
     refine WA.br2 (i := 8) (j := 14) qK ?_ ?_
     ·
      refine WS.eff rfl rfl rfl (by decide) (Ef.appendD 2 0 tab_ok rfl rfl rfl rfl rfl rfl rfl rfl rfl rfl rfl (fun _ _ => rfl) (by simp only [List.length_cons, List.length_nil]; omega) (by simp only [List.length_cons, List.length_nil]; omega) (fun a33 c33 ha33 => ?_))
      refine ⟨qR, qS, ?_⟩
      refine WA.eff 14 rfl qK rfl rfl qD (Ef.buildSliceD (enc := encLn) (parts := [.tmp 38]) [⟨x1, y1, x2, y2, L⟩] tab_ok rfl rfl rfl rfl rfl rfl rfl rfl qD qD (fun a39 => ?_))
      refine ⟨qR, qS, ?_⟩
      refine WA.eff 15 rfl (by kernel_rfl) rfl rfl (by decide) (Ef.appendD 4 0 tab_ok rfl rfl rfl rfl rfl rfl rfl rfl rfl rfl rfl (fun _ _ => rfl) (by simp only [List.length_cons, List.length_nil]; omega) (by simp only [List.length_cons, List.length_nil]; omega) (fun a40 c40 ha40 => ?_))
      refine ⟨qR, qS, ?_⟩
      refine tP 16 ?_
      refine tP 17 ?_
      refine zCF 18 5 ?_
      refine tP 19 ?_
      refine tP 20 ?_
      refine zCF 21 5 ?_
      refine WA.done qK ?_
      refine zU (zQ (zG (zR 1 rfl (zN (zU (zT (wt ?_)))))))
      refine WE.subE (E' := .sl 9 1 a33 c33 ((ns ++ [nm]).map encT) :: .sl 29 5 a40 c40 ((ms ++ [(⟨x1, y1, x2, y2, L⟩ : LnM)]).map encLn) :: .blk b [.slice a33 (ns ++ [nm]).length c33, .slice a40 (ms ++ [(⟨x1, y1, x2, y2, L⟩ : LnM)]).length c40, .slice none 0 0] :: F) qS ?_
      refine WE.retF tab_ok [_] rfl ⟨rfl, trivial⟩ qR ?_
      exact ⟨by rw [hyes]; rfl, _, _, _, _, _, _, rfl, (fun h => by rw [hyes] at h; cases h), fun _ => ⟨⟨x1, y1, x2, y2, L⟩, by rw [(hLv hyes).1], rfl, ⟨hf1, hf2⟩, (hLv hyes).2⟩⟩
     ·
      refine WS.eff rfl rfl rfl qD (Ef.buildSliceD (enc := encLn) (parts := [.tmp 38]) [⟨x1, y1, x2, y2, L⟩] tab_ok rfl rfl rfl rfl rfl rfl rfl rfl qD qD (fun a39 => ?_))
      refine ⟨qR, qS, ?_⟩
      refine WA.eff 8 rfl (by kernel_rfl) rfl rfl (by decide) (Ef.appendD 3 1 tab_ok rfl rfl rfl rfl rfl rfl rfl rfl rfl rfl rfl (fun _ _ => rfl) (by simp only [List.length_cons, List.length_nil]; omega) (by simp only [List.length_cons, List.length_nil]; omega) (fun a33 c33 ha33 => ?_))
      refine ⟨qR, qS, ?_⟩
      refine WA.eff 15 rfl (by kernel_rfl) rfl rfl (by decide) (Ef.appendD 4 0 tab_ok rfl rfl rfl rfl rfl rfl rfl rfl rfl rfl rfl (fun _ _ => rfl) (by simp only [List.length_cons, List.length_nil]; omega) (by simp only [List.length_cons, List.length_nil]; omega) (fun a40 c40 ha40 => ?_))
      refine ⟨qR, qS, ?_⟩
      refine tP 16 ?_
      refine tP 17 ?_
      refine zCF 18 5 ?_
      refine tP 19 ?_
      refine tP 20 ?_
      refine zCF 21 5 ?_
      refine WA.done qK ?_
      refine zU (zQ (zG (zR 1 rfl (zN (zU (zT (wt ?_)))))))
      refine WE.subE (E' := .sl 9 1 a33 c33 ((ns ++ [nm]).map encT) :: .sl 29 5 a40 c40 ((ms ++ [(⟨x1, y1, x2, y2, L⟩ : LnM)]).map encLn) :: .blk b [.slice a33 (ns ++ [nm]).length c33, .slice a40 (ms ++ [(⟨x1, y1, x2, y2, L⟩ : LnM)]).length c40, .slice none 0 0] :: F) qS ?_
      refine WE.retF tab_ok [_] rfl ⟨rfl, trivial⟩ qR ?_
      exact ⟨by rw [hyes]; rfl, _, _, _, _, _, _, rfl, (fun h => by rw [hyes] at h; cases h), fun _ => ⟨⟨x1, y1, x2, y2, L⟩, by rw [(hLv hyes).1], rfl, ⟨hf1, hf2⟩, (hLv hyes).2⟩⟩
    ·
     refine WS.eff rfl rfl rfl qD (Ef.buildSliceD (enc := encLn) (parts := [.tmp 38]) [⟨x1, y1, x2, y2, L⟩] tab_ok rfl rfl rfl rfl rfl rfl rfl rfl qD qD (fun a39 => ?_))
     refine ⟨qR, qS, ?_⟩
     refine WA.eff 7 rfl qK rfl rfl qD (Ef.buildSliceD (enc := encT) (parts := [.tmp 31]) [nm] tab_ok rfl rfl rfl rfl rfl rfl rfl rfl qD qD (fun a32 => ?_))
     refine ⟨qR, qS, ?_⟩
     refine WA.eff 8 rfl (by kernel_rfl) rfl rfl (by decide) (Ef.appendD 3 0 tab_ok rfl rfl rfl rfl rfl rfl rfl rfl rfl rfl rfl (fun _ _ => rfl) (by simp only [List.length_cons, List.length_nil]; omega) (by simp only [List.length_cons, List.length_nil]; omega) (fun a33 c33 ha33 => ?_))
     refine ⟨qR, qS, ?_⟩
     refine WA.eff 15 rfl (by kernel_rfl) rfl rfl (by decide) (Ef.appendD 4 1 tab_ok rfl rfl rfl rfl rfl rfl rfl rfl rfl rfl rfl (fun _ _ => rfl) (by simp only [List.length_cons, List.length_nil]; omega) (by simp only [List.length_cons, List.length_nil]; omega) (fun a40 c40 ha40 => ?_))
     refine ⟨qR, qS, ?_⟩
     refine tP 16 ?_
     refine tP 17 ?_
     refine zCF 18 5 ?_
     refine tP 19 ?_
     refine tP 20 ?_
     refine zCF 21 5 ?_
     refine WA.done qK ?_
     refine zU (zQ (zG (zR 1 rfl (zN (zU (zT (wt ?_)))))))
     refine WE.subE (E' := .sl 9 1 a33 c33 ((ns ++ [nm]).map encT) :: .sl 29 5 a40 c40 ((ms ++ [(⟨x1, y1, x2, y2, L⟩ : LnM)]).map encLn) :: .blk b [.slice a33 (ns ++ [nm]).length c33, .slice a40 (ms ++ [(⟨x1, y1, x2, y2, L⟩ : LnM)]).length c40, .slice none 0 0] :: F) qS ?_
     refine WE.retF tab_ok [_] rfl ⟨rfl, trivial⟩ qR ?_
     exact ⟨by rw [hyes]; rfl, _, _, _, _, _, _, rfl, (fun h => by rw [hyes] at h; cases h), fun _ => ⟨⟨x1, y1, x2, y2, L⟩, by rw [(hLv hyes).1], rfl, ⟨hf1, hf2⟩, (hLv hyes).2⟩⟩
   ·
    refine WS.eff rfl rfl rfl qD (Ef.buildSliceD (enc := encLn) (parts := [.tmp 38]) [⟨x1, y1, x2, y2, L⟩] tab_ok rfl rfl rfl rfl rfl rfl rfl rfl qD qD (fun a39 => ?_))
    refine ⟨qR, qS, ?_⟩
    refine WA.br2 (i := 7) (j := 12) qK ?_ ?_
    ·
     refine WS.eff rfl rfl rfl qD (Ef.buildSliceD (enc := encT) (parts := [.tmp 31]) [nm] tab_ok rfl rfl rfl rfl rfl rfl rfl rfl qD qD (fun a32 => ?_))
     refine ⟨qR, qS, ?_⟩
     refine WA.br2 (i := 8) (j := 12) qK ?_ ?_
     ·
      refine WS.eff rfl rfl rfl (by decide) (Ef.appendD 3 0 tab_ok rfl rfl rfl rfl rfl rfl rfl rfl rfl rfl rfl (fun _ _ => rfl) (by simp only [List.length_cons, List.length_nil]; omega) (by simp only [List.length_cons, List.length_nil]; omega) (fun a33 c33 ha33 => ?_))
      refine ⟨qR, qS, ?_⟩
      refine lL 12 (Rd.add (Rd.blk 5 rfl) _) ?_
      refine WA.eff 15 rfl (by kernel_rfl) rfl rfl (by decide) (Ef.appendD 4 1 tab_ok rfl rfl rfl rfl rfl rfl rfl rfl rfl rfl rfl (fun _ _ => rfl) (by simp only [List.length_cons, List.length_nil]; omega) (by simp only [List.length_cons, List.length_nil]; omega) (fun a40 c40 ha40 => ?_))
      refine ⟨qR, qS, ?_⟩
      refine tP 16 ?_
      refine tP 17 ?_
      refine zCF 18 5 ?_
      refine tP 19 ?_
      refine tP 20 ?_
      refine zCF 21 5 ?_
      refine WA.done qK ?_
      refine zU (zQ (zG (zR 1 rfl (zN (zU (zT (wt ?_)))))))
      refine WE.subE (E' := .sl 9 1 a33 c33 ((ns ++ [nm]).map encT) :: .sl 29 5 a40 c40 ((ms ++ [(⟨x1, y1, x2, y2, L⟩ : LnM)]).map encLn) :: .blk b [.slice a33 (ns ++ [nm]).length c33, .slice a40 (ms ++ [(⟨x1, y1, x2, y2, L⟩ : LnM)]).length c40, .slice none 0 0] :: F) qS ?_
      refine WE.retF tab_ok [_] rfl ⟨rfl, trivial⟩ qR ?_
      exact ⟨by rw [hyes]; rfl, _, _, _, _, _, _, rfl, (fun h => by rw [hyes] at h; cases h), fun _ => ⟨⟨x1, y1, x2, y2, L⟩, by rw [(hLv hyes).1], rfl, ⟨hf1, hf2⟩, (hLv hyes).2⟩⟩
     ·
      refine sL (Rd.add (Rd.blk 5 rfl) _) ?_
      refine WA.eff 8 rfl (by kernel_rfl) rfl rfl (by decide) (Ef.appendD 3 0 tab_ok rfl rfl rfl rfl rfl rfl rfl rfl rfl rfl rfl (fun _ _ => rfl) (by simp only [List.length_cons, List.length_nil]; omega) (by simp only [List.length_cons, List.length_nil]; omega) (fun a33 c33 ha33 => ?_))
      refine ⟨qR, qS, ?_⟩
      refine WA.eff 15 rfl (by kernel_rfl) rfl rfl (by decide) (Ef.appendD 4 1 tab_ok rfl rfl rfl rfl rfl rfl rfl rfl rfl rfl rfl (fun _ _ => rfl) (by simp only [List.length_cons, List.length_nil]; omega) (by simp only [List.length_cons, List.length_nil]; omega) (fun a40 c40 ha40 => ?_))
      refine ⟨qR, qS, ?_⟩
      refine tP 16 ?_
      refine tP 17 ?_
      refine zCF 18 5 ?_
      refine tP 19 ?_
      refine tP 20 ?_
      refine zCF 21 5 ?_
      refine WA.done qK ?_
      refine zU (zQ (zG (zR 1 rfl (zN (zU (zT (wt ?_)))))))
      refine WE.subE (E' := .sl 9 1 a33 c33 ((ns ++ [nm]).map encT) :: .sl 29 5 a40 c40 ((ms ++ [(⟨x1, y1, x2, y2, L⟩ : LnM)]).map encLn) :: .blk b [.slice a33 (ns ++ [nm]).length c33, .slice a40 (ms ++ [(⟨x1, y1, x2, y2, L⟩ : LnM)]).length c40, .slice none 0 0] :: F) qS ?_
      refine WE.retF tab_ok [_] rfl ⟨rfl, trivial⟩ qR ?_
      exact ⟨by rw [hyes]; rfl, _, _, _, _, _, _, rfl, (fun h => by rw [hyes] at h; cases h), fun _ => ⟨⟨x1, y1, x2, y2, L⟩, by rw [(hLv hyes).1], rfl, ⟨hf1, hf2⟩, (hLv hyes).2⟩⟩
    ·
     refine sL (Rd.add (Rd.blk 4 rfl) _) ?_
     refine WA.eff 7 rfl qK rfl rfl qD (Ef.buildSliceD (enc := encT) (parts := [.tmp 31]) [nm] tab_ok rfl rfl rfl rfl rfl rfl rfl rfl qD qD (fun a32 => ?_))
     refine ⟨qR, qS, ?_⟩
     refine WA.eff 8 rfl (by kernel_rfl) rfl rfl (by decide) (Ef.appendD 3 0 tab_ok rfl rfl rfl rfl rfl rfl rfl rfl rfl rfl rfl (fun _ _ => rfl) (by simp only [List.length_cons, List.length_nil]; omega) (by simp only [List.length_cons, List.length_nil]; omega) (fun a33 c33 ha33 => ?_))
     refine ⟨qR, qS, ?_⟩
     refine WA.eff 15 rfl (by kernel_rfl) rfl rfl (by decide) (Ef.appendD 4 1 tab_ok rfl rfl rfl rfl rfl rfl rfl rfl rfl rfl rfl (fun _ _ => rfl) (by simp only [List.length_cons, List.length_nil]; omega) (by simp only [List.length_cons, List.length_nil]; omega) (fun a40 c40 ha40 => ?_))
     refine ⟨qR, qS, ?_⟩
     refine tP 16 ?_
     refine tP 17 ?_
     refine zCF 18 5 ?_
     refine tP 19 ?_
     refine tP 20 ?_
     refine zCF 21 5 ?_
     refine WA.done qK ?_
     refine zU (zQ (zG (zR 1 rfl (zN (zU (zT (wt ?_)))))))
     refine WE.subE (E' := .sl 9 1 a33 c33 ((ns ++ [nm]).map encT) :: .sl 29 5 a40 c40 ((ms ++ [(⟨x1, y1, x2, y2, L⟩ : LnM)]).map encLn) :: .blk b [.slice a33 (ns ++ [nm]).length c33, .slice a40 (ms ++ [(⟨x1, y1, x2, y2, L⟩ : LnM)]).length c40, .slice none 0 0] :: F) qS ?_
     refine WE.retF tab_ok [_] rfl ⟨rfl, trivial⟩ qR ?_
     exact ⟨by rw [hyes]; rfl, _, _, _, _, _, _, rfl, (fun h => by rw [hyes] at h; cases h), fun _ => ⟨⟨x1, y1, x2, y2, L⟩, by rw [(hLv hyes).1], rfl, ⟨hf1, hf2⟩, (hLv hyes).2⟩⟩
  ·
   refine WS.eff rfl rfl rfl qD (Ef.buildSliceD (enc := encT) (parts := [.tmp 31]) [nm] tab_ok rfl rfl rfl rfl rfl rfl rfl rfl qD qD (fun a32 => ?_))
   refine ⟨qR, qS, ?_⟩
   refine WA.br3 (i := 5) (j := 12) (k := 14) qK ?_ ?_ ?_
   ·
    refine sL (Rd.add (Rd.blk 4 rfl) _) ?_
    refine WA.br3 (i := 8) (j := 12) (k := 14) qK ?_ ?_ ?_
    ·
     refine WS.eff rfl rfl rfl (by decide) (Ef.appendD 2 0 tab_ok rfl rfl rfl rfl rfl rfl rfl rfl rfl rfl rfl (fun _ _ => rfl) (by simp only [List.length_cons, List.length_nil]; omega) (by simp only [List.length_cons, List.length_nil]; omega) (fun a33 c33 ha33 => ?_))
     refine ⟨qR, qS, ?_⟩
     refine WA.br2 (i := 12) (j := 14) qK ?_ ?_
     ·
      refine sL (Rd.add (Rd.blk 4 rfl) _) ?_
      refine WA.eff 14 rfl qK rfl rfl qD (Ef.buildSliceD (enc := encLn) (parts := [.tmp 38]) [⟨x1, y1, x2, y2, L⟩] tab_ok rfl rfl rfl rfl rfl rfl rfl rfl qD qD (fun a39 => ?_))
      refine ⟨qR, qS, ?_⟩
      refine WA.eff 15 rfl (by kernel_rfl) rfl rfl (by decide) (Ef.appendD 4 0 tab_ok rfl rfl rfl rfl rfl rfl rfl rfl rfl rfl rfl (fun _ _ => rfl) (by simp only [List.length_cons, List.length_nil]; omega) (by simp only [List.length_cons, List.length_nil]; omega) (fun a40 c40 ha40 => ?_))
      refine ⟨qR, qS, ?_⟩
      refine tP 16 ?_
      refine tP 17 ?_
      refine zCF 18 5 ?_
      refine tP 19 ?_
      refine tP 20 ?_
      refine zCF 21 5 ?_
      refine WA.done qK ?_
      refine zU (zQ (zG (zR 1 rfl (zN (zU (zT (wt ?_)))))))
      refine WE.subE (E' := .sl 9 1 a33 c33 ((ns ++ [nm]).map encT) :: .sl 29 5 a40 c40 ((ms ++ [(⟨x1, y1, x2, y2, L⟩ : LnM)]).map encLn) :: .blk b [.slice a33 (ns ++ [nm]).length c33, .slice a40 (ms ++ [(⟨x1, y1, x2, y2, L⟩ : LnM)]).length c40, .slice none 0 0] :: F) qS ?_
      refine WE.retF tab_ok [_] rfl ⟨rfl, trivial⟩ qR ?_
      exact ⟨by rw [hyes]; rfl, _, _, _, _, _, _, rfl, (fun h => by rw [hyes] at h; cases h), fun _ => ⟨⟨x1, y1, x2, y2, L⟩, by rw [(hLv hyes).1], rfl, ⟨hf1, hf2⟩, (hLv hyes).2⟩⟩
     ·
      refine WS.eff rfl rfl rfl qD (Ef.buildSliceD (enc := encLn) (parts := [.tmp 38]) [⟨x1, y1, x2, y2, L⟩] tab_ok rfl rfl rfl rfl rfl rfl rfl rfl qD qD (fun a39 => ?_))
      refine ⟨qR, qS, ?_⟩
      refine lL 12 (Rd.add (Rd.blk 5 rfl) _) ?_
      refine WA.eff 15 rfl (by kernel_rfl) rfl rfl (by decide) (Ef.appendD 4 0 tab_ok rfl rfl rfl rfl rfl rfl rfl rfl rfl rfl rfl (fun _ _ => rfl) (by simp only [List.length_cons, List.length_nil]; omega) (by simp only [List.length_cons, List.length_nil]; omega) (fun a40 c40 ha40 => ?_))
      refine ⟨qR, qS, ?_⟩
      refine tP 16 ?_
      refine tP 17 ?_
      refine zCF 18 5 ?_
      refine tP 19 ?_
      refine tP 20 ?_
      refine zCF 21 5 ?_
      refine WA.done qK ?_
      refine zU (zQ (zG (zR 1 rfl (zN (zU (zT (wt ?_)))))))
      refine WE.subE (E' := .sl 9 1 a33 c33 ((ns ++ [nm]).map encT) :: .sl 29 5 a40 c40 ((ms ++ [(⟨x1, y1, x2, y2, L⟩ : LnM)]).map encLn) :: .blk b [.slice a33 (ns ++ [nm]).length c33, .slice a40 (ms ++ [(⟨x1, y1, x2, y2, L⟩ : LnM)]).length c40, .slice none 0 0] :: F) qS ?_
      refine WE.retF tab_ok [_] rfl ⟨rfl, trivial⟩ qR ?_
      exact ⟨by rw [hyes]; rfl, _, _, _, _, _, _, rfl, (fun h => by rw [hyes] at h; cases h), fun _ => ⟨⟨x1, y1, x2, y2, L⟩, by rw [(hLv hyes).1], rfl, ⟨hf1, hf2⟩, (hLv hyes).2⟩⟩
    ·
     refine sL (Rd.add (Rd.blk 4 rfl) _) ?_
     refine WA.br2 (i := 8) (j := 14) qK ?_ ?_
     ·
      refine WS.eff rfl rfl rfl (by decide) (Ef.appendD 2 0 tab_ok rfl rfl rfl rfl rfl rfl rfl rfl rfl rfl rfl (fun _ _ => rfl) (by simp only [List.length_cons, List.length_nil]; omega) (by simp only [List.length_cons, List.length_nil]; omega) (fun a33 c33 ha33 => ?_))
      refine ⟨qR, qS, ?_⟩
      refine WA.eff 14 rfl qK rfl rfl qD (Ef.buildSliceD (enc := encLn) (parts := [.tmp 38]) [⟨x1, y1, x2, y2, L⟩] tab_ok rfl rfl rfl rfl rfl rfl rfl rfl qD qD (fun a39 => ?_))
      refine ⟨qR, qS, ?_⟩
      refine WA.eff 15 rfl (by kernel_rfl) rfl rfl (by decide) (Ef.appendD 4 0 tab_ok rfl rfl rfl rfl rfl rfl rfl rfl rfl rfl rfl (fun _ _ => rfl) (by simp only [List.length_cons, List.length_nil]; omega) (by simp only [List.length_cons, List.length_nil]; omega) (fun a40 c40 ha40 => ?_))
      refine ⟨qR, qS, ?_⟩
      refine tP 16 ?_
      refine tP 17 ?_
      refine zCF 18 5 ?_
      refine tP 19 ?_
      refine tP 20 ?_
      refine zCF 21 5 ?_
      refine WA.done qK ?_
      refine zU (zQ (zG (zR 1 rfl (zN (zU (zT (wt ?_)))))))
      refine WE.subE (E' := .sl 9 1 a33 c33 ((ns ++ [nm]).map encT) :: .sl 29 5 a40 c40 ((ms ++ [(⟨x1, y1, x2, y2, L⟩ : LnM)]).map encLn) :: .blk b [.slice a33 (ns ++ [nm]).length c33, .slice a40 (ms ++ [(⟨x1, y1, x2, y2, L⟩ : LnM)]).length c40, .slice none 0 0] :: F) qS ?_
      refine WE.retF tab_ok [_] rfl ⟨rfl, trivial⟩ qR ?_
      exact ⟨by rw [hyes]; rfl, _, _, _, _, _, _, rfl, (fun h => by rw [hyes] at h; cases h), fun _ => ⟨⟨x1, y1, x2, y2, L⟩, by rw [(hLv hyes).1], rfl, ⟨hf1, hf2⟩, (hLv hyes).2⟩⟩
     ·
      refine WS.eff rfl rfl rfl qD (Ef.buildSliceD (enc := encLn) (parts := [.tmp 38]) [⟨x1, y1, x2, y2, L⟩] tab_ok rfl rfl rfl rfl rfl rfl rfl rfl qD qD (fun a39 => ?_))
      refine ⟨qR, qS, ?_⟩
      refine WA.eff 8 rfl (by kernel_rfl) rfl rfl (by decide) (Ef.appendD 3 1 tab_ok rfl rfl rfl rfl rfl rfl rfl rfl rfl rfl rfl (fun _ _ => rfl) (by simp only [List.length_cons, List.length_nil]; omega) (by simp only [List.length_cons, List.length_nil]; omega) (fun a33 c33 ha33 => ?_))
      refine ⟨qR, qS, ?_⟩
      refine WA.eff 15 rfl (by kernel_rfl) rfl rfl (by decide) (Ef.appendD 4 0 tab_ok rfl rfl rfl rfl rfl rfl rfl rfl rfl rfl rfl (fun _ _ => rfl) (by simp only [List.length_cons, List.length_nil]; omega) (by simp only [List.length_cons, List.length_nil]; omega) (fun a40 c40 ha40 => ?_))
      refine ⟨qR, qS, ?_⟩
      refine tP 16 ?_
      refine tP 17 ?_
      refine zCF 18 5 ?_
      refine tP 19 ?_
      refine tP 20 ?_
      refine zCF 21 5 ?_
      refine WA.done qK ?_
      refine zU (zQ (zG (zR 1 rfl (zN (zU (zT (wt ?_)))))))
      refine WE.subE (E' := .sl 9 1 a33 c33 ((ns ++ [nm]).map encT) :: .sl 29 5 a40 c40 ((ms ++ [(⟨x1, y1, x2, y2, L⟩ : LnM)]).map encLn) :: .blk b [.slice a33 (ns ++ [nm]).length c33, .slice a40 (ms ++ [(⟨x1, y1, x2, y2, L⟩ : LnM)]).length c40, .slice none 0 0] :: F) qS ?_
      refine WE.retF tab_ok [_] rfl ⟨rfl, trivial⟩ qR ?_
      exact ⟨by rw [hyes]; rfl, _, _, _, _, _, _, rfl, (fun h => by rw [hyes] at h; cases h), fun _ => ⟨⟨x1, y1, x2, y2, L⟩, by rw [(hLv hyes).1], rfl, ⟨hf1, hf2⟩, (hLv hyes).2⟩⟩
    ·
     refine WS.eff rfl rfl rfl qD (Ef.buildSliceD (enc := encLn) (parts := [.tmp 38]) [⟨x1, y1, x2, y2, L⟩] tab_ok rfl rfl rfl rfl rfl rfl rfl rfl qD qD (fun a39 => ?_))
     refine ⟨qR, qS, ?_⟩
     refine WA.br2 (i := 8) (j := 12) qK ?_ ?_
     ·
      refine WS.eff rfl rfl rfl (by decide) (Ef.appendD 3 1 tab_ok rfl rfl rfl rfl rfl rfl rfl rfl rfl rfl rfl (fun _ _ => rfl) (by simp only [List.length_cons, List.length_nil]; omega) (by simp only [List.length_cons, List.length_nil]; omega) (fun a33 c33 ha33 => ?_))
      refine ⟨qR, qS, ?_⟩
      refine lL 12 (Rd.add (Rd.blk 5 rfl) _) ?_
      refine WA.eff 15 rfl (by kernel_rfl) rfl rfl (by decide) (Ef.appendD 4 0 tab_ok rfl rfl rfl rfl rfl rfl rfl rfl rfl rfl rfl (fun _ _ => rfl) (by simp only [List.length_cons, List.length_nil]; omega) (by simp only [List.length_cons, List.length_nil]; omega) (fun a40 c40 ha40 => ?_))
      refine ⟨qR, qS, ?_⟩
      refine tP 16 ?_
      refine tP 17 ?_
      refine zCF 18 5 ?_
      refine tP 19 ?_
      refine tP 20 ?_
      refine zCF 21 5 ?_
      refine WA.done qK ?_
      refine zU (zQ (zG (zR 1 rfl (zN (zU (zT (wt ?_)))))))
      refine WE.subE (E' := .sl 9 1 a33 c33 ((ns ++ [nm]).map encT) :: .sl 29 5 a40 c40 ((ms ++ [(⟨x1, y1, x2, y2, L⟩ : LnM)]).map encLn) :: .blk b [.slice a33 (ns ++ [nm]).length c33, .slice a40 (ms ++ [(⟨x1, y1, x2, y2, L⟩ : LnM)]).length c40, .slice none 0 0] :: F) qS ?_
      refine WE.retF tab_ok [_] rfl ⟨rfl, trivial⟩ qR ?_
      exact ⟨by rw [hyes]; rfl, _, _, _, _, _, _, rfl, (fun h => by rw [hyes] at h; cases h), fun _ => ⟨⟨x1, y1, x2, y2, L⟩, by rw [(hLv hyes).1], rfl, ⟨hf1, hf2⟩, (hLv hyes).2⟩⟩
     ·
      refine sL (Rd.add (Rd.blk 5 rfl) _) ?_
      refine WA.eff 8 rfl (by kernel_rfl) rfl rfl (by decide) (Ef.appendD 3 1 tab_ok rfl rfl rfl rfl rfl rfl rfl rfl rfl rfl rfl (fun _ _ => rfl) (by simp only [List.length_cons, List.length_nil]; omega) (by simp only [List.length_cons, List.length_nil]; omega) (fun a33 c33 ha33 => ?_))
      refine ⟨qR, qS, ?_⟩
      refine WA.eff 15 rfl (by kernel_rfl) rfl rfl (by decide) (Ef.appendD 4 0 tab_ok rfl rfl rfl rfl rfl rfl rfl rfl rfl rfl rfl (fun _ _ => rfl) (by simp only [List.length_cons, List.length_nil]; omega) (by simp only [List.length_cons, List.length_nil]; omega) (fun a40 c40 ha40 => ?_))
      refine ⟨qR, qS, ?_⟩
      refine tP 16 ?_
      refine tP 17 ?_
      refine zCF 18 5 ?_
      refine tP 19 ?_
      refine tP 20 ?_
      refine zCF 21 5 ?_
      refine WA.done qK ?_
      refine zU (zQ (zG (zR 1 rfl (zN (zU (zT (wt ?_)))))))
      refine WE.subE (E' := .sl 9 1 a33 c33 ((ns ++ [nm]).map encT) :: .sl 29 5 a40 c40 ((ms ++ [(⟨x1, y1, x2, y2, L⟩ : LnM)]).map encLn) :: .blk b [.slice a33 (ns ++ [nm]).length c33, .slice a40 (ms ++ [(⟨x1, y1, x2, y2, L⟩ : LnM)]).length c40, .slice none 0 0] :: F) qS ?_
      refine WE.retF tab_ok [_] rfl ⟨rfl, trivial⟩ qR ?_
      exact ⟨by rw [hyes]; rfl, _, _, _, _, _, _, rfl, (fun h => by rw [hyes] at h; cases h), fun _ => ⟨⟨x1, y1, x2, y2, L⟩, by rw [(hLv hyes).1], rfl, ⟨hf1, hf2⟩, (hLv hyes).2⟩⟩
   ·
    refine sL (Rd.add (Rd.blk 4 rfl) _) ?_
    refine WA.br2 (i := 5) (j := 14) qK ?_ ?_
    ·
     refine sL (Rd.add (Rd.blk 4 rfl) _) ?_
     refine WA.br2 (i := 8) (j := 14) qK ?_ ?_
     ·
      refine WS.eff rfl rfl rfl (by decide) (Ef.appendD 2 0 tab_ok rfl rfl rfl rfl rfl rfl rfl rfl rfl rfl rfl (fun _ _ => rfl) (by simp only [List.length_cons, List.length_nil]; omega) (by simp only [List.length_cons, List.length_nil]; omega) (fun a33 c33 ha33 => ?_))
      refine ⟨qR, qS, ?_⟩
      refine WA.eff 14 rfl qK rfl rfl qD (Ef.buildSliceD (enc := encLn) (parts := [.tmp 38]) [⟨x1, y1, x2, y2, L⟩] tab_ok rfl rfl rfl rfl rfl rfl rfl rfl qD qD (fun a39 => ?_))
      refine ⟨qR, qS, ?_⟩
      refine WA.eff 15 rfl (by kernel_rfl) rfl rfl (by decide) (Ef.appendD 4 0 tab_ok rfl rfl rfl rfl rfl rfl rfl rfl rfl rfl rfl (fun _ _ => rfl) (by simp only [List.length_cons, List.length_nil]; omega) (by simp only [List.length_cons, List.length_nil]; omega) (fun a40 c40 ha40 => ?_))
      refine ⟨qR, qS, ?_⟩
      refine tP 16 ?_
      refine tP 17 ?_
      refine zCF 18 5 ?_
      refine tP 19 ?_
      refine tP 20 ?_
      refine zCF 21 5 ?_
      refine WA.done qK ?_
      refine zU (zQ (zG (zR 1 rfl (zN (zU (zT (wt ?_)))))))
      refine WE.subE (E' := .sl 9 1 a33 c33 ((ns ++ [nm]).map encT) :: .sl 29 5 a40 c40 ((ms ++ [(⟨x1, y1, x2, y2, L⟩ : LnM)]).map encLn) :: .blk b [.slice a33 (ns ++ [nm]).length c33, .slice a40 (ms ++ [(⟨x1, y1, x2, y2, L⟩ : LnM)]).length c40, .slice none 0 0] :: F) qS ?_
      refine WE.retF tab_ok [_] rfl ⟨rfl, trivial⟩ qR ?_
      exact ⟨by rw [hyes]; rfl, _, _, _, _, _, _, rfl, (fun h => by rw [hyes] at h; cases h), fun _ => ⟨⟨x1, y1, x2, y2, L⟩, by rw [(hLv hyes).1], rfl, ⟨hf1, hf2⟩, (hLv hyes).2⟩⟩
     ·
      refine WS.eff rfl rfl rfl qD (Ef.buildSliceD (enc := encLn) (parts := [.tmp 38]) [⟨x1, y1, x2, y2, L⟩] tab_ok rfl rfl rfl rfl rfl rfl rfl rfl qD qD (fun a39 => ?_))
      refine ⟨qR, qS, ?_⟩
      refine WA.eff 8 rfl (by kernel_rfl) rfl rfl (by decide) (Ef.appendD 3 1 tab_ok rfl rfl rfl rfl rfl rfl rfl rfl rfl rfl rfl (fun _ _ => rfl) (by simp only [List.length_cons, List.length_nil]; omega) (by simp only [List.length_cons, List.length_nil]; omega) (fun a33 c33 ha33 => ?_))
      refine ⟨qR, qS, ?_⟩
      refine WA.eff 15 rfl (by kernel_rfl) rfl rfl (by decide) (Ef.appendD 4 0 tab_ok rfl rfl rfl rfl rfl rfl rfl rfl rfl rfl rfl (fun _ _ => rfl) (by simp only [List.length_cons, List.length_nil]; omega) (by simp only [List.length_cons, List.length_nil]; omega) (fun a40 c40 ha40 => ?_))
      refine ⟨qR, qS, ?_⟩
      refine tP 16 ?_
      refine tP 17 ?_
      refine zCF 18 5 ?_
      refine tP 19 ?_
      refine tP 20 ?_
      refine zCF 21 5 ?_
      refine WA.done qK ?_
      refine zU (zQ (zG (zR 1 rfl (zN (zU (zT (wt ?_)))))))
      refine WE.subE (E' := .sl 9 1 a33 c33 ((ns ++ [nm]).map encT) :: .sl 29 5 a40 c40 ((ms ++ [(⟨x1, y1, x2, y2, L⟩ : LnM)]).map encLn) :: .blk b [.slice a33 (ns ++ [nm]).length c33, .slice a40 (ms ++ [(⟨x1, y1, x2, y2, L⟩ : LnM)]).length c40, .slice none 0 0] :: F) qS ?_
      refine WE.retF tab_ok [_] rfl ⟨rfl, trivial⟩ qR ?_
      exact ⟨by rw [hyes]; rfl, _, _, _, _, _, _, rfl, (fun h => by rw [hyes] at h; cases h), fun _ => ⟨⟨x1, y1, x2, y2, L⟩, by rw [(hLv hyes).1], rfl, ⟨hf1, hf2⟩, (hLv hyes).2⟩⟩
    ·
     refine WS.eff rfl rfl rfl qD (Ef.buildSliceD (enc := encLn) (parts := [.tmp 38]) [⟨x1, y1, x2, y2, L⟩] tab_ok rfl rfl rfl rfl rfl rfl rfl rfl qD qD (fun a39 => ?_))
     refine ⟨qR, qS, ?_⟩
     refine lL 5 (Rd.add (Rd.blk 5 rfl) _) ?_
     refine WA.eff 8 rfl (by kernel_rfl) rfl rfl (by decide) (Ef.appendD 3 1 tab_ok rfl rfl rfl rfl rfl rfl rfl rfl rfl rfl rfl (fun _ _ => rfl) (by simp only [List.length_cons, List.length_nil]; omega) (by simp only [List.length_cons, List.length_nil]; omega) (fun a33 c33 ha33 => ?_))
     refine ⟨qR, qS, ?_⟩
     refine WA.eff 15 rfl (by kernel_rfl) rfl rfl (by decide) (Ef.appendD 4 0 tab_ok rfl rfl rfl rfl rfl rfl rfl rfl rfl rfl rfl (fun _ _ => rfl) (by simp only [List.length_cons, List.length_nil]; omega) (by simp only [List.length_cons, List.length_nil]; omega) (fun a40 c40 ha40 => ?_))
     refine ⟨qR, qS, ?_⟩
     refine tP 16 ?_
     refine tP 17 ?_
     refine zCF 18 5 ?_
     refine tP 19 ?_
     refine tP 20 ?_
     refine zCF 21 5 ?_
     refine WA.done qK ?_
     refine zU (zQ (zG (zR 1 rfl (zN (zU (zT (wt ?_)))))))
     refine WE.subE (E' := .sl 9 1 a33 c33 ((ns ++ [nm]).map encT) :: .sl 29 5 a40 c40 ((ms ++ [(⟨x1, y1, x2, y2, L⟩ : LnM)]).map encLn) :: .blk b [.slice a33 (ns ++ [nm]).length c33, .slice a40 (ms ++ [(⟨x1, y1, x2, y2, L⟩ : LnM)]).length c40, .slice none 0 0] :: F) qS ?_
     refine WE.retF tab_ok [_] rfl ⟨rfl, trivial⟩ qR ?_
     exact ⟨by rw [hyes]; rfl, _, _, _, _, _, _, rfl, (fun h => by rw [hyes] at h; cases h), fun _ => ⟨⟨x1, y1, x2, y2, L⟩, by rw [(hLv hyes).1], rfl, ⟨hf1, hf2⟩, (hLv hyes).2⟩⟩
   ·
    refine WS.eff rfl rfl rfl qD (Ef.buildSliceD (enc := encLn) (parts := [.tmp 38]) [⟨x1, y1, x2, y2, L⟩] tab_ok rfl rfl rfl rfl rfl rfl rfl rfl qD qD (fun a39 => ?_))
    refine ⟨qR, qS, ?_⟩
    refine WA.br2 (i := 5) (j := 12) qK ?_ ?_
    ·
     refine sL (Rd.add (Rd.blk 5 rfl) _) ?_
     refine WA.br2 (i := 8) (j := 12) qK ?_ ?_
     ·
      refine WS.eff rfl rfl rfl (by decide) (Ef.appendD 3 1 tab_ok rfl rfl rfl rfl rfl rfl rfl rfl rfl rfl rfl (fun _ _ => rfl) (by simp only [List.length_cons, List.length_nil]; omega) (by simp only [List.length_cons, List.length_nil]; omega) (fun a33 c33 ha33 => ?_))
      refine ⟨qR, qS, ?_⟩
      refine lL 12 (Rd.add (Rd.blk 5 rfl) _) ?_
      refine WA.eff 15 rfl (by kernel_rfl) rfl rfl (by decide) (Ef.appendD 4 0 tab_ok rfl rfl rfl rfl rfl rfl rfl rfl rfl rfl rfl (fun _ _ => rfl) (by simp only [List.length_cons, List.length_nil]; omega) (by simp only [List.length_cons, List.length_nil]; omega) (fun a40 c40 ha40 => ?_))
      refine ⟨qR, qS, ?_⟩
      refine tP 16 ?_
      refine tP 17 ?_
      refine zCF 18 5 ?_
      refine tP 19 ?_
      refine tP 20 ?_
      refine zCF 21 5 ?_
      refine WA.done qK ?_
      refine zU (zQ (zG (zR 1 rfl (zN (zU (zT (wt ?_)))))))
      refine WE.subE (E' := .sl 9 1 a33 c33 ((ns ++ [nm]).map encT) :: .sl 29 5 a40 c40 ((ms ++ [(⟨x1, y1, x2, y2, L⟩ : LnM)]).map encLn) :: .blk b [.slice a33 (ns ++ [nm]).length c33, .slice a40 (ms ++ [(⟨x1, y1, x2, y2, L⟩ : LnM)]).length c40, .slice none 0 0] :: F) qS ?_
      refine WE.retF tab_ok [_] rfl ⟨rfl, trivial⟩ qR ?_
      exact ⟨by rw [hyes]; rfl, _, _, _, _, _, _, rfl, (fun h => by rw [hyes] at h; cases h), fun _ => ⟨⟨x1, y1, x2, y2, L⟩, by rw [(hLv hyes).1], rfl, ⟨hf1, hf2⟩, (hLv hyes).2⟩⟩
     ·
      refine sL (Rd.add (Rd.blk 5 rfl) _) ?_
      refine WA.eff 8 rfl (by kernel_rfl) rfl rfl (by decide) (Ef.appendD 3 1 tab_ok rfl rfl rfl rfl rfl rfl rfl rfl rfl rfl rfl (fun _ _ => rfl) (by simp only [List.length_cons, List.length_nil]; omega) (by simp only [List.length_cons, List.length_nil]; omega) (fun a33 c33 ha33 => ?_))
      refine ⟨qR, qS, ?_⟩
      refine WA.eff 15 rfl (by kernel_rfl) rfl rfl (by decide) (Ef.appendD 4 0 tab_ok rfl rfl rfl rfl rfl rfl rfl rfl rfl rfl rfl (fun _ _ => rfl) (by simp only [List.length_cons, List.length_nil]; omega) (by simp only [List.length_cons, List.length_nil]; omega) (fun a40 c40 ha40 => ?_))
      refine ⟨qR, qS, ?_⟩
      refine tP 16 ?_
      refine tP 17 ?_
      refine zCF 18 5 ?_
      refine tP 19 ?_
      refine tP 20 ?_
      refine zCF 21 5 ?_
      refine WA.done qK ?_
      refine zU (zQ (zG (zR 1 rfl (zN (zU (zT (wt ?_)))))))
      refine WE.subE (E' := .sl 9 1 a33 c33 ((ns ++ [nm]).map encT) :: .sl 29 5 a40 c40 ((ms ++ [(⟨x1, y1, x2, y2, L⟩ : LnM)]).map encLn) :: .blk b [.slice a33 (ns ++ [nm]).length c33, .slice a40 (ms ++ [(⟨x1, y1, x2, y2, L⟩ : LnM)]).length c40, .slice none 0 0] :: F) qS ?_
      refine WE.retF tab_ok [_] rfl ⟨rfl, trivial⟩ qR ?_
      exact ⟨by rw [hyes]; rfl, _, _, _, _, _, _, rfl, (fun h => by rw [hyes] at h; cases h), fun _ => ⟨⟨x1, y1, x2, y2, L⟩, by rw [(hLv hyes).1], rfl, ⟨hf1, hf2⟩, (hLv hyes).2⟩⟩
    ·
     refine sL (Rd.add (Rd.blk 5 rfl) _) ?_
     refine lL 5 (Rd.add (Rd.blk 5 rfl) _) ?_
     refine WA.eff 8 rfl (by kernel_rfl) rfl rfl (by decide) (Ef.appendD 3 1 tab_ok rfl rfl rfl rfl rfl rfl rfl rfl rfl rfl rfl (fun _ _ => rfl) (by simp only [List.length_cons, List.length_nil]; omega) (by simp only [List.length_cons, List.length_nil]; omega) (fun a33 c33 ha33 => ?_))
     refine ⟨qR, qS, ?_⟩
     refine WA.eff 15 rfl (by kernel_rfl) rfl rfl (by decide) (Ef.appendD 4 0 tab_ok rfl rfl rfl rfl rfl rfl rfl rfl rfl rfl rfl (fun _ _ => rfl) (by simp only [List.length_cons, List.length_nil]; omega) (by simp only [List.length_cons, List.length_nil]; omega) (fun a40 c40 ha40 => ?_))
     refine ⟨qR, qS, ?_⟩
     refine tP 16 ?_
     refine tP 17 ?_
     refine zCF 18 5 ?_
     refine tP 19 ?_
     refine tP 20 ?_
     refine zCF 21 5 ?_
     refine WA.done qK ?_
     refine zU (zQ (zG (zR 1 rfl (zN (zU (zT (wt ?_)))))))
     refine WE.subE (E' := .sl 9 1 a33 c33 ((ns ++ [nm]).map encT) :: .sl 29 5 a40 c40 ((ms ++ [(⟨x1, y1, x2, y2, L⟩ : LnM)]).map encLn) :: .blk b [.slice a33 (ns ++ [nm]).length c33, .slice a40 (ms ++ [(⟨x1, y1, x2, y2, L⟩ : LnM)]).length c40, .slice none 0 0] :: F) qS ?_
     refine WE.retF tab_ok [_] rfl ⟨rfl, trivial⟩ qR ?_
     exact ⟨by rw [hyes]; rfl, _, _, _, _, _, _, rfl, (fun h => by rw [hyes] at h; cases h), fun _ => ⟨⟨x1, y1, x2, y2, L⟩, by rw [(hLv hyes).1], rfl, ⟨hf1, hf2⟩, (hLv hyes).2⟩⟩
  ·
   refine sL (Rd.add (Rd.blk 3 rfl) _) ?_
   refine WA.br3 (i := 5) (j := 7) (k := 14) qK ?_ ?_ ?_
   ·
    refine sL (Rd.add (Rd.blk 3 rfl) _) ?_
    refine WA.br2 (i := 7) (j := 14) qK ?_ ?_
    ·
     refine WS.eff rfl rfl rfl qD (Ef.buildSliceD (enc := encT) (parts := [.tmp 31]) [nm] tab_ok rfl rfl rfl rfl rfl rfl rfl rfl qD qD (fun a32 => ?_))
     refine ⟨qR, qS, ?_⟩
     refine WA.br2 (i := 8) (j := 14) qK ?_ ?_
     ·
      refine WS.eff rfl rfl rfl (by decide) (Ef.appendD 2 0 tab_ok rfl rfl rfl rfl rfl rfl rfl rfl rfl rfl rfl (fun _ _ => rfl) (by simp only [List.length_cons, List.length_nil]; omega) (by simp only [List.length_cons, List.length_nil]; omega) (fun a33 c33 ha33 => ?_))
      refine ⟨qR, qS, ?_⟩
      refine WA.eff 14 rfl qK rfl rfl qD (Ef.buildSliceD (enc := encLn) (parts := [.tmp 38]) [⟨x1, y1, x2, y2, L⟩] tab_ok rfl rfl rfl rfl rfl rfl rfl rfl qD qD (fun a39 => ?_))
      refine ⟨qR, qS, ?_⟩
      refine WA.eff 15 rfl (by kernel_rfl) rfl rfl (by decide) (Ef.appendD 4 0 tab_ok rfl rfl rfl rfl rfl rfl rfl rfl rfl rfl rfl (fun _ _ => rfl) (by simp only [List.length_cons, List.length_nil]; omega) (by simp only [List.length_cons, List.length_nil]; omega) (fun a40 c40 ha40 => ?_))
      refine ⟨qR, qS, ?_⟩
      refine tP 16 ?_
      refine tP 17 ?_
      refine zCF 18 5 ?_
      refine tP 19 ?_
      refine tP 20 ?_
      refine zCF 21 5 ?_
      refine WA.done qK ?_
      refine zU (zQ (zG (zR 1 rfl (zN (zU (zT (wt ?_)))))))
      refine WE.subE (E' := .sl 9 1 a33 c33 ((ns ++ [nm]).map encT) :: .sl 29 5 a40 c40 ((ms ++ [(⟨x1, y1, x2, y2, L⟩ : LnM)]).map encLn) :: .blk b [.slice a33 (ns ++ [nm]).length c33, .slice a40 (ms ++ [(⟨x1, y1, x2, y2, L⟩ : LnM)]).length c40, .slice none 0 0] :: F) qS ?_
      refine WE.retF tab_ok [_] rfl ⟨rfl, trivial⟩ qR ?_
      exact ⟨by rw [hyes]; rfl, _, _, _, _, _, _, rfl, (fun h => by rw [hyes] at h; cases h), fun _ => ⟨⟨x1, y1, x2, y2, L⟩, by rw [(hLv hyes).1], rfl, ⟨hf1, hf2⟩, (hLv hyes).2⟩⟩
     ·
      refine WS.eff rfl rfl rfl qD (Ef.buildSliceD (enc := encLn) (parts := [.tmp 38]) [⟨x1, y1, x2, y2, L⟩] tab_ok rfl rfl rfl rfl rfl rfl rfl rfl qD qD (fun a39 => ?_))
      refine ⟨qR, qS, ?_⟩
      refine WA.eff 8 rfl (by kernel_rfl) rfl rfl (by decide) (Ef.appendD 3 1 tab_ok rfl rfl rfl rfl rfl rfl rfl rfl rfl rfl rfl (fun _ _ => rfl) (by simp only [List.length_cons, List.length_nil]; omega) (by simp only [List.length_cons, List.length_nil]; omega) (fun a33 c33 ha33 => ?_))
      refine ⟨qR, qS, ?_⟩
      refine WA.eff 15 rfl (by kernel_rfl) rfl rfl (by decide) (Ef.appendD 4 0 tab_ok rfl rfl rfl rfl rfl rfl rfl rfl rfl rfl rfl (fun _ _ => rfl) (by simp only [List.length_cons, List.length_nil]; omega) (by simp only [List.length_cons, List.length_nil]; omega) (fun a40 c40 ha40 => ?_))
      refine ⟨qR, qS, ?_⟩
      refine tP 16 ?_
      refine tP 17 ?_
      refine zCF 18 5 ?_
      refine tP 19 ?_
      refine tP 20 ?_
      refine zCF 21 5 ?_
      refine WA.done qK ?_
      refine zU (zQ (zG (zR 1 rfl (zN (zU (zT (wt ?_)))))))
      refine WE.subE (E' := .sl 9 1 a33 c33 ((ns ++ [nm]).map encT) :: .sl 29 5 a40 c40 ((ms ++ [(⟨x1, y1, x2, y2, L⟩ : LnM)]).map encLn) :: .blk b [.slice a33 (ns ++ [nm]).length c33, .slice a40 (ms ++ [(⟨x1, y1, x2, y2, L⟩ : LnM)]).length c40, .slice none 0 0] :: F) qS ?_
      refine WE.retF tab_ok [_] rfl ⟨rfl, trivial⟩ qR ?_
      exact ⟨by rw [hyes]; rfl, _, _, _, _, _, _, rfl, (fun h => by rw [hyes] at h; cases h), fun _ => ⟨⟨x1, y1, x2, y2, L⟩, by rw [(hLv hyes).1], rfl, ⟨hf1, hf2⟩, (hLv hyes).2⟩⟩
    ·
     refine WS.eff rfl rfl rfl qD (Ef.buildSliceD (enc := encLn) (parts := [.tmp 38]) [⟨x1, y1, x2, y2, L⟩] tab_ok rfl rfl rfl rfl rfl rfl rfl rfl qD qD (fun a39 => ?_))
     refine ⟨qR, qS, ?_⟩
     refine WA.eff 7 rfl qK rfl rfl qD (Ef.buildSliceD (enc := encT) (parts := [.tmp 31]) [nm] tab_ok rfl rfl rfl rfl rfl rfl rfl rfl qD qD (fun a32 => ?_))
     refine ⟨qR, qS, ?_⟩
     refine WA.eff 8 rfl (by kernel_rfl) rfl rfl (by decide) (Ef.appendD 3 0 tab_ok rfl rfl rfl rfl rfl rfl rfl rfl rfl rfl rfl (fun _ _ => rfl) (by simp only [List.length_cons, List.length_nil]; omega) (by simp only [List.length_cons, List.length_nil]; omega) (fun a33 c33 ha33 => ?_))
     refine ⟨qR, qS, ?_⟩
     refine WA.eff 15 rfl (by kernel_rfl) rfl rfl (by decide) (Ef.appendD 4 1 tab_ok rfl rfl rfl rfl rfl rfl rfl rfl rfl rfl rfl (fun _ _ => rfl) (by simp only [List.length_cons, List.length_nil]; omega) (by simp only [List.length_cons, List.length_nil]; omega) (fun a40 c40 ha40 => ?_))
     refine ⟨qR, qS, ?_⟩
     refine tP 16 ?_
     refine tP 17 ?_
     refine zCF 18 5 ?_
     refine tP 19 ?_
     refine tP 20 ?_
     refine zCF 21 5 ?_
     refine WA.done qK ?_
     refine zU (zQ (zG (zR 1 rfl (zN (zU (zT (wt ?_)))))))
     refine WE.subE (E' := .sl 9 1 a33 c33 ((ns ++ [nm]).map encT) :: .sl 29 5 a40 c40 ((ms ++ [(⟨x1, y1, x2, y2, L⟩ : LnM)]).map encLn) :: .blk b [.slice a33 (ns ++ [nm]).length c33, .slice a40 (ms ++ [(⟨x1, y1, x2, y2, L⟩ : LnM)]).length c40, .slice none 0 0] :: F) qS ?_
     refine WE.retF tab_ok [_] rfl ⟨rfl, trivial⟩ qR ?_
     exact ⟨by rw [hyes]; rfl, _, _, _, _, _, _, rfl, (fun h => by rw [hyes] at h; cases h), fun _ => ⟨⟨x1, y1, x2, y2, L⟩, by rw [(hLv hyes).1], rfl, ⟨hf1, hf2⟩, (hLv hyes).2⟩⟩
   ·
    refine WS.eff rfl rfl rfl qD (Ef.buildSliceD (enc := encT) (parts := [.tmp 31]) [nm] tab_ok rfl rfl rfl rfl rfl rfl rfl rfl qD qD (fun a32 => ?_))
    refine ⟨qR, qS, ?_⟩
    refine WA.br2 (i := 5) (j := 14) qK ?_ ?_
    ·
     refine sL (Rd.add (Rd.blk 4 rfl) _) ?_
     refine WA.br2 (i := 8) (j := 14) qK ?_ ?_
     ·
      refine WS.eff rfl rfl rfl (by decide) (Ef.appendD 2 0 tab_ok rfl rfl rfl rfl rfl rfl rfl rfl rfl rfl rfl (fun _ _ => rfl) (by simp only [List.length_cons, List.length_nil]; omega) (by simp only [List.length_cons, List.length_nil]; omega) (fun a33 c33 ha33 => ?_))
      refine ⟨qR, qS, ?_⟩
      refine WA.eff 14 rfl qK rfl rfl qD (Ef.buildSliceD (enc := encLn) (parts := [.tmp 38]) [⟨x1, y1, x2, y2, L⟩] tab_ok rfl rfl rfl rfl rfl rfl rfl rfl qD qD (fun a39 => ?_))
      refine ⟨qR, qS, ?_⟩
      refine WA.eff 15 rfl (by kernel_rfl) rfl rfl (by decide) (Ef.appendD 4 0 tab_ok rfl rfl rfl rfl rfl rfl rfl rfl rfl rfl rfl (fun _ _ => rfl) (by simp only [List.length_cons, List.length_nil]; omega) (by simp only [List.length_cons, List.length_nil]; omega) (fun a40 c40 ha40 => ?_))
      refine ⟨qR, qS, ?_⟩
      refine tP 16 ?_
      refine tP 17 ?_
      refine zCF 18 5 ?_
      refine tP 19 ?_
      refine tP 20 ?_
      refine zCF 21 5 ?_
      refine WA.done qK ?_
      refine zU (zQ (zG (zR 1 rfl (zN (zU (zT (wt ?_)))))))
      refine WE.subE (E' := .sl 9 1 a33 c33 ((ns ++ [nm]).map encT) :: .sl 29 5 a40 c40 ((ms ++ [(⟨x1, y1, x2, y2, L⟩ : LnM)]).map encLn) :: .blk b [.slice a33 (ns ++ [nm]).length c33, .slice a40 (ms ++ [(⟨x1, y1, x2, y2, L⟩ : LnM)]).length c40, .slice none 0 0] :: F) qS ?_
      refine WE.retF tab_ok [_] rfl ⟨rfl, trivial⟩ qR ?_
      exact ⟨by rw [hyes]; rfl, _, _, _, _, _, _, rfl, (fun h => by rw [hyes] at h; cases h), fun _ => ⟨⟨x1, y1, x2, y2, L⟩, by rw [(hLv hyes).1], rfl, ⟨hf1, hf2⟩, (hLv hyes).2⟩⟩
     ·
      refine WS.eff rfl rfl rfl qD (Ef.buildSliceD (enc := encLn) (parts := [.tmp 38]) [⟨x1, y1, x2, y2, L⟩] tab_ok rfl rfl rfl rfl rfl rfl rfl rfl qD qD (fun a39 => ?_))
      refine ⟨qR, qS, ?_⟩
      refine WA.eff 8 rfl (by kernel_rfl) rfl rfl (by decide) (Ef.appendD 3 1 tab_ok rfl rfl rfl rfl rfl rfl rfl rfl rfl rfl rfl (fun _ _ => rfl) (by simp only [List.length_cons, List.length_nil]; omega) (by simp only [List.length_cons, List.length_nil]; omega) (fun a33 c33 ha33 => ?_))
      refine ⟨qR, qS, ?_⟩
      refine WA.eff 15 rfl (by kernel_rfl) rfl rfl (by decide) (Ef.appendD 4 0 tab_ok rfl rfl rfl rfl rfl rfl rfl rfl rfl rfl rfl (fun _ _ => rfl) (by simp only [List.length_cons, List.length_nil]; omega) (by simp only [List.length_cons, List.length_nil]; omega) (fun a40 c40 ha40 => ?_))
      refine ⟨qR, qS, ?_⟩
      refine tP 16 ?_
      refine tP 17 ?_
      refine zCF 18 5 ?_
      refine tP 19 ?_
      refine tP 20 ?_
      refine zCF 21 5 ?_
      refine WA.done qK ?_
      refine zU (zQ (zG (zR 1 rfl (zN (zU (zT (wt ?_)))))))
      refine WE.subE (E' := .sl 9 1 a33 c33 ((ns ++ [nm]).map encT) :: .sl 29 5 a40 c40 ((ms ++ [(⟨x1, y1, x2, y2, L⟩ : LnM)]).map encLn) :: .blk b [.slice a33 (ns ++ [nm]).length c33, .slice a40 (ms ++ [(⟨x1, y1, x2, y2, L⟩ : LnM)]).length c40, .slice none 0 0] :: F) qS ?_
      refine WE.retF tab_ok [_] rfl ⟨rfl, trivial⟩ qR ?_
      exact ⟨by rw [hyes]; rfl, _, _, _, _, _, _, rfl, (fun h => by rw [hyes] at h; cases h), fun _ => ⟨⟨x1, y1, x2, y2, L⟩, by rw [(hLv hyes).1], rfl, ⟨hf1, hf2⟩, (hLv hyes).2⟩⟩
    ·
     refine WS.eff rfl rfl rfl qD (Ef.buildSliceD (enc := encLn) (parts := [.tmp 38]) [⟨x1, y1, x2, y2, L⟩] tab_ok rfl rfl rfl rfl rfl rfl rfl rfl qD qD (fun a39 => ?_))
     refine ⟨qR, qS, ?_⟩
     refine lL 5 (Rd.add (Rd.blk 5 rfl) _) ?_
     refine WA.eff 8 rfl (by kernel_rfl) rfl rfl (by decide) (Ef.appendD 3 1 tab_ok rfl rfl rfl rfl rfl rfl rfl rfl rfl rfl rfl (fun _ _ => rfl) (by simp only [List.length_cons, List.length_nil]; omega) (by simp only [List.length_cons, List.length_nil]; omega) (fun a33 c33 ha33 => ?_))
     refine ⟨qR, qS, ?_⟩
     refine WA.eff 15 rfl (by kernel_rfl) rfl rfl (by decide) (Ef.appendD 4 0 tab_ok rfl rfl rfl rfl rfl rfl rfl rfl rfl rfl rfl (fun _ _ => rfl) (by simp only [List.length_cons, List.length_nil]; omega) (by simp only [List.length_cons, List.length_nil]; omega) (fun a40 c40 ha40 => ?_))
     refine ⟨qR, qS, ?_⟩
     refine tP 16 ?_
     refine tP 17 ?_
     refine zCF 18 5 ?_
     refine tP 19 ?_
     refine tP 20 ?_
     refine zCF 21 5 ?_
     refine WA.done qK ?_
     refine zU (zQ (zG (zR 1 rfl (zN (zU (zT (wt ?_)))))))
     refine WE.subE (E' := .sl 9 1 a33 c33 ((ns ++ [nm]).map encT) :: .sl 29 5 a40 c40 ((ms ++ [(⟨x1, y1, x2, y2, L⟩ : LnM)]).map encLn) :: .blk b [.slice a33 (ns ++ [nm]).length c33, .slice a40 (ms ++ [(⟨x1, y1, x2, y2, L⟩ : LnM)]).length c40, .slice none 0 0] :: F) qS ?_
     refine WE.retF tab_ok [_] rfl ⟨rfl, trivial⟩ qR ?_
     exact ⟨by rw [hyes]; rfl, _, _, _, _, _, _, rfl, (fun h => by rw [hyes] at h; cases h), fun _ => ⟨⟨x1, y1, x2, y2, L⟩, by rw [(hLv hyes).1], rfl, ⟨hf1, hf2⟩, (hLv hyes).2⟩⟩
   ·
    refine WS.eff rfl rfl rfl qD (Ef.buildSliceD (enc := encLn) (parts := [.tmp 38]) [⟨x1, y1, x2, y2, L⟩] tab_ok rfl rfl rfl rfl rfl rfl rfl rfl qD qD (fun a39 => ?_))
    refine ⟨qR, qS, ?_⟩
    refine WA.br2 (i := 5) (j := 7) qK ?_ ?_
    ·
     refine sL (Rd.add (Rd.blk 4 rfl) _) ?_
     refine WA.eff 7 rfl qK rfl rfl qD (Ef.buildSliceD (enc := encT) (parts := [.tmp 31]) [nm] tab_ok rfl rfl rfl rfl rfl rfl rfl rfl qD qD (fun a32 => ?_))
     refine ⟨qR, qS, ?_⟩
     refine WA.eff 8 rfl (by kernel_rfl) rfl rfl (by decide) (Ef.appendD 3 0 tab_ok rfl rfl rfl rfl rfl rfl rfl rfl rfl rfl rfl (fun _ _ => rfl) (by simp only [List.length_cons, List.length_nil]; omega) (by simp only [List.length_cons, List.length_nil]; omega) (fun a33 c33 ha33 => ?_))
     refine ⟨qR, qS, ?_⟩
     refine WA.eff 15 rfl (by kernel_rfl) rfl rfl (by decide) (Ef.appendD 4 1 tab_ok rfl rfl rfl rfl rfl rfl rfl rfl rfl rfl rfl (fun _ _ => rfl) (by simp only [List.length_cons, List.length_nil]; omega) (by simp only [List.length_cons, List.length_nil]; omega) (fun a40 c40 ha40 => ?_))
     refine ⟨qR, qS, ?_⟩
     refine tP 16 ?_
     refine tP 17 ?_
     refine zCF 18 5 ?_
     refine tP 19 ?_
     refine tP 20 ?_
     refine zCF 21 5 ?_
     refine WA.done qK ?_
     refine zU (zQ (zG (zR 1 rfl (zN (zU (zT (wt ?_)))))))
     refine WE.subE (E' := .sl 9 1 a33 c33 ((ns ++ [nm]).map encT) :: .sl 29 5 a40 c40 ((ms ++ [(⟨x1, y1, x2, y2, L⟩ : LnM)]).map encLn) :: .blk b [.slice a33 (ns ++ [nm]).length c33, .slice a40 (ms ++ [(⟨x1, y1, x2, y2, L⟩ : LnM)]).length c40, .slice none 0 0] :: F) qS ?_
     refine WE.retF tab_ok [_] rfl ⟨rfl, trivial⟩ qR ?_
     exact ⟨by rw [hyes]; rfl, _, _, _, _, _, _, rfl, (fun h => by rw [hyes] at h; cases h), fun _ => ⟨⟨x1, y1, x2, y2, L⟩, by rw [(hLv hyes).1], rfl, ⟨hf1, hf2⟩, (hLv hyes).2⟩⟩
    ·
     refine WS.eff rfl rfl rfl qD (Ef.buildSliceD (enc := encT) (parts := [.tmp 31]) [nm] tab_ok rfl rfl rfl rfl rfl rfl rfl rfl qD qD (fun a32 => ?_))
     refine ⟨qR, qS, ?_⟩
     refine lL 5 (Rd.add (Rd.blk 5 rfl) _) ?_
     refine WA.eff 8 rfl (by kernel_rfl) rfl rfl (by decide) (Ef.appendD 3 0 tab_ok rfl rfl rfl rfl rfl rfl rfl rfl rfl rfl rfl (fun _ _ => rfl) (by simp only [List.length_cons, List.length_nil]; omega) (by simp only [List.length_cons, List.length_nil]; omega) (fun a33 c33 ha33 => ?_))
     refine ⟨qR, qS, ?_⟩
     refine WA.eff 15 rfl (by kernel_rfl) rfl rfl (by decide) (Ef.appendD 4 1 tab_ok rfl rfl rfl rfl rfl rfl rfl rfl rfl rfl rfl (fun _ _ => rfl) (by simp only [List.length_cons, List.length_nil]; omega) (by simp only [List.length_cons, List.length_nil]; omega) (fun a40 c40 ha40 => ?_))
     refine ⟨qR, qS, ?_⟩
     refine tP 16 ?_
     refine tP 17 ?_
     refine zCF 18 5 ?_
     refine tP 19 ?_
     refine tP 20 ?_
     refine zCF 21 5 ?_
     refine WA.done qK ?_
     refine zU (zQ (zG (zR 1 rfl (zN (zU (zT (wt ?_)))))))
     refine WE.subE (E' := .sl 9 1 a33 c33 ((ns ++ [nm]).map encT) :: .sl 29 5 a40 c40 ((ms ++ [(⟨x1, y1, x2, y2, L⟩ : LnM)]).map encLn) :: .blk b [.slice a33 (ns ++ [nm]).length c33, .slice a40 (ms ++ [(⟨x1, y1, x2, y2, L⟩ : LnM)]).length c40, .slice none 0 0] :: F) qS ?_
     refine WE.retF tab_ok [_] rfl ⟨rfl, trivial⟩ qR ?_
     exact ⟨by rw [hyes]; rfl, _, _, _, _, _, _, rfl, (fun h => by rw [hyes] at h; cases h), fun _ => ⟨⟨x1, y1, x2, y2, L⟩, by rw [(hLv hyes).1], rfl, ⟨hf1, hf2⟩, (hLv hyes).2⟩⟩
  ·
   refine WS.eff rfl rfl rfl qD (Ef.buildSliceD (enc := encLn) (parts := [.tmp 38]) [⟨x1, y1, x2, y2, L⟩] tab_ok rfl rfl rfl rfl rfl rfl rfl rfl qD qD (fun a39 => ?_))
   refine ⟨qR, qS, ?_⟩
   refine WA.br3 (i := 5) (j := 7) (k := 12) qK ?_ ?_ ?_
   ·
    refine sL (Rd.add (Rd.blk 4 rfl) _) ?_
    refine WA.br2 (i := 7) (j := 12) qK ?_ ?_
    ·
     refine WS.eff rfl rfl rfl qD (Ef.buildSliceD (enc := encT) (parts := [.tmp 31]) [nm] tab_ok rfl rfl rfl rfl rfl rfl rfl rfl qD qD (fun a32 => ?_))
     refine ⟨qR, qS, ?_⟩
     refine WA.br2 (i := 8) (j := 12) qK ?_ ?_
     ·
      refine WS.eff rfl rfl rfl (by decide) (Ef.appendD 3 0 tab_ok rfl rfl rfl rfl rfl rfl rfl rfl rfl rfl rfl (fun _ _ => rfl) (by simp only [List.length_cons, List.length_nil]; omega) (by simp only [List.length_cons, List.length_nil]; omega) (fun a33 c33 ha33 => ?_))
      refine ⟨qR, qS, ?_⟩
      refine lL 12 (Rd.add (Rd.blk 5 rfl) _) ?_
      refine WA.eff 15 rfl (by kernel_rfl) rfl rfl (by decide) (Ef.appendD 4 1 tab_ok rfl rfl rfl rfl rfl rfl rfl rfl rfl rfl rfl (fun _ _ => rfl) (by simp only [List.length_cons, List.length_nil]; omega) (by simp only [List.length_cons, List.length_nil]; omega) (fun a40 c40 ha40 => ?_))
      refine ⟨qR, qS, ?_⟩
      refine tP 16 ?_
      refine tP 17 ?_
      refine zCF 18 5 ?_
      refine tP 19 ?_
      refine tP 20 ?_
      refine zCF 21 5 ?_
      refine WA.done qK ?_
      refine zU (zQ (zG (zR 1 rfl (zN (zU (zT (wt ?_)))))))
      refine WE.subE (E' := .sl 9 1 a33 c33 ((ns ++ [nm]).map encT) :: .sl 29 5 a40 c40 ((ms ++ [(⟨x1, y1, x2, y2, L⟩ : LnM)]).map encLn) :: .blk b [.slice a33 (ns ++ [nm]).length c33, .slice a40 (ms ++ [(⟨x1, y1, x2, y2, L⟩ : LnM)]).length c40, .slice none 0 0] :: F) qS ?_
      refine WE.retF tab_ok [_] rfl ⟨rfl, trivial⟩ qR ?_
      exact ⟨by rw [hyes]; rfl, _, _, _, _, _, _, rfl, (fun h => by rw [hyes] at h; cases h), fun _ => ⟨⟨x1, y1, x2, y2, L⟩, by rw [(hLv hyes).1], rfl, ⟨hf1, hf2⟩, (hLv hyes).2⟩⟩
     ·
      refine sL (Rd.add (Rd.blk 5 rfl) _) ?_
      refine WA.eff 8 rfl (by kernel_rfl) rfl rfl (by decide) (Ef.appendD 3 0 tab_ok rfl rfl rfl rfl rfl rfl rfl rfl rfl rfl rfl (fun _ _ => rfl) (by simp only [List.length_cons, List.length_nil]; omega) (by simp only [List.length_cons, List.length_nil]; omega) (fun a33 c33 ha33 => ?_))
      refine ⟨qR, qS, ?_⟩
      refine WA.eff 15 rfl (by kernel_rfl) rfl rfl (by decide) (Ef.appendD 4 1 tab_ok rfl rfl rfl rfl rfl rfl rfl rfl rfl rfl rfl (fun _ _ => rfl) (by simp only [List.length_cons, List.length_nil]; omega) (by simp only [List.length_cons, List.length_nil]; omega) (fun a40 c40 ha40 => ?_))
      refine ⟨qR, qS, ?_⟩
      refine tP 16 ?_
      refine tP 17 ?_
      refine zCF 18 5 ?_
      refine tP 19 ?_
      refine tP 20 ?_
      refine zCF 21 5 ?_
      refine WA.done qK ?_
      refine zU (zQ (zG (zR 1 rfl (zN (zU (zT (wt ?_)))))))
      refine WE.subE (E' := .sl 9 1 a33 c33 ((ns ++ [nm]).map encT) :: .sl 29 5 a40 c40 ((ms ++ [(⟨x1, y1, x2, y2, L⟩ : LnM)]).map encLn) :: .blk b [.slice a33 (ns ++ [nm]).length c33, .slice a40 (ms ++ [(⟨x1, y1, x2, y2, L⟩ : LnM)]).length c40, .slice none 0 0] :: F) qS ?_
      refine WE.retF tab_ok [_] rfl ⟨rfl, trivial⟩ qR ?_
      exact ⟨by rw [hyes]; rfl, _, _, _, _, _, _, rfl, (fun h => by rw [hyes] at h; cases h), fun _ => ⟨⟨x1, y1, x2, y2, L⟩, by rw [(hLv hyes).1], rfl, ⟨hf1, hf2⟩, (hLv hyes).2⟩⟩
    ·
     refine sL (Rd.add (Rd.blk 4 rfl) _) ?_
     refine WA.eff 7 rfl qK rfl rfl qD (Ef.buildSliceD (enc := encT) (parts := [.tmp 31]) [nm] tab_ok rfl rfl rfl rfl rfl rfl rfl rfl qD qD (fun a32 => ?_))
     refine ⟨qR, qS, ?_⟩
     refine WA.eff 8 rfl (by kernel_rfl) rfl rfl (by decide) (Ef.appendD 3 0 tab_ok rfl rfl rfl rfl rfl rfl rfl rfl rfl rfl rfl (fun _ _ => rfl) (by simp only [List.length_cons, List.length_nil]; omega) (by simp only [List.length_cons, List.length_nil]; omega) (fun a33 c33 ha33 => ?_))
     refine ⟨qR, qS, ?_⟩
     refine WA.eff 15 rfl (by kernel_rfl) rfl rfl (by decide) (Ef.appendD 4 1 tab_ok rfl rfl rfl rfl rfl rfl rfl rfl rfl rfl rfl (fun _ _ => rfl) (by simp only [List.length_cons, List.length_nil]; omega) (by simp only [List.length_cons, List.length_nil]; omega) (fun a40 c40 ha40 => ?_))
     refine ⟨qR, qS, ?_⟩
     refine tP 16 ?_
     refine tP 17 ?_
     refine zCF 18 5 ?_
     refine tP 19 ?_
     refine tP 20 ?_
     refine zCF 21 5 ?_
     refine WA.done qK ?_
     refine zU (zQ (zG (zR 1 rfl (zN (zU (zT (wt ?_)))))))
     refine WE.subE (E' := .sl 9 1 a33 c33 ((ns ++ [nm]).map encT) :: .sl 29 5 a40 c40 ((ms ++ [(⟨x1, y1, x2, y2, L⟩ : LnM)]).map encLn) :: .blk b [.slice a33 (ns ++ [nm]).length c33, .slice a40 (ms ++ [(⟨x1, y1, x2, y2, L⟩ : LnM)]).length c40, .slice none 0 0] :: F) qS ?_
     refine WE.retF tab_ok [_] rfl ⟨rfl, trivial⟩ qR ?_
     exact ⟨by rw [hyes]; rfl, _, _, _, _, _, _, rfl, (fun h => by rw [hyes] at h; cases h), fun _ => ⟨⟨x1, y1, x2, y2, L⟩, by rw [(hLv hyes).1], rfl, ⟨hf1, hf2⟩, (hLv hyes).2⟩⟩
   ·
    refine WS.eff rfl rfl rfl qD (Ef.buildSliceD (enc := encT) (parts := [.tmp 31]) [nm] tab_ok rfl rfl rfl rfl rfl rfl rfl rfl qD qD (fun a32 => ?_))
    refine ⟨qR, qS, ?_⟩
    refine WA.br2 (i := 5) (j := 12) qK ?_ ?_
    ·
     refine sL (Rd.add (Rd.blk 5 rfl) _) ?_
     refine WA.br2 (i := 8) (j := 12) qK ?_ ?_
     ·
      refine WS.eff rfl rfl rfl (by decide) (Ef.appendD 3 0 tab_ok rfl rfl rfl rfl rfl rfl rfl rfl rfl rfl rfl (fun _ _ => rfl) (by simp only [List.length_cons, List.length_nil]; omega) (by simp only [List.length_cons, List.length_nil]; omega) (fun a33 c33 ha33 => ?_))
      refine ⟨qR, qS, ?_⟩
      refine lL 12 (Rd.add (Rd.blk 5 rfl) _) ?_
      refine WA.eff 15 rfl (by kernel_rfl) rfl rfl (by decide) (Ef.appendD 4 1 tab_ok rfl rfl rfl rfl rfl rfl rfl rfl rfl rfl rfl (fun _ _ => rfl) (by simp only [List.length_cons, List.length_nil]; omega) (by simp only [List.length_cons, List.length_nil]; omega) (fun a40 c40 ha40 => ?_))
      refine ⟨qR, qS, ?_⟩
      refine tP 16 ?_
      refine tP 17 ?_
      refine zCF 18 5 ?_
      refine tP 19 ?_
      refine tP 20 ?_
      refine zCF 21 5 ?_
      refine WA.done qK ?_
      refine zU (zQ (zG (zR 1 rfl (zN (zU (zT (wt ?_)))))))
      refine WE.subE (E' := .sl 9 1 a33 c33 ((ns ++ [nm]).map encT) :: .sl 29 5 a40 c40 ((ms ++ [(⟨x1, y1, x2, y2, L⟩ : LnM)]).map encLn) :: .blk b [.slice a33 (ns ++ [nm]).length c33, .slice a40 (ms ++ [(⟨x1, y1, x2, y2, L⟩ : LnM)]).length c40, .slice none 0 0] :: F) qS ?_
      refine WE.retF tab_ok [_] rfl ⟨rfl, trivial⟩ qR ?_
      exact ⟨by rw [hyes]; rfl, _, _, _, _, _, _, rfl, (fun h => by rw [hyes] at h; cases h), fun _ => ⟨⟨x1, y1, x2, y2, L⟩, by rw [(hLv hyes).1], rfl, ⟨hf1, hf2⟩, (hLv hyes).2⟩⟩
     ·
      refine sL (Rd.add (Rd.blk 5 rfl) _) ?_
      refine WA.eff 8 rfl (by kernel_rfl) rfl rfl (by decide) (Ef.appendD 3 0 tab_ok rfl rfl rfl rfl rfl rfl rfl rfl rfl rfl rfl (fun _ _ => rfl) (by simp only [List.length_cons, List.length_nil]; omega) (by simp only [List.length_cons, List.length_nil]; omega) (fun a33 c33 ha33 => ?_))
      refine ⟨qR, qS, ?_⟩
      refine WA.eff 15 rfl (by kernel_rfl) rfl rfl (by decide) (Ef.appendD 4 1 tab_ok rfl rfl rfl rfl rfl rfl rfl rfl rfl rfl rfl (fun _ _ => rfl) (by simp only [List.length_cons, List.length_nil]; omega) (by simp only [List.length_cons, List.length_nil]; omega) (fun a40 c40 ha40 => ?_))
      refine ⟨qR, qS, ?_⟩
      refine tP 16 ?_
      refine tP 17 ?_
      refine zCF 18 5 ?_
      refine tP 19 ?_
      refine tP 20 ?_
      refine zCF 21 5 ?_
      refine WA.done qK ?_
      refine zU (zQ (zG (zR 1 rfl (zN (zU (zT (wt ?_)))))))
      refine WE.subE (E' := .sl 9 1 a33 c33 ((ns ++ [nm]).map encT) :: .sl 29 5 a40 c40 ((ms ++ [(⟨x1, y1, x2, y2, L⟩ : LnM)]).map encLn) :: .blk b [.slice a33 (ns ++ [nm]).length c33, .slice a40 (ms ++ [(⟨x1, y1, x2, y2, L⟩ : LnM)]).length c40, .slice none 0 0] :: F) qS ?_
      refine WE.retF tab_ok [_] rfl ⟨rfl, trivial⟩ qR ?_
      exact ⟨by rw [hyes]; rfl, _, _, _, _, _, _, rfl, (fun h => by rw [hyes] at h; cases h), fun _ => ⟨⟨x1, y1, x2, y2, L⟩, by rw [(hLv hyes).1], rfl, ⟨hf1, hf2⟩, (hLv hyes).2⟩⟩
    ·
     refine sL (Rd.add (Rd.blk 5 rfl) _) ?_
     refine lL 5 (Rd.add (Rd.blk 5 rfl) _) ?_
     refine WA.eff 8 rfl (by kernel_rfl) rfl rfl (by decide) (Ef.appendD 3 0 tab_ok rfl rfl rfl rfl rfl rfl rfl rfl rfl rfl rfl (fun _ _ => rfl) (by simp only [List.length_cons, List.length_nil]; omega) (by simp only [List.length_cons, List.length_nil]; omega) (fun a33 c33 ha33 => ?_))
     refine ⟨qR, qS, ?_⟩
     refine WA.eff 15 rfl (by kernel_rfl) rfl rfl (by decide) (Ef.appendD 4 1 tab_ok rfl rfl rfl rfl rfl rfl rfl rfl rfl rfl rfl (fun _ _ => rfl) (by simp only [List.length_cons, List.length_nil]; omega) (by simp only [List.length_cons, List.length_nil]; omega) (fun a40 c40 ha40 => ?_))
     refine ⟨qR, qS, ?_⟩
     refine tP 16 ?_
     refine tP 17 ?_
     refine zCF 18 5 ?_
     refine tP 19 ?_
     refine tP 20 ?_
     refine zCF 21 5 ?_
     refine WA.done qK ?_
     refine zU (zQ (zG (zR 1 rfl (zN (zU (zT (wt ?_)))))))
     refine WE.subE (E' := .sl 9 1 a33 c33 ((ns ++ [nm]).map encT) :: .sl 29 5 a40 c40 ((ms ++ [(⟨x1, y1, x2, y2, L⟩ : LnM)]).map encLn) :: .blk b [.slice a33 (ns ++ [nm]).length c33, .slice a40 (ms ++ [(⟨x1, y1, x2, y2, L⟩ : LnM)]).length c40, .slice none 0 0] :: F) qS ?_
     refine WE.retF tab_ok [_] rfl ⟨rfl, trivial⟩ qR ?_
     exact ⟨by rw [hyes]; rfl, _, _, _, _, _, _, rfl, (fun h => by rw [hyes] at h; cases h), fun _ => ⟨⟨x1, y1, x2, y2, L⟩, by rw [(hLv hyes).1], rfl, ⟨hf1, hf2⟩, (hLv hyes).2⟩⟩
   ·
    refine sL (Rd.add (Rd.blk 4 rfl) _) ?_
    refine WA.br2 (i := 5) (j := 7) qK ?_ ?_
    ·
     refine sL (Rd.add (Rd.blk 4 rfl) _) ?_
     refine WA.eff 7 rfl qK rfl rfl qD (Ef.buildSliceD (enc := encT) (parts := [.tmp 31]) [nm] tab_ok rfl rfl rfl rfl rfl rfl rfl rfl qD qD (fun a32 => ?_))
     refine ⟨qR, qS, ?_⟩
     refine WA.eff 8 rfl (by kernel_rfl) rfl rfl (by decide) (Ef.appendD 3 0 tab_ok rfl rfl rfl rfl rfl rfl rfl rfl rfl rfl rfl (fun _ _ => rfl) (by simp only [List.length_cons, List.length_nil]; omega) (by simp only [List.length_cons, List.length_nil]; omega) (fun a33 c33 ha33 => ?_))
     refine ⟨qR, qS, ?_⟩
     refine WA.eff 15 rfl (by kernel_rfl) rfl rfl (by decide) (Ef.appendD 4 1 tab_ok rfl rfl rfl rfl rfl rfl rfl rfl rfl rfl rfl (fun _ _ => rfl) (by simp only [List.length_cons, List.length_nil]; omega) (by simp only [List.length_cons, List.length_nil]; omega) (fun a40 c40 ha40 => ?_))
     refine ⟨qR, qS, ?_⟩
     refine tP 16 ?_
     refine tP 17 ?_
     refine zCF 18 5 ?_
     refine tP 19 ?_
     refine tP 20 ?_
     refine zCF 21 5 ?_
     refine WA.done qK ?_
     refine zU (zQ (zG (zR 1 rfl (zN (zU (zT (wt ?_)))))))
     refine WE.subE (E' := .sl 9 1 a33 c33 ((ns ++ [nm]).map encT) :: .sl 29 5 a40 c40 ((ms ++ [(⟨x1, y1, x2, y2, L⟩ : LnM)]).map encLn) :: .blk b [.slice a33 (ns ++ [nm]).length c33, .slice a40 (ms ++ [(⟨x1, y1, x2, y2, L⟩ : LnM)]).length c40, .slice none 0 0] :: F) qS ?_
     refine WE.retF tab_ok [_] rfl ⟨rfl, trivial⟩ qR ?_
     exact ⟨by rw [hyes]; rfl, _, _, _, _, _, _, rfl, (fun h => by rw [hyes] at h; cases h), fun _ => ⟨⟨x1, y1, x2, y2, L⟩, by rw [(hLv hyes).1], rfl, ⟨hf1, hf2⟩, (hLv hyes).2⟩⟩
    ·
     refine WS.eff rfl rfl rfl qD (Ef.buildSliceD (enc := encT) (parts := [.tmp 31]) [nm] tab_ok rfl rfl rfl rfl rfl rfl rfl rfl qD qD (fun a32 => ?_))
     refine ⟨qR, qS, ?_⟩
     refine lL 5 (Rd.add (Rd.blk 5 rfl) _) ?_
     refine WA.eff 8 rfl (by kernel_rfl) rfl rfl (by decide) (Ef.appendD 3 0 tab_ok rfl rfl rfl rfl rfl rfl rfl rfl rfl rfl rfl (fun _ _ => rfl) (by simp only [List.length_cons, List.length_nil]; omega) (by simp only [List.length_cons, List.length_nil]; omega) (fun a33 c33 ha33 => ?_))
     refine ⟨qR, qS, ?_⟩
     refine WA.eff 15 rfl (by kernel_rfl) rfl rfl (by decide) (Ef.appendD 4 1 tab_ok rfl rfl rfl rfl rfl rfl rfl rfl rfl rfl rfl (fun _ _ => rfl) (by simp only [List.length_cons, List.length_nil]; omega) (by simp only [List.length_cons, List.length_nil]; omega) (fun a40 c40 ha40 => ?_))
     refine ⟨qR, qS, ?_⟩
     refine tP 16 ?_
     refine tP 17 ?_
     refine zCF 18 5 ?_
     refine tP 19 ?_
     refine tP 20 ?_
     refine zCF 21 5 ?_
     refine WA.done qK ?_
     refine zU (zQ (zG (zR 1 rfl (zN (zU (zT (wt ?_)))))))
     refine WE.subE (E' := .sl 9 1 a33 c33 ((ns ++ [nm]).map encT) :: .sl 29 5 a40 c40 ((ms ++ [(⟨x1, y1, x2, y2, L⟩ : LnM)]).map encLn) :: .blk b [.slice a33 (ns ++ [nm]).length c33, .slice a40 (ms ++ [(⟨x1, y1, x2, y2, L⟩ : LnM)]).length c40, .slice none 0 0] :: F) qS ?_
     refine WE.retF tab_ok [_] rfl ⟨rfl, trivial⟩ qR ?_
     exact ⟨by rw [hyes]; rfl, _, _, _, _, _, _, rfl, (fun h => by rw [hyes] at h; cases h), fun _ => ⟨⟨x1, y1, x2, y2, L⟩, by rw [(hLv hyes).1], rfl, ⟨hf1, hf2⟩, (hLv hyes).2⟩⟩
 ·try simp only [zk] at hc0
  have hno : lineO s = false := by simpa using hc0
  refine zK (zU (zQ (zG (zR 3 rfl ?_))))
  refine yL (Rd.add (Rd.blk 3 rfl) _) ?_
  refine zR 1 rfl ?_
  refine WL.call en76 rfl rfl qD (CallOp.mkT rfl rfl rfl rfl) (FlowNo_C hG hs (h7 hno) w0 _) ?_
  rintro _ _ _ - ⟨rfl, rfl, rfl⟩
  refine zR 3 rfl ?_
  refine zA fun b8 => ?_
  refine zE 0 ?_
  refine zR 1 rfl (zN (zU (zQ (zQ (zG (zR 1 rfl (zN (zU ?_))))))))
  refine W.cond rfl (fun hc1 => ?_) (fun hc1 => ?_)
  ·try simp only [zk] at hc1
   cases hc1
  ·try simp only [zk] at hc1
   refine zK (zU (zQ (zG (zR 2 rfl (zN (zU (zT ?_)))))))
   refine WE.subE (E' := .sl 9 1 a1 c1 (ns.map encT) :: .sl 29 5 a2 c2 (ms.map encLn) :: .blk b [.slice a1 ns.length c1, .slice a2 ms.length c2, .slice none 0 0] :: F) qS ?_
   refine WE.retF tab_ok [_] rfl ⟨rfl, trivial⟩ qR ?_
   exact ⟨by rw [hno]; rfl, _, _, _, _, ns, ms, rfl, fun _ => ⟨rfl, rfl⟩, (fun h => by rw [hno] at h; cases h)⟩

end Go.Proofs.YtmidibkljoaoiaaGreatDoor

/- A call under a guard that is known to hold. No condition. -/
namespace Go.Proofs.YtmidibkljoaoiaaGreatDoor.K
open Go Go.RowKit
section
variable {P : Program} {T : Tab} {ops rest : List Oper} {Q : Exit → Act → World → Prop} {n : Nat} {env : Env} {w0 : World} {R : Ro} {E : List Ent} {o : Oper} {pc p q : Bool}
theorem WL.callT {d : Nat} {f : FuncId} {vs : List Value} {Post : Value → Ro → List Ent → Prop} (hf : Enters P f) (hg : gpc ops env o = some pc) (hpc : pc = true) (hd : o.dst = some d) (hdn : d < n)
  (hc : CallOp env o.op q f vs) (hq : q = true) (hv : Fn P f vs w0 R E Post)
  (h : ∀ v R' E', RLe R R' → Post v R' E' → WG false P ops Q rest n ((d, true, v) :: env) w0 R' E') : WG false P ops Q (o :: rest) n env w0 R E := by
 subst hpc
 intro a w hk hm
 refine wpList_step fun K hK => ?_
 rw [hk.wanted hg]
 simp only [if_true, Oper.wp, run_call hk hc hq hf, Oper.upon, hd]
 refine (hv w hm).mono ?_
 rintro e w' ⟨v, R', E', rfl, hR, hm', hp⟩
 exact hK _ _ (h v R' E' hR hp _ _ (hk.putT hdn v) hm')
theorem WL.callAtT {d : Nat} {f : FuncId} {vs : List Value} {e : Ent} {Post : Value → Ro → Ent → List Ent → Prop} (i : Nat) (hf : Enters P f) (hg : gpc ops env o = some pc) (hpc : pc = true) (hd : o.dst = some d) (hdn : d < n)
  (hc : CallOp env o.op q f vs) (hq : q = true) (hE : E[i]? = some e)
  (hv : Fn P f vs w0 R (e :: E.eraseIdx i) (fun v R' E' => ∃ e' N, E' = N ++ e' :: E.eraseIdx i ∧ Post v R' e' N))
  (h : ∀ v R' e' N, RLe R R' → Post v R' e' N → WG false P ops Q rest n ((d, true, v) :: env) w0 R' (N ++ E.set i e')) : WG false P ops Q (o :: rest) n env w0 R E := by
 subst hpc
 intro a w hk hm
 refine wpList_step fun K hK => ?_
 rw [hk.wanted hg]
 simp only [if_true, Oper.wp, run_call hk hc hq hf, Oper.upon, hd]
 refine (hv w (hm.perm (perm_get hE))).mono ?_
 rintro e0 w' ⟨v, R', E', rfl, hR, hm', e', N, rfl, hp⟩
 exact hK _ _ (h v R' e' N hR hp _ _ (hk.putT hdn v) (hm'.perm ((perm_set e' hE).append_left N)))
end
end Go.Proofs.YtmidibkljoaoiaaGreatDoor.K

/- Chapter 24: a text without flows. No condition. -/
set_option maxRecDepth 4000
set_option linter.unusedSimpArgs false
set_option linter.unusedVariables false
namespace Go.Proofs.YtmidibkljoaoiaaGreatDoor
open Go Go.RowKit Go.Proofs.YtmidibkljoaoiaaGreatDoor.K Go.Proofs.YtmidibkljoaoiaaGreatDoor.M

theorem Cut03_V {R : Ro} (hG : GlobE R) {s sep : List UInt8} (hs : s.length ≤ 4000000000) : FnV Tryz.prog 51 [.string (str s), .string (str sep)] R (.tuple #[.string (str (Lib.cut s sep).1), .string (str (Lib.cut s sep).2.1), .bool (Lib.cut s sep).2.2]) := by
 obtain ⟨m, rest, hm0⟩ := hG.m
 refine FnV.of (fun w0 E w hm => ?_)
 have hsz := str_size s
 refine (sh_strings_Cut (str s) (str sep) m w qO (hm.cell hm0)).mono ?_
 rintro e w' ⟨rfl, n, rfl⟩
 have h1 : (str s).data.toList = s := by simp [str]
 have h2 : (str sep).data.toList = sep := by simp [str]
 rw [h1, h2]
 exact ⟨rfl, K.below_drewN w n⟩

set_option maxHeartbeats 4000000 in
theorem Parse0_C {R : Ro} (hG : GlobE R) {rows : List (List UInt8)} {tail : List UInt8} (hr : ∀ x ∈ rows, (∀ c ∈ x, c ≠ 10) ∧ lineO x = true ∧ x.length ≤ 4000) (hlen : (rowsT rows ++ tail).length ≤ 4000) (hrl : rows.length ≤ 100) (ht : tail = [] ∨ ∃ bd more, tail = bd ++ 10 :: more ∧ (∀ c ∈ bd, c ≠ 10) ∧ lineO bd = false ∧ (Lib.splitB (str [32]) 0 (min 7 ((str bd).size + 1) - 1) (str bd)).length ≠ 7) (w0 : World) (E : List Ent) : K.Fn Tryz.prog 19 [.string (str (rowsT rows ++ tail))] w0 R E (fun v R' E' => E' = E ∧ ∃ (na la : Option Addr) (nc lc : Nat) (ns : List (List UInt8)) (ms : List LnM) (line e : Int), v = .tuple #[.agg #[.slice na ns.length nc, .slice la ms.length lc, .slice none 0 0], .int .i64 line, .int .i64 e] ∧ K.RS R' 1 encT na ns ∧ K.RS R' 5 encLn la ms ∧ (∀ m ∈ ms, OkLn R' m) ∧ ns.length ≤ nc ∧ ms.length ≤ lc ∧ ((tail ≠ [] ∧ e = 4 ∧ line = rows.length + 1) ∨ (tail = [] ∧ line = 0 ∧ e = chkNet0 (rows.map nmR) (rows.map vlR) ∧ (e = 0 → ns = rows.map nmR ∧ ms.map (·.L) = rows.map vlR)))) := by
 have hss := str_size (rowsT rows ++ tail)
 refine fE 42 Tryz.func19 ?_
 refine zQ (zG ?_)
 refine zA fun b2 => ?_
 refine zR 2 rfl (zN (zU (zQ (zQ (zG (zR 3 rfl (zN (zU ?_))))))))
 refine W.condD rfl (fun hc0 => ?_) (fun hc0 => ?_)
 ·try dsimp only at hc0
  (rw [hss] at hc0; omega)
 ·try dsimp only at hc0
  refine zK (zU (zQ ?_))
  refine W.nil 29 5 qD ?_
  refine W.nil 9 1 qD ?_
  refine zQ (zG (zR 2 rfl (zN (zU (zB ?_)))))
  refine W.loopR (β := Nat × List (List UInt8) × List LnM × Option Addr × Nat × Option Addr × Nat × Ro) (fun (i, ns, ms, a1, c1, a2, c2, Rk) => i ≤ rows.length ∧ RLe R Rk ∧ ns = (rows.take i).map nmR ∧ ms.map (·.L) = (rows.take i).map vlR ∧ ∀ m ∈ ms, OkLn Rk m) (fun (i, ns, ms, a1, c1, a2, c2, Rk) => [(3, true, .int .i64 (i : Int)), (5, true, .string (str (rowsT (rows.drop i) ++ tail)))]) [2] [_] [] _ rfl (fun (i, ns, ms, a1, c1, a2, c2, Rk) => [(0, .sl 9 1 a1 c1 (ns.map encT)), (1, .sl 29 5 a2 c2 (ms.map encLn)), (2, .blk b2 [.slice a1 ns.length c1, .slice a2 ms.length c2, .slice none 0 0])]) (fun (i, ns, ms, a1, c1, a2, c2, Rk) => Rk) (fun (i, ns, ms, a1, c1, a2, c2, Rk) => rows.length - i) ((0, [], [], none, 0, none, 0, R)) (⟨Nat.zero_le _, RLe.refl _, rfl, rfl, fun m h => (by cases h)⟩) ⟨rfl, rfl, rfl, rfl⟩ (RLe.refl _) qS ?_
  intro zz hst
  obtain ⟨i, ns, ms, a1, c1, a2, c2, Rk⟩ := zz
  dsimp only [zipE, setAll, List.cons_append, List.nil_append, List.set_cons_zero, List.set_cons_succ] at hst ⊢
  obtain ⟨hi, hRk, hns, hms, hom⟩ := hst
  have hG := hG.mono hRk
  have hnl : ns.length = i := by rw [hns, List.length_map, List.length_take]; omega
  have hml : ms.length = i := by
   have := congrArg List.length hms
   rw [List.length_map, List.length_map, List.length_take] at this
   omega
  have hrd : (rowsT (rows.drop i) ++ tail).length ≤ 4000 := by
   have := rowsT_le rows i
   rw [List.length_append] at hlen ⊢
   omega
  refine zQ (zQ (zG (zR 1 rfl ?_)))
  refine WG.y rfl rfl qD (Yl.neS rfl rfl rfl (fun _ => rfl)) ?_
  refine zN (zU ?_)
  refine W.cond rfl (fun hc1 => ?_) (fun hc1 => ?_)
  ·try simp only [zk] at hc1
   have hne : rowsT (rows.drop i) ++ tail ≠ [] := fun h => hc1 (by rw [h]; rfl)
   obtain ⟨x, rest, hx, hx10, hxl, hx7, hxi, hxn⟩ : ∃ x rest, rowsT (rows.drop i) ++ tail = x ++ 10 :: rest ∧ (∀ c ∈ x, c ≠ 10) ∧ x.length ≤ 4000 ∧ (lineO x = false → (Lib.splitB (str [32]) 0 (min 7 ((str x).size + 1) - 1) (str x)).length ≠ 7) ∧ (i < rows.length → x = nth rows i ∧ rest = rowsT (rows.drop (i + 1)) ++ tail ∧ lineO x = true) ∧ (¬ i < rows.length → lineO x = false) := by
    by_cases h : i < rows.length
    ·have h1 := hr _ (nth_mem h)
     exact ⟨nth rows i, _, by rw [rowsT_drop h, List.append_assoc]; rfl, h1.1, h1.2.2, fun h2 => (by rw [h1.2.1] at h2; cases h2), fun _ => ⟨rfl, rfl, h1.2.1⟩, fun h2 => absurd h h2⟩
    ·rw [List.drop_of_length_le (by omega)] at hne ⊢
     rcases ht with ht | ⟨bd, more, ht, h1, h2, h3⟩
     ·exact absurd (by rw [ht]; rfl) hne
     ·refine ⟨bd, more, by rw [ht]; rfl, h1, ?_, fun _ => h3, fun h4 => absurd h4 h, fun _ => h2⟩
      have : (bd ++ 10 :: more).length ≤ 4000 := by rw [← ht]; rw [List.length_append] at hlen; omega
      rw [List.length_append] at this; omega
   have hcut : Lib.cut (rowsT (rows.drop i) ++ tail) [10] = (x, rest, true) := by rw [hx, cut_brk, brk_some _ hx10]; rfl
   refine zK (zU (zB (zQ (zG (zR 1 rfl ?_)))))
   refine yA ?_
   refine zR 1 rfl (zN (zU (zQ (zG (zR 1 rfl ?_)))))
   refine WG.callV en51 rfl rfl qD (CallOp.mk' rfl rfl rfl rfl) (fun _ => rfl) (fun hg => Cut03_V hG (s := rowsT (rows.drop i) ++ tail) (sep := [10]) qO) ?_
   rw [hcut]
   refine zR 7 rfl (zN (zU (zQ (zQ (zG (zR 3 rfl ?_))))))
   refine yP ?_
   refine WL.callT en52 rfl rfl rfl qD (CallOp.mk' rfl rfl rfl rfl) rfl (Take0_C hG (s := x) qO hx7 qO qO w0 _) ?_
   rintro _ R2 _ hR2 ⟨rfl, a1', a2', c1', c2', ns', ms', rfl, hA, hB⟩
   refine yP ?_
   refine yO ?_
   refine zN (zU ?_)
   refine W.cond rfl (fun hc2 => ?_) (fun hc2 => ?_)
   ·try simp only [zk] at hc2
    have hRR := hRk.trans hR2
    have hnx : lineO x = false := by simpa using hc2
    have hie : i = rows.length := by
     by_cases h : i < rows.length
     ·rw [(hxi h).2.2] at hnx; cases hnx
     ·omega
    have htn : tail ≠ [] := fun h => by
     rw [h, hie, List.drop_length] at hx
     simp [rowsT] at hx
    refine zQ (zG ?_)
    -- build
    refine WG.y rfl rfl qD (Yl.build (parts := []) tab_ok rfl rfl rfl rfl (fun _ => rfl) rfl rfl) ?_
    refine zR 1 rfl ?_
    refine zE 2 ?_
    refine zR 2 rfl (zN (zU (zT (wt (wb (wt (wb (wt ?_))))))))
    refine WE.retFS (E' := E) qS tab_ok [_, _, _] rfl ⟨⟨_, _, _, rfl, rfl, rfl, qB, rfl⟩, rfl, rfl, trivial⟩ qR ?_
    exact ⟨rfl, none, none, 0, 0, [], [], _, 4, rfl, ⟨by simp, .inl rfl, by simp⟩, ⟨by simp, .inl rfl, by simp⟩, (fun m h => by cases h), Nat.le_refl _, Nat.le_refl _, .inl ⟨htn, rfl, by rw [hie]⟩⟩
   ·try simp only [zk] at hc2
    have hyx : lineO x = true := by simpa using hc2
    have hil : i < rows.length := by
     by_cases h : i < rows.length
     ·exact h
     ·rw [hxn h] at hyx; cases hyx
    obtain ⟨hxe, hre, _⟩ := hxi hil
    obtain ⟨m, rfl, rfl, hmok, hmL⟩ := hB hyx
    rw [hre]
    refine zK (zU (zG (zR 2 rfl (zN (zL ?_)))))
    refine WE.again ((i + 1, ns ++ [nth (splC 32 x) 1], ms ++ [m], a1', c1', a2', c2', R2)) (⟨by omega, hRk.trans hR2, by rw [take_nth hil, List.map_append, ← hns, ← hxe]; rfl, by
     rw [List.map_append, hms, take_nth hil, List.map_append, ← hxe, List.map_singleton, List.map_singleton, hmL]; rfl, fun q hq => by
     rcases List.mem_append.1 hq with h | h
     ·exact (hom q h).mono hR2
     ·rw [List.mem_singleton.1 h]; exact hmok⟩) (by (try dsimp only); omega) ⟨rfl, rfl, rfl, rfl⟩ (RLe.refl _) qS
  ·try simp only [zk] at hc1
   have hnil : rowsT (rows.drop i) ++ tail = [] := str_inj (b := []) (by first | exact hc1 | exact Classical.not_not.1 hc1)
   obtain ⟨h1, htl⟩ := List.append_eq_nil_iff.1 hnil
   have hin : i = rows.length := by
    by_cases h : i < rows.length
    ·rw [rowsT_drop h] at h1; simp at h1
    ·omega
   rw [hin, List.take_length] at hns hms
   have hnn : ∀ x ∈ ns, x.length ≤ 9223372036854775807 := fun x hx => by
    rw [hns] at hx
    obtain ⟨y, hy, rfl⟩ := List.mem_map.1 hx
    have h2 := (hr y hy).2.2
    unfold nmR
    by_cases h3 : 1 < (splC 32 y).length
    ·exact Nat.le_trans (splC_mem 32 y _ (nth_mem h3)) (by omega)
    ·rw [nth_out (by omega)]; exact Nat.zero_le _
   refine zX ?_
   refine wx (wx (zY (zU (zQ ?_))))
   refine W.cap 0 rfl ?_
   intro hcl1
   refine W.cap 1 rfl ?_
   intro hcl2
   refine W.freeze (enc := encT) (xs := ns) 0 rfl ?_
   intro R3 hR3 hna
   refine W.freeze (enc := encLn) (xs := ms) 0 rfl ?_
   intro R4 hR4 hla
   have hna := hna.mono hR4
   have hRR := (hRk.trans hR3).trans hR4
   refine zQ (zG ?_)
   refine yL (Rd.blk 0 rfl) ?_
   refine WG.callV en32 rfl rfl qD (CallOp.mk' rfl rfl rfl rfl) (fun _ => rfl) (fun hg => NCheck0_V hna hla (fun m hm => (hom m hm).mono (hR3.trans hR4)) hnn) ?_
   refine zR 1 rfl (zN (zU (zQ (zG (zR 2 rfl (zN (zU ?_)))))))
   refine W.condN rfl (fun hc3 => ?_) (fun hc3 => ?_)
   ·try dsimp only at hc3
    refine zQ (zG ?_)
    -- build
    refine WG.y rfl rfl qD (Yl.build (parts := []) tab_ok rfl rfl rfl rfl (fun _ => rfl) rfl rfl) ?_
    refine zR 1 rfl ?_
    refine zE 0 ?_
    refine zR 2 rfl (zN (zU (zT (wt ?_))))
    refine WE.retFS (E' := E) qS tab_ok [_, _, _] rfl ⟨⟨_, _, _, rfl, rfl, rfl, qB, rfl⟩, rfl, rfl, trivial⟩ qR ?_
    exact ⟨rfl, none, none, 0, 0, [], [], 0, _, rfl, ⟨by simp, .inl rfl, by simp⟩, ⟨by simp, .inl rfl, by simp⟩, (fun m h => by cases h), Nat.le_refl _, Nat.le_refl _, .inr ⟨htl, rfl, by rw [hns, hms], fun h => absurd h hc3⟩⟩
   ·try dsimp only at hc3
    refine zK (zU (zQ (zG ?_)))
    refine yL (Rd.blk 0 rfl) ?_
    refine zE 0 ?_
    refine zR 2 rfl (zN (zU (zT ?_)))
    refine WE.retFS (E' := E) qS tab_ok [_, _, _] rfl ⟨⟨_, _, _, rfl, rfl, rfl, qB, rfl⟩, rfl, rfl, trivial⟩ qR ?_
    exact ⟨rfl, a1, a2, c1, c2, ns, ms, 0, 0, rfl, hna, hla, (fun m h => (hom m h).mono (hR3.trans hR4)), by simpa using hcl1, by simpa using hcl2, .inr ⟨htl, rfl, by rw [← hns, ← hms]; first | exact hc3.symm | exact (Classical.not_not.1 hc3).symm, fun _ => ⟨hns, hms⟩⟩⟩



theorem Ints23_V {R : Ro} {a b : Option Addr} {c d : Nat} {xs ys : List Int} (ha : K.RS R 1 encI a xs) (hb : K.RS R 1 encI b ys) : FnV Tryz.prog 59 [.slice a xs.length c, .slice b ys.length d] R (.bool (decide (xs = ys))) := by
 refine Fn.toV (fun w0 E => ?_)
 have hla := ha.len
 have hlb := hb.len
 refine fE 26 Tryz.func59 ?_
 refine zQ (zG (zR 1 rfl (zN (zU (zQ (zQ (zG (zR 5 rfl (zN (zU ?_))))))))))
 refine W.condN rfl (fun hc0 => ?_) (fun hc0 => ?_)
 ·try dsimp only at hc0
  have hno : ¬ xs = ys := fun h => by rw [h] at hc0; exact hc0 rfl
  refine zQ (zG (zR 1 rfl (zN (zU (zT (wt ?_))))))
  refine sE (E := E) ?_
  refine WE.retF tab_ok [_] rfl ⟨rfl, trivial⟩ (RLe.refl _) ?_
  exact ⟨by rw [decide_eq_false hno]; rfl, rfl⟩
 ·try dsimp only at hc0
  have hll : xs.length = ys.length := by omega
  refine zK (zU (zQ (zQ (zG (zR 1 rfl (zN (zU (zB ?_))))))))
  refine W.loopK (β := Nat) (fun i => i ≤ xs.length ∧ ∀ j, j < i → nth xs j = nth ys j) (fun i => [(5, true, .int .i64 (i : Int))]) [0, 1] [_, _] [] _ rfl (fun i => []) (fun i => xs.length - i) (0) (⟨Nat.zero_le _, fun j hj => by omega⟩) ⟨rfl, rfl, rfl, rfl⟩ qS ?_
  intro i hst
  dsimp only [zipE, setAll, List.cons_append, List.nil_append, List.set_cons_zero, List.set_cons_succ] at hst ⊢
  
  refine zQ (zQ (zG (zR 4 rfl (zN (zU ?_)))))
  refine W.condD rfl (fun hc1 => ?_) (fun hc1 => ?_)
  ·try dsimp only at hc1
   have hil : i < xs.length := by omega
   refine zK (zU (zQ (zB (zQ ?_))))
   refine W.regionQ _ mixed qK ?_
   refine zR 2 rfl ?_
   refine WG.y rfl rfl qD (Yl.indexN tab_ok rfl rfl rfl rfl rfl rfl (fun _ => rfl) qN qH) ?_
   refine' WG.y rfl rfl qD (Yl.load1 tab_ok rfl rfl rfl (fun _ => rfl) ?r1 rfl ?h1) ?_
   case r1 => exact RS.rdD ha qO
   case h1 => rfl
   refine zR 2 rfl ?_
   refine WG.y rfl rfl qD (Yl.indexN tab_ok rfl rfl rfl rfl rfl rfl (fun _ => rfl) qN qH) ?_
   refine' WG.y rfl rfl qD (Yl.load1 tab_ok rfl rfl rfl (fun _ => rfl) ?r2 rfl ?h2) ?_
   case r2 => exact RS.rdD hb qO
   case h2 => rfl
   refine zR 1 rfl (zN (zU ?_))
   refine W.condN rfl (fun hc2 => ?_) (fun hc2 => ?_)
   ·try dsimp only at hc2
    have hno : ¬ xs = ys := fun h => by rw [h] at hc2; exact hc2 rfl
    refine zQ (zG (zR 1 rfl (zN (zU (zT (wb (wt (wt (wb (wt ?_))))))))))
    refine sE (E := E) ?_
    refine WE.retF tab_ok [_] rfl ⟨rfl, trivial⟩ (RLe.refl _) ?_
    exact ⟨by rw [decide_eq_false hno]; rfl, rfl⟩
   ·try dsimp only at hc2
    have hee : nth xs i = nth ys i := by omega
    refine zK (zL (zU (zG (zR 1 rfl ?_))))
    refine yA ?_
    refine zR 1 rfl (zN ?_)
    refine WE.again (i + 1) (⟨by omega, fun j hj => by
     by_cases e : j = i
     ·subst e; exact hee
     ·exact hst.2 j (by omega)⟩) (by (try dsimp only); omega) ⟨rfl, rfl, rfl, rfl⟩ (RLe.refl _) qS
  ·try dsimp only at hc1
   obtain rfl : i = xs.length := by omega
   refine zX ?_
   refine wx (wx (zY (zU (zQ (zG (zR 1 rfl (zN (zU (zT ?_)))))))))
   refine sE (E := E) ?_
   refine WE.retF tab_ok [_] rfl ⟨rfl, trivial⟩ (RLe.refl _) ?_
   have hyes : xs = ys := nth_ext hll hst.2
   exact ⟨by rw [decide_eq_true hyes]; rfl, rfl⟩

def Ln.same (L M : Ln) : Bool := (((decide (L.kind = M.kind) && decide (L.cap = M.cap)) && decide (L.n = M.n)) && decide (L.w = M.w)) && decide (L.tb = M.tb)
theorem Ln.same_iff {L M : Ln} : Ln.same L M = true ↔ L = M := by
 unfold Ln.same
 simp only [Bool.and_eq_true, decide_eq_true_eq]
 constructor
 ·rintro ⟨⟨⟨⟨h1, h2⟩, h3⟩, h4⟩, h5⟩
  cases L; cases M
  simp_all
 ·rintro rfl
  exact ⟨⟨⟨⟨rfl, rfl⟩, rfl⟩, rfl⟩, rfl⟩
instance decLn : DecidableEq Ln := fun _ _ => decidable_of_iff _ Ln.same_iff

set_option maxHeartbeats 2000000 in
theorem SameLn_V {R : Ro} {a1 a2 b1 b2 : Option Addr} {c1 c2 d1 d2 : Nat} {L M : Ln} (h1 : K.RS R 1 encI a1 L.w) (h2 : K.RS R 1 encI a2 L.tb) (h3 : K.RS R 1 encI b1 M.w) (h4 : K.RS R 1 encI b2 M.tb) : FnV Tryz.prog 24 [.agg #[.int .i64 L.kind, .int .i64 L.cap, .int .i64 L.n, .slice a1 L.w.length c1, .slice a2 L.tb.length c2], .agg #[.int .i64 M.kind, .int .i64 M.cap, .int .i64 M.n, .slice b1 M.w.length d1, .slice b2 M.tb.length d2]] R (.bool (Ln.same L M)) := by
 refine FnV.ofOwn (fun w0 hb0 => ?_)
 refine fE 38 Tryz.func24 ?_
 refine zQ (zG ?_)
 refine zO fun b2 => ?_
 refine zO fun b3 => ?_
 refine zR 1 rfl (zN (zU (zQ (zG (zR 1 rfl ?_)))))
 refine yL (Rd.add (Rd.blk 1 rfl) _) ?_
 refine zR 1 rfl ?_
 refine yL (Rd.add (Rd.blk 0 rfl) _) ?_
 refine zR 2 rfl ?_
 refine yP ?_
 refine yG (Rd.addC (Rd.blkC 1 rfl) _) ?_
 refine yP ?_
 refine yG (Rd.addC (Rd.blkC 0 rfl) _) ?_
 refine yP ?_
 refine yN ?_
 refine zR 1 rfl ?_
 refine yP ?_
 refine yG (Rd.addC (Rd.blkC 1 rfl) _) ?_
 refine yP ?_
 refine yG (Rd.addC (Rd.blkC 0 rfl) _) ?_
 refine yP ?_
 refine yN ?_
 refine zR 1 rfl ?_
 refine yP ?_
 refine yG (Rd.addC (Rd.blkC 1 rfl) _) ?_
 refine yP ?_
 refine yG (Rd.addC (Rd.blkC 0 rfl) _) ?_
 refine WG.callV en59 rfl rfl qD (CallOp.mk' rfl rfl rfl rfl) qE (fun hg => Ints23_V h1 h3) ?_
 refine yN ?_
 refine zR 1 rfl ?_
 refine yP ?_
 refine yG (Rd.addC (Rd.blkC 1 rfl) _) ?_
 refine yP ?_
 refine yG (Rd.addC (Rd.blkC 0 rfl) _) ?_
 refine WG.callV en59 rfl rfl qD (CallOp.mk' rfl rfl rfl rfl) qE (fun hg => Ints23_V h2 h4) ?_
 refine yN ?_
 refine zR 1 rfl (zN (zU (zT ?_)))
 refine WE.subE (E' := []) qS ?_
 refine WE.retF tab_ok [_] rfl ⟨rfl, trivial⟩ (RLe.refl _) ?_
 exact rfl

set_option maxHeartbeats 4000000 in
theorem Same0_V {R : Ro} {na la fa nb lb fb : Option Addr} {nc lc fc nd ld fd : Nat} {ns ks : List (List UInt8)} {ms qs : List LnM} (h1 : K.RS R 1 encT na ns) (h2 : K.RS R 5 encLn la ms) (h3 : K.RS R 1 encT nb ks) (h4 : K.RS R 5 encLn lb qs) (hm : ∀ m ∈ ms, OkLn R m) (hq : ∀ m ∈ qs, OkLn R m) : FnV Tryz.prog 21 [.agg #[.slice na ns.length nc, .slice la ms.length lc, .slice fa 0 fc], .agg #[.slice nb ks.length nd, .slice lb qs.length ld, .slice fb 0 fd]] R (.bool (decide (ns = ks ∧ ms.map (·.L) = qs.map (·.L)))) := by
 refine FnV.ofOwn (fun w0 hb0 => ?_)
 have l1 := h1.len
 have l2 := h2.len
 have l3 := h3.len
 have l4 := h4.len
 refine fE 89 Tryz.func21 ?_
 refine zQ (zG ?_)
 refine zO fun b2 => ?_
 refine zO fun b3 => ?_
 refine zR 1 rfl (zN (zU (zQ (zQ (zG (zR 1 rfl ?_))))))
 refine yL (Rd.add (Rd.blk 1 rfl) _) ?_
 refine zR 2 rfl ?_
 refine yL (Rd.add (Rd.blk 0 rfl) _) ?_
 refine zR 3 rfl ?_
 refine yP ?_
 refine yG (Rd.addC (Rd.blkC 1 rfl) _) ?_
 refine yP ?_
 refine yP ?_
 refine yG (Rd.addC (Rd.blkC 0 rfl) _) ?_
 refine yP ?_
 refine yP ?_
 refine yO ?_
 refine zR 1 rfl ?_
 refine yP ?_
 refine yG (Rd.addC (Rd.blkC 1 rfl) _) ?_
 refine yP ?_
 refine yP ?_
 refine yG (Rd.addC (Rd.blkC 0 rfl) _) ?_
 refine yP ?_
 refine yP ?_
 refine yO ?_
 refine zN (zU ?_)
 refine W.cond rfl (fun hc0 => ?_) (fun hc0 => ?_)
 ·try simp only [zk] at hc0
  have hno : ¬ (ns = ks ∧ ms.map (·.L) = qs.map (·.L)) := fun h => by
   have e1 := congrArg List.length h.1
   have e2 := congrArg List.length h.2
   rw [List.length_map, List.length_map] at e2
   rcases hc0 with (h1 | h1) | h1
   ·omega
   ·omega
   ·exact h1 trivial
  refine zQ (zG (zR 1 rfl (zN (zU (zT (wt ?_))))))
  refine WE.subE (E' := []) qS ?_
  refine WE.retF tab_ok [_] rfl ⟨rfl, trivial⟩ (RLe.refl _) ?_
  show Value.bool _ = _
  rw [decide_eq_false hno]
 ·try simp only [zk] at hc0
  obtain ⟨hl1, hl2⟩ : ns.length = ks.length ∧ ms.length = qs.length := by omega
  refine zK (zU (zQ (zQ (zG (zR 1 rfl (zN (zU (zB ?_))))))))
  refine W.loopK (β := Nat) (fun i => i ≤ ns.length ∧ ∀ j, j < i → nth ns j = nth ks j) (fun i => [(5, true, .int .i64 (i : Int))]) [2, 3] [_, _] [] _ rfl (fun i => []) (fun i => ns.length - i) (0) (⟨Nat.zero_le _, fun j hj => by omega⟩) ⟨rfl, rfl, rfl, rfl⟩ qS ?_
  intro i hst
  dsimp only [zipE, setAll, List.cons_append, List.nil_append, List.set_cons_zero, List.set_cons_succ] at hst ⊢
  
  refine zQ (zQ (zG (zR 2 rfl ?_)))
  refine yL (Rd.add (Rd.blk 1 rfl) _) ?_
  refine zR 2 rfl (zN (zU ?_))
  refine W.condD rfl (fun hc1 => ?_) (fun hc1 => ?_)
  ·try dsimp only at hc1
   have hil : i < ns.length := by omega
   refine zK (zU (zQ (zB (zQ ?_))))
   refine W.regionQ _ mixed qK ?_
   refine zR 1 rfl ?_
   refine yL (Rd.add (Rd.blk 1 rfl) _) ?_
   refine zR 1 rfl ?_
   refine WG.y rfl rfl qD (Yl.indexN tab_ok rfl rfl rfl rfl rfl rfl (fun _ => rfl) qN qH) ?_
   refine' WG.y rfl rfl qD (Yl.load1 tab_ok rfl rfl rfl (fun _ => rfl) ?r9 rfl ?h9) ?_
   case r9 => exact RS.rdD h1 qO
   case h9 => rfl
   refine zR 1 rfl ?_
   refine yL (Rd.add (Rd.blk 0 rfl) _) ?_
   refine zR 1 rfl ?_
   refine WG.y rfl rfl qD (Yl.indexN tab_ok rfl rfl rfl rfl rfl rfl (fun _ => rfl) qN qH) ?_
   refine' WG.y rfl rfl qD (Yl.load1 tab_ok rfl rfl rfl (fun _ => rfl) ?r11 rfl ?h11) ?_
   case r11 => exact RS.rdD h3 qO
   case h11 => rfl
   refine WG.y rfl rfl qD (Yl.neS rfl rfl rfl (fun _ => rfl)) ?_
   refine zN (zU ?_)
   refine W.cond rfl (fun hc2 => ?_) (fun hc2 => ?_)
   ·try simp only [zk] at hc2
    have hno : ¬ (ns = ks ∧ ms.map (·.L) = qs.map (·.L)) := fun h => by rw [h.1] at hc2; exact hc2 rfl
    refine zQ (zG (zR 1 rfl (zN (zU (zT (wb (wt (wt (wb (wt ?_))))))))))
    refine WE.subE (E' := []) qS ?_
    refine WE.retF tab_ok [_] rfl ⟨rfl, trivial⟩ (RLe.refl _) ?_
    show Value.bool _ = _
    rw [decide_eq_false hno]
   ·try simp only [zk] at hc2
    have hee : nth ns i = nth ks i := str_inj (by first | exact hc2 | exact Classical.not_not.1 hc2)
    refine zK (zL (zU (zG (zR 1 rfl ?_))))
    refine yA ?_
    refine zR 1 rfl (zN ?_)
    refine WE.again (i + 1) (⟨by omega, fun j hj => by
     by_cases e : j = i
     ·subst e; exact hee
     ·exact hst.2 j (by omega)⟩) (by (try dsimp only); omega) ⟨rfl, rfl, rfl, rfl⟩ (RLe.refl _) qS
  ·try dsimp only at hc1
   obtain rfl : i = ns.length := by omega
   have hnk : ns = ks := nth_ext hl1 hst.2
   refine zX ?_
   refine wx (wx (zY (zU (zQ (zQ (zG (zR 1 rfl (zN (zU (zB ?_))))))))))
   refine W.loopK (β := Nat) (fun i => i ≤ ms.length ∧ ∀ j, j < i → (nth ms j).L = (nth qs j).L) (fun i => [(6, true, .int .i64 (i : Int))]) [2, 3] [_, _] [] _ rfl (fun i => []) (fun i => ms.length - i) (0) (⟨Nat.zero_le _, fun j hj => by omega⟩) ⟨rfl, rfl, rfl, rfl⟩ qS ?_
   intro i hst
   dsimp only [zipE, setAll, List.cons_append, List.nil_append, List.set_cons_zero, List.set_cons_succ] at hst ⊢
   
   refine zQ (zQ (zG (zR 2 rfl ?_)))
   refine yL (Rd.add (Rd.blk 1 rfl) _) ?_
   refine zR 2 rfl (zN (zU ?_))
   refine W.condD rfl (fun hc3 => ?_) (fun hc3 => ?_)
   ·try dsimp only at hc3
    have hil : i < ms.length := by omega
    have hiq : i < qs.length := by omega
    refine zK (zU (zQ (zB (zQ ?_))))
    refine W.regionQ _ mixed qK ?_
    refine zR 1 rfl ?_
    refine yL (Rd.add (Rd.blk 1 rfl) _) ?_
    refine zR 1 rfl ?_
    refine WG.y rfl rfl qD (Yl.indexN tab_ok rfl rfl rfl rfl rfl rfl (fun _ => rfl) qN qH) ?_
    refine' WG.y rfl rfl qD (Yl.load1 tab_ok rfl rfl rfl (fun _ => rfl) ?r14 rfl ?h14) ?_
    case r14 => exact RS.rdD h2 hil
    case h14 => rfl
    refine zR 1 rfl ?_
    refine yL (Rd.add (Rd.blk 0 rfl) _) ?_
    refine zR 1 rfl ?_
    refine WG.y rfl rfl qD (Yl.indexN tab_ok rfl rfl rfl rfl rfl rfl (fun _ => rfl) qN qH) ?_
    refine' WG.y rfl rfl qD (Yl.load1 tab_ok rfl rfl rfl (fun _ => rfl) ?r16 rfl ?h16) ?_
    case r16 => exact RS.rdD h4 hiq
    case h16 => rfl
    refine WG.callV en24 rfl rfl qD (CallOp.mk' rfl rfl rfl rfl) (fun _ => rfl) (fun hg => SameLn_V (L := (nth ms i).L) (M := (nth qs i).L) (hm _ (nth_mem hil)).1 (hm _ (nth_mem hil)).2 (hq _ (nth_mem hiq)).1 (hq _ (nth_mem hiq)).2) ?_
    refine zR 1 rfl (zN (zU ?_))
    refine W.cond rfl (fun hc4 => ?_) (fun hc4 => ?_)
    ·try simp only [zk] at hc4
     have hls : Ln.same (nth ms i).L (nth qs i).L = false := by simpa using hc4
     have hno : ¬ (ns = ks ∧ ms.map (·.L) = qs.map (·.L)) := fun h => by
      have e1 : (ms.map (·.L))[i]? = (qs.map (·.L))[i]? := by rw [h.2]
      rw [List.getElem?_map, List.getElem?_map, List.getElem?_eq_getElem hil, List.getElem?_eq_getElem hiq] at e1
      have e2 : (ms[i]).L = (qs[i]).L := Option.some.inj e1
      rw [nth_eq hil, nth_eq hiq] at hls
      rw [e2] at hls
      have := (Ln.same_iff (L := (qs[i]).L) (M := (qs[i]).L)).2 rfl
      rw [hls] at this; cases this
     refine zQ (zG (zR 1 rfl (zN (zU (zT (wb (wt (wt (wb (wt ?_))))))))))
     refine WE.subE (E' := []) qS ?_
     refine WE.retF tab_ok [_] rfl ⟨rfl, trivial⟩ (RLe.refl _) ?_
     show Value.bool _ = _
     rw [decide_eq_false hno]
    ·try simp only [zk] at hc4
     have hls : (nth ms i).L = (nth qs i).L := Ln.same_iff.1 (by simpa using hc4)
     refine zK (zL (zU (zG (zR 1 rfl ?_))))
     refine yA ?_
     refine zR 1 rfl (zN ?_)
     refine WE.again (i + 1) (⟨by omega, fun j hj => by
      by_cases e : j = i
      ·subst e; exact hls
      ·exact hst.2 j (by omega)⟩) (by (try dsimp only); omega) ⟨rfl, rfl, rfl, rfl⟩ (RLe.refl _) qS
   ·try dsimp only at hc3
    obtain rfl : i = ms.length := by omega
    have hmq : ms.map (·.L) = qs.map (·.L) := by
     refine List.ext_getElem (by rw [List.length_map, List.length_map]; exact hl2) (fun j h1 h2 => ?_)
     rw [List.length_map] at h1 h2
     have := hst.2 j h1
     rw [nth_eq h1, nth_eq h2] at this
     rw [List.getElem_map, List.getElem_map]
     exact this
    refine zX ?_
    refine wx (wx (zY (zU (zQ (zQ (zG (zR 1 rfl (zN (zU (zB ?_))))))))))
    refine W.loopK (β := Unit) (fun _u => True) (fun _u => [(7, true, .int .i64 0)]) [2, 3] [_, _] [] _ rfl (fun _u => []) (fun _u => 0) (()) (trivial) ⟨rfl, rfl, rfl, rfl⟩ qS ?_
    intro _u hst
    dsimp only [zipE, setAll, List.cons_append, List.nil_append, List.set_cons_zero, List.set_cons_succ] at hst ⊢
    
    refine zQ (zQ (zG (zR 2 rfl ?_)))
    refine yL (Rd.add (Rd.blk 1 rfl) _) ?_
    refine zR 2 rfl (zN (zU ?_))
    refine W.condD rfl (fun hc5 => ?_) (fun hc5 => ?_)
    ·try dsimp only at hc5
     omega
    ·try dsimp only at hc5
     refine zX ?_
     refine wx (wx (zY (zU (zQ (zG (zR 1 rfl (zN (zU (zT ?_)))))))))
     refine WE.subE (E' := []) qS ?_
     refine WE.retF tab_ok [_] rfl ⟨rfl, trivial⟩ (RLe.refl _) ?_
     show Value.bool _ = _
     rw [decide_eq_true ⟨hnk, hmq⟩]



theorem tmod_gt (x : Int) {n : Int} (h : 0 < n) : -n < x.tmod n := by
 rcases Int.le_total 0 x with h0 | h0
 ·have := Int.tmod_nonneg n h0; omega
 ·have h1 := Int.neg_tmod (a := x) (b := n)
  have h2 := Int.tmod_lt_of_pos (-x) h
  omega
theorem mod_pos {x n : Int} (h : 1 ≤ n) (hc : ¬ x.tmod n < 0) : x.tmod n = x % n := by
 rw [Int.tmod_eq_emod] at hc ⊢
 split at hc
 ·rename_i h1; rw [if_pos h1]; omega
 ·rename_i h1
  rw [if_neg h1]
  have := Int.emod_lt_of_pos x (show 0 < n by omega)
  have h2 : (n.natAbs : Int) = n := by omega
  omega
theorem mod_neg {x n : Int} (h : 1 ≤ n) (hc : x.tmod n < 0) : x.tmod n + n = x % n := by
 rw [Int.tmod_eq_emod] at hc ⊢
 split at hc
 ·rename_i h1
  have := Int.emod_nonneg x (show n ≠ 0 by omega)
  omega
 ·rename_i h1; rw [if_neg h1]
  have h2 : (n.natAbs : Int) = n := by omega
  omega
theorem src_end {b : Nat} {a : Option Addr} {cp : Nat} {xs : List Int} {c : Nat} (h : xs.length ≤ c) : srcE b a cp xs c = srcE b a cp xs (c + 1) := by
 unfold srcE
 rw [show min c xs.length = min (c + 1) xs.length by omega]
theorem src_next {b : Nat} {a : Option Addr} {cp : Nat} {xs : List Int} {c : Nat} (h : c < xs.length) : Ent.blk b [.slice a xs.length cp, .int .i64 (((min c xs.length : Nat) : Int) + 1)] = srcE b a cp xs (c + 1) := by
 unfold srcE
 rw [show ((min c xs.length : Nat) : Int) + 1 = ((min (c + 1) xs.length : Nat) : Int) by omega]

theorem Mod_V {R : Ro} {x n : Int} (hn : InR n) : FnV Tryz.prog 49 [.int .i64 x, .int .i64 n] R (.int .i64 (mod x n)) := by
 refine Fn.toV (fun w0 E => ?_)
 refine fE 16 Tryz.func49 ?_
 refine zQ (zG (zR 1 rfl (zN (zU (zQ (zQ (zG (zR 2 rfl (zN (zU ?_))))))))))
 refine W.condD rfl (fun hc0 => ?_) (fun hc0 => ?_)
 ·try dsimp only at hc0
  refine zQ (zG (zR 1 rfl (zN (zU (zT (wt ?_))))))
  refine WE.retF tab_ok [_] rfl ⟨rfl, trivial⟩ (RLe.refl _) ?_
  exact ⟨by unfold mod; rw [if_pos hc0]; rfl, rfl⟩
 ·try dsimp only at hc0
  refine zK (zU (zQ (zG (zR 2 rfl ?_))))
  refine WG.y rfl rfl qD (Yl.tmod rfl rfl rfl (fun _ => rfl) (by intro _; omega)) ?_
  refine zR 1 rfl (zN (zU (zQ (zQ (zG (zR 2 rfl (zN (zU ?_))))))))
  refine W.condD rfl (fun hc1 => ?_) (fun hc1 => ?_)
  ·try dsimp only at hc1
   refine zG (zR 2 rfl ?_)
   refine WG.y rfl rfl qD (Yl.add rfl rfl rfl (fun _ => rfl) (by intro _; have h9 := tmod_gt x (show (0 : Int) < n by omega); constructor <;> omega)) ?_
   refine zR 1 rfl (zN (zU (zQ (zG (zR 2 rfl (zN (zU (zT ?_))))))))
   refine WE.retF tab_ok [_] rfl ⟨rfl, trivial⟩ (RLe.refl _) ?_
   refine ⟨congrArg (Value.int .i64) ?_, rfl⟩
   unfold mod; rw [if_neg hc0]; exact mod_neg (by omega) hc1
  ·try dsimp only at hc1
   refine zK (zU (zQ (zG (zR 2 rfl (zN (zU (zT ?_)))))))
   refine WE.retF tab_ok [_] rfl ⟨rfl, trivial⟩ (RLe.refl _) ?_
   refine ⟨congrArg (Value.int .i64) ?_, rfl⟩
   unfold mod; rw [if_neg hc0]; exact mod_pos (by omega) hc1

theorem Raw_C {R : Ro} {b : Nat} {a : Option Addr} {cp : Nat} {xs : List Int} {c : Nat} (w0 : World) (ha : RS R 1 encI a xs) : FnAt Tryz.prog 50 [.pointer (some ⟨b, 0, none⟩)] w0 R (srcE b a cp xs c) (RdPost (.int .i64 (nth xs c)) R (srcE b a cp xs (c + 1))) := by
 intro F
 have hla := ha.len
 refine fE 31 Tryz.func50 ?_
 refine zQ (zG (zR 1 rfl (zN (zU (zQ (zQ ?_))))))
 refine W.regionQ _ mixed qK ?_
 refine zR 3 rfl ?_
 refine yL (Rd.add (Rd.blk 0 rfl) _) ?_
 refine zR 3 rfl ?_
 refine yL (Rd.add (Rd.blk 0 rfl) _) ?_
 refine zR 2 rfl (zN (zU ?_))
 refine W.condD rfl (fun hc0 => ?_) (fun hc0 => ?_)
 ·try dsimp only at hc0
  refine zQ (zG (zR 1 rfl (zN (zU (zT (wt ?_))))))
  refine WE.retF tab_ok [_] rfl ⟨rfl, trivial⟩ (RLe.refl _) ?_
  exact ⟨_, [], rfl, by rw [nth_out (by omega)]; rfl, rfl, src_end (by omega), rfl⟩
 ·try dsimp only at hc0
  refine zK (zU (zQ (zG (zR 3 rfl ?_))))
  refine yL (Rd.add (Rd.blk 0 rfl) _) ?_
  refine yA ?_
  refine zR 2 rfl ?_
  refine zF 0 ?_
  refine zN (zU (zQ ?_))
  refine W.regionQ _ mixed qK ?_
  refine zR 3 rfl ?_
  refine yL (Rd.add (Rd.blk 0 rfl) _) ?_
  refine zR 3 rfl ?_
  refine yL (Rd.add (Rd.blk 0 rfl) _) ?_
  refine yS ?_
  refine WG.y rfl rfl qD (Yl.index tab_ok rfl rfl rfl rfl rfl rfl (fun _ => rfl) qA qH) ?_
  refine yR ?_
  refine zR 1 rfl (zN (zU (zT ?_)))
  refine WE.retF tab_ok [_] rfl ⟨rfl, trivial⟩ (RLe.refl _) ?_
  exact ⟨_, [], rfl, congrArg (fun i => Value.int .i64 (nth xs i)) (show _ = c by omega), rfl, src_next qO, rfl⟩

theorem N_C {R : Ro} {b : Nat} {a : Option Addr} {cp : Nat} {xs : List Int} {c : Nat} (w0 : World) {n : Int} (ha : RS R 1 encI a xs) (hn : InR n) : FnAt Tryz.prog 17 [.pointer (some ⟨b, 0, none⟩), .int .i64 n] w0 R (srcE b a cp xs c) (RdPost (.int .i64 (mod (nth xs c) n)) R (srcE b a cp xs (c + 1))) := by
 intro F
 refine fE 9 Tryz.func17 ?_
 refine zQ (zG (zR 1 rfl (zN (zU (zQ (zG (zR 1 rfl ?_)))))))
 refine WL.callAt 0 en50 rfl rfl qD (CallOp.mkT rfl rfl rfl rfl) rfl (Raw_C w0 ha _) ?_
 rintro _ _ _ _ - ⟨rfl, rfl, rfl, rfl⟩
 refine zR 1 rfl ?_
 refine WG.callV en49 rfl rfl qD (CallOp.mk' rfl rfl rfl rfl) (fun _ => rfl) (fun hg => Mod_V hn) ?_
 refine zR 1 rfl (zN (zU (zT ?_)))
 refine WE.retF tab_ok [_] rfl ⟨rfl, trivial⟩ (RLe.refl _) ?_
 exact ⟨_, [], rfl, rfl, rfl, rfl, rfl⟩

theorem New_C {R : Ro} {a : Option Addr} {cp : Nat} {l : List Int} (w0 : World) (E : List Ent) (hc : l.length ≤ cp) :
  K.Fn Tryz.prog 8 [.slice a l.length cp] w0 R E (fun v R' E' => ∃ b, v = .pointer (some ⟨b, 0, none⟩) ∧ R = R' ∧ E' = srcE b a cp (l.take 2000) 0 :: E) := by
 refine fE 10 Tryz.func8 ?_
 refine zQ (zG (zR 1 rfl (zN (zU (zQ (zG (zR 4 rfl ?_)))))))
 refine WG.y rfl rfl qD (Yl.sliceH tab_ok rfl rfl rfl rfl rfl (fun _ => rfl) (by intro _; split <;> constructor <;> omega) rfl) ?_
 -- build
 refine WG.y rfl rfl qD (Yl.build (parts := [(0, .tmp 7)]) tab_ok rfl rfl rfl rfl (fun _ => rfl) rfl rfl) ?_
 refine zO fun b9 => ?_
 refine zR 1 rfl (zN (zU (zT ?_)))
 refine WE.retF tab_ok [_] rfl ⟨rfl, trivial⟩ (RLe.refl _) ?_
 refine ⟨_, rfl, rfl, ?_⟩
 unfold srcE
 rw [List.length_take, Nat.min_comm 0, Nat.min_zero]
 have e1 : ((if (2000 : Int) < (l.length : Int) then 2000 else (l.length : Int))).toNat = min 2000 l.length := by split <;> omega
 exact congrArg (fun n => Ent.blk _ [Value.slice a n cp, .int .i64 0] :: E) e1



theorem Range_C {R : Ro} {b : Nat} {a : Option Addr} {cp : Nat} {xs : List Int} {c : Nat} (w0 : World) {lo hi : Int} (ha : K.RS R 1 encI a xs) (hlo : -1000000 ≤ lo ∧ lo ≤ hi) (hhi : hi ≤ 1000000) : FnAt Tryz.prog 25 [.pointer (some ⟨b, 0, none⟩), .int .i64 lo, .int .i64 hi] w0 R (srcE b a cp xs c) (RdPost (.int .i64 (lo + mod (nth xs c) (hi - lo + 1))) R (srcE b a cp xs (c + 1))) := by
 intro F
 have hmr := mod_range (nth xs c) (show (1 : Int) ≤ hi - lo + 1 by omega)
 refine fE 15 Tryz.func25 ?_
 refine zQ (zG (zR 1 rfl (zN (zU (zQ (zG (zR 4 rfl ?_)))))))
 refine yS ?_
 refine yA ?_
 refine WL.callAt 0 en17 rfl rfl qD (CallOp.mkT rfl rfl rfl rfl) rfl (N_C w0 ha (by constructor <;> omega) _) ?_
 rintro _ _ _ _ - ⟨rfl, rfl, rfl, rfl⟩
 refine yA ?_
 refine zR 1 rfl (zN (zU (zT ?_)))
 refine WE.retF tab_ok [_] rfl ⟨rfl, trivial⟩ (RLe.refl _) ?_
 exact ⟨_, [], rfl, rfl, rfl, rfl, rfl⟩

end Go.Proofs.YtmidibkljoaoiaaGreatDoor
