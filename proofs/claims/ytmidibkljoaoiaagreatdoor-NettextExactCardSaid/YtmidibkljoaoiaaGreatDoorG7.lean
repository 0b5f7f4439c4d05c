/- NettextExact: for every input the law returns true, and the input reads afterwards as it read before; the listed variables of the library start as its text lays them. -/
import Derived.Test.YtmidibkljoaoiaaGreatDoorG6
import Derived.Handed
import Derived.HandedShaped
import Derived.LaidMore
import Derived.LaidHandle
import Derived.LaidLaws
import Derived.MakeChecks
import Derived.Stop.LaidErr
import Derived.Lib.LaidTab
import Derived.Shelf.Vars
import Derived.Test.YtmidibkljoaoiaaGreatDoorTie
import Derived.Test.YtmidibkljoaoiaaGreatDoorCards
import Derived.SevenTiedAt
import Derived.OpenShut
import Derived.Stop.Joined
import Derived.Lay
/- The references of chapter 24: a text of a network. No condition. -/
set_option maxRecDepth 4000
set_option linter.unusedSimpArgs false
set_option linter.unusedVariables false
namespace Go.Proofs.YtmidibkljoaoiaaGreatDoor
open Go Go.RowKit Go.Proofs.YtmidibkljoaoiaaGreatDoor.K Go.Proofs.YtmidibkljoaoiaaGreatDoor.M

set_option maxHeartbeats 4000000 in
theorem RPar24_C {R : Ro} {s : List UInt8} (hs : s.length ≤ 9223372036854775807) (w0 : World) (E : List Ent) : K.Fn Tryz.prog 20 [.string (str s)] w0 R E (fun v R' E' => ∃ (na la fa : Option Addr) (nc lc fc : Nat) (ns : List (List UInt8)) (ms : List LnM) (fs : List FlM) (line e : Int), v = .tuple #[.agg #[.slice na ns.length nc, .slice la ms.length lc, .slice fa fs.length fc], .int .i64 line, .int .i64 e] ∧ K.RS R' 1 encT na ns ∧ K.RS R' 5 encLn la ms ∧ K.RS R' 8 encFl fa fs ∧ (∀ m ∈ ms, OkLn R' m) ∧ (∀ x ∈ fs, OkFl R' x) ∧ (∀ x ∈ ns, x.length ≤ 9223372036854775807) ∧ parN s = ((ns, ms.map (·.L), fs.map (·.f)), line, e) ∧ E' = E) := by
 have hss := str_size s
 refine fE 108 Tryz.func20 ?_
 refine zQ (zG ?_)
 refine zA fun b2 => ?_
 refine zR 2 rfl (zN (zU (zQ (zQ (zG (zR 3 rfl (zN (zU ?_))))))))
 refine W.condD rfl (fun hc0 => ?_) (fun hc0 => ?_)
 ·try dsimp only at hc0
  have hpn : parN s = (zNt, 0, 3) := if_pos (by omega)
  refine zQ (zG ?_)
  -- build
  refine WG.y rfl rfl qD (Yl.build (parts := []) tab_ok rfl rfl rfl rfl (fun _ => rfl) rfl rfl) ?_
  refine zE 0 ?_
  refine zR 2 rfl (zN (zU (zT (wt ?_))))
  refine WE.retFS (E' := E) qS tab_ok [_, _, _] rfl ⟨⟨_, _, _, rfl, rfl, rfl, qB, rfl⟩, rfl, rfl, trivial⟩ (by first | exact RLe.refl _ | assumption | exact hR1.trans hR13) ?_
  exact ⟨none, none, none, 0, 0, 0, [], [], [], _, _, rfl, ⟨by simp, .inl rfl, by simp⟩, ⟨by simp, .inl rfl, by simp⟩, ⟨by simp, .inl rfl, by simp⟩, (fun m h => by cases h), (fun m h => by cases h), (fun x h => by cases h), by rw [hpn]; rfl, rfl⟩
 ·try dsimp only at hc0
  have hpn : parN s = if (parGo zNt 0 (splC 10 s)).2.2 ≠ 0 then parGo zNt 0 (splC 10 s) else if chkN (parGo zNt 0 (splC 10 s)).1 ≠ 0 then (zNt, 0, chkN (parGo zNt 0 (splC 10 s)).1) else ((parGo zNt 0 (splC 10 s)).1, 0, 0) := if_neg (by omega)
  refine zK (zU (zQ (zG ?_)))
  refine zA fun b5 => ?_
  refine zN (zU (zQ (zG (zR 1 rfl ?_))))
  refine WL.call en23 rfl rfl qD (CallOp.mkT rfl rfl rfl rfl) (Split24_C (s := s) (d := 10) qO w0 _) ?_
  rintro _ R1 _ hR1 ⟨a9, c9, rfl, hws1, hcw, rfl⟩
  have hwm := splC_mem 10 s
  have hwl := splC_len 10 s
  generalize splC 10 s = rr at hws1 hcw hwm hwl hpn ⊢
  refine zR 1 rfl (zN (zU (zQ ?_)))
  refine W.nil 35 8 qD ?_
  refine W.nil 29 5 qD ?_
  refine W.nil 9 1 qD ?_
  refine zQ (zG (zR 1 rfl (zN (zU (zB ?_)))))
  refine W.loopR (β := Nat × List (List UInt8) × List LnM × List FlM × (Option Addr × Nat) × (Option Addr × Nat) × (Option Addr × Nat) × Ro) (fun (i, ns, ms, fs, p1, p2, p3, Rk) => RLe R1 Rk ∧ i ≤ rr.length ∧ (ns.length ≤ i ∧ ms.length ≤ i ∧ fs.length ≤ i) ∧ parGo (ns, ms.map (·.L), fs.map (·.f)) i (rr.drop i) = parGo zNt 0 rr ∧ (∀ x ∈ ns, x.length ≤ 9223372036854775807) ∧ (∀ m ∈ ms, OkLn Rk m) ∧ ∀ x ∈ fs, OkFl Rk x ∧ x.f.route.length ≤ x.c1 ∧ x.f.cv.vals.length ≤ x.c2) (fun (i, ns, ms, fs, p1, p2, p3, Rk) => [(7, true, .int .i64 (i : Int))]) [2, 5, 6] [_, _, _] [] _ rfl (fun (i, ns, ms, fs, p1, p2, p3, Rk) => [(0, .sl 9 1 p1.1 p1.2 (ns.map encT)), (1, .sl 29 5 p2.1 p2.2 (ms.map encLn)), (2, .sl 35 8 p3.1 p3.2 (fs.map encFl)), (3, .blk b5 [.slice p1.1 ns.length p1.2, .slice p2.1 ms.length p2.2, .slice p3.1 fs.length p3.2])]) (fun (i, ns, ms, fs, p1, p2, p3, Rk) => Rk) (fun (i, ns, ms, fs, p1, p2, p3, Rk) => rr.length - i) ((0, [], [], [], (none, 0), (none, 0), (none, 0), R1)) (⟨RLe.refl _, Nat.zero_le _, ⟨Nat.le_refl _, Nat.le_refl _, Nat.le_refl _⟩, rfl, fun x h => (by cases h), fun m h => (by cases h), fun m h => (by cases h)⟩) ⟨rfl, rfl, rfl, rfl, rfl⟩ (RLe.refl _) qS ?_
  intro zz hst
  obtain ⟨i, ns, ms, fs, p1, p2, p3, Rk⟩ := zz
  dsimp only [zipE, setAll, List.cons_append, List.nil_append, List.set_cons_zero, List.set_cons_succ] at hst ⊢
  obtain ⟨hRk, hil, ⟨hnl, hml, hfl⟩, hpg, hnn, hom, hof2⟩ := hst
  obtain ⟨a1, c1⟩ := p1
  obtain ⟨a2, c2⟩ := p2
  obtain ⟨a3, c3⟩ := p3
  dsimp only
  have hws := hws1.mono hRk
  have hof : ∀ x ∈ fs, OkFl Rk x := fun x h => (hof2 x h).1
  refine zQ (zQ (zG (zR 4 rfl (zN (zU ?_)))))
  refine W.condD rfl (fun hc1 => ?_) (fun hc1 => ?_)
  ·try dsimp only at hc1
   have hir : i < rr.length := by omega
   have hxl := hwm _ (nth_mem hir)
   refine zK (zU (zQ (zB (zQ (zQ (zG (zR 3 rfl ?_)))))))
   refine yS ?_
   refine zR 2 rfl ?_
   refine yP ?_
   refine yP ?_
   refine WG.y rfl rfl (by decide) (Yl.indexN tab_ok rfl rfl rfl rfl rfl rfl qE (by intro hg; (try simp only [zk] at hg); (try dsimp only) <;> omega) (by intro hg; (try simp only [zk] at hg); first | exact qI)) ?_
   refine' WG.y rfl rfl qD (Yl.loadG tab_ok rfl rfl rfl qE ?r1 rfl ?h1 ?g1) ?_
   case r1 => ((apply RS.rdC; assumption))
   case h1 => rfl
   case g1 => (intro hg; (try simp only [zk] at hg); (try dsimp only); omega)
   refine WG.y rfl rfl qD (Yl.eqS rfl rfl rfl qE) ?_
   refine yN ?_
   refine zN (zU ?_)
   refine W.cond rfl (fun hc2 => ?_) (fun hc2 => ?_)
   ·try simp only [zk] at hc2
    have hpz : parGo zNt 0 rr = ((ns, ms.map (·.L), fs.map (·.f)), 0, 0) := by rw [← hpg, par_lastE (by have := hc2.1; omega) (str_inj (b := []) hc2.2)]
    rw [hpz, if_neg (fun h => h rfl)] at hpn
    have hpn : parN s = if chkNet ns (ms.map (·.L)) (fs.map (·.f)) ≠ 0 then (zNt, 0, chkNet ns (ms.map (·.L)) (fs.map (·.f))) else ((ns, ms.map (·.L), fs.map (·.f)), 0, 0) := hpn
    refine zX ?_
    refine wx ?_
    refine WE.blk_other rfl ?_
    refine wx (wx (zY (zU (zQ ?_))))
    refine W.cap 0 rfl ?_
    intro hcl1
    refine W.freeze (enc := encT) (xs := ns) 0 rfl ?_
    intro R3 hR3 hna
    refine W.freeze (enc := encLn) (xs := ms) 0 rfl ?_
    intro R4 hR4 hla
    refine W.freeze (enc := encFl) (xs := fs) 0 rfl ?_
    intro R5 hR5 hfa
    have hna := (hna.mono hR4).mono hR5
    have hla := hla.mono hR5
    have hRkz := (hR3.trans hR4).trans hR5
    have hRR := (hR1.trans hRk).trans hRkz
    refine zQ (zG ?_)
    refine yL (Rd.blk 0 rfl) ?_
    refine WG.callV en28 rfl rfl qD (CallOp.mk' rfl rfl rfl rfl) (fun _ => rfl) (fun hg => RCheck23_V hna hla hfa (fun m hm => (hom m hm).mono hRkz) (fun m hm => (hof m hm).mono hRkz) hnn) ?_
    refine zR 1 rfl (zN (zU (zQ (zG (zR 2 rfl (zN (zU ?_)))))))
    refine W.condN rfl (fun hc3 => ?_) (fun hc3 => ?_)
    ·try dsimp only at hc3
     refine zQ (zG ?_)
     -- build
     refine WG.y rfl rfl qD (Yl.build (parts := []) tab_ok rfl rfl rfl rfl (fun _ => rfl) rfl rfl) ?_
     refine zR 1 rfl ?_
     refine zE 1 ?_
     refine zR 2 rfl (zN (zU (zT (wt ?_))))
     refine WE.retFS (E' := E) qS tab_ok [_, _, _] rfl ⟨⟨_, _, _, rfl, rfl, rfl, qB, rfl⟩, rfl, rfl, trivial⟩ (by first | exact RLe.refl _ | assumption | exact hR1.trans hR13) ?_
     exact ⟨none, none, none, 0, 0, 0, [], [], [], _, _, rfl, ⟨by simp, .inl rfl, by simp⟩, ⟨by simp, .inl rfl, by simp⟩, ⟨by simp, .inl rfl, by simp⟩, (fun m h => by cases h), (fun m h => by cases h), (fun x h => by cases h), by rw [hpn, if_pos hc3]; rfl, rfl⟩
    ·try dsimp only at hc3
     refine zK (zU (zQ (zG ?_)))
     refine yL (Rd.blk 0 rfl) ?_
     refine zE 1 ?_
     refine zR 2 rfl (zN (zU (zT ?_)))
     refine WE.retFS (E' := E) qS tab_ok [_, _, _] rfl ⟨⟨_, _, _, rfl, rfl, rfl, qB, rfl⟩, rfl, rfl, trivial⟩ (by first | exact RLe.refl _ | assumption | exact hR1.trans hR13) ?_
     exact ⟨_, _, _, _, _, _, ns, ms, fs, 0, 0, rfl, hna, hla, hfa, (fun m h => (hom m h).mono hRkz), (fun x h => (hof x h).mono hRkz), hnn, by rw [hpn, if_neg (fun h => h (by first | exact hc3 | exact Classical.not_not.1 hc3))], rfl⟩
   ·try simp only [zk] at hc2
    have hlast : i + 1 = rr.length → nth rr i ≠ [] := fun h e => by
     have h1 := hc2 (by omega)
     rw [e] at h1
     exact absurd rfl h1
    refine zK (zU (zQ (zQ (zG (zR 2 rfl ?_)))))
    refine WG.y rfl rfl qD (Yl.indexN tab_ok rfl rfl rfl rfl rfl rfl (fun _ => rfl) qN qH) ?_
    refine yR ?_
    refine WL.call en53 rfl rfl qD (CallOp.mkT rfl rfl rfl rfl) (RPLine24_C (s := nth rr i) qO w0 _) ?_
    rintro _ R2 _ hR2 ⟨nm, L, x1, x2, y1, y2, rfl, hf1, hf2, hg1, hg2, hLv, rfl⟩
    have hws := hws.mono hR2
    have hR12 := hRk.trans hR2
    refine zR 4 rfl ?_
    refine zA fun b9 => ?_
    refine zR 1 rfl ?_
    refine zE 0 ?_
    refine zR 1 rfl (zN (zU (zQ (zG (zR 2 rfl ?_)))))
    refine yP ?_
    refine yG (Rd.addC (Rd.blkC 4 rfl) _) ?_
    refine yP ?_
    refine yP ?_
    refine yN ?_
    refine zR 1 rfl ?_
    refine yP ?_
    refine yP ?_
    refine yP ?_
    refine WG.y rfl rfl (by decide) (Yl.sub rfl rfl rfl qE (by intro hg; (try simp only [zk] at hg); constructor <;> (try dsimp only) <;> omega)) ?_
    refine yP ?_
    refine yN ?_
    refine zN (zU ?_)
    refine W.cond rfl (fun hc4 => ?_) (fun hc4 => ?_)
    ·try simp only [zk] at hc4
     obtain ⟨⟨hyes, hf0⟩, hi1⟩ := hc4
     have hfn : fs = [] := List.length_eq_zero_iff.1 (by omega)
     have hi2 : i + 1 < rr.length := by omega
     obtain ⟨hts, hnl2, hml2, hfl2, hnn2, hom2, hof3⟩ := take_some (R := R2) (s := nth rr i) (ns' := ns ++ [nm]) (ms' := ms ++ [⟨x1, y1, x2, y2, L⟩]) (fs' := fs) (.inl ⟨rfl, ⟨hyes, hfn⟩, by rw [(hLv hyes).1], rfl, ⟨x1, y1, x2, y2, L⟩, rfl, ⟨hf1, hf2⟩, (hLv hyes).2⟩) hR2 hnn (by omega) hom hof2
     refine zQ ?_
     refine W.regionD _ [.blk b9 [.int .i64 L.kind, .int .i64 L.cap, .int .i64 L.n, .slice x1 L.w.length y1, .slice x2 L.tb.length y2]] [.blk b9 [.int .i64 L.kind, .int .i64 L.cap, .int .i64 L.n, .slice x1 L.w.length y1, .slice x2 L.tb.length y2], .blk b5 [.slice a1 ns.length c1, .slice a2 ms.length c2, .slice a3 fs.length c3]] [11, 13] mixed ?_
     refine VA.take2 0 rfl qK qK qK rfl qK qK rfl rfl qD (pureV_ok tab_ok rfl (fun _ => rfl)) qS qR qS ?_
     refine' VA.take2 1 rfl qK qK qK rfl qK qK rfl rfl qD (Yl.load1 tab_ok rfl rfl rfl (fun _ => rfl) ?r6 rfl ?h6) qS qR qS ?_
     case r6 => apply Rd.add; (exact Rd.blk 1 rfl)
     case h6 => rfl
     refine VA.take2 2 rfl qK qK qK rfl qK qK rfl rfl qD (pureV_ok tab_ok rfl (fun _ => rfl)) qS qR qS ?_
     refine VA.take2 5 rfl qK qK qK rfl qK qK rfl rfl qD (pureV_ok tab_ok rfl (fun _ => rfl)) qS qR qS ?_
     refine' VA.take2 6 rfl qK qK qK rfl qK qK rfl rfl qD (Yl.load1 tab_ok rfl rfl rfl (fun _ => rfl) ?r7 rfl ?h7) qS qR qS ?_
     case r7 => apply Rd.add; (exact Rd.blk 1 rfl)
     case h7 => rfl
     refine' VA.take 7 rfl qK qK qK rfl rfl rfl qD (Yl.load1 tab_ok rfl rfl rfl (fun _ => rfl) ?r8 rfl ?h8) qS qR (fun _ => qS) ?_
     case r8 => (exact Rd.blk 0 rfl)
     case h8 => rfl
     refine VA.br2 qK (i := 3) (j := 8) ?_ ?_
     ·
      refine VS.eff rfl rfl rfl qD (Ef.buildSliceD (enc := encT) (parts := [.tmp 63]) [nm] tab_ok rfl rfl rfl rfl rfl rfl rfl rfl qD qD (fun a64 => ?_))
      refine ⟨by first | exact RLe.refl _ | assumption, qS, (fun _ => qS), ?_⟩
      refine VA.br2 qK (i := 4) (j := 8) ?_ ?_
      ·
       refine VS.eff rfl rfl rfl (by decide) (Ef.appendD 2 0 tab_ok rfl rfl rfl rfl rfl rfl rfl rfl rfl rfl rfl (fun _ _ => rfl) (by simp only [List.length_cons, List.length_nil]; omega) (by simp only [List.length_cons, List.length_nil]; omega) (fun a65 c65 ha65 => ?_))
       refine ⟨by first | exact RLe.refl _ | assumption, qS, (fun _ => qS), ?_⟩
       refine VA.take2 10 rfl qK qK qK rfl qK qK rfl rfl qD (pureV_ok tab_ok rfl (fun _ => rfl)) qS qR qS ?_
       refine VA.one (i := 8) qK ?_
       refine VS.eff rfl rfl rfl qD (Ef.buildSliceD (enc := encLn) (parts := [.tmp 68]) [⟨x1, y1, x2, y2, L⟩] tab_ok rfl rfl rfl rfl rfl rfl rfl rfl qD qD (fun a69 => ?_))
       refine ⟨by first | exact RLe.refl _ | assumption, qS, (fun _ => qS), ?_⟩
       refine VA.one (i := 9) qK ?_
       refine VS.eff rfl rfl rfl (by decide) (Ef.appendD 4 0 tab_ok rfl rfl rfl rfl rfl rfl rfl rfl rfl rfl rfl (fun _ _ => rfl) (by simp only [List.length_cons, List.length_nil]; omega) (by simp only [List.length_cons, List.length_nil]; omega) (fun a70 c70 ha70 => ?_))
       refine ⟨by first | exact RLe.refl _ | assumption, qS, (fun _ => qS), ?_⟩
       refine VA.one (i := 11) qK ?_
       refine VS.effN rfl rfl rfl (Ef.store 6 tab_ok rfl rfl rfl rfl rfl rfl rfl rfl ?_)
       refine ⟨by first | exact RLe.refl _ | assumption, qS, (noD qK), ?_⟩
       refine VA.take 12 rfl qK qK qK rfl rfl rfl qD (pureV_ok tab_ok rfl (fun _ => rfl)) qS qR (noD qK) ?_
       refine VA.one (i := 13) qK ?_
       refine VS.effN rfl rfl rfl (Ef.store 6 tab_ok rfl rfl rfl rfl rfl rfl rfl rfl ?_)
       refine ⟨by first | exact RLe.refl _ | assumption, qS, (noD qK), ?_⟩
       refine VA.done qK ?_
       refine zU ?_
       refine zX ?_
       refine wx (zY (zU (zG (zR 1 rfl ?_))))
       refine yA ?_
       refine zR 1 rfl (zN ?_)
       refine WE.again ((i + 1, ns ++ [nm], ms ++ [⟨x1, y1, x2, y2, L⟩], fs, (a65, c65), (a70, c70), (a3, c3), R2)) (⟨hR12, by dsimp only; omega, ⟨by dsimp only; omega, by dsimp only; omega, by dsimp only; omega⟩, (par_step hi2 hts).symm.trans hpg, hnn2, hom2, hof3⟩) (by show rr.length - (i + 1) < rr.length - i; omega) ⟨rfl, rfl, rfl, rfl, rfl⟩ (RLe.refl _) qS
      ·
       refine VS.eff rfl rfl rfl qD (Ef.buildSliceD (enc := encLn) (parts := [.tmp 68]) [⟨x1, y1, x2, y2, L⟩] tab_ok rfl rfl rfl rfl rfl rfl rfl rfl qD qD (fun a69 => ?_))
       refine ⟨by first | exact RLe.refl _ | assumption, qS, (fun _ => qS), ?_⟩
       refine VA.one (i := 4) qK ?_
       refine VS.eff rfl rfl rfl (by decide) (Ef.appendD 3 1 tab_ok rfl rfl rfl rfl rfl rfl rfl rfl rfl rfl rfl (fun _ _ => rfl) (by simp only [List.length_cons, List.length_nil]; omega) (by simp only [List.length_cons, List.length_nil]; omega) (fun a65 c65 ha65 => ?_))
       refine ⟨by first | exact RLe.refl _ | assumption, qS, (fun _ => qS), ?_⟩
       refine VA.take2 10 rfl qK qK qK rfl qK qK rfl rfl qD (pureV_ok tab_ok rfl (fun _ => rfl)) qS qR qS ?_
       refine VA.one (i := 9) qK ?_
       refine VS.eff rfl rfl rfl (by decide) (Ef.appendD 4 0 tab_ok rfl rfl rfl rfl rfl rfl rfl rfl rfl rfl rfl (fun _ _ => rfl) (by simp only [List.length_cons, List.length_nil]; omega) (by simp only [List.length_cons, List.length_nil]; omega) (fun a70 c70 ha70 => ?_))
       refine ⟨by first | exact RLe.refl _ | assumption, qS, (fun _ => qS), ?_⟩
       refine VA.one (i := 11) qK ?_
       refine VS.effN rfl rfl rfl (Ef.store 6 tab_ok rfl rfl rfl rfl rfl rfl rfl rfl ?_)
       refine ⟨by first | exact RLe.refl _ | assumption, qS, (noD qK), ?_⟩
       refine VA.take 12 rfl qK qK qK rfl rfl rfl qD (pureV_ok tab_ok rfl (fun _ => rfl)) qS qR (noD qK) ?_
       refine VA.one (i := 13) qK ?_
       refine VS.effN rfl rfl rfl (Ef.store 6 tab_ok rfl rfl rfl rfl rfl rfl rfl rfl ?_)
       refine ⟨by first | exact RLe.refl _ | assumption, qS, (noD qK), ?_⟩
       refine VA.done qK ?_
       refine zU ?_
       refine zX ?_
       refine wx (zY (zU (zG (zR 1 rfl ?_))))
       refine yA ?_
       refine zR 1 rfl (zN ?_)
       refine WE.again ((i + 1, ns ++ [nm], ms ++ [⟨x1, y1, x2, y2, L⟩], fs, (a65, c65), (a70, c70), (a3, c3), R2)) (⟨hR12, by dsimp only; omega, ⟨by dsimp only; omega, by dsimp only; omega, by dsimp only; omega⟩, (par_step hi2 hts).symm.trans hpg, hnn2, hom2, hof3⟩) (by show rr.length - (i + 1) < rr.length - i; omega) ⟨rfl, rfl, rfl, rfl, rfl⟩ (RLe.refl _) qS
     ·
      refine VS.eff rfl rfl rfl qD (Ef.buildSliceD (enc := encLn) (parts := [.tmp 68]) [⟨x1, y1, x2, y2, L⟩] tab_ok rfl rfl rfl rfl rfl rfl rfl rfl qD qD (fun a69 => ?_))
      refine ⟨by first | exact RLe.refl _ | assumption, qS, (fun _ => qS), ?_⟩
      refine VA.one (i := 3) qK ?_
      refine VS.eff rfl rfl rfl qD (Ef.buildSliceD (enc := encT) (parts := [.tmp 63]) [nm] tab_ok rfl rfl rfl rfl rfl rfl rfl rfl qD qD (fun a64 => ?_))
      refine ⟨by first | exact RLe.refl _ | assumption, qS, (fun _ => qS), ?_⟩
      refine VA.one (i := 4) qK ?_
      refine VS.eff rfl rfl rfl (by decide) (Ef.appendD 3 0 tab_ok rfl rfl rfl rfl rfl rfl rfl rfl rfl rfl rfl (fun _ _ => rfl) (by simp only [List.length_cons, List.length_nil]; omega) (by simp only [List.length_cons, List.length_nil]; omega) (fun a65 c65 ha65 => ?_))
      refine ⟨by first | exact RLe.refl _ | assumption, qS, (fun _ => qS), ?_⟩
      refine VA.take2 10 rfl qK qK qK rfl qK qK rfl rfl qD (pureV_ok tab_ok rfl (fun _ => rfl)) qS qR qS ?_
      refine VA.one (i := 9) qK ?_
      refine VS.eff rfl rfl rfl (by decide) (Ef.appendD 4 1 tab_ok rfl rfl rfl rfl rfl rfl rfl rfl rfl rfl rfl (fun _ _ => rfl) (by simp only [List.length_cons, List.length_nil]; omega) (by simp only [List.length_cons, List.length_nil]; omega) (fun a70 c70 ha70 => ?_))
      refine ⟨by first | exact RLe.refl _ | assumption, qS, (fun _ => qS), ?_⟩
      refine VA.one (i := 11) qK ?_
      refine VS.effN rfl rfl rfl (Ef.store 6 tab_ok rfl rfl rfl rfl rfl rfl rfl rfl ?_)
      refine ⟨by first | exact RLe.refl _ | assumption, qS, (noD qK), ?_⟩
      refine VA.take 12 rfl qK qK qK rfl rfl rfl qD (pureV_ok tab_ok rfl (fun _ => rfl)) qS qR (noD qK) ?_
      refine VA.one (i := 13) qK ?_
      refine VS.effN rfl rfl rfl (Ef.store 6 tab_ok rfl rfl rfl rfl rfl rfl rfl rfl ?_)
      refine ⟨by first | exact RLe.refl _ | assumption, qS, (noD qK), ?_⟩
      refine VA.done qK ?_
      refine zU ?_
      refine zX ?_
      refine wx (zY (zU (zG (zR 1 rfl ?_))))
      refine yA ?_
      refine zR 1 rfl (zN ?_)
      refine WE.again ((i + 1, ns ++ [nm], ms ++ [⟨x1, y1, x2, y2, L⟩], fs, (a65, c65), (a70, c70), (a3, c3), R2)) (⟨hR12, by dsimp only; omega, ⟨by dsimp only; omega, by dsimp only; omega, by dsimp only; omega⟩, (par_step hi2 hts).symm.trans hpg, hnn2, hom2, hof3⟩) (by show rr.length - (i + 1) < rr.length - i; omega) ⟨rfl, rfl, rfl, rfl, rfl⟩ (RLe.refl _) qS
    ·try simp only [zk] at hc4
     have hno : i + 1 < rr.length → ¬ (lineO (nth rr i) = true ∧ fs = []) := fun h1 h => by
      have h2 := hc4 ⟨h.1, by rw [h.2]; rfl⟩
      omega
     refine zK (zU (zQ ?_))
     refine W.regionH _ (ES := [.blk b5 [.slice a1 ns.length c1, .slice a2 ms.length c2, .slice a3 fs.length c3]]) mixed ?_
     refine tP 0 ?_
     refine tL 1 (Rd.add (Rd.blk 0 rfl) _) ?_
     refine tP 2 ?_
     refine tP 3 ?_
     refine WA.take 4 rfl qK qK qK rfl rfl qD (Yl.indexN tab_ok rfl rfl rfl rfl rfl rfl (fun _ => rfl) qN qH) qS qR ?_
     refine' WA.take 5 rfl qK qK qK rfl rfl qD (Yl.load1 tab_ok rfl rfl rfl (fun _ => rfl) ?r10 rfl ?h10) qS qR ?_
     case r10 => ((apply RS.rdD; assumption; ((try dsimp only) <;> omega)))
     case h10 => rfl
     refine WA.br2 (i := 6) (j := 10) qK ?_ ?_
     ·
      refine WS.callG rfl en54 rfl (by first | rfl | decide) rfl qD (CallOp.mkT rfl rfl rfl rfl) (RPFlow24_C (R := R2) (s := nth rr i) (ns := ns) qO (by first | exact LsT.own 1 rfl qO | exact LsT.own 2 rfl qO) rfl hnn w0) ?_
      rintro _ R3 _ hR3 ⟨x, rfl, hxo, hx1, hx2, hxf, rfl⟩
      have hws := hws.mono hR3
      have hR13 := hR12.trans hR3
      refine ⟨hR3, qS, ?_⟩
      refine tP 7 ?_
      refine tP 8 ?_
      refine tP 9 ?_
      refine WA.eff 10 rfl qK rfl rfl qD (Ef.alloc tab_ok rfl rfl (fun b11 => ?_))
      refine ⟨qR, qS, ?_⟩
      refine zCE 11 0 ?_
      refine tP 12 ?_
      refine WA.done qK ?_
      refine zU (zQ (zQ (zG (zR 3 rfl ?_))))
      refine yP ?_
      refine yP ?_
      refine yP ?_
      refine WG.y rfl rfl (by decide) (Yl.sub rfl rfl rfl qE (by intro hg; (try simp only [zk] at hg); constructor <;> (try dsimp only) <;> omega)) ?_
      refine yP ?_
      refine yO ?_
      refine zN (zU ?_)
      refine W.cond rfl (fun hc5 => ?_) (fun hc5 => ?_)
      ·try simp only [zk] at hc5
       have hpg2 : parGo zNt 0 rr = (zNt, (i : Int) + 1, 4) := by
        rw [← hpg]
        by_cases hi1 : i + 1 = rr.length
        ·exact par_lastN hi1 (hlast hi1)
        ·have hfo : flO ns (nth rr i) = false := by
          rcases hc5 with h | h
          ·simpa using h
          ·exfalso; omega
         exact par_stop qO (take_none (R := R3) (ns' := ns) (ms' := ms) (fs' := fs) (.inr (.inr ⟨rfl, hno qO, hfo, rfl, rfl, rfl⟩)))
       refine zQ (zG ?_)
       -- build
       refine WG.y rfl rfl qD (Yl.build (parts := []) tab_ok rfl rfl rfl rfl (fun _ => rfl) rfl rfl) ?_
       refine zR 1 rfl ?_
       refine yA ?_
       refine zE 6 ?_
       refine zR 2 rfl (zN (zU (zT (wt (wb (wt (wt (wb (wt ?_)))))))))
       refine WE.retFS (E' := E) qS tab_ok [_, _, _] rfl ⟨⟨_, _, _, rfl, rfl, rfl, qB, rfl⟩, rfl, rfl, trivial⟩ (by first | exact RLe.refl _ | assumption | exact hR1.trans hR13) ?_
       exact ⟨none, none, none, 0, 0, 0, [], [], [], _, _, rfl, ⟨by simp, .inl rfl, by simp⟩, ⟨by simp, .inl rfl, by simp⟩, ⟨by simp, .inl rfl, by simp⟩, (fun m h => by cases h), (fun m h => by cases h), (fun x h => by cases h), by rw [hpn, hpg2, if_pos (by show (4 : Int) ≠ 0; decide)]; rfl, rfl⟩
      ·try simp only [zk] at hc5
       obtain ⟨hfo, hi1⟩ := hc5
       have hfo : flO ns (nth rr i) = true := by simpa using hfo
       have hi2 : i + 1 < rr.length := by omega
       obtain ⟨hts, hnl2, hml2, hfl2, hnn2, hom2, hof3⟩ := take_some (R := R3) (R0 := Rk) (s := nth rr i) (ns' := ns) (ms' := ms) (fs' := fs ++ [x]) (.inr (.inl ⟨rfl, hno hi2, hfo, rfl, rfl, x, rfl, hxo, hx1, hx2, hxf hfo⟩)) (hR2.trans hR3) hnn (by omega) hom hof2
       refine zK (zU (zG (zR 1 rfl ?_)))
       refine yL (Rd.add (Rd.blk 5 rfl) _) ?_
       refine yL (Rd.blk 0 rfl) ?_
       refine WL.ef rfl rfl qD (Ef.buildSliceD (enc := encFl) (parts := [.tmp 97]) [x] tab_ok rfl rfl rfl rfl rfl rfl rfl rfl qD qD (fun a98 => ?_))
       refine WL.ef rfl rfl (by decide) (Ef.appendD 5 0 tab_ok rfl rfl rfl rfl rfl rfl rfl rfl rfl rfl rfl (fun _ _ => rfl) (by simp only [List.length_cons, List.length_nil]; omega) (by simp only [List.length_cons, List.length_nil]; omega) (fun a99 c99 ha99 => ?_))
       refine zR 1 rfl ?_
       refine zF 6 ?_
       refine zN (zL (zU (zG (zR 1 rfl ?_))))
       refine yA ?_
       refine zR 1 rfl (zN ?_)
       refine WE.again ((i + 1, ns, ms, fs ++ [x], (a1, c1), (a2, c2), (a99, c99), R3)) (⟨hR13, by dsimp only; omega, ⟨by dsimp only; omega, by dsimp only; omega, by dsimp only; omega⟩, (par_step hi2 hts).symm.trans hpg, hnn2, hom2, hof3⟩) (by show rr.length - (i + 1) < rr.length - i; omega) ⟨rfl, rfl, rfl, rfl, rfl⟩ (RLe.refl _) qS
     ·
      refine WS.eff rfl rfl rfl qD (Ef.alloc tab_ok rfl rfl (fun b11 => ?_))
      refine ⟨qR, qS, ?_⟩
      refine WA.callG 6 rfl qK en54 rfl (by first | rfl | decide) rfl qD (CallOp.mkT rfl rfl rfl rfl) (RPFlow24_C (R := R2) (s := nth rr i) (ns := ns) qO (by first | exact LsT.own 1 rfl qO | exact LsT.own 2 rfl qO) rfl hnn w0) ?_
      rintro _ R3 _ hR3 ⟨x, rfl, hxo, hx1, hx2, hxf, rfl⟩
      have hws := hws.mono hR3
      have hR13 := hR12.trans hR3
      refine ⟨hR3, qS, ?_⟩
      refine tP 7 ?_
      refine tP 8 ?_
      refine tP 9 ?_
      refine zCE 11 0 ?_
      refine tP 12 ?_
      refine WA.done qK ?_
      refine zU (zQ (zQ (zG (zR 3 rfl ?_))))
      refine yP ?_
      refine yP ?_
      refine yP ?_
      refine WG.y rfl rfl (by decide) (Yl.sub rfl rfl rfl qE (by intro hg; (try simp only [zk] at hg); constructor <;> (try dsimp only) <;> omega)) ?_
      refine yP ?_
      refine yO ?_
      refine zN (zU ?_)
      refine W.cond rfl (fun hc6 => ?_) (fun hc6 => ?_)
      ·try simp only [zk] at hc6
       have hpg2 : parGo zNt 0 rr = (zNt, (i : Int) + 1, 4) := by
        rw [← hpg]
        by_cases hi1 : i + 1 = rr.length
        ·exact par_lastN hi1 (hlast hi1)
        ·have hfo : flO ns (nth rr i) = false := by
          rcases hc6 with h | h
          ·simpa using h
          ·exfalso; omega
         exact par_stop qO (take_none (R := R3) (ns' := ns) (ms' := ms) (fs' := fs) (.inr (.inr ⟨rfl, hno qO, hfo, rfl, rfl, rfl⟩)))
       refine zQ (zG ?_)
       -- build
       refine WG.y rfl rfl qD (Yl.build (parts := []) tab_ok rfl rfl rfl rfl (fun _ => rfl) rfl rfl) ?_
       refine zR 1 rfl ?_
       refine yA ?_
       refine zE 6 ?_
       refine zR 2 rfl (zN (zU (zT (wt (wb (wt (wt (wb (wt ?_)))))))))
       refine WE.retFS (E' := E) qS tab_ok [_, _, _] rfl ⟨⟨_, _, _, rfl, rfl, rfl, qB, rfl⟩, rfl, rfl, trivial⟩ (by first | exact RLe.refl _ | assumption | exact hR1.trans hR13) ?_
       exact ⟨none, none, none, 0, 0, 0, [], [], [], _, _, rfl, ⟨by simp, .inl rfl, by simp⟩, ⟨by simp, .inl rfl, by simp⟩, ⟨by simp, .inl rfl, by simp⟩, (fun m h => by cases h), (fun m h => by cases h), (fun x h => by cases h), by rw [hpn, hpg2, if_pos (by show (4 : Int) ≠ 0; decide)]; rfl, rfl⟩
      ·try simp only [zk] at hc6
       obtain ⟨hfo, hi1⟩ := hc6
       have hfo : flO ns (nth rr i) = true := by simpa using hfo
       have hi2 : i + 1 < rr.length := by omega
       obtain ⟨hts, hnl2, hml2, hfl2, hnn2, hom2, hof3⟩ := take_some (R := R3) (R0 := Rk) (s := nth rr i) (ns' := ns) (ms' := ms) (fs' := fs ++ [x]) (.inr (.inl ⟨rfl, hno hi2, hfo, rfl, rfl, x, rfl, hxo, hx1, hx2, hxf hfo⟩)) (hR2.trans hR3) hnn (by omega) hom hof2
       refine zK (zU (zG (zR 1 rfl ?_)))
       refine yL (Rd.add (Rd.blk 5 rfl) _) ?_
       refine yL (Rd.blk 0 rfl) ?_
       refine WL.ef rfl rfl qD (Ef.buildSliceD (enc := encFl) (parts := [.tmp 97]) [x] tab_ok rfl rfl rfl rfl rfl rfl rfl rfl qD qD (fun a98 => ?_))
       refine WL.ef rfl rfl (by decide) (Ef.appendD 5 0 tab_ok rfl rfl rfl rfl rfl rfl rfl rfl rfl rfl rfl (fun _ _ => rfl) (by simp only [List.length_cons, List.length_nil]; omega) (by simp only [List.length_cons, List.length_nil]; omega) (fun a99 c99 ha99 => ?_))
       refine zR 1 rfl ?_
       refine zF 6 ?_
       refine zN (zL (zU (zG (zR 1 rfl ?_))))
       refine yA ?_
       refine zR 1 rfl (zN ?_)
       refine WE.again ((i + 1, ns, ms, fs ++ [x], (a1, c1), (a2, c2), (a99, c99), R3)) (⟨hR13, by dsimp only; omega, ⟨by dsimp only; omega, by dsimp only; omega, by dsimp only; omega⟩, (par_step hi2 hts).symm.trans hpg, hnn2, hom2, hof3⟩) (by show rr.length - (i + 1) < rr.length - i; omega) ⟨rfl, rfl, rfl, rfl, rfl⟩ (RLe.refl _) qS
  ·try dsimp only at hc1
   have hpz : parGo zNt 0 rr = ((ns, ms.map (·.L), fs.map (·.f)), 0, 0) := by rw [← hpg, par_end (by omega)]
   rw [hpz, if_neg (fun h => h rfl)] at hpn
   have hpn : parN s = if chkNet ns (ms.map (·.L)) (fs.map (·.f)) ≠ 0 then (zNt, 0, chkNet ns (ms.map (·.L)) (fs.map (·.f))) else ((ns, ms.map (·.L), fs.map (·.f)), 0, 0) := hpn
   refine zX ?_
   refine wx (wx (zY (zU (zQ ?_))))
   refine W.cap 0 rfl ?_
   intro hcl1
   refine W.freeze (enc := encT) (xs := ns) 0 rfl ?_
   intro R3 hR3 hna
   refine W.freeze (enc := encLn) (xs := ms) 0 rfl ?_
   intro R4 hR4 hla
   refine W.freeze (enc := encFl) (xs := fs) 0 rfl ?_
   intro R5 hR5 hfa
   have hna := (hna.mono hR4).mono hR5
   have hla := hla.mono hR5
   have hRkz := (hR3.trans hR4).trans hR5
   have hRR := (hR1.trans hRk).trans hRkz
   refine zQ (zG ?_)
   refine yL (Rd.blk 0 rfl) ?_
   refine WG.callV en28 rfl rfl qD (CallOp.mk' rfl rfl rfl rfl) (fun _ => rfl) (fun hg => RCheck23_V hna hla hfa (fun m hm => (hom m hm).mono hRkz) (fun m hm => (hof m hm).mono hRkz) hnn) ?_
   refine zR 1 rfl (zN (zU (zQ (zG (zR 2 rfl (zN (zU ?_)))))))
   refine W.condN rfl (fun hc7 => ?_) (fun hc7 => ?_)
   ·try dsimp only at hc7
    refine zQ (zG ?_)
    -- build
    refine WG.y rfl rfl qD (Yl.build (parts := []) tab_ok rfl rfl rfl rfl (fun _ => rfl) rfl rfl) ?_
    refine zR 1 rfl ?_
    refine zE 1 ?_
    refine zR 2 rfl (zN (zU (zT (wt ?_))))
    refine WE.retFS (E' := E) qS tab_ok [_, _, _] rfl ⟨⟨_, _, _, rfl, rfl, rfl, qB, rfl⟩, rfl, rfl, trivial⟩ (by first | exact RLe.refl _ | assumption | exact hR1.trans hR13) ?_
    exact ⟨none, none, none, 0, 0, 0, [], [], [], _, _, rfl, ⟨by simp, .inl rfl, by simp⟩, ⟨by simp, .inl rfl, by simp⟩, ⟨by simp, .inl rfl, by simp⟩, (fun m h => by cases h), (fun m h => by cases h), (fun x h => by cases h), by rw [hpn, if_pos hc7]; rfl, rfl⟩
   ·try dsimp only at hc7
    refine zK (zU (zQ (zG ?_)))
    refine yL (Rd.blk 0 rfl) ?_
    refine zE 1 ?_
    refine zR 2 rfl (zN (zU (zT ?_)))
    refine WE.retFS (E' := E) qS tab_ok [_, _, _] rfl ⟨⟨_, _, _, rfl, rfl, rfl, qB, rfl⟩, rfl, rfl, trivial⟩ (by first | exact RLe.refl _ | assumption | exact hR1.trans hR13) ?_
    exact ⟨_, _, _, _, _, _, ns, ms, fs, 0, 0, rfl, hna, hla, hfa, (fun m h => (hom m h).mono hRkz), (fun x h => (hof x h).mono hRkz), hnn, by rw [hpn, if_neg (fun h => h (by first | exact hc7 | exact Classical.not_not.1 hc7))], rfl⟩



instance instNtS : Inhabited NtS := ⟨⟨none, 0, [], none, 0, [], none, 0, []⟩⟩
theorem all_3 {α : Type} {p : α → Prop} {a b c : α} (h1 : p a) (h2 : p b) (h3 : p c) : ∀ x ∈ [a, b, c], p x := fun x hx => by
 rcases List.mem_cons.1 hx with rfl | hx
 ·exact h1
 rcases List.mem_cons.1 hx with rfl | hx
 ·exact h2
 rw [List.mem_singleton.1 hx]; exact h3
theorem nth_4s {a b c d : List UInt8} {k : Nat} (h : k < 4) : (#[.string (str a), .string (str b), .string (str c), .string (str d)] : Array Value)[((k : Int)).toNat]? = some (.string (str (nth [a, b, c, d] k))) := by
 match k, h with
 | 0, _ => rfl
 | 1, _ => rfl
 | 2, _ => rfl
 | 3, _ => rfl

set_option maxHeartbeats 8000000 in
theorem NettextExact_F {R : Ro} {s1 : NtS} {s4 : LnM} {s5 : FlM} {text name : List UInt8} {a : Option Addr} {c : Nat} {xs : List Int} (ha : RS R 1 encI a xs) (h1 : OkNt R s1) (h4 : OkLn R s4) (h5 : OkFl R s5) (hG : GlobE R) (hc : xs.length ≤ c) (w0 : World) : K.Fn Tryz.prog 3 [.slice a xs.length c, .agg #[.slice s1.a1 s1.ns.length s1.c1, .slice s1.a2 s1.ms.length s1.c2, .slice s1.a3 s1.fs.length s1.c3], .string (str text), .string (str name), .agg #[.int .i64 s4.L.kind, .int .i64 s4.L.cap, .int .i64 s4.L.n, .slice s4.a1 s4.L.w.length s4.c1, .slice s4.a2 s4.L.tb.length s4.c2], .agg #[.string (str s5.f.name), .slice s5.a1 s5.f.route.length s5.c1, .int .i64 s5.f.cls, .int .i64 s5.f.lo, .int .i64 s5.f.hi, .slice s5.a2 s5.f.cv.vals.length s5.c2, .int .i64 s5.f.cv.per, .int .i64 s5.f.cv.inc]] w0 R [] (fun v _ _ => v = .bool true) := by
 have hts := str_size text
 have hns := str_size name
 refine fE 341 Tryz.func3 ?_
 refine zQ (zG ?_)
 refine zO fun b7 => ?_
 refine zO fun b10 => ?_
 refine zO fun b11 => ?_
 refine zR 1 rfl (zN (zU (zQ (zQ (zG (zR 4 rfl ?_))))))
 refine yP ?_
 refine yG (Rd.addC (Rd.blkC 2 rfl) _) ?_
 refine yP ?_
 refine yP ?_
 refine yO ?_
 refine zR 1 rfl ?_
 refine yP ?_
 refine yG (Rd.addC (Rd.blkC 2 rfl) _) ?_
 refine yP ?_
 refine yP ?_
 refine yO ?_
 refine zR 1 rfl ?_
 refine yP ?_
 refine yG (Rd.addC (Rd.blkC 2 rfl) _) ?_
 refine yP ?_
 refine yP ?_
 refine yO ?_
 refine zR 1 rfl ?_
 refine yP ?_
 refine yP ?_
 refine yP ?_
 refine yO ?_
 refine zR 1 rfl ?_
 refine yP ?_
 refine yP ?_
 refine yP ?_
 refine yO ?_
 refine zR 1 rfl ?_
 refine yP ?_
 refine yG (Rd.addC (Rd.blkC 1 rfl) _) ?_
 refine yP ?_
 refine yP ?_
 refine yO ?_
 refine zR 1 rfl ?_
 refine yP ?_
 refine yG (Rd.addC (Rd.blkC 1 rfl) _) ?_
 refine yP ?_
 refine yP ?_
 refine yO ?_
 refine zR 1 rfl ?_
 refine yP ?_
 refine yG (Rd.addC (Rd.blkC 0 rfl) _) ?_
 refine yP ?_
 refine yP ?_
 refine yO ?_
 refine zR 1 rfl ?_
 refine yP ?_
 refine yP ?_
 refine yG (Rd.addC (Rd.addC (Rd.blkC 0 rfl) _) _) ?_
 refine yP ?_
 refine yP ?_
 refine yO ?_
 refine zN (zU ?_)
 refine W.cond rfl (fun hc0 => ?_) (fun hc0 => ?_)
 ·try simp only [zk] at hc0
  refine zQ (zG ?_)
  refine WL.call en7 rfl rfl qD (CallOp.mkT rfl rfl rfl rfl) (SaneG_C hG w0 _) ?_
  rintro _ R9 E9 hR9 ⟨rfl, hsub9⟩
  refine WL.subE hsub9 ?_
  refine zR 1 rfl (zN (zU (zT (wt ?_))))
  refine WE.retF tab_ok [_] rfl ⟨rfl, trivial⟩ (by first | assumption | exact RLe.refl _ | exact hR1.trans (hR2.trans (hRk.trans hR9))) ?_
  exact rfl
 ·try simp only [zk] at hc0
  have htl : text.length ≤ 600 := by first | omega | (simp at hc0; omega)
  have hnl : name.length ≤ 40 := by first | omega | (simp at hc0; omega)
  refine zK (zU (zQ (zG (zR 1 rfl ?_))))
  refine WL.call en8 rfl rfl qD (CallOp.mkT rfl rfl rfl rfl) (New_C w0 _ hc) ?_
  rintro _ _ _ - ⟨b, rfl, rfl, rfl⟩
  have hz := ha.take 2000
  refine zR 1 rfl (zN (zU (zQ (zG (zR 1 rfl ?_)))))
  refine WL.callAt 0 en9 rfl rfl qD (CallOp.mkT rfl rfl rfl rfl) rfl (Net24_C (nl := 3) (nf := 3) w0 hz qD qD _) ?_
  rintro _ R1 _ _ hR1 ⟨k, ms, fs, na, la, fa, nc, lc, fc, cn, rfl, hk, hml, hfl, hna, hla, hfa, hmd, hfd, hfn, hcaps, rfl, rfl⟩
  have hD : DrawN k ms fs := ⟨hk, ⟨hml.1, by omega⟩, by omega, fun m hm => (hmd m hm).2, fun x hx => (hfd x hx).2.2, hfn⟩
  obtain ⟨hrwl, hrw, hrwt, _⟩ := hD.rows
  have hfmt := hD.fmt
  have hnml : (nm4.take ms.length).length = ms.length := by rw [List.length_take]; show min _ 4 = _; omega
  have hN : OkNt R1 (⟨na, nc, nm4.take ms.length, la, lc, ms, fa, fc, fs⟩ : NtS) := ⟨hna, hla, hfa, fun m hm => (hmd m hm).1, fun x hx => (hfd x hx).1, fun x hx => by have := (nm4_len hx).1; omega⟩
  have hG := hG.mono hR1
  have hz := hz.mono hR1
  have h1 := h1.mono hR1
  have h4 := h4.mono hR1
  have h5 := h5.mono hR1
  refine zA fun b14 => ?_
  refine zE 0 ?_
  refine zN (zU (zQ (zG ?_)))
  refine yL (Rd.blk 0 rfl) ?_
  refine WG.callV (v := .tuple #[.string (str (rowsT (rwN ms fs))), .int .i64 0]) en10 rfl rfl qD (CallOp.mk' rfl rfl rfl rfl) (fun _ => rfl) (fun hg => by
   have h := RFmtN24_V (nc := nc) (lc := lc) (fc := fc) hN.ns hN.ms hN.fs hN.ln hN.fl hN.nm
   rw [show nm4.take ms.length = nmsN ms from rfl, hfmt] at h
   exact h) ?_
  refine zR 3 rfl ?_
  generalize rowsT (rwN ms fs) = gd at hrwt ⊢
  have hgs := str_size gd
  refine zR 2 rfl (zN (zU (zQ (zQ ?_))))
  refine W.regionH _ (ES := [.blk b14 [.slice na (nm4.take ms.length).length nc, .slice la ms.length lc, .slice fa fs.length fc], .blk b7 [.slice s1.a1 s1.ns.length s1.c1, .slice s1.a2 s1.ms.length s1.c2, .slice s1.a3 s1.fs.length s1.c3]]) mixed ?_
  refine tL 0 (Rd.blk 0 rfl) ?_
  refine tP 1 ?_
  refine tL 2 (Rd.blk 0 rfl) ?_
  refine tL 4 (Rd.blk 1 rfl) ?_
  refine tP 6 ?_
  refine WA.callAt 1 3 rfl qK en11 rfl rfl qD (CallOp.mkT rfl rfl rfl rfl) rfl (BentNet_C (ns := nm4.take ms.length) (ms := ms) (fs := fs) w0 hz hN.ns hN.ms hN.fs hN.ln (fun x hx => ⟨(hfd x hx).1, by have := (hfd x hx).2.2.len; omega, (stair_valid (hfd x hx).2.2.cv).1⟩) (fun x hx => by have := (nm4_len hx).1; omega) ⟨hml.1, by omega⟩ hnml qO _) ?_
  rintro _ R2 _ _ hR2 ⟨z, cq, rfl, hzo, rfl, rfl⟩
  refine ⟨hR2, qS, ?_⟩
  have hG := hG.mono hR2
  have hz := hz.mono hR2
  have h1 := h1.mono hR2
  have h4 := h4.mono hR2
  have h5 := h5.mono hR2
  have hN := hN.mono hR2
  -- build
  refine WA.take 5 rfl qK qK qK rfl rfl qD (Yl.buildArr (parts := [(0, .tmp 113), (1, .tmp 116), (2, .tmp 117)]) tab_ok rfl rfl rfl rfl rfl (fun _ => rfl) rfl) qS qR ?_
  refine WA.done qK ?_
  refine zU (zB ?_)
  refine W.loopK (β := Nat) (fun i => i ≤ 3) (fun i => [(119, true, .int .i64 (i : Int))]) [2, 3, 10, 11, 13, 14, 15, 118] [_, _, _, _, _, _, _, _] [] _ rfl (fun i => []) (fun i => 3 - i) (0) (Nat.zero_le _) ⟨rfl, rfl, rfl, rfl, rfl, rfl, rfl, rfl, rfl, rfl⟩ qS ?_
  intro i hst
  dsimp only [zipE, setAll, List.cons_append, List.nil_append, List.set_cons_zero, List.set_cons_succ] at hst ⊢
  
  refine zQ (zG (zR 1 rfl (zN (zU (zQ ?_)))))
  refine W.condD rfl (fun hc1 => ?_) (fun hc1 => ?_)
  ·try dsimp only at hc1
   have hi3 : i < 3 := by omega
   refine zK (zU (zQ (zB (zQ (zG ?_)))))
   refine WG.y rfl rfl qD (Yl.idxArrS ([.slice (nth ([(⟨na, nc, nm4.take ms.length, la, lc, ms, fa, fc, fs⟩ : NtS), z, s1] : List NtS) i).a1 (nth ([(⟨na, nc, nm4.take ms.length, la, lc, ms, fa, fc, fs⟩ : NtS), z, s1] : List NtS) i).ns.length (nth ([(⟨na, nc, nm4.take ms.length, la, lc, ms, fa, fc, fs⟩ : NtS), z, s1] : List NtS) i).c1, .slice (nth ([(⟨na, nc, nm4.take ms.length, la, lc, ms, fa, fc, fs⟩ : NtS), z, s1] : List NtS) i).a2 (nth ([(⟨na, nc, nm4.take ms.length, la, lc, ms, fa, fc, fs⟩ : NtS), z, s1] : List NtS) i).ms.length (nth ([(⟨na, nc, nm4.take ms.length, la, lc, ms, fa, fc, fs⟩ : NtS), z, s1] : List NtS) i).c2, .slice (nth ([(⟨na, nc, nm4.take ms.length, la, lc, ms, fa, fc, fs⟩ : NtS), z, s1] : List NtS) i).a3 (nth ([(⟨na, nc, nm4.take ms.length, la, lc, ms, fa, fc, fs⟩ : NtS), z, s1] : List NtS) i).fs.length (nth ([(⟨na, nc, nm4.take ms.length, la, lc, ms, fa, fc, fs⟩ : NtS), z, s1] : List NtS) i).c3]) tab_ok rfl rfl rfl rfl (by intro h; cases h) rfl rfl rfl (fun _ => rfl) (by intro _; exact ⟨⟨by omega, by omega⟩, (by rcases (show i = 0 ∨ i = 1 ∨ i = 2 by omega) with rfl | rfl | rfl <;> rfl)⟩)) ?_
   have hX := all_nth (p := fun z : NtS => OkNt R2 z) (xs := ([(⟨na, nc, nm4.take ms.length, la, lc, ms, fa, fc, fs⟩ : NtS), z, s1] : List NtS)) (i := i) hi3 (all_3 hN hzo h1)
   generalize nth ([(⟨na, nc, nm4.take ms.length, la, lc, ms, fa, fc, fs⟩ : NtS), z, s1] : List NtS) i = X at hX ⊢
   have hlX1 := hX.fs.len
   have hlX2 := hX.ms.len
   refine zA fun b18 => ?_
   refine zE 0 ?_
   refine zN (zU (zQ (zG ?_)))
   refine yL (Rd.blk 0 rfl) ?_
   refine WG.callV en12 rfl rfl qD (CallOp.mk' rfl rfl rfl rfl) (fun _ => rfl) (fun hg => FmtN_V hG hX.ns hX.ms hX.fs hX.ln hX.fl hX.nm) ?_
   refine zR 5 rfl (zN (zU (zQ (zG ?_))))
   refine yL (Rd.blk 0 rfl) ?_
   refine WG.callV en10 rfl rfl qD (CallOp.mk' rfl rfl rfl rfl) (fun _ => rfl) (fun hg => RFmtN24_V hX.ns hX.ms hX.fs hX.ln hX.fl hX.nm) ?_
   refine zR 5 rfl (zN (zU (zQ (zQ (zG (zR 2 rfl ?_))))))
   refine WG.y rfl rfl qD (Yl.neS rfl rfl rfl (fun _ => rfl)) ?_
   refine zR 1 rfl ?_
   refine yP ?_
   refine yP ?_
   refine yP ?_
   refine yO ?_
   refine zN (zU ?_)
   refine W.cond rfl (fun hc2 => ?_) (fun hc2 => ?_)
   ·try simp only [zk] at hc2
    (simp at hc2; done)
   ·try simp only [zk] at hc2
    refine zK (zU (zQ (zQ (zG (zR 1 rfl ?_)))))
    refine yL (Rd.add (Rd.blk 0 rfl) _) ?_
    refine zR 2 rfl (zN (zU (zB ?_)))
    refine W.loopK (β := Nat) (fun j => j ≤ X.fs.length) (fun j => [(143, true, .int .i64 (j : Int))]) [2, 3, 10, 11, 13, 14, 15, 18, 118, 119, 142] [_, _, _, _, _, _, _, _, _, _, _] [] _ rfl (fun j => []) (fun j => X.fs.length - j) (0) (Nat.zero_le _) ⟨rfl, rfl, rfl, rfl, rfl, rfl, rfl, rfl, rfl, rfl, rfl, rfl, rfl⟩ qS ?_
    intro j hst
    dsimp only [zipE, setAll, List.cons_append, List.nil_append, List.set_cons_zero, List.set_cons_succ] at hst ⊢
    
    refine zQ (zG (zR 1 rfl (zN (zU (zQ ?_)))))
    refine W.condD rfl (fun hc3 => ?_) (fun hc3 => ?_)
    ·try dsimp only at hc3
     have hjl : j < X.fs.length := by omega
     refine zK (zU (zQ (zB (zQ (zG (zR 2 rfl (zN (zU (zQ ?_)))))))))
     refine W.regionQ _ mixed qK ?_
     refine yL (Rd.blk 0 rfl) ?_
     refine zR 1 rfl ?_
     refine yL (Rd.add (Rd.blk 0 rfl) _) ?_
     refine zR 1 rfl ?_
     refine WG.y rfl rfl qD (Yl.indexN tab_ok rfl rfl rfl rfl rfl rfl (fun _ => rfl) qN (by intro _; first | exact fun _ _ _ _ => hX.fs.has | exact RS.has hX.fs | exact RS.has hX.ms | exact qI)) ?_
     refine' WG.y rfl rfl qD (Yl.load1 tab_ok rfl rfl rfl (fun _ => rfl) ?r17 rfl ?h17) ?_
     case r17 => exact RS.rdD hX.fs hjl
     case h17 => rfl
     refine WG.callV en13 rfl rfl qD (CallOp.mk' rfl rfl rfl rfl) (fun _ => rfl) (fun hg => FmtFl_V hG hX.ns hX.ms hX.ln (hX.fl _ (nth_mem hjl)) hX.nm) ?_
     refine zR 5 rfl (zN (zU (zQ ?_)))
     refine W.regionQ _ mixed qK ?_
     refine yL (Rd.blk 0 rfl) ?_
     refine zR 1 rfl ?_
     refine yL (Rd.add (Rd.blk 0 rfl) _) ?_
     refine zR 1 rfl ?_
     refine WG.y rfl rfl qD (Yl.indexN tab_ok rfl rfl rfl rfl rfl rfl (fun _ => rfl) qN (by intro _; first | exact fun _ _ _ _ => hX.fs.has | exact RS.has hX.fs | exact RS.has hX.ms | exact qI)) ?_
     refine' WG.y rfl rfl qD (Yl.load1 tab_ok rfl rfl rfl (fun _ => rfl) ?r20 rfl ?h20) ?_
     case r20 => exact RS.rdD hX.fs hjl
     case h20 => rfl
     refine WG.callV en14 rfl rfl qD (CallOp.mk' rfl rfl rfl rfl) (fun _ => rfl) (fun hg => RFmtFl24_V hX.ns hX.ms hX.ln (hX.fl _ (nth_mem hjl)) hX.nm) ?_
     refine zR 5 rfl (zN (zU (zQ (zG (zR 2 rfl ?_)))))
     refine WG.y rfl rfl qD (Yl.neS rfl rfl rfl (fun _ => rfl)) ?_
     refine zR 1 rfl ?_
     refine yP ?_
     refine yP ?_
     refine yP ?_
     refine yO ?_
     refine zN (zU ?_)
     refine W.cond rfl (fun hc4 => ?_) (fun hc4 => ?_)
     ·try simp only [zk] at hc4
      (simp at hc4; done)
     ·try simp only [zk] at hc4
      refine zK (zL (zU (zG ?_)))
      refine yA ?_
      refine zR 1 rfl (zN ?_)
      refine WE.again (j + 1) (by show j + 1 ≤ _; omega) (by show _ - (j + 1) < _ - j; omega) ⟨rfl, rfl, rfl, rfl, rfl, rfl, rfl, rfl, rfl, rfl, rfl, rfl, rfl⟩ (RLe.refl _) qS
    ·try dsimp only at hc3
     refine zX ?_
     refine wx (wx (zY (zU (zQ (zG (zR 1 rfl ?_))))))
     refine yL (Rd.add (Rd.blk 0 rfl) _) ?_
     refine zR 2 rfl (zN (zU (zB ?_)))
     refine W.loopK (β := Nat) (fun j => j ≤ X.ms.length) (fun j => [(178, true, .int .i64 (j : Int))]) [2, 3, 10, 11, 13, 14, 15, 18, 118, 119, 177] [_, _, _, _, _, _, _, _, _, _, _] [] _ rfl (fun j => []) (fun j => X.ms.length - j) (0) (Nat.zero_le _) ⟨rfl, rfl, rfl, rfl, rfl, rfl, rfl, rfl, rfl, rfl, rfl, rfl, rfl⟩ qS ?_
     intro j hst
     dsimp only [zipE, setAll, List.cons_append, List.nil_append, List.set_cons_zero, List.set_cons_succ] at hst ⊢
     
     refine zQ (zG (zR 1 rfl (zN (zU (zQ ?_)))))
     refine W.condD rfl (fun hc5 => ?_) (fun hc5 => ?_)
     ·try dsimp only at hc5
      have hjl : j < X.ms.length := by omega
      refine zK (zU (zQ (zB (zQ (zG (zR 2 rfl (zN (zU (zQ (zG (zR 2 rfl ?_)))))))))))
      refine yL (Rd.add (Rd.blk 0 rfl) _) ?_
      refine zR 1 rfl ?_
      refine WG.y rfl rfl qD (Yl.indexN tab_ok rfl rfl rfl rfl rfl rfl (fun _ => rfl) qN (by intro _; first | exact fun _ _ _ _ => hX.fs.has | exact RS.has hX.fs | exact RS.has hX.ms | exact qI)) ?_
      refine' WG.y rfl rfl qD (Yl.load1 tab_ok rfl rfl rfl (fun _ => rfl) ?r23 rfl ?h23) ?_
      case r23 => exact RS.rdD hX.ms hjl
      case h23 => rfl
      refine WG.callV en15 rfl rfl qD (CallOp.mk' rfl rfl rfl rfl) (fun _ => rfl) (fun hg => FmtL_V (L := (nth X.ms j).L) (hX.ln _ (nth_mem hjl)).1 (hX.ln _ (nth_mem hjl)).2 (name := name) qO) ?_
      refine zR 5 rfl (zN (zU (zQ (zG (zR 2 rfl ?_)))))
      refine yL (Rd.add (Rd.blk 0 rfl) _) ?_
      refine zR 1 rfl ?_
      refine WG.y rfl rfl qD (Yl.indexN tab_ok rfl rfl rfl rfl rfl rfl (fun _ => rfl) qN (by intro _; first | exact fun _ _ _ _ => hX.fs.has | exact RS.has hX.fs | exact RS.has hX.ms | exact qI)) ?_
      refine' WG.y rfl rfl qD (Yl.load1 tab_ok rfl rfl rfl (fun _ => rfl) ?r25 rfl ?h25) ?_
      case r25 => exact RS.rdD hX.ms hjl
      case h25 => rfl
      refine WG.callV en16 rfl rfl qD (CallOp.mk' rfl rfl rfl rfl) (fun _ => rfl) (fun hg => RFmtL24_V (L := (nth X.ms j).L) (hX.ln _ (nth_mem hjl)).1 (hX.ln _ (nth_mem hjl)).2 (name := name) qO) ?_
      refine zR 5 rfl (zN (zU (zQ (zG (zR 1 rfl ?_)))))
      refine yL (Rd.add (Rd.blk 0 rfl) _) ?_
      refine zR 1 rfl ?_
      refine WG.y rfl rfl qD (Yl.indexN tab_ok rfl rfl rfl rfl rfl rfl (fun _ => rfl) qN (by intro _; first | exact fun _ _ _ _ => hX.fs.has | exact RS.has hX.fs | exact RS.has hX.ms | exact qI)) ?_
      refine' WG.y rfl rfl qD (Yl.load1 tab_ok rfl rfl rfl (fun _ => rfl) ?r27 rfl ?h27) ?_
      case r27 => exact RS.rdD hX.ms hjl
      case h27 => rfl
      refine WG.callV en15 rfl rfl qD (CallOp.mk' rfl rfl rfl rfl) (fun _ => rfl) (fun hg => FmtL_V (L := (nth X.ms j).L) (hX.ln _ (nth_mem hjl)).1 (hX.ln _ (nth_mem hjl)).2 (name := [97]) qD) ?_
      refine zR 5 rfl (zN (zU (zQ (zG (zR 1 rfl ?_)))))
      refine yL (Rd.add (Rd.blk 0 rfl) _) ?_
      refine zR 1 rfl ?_
      refine WG.y rfl rfl qD (Yl.indexN tab_ok rfl rfl rfl rfl rfl rfl (fun _ => rfl) qN (by intro _; first | exact fun _ _ _ _ => hX.fs.has | exact RS.has hX.fs | exact RS.has hX.ms | exact qI)) ?_
      refine' WG.y rfl rfl qD (Yl.load1 tab_ok rfl rfl rfl (fun _ => rfl) ?r29 rfl ?h29) ?_
      case r29 => exact RS.rdD hX.ms hjl
      case h29 => rfl
      refine WG.callV en16 rfl rfl qD (CallOp.mk' rfl rfl rfl rfl) (fun _ => rfl) (fun hg => RFmtL24_V (L := (nth X.ms j).L) (hX.ln _ (nth_mem hjl)).1 (hX.ln _ (nth_mem hjl)).2 (name := [97]) qD) ?_
      refine zR 5 rfl (zN (zU (zQ (zG (zR 2 rfl ?_)))))
      refine WG.y rfl rfl qD (Yl.neS rfl rfl rfl (fun _ => rfl)) ?_
      refine zR 1 rfl ?_
      refine yP ?_
      refine yP ?_
      refine yP ?_
      refine yO ?_
      refine zR 1 rfl ?_
      refine yP ?_
      refine yP ?_
      refine WG.y rfl rfl qD (Yl.neS rfl rfl rfl qE) ?_
      refine yO ?_
      refine zR 1 rfl ?_
      refine yP ?_
      refine yP ?_
      refine yP ?_
      refine yO ?_
      refine zN (zU ?_)
      refine W.cond rfl (fun hc6 => ?_) (fun hc6 => ?_)
      ·try simp only [zk] at hc6
       (simp at hc6; done)
      ·try simp only [zk] at hc6
       refine zK (zL (zU (zG ?_)))
       refine yA ?_
       refine zR 1 rfl (zN ?_)
       refine WE.again (j + 1) (by show j + 1 ≤ _; omega) (by show _ - (j + 1) < _ - j; omega) ⟨rfl, rfl, rfl, rfl, rfl, rfl, rfl, rfl, rfl, rfl, rfl, rfl, rfl⟩ (RLe.refl _) qS
     ·try dsimp only at hc5
      refine zX ?_
      refine wx (wx (zY (zL (zU (zG ?_)))))
      refine yA ?_
      refine zR 1 rfl (zN ?_)
      refine WE.again (i + 1) (by show i + 1 ≤ 3; omega) (by show 3 - (i + 1) < 3 - i; omega) ⟨rfl, rfl, rfl, rfl, rfl, rfl, rfl, rfl, rfl, rfl⟩ (RLe.refl _) qS
  ·try dsimp only at hc1
   refine zX ?_
   refine wx (wx (zY (zU (zQ (zG (zR 1 rfl ?_))))))
   refine yL (Rd.blk 3 rfl) ?_
   refine WG.callV en15 rfl rfl qD (CallOp.mk' rfl rfl rfl rfl) (fun _ => rfl) (fun hg => FmtL_V (L := s4.L) h4.1 h4.2 (name := name) qO) ?_
   refine zR 5 rfl (zN (zU (zQ (zG (zR 1 rfl ?_)))))
   refine yL (Rd.blk 3 rfl) ?_
   refine WG.callV en16 rfl rfl qD (CallOp.mk' rfl rfl rfl rfl) (fun _ => rfl) (fun hg => RFmtL24_V (L := s4.L) h4.1 h4.2 (name := name) qO) ?_
   refine zR 5 rfl (zN (zU (zQ (zG ?_))))
   refine yL (Rd.blk 0 rfl) ?_
   refine yL (Rd.blk 2 rfl) ?_
   refine WG.callV en13 rfl rfl qD (CallOp.mk' rfl rfl rfl rfl) (fun _ => rfl) (fun hg => FmtFl_V hG hN.ns hN.ms hN.ln h5 hN.nm) ?_
   refine zR 5 rfl (zN (zU (zQ (zG ?_))))
   refine yL (Rd.blk 0 rfl) ?_
   refine yL (Rd.blk 2 rfl) ?_
   refine WG.callV en14 rfl rfl qD (CallOp.mk' rfl rfl rfl rfl) (fun _ => rfl) (fun hg => RFmtFl24_V hN.ns hN.ms hN.ln h5 hN.nm) ?_
   refine zR 5 rfl (zN (zU (zQ (zQ (zG (zR 2 rfl ?_))))))
   refine WG.y rfl rfl qD (Yl.neS rfl rfl rfl (fun _ => rfl)) ?_
   refine zR 1 rfl ?_
   refine yP ?_
   refine yP ?_
   refine yP ?_
   refine yO ?_
   refine zR 1 rfl ?_
   refine yP ?_
   refine yP ?_
   refine WG.y rfl rfl qD (Yl.neS rfl rfl rfl qE) ?_
   refine yO ?_
   refine zR 1 rfl ?_
   refine yP ?_
   refine yP ?_
   refine yP ?_
   refine yO ?_
   refine zN (zU ?_)
   refine W.cond rfl (fun hc7 => ?_) (fun hc7 => ?_)
   ·try simp only [zk] at hc7
    (simp at hc7; done)
   ·try simp only [zk] at hc7
    refine zK (zU (zQ (zG (zR 2 rfl (zN (zU ?_))))))
    refine W.seqCut (β := List UInt8) (fun bt => bt.length ≤ 5000) (fun bt => [(2, true, .string (str text)), (15, true, .string (str gd)), (37, true, .string (str bt))]) (fun _ => R2) (fun _ => []) ?_ ?_
    ·
     intro bt hst
     have hbl : bt.length ≤ 5000 := hst
     have hbs := str_size bt
     refine zQ (zQ (zG (zR 5 rfl ?_)))
     refine WG.y rfl rfl qD (Yl.catS rfl rfl rfl (fun _ => rfl) (by intro _; omega)) ?_
     -- build
     refine WG.y rfl rfl qD (Yl.buildArr (parts := [(0, .tmp 303), (1, .tmp 304), (2, .tmp 305), (3, .tmp 308)]) tab_ok rfl rfl rfl rfl rfl (fun _ => rfl) rfl) ?_
     refine zR 1 rfl (zN (zU (zB ?_)))
     refine W.loopR (β := Nat × Ro) (fun (i, Rk) => i ≤ 4 ∧ RLe R2 Rk) (fun (i, Rk) => [(310, true, .int .i64 (i : Int))]) [309] [_] [] _ rfl (fun (i, Rk) => []) (fun (i, Rk) => Rk) (fun (i, Rk) => 4 - i) ((0, R2)) (⟨Nat.zero_le _, RLe.refl _⟩) ⟨rfl, rfl, rfl⟩ (RLe.refl _) qS ?_
     intro zz hst
     obtain ⟨i, Rk⟩ := zz
     dsimp only [zipE, setAll, List.cons_append, List.nil_append, List.set_cons_zero, List.set_cons_succ] at hst ⊢
     obtain ⟨hi, hRk⟩ := hst
     have hG := hG.mono hRk
     refine zQ (zG (zR 1 rfl (zN (zU (zQ ?_)))))
     refine W.condD rfl (fun hc8 => ?_) (fun hc8 => ?_)
     ·try dsimp only at hc8
      have hi4 : i < 4 := by omega
      have hyl := all_nth (p := fun y : List UInt8 => y.length ≤ 6000) (xs := ([gd, bt, text, gd ++ text] : List (List UInt8))) (i := i) hi4 (all_4 (by omega) (by omega) (by omega) (by rw [List.length_append]; omega))
      refine zK (zU (zQ (zB (zQ (zG ?_)))))
      refine WG.y rfl rfl qD (Yl.idxArr (.string (str (nth ([gd, bt, text, gd ++ text] : List (List UInt8)) i))) tab_ok rfl rfl rfl rfl rfl (by intro h; cases h) rfl rfl rfl (fun _ => rfl) (by intro _; exact ⟨⟨by omega, by omega⟩, nth_4s hi4⟩)) ?_
      generalize nth ([gd, bt, text, gd ++ text] : List (List UInt8)) i = y at hyl ⊢
      have hys := str_size y
      refine zR 1 rfl (zN (zU (zQ (zG (zR 1 rfl ?_)))))
      have hp5 := Parse_C hG (s := y) (by omega) w0
      refine WL.call en19 rfl rfl qD (CallOp.mkT rfl rfl rfl rfl) (hp5 _) ?_
      rintro _ R5 _ hR5 ⟨na5, la5, fa5, nc5, lc5, fc5, ns5, ms5, fs5, ln5, e5, rfl, hna5, hla5, hom5, hof5, hnn5, hnc5, hlc5, hfc5, hpn5, rfl⟩
      have hG := hG.mono hR5
      refine WL.freeze (enc := encFl) (xs := fs5) 0 rfl ?_
      intro R6 hR6 hfa5
      have hG := hG.mono hR6
      refine zR 4 rfl ?_
      refine zA fun b41 => ?_
      refine zE 0 ?_
      refine zR 2 rfl (zN (zU (zQ (zG (zR 1 rfl ?_)))))
      have hp7 := RPar24_C (R := R6) (s := y) (by omega) w0
      refine WL.call en20 rfl rfl qD (CallOp.mkT rfl rfl rfl rfl) (hp7 _) ?_
      rintro _ R7 _ hR7 ⟨nb, lb, fb, nd, ld, fd, ns7, ms7, fs7, ln7, e7, rfl, hnb, hlb, hfb, hob, hofb, hnnb, hpb, rfl⟩
      have hG := hG.mono hR7
      obtain ⟨hq1, rfl, rfl⟩ := nt_eq hpn5 hpb
      obtain ⟨rfl, hq2⟩ := Prod.mk.inj hq1
      obtain ⟨hms, hfs⟩ := Prod.mk.inj hq2
      have hR67 := hR6.trans hR7
      refine zR 4 rfl ?_
      refine zA fun b44 => ?_
      refine zE 0 ?_
      refine zR 2 rfl (zN (zU (zQ (zG ?_))))
      refine yL (Rd.blk 1 rfl) ?_
      refine yL (Rd.blk 0 rfl) ?_
      refine WG.callV (v := .bool true) en21 rfl rfl qD (CallOp.mk' rfl rfl rfl rfl) (fun _ => rfl) (fun hg => SameN23_T (hna5.mono hR67) (hla5.mono hR67) hnb hlb (hfa5.mono hR7) hfb (fun m hm => (hom5 m hm).mono hR67) hob (fun x hx => (hof5 x hx).1.mono hR67) hofb hms hfs) ?_
      refine zR 2 rfl ?_
      refine yP ?_
      refine yP ?_
      refine yP ?_
      refine yO ?_
      refine zR 1 rfl ?_
      refine yP ?_
      refine yP ?_
      refine yP ?_
      refine yO ?_
      refine zN (zU ?_)
      refine W.cond rfl (fun hc9 => ?_) (fun hc9 => ?_)
      ·try simp only [zk] at hc9
       (simp at hc9; done)
      ·try simp only [zk] at hc9
       refine zK (zL (zU (zG ?_)))
       refine yA ?_
       refine zR 1 rfl (zN ?_)
       refine WE.again ((i + 1, R7)) (⟨by show i + 1 ≤ 4; omega, hRk.trans (hR5.trans (hR6.trans hR7))⟩) (by show 4 - (i + 1) < 4 - i; omega) ⟨rfl, rfl, rfl⟩ (RLe.refl _) qS
     ·try dsimp only at hc8
      refine zX ?_
      refine wx (wx (zY (zU (zQ (zG ?_)))))
      refine WL.call en7 rfl rfl qD (CallOp.mkT rfl rfl rfl rfl) (SaneG_C hG w0 _) ?_
      rintro _ R9 E9 hR9 ⟨rfl, hsub9⟩
      refine WL.subE hsub9 ?_
      refine zR 1 rfl (zN (zU (zT ?_)))
      refine WE.retF tab_ok [_] rfl ⟨rfl, trivial⟩ (by first | assumption | exact RLe.refl _ | exact hR1.trans (hR2.trans (hRk.trans hR9))) ?_
      exact rfl
    ·
     refine zQ (zG (zR 3 rfl (zN (zU ?_))))
     refine W.condD rfl (fun hc10 => ?_) (fun hc10 => ?_)
     ·try dsimp only at hc10
      have hg0 : 0 < gd.length := by omega
      refine zQ (zG (zR 3 rfl ?_))
      refine WL.callAt 1 en17 rfl rfl qD (CallOp.mkT rfl rfl rfl rfl) rfl (N_C w0 hz (by constructor <;> omega) _) ?_
      rintro _ _ _ _ - ⟨rfl, rfl, rfl, rfl⟩
      have hm1 := mod_range (nth (xs.take 2000) cq) (show (1 : Int) ≤ (gd.length : Int) by omega)
      obtain ⟨i, hi⟩ := Int.eq_ofNat_of_zero_le (show 0 ≤ mod (nth (xs.take 2000) cq) (gd.length : Int) by omega)
      rw [hgs]
      rw [hi] at hm1 ⊢
      have hil : i < gd.length := by omega
      refine zR 1 rfl (zN (zU ?_))
      refine W.regionH _ (ES := []) mixed ?_
      refine tP 0 ?_
      refine tP 1 ?_
      refine WA.take 2 rfl qK qK qK rfl rfl qD (Yl.sliceSH tab_ok rfl rfl rfl rfl rfl (fun _ => rfl) (by intro _; omega)) qS qR ?_
      refine tP 3 ?_
      refine tP 7 ?_
      refine tP 8 ?_
      refine tP 9 ?_
      refine WA.eff 4 rfl qK rfl rfl qD (Ef.buildSliceD (enc := encT) (parts := [.const (.string ⟨#[]⟩), .const (.string ⟨#[32]⟩), .const (.string ⟨#[44]⟩), .const (.string ⟨#[45]⟩), .const (.string ⟨#[48]⟩), .const (.string ⟨#[120]⟩), .const (.string ⟨#[62]⟩), .const (.string ⟨#[10]⟩), .const (.string ⟨#[108, 105, 110, 101, 32, 97, 32, 102, 105, 102, 111, 32, 53, 10]⟩)]) [[], [32], [44], [45], [48], [120], [62], [10], [108, 105, 110, 101, 32, 97, 32, 102, 105, 102, 111, 32, 53, 10]] tab_ok rfl rfl rfl rfl rfl rfl rfl rfl qD qD (fun a293 => ?_))
      refine ⟨qR, qS, ?_⟩
      refine WA.callAt 2 5 rfl qK en18 rfl rfl qD (CallOp.mkT rfl rfl rfl rfl) rfl (Text_C (j := 0) (ys := [[], [32], [44], [45], [48], [120], [62], [10], [108, 105, 110, 101, 32, 97, 32, 102, 105, 102, 111, 32, 53, 10]]) w0 hz rfl qD qD) ?_
      rintro _ _ _ _ - ⟨rfl, rfl, rfl, rfl⟩
      refine ⟨qR, qS, ?_⟩
      have h9 : (nth ([[], [32], [44], [45], [48], [120], [62], [10], [108, 105, 110, 101, 32, 97, 32, 102, 105, 102, 111, 32, 53, 10]] : List (List UInt8)) (mod (nth (xs.take 2000) (cq + 1)) ((([[], [32], [44], [45], [48], [120], [62], [10], [108, 105, 110, 101, 32, 97, 32, 102, 105, 102, 111, 32, 53, 10]] : List (List UInt8)).length : Nat) : Int)).toNat).length ≤ 14 := all_nth (p := fun x : List UInt8 => x.length ≤ 14) (pick_lt _ (by decide)) (by decide)
      refine WA.take 6 rfl (by kernel_rfl) (by kernel_rfl) (by kernel_rfl) rfl rfl (by decide) (Yl.catS rfl rfl rfl (fun _ => rfl) (by intro _; (rw [List.length_take]; omega))) qS (by first | exact RLe.refl _ | assumption) ?_
      refine WA.callAt 2 10 rfl qK en17 rfl rfl qD (CallOp.mkT rfl rfl rfl rfl) rfl (N_C w0 hz (by constructor <;> decide) _) ?_
      rintro _ _ _ _ - ⟨rfl, rfl, rfl, rfl⟩
      refine ⟨qR, qS, ?_⟩
      have hm2 := mod_range (nth (xs.take 2000) (cq + 1 + 1)) (show (1 : Int) ≤ 2 by decide)
      refine tA 11 ?_
      refine WA.take 12 rfl qK qK qK rfl rfl qD (Yl.sliceSL tab_ok rfl rfl rfl rfl rfl (fun _ => rfl) (by intro _; omega)) qS qR ?_
      refine WA.take 13 rfl (by kernel_rfl) (by kernel_rfl) (by kernel_rfl) rfl rfl (by decide) (Yl.catS rfl rfl rfl (fun _ => rfl) (by intro _; (rw [List.length_append, List.length_take, List.length_drop]; omega))) qS (by first | exact RLe.refl _ | assumption) ?_
      refine tP 14 ?_
      refine WA.done qK ?_
      refine WE.cut ((gd.take i ++ nth [[], [32], [44], [45], [48], [120], [62], [10], [108, 105, 110, 101, 32, 97, 32, 102, 105, 102, 111, 32, 53, 10]] (mod (nth (xs.take 2000) (cq + 1)) ((([[], [32], [44], [45], [48], [120], [62], [10], [108, 105, 110, 101, 32, 97, 32, 102, 105, 102, 111, 32, 53, 10]] : List (List UInt8)).length : Nat) : Int)).toNat) ++ gd.drop ((i : Int) + mod (nth (xs.take 2000) (cq + 1 + 1)) 2).toNat) (by have h9b := h9; rw [List.length_append, List.length_append, List.length_take, List.length_drop]; omega) ⟨rfl, rfl, rfl, rfl⟩ (RLe.refl _) qS
     ·try dsimp only at hc10
      refine zK ?_
      refine WE.cut gd qO ⟨rfl, rfl, rfl, rfl⟩ (RLe.refl _) qS

end Go.Proofs.YtmidibkljoaoiaaGreatDoor

/- Any flat data: a law whose road reads package-level variables: all that exists when the call begins is read only; the builder that hands on the list of the variables and the shape of the world. No condition. -/
namespace Go.Proofs.YtmidibkljoaoiaaGreatDoor.K
open Go Go.RowKit

theorem ro_cell {W : World} {b : Nat} {v : Value} (h : W.cell? ⟨b, 0, none⟩ = some v) : ∃ rest, roOf W b = some (v :: rest) := by
 unfold World.cell? at h
 unfold roOf
 cases hh : W.heap[b]? with
 | none => simp [hh] at h
 | some o =>
  cases o with
  | cells arr T fz =>
   simp only [hh] at h ⊢
   obtain ⟨l⟩ := arr
   cases l with
   | nil => simp at h
   | cons x l => simp at h; subst h; exact ⟨l, rfl⟩
  | _ => simp [hh] at h
theorem ro_var {P : Program} {W : World} {name : String} {g : Nat} {cs : Array Value} (hg : P.globalNamed name = some g) (h : W.var? P name = some cs) : roOf W g = some cs.toList := by
 unfold World.var? at h
 simp only [hg, Option.bind_some] at h
 unfold roOf
 split at h
 ·simp only [Option.some.injEq] at h; subst h; simp [*]
 ·cases h

theorem returnsInHanded_laidB {H : Type} {enc : TypeId × Value → H} {a : Assume} {C : Checked} {os : Os} {f : FuncId} {fn : Func} {s : ChangeSpec} {conds : List PathCond} {apart fresh handsOn again : Bool} {X : World → Array Value → Prop}
  (hX : ∀ (w w' : World) (args : Array Value), w.heap = w'.heap → X w args → X w' args)
  (own : ownKnob C.prog.godebug = none) (started : os.Started) (noInit : C.prog.inits.idxOf? f = none) (hfn : C.prog.funcs[f]? = some fn)
  (witness : ∃ (w : World) (tape : Tape) (i : Input), w.os = os ∧ (w.forCall tape i).Shaped C.prog ∧ i.vars = [] ∧ Input.okWide C.prog (w.forCall tape i) .any w.heap.size f i ∧
   ((s.pre enc C.prog fn conds apart (w.forCall tape i).memory i.args ∧ X (w.forCall tape i).memory i.args) ∧ sizedMet enc C.prog fn (OpenSpec.ofChange s) apart (w.forCall tape i).memory i.args) ∧ a.holds C.prog (lone (Frame.enter C.prog f i.args .normal) [] (w.forCall tape i)))
  (contract : ∀ (W : World) (base : Nat) (args : Array Value) (ds gs : List (DataW H)) (before : List MemPlace),
   (∀ (j : Nat) t v, fn.params[j]? = some t → args[j]? = some v → Value.okWide C.prog W .any base t v) →
   DataW.Whole enc C.prog fn.params.toList s.vars apart W args.toList ds gs before →
   conds.all (PathCond.test C.prog ⟨fn.params.toList, ds, s.plain.varTypes C.prog, gs⟩) = true →
   X W args → W.ShapedOpen C.prog →
   Calls C.prog f args W fun e W' => ∃ v, e = .returned v ∧ s.post enc C.prog fn apart fresh handsOn again W args v W') :
  ReturnsInHanded a C os f .any (fun w args => (s.pre enc C.prog fn conds apart w args ∧ X w args) ∧ sizedMet enc C.prog fn (OpenSpec.ofChange s) apart w args) (s.post enc C.prog fn apart fresh handsOn again) := by
 refine returnsInHanded_of_calls own started noInit witness ?_
 intro w tape i _ hsh _ hok hpre hholds
 obtain ⟨_, _, _, fn', hfn', _, _, _, _, hval⟩ := hok
 have e : fn' = fn := Option.some.inj (hfn'.symm.trans hfn)
 subst e
 obtain ⟨⟨⟨ds, gs, before, hw, hc⟩, hx⟩, hz⟩ := hpre
 have hw' := DataW.Whole.of_heap (w' := w.forCall tape i) (by rfl) hw
 refine (contract (w.forCall tape i) w.heap.size i.args ds gs before hval hw' hc (hX _ _ _ (by rfl) hx) hsh).mono fun e W' ⟨v, he, hp⟩ => ?_
 subst he
 exact ChangeSpec.post_blind hp
end Go.Proofs.YtmidibkljoaoiaaGreatDoor.K

/- From the list of the variables to what the walks know of them. No condition. -/
namespace Go.Proofs.YtmidibkljoaoiaaGreatDoor
open Go Go.RowKit Go.Proofs.YtmidibkljoaoiaaGreatDoor.K
theorem starE : "*" ++ "errors.errorString" = "*errors.errorString" := by decide
def laidJ : List (String × DataW Unit) := Rows.nettextExactRow.laid
theorem glob_ofJ {W : World} (hsh : W.ShapedOpen Tryz.prog) (hL : laidMetH Tryz.prog laidJ W) : GlobE (roOf W) := by
 unfold laidJ Rows.nettextExactRow at hL
 dsimp only at hL
 rw [MakeChecks.laidMetH_plain _ _ _ (by kernel_rfl)] at hL
 have h3 := hL.tail.tail
 have ht : (Rows.laid_internal_strconv_uint64pow10 : DataW Unit) = Lib.tabData .u64 Lib.pow10Tab := by kernel_rfl
 have h3b := h3
 rw [ht] at h3b
 have h4 := Lib.tabIs_of_head (g := 1) (t := 168) (e := 150) (n := 20) (by kernel_rfl) (by kernel_rfl) Tryz.underlying168 Tryz.underlying150 (by kernel_rfl) (by kernel_rfl) h3b
 have h5 := ro_var (P := Tryz.prog) (g := 1) (by kernel_rfl) h4
 have h6 := h3.tail.tail
 have h7 := h6.tail
 have hrow : ∀ u, Tryz.prog.typeName? 3 u = some "*errors.errorString" → u = 193 := fun u hu => typeName_ptr_named (P := Tryz.prog) (nm := "errors.errorString") (by rw [starE]; kernel_rfl) (by kernel_rfl) (by decide) u (by rw [starE]; exact hu)
 obtain ⟨a1, s1, e1, _, _, _⟩ := laid_sentinel (g := 7) (ti := 77) (tp := 193) (te := 195) (ts := 9) h6 (by kernel_rfl) (by kernel_rfl) Tryz.underlying77 hrow Tryz.underlying193 Tryz.underlying195 rfl rfl Tryz.underlying9 (by kernel_rfl) (by kernel_rfl)
 obtain ⟨a2, s2, e2, _, _, _⟩ := laid_sentinel (g := 6) (ti := 77) (tp := 193) (te := 195) (ts := 9) h7 (by kernel_rfl) (by kernel_rfl) Tryz.underlying77 hrow Tryz.underlying193 Tryz.underlying195 rfl rfl Tryz.underlying9 (by kernel_rfl) (by kernel_rfl)
 obtain ⟨m, hm⟩ := Go.Proofs.cell_of_shapedOpen_int (g := 0) (zero := #[.int .i64 0]) (t := 3) hsh (of_decide_eq_true (by kernel_rfl)) (by kernel_rfl) rfl (by kernel_rfl) (by kernel_rfl) Tryz.underlying3
 obtain ⟨rest, hr⟩ := ro_cell hm
 refine ⟨⟨m, rest, hr⟩, ?_, ?_, ?_⟩
 ·rw [h5]
 ·exact ⟨_, _, ro_var (P := Tryz.prog) (g := 6) (by kernel_rfl) e2⟩
 ·exact ⟨_, _, ro_var (P := Tryz.prog) (g := 7) (by kernel_rfl) e1⟩
end Go.Proofs.YtmidibkljoaoiaaGreatDoor

/- NettextExact: for every input the law returns true, and the input reads afterwards as it read before; the listed variables of the library start as its text lays them. -/
namespace Go.Proofs.YtmidibkljoaoiaaGreatDoor
open Go Go.RowKit Go.ChangeShapes Go.WideShapes Go.ChangeAt Go.WideElems Go.Maps Go.Proofs.YtmidibkljoaoiaaGreatDoor.K Go.Proofs.YtmidibkljoaoiaaGreatDoor.M
open Go.ChangeMaps (open_string shut_string)
namespace nettextExact
theorem own : ownKnob Tryz.prog.godebug = none := by kernel_rfl
theorem laidOut : laidOutB Tryz.prog = true := by kernel_rfl
theorem readable : (Tryz.f3.params.toList).all (fun t => Tryz.prog.readableRec t && decide (t < Tryz.prog.types.size)) = true := by kernel_rfl
section
variable {H : Type} {enc : TypeId × Value → H}
theorem flat_ints : Flat enc Tryz.prog 3 1 := flat_int Tryz.underlying3
theorem cells_ints : Tryz.prog.cellsOf 3 = 1 := by kernel_rfl
theorem opn_cv : Opn enc Tryz.prog 33 3 encC OkI := opn_curve Tryz.underlying33 (by kernel_rfl) rfl rfl rfl (by kernel_rfl) (by kernel_rfl) rfl rfl rfl Tryz.underlying22 Tryz.underlying3
theorem opn_ln : Opn enc Tryz.prog 29 5 encLn OkLn := opn_line Tryz.underlying29 (by kernel_rfl) rfl rfl rfl rfl rfl (by kernel_rfl) (by kernel_rfl) rfl rfl rfl rfl rfl Tryz.underlying22 Tryz.underlying3
theorem opn_sz : Opn enc Tryz.prog 31 2 (fun z : Int × Int => [.int .i64 z.1, .int .i64 z.2]) (fun _ z => InR z.1 ∧ InR z.2) := opn_size Tryz.underlying31 (by kernel_rfl) rfl rfl (by kernel_rfl) rfl rfl Tryz.underlying3
theorem opn_fl : Opn enc Tryz.prog 35 8 encFl OkFl := opn_flow Tryz.underlying35 (by kernel_rfl) rfl rfl rfl rfl rfl (by kernel_rfl) (by kernel_rfl) (by kernel_rfl) (by kernel_rfl) (by kernel_rfl) rfl rfl rfl rfl rfl Tryz.underlying9 Tryz.underlying22 Tryz.underlying3 opn_sz opn_cv
theorem opn_nt : Opn enc Tryz.prog 27 3 encNt OkNt := opn_net Tryz.underlying27 (by kernel_rfl) rfl rfl rfl (by kernel_rfl) (by kernel_rfl) (by kernel_rfl) rfl rfl rfl Tryz.underlying23 Tryz.underlying24 Tryz.underlying25 (by kernel_rfl) (by kernel_rfl) (by kernel_rfl) Tryz.underlying9 opn_ln opn_fl
end
set_option maxRecDepth 100000 in
theorem lifted (os : Os) (started : os.Started) (H : Type) (enc : TypeId × Value → H) :
  ReturnsInHanded {} Tryz.checked os 3 .any (fun w args => (Rows.nettextExactSpec.pre enc Tryz.prog Tryz.f3 [] false w args ∧ laidMetH Tryz.prog laidJ w) ∧ sizedMet enc Tryz.prog Tryz.f3 (OpenSpec.ofChange Rows.nettextExactSpec) false w args)
   (Rows.nettextExactSpec.post enc Tryz.prog Tryz.f3 false true false false) := by
 refine returnsInHanded_laidB (C := Tryz.checked) (X := fun w _ => laidMetH Tryz.prog laidJ w) (fun _ _ _ hh h => h.of_heap hh) own started (by kernel_rfl) Tryz.func3
  (ChangeSpec.witness_shaped (enc := enc) (C := Tryz.checked) (os := os) (X := fun w _ => laidMetH Tryz.prog laidJ w) false (World.laidAll Tryz.prog os laidJ) #[.slice none 0 0, .agg #[.slice none 0 0, .slice none 0 0, .slice none 0 0], .string ⟨#[]⟩, .string ⟨#[]⟩, .agg #[.int .i64 0, .int .i64 0, .int .i64 0, .slice none 0 0, .slice none 0 0], .agg #[.string ⟨#[]⟩, .slice none 0 0, .int .i64 0, .int .i64 0, .int .i64 0, .slice none 0 0, .int .i64 0, .int .i64 0]] 8 (World.laidAll_os _ _ _)
   (World.shaped_of_ZipB (by kernel_rfl) (by kernel_rfl)) (by kernel_rfl) (by kernel_rfl) (by kernel_rfl)
   (by rw [MakeChecks.laidMetH_plain _ _ _ (by kernel_rfl)]; exact laidMet_laidAll _ (by kernel_rfl) (by kernel_rfl))) ?_
 intro W base args ds gs before hval0 hW _ hL hsh
 have hG := glob_ofJ hsh hL
 have hval : ∀ (j : Nat) t v, Tryz.f3.params[j]? = some t → args[j]? = some v → Value.okWide Tryz.prog W .any base t v := hval0
 have hW' := hW
 obtain ⟨p, q, hA0, hV, rfl, _, _⟩ := hW
 have hA : DataW.TrodAll enc Tryz.prog W 0 (fun _ => true) true Tryz.f3.params.toList args.toList ds p := hA0
 have hA1 := hA
 obtain ⟨rfl, rfl⟩ := trodVars_none hV
 simp only [List.append_nil] at hW'
 have hlt : ∀ x ∈ p, x.block < W.heap.size := fun x hx => by simpa using hW'.lt x hx
 have hcarry : ∀ W', Below W.heap.size W W' → DataW.TrodAll enc Tryz.prog W' 0 (fun b => decide (b < W.heap.size)) true Tryz.f3.params.toList args.toList ds p := fun W' hb => carryAll laidOut readable hA1 hb hlt
 clear hA0 hval0 hA1
 rw [Tryz.params3] at hA
 obtain ⟨v0, vs0, d0, ds0, p0, q0, e0, rfl, e20, h0, t0⟩ := trodAll_cons hA
 obtain ⟨v1, vs1, d1, ds1, p1, q1, rfl, rfl, e21, h1, t1⟩ := trodAll_cons t0
 obtain ⟨v2, vs2, d2, ds2, p2, q2, rfl, rfl, e22, h2, t2⟩ := trodAll_cons t1
 obtain ⟨v3, vs3, d3, ds3, p3, q3, rfl, rfl, e23, h3, t3⟩ := trodAll_cons t2
 obtain ⟨v4, vs4, d4, ds4, p4, q4, rfl, rfl, e24, h4, t4⟩ := trodAll_cons t3
 obtain ⟨v5, vs5, d5, ds5, p5, q5, rfl, rfl, e25, h5, t5⟩ := trodAll_cons t4
 obtain ⟨rfl, rfl, _⟩ := trodAll_nil t5
 have hargs : args = #[v0, v1, v2, v3, v4, v5] := by rw [← Array.toArray_toList (xs := args), e0]
 subst hargs
 obtain ⟨a0, cp0, zs0, rfl, c0, l0, m0, r0⟩ := open_flat Tryz.underlying22 (by decide) cells_ints flat_ints (hval 0 22 _ rfl rfl) h0
 have g0 : RS (roOf W) 1 encI a0 (zs0.map decI) := RS.ofFlat m0 l0 decI_enc
 have n0 : (zs0.map decI).length = zs0.length := by simp
 rw [← n0] at c0
 obtain ⟨s1, rfl, k1⟩ := opn_nt.top Tryz.underlying27 (hval 1 27 _ rfl rfl) h1
 obtain ⟨s2, rfl, _, _, w2⟩ := open_string Tryz.underlying9 (hval 2 9 _ rfl rfl) h2
 obtain ⟨s3, rfl, _, _, w3⟩ := open_string Tryz.underlying9 (hval 3 9 _ rfl rfl) h3
 obtain ⟨s4, rfl, k4⟩ := opn_ln.top Tryz.underlying29 (hval 4 29 _ rfl rfl) h4
 obtain ⟨s5, rfl, k5⟩ := opn_fl.top Tryz.underlying35 (hval 5 35 _ rfl rfl) h5
 have hcall := lift_calls (P := Tryz.prog) (f := 3) (args := [.slice a0 (zs0.map decI).length cp0, .agg (encNt s1).toArray, .string s2, .string s3, .agg (encLn s4).toArray, .agg (encFl s5).toArray]) (W := W) (by have h := NettextExact_F g0 k1 k4 k5 hG c0 (text := s2.data.toList) (name := s3.data.toList) W; rw [← str_of s2, ← str_of s3] at h; exact h)
 try simp only [List.length_map] at hcall
 refine hcall.mono fun e W' ⟨he, hb⟩ => ?_
 subst he
 exact ⟨_, rfl, ⟨_, _, _, [], _, [], hW', trodAll_mk1 (shut_bool Tryz.underlying4 _), hcarry W' hb, rfl, hb.frame _, fun h => by cases h⟩⟩
end nettextExact
theorem nettextExact_holds : Rows.NettextExactSaid :=
 OpenClaim.holds_of_wide 3 Tryz.f3 rfl rfl rfl rfl rfl rfl rfl ⟨rfl, rfl, rfl, rfl, rfl⟩ rfl rfl rfl rfl rfl (by kernel_rfl) Tryz.func3 (by kernel_rfl)
  (of_decide_eq_true (by kernel_rfl)) (by unfold Func.isWrapper; first | (rw [if_pos (by decide +kernel)]; kernel_rfl) | (rw [if_neg (by decide +kernel)]; exact ⟨rfl, rfl⟩))
  (fun os started H enc _ => nettextExact.lifted os started H enc)
theorem nettextExact_card : Rows.NettextExactCardSaid :=
 Claim7.holds_tied_plain_at .later [] [.data, .data, .data, .data, .sentinel, .sentinel, .pinned] true (true, "a8ab417d27d32975a5500058816fde3c7ee168de5f4d2e0157cc9cb094bec51d") true
  nettextExact_holds (fun _ h => by cases h) (by kernel_rfl) (fun _ h => by cases h) nettextExact_row_tie rfl ⟨rfl, rfl⟩ (by kernel_rfl) rfl
  (fun f fn hf hfn => by
   obtain rfl : f = 3 := Option.some.inj ((show Tryz.prog.funcNamed Tryz.f3.name = some 3 by kernel_rfl).symm.trans hf) |>.symm
   obtain rfl : fn = Tryz.f3 := (Option.some.inj (Tryz.func3.symm.trans hfn)).symm
   exact ⟨by kernel_rfl, fun j t ht => by
    rw [Tryz.params3] at ht
    have hm : t ∈ [22, 27, 9, 9, 29, 35] := by simpa using Array.mem_of_getElem? ht
    have hall : ([22, 27, 9, 9, 29, 35].all fun u => !Tryz.prog.wantsStandIn u) = true := by kernel_rfl
    exact (show Tryz.prog.wantsStandIn t = false by simpa using List.all_eq_true.1 hall t hm)⟩)
  (by kernel_rfl)
end Go.Proofs.YtmidibkljoaoiaaGreatDoor
