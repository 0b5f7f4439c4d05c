/- NettextBack: for every input the law returns true, and the input reads afterwards as it read before; the listed variables of the library start as its text lays them. -/
import Derived.Test.YtmidibkljoaoiaaGreatDoorG5
import Derived.Test.YtmidibkljoaoiaaGreatDoorRows
import Derived.ProofKit
import Derived.SizedLaws
import Derived.Maps.OwnSet
import Derived.WideKeyElems2
import Derived.Carry
import Derived.Deep.Slices
import Derived.OpenShut
import Derived.Handed
import Derived.HandedShaped
import Derived.LaidMore
import Derived.LaidHandle
import Derived.LaidLaws
import Derived.MakeChecks
import Derived.Stop.LaidErr
import Derived.Lib.LaidTab
import Derived.Shelf.Vars
import Derived.Test.YtmidibkljoaoiaaGreatDoorTie
import Derived.Test.YtmidibkljoaoiaaGreatDoorCards
import Derived.SevenTiedAt
import Derived.Stop.Joined
import Derived.Lay
/- Chapter 24: what is the same. No condition. -/
set_option maxRecDepth 4000
set_option linter.unusedSimpArgs false
set_option linter.unusedVariables false
namespace Go.Proofs.YtmidibkljoaoiaaGreatDoor
open Go Go.RowKit Go.Proofs.YtmidibkljoaoiaaGreatDoor.K Go.Proofs.YtmidibkljoaoiaaGreatDoor.M

theorem Ints23_V {R : Ro} {a b : Option Addr} {c d : Nat} {xs ys : List Int} (ha : K.RS R 1 encI a xs) (hb : K.RS R 1 encI b ys) : FnV Tryz.prog 59 [.slice a xs.length c, .slice b ys.length d] R (.bool (decide (xs = ys))) := by
 refine Fn.toV (fun w0 E => ?_)
 have hla := ha.len
 have hlb := hb.len
 refine fE 26 Tryz.func59 ?_
 refine zQ (zG (zR 1 rfl (zN (zU (zQ (zQ (zG (zR 5 rfl (zN (zU ?_))))))))))
 refine W.condN rfl (fun hc0 => ?_) (fun hc0 => ?_)
 ·try dsimp only at hc0
  have hno : ¬ xs = ys := fun h => by rw [h] at hc0; exact hc0 rfl
  refine zQ (zG (zR 1 rfl (zN (zU (zT (wt ?_))))))
  refine sE (E := E) ?_
  refine WE.retF tab_ok [_] rfl ⟨rfl, trivial⟩ (RLe.refl _) ?_
  exact ⟨by rw [decide_eq_false hno]; rfl, rfl⟩
 ·try dsimp only at hc0
  have hll : xs.length = ys.length := by omega
  refine zK (zU (zQ (zQ (zG (zR 1 rfl (zN (zU (zB ?_))))))))
  refine W.loopK (β := Nat) (fun i => i ≤ xs.length ∧ ∀ j, j < i → nth xs j = nth ys j) (fun i => [(5, true, .int .i64 (i : Int))]) [0, 1] [_, _] [] _ rfl (fun i => []) (fun i => xs.length - i) (0) (⟨Nat.zero_le _, fun j hj => by omega⟩) ⟨rfl, rfl, rfl, rfl⟩ qS ?_
  intro i hst
  dsimp only [zipE, setAll, List.cons_append, List.nil_append, List.set_cons_zero, List.set_cons_succ] at hst ⊢
  
  refine zQ (zQ (zG (zR 4 rfl (zN (zU ?_)))))
  refine W.condD rfl (fun hc1 => ?_) (fun hc1 => ?_)
  ·try dsimp only at hc1
   have hil : i < xs.length := by omega
   refine zK (zU (zQ (zB (zQ ?_))))
   refine W.regionQ _ mixed qK ?_
   refine zR 2 rfl ?_
   refine WG.y rfl rfl qD (Yl.indexN tab_ok rfl rfl rfl rfl rfl rfl (fun _ => rfl) qN qH) ?_
   refine' WG.y rfl rfl qD (Yl.load1 tab_ok rfl rfl rfl (fun _ => rfl) ?r1 rfl ?h1) ?_
   case r1 => exact RS.rdD ha qO
   case h1 => rfl
   refine zR 2 rfl ?_
   refine WG.y rfl rfl qD (Yl.indexN tab_ok rfl rfl rfl rfl rfl rfl (fun _ => rfl) qN qH) ?_
   refine' WG.y rfl rfl qD (Yl.load1 tab_ok rfl rfl rfl (fun _ => rfl) ?r2 rfl ?h2) ?_
   case r2 => exact RS.rdD hb qO
   case h2 => rfl
   refine zR 1 rfl (zN (zU ?_))
   refine W.condN rfl (fun hc2 => ?_) (fun hc2 => ?_)
   ·try dsimp only at hc2
    have hno : ¬ xs = ys := fun h => by rw [h] at hc2; exact hc2 rfl
    refine zQ (zG (zR 1 rfl (zN (zU (zT (wb (wt (wt (wb (wt ?_))))))))))
    refine sE (E := E) ?_
    refine WE.retF tab_ok [_] rfl ⟨rfl, trivial⟩ (RLe.refl _) ?_
    exact ⟨by rw [decide_eq_false hno]; rfl, rfl⟩
   ·try dsimp only at hc2
    have hee : nth xs i = nth ys i := by omega
    refine zK (zL (zU (zG (zR 1 rfl ?_))))
    refine yA ?_
    refine zR 1 rfl (zN ?_)
    refine WE.again (i + 1) (⟨by omega, fun j hj => by
     by_cases e : j = i
     ·subst e; exact hee
     ·exact hst.2 j (by omega)⟩) (by (try dsimp only); omega) ⟨rfl, rfl, rfl, rfl⟩ (RLe.refl _) qS
  ·try dsimp only at hc1
   obtain rfl : i = xs.length := by omega
   refine zX ?_
   refine wx (wx (zY (zU (zQ (zG (zR 1 rfl (zN (zU (zT ?_)))))))))
   refine sE (E := E) ?_
   refine WE.retF tab_ok [_] rfl ⟨rfl, trivial⟩ (RLe.refl _) ?_
   have hyes : xs = ys := nth_ext hll hst.2
   exact ⟨by rw [decide_eq_true hyes]; rfl, rfl⟩

def Ln.same (L M : Ln) : Bool := (((decide (L.kind = M.kind) && decide (L.cap = M.cap)) && decide (L.n = M.n)) && decide (L.w = M.w)) && decide (L.tb = M.tb)
theorem Ln.same_iff {L M : Ln} : Ln.same L M = true ↔ L = M := by
 unfold Ln.same
 simp only [Bool.and_eq_true, decide_eq_true_eq]
 constructor
 ·rintro ⟨⟨⟨⟨h1, h2⟩, h3⟩, h4⟩, h5⟩
  cases L; cases M
  simp_all
 ·rintro rfl
  exact ⟨⟨⟨⟨rfl, rfl⟩, rfl⟩, rfl⟩, rfl⟩
instance decLn : DecidableEq Ln := fun _ _ => decidable_of_iff _ Ln.same_iff

set_option maxHeartbeats 2000000 in
theorem SameLn_V {R : Ro} {a1 a2 b1 b2 : Option Addr} {c1 c2 d1 d2 : Nat} {L M : Ln} (h1 : K.RS R 1 encI a1 L.w) (h2 : K.RS R 1 encI a2 L.tb) (h3 : K.RS R 1 encI b1 M.w) (h4 : K.RS R 1 encI b2 M.tb) : FnV Tryz.prog 24 [.agg #[.int .i64 L.kind, .int .i64 L.cap, .int .i64 L.n, .slice a1 L.w.length c1, .slice a2 L.tb.length c2], .agg #[.int .i64 M.kind, .int .i64 M.cap, .int .i64 M.n, .slice b1 M.w.length d1, .slice b2 M.tb.length d2]] R (.bool (Ln.same L M)) := by
 refine FnV.ofOwn (fun w0 hb0 => ?_)
 refine fE 38 Tryz.func24 ?_
 refine zQ (zG ?_)
 refine zO fun b2 => ?_
 refine zO fun b3 => ?_
 refine zR 1 rfl (zN (zU (zQ (zG (zR 1 rfl ?_)))))
 refine yL (Rd.add (Rd.blk 1 rfl) _) ?_
 refine zR 1 rfl ?_
 refine yL (Rd.add (Rd.blk 0 rfl) _) ?_
 refine zR 2 rfl ?_
 refine yP ?_
 refine yG (Rd.addC (Rd.blkC 1 rfl) _) ?_
 refine yP ?_
 refine yG (Rd.addC (Rd.blkC 0 rfl) _) ?_
 refine yP ?_
 refine yN ?_
 refine zR 1 rfl ?_
 refine yP ?_
 refine yG (Rd.addC (Rd.blkC 1 rfl) _) ?_
 refine yP ?_
 refine yG (Rd.addC (Rd.blkC 0 rfl) _) ?_
 refine yP ?_
 refine yN ?_
 refine zR 1 rfl ?_
 refine yP ?_
 refine yG (Rd.addC (Rd.blkC 1 rfl) _) ?_
 refine yP ?_
 refine yG (Rd.addC (Rd.blkC 0 rfl) _) ?_
 refine WG.callV en59 rfl rfl qD (CallOp.mk' rfl rfl rfl rfl) qE (fun hg => Ints23_V h1 h3) ?_
 refine yN ?_
 refine zR 1 rfl ?_
 refine yP ?_
 refine yG (Rd.addC (Rd.blkC 1 rfl) _) ?_
 refine yP ?_
 refine yG (Rd.addC (Rd.blkC 0 rfl) _) ?_
 refine WG.callV en59 rfl rfl qD (CallOp.mk' rfl rfl rfl rfl) qE (fun hg => Ints23_V h2 h4) ?_
 refine yN ?_
 refine zR 1 rfl (zN (zU (zT ?_)))
 refine WE.subE (E' := []) qS ?_
 refine WE.retF tab_ok [_] rfl ⟨rfl, trivial⟩ (RLe.refl _) ?_
 exact rfl



theorem duo31 : Duo Tryz.prog 31 := ⟨_, _, Tryz.underlying31, by kernel_rfl, by kernel_rfl, by decide, by decide, rfl, rfl, ⟨_, Tryz.underlying3⟩, ⟨_, Tryz.underlying3⟩, fun xs w v h => run_part_plain w (by kernel_rfl) h, fun xs w v h => run_part_plain w (by kernel_rfl) h⟩

theorem SameC23_T {R : Ro} {fa ga : Option Addr} {fc gc : Nat} {c : Cv} (ha : K.RS R 1 encI fa c.vals) (hb : K.RS R 1 encI ga c.vals) : FnV Tryz.prog 78 [.agg #[.slice fa c.vals.length fc, .int .i64 c.per, .int .i64 c.inc], .agg #[.slice ga c.vals.length gc, .int .i64 c.per, .int .i64 c.inc]] R (.bool true) := by
 refine FnV.ofOwn (fun w0 hb0 => ?_)
 refine fE 24 Tryz.func78 ?_
 refine zQ (zG ?_)
 refine zO fun b2 => ?_
 refine zO fun b3 => ?_
 refine zR 1 rfl (zN (zU (zQ (zG (zR 1 rfl ?_)))))
 refine yL (Rd.add (Rd.blk 1 rfl) _) ?_
 refine zR 1 rfl ?_
 refine yL (Rd.add (Rd.blk 0 rfl) _) ?_
 refine WG.callV (v := .bool true) en59 rfl rfl (by decide) (CallOp.mk' rfl rfl rfl rfl) (fun _ => rfl) (fun hg => (by have h := Ints23_V (c := fc) (d := gc) ha hb; rw [decide_eq_true rfl] at h; exact h)) ?_
 refine zR 1 rfl ?_
 refine WL.guardT rfl (by first | rfl | simp) ?_
 refine yP ?_
 refine WL.guardT rfl (by first | rfl | simp) ?_
 refine yL (Rd.add (Rd.blk 1 rfl) _) ?_
 refine WL.guardT rfl (by first | rfl | simp) ?_
 refine yP ?_
 refine WL.guardT rfl (by first | rfl | simp) ?_
 refine yL (Rd.add (Rd.blk 0 rfl) _) ?_
 refine WL.guardT rfl (by first | rfl | simp) ?_
 refine yP ?_
 refine yN ?_
 refine zR 1 rfl ?_
 refine WL.guardT rfl (by first | rfl | simp) ?_
 refine yP ?_
 refine WL.guardT rfl (by first | rfl | simp) ?_
 refine yL (Rd.add (Rd.blk 1 rfl) _) ?_
 refine WL.guardT rfl (by first | rfl | simp) ?_
 refine yP ?_
 refine WL.guardT rfl (by first | rfl | simp) ?_
 refine yL (Rd.add (Rd.blk 0 rfl) _) ?_
 refine WL.guardT rfl (by first | rfl | simp) ?_
 refine yP ?_
 refine yN ?_
 refine zR 1 rfl (zN (zU (zT ?_)))
 refine WE.subE (E' := []) qS ?_
 refine WE.retF tab_ok [_] rfl ⟨rfl, trivial⟩ (RLe.refl _) ?_
 (show Value.bool _ = Value.bool true; simp)

set_option maxHeartbeats 1000000 in
theorem SameF23_T {R : Ro} {x1 x2 y1 y2 : Option Addr} {xc1 xc2 yc1 yc2 : Nat} {f : Fl} (h1 : K.RS R 1 encI x1 f.route) (h2 : K.RS R 1 encI y1 f.route) (h3 : K.RS R 1 encI x2 f.cv.vals) (h4 : K.RS R 1 encI y2 f.cv.vals) : FnV Tryz.prog 55 [.agg #[.string (str f.name), .slice x1 f.route.length xc1, .int .i64 f.cls, .int .i64 f.lo, .int .i64 f.hi, .slice x2 f.cv.vals.length xc2, .int .i64 f.cv.per, .int .i64 f.cv.inc], .agg #[.string (str f.name), .slice y1 f.route.length yc1, .int .i64 f.cls, .int .i64 f.lo, .int .i64 f.hi, .slice y2 f.cv.vals.length yc2, .int .i64 f.cv.per, .int .i64 f.cv.inc]] R (.bool true) := by
 refine FnV.ofOwn (fun w0 hb0 => ?_)
 refine fE 38 Tryz.func55 ?_
 refine zQ (zG ?_)
 refine zO fun b2 => ?_
 refine zO fun b3 => ?_
 refine zR 1 rfl (zN (zU (zQ (zG (zR 1 rfl ?_)))))
 refine yL (Rd.add (Rd.blk 1 rfl) _) ?_
 refine zR 1 rfl ?_
 refine yL (Rd.add (Rd.blk 0 rfl) _) ?_
 refine WG.y rfl rfl qD (Yl.eqS rfl rfl rfl (fun _ => rfl)) ?_
 refine zR 1 rfl ?_
 refine WL.guardT rfl (by first | rfl | simp) ?_
 refine yP ?_
 refine WL.guardT rfl (by first | rfl | simp) ?_
 refine yL (Rd.add (Rd.blk 1 rfl) _) ?_
 refine WL.guardT rfl (by first | rfl | simp) ?_
 refine yP ?_
 refine WL.guardT rfl (by first | rfl | simp) ?_
 refine yL (Rd.add (Rd.blk 0 rfl) _) ?_
 refine WL.guardT rfl (by first | rfl | simp) ?_
 refine WG.callV (v := .bool true) en59 rfl rfl (by decide) (CallOp.mk' rfl rfl rfl rfl) (fun _ => rfl) (fun hg => (by have h := Ints23_V (c := xc1) (d := yc1) h1 h2; rw [decide_eq_true rfl] at h; exact h)) ?_
 refine yN ?_
 refine zR 1 rfl ?_
 refine WL.guardT rfl (by first | rfl | simp) ?_
 refine yP ?_
 refine WL.guardT rfl (by first | rfl | simp) ?_
 refine yL (Rd.add (Rd.blk 1 rfl) _) ?_
 refine WL.guardT rfl (by first | rfl | simp) ?_
 refine yP ?_
 refine WL.guardT rfl (by first | rfl | simp) ?_
 refine yL (Rd.add (Rd.blk 0 rfl) _) ?_
 refine WL.guardT rfl (by first | rfl | simp) ?_
 refine yP ?_
 refine yN ?_
 refine zR 1 rfl ?_
 refine WL.guardT rfl (by first | rfl | simp) ?_
 refine yP ?_
 refine WL.guardT rfl (by first | rfl | simp) ?_
 refine yL (Rd.add (Rd.blk 1 rfl) _) ?_
 refine WL.guardT rfl (by first | rfl | simp) ?_
 refine yP ?_
 refine WL.guardT rfl (by first | rfl | simp) ?_
 refine yL (Rd.add (Rd.blk 0 rfl) _) ?_
 refine WL.guardT rfl (by first | rfl | simp) ?_
 refine WG.y rfl rfl qD (Yl.eqDuo duo31 rfl rfl rfl (fun _ => rfl)) ?_
 refine yN ?_
 refine zR 1 rfl ?_
 refine WL.guardT rfl (by first | rfl | simp) ?_
 refine yP ?_
 refine WL.guardT rfl (by first | rfl | simp) ?_
 refine yL (Rd.add (Rd.blk 1 rfl) _) ?_
 refine WL.guardT rfl (by first | rfl | simp) ?_
 refine yP ?_
 refine WL.guardT rfl (by first | rfl | simp) ?_
 refine yL (Rd.add (Rd.blk 0 rfl) _) ?_
 refine WL.guardT rfl (by first | rfl | simp) ?_
 refine WG.callV en78 rfl rfl qD (CallOp.mk' rfl rfl rfl rfl) (fun _ => rfl) (fun hg => SameC23_T h3 h4) ?_
 refine yN ?_
 refine zR 1 rfl (zN (zU (zT ?_)))
 refine WE.subE (E' := []) qS ?_
 refine WE.retF tab_ok [_] rfl ⟨rfl, trivial⟩ (RLe.refl _) ?_
 (show Value.bool _ = Value.bool true; simp)

set_option maxHeartbeats 4000000 in
theorem SameN23_T {R : Ro} {na la fa nb lb fb : Option Addr} {nc lc fc nd ld fd : Nat} {ns : List (List UInt8)} {ms qs : List LnM} {fs gs : List FlM} (h1 : K.RS R 1 encT na ns) (h2 : K.RS R 5 encLn la ms) (h3 : K.RS R 1 encT nb ns) (h4 : K.RS R 5 encLn lb qs) (h5 : K.RS R 8 encFl fa fs) (h6 : K.RS R 8 encFl fb gs) (hm : ∀ m ∈ ms, OkLn R m) (hq : ∀ m ∈ qs, OkLn R m) (hf : ∀ x ∈ fs, OkFl R x) (hgo : ∀ x ∈ gs, OkFl R x) (he : ms.map (·.L) = qs.map (·.L)) (hfe : fs.map (·.f) = gs.map (·.f)) : FnV Tryz.prog 21 [.agg #[.slice na ns.length nc, .slice la ms.length lc, .slice fa fs.length fc], .agg #[.slice nb ns.length nd, .slice lb qs.length ld, .slice fb gs.length fd]] R (.bool true) := by
 refine FnV.ofOwn (fun w0 hb0 => ?_)
 have l1 := h1.len
 have l2 := h2.len
 have l4 := h4.len
 have l5 := h5.len
 have l6 := h6.len
 have hml : ms.length = qs.length := by have := congrArg List.length he; rw [List.length_map, List.length_map] at this; exact this
 have hfl : fs.length = gs.length := by have := congrArg List.length hfe; rw [List.length_map, List.length_map] at this; exact this
 have hme : ∀ i, i < ms.length → (nth ms i).L = (nth qs i).L := fun i hi => by
  have e1 : (ms.map (·.L))[i]? = (qs.map (·.L))[i]? := by rw [he]
  rw [List.getElem?_map, List.getElem?_map, List.getElem?_eq_getElem hi, List.getElem?_eq_getElem (by omega)] at e1
  rw [nth_eq hi, nth_eq (by omega)]; exact Option.some.inj e1
 have hfx : ∀ i, i < fs.length → (nth fs i).f = (nth gs i).f := fun i hi => by
  have e1 : (fs.map (·.f))[i]? = (gs.map (·.f))[i]? := by rw [hfe]
  rw [List.getElem?_map, List.getElem?_map, List.getElem?_eq_getElem hi, List.getElem?_eq_getElem (by omega)] at e1
  rw [nth_eq hi, nth_eq (by omega)]; exact Option.some.inj e1
 refine fE 89 Tryz.func21 ?_
 refine zQ (zG ?_)
 refine zO fun b2 => ?_
 refine zO fun b3 => ?_
 refine zR 1 rfl (zN (zU (zQ (zQ (zG (zR 1 rfl ?_))))))
 refine yL (Rd.add (Rd.blk 1 rfl) _) ?_
 refine zR 2 rfl ?_
 refine yL (Rd.add (Rd.blk 0 rfl) _) ?_
 refine zR 3 rfl ?_
 refine yP ?_
 refine yG (Rd.addC (Rd.blkC 1 rfl) _) ?_
 refine yP ?_
 refine yP ?_
 refine yG (Rd.addC (Rd.blkC 0 rfl) _) ?_
 refine yP ?_
 refine yP ?_
 refine yO ?_
 refine zR 1 rfl ?_
 refine yP ?_
 refine yG (Rd.addC (Rd.blkC 1 rfl) _) ?_
 refine yP ?_
 refine yP ?_
 refine yG (Rd.addC (Rd.blkC 0 rfl) _) ?_
 refine yP ?_
 refine yP ?_
 refine yO ?_
 refine zN (zU ?_)
 refine W.cond rfl (fun hc0 => ?_) (fun hc0 => ?_)
 ·try simp only [zk] at hc0
  exfalso; rcases hc0 with (h | h) | h <;> first | exact h rfl | exact h trivial | omega
 ·try simp only [zk] at hc0
  refine zK (zU (zQ (zQ (zG (zR 1 rfl (zN (zU (zB ?_))))))))
  refine W.loopK (β := Nat) (fun i => i ≤ ns.length) (fun i => [(5, true, .int .i64 (i : Int))]) [2, 3] [_, _] [] _ rfl (fun i => []) (fun i => ns.length - i) (0) (Nat.zero_le _) ⟨rfl, rfl, rfl, rfl⟩ qS ?_
  intro i hst
  dsimp only [zipE, setAll, List.cons_append, List.nil_append, List.set_cons_zero, List.set_cons_succ] at hst ⊢
  
  refine zQ (zQ (zG (zR 2 rfl ?_)))
  refine yL (Rd.add (Rd.blk 1 rfl) _) ?_
  refine zR 2 rfl (zN (zU ?_))
  refine W.condD rfl (fun hc1 => ?_) (fun hc1 => ?_)
  ·try dsimp only at hc1
   have hil : i < ns.length := by omega
   refine zK (zU (zQ (zB (zQ ?_))))
   refine W.regionQ _ mixed qK ?_
   refine zR 1 rfl ?_
   refine yL (Rd.add (Rd.blk 1 rfl) _) ?_
   refine zR 1 rfl ?_
   refine WG.y rfl rfl qD (Yl.indexN tab_ok rfl rfl rfl rfl rfl rfl (fun _ => rfl) qN qH) ?_
   refine' WG.y rfl rfl qD (Yl.load1 tab_ok rfl rfl rfl (fun _ => rfl) ?r9 rfl ?h9) ?_
   case r9 => exact RS.rdD h1 qO
   case h9 => rfl
   refine zR 1 rfl ?_
   refine yL (Rd.add (Rd.blk 0 rfl) _) ?_
   refine zR 1 rfl ?_
   refine WG.y rfl rfl qD (Yl.indexN tab_ok rfl rfl rfl rfl rfl rfl (fun _ => rfl) qN qH) ?_
   refine' WG.y rfl rfl qD (Yl.load1 tab_ok rfl rfl rfl (fun _ => rfl) ?r11 rfl ?h11) ?_
   case r11 => exact RS.rdD h3 qO
   case h11 => rfl
   refine WG.y rfl rfl qD (Yl.neS rfl rfl rfl (fun _ => rfl)) ?_
   refine zN (zU ?_)
   refine W.cond rfl (fun hc2 => ?_) (fun hc2 => ?_)
   ·try simp only [zk] at hc2
    (simp at hc2)
   ·try simp only [zk] at hc2
    refine zK (zL (zU (zG (zR 1 rfl ?_))))
    refine yA ?_
    refine zR 1 rfl (zN ?_)
    refine WE.again (i + 1) (by (try dsimp only); omega) (by (try dsimp only); omega) ⟨rfl, rfl, rfl, rfl⟩ (RLe.refl _) qS
  ·try dsimp only at hc1
   obtain rfl : i = ns.length := by omega
   refine zX ?_
   refine wx (wx (zY (zU (zQ (zQ (zG (zR 1 rfl (zN (zU (zB ?_))))))))))
   refine W.loopK (β := Nat) (fun i => i ≤ ms.length) (fun i => [(6, true, .int .i64 (i : Int))]) [2, 3] [_, _] [] _ rfl (fun i => []) (fun i => ms.length - i) (0) (Nat.zero_le _) ⟨rfl, rfl, rfl, rfl⟩ qS ?_
   intro i hst
   dsimp only [zipE, setAll, List.cons_append, List.nil_append, List.set_cons_zero, List.set_cons_succ] at hst ⊢
   
   refine zQ (zQ (zG (zR 2 rfl ?_)))
   refine yL (Rd.add (Rd.blk 1 rfl) _) ?_
   refine zR 2 rfl (zN (zU ?_))
   refine W.condD rfl (fun hc3 => ?_) (fun hc3 => ?_)
   ·try dsimp only at hc3
    have hil : i < ms.length := by omega
    have hiq : i < qs.length := by omega
    refine zK (zU (zQ (zB (zQ ?_))))
    refine W.regionQ _ mixed qK ?_
    refine zR 1 rfl ?_
    refine yL (Rd.add (Rd.blk 1 rfl) _) ?_
    refine zR 1 rfl ?_
    refine WG.y rfl rfl qD (Yl.indexN tab_ok rfl rfl rfl rfl rfl rfl (fun _ => rfl) qN qH) ?_
    refine' WG.y rfl rfl qD (Yl.load1 tab_ok rfl rfl rfl (fun _ => rfl) ?r14 rfl ?h14) ?_
    case r14 => exact RS.rdD h2 hil
    case h14 => rfl
    refine zR 1 rfl ?_
    refine yL (Rd.add (Rd.blk 0 rfl) _) ?_
    refine zR 1 rfl ?_
    refine WG.y rfl rfl qD (Yl.indexN tab_ok rfl rfl rfl rfl rfl rfl (fun _ => rfl) qN qH) ?_
    refine' WG.y rfl rfl qD (Yl.load1 tab_ok rfl rfl rfl (fun _ => rfl) ?r16 rfl ?h16) ?_
    case r16 => exact RS.rdD h4 hiq
    case h16 => rfl
    refine WG.callV (v := .bool true) en24 rfl rfl (by decide) (CallOp.mk' rfl rfl rfl rfl) (fun _ => rfl) (fun hg => (by have h := SameLn_V (L := (nth ms i).L) (M := (nth qs i).L) (c1 := (nth ms i).c1) (c2 := (nth ms i).c2) (d1 := (nth qs i).c1) (d2 := (nth qs i).c2) (hm _ (nth_mem hil)).1 (hm _ (nth_mem hil)).2 (hq _ (nth_mem hiq)).1 (hq _ (nth_mem hiq)).2; rw [Ln.same_iff.2 (hme i hil)] at h; exact h)) ?_
    refine zR 1 rfl (zN (zU ?_))
    refine W.cond rfl (fun hc4 => ?_) (fun hc4 => ?_)
    ·try simp only [zk] at hc4
     simp at hc4
    ·try simp only [zk] at hc4
     refine zK (zL (zU (zG (zR 1 rfl ?_))))
     refine yA ?_
     refine zR 1 rfl (zN ?_)
     refine WE.again (i + 1) (by (try dsimp only); omega) (by (try dsimp only); omega) ⟨rfl, rfl, rfl, rfl⟩ (RLe.refl _) qS
   ·try dsimp only at hc3
    obtain rfl : i = ms.length := by omega
    refine zX ?_
    refine wx (wx (zY (zU (zQ (zQ (zG (zR 1 rfl (zN (zU (zB ?_))))))))))
    refine W.loopK (β := Nat) (fun i => i ≤ fs.length) (fun i => [(7, true, .int .i64 (i : Int))]) [2, 3] [_, _] [] _ rfl (fun i => []) (fun i => fs.length - i) (0) (Nat.zero_le _) ⟨rfl, rfl, rfl, rfl⟩ qS ?_
    intro i hst
    dsimp only [zipE, setAll, List.cons_append, List.nil_append, List.set_cons_zero, List.set_cons_succ] at hst ⊢
    
    refine zQ (zQ (zG (zR 2 rfl ?_)))
    refine yL (Rd.add (Rd.blk 1 rfl) _) ?_
    refine zR 2 rfl (zN (zU ?_))
    refine W.condD rfl (fun hc5 => ?_) (fun hc5 => ?_)
    ·try dsimp only at hc5
     have hif : i < fs.length := by omega
     have hig : i < gs.length := by omega
     have hfxi := hfx i hif
     refine zK (zU (zQ (zB (zQ ?_))))
     refine W.regionQ _ mixed qK ?_
     refine zR 1 rfl ?_
     refine yL (Rd.add (Rd.blk 1 rfl) _) ?_
     refine zR 1 rfl ?_
     refine WG.y rfl rfl qD (Yl.indexN tab_ok rfl rfl rfl rfl rfl rfl (fun _ => rfl) qN qH) ?_
     refine' WG.y rfl rfl qD (Yl.load1 tab_ok rfl rfl rfl (fun _ => rfl) ?r19 rfl ?h19) ?_
     case r19 => exact RS.rdD h5 hif
     case h19 => rfl
     refine zR 1 rfl ?_
     refine yL (Rd.add (Rd.blk 0 rfl) _) ?_
     refine zR 1 rfl ?_
     refine WG.y rfl rfl qD (Yl.indexN tab_ok rfl rfl rfl rfl rfl rfl (fun _ => rfl) qN qH) ?_
     refine' WG.y rfl rfl qD (Yl.load1 tab_ok rfl rfl rfl (fun _ => rfl) ?r21 rfl ?h21) ?_
     case r21 => exact RS.rdD h6 hig
     case h21 => rfl
     rw [show encFl (nth gs i) = [.string (str (nth fs i).f.name), .slice (nth gs i).a1 (nth fs i).f.route.length (nth gs i).c1, .int .i64 (nth fs i).f.cls, .int .i64 (nth fs i).f.lo, .int .i64 (nth fs i).f.hi, .slice (nth gs i).a2 (nth fs i).f.cv.vals.length (nth gs i).c2, .int .i64 (nth fs i).f.cv.per, .int .i64 (nth fs i).f.cv.inc] from by unfold encFl; rw [← hfxi]]
     refine WG.callV en55 rfl rfl (by decide) (CallOp.mk' rfl rfl rfl rfl) (fun _ => rfl) (fun hg => SameF23_T (f := (nth fs i).f) (hf _ (nth_mem hif)).route (by have h := (hgo _ (nth_mem hig)).route; rw [← hfx i hif] at h; exact h) (hf _ (nth_mem hif)).vals (by have h := (hgo _ (nth_mem hig)).vals; rw [← hfx i hif] at h; exact h)) ?_
     refine zR 1 rfl (zN (zU ?_))
     refine W.cond rfl (fun hc6 => ?_) (fun hc6 => ?_)
     ·try simp only [zk] at hc6
      simp at hc6
     ·try simp only [zk] at hc6
      refine zK (zL (zU (zG (zR 1 rfl ?_))))
      refine yA ?_
      refine zR 1 rfl (zN ?_)
      refine WE.again (i + 1) (by (try dsimp only); omega) (by (try dsimp only); omega) ⟨rfl, rfl, rfl, rfl⟩ (RLe.refl _) qS
    ·try dsimp only at hc5
     obtain rfl : i = fs.length := by omega
     refine zX ?_
     refine wx (wx (zY (zU (zQ (zG (zR 1 rfl (zN (zU (zT ?_)))))))))
     refine WE.subE (E' := []) qS ?_
     refine WE.retF tab_ok [_] rfl ⟨rfl, trivial⟩ (RLe.refl _) ?_
     exact rfl



theorem Eq02_V2 {R : Ro} {fa ga : Option Addr} {fc gc : Nat} {c1 c2 : Cv} (he : c1 = c2) (hv : validB c1 = true) (ha : K.RS R 1 encI fa c1.vals) (hb : K.RS R 1 encI ga c2.vals) (hac : c1.vals.length ≤ fc) (hbc : c2.vals.length ≤ gc) : FnV Tryz.prog 22 [.agg #[.slice fa c1.vals.length fc, .int .i64 c1.per, .int .i64 c1.inc], .agg #[.slice ga c2.vals.length gc, .int .i64 c2.per, .int .i64 c2.inc]] R (.bool true) := by
 subst he
 exact Eq02_V hv ha hb hac hbc
theorem set_same {xs fs : List FlM} {i : Nat} {u : FlM} (hi : i < xs.length) (he : xs.map (·.f) = fs.map (·.f)) (hu : u.f = (nth xs i).f) : (xs.set i u).map (·.f) = fs.map (·.f) := by
 rw [← he]
 apply List.ext_getElem
 ·rw [List.length_map, List.length_map, List.length_set]
 ·intro j h1 h2
  rw [List.getElem_map, List.getElem_map, List.getElem_set]
  split
  ·rename_i hij
   subst hij
   rw [hu, nth_eq hi]
  ·rfl
theorem map_nth {xs fs : List FlM} {i : Nat} (hi : i < xs.length) (he : xs.map (·.f) = fs.map (·.f)) : i < fs.length ∧ (nth xs i).f = (nth fs i).f := by
 have hl : xs.length = fs.length := by have := congrArg List.length he; rw [List.length_map, List.length_map] at this; exact this
 have e1 : (xs.map (·.f))[i]? = (fs.map (·.f))[i]? := by rw [he]
 rw [List.getElem?_map, List.getElem?_map, List.getElem?_eq_getElem hi, List.getElem?_eq_getElem (by omega)] at e1
 rw [nth_eq hi, nth_eq (by omega)]
 exact ⟨by omega, Option.some.inj e1⟩

set_option maxHeartbeats 8000000 in
theorem NettextBack_F {R : Ro} {a : Option Addr} {c : Nat} {xs : List Int} (ha : RS R 1 encI a xs) (hG : GlobE R) (hc : xs.length ≤ c) (w0 : World) : K.Fn Tryz.prog 4 [.slice a xs.length c] w0 R [] (fun v _ _ => v = .bool true) := by
 
 refine fE 104 Tryz.func4 ?_
 refine zQ (zG (zR 1 rfl (zN (zU (zQ (zQ (zG (zR 3 rfl (zN (zU ?_))))))))))
 refine W.condD rfl (fun hc0 => ?_) (fun hc0 => ?_)
 ·try dsimp only at hc0
  refine zQ (zG ?_)
  refine WL.call en7 rfl rfl qD (CallOp.mkT rfl rfl rfl rfl) (SaneG_C hG w0 _) ?_
  rintro _ R9 E9 hR9 ⟨rfl, hsub9⟩
  refine WL.subE hsub9 ?_
  refine zR 1 rfl (zN (zU (zT (wt ?_))))
  refine WE.retF tab_ok [_] rfl ⟨rfl, trivial⟩ (by first | assumption | exact RLe.refl _ | exact hR1.trans (hR5.trans (hR6.trans hR9))) ?_
  exact rfl
 ·try dsimp only at hc0
  refine zK (zU (zQ (zG (zR 1 rfl ?_))))
  refine WL.call en8 rfl rfl qD (CallOp.mkT rfl rfl rfl rfl) (New_C w0 _ hc) ?_
  rintro _ _ _ - ⟨b, rfl, rfl, rfl⟩
  have hz := ha.take 2000
  refine WL.callAt 0 en9 rfl rfl qD (CallOp.mkT rfl rfl rfl rfl) rfl (Net24_C (nl := 4) (nf := 4) w0 hz qD qD _) ?_
  rintro _ R1 _ _ hR1 ⟨k, ms, fs, na, la, fa, nc, lc, fc, cn, rfl, hk, hml, hfl, hna, hla, hfa, hmd, hfd, hfn, hcaps, rfl, rfl⟩
  have hG := hG.mono hR1
  have hD : DrawN k ms fs := ⟨hk, ⟨hml.1, by omega⟩, by omega, fun m hm => (hmd m hm).2, fun x hx => (hfd x hx).2.2, hfn⟩
  obtain ⟨hrwl, hrw, hrwt, _⟩ := hD.rows
  obtain ⟨hf1, hf2, hf3, hf4, _⟩ := hD.facts
  have hbk := hD.back
  have hfmt := hD.fmt
  have hsp := splC_rwN hD
  refine zA fun b3 => ?_
  refine zE 0 ?_
  refine zN (zU (zQ (zG ?_)))
  refine yL (Rd.blk 0 rfl) ?_
  refine WG.callV (v := .tuple #[.string (str (rowsT (rwN ms fs))), .int .i64 0]) en12 rfl rfl qD (CallOp.mk' rfl rfl rfl rfl) (fun _ => rfl) (fun hg => by
   have h := FmtN_V (nc := nc) (lc := lc) (fc := fc) hG hna hla hfa (fun m hm => (hmd m hm).1) (fun x hx => (hfd x hx).1) (fun x hx => by have := (nm4_len hx).1; omega)
   rw [show nm4.take ms.length = nmsN ms from rfl, hfmt] at h
   exact h) ?_
  refine zR 5 rfl (zN (zU (zQ (zQ (zG (zR 2 rfl (zN (zU ?_))))))))
  refine W.condE rfl (fun hc1 => ?_) (fun hc1 => ?_)
  ·try dsimp only at hc1
   exact absurd hc1 qD
  ·try dsimp only at hc1
   refine zK (zU (zQ (zG (zR 1 rfl ?_))))
   have hp5 := Parse_C hG (s := rowsT (rwN ms fs)) (by omega) w0
   refine WL.call en19 rfl rfl qD (CallOp.mkT rfl rfl rfl rfl) (hp5 _) ?_
   rintro _ R5 _ hR5 ⟨na5, la5, fa5, nc5, lc5, fc5, ns5, ms5, fs5, ln5, e5, rfl, hna5, hla5, hom5, hof5, hnn5, hnc5, hlc5, hfc5, hpn5, rfl⟩
   have hG := hG.mono hR5
   obtain ⟨hq1, rfl, rfl⟩ := nt_eq hpn5 hbk
   obtain ⟨rfl, hq2⟩ := Prod.mk.inj hq1
   obtain ⟨hms, hfs⟩ := Prod.mk.inj hq2
   have hfl5 : fs5.length = fs.length := by have := congrArg List.length hfs; rw [List.length_map, List.length_map] at this; exact this
   have hmd := fun m hm => (⟨(hmd m hm).1.mono hR5, (hmd m hm).2⟩ : OkLn R5 m ∧ DrawP k m.L)
   have hfd := fun x hx => (⟨(hfd x hx).1.mono hR5, (hfd x hx).2⟩ : OkFl R5 x ∧ (x.f.route.length ≤ x.c1 ∧ x.f.cv.vals.length ≤ x.c2) ∧ DrawF k ms.length x.f)
   have hna := hna.mono hR5
   have hla := hla.mono hR5
   have hfa := hfa.mono hR5
   refine zR 4 rfl ?_
   refine zA fun b6 => ?_
   refine zE 0 ?_
   refine zR 2 rfl (zN (zU (zQ (zQ (zG (zR 3 rfl ?_))))))
   refine yP ?_
   refine yP ?_
   refine yO ?_
   refine zR 1 rfl ?_
   refine yP ?_
   refine yP ?_
   refine yO ?_
   refine zR 1 rfl ?_
   refine yP ?_
   refine yG (Rd.addC (Rd.blkC 0 rfl) _) ?_
   refine yP ?_
   refine yP ?_
   refine yG (Rd.addC (Rd.blkC 2 rfl) _) ?_
   refine yP ?_
   refine yP ?_
   refine yO ?_
   refine zN (zU ?_)
   refine W.cond rfl (fun hc2 => ?_) (fun hc2 => ?_)
   ·try simp only [zk] at hc2
    exfalso; rcases hc2 with ((h | h) | h) | h <;> first | exact h rfl | exact h trivial | omega
   ·try simp only [zk] at hc2
    refine zK (zU (zQ (zQ (zG (zR 1 rfl ?_)))))
    refine yL (Rd.add (Rd.blk 0 rfl) _) ?_
    refine zR 2 rfl (zN (zU (zB ?_)))
    refine W.loopK (β := Nat × List FlM) (fun (i, xs1) => i ≤ fs.length ∧ xs1.length = fs5.length ∧ xs1.map (·.f) = fs.map (·.f) ∧ ∀ x ∈ xs1, OkFl R5 x ∧ x.f.cv.vals.length ≤ x.c2) (fun (i, xs1) => [(55, true, .int .i64 (i : Int))]) [3, 4, 6, 54] [_, _, _, _] [] _ rfl (fun (i, xs1) => [(1, .sl 35 8 fa5 fc5 (xs1.map encFl))]) (fun (i, xs1) => fs.length - i) ((0, fs5)) (⟨Nat.zero_le _, rfl, hfs, fun x hx => ⟨(hof5 x hx).1, (hof5 x hx).2.2⟩⟩) ⟨rfl, rfl, rfl, rfl, rfl, rfl⟩ qS ?_
    intro zz hst
    obtain ⟨i, xs1⟩ := zz
    dsimp only [zipE, setAll, List.cons_append, List.nil_append, List.set_cons_zero, List.set_cons_succ] at hst ⊢
    obtain ⟨hi, hxl, hxs, hxo⟩ := hst
    refine zQ (zG (zR 1 rfl (zN (zU (zQ ?_)))))
    refine W.condD rfl (fun hc3 => ?_) (fun hc3 => ?_)
    ·try dsimp only at hc3
     have hix : i < xs1.length := by omega
     obtain ⟨hif, hxf⟩ := map_nth hix hxs
     have hvv : validB (nth xs1 i).f.cv = true := by rw [hxf]; exact (stair_valid (hfd _ (nth_mem hif)).2.2.cv).1
     have hxv := (hxo _ (nth_mem hix)).1.vals
     have hxc := (hxo _ (nth_mem hix)).2
     refine zK (zU (zQ (zB (zQ (zG (zR 2 rfl (zN (zU (zQ (zQ ?_))))))))))
     refine W.regionQ _ mixed qK ?_
     refine zR 1 rfl ?_
     refine yL (Rd.add (Rd.blk 0 rfl) _) ?_
     refine zR 1 rfl ?_
     refine WG.y rfl rfl (by decide) (Yl.indexN tab_ok rfl rfl rfl rfl rfl rfl (fun _ => rfl) (by intro _; (try dsimp only) <;> omega) (by intro _; first | (rw [← hxl]; exact HasMem.ownD 1 rfl) | exact qI)) ?_
     refine zR 1 rfl ?_
     refine' WG.y rfl rfl qD (Yl.load1 tab_ok rfl rfl rfl (fun _ => rfl) ?r6 rfl ?h6) ?_
     case r6 => apply Rd.add; exact Rd.slD 1 rfl qO
     case h6 => rfl
     refine zR 1 rfl ?_
     refine yL (Rd.add (Rd.blk 2 rfl) _) ?_
     refine zR 1 rfl ?_
     refine WG.y rfl rfl (by decide) (Yl.indexN tab_ok rfl rfl rfl rfl rfl rfl (fun _ => rfl) (by intro _; (try dsimp only) <;> omega) (by intro _; first | (rw [← hxl]; exact HasMem.ownD 1 rfl) | exact qI)) ?_
     refine zR 1 rfl ?_
     refine' WG.y rfl rfl qD (Yl.load1 tab_ok rfl rfl rfl (fun _ => rfl) ?r8 rfl ?h8) ?_
     case r8 => apply Rd.add; exact RS.rdD hfa hif
     case h8 => rfl
     refine WG.callV (v := .bool true) en22 rfl rfl (by decide) (CallOp.mk' rfl rfl rfl rfl) (fun _ => rfl) (fun hg => Eq02_V2 (by rw [hxf]) hvv hxv (hfd _ (nth_mem hif)).1.vals hxc (hfd _ (nth_mem hif)).2.1.2) ?_
     refine zR 1 rfl (zN (zU ?_))
     refine W.cond rfl (fun hc4 => ?_) (fun hc4 => ?_)
     ·try simp only [zk] at hc4
      (simp at hc4; done)
     ·try simp only [zk] at hc4
      refine zK (zU ?_)
      refine W.regionH _ (ES := [.blk b6 [.slice na5 (nmsN ms).length nc5, .slice la5 ms5.length lc5, .slice fa5 fs5.length fc5], .blk b3 [.slice na (nmsN ms).length nc, .slice la ms.length lc, .slice fa fs.length fc]]) mixed ?_
      refine tP 0 ?_
      refine tL 1 (Rd.add (Rd.blk 0 rfl) _) ?_
      refine tP 2 ?_
      refine tP 3 ?_
      refine tL 4 (Rd.add (Rd.blk 1 rfl) _) ?_
      refine tP 5 ?_
      refine WA.take 6 rfl (by kernel_rfl) (by kernel_rfl) (by kernel_rfl) rfl rfl (by decide) (Yl.indexN tab_ok rfl rfl rfl rfl rfl rfl (fun _ => rfl) (by intro _; (try dsimp only) <;> omega) (by intro _; first | (rw [← hxl]; exact HasMem.ownD 1 rfl) | exact qI)) qS (by first | exact RLe.refl _ | assumption) ?_
      refine tP 7 ?_
      refine' WA.take 8 rfl qK qK qK rfl rfl qD (Yl.load1 tab_ok rfl rfl rfl (fun _ => rfl) ?r11 rfl ?h11) qS qR ?_
      case r11 => apply Rd.add; exact RS.rdD hfa hif
      case h11 => rfl
      refine WA.yl 9 rfl (by kernel_rfl) rfl rfl (by decide) (Yl.indexN tab_ok rfl rfl rfl rfl rfl rfl (fun _ => rfl) (by intro _; (try dsimp only) <;> omega) (by intro _; first | (rw [← hxl]; exact HasMem.ownD 1 rfl) | exact qI)) qS (by first | exact RLe.refl _ | assumption) ?_
      refine tP 10 ?_
      refine WA.effN 11 rfl (by kernel_rfl) rfl rfl (Ef.storeF (enc := encFl) (xs := xs1) (⟨(nth xs1 i).a1, (nth xs1 i).c1, (nth fs i).a2, (nth fs i).c2, (nth xs1 i).f⟩ : FlM) 1 tab_ok rfl rfl rfl rfl rfl (by omega) (by unfold encFl; rw [← hxf]; rfl) rfl (by decide) rfl ?_)
      refine ⟨qR, qS, ?_⟩
      refine WA.done qK ?_
      refine zL (zU (zG ?_))
      refine yA ?_
      refine zR 1 rfl (zN ?_)
      refine WE.again ((i + 1, xs1.set i (⟨(nth xs1 i).a1, (nth xs1 i).c1, (nth fs i).a2, (nth fs i).c2, (nth xs1 i).f⟩ : FlM))) (⟨by show i + 1 ≤ _; omega, by rw [List.length_set]; exact hxl, set_same hix hxs rfl, fun x hx => by
       rcases List.mem_or_eq_of_mem_set hx with h | h
       ·exact hxo x h
       ·rw [h]
        have g1 := hxo _ (nth_mem hix)
        have g2 := hfd _ (nth_mem hif)
        exact ⟨⟨g1.1.route, by show K.RS _ 1 encI _ (nth xs1 i).f.cv.vals; rw [hxf]; exact g2.1.vals, g1.1.len, g1.1.name⟩, by show (nth xs1 i).f.cv.vals.length ≤ _; rw [hxf]; exact g2.2.1.2⟩⟩) (by show fs.length - (i + 1) < fs.length - i; omega) ⟨rfl, rfl, rfl, rfl, rfl, rfl⟩ (RLe.refl _) qS
    ·try dsimp only at hc3
     obtain rfl : i = fs.length := by omega
     rw [← hxl]
     refine zX ?_
     refine wx (wx (zY (zU ?_)))
     refine W.freeze (enc := encFl) (xs := xs1) 1 rfl ?_
     intro R6 hR6 hxa
     have hG := hG.mono hR6
     have hna5 := hna5.mono hR6
     have hla5 := hla5.mono hR6
     have hom5 := fun m hm => (hom5 m hm).mono hR6
     have hxo := fun x hx => (hxo x hx).1.mono hR6
     have hmd := fun m hm => (⟨(hmd m hm).1.mono hR6, (hmd m hm).2⟩ : OkLn R6 m ∧ DrawP k m.L)
     have hfd := fun x hx => (⟨(hfd x hx).1.mono hR6, (hfd x hx).2⟩ : OkFl R6 x ∧ (x.f.route.length ≤ x.c1 ∧ x.f.cv.vals.length ≤ x.c2) ∧ DrawF k ms.length x.f)
     have hna := hna.mono hR6
     have hla := hla.mono hR6
     have hfa := hfa.mono hR6
     refine zQ (zG ?_)
     refine yL (Rd.blk 0 rfl) ?_
     refine WG.callV (v := .tuple #[.string (str (rowsT (rwN ms fs))), .int .i64 0]) en12 rfl rfl qD (CallOp.mk' rfl rfl rfl rfl) (fun _ => rfl) (fun hg => by
      have h := FmtN_V (nc := nc5) (lc := lc5) (fc := fc5) hG hna5 hla5 hxa hom5 hxo (fun x hx => by have := (nm4_len hx).1; omega)
      rw [hms, hxs, hfmt] at h
      exact h) ?_
     refine zR 5 rfl (zN (zU (zQ (zG (zR 3 rfl ?_)))))
     refine WL.guardT rfl (by first | rfl | simp) ?_
     refine yP ?_
     refine WL.guardT rfl (by first | rfl | simp) ?_
     refine yP ?_
     refine WL.guardT rfl (by first | rfl | simp) ?_
     refine WG.y rfl rfl qD (Yl.eqS rfl rfl rfl (fun _ => rfl)) ?_
     refine yN ?_
     refine zR 1 rfl ?_
     refine WL.guardT rfl (by first | rfl | simp) ?_
     refine yL (Rd.blk 0 rfl) ?_
     refine WL.guardT rfl (by first | rfl | simp) ?_
     refine yL (Rd.blk 1 rfl) ?_
     refine WL.guardT rfl (by first | rfl | simp) ?_
     refine WG.callV (v := .bool true) en21 rfl rfl qD (CallOp.mk' rfl rfl rfl rfl) (fun _ => rfl) (fun hg => SameN23_T hna5 hla5 hna hla hxa hfa hom5 (fun m hm => (hmd m hm).1) hxo (fun x hx => (hfd x hx).1) hms hxs) ?_
     refine yN ?_
     refine zR 1 rfl ?_
     refine WL.guardT rfl (by first | rfl | simp) ?_
     refine WL.callT en7 rfl rfl (by rfl) qD (CallOp.mk' rfl rfl rfl rfl) rfl (SaneG_C hG w0 _) ?_
     rintro _ R9 E9 hR9 ⟨rfl, hsub9⟩
     refine WL.subE hsub9 ?_
     refine yN ?_
     refine zR 1 rfl (zN (zU (zT ?_)))
     refine WE.retF tab_ok [_] rfl ⟨rfl, trivial⟩ (by first | assumption | exact RLe.refl _ | exact hR1.trans (hR5.trans (hR6.trans hR9))) ?_
     (show Value.bool _ = Value.bool true; simp)

end Go.Proofs.YtmidibkljoaoiaaGreatDoor

/- A law over a list of numbers: from its contract to its row. No condition. -/
namespace Go.Proofs.YtmidibkljoaoiaaGreatDoor.K
open Go Go.RowKit

theorem mem0 (W : World) : Mem W W (fun _ => none) [] :=
 ⟨Below.refl _ W, fun b cs h => (by cases h), fun e he => (by cases he), fun e he => (by cases he), List.Pairwise.nil⟩
theorem encI_flat : ∀ (zs : List Int), (zs.map encI).flatten = zs.map (Value.int .i64)
 | [] => rfl
 | z :: zs => by simp [encI, encI_flat zs]
theorem rs_of_ints {W : World} {a : Addr} {zs : List Int} (hcell : ∀ i, i < zs.length → W.cell? (a.add i) = some (.int .i64 (zs.getD i 0))) (hl : zs.length ≤ 9223372036854775807) :
  ∃ R, Mem W W R [] ∧ RS R 1 encI (some a) zs := by
 by_cases h0 : zs = []
 ·subst h0
  exact ⟨_, mem0 W, by simp, .inl rfl, by simp⟩
 ·have hpos : 0 < zs.length := List.length_pos_iff.2 h0
  have h1 := hcell 0 hpos
  unfold World.cell? at h1
  cases hh : W.heap[(a.add 0).block]? with
  | none => simp [hh] at h1
  | some o =>
   cases o with
   | cells arr T fz =>
    have hs : a.spot = none := by
     simp only [hh] at h1
     cases hsp : a.spot with
     | none => rfl
     | some x => simp [Addr.add, hsp] at h1
    have hb : (a.add 0).block = a.block := rfl
    rw [hb] at hh
    refine ⟨fun b => if b = a.block then some arr.toList else none, ⟨Below.refl _ W, fun b cs h => ?_, fun e he => (by cases he), fun e he => (by cases he), List.Pairwise.nil⟩, by simp [encI], .inr ⟨a.block, a.off, arr.toList, ?_, by simp, fun j v hv => ?_⟩, by simpa using hl⟩
    ·by_cases hba : b = a.block
     ·subst hba
      simp at h; subst h
      exact ⟨T, fz, by simpa using hh⟩
     ·simp [hba] at h
    ·cases a; simp only at hs; subst hs; rfl
    ·rw [encI_flat] at hv
     have hj : j < zs.length := by
      have := (List.getElem?_eq_some_iff.1 hv).1
      simpa using this
     have h2 := hcell j hj
     unfold World.cell? at h2
     have hbj : (a.add j).block = a.block := by unfold Addr.add; split <;> rfl
     have hsj : (a.add j).spot = a.spot := by unfold Addr.add; split <;> simp [hs]
     have hoj : (a.add j).off = a.off + j := by unfold Addr.add; split <;> simp [*]
     rw [hbj, hh] at h2
     simp only [hsj, hs, hoj] at h2
     rw [List.getElem?_map, List.getElem?_eq_getElem hj] at hv
     simp only [Option.map_some, Option.some.injEq] at hv
     subst hv
     have e1 : zs.getD j 0 = zs[j] := by simp [List.getD, List.getElem?_eq_getElem hj]
     rw [e1] at h2
     simpa using h2
   | _ => simp [hh] at h1

/-- a contract over a list of numbers, seen from outside -/
def LawI (P : Program) (f : FuncId) : Prop := ∀ {R : Ro} {a : Option Addr} {c : Nat} {xs : List Int}, RS R 1 encI a xs → xs.length ≤ c → ∀ w0, Fn P f [.slice a xs.length c] w0 R [] (fun v _ _ => v = .bool true)
theorem LawI.nil {P : Program} {f : FuncId} (h : LawI P f) (W : World) : Calls P f #[.slice none 0 0] W fun e W' => e = .returned (.bool true) ∧ Below W.heap.size W W' := by
 refine (h (R := fun _ => none) (a := none) (c := 0) (xs := []) ⟨by simp, .inl rfl, by simp⟩ (Nat.le_refl _) W W (mem0 W)).mono ?_
 rintro e w' ⟨v, R', E', rfl, _, hm, rfl⟩
 exact ⟨rfl, hm.below⟩
theorem LawI.some {P : Program} {f : FuncId} (h : LawI P f) {W : World} {a : Addr} {len cap : Nat} {zs : List Int} (hcell : ∀ i, i < zs.length → W.cell? (a.add i) = some (.int .i64 (zs.getD i 0))) (hl : zs.length ≤ 9223372036854775807) (hz : zs.length = cap) (hc : len ≤ cap) :
  Calls P f #[.slice (some a) len cap] W fun e W' => e = .returned (.bool true) ∧ Below W.heap.size W W' := by
 obtain ⟨R, hm, hr⟩ := rs_of_ints hcell hl
 have hr := hr.take len
 have hlen : (zs.take len).length = len := by simp; omega
 have := h (c := cap) hr (by omega) W W hm
 rw [hlen] at this
 refine this.mono ?_
 rintro e w' ⟨v, R', E', rfl, _, hm, rfl⟩
 exact ⟨rfl, hm.below⟩
end Go.Proofs.YtmidibkljoaoiaaGreatDoor.K

/- A law over any data: from its contract to its row. No condition. -/
namespace Go.Proofs.YtmidibkljoaoiaaGreatDoor.K
open Go Go.RowKit Go.ChangeShapes Go.WideShapes Go.ChangeAt Go.WideElems Go.Maps

/-- all that lies in memory, as what is read only -/
def roOf (W : World) : Ro := fun b => match W.heap[b]? with
  | some (.cells arr _ _) => some arr.toList
  | _ => none
theorem memAll (W : World) : Mem W W (roOf W) [] := by
 refine ⟨Below.refl _ W, fun b cs h => ?_, fun e he => (by cases he), fun e he => (by cases he), List.Pairwise.nil⟩
 unfold roOf at h
 split at h
 ·rename_i arr T fz hh
  simp only [Option.some.injEq] at h
  subst h
  exact ⟨T, fz, by simpa using hh⟩
 ·cases h
def ints (z : List Int) : List Value := z.map (Value.int .i64)
/-- rows of numbers that lie in memory -/
theorem rsl_of {W : World} {k : Nat} {a : Addr} {zss : List (List Int)} (hk : 0 < k) (hl : ∀ z ∈ zss, z.length = k) (hm : zss.length ≤ 9223372036854775807)
  (hc : ∀ i z, zss[i]? = some z → ∀ j v, (ints z)[j]? = some v → W.cell? (a.add (i * k + j)) = some v) : RSl (roOf W) k (some a) (zss.map ints) := by
 have hlen : ∀ r ∈ zss.map ints, r.length = k := fun r hr => by
  obtain ⟨z, hz, rfl⟩ := List.mem_map.1 hr
  simp [ints, hl z hz]
 by_cases h0 : zss = []
 ·subst h0
  exact ⟨by simp, .inl rfl, by simp⟩
 ·have hpos : 0 < zss.length := List.length_pos_iff.2 h0
  have hz0 : (ints zss[0]).length = k := by simp [ints, hl _ (List.getElem_mem hpos)]
  have h1 := hc 0 zss[0] (List.getElem?_eq_getElem hpos) 0 ((ints zss[0])[0]'(by omega)) (List.getElem?_eq_getElem (by omega))
  rw [Nat.zero_mul, Nat.zero_add] at h1
  unfold World.cell? at h1
  cases hh : W.heap[(a.add 0).block]? with
  | none => simp [hh] at h1
  | some o =>
   cases o with
   | cells arr T fz =>
    have hs : a.spot = none := by
     simp only [hh] at h1
     cases hsp : a.spot with
     | none => rfl
     | some x => simp [Addr.add, hsp] at h1
    have hb : (a.add 0).block = a.block := rfl
    rw [hb] at hh
    refine ⟨hlen, .inr ⟨a.block, a.off, arr.toList, ?_, ?_, fun m v hv => ?_⟩, by simpa using hm⟩
    ·cases a; simp only at hs; subst hs; rfl
    ·unfold roOf; rw [hh]
    ·have hmlt : m < (zss.map ints).flatten.length := (List.getElem?_eq_some_iff.1 hv).1
     rw [flatten_len hlen, List.length_map] at hmlt
     have hi : m / k < zss.length := Nat.div_lt_of_lt_mul (by rw [Nat.mul_comm]; exact hmlt)
     have hj : m % k < k := Nat.mod_lt _ hk
     have hzi := hl _ (List.getElem_mem hi)
     have hg := flatten_get hlen (i := m / k) (j := m % k) (row := ints zss[m / k]) (v := (ints zss[m / k])[m % k]'(by simp [ints, hzi, hj])) (by rw [List.getElem?_map, List.getElem?_eq_getElem hi]; rfl) (List.getElem?_eq_getElem _)
     have hme : m / k * k + m % k = m := by rw [Nat.mul_comm]; exact Nat.div_add_mod m k
     rw [hme, hv] at hg
     have hv' : v = (ints zss[m / k])[m % k]'(by simp [ints, hzi, hj]) := by simpa using hg
     have h2 := hc (m / k) _ (List.getElem?_eq_getElem hi) (m % k) v (by rw [hv']; exact List.getElem?_eq_getElem _)
     rw [hme] at h2
     unfold World.cell? at h2
     have hbj : (a.add m).block = a.block := by unfold Addr.add; split <;> rfl
     have hsj : (a.add m).spot = a.spot := by unfold Addr.add; split <;> simp [hs]
     have hoj : (a.add m).off = a.off + m := by unfold Addr.add; split <;> simp [*]
     rw [hbj, hh] at h2
     simp only [hsj, hs, hoj] at h2
     simpa using h2
   | _ => simp [hh] at h1

section
variable {H : Type} {enc : TypeId × Value → H} {P : Program} {W : World} {spare : Nat → Bool}
/-- elements that are k numbers -/
def Flat (enc : TypeId × Value → H) (P : Program) (e k : Nat) : Prop := ∀ (W : World) (spare : Nat → Bool) (fuel : Nat) (cs : List Value) (x : DataW H × List MemPlace), DataW.trod enc P W 0 spare true fuel e cs = some x → ∃ z : List Int, z.length = k ∧ cs = ints z ∧ ∀ n ∈ z, InR n
theorem flat_int {e : Nat} (he : P.underlying e = some (.int .i64)) : Flat enc P e 1 := by
 intro W spare fuel cs x h
 obtain ⟨n, rfl, _, hw⟩ := DataW.trod_int he h
 exact ⟨[n], rfl, rfl, fun m hm => (by
  have e : m = n := by simpa using hm
  rw [e]; exact bounds_i64 hw)⟩
theorem open_flat {t e k : Nat} {v : Value} {d : DataW H} {ps : List MemPlace} (ht : P.underlying t = some (.slice e)) (hk : 0 < k) (hce : P.cellsOf e = k) (hfl : Flat enc P e k)
  (hval : Value.okWide P W .any 0 t v) (h : DataW.Trod enc P W 0 spare true t v d ps) :
  ∃ (a : Option Addr) (cap : Nat) (zss : List (List Int)), v = .slice a zss.length cap ∧ zss.length ≤ cap ∧ (∀ z ∈ zss, z.length = k) ∧ RSl (roOf W) k a (zss.map ints) ∧ ∀ z ∈ zss, ∀ n ∈ z, InR n := by
 obtain ⟨a0, len, cap, rfl⟩ := okWide_slice ht hval
 obtain ⟨fuel, hf⟩ := h
 rcases Go.Deep.open_slice ht hf with ⟨hcs, _⟩ | ⟨a, len', cap', m, n, D, Pl, hcs, _, hl, hm, hmm, _, hx⟩
 ·simp [Value.cells] at hcs
  obtain ⟨rfl, rfl, rfl⟩ := hcs
  exact ⟨none, 0, [], rfl, Nat.le_refl _, by simp, ⟨by simp, .inl rfl, by simp⟩, by simp⟩
 ·simp [Value.cells] at hcs
  obtain ⟨rfl, rfl, rfl⟩ := hcs
  have hlm : len ≤ m := by rw [hmm]; split <;> omega
  have each : ∀ i, i < len → ∃ z : List Int, z.length = k ∧ (∀ j v, (ints z)[j]? = some v → W.cell? (a.add (i * k + j)) = some v) ∧ ∀ n ∈ z, InR n := by
   intro i hi
   obtain ⟨cs', h1, h2⟩ := hx i (by omega)
   rw [hce] at h1
   obtain ⟨_, hlen, hcell⟩ := World.cells?_some h1
   obtain ⟨z, hz, rfl, hr⟩ := hfl W spare n cs' _ h2
   refine ⟨z, hz, fun j v hj => ?_, hr⟩
   have hjk : j < k := by have := (List.getElem?_eq_some_iff.1 hj).1; simp [ints, hz] at this; exact this
   have := hcell j hjk
   rw [addr_add_add] at this
   rw [this, hj]
  have hch : ∃ f : Nat → List Int, ∀ i, i < len → (f i).length = k ∧ (∀ j v, (ints (f i))[j]? = some v → W.cell? (a.add (i * k + j)) = some v) ∧ ∀ n ∈ f i, InR n :=
   ⟨fun i => if h : i < len then (each i h).choose else [], fun i hi => by simp only [hi, dif_pos]; exact (each i hi).choose_spec⟩
  obtain ⟨f, hf'⟩ := hch
  have hlen : ((List.range len).map f).length = len := by simp
  refine ⟨some a, cap, (List.range len).map f, by rw [hlen], by rw [hlen]; exact hl, fun z hz => ?_, ?_, fun z hz => ?_⟩
  ·obtain ⟨i, hi, rfl⟩ := List.mem_map.1 hz
   exact (hf' i (by simpa using hi)).1
  ·refine rsl_of hk (fun z hz => ?_) (by rw [hlen]; simp only [maxLen] at hm; omega) (fun i z hi => ?_)
   ·obtain ⟨i, hi, rfl⟩ := List.mem_map.1 hz
    exact (hf' i (by simpa using hi)).1
   ·have hil : i < len := by have := (List.getElem?_eq_some_iff.1 hi).1; simpa using this
    have : z = f i := by simp [List.getElem?_map, hil] at hi; exact hi.symm
    subst this
    exact (hf' i hil).2.1
  ·obtain ⟨i, hi, rfl⟩ := List.mem_map.1 hz
   exact (hf' i (by simpa using hi)).2.2

/-- typed -/
theorem RS.ofFlat {α : Type} {_i : Inhabited α} {R : Ro} {k : Nat} {en : α → List Value} {dec : List Int → α} {a : Option Addr} {zss : List (List Int)} (h : RSl R k a (zss.map ints)) (hl : ∀ z ∈ zss, z.length = k) (hd : ∀ z : List Int, z.length = k → en (dec z) = ints z) :
  RS (_i := _i) R k en a (zss.map dec) := by
 unfold RS
 have : (zss.map dec).map en = zss.map ints := by
  rw [List.map_map]
  exact List.map_congr_left fun z hz => hd z (hl z hz)
 rw [this]; exact h

theorem carryAll (hl : laidOutB P = true) {W W' : World} : ∀ {ts : List TypeId} {vs : List Value} {ds : List (DataW H)} {ps : List MemPlace}, ts.all (fun t => P.readableRec t && decide (t < P.types.size)) = true → DataW.TrodAll enc P W 0 (fun _ => true) true ts vs ds ps → Below W.heap.size W W' → (∀ x ∈ ps, x.block < W.heap.size) →
  DataW.TrodAll enc P W' 0 (fun b => decide (b < W.heap.size)) true ts vs ds ps
 | [], vs, ds, ps, _, h, _, _ => by
  obtain ⟨rfl, rfl, rfl⟩ := trodAll_nil h
  exact trodAll_mk0
 | t :: ts, vs, ds, ps, hr, h, hb, hlt => by
  obtain ⟨v, vs', d, ds', p, q, rfl, rfl, rfl, h1, h2⟩ := trodAll_cons h
  simp only [List.all_cons, Bool.and_eq_true, decide_eq_true_eq] at hr
  exact ⟨p, q, Below.trod hl hr.1.1 hr.1.2 h1 hb (fun x hx => hlt x (by simp [hx])), carryAll hl (by simpa using hr.2) h2 hb (fun x hx => hlt x (by simp [hx])), rfl⟩
end
/-- a contract, seen from outside -/
theorem lift_calls {P : Program} {f : FuncId} {args : List Value} {W : World} (h : Fn P f args W (roOf W) [] (fun v _ _ => v = .bool true)) : Calls P f args.toArray W fun e W' => e = .returned (.bool true) ∧ Below W.heap.size W W' := by
 refine (h W (memAll W)).mono ?_
 rintro e w' ⟨v, R', E', rfl, _, hm, rfl⟩
 exact ⟨rfl, hm.below⟩
def decI (z : List Int) : Int := z.headD 0
theorem decI_enc : ∀ z : List Int, z.length = 1 → encI (decI z) = ints z
 | [x], _ => rfl
 | [], h => by simp at h
 | _ :: _ :: _, h => by simp at h
def decP : List Int → M.Pkt
  | [a, b, c] => ⟨a, b, c⟩
  | _ => ⟨0, 0, 0⟩
end Go.Proofs.YtmidibkljoaoiaaGreatDoor.K

/- Any flat data: a law whose road reads package-level variables: all that exists when the call begins is read only; the builder that hands on the list of the variables and the shape of the world. No condition. -/
namespace Go.Proofs.YtmidibkljoaoiaaGreatDoor.K
open Go Go.RowKit

theorem ro_cell {W : World} {b : Nat} {v : Value} (h : W.cell? ⟨b, 0, none⟩ = some v) : ∃ rest, roOf W b = some (v :: rest) := by
 unfold World.cell? at h
 unfold roOf
 cases hh : W.heap[b]? with
 | none => simp [hh] at h
 | some o =>
  cases o with
  | cells arr T fz =>
   simp only [hh] at h ⊢
   obtain ⟨l⟩ := arr
   cases l with
   | nil => simp at h
   | cons x l => simp at h; subst h; exact ⟨l, rfl⟩
  | _ => simp [hh] at h
theorem ro_var {P : Program} {W : World} {name : String} {g : Nat} {cs : Array Value} (hg : P.globalNamed name = some g) (h : W.var? P name = some cs) : roOf W g = some cs.toList := by
 unfold World.var? at h
 simp only [hg, Option.bind_some] at h
 unfold roOf
 split at h
 ·simp only [Option.some.injEq] at h; subst h; simp [*]
 ·cases h

theorem returnsInHanded_laidB {H : Type} {enc : TypeId × Value → H} {a : Assume} {C : Checked} {os : Os} {f : FuncId} {fn : Func} {s : ChangeSpec} {conds : List PathCond} {apart fresh handsOn again : Bool} {X : World → Array Value → Prop}
  (hX : ∀ (w w' : World) (args : Array Value), w.heap = w'.heap → X w args → X w' args)
  (own : ownKnob C.prog.godebug = none) (started : os.Started) (noInit : C.prog.inits.idxOf? f = none) (hfn : C.prog.funcs[f]? = some fn)
  (witness : ∃ (w : World) (tape : Tape) (i : Input), w.os = os ∧ (w.forCall tape i).Shaped C.prog ∧ i.vars = [] ∧ Input.okWide C.prog (w.forCall tape i) .any w.heap.size f i ∧
   ((s.pre enc C.prog fn conds apart (w.forCall tape i).memory i.args ∧ X (w.forCall tape i).memory i.args) ∧ sizedMet enc C.prog fn (OpenSpec.ofChange s) apart (w.forCall tape i).memory i.args) ∧ a.holds C.prog (lone (Frame.enter C.prog f i.args .normal) [] (w.forCall tape i)))
  (contract : ∀ (W : World) (base : Nat) (args : Array Value) (ds gs : List (DataW H)) (before : List MemPlace),
   (∀ (j : Nat) t v, fn.params[j]? = some t → args[j]? = some v → Value.okWide C.prog W .any base t v) →
   DataW.Whole enc C.prog fn.params.toList s.vars apart W args.toList ds gs before →
   conds.all (PathCond.test C.prog ⟨fn.params.toList, ds, s.plain.varTypes C.prog, gs⟩) = true →
   X W args → W.ShapedOpen C.prog →
   Calls C.prog f args W fun e W' => ∃ v, e = .returned v ∧ s.post enc C.prog fn apart fresh handsOn again W args v W') :
  ReturnsInHanded a C os f .any (fun w args => (s.pre enc C.prog fn conds apart w args ∧ X w args) ∧ sizedMet enc C.prog fn (OpenSpec.ofChange s) apart w args) (s.post enc C.prog fn apart fresh handsOn again) := by
 refine returnsInHanded_of_calls own started noInit witness ?_
 intro w tape i _ hsh _ hok hpre hholds
 obtain ⟨_, _, _, fn', hfn', _, _, _, _, hval⟩ := hok
 have e : fn' = fn := Option.some.inj (hfn'.symm.trans hfn)
 subst e
 obtain ⟨⟨⟨ds, gs, before, hw, hc⟩, hx⟩, hz⟩ := hpre
 have hw' := DataW.Whole.of_heap (w' := w.forCall tape i) (by rfl) hw
 refine (contract (w.forCall tape i) w.heap.size i.args ds gs before hval hw' hc (hX _ _ _ (by rfl) hx) hsh).mono fun e W' ⟨v, he, hp⟩ => ?_
 subst he
 exact ChangeSpec.post_blind hp
end Go.Proofs.YtmidibkljoaoiaaGreatDoor.K

/- From the list of the variables to what the walks know of them. No condition. -/
namespace Go.Proofs.YtmidibkljoaoiaaGreatDoor
open Go Go.RowKit Go.Proofs.YtmidibkljoaoiaaGreatDoor.K
theorem starE : "*" ++ "errors.errorString" = "*errors.errorString" := by decide
def laidJ : List (String × DataW Unit) := Rows.nettextBackRow.laid
theorem glob_ofJ {W : World} (hsh : W.ShapedOpen Tryz.prog) (hL : laidMetH Tryz.prog laidJ W) : GlobE (roOf W) := by
 unfold laidJ Rows.nettextBackRow at hL
 dsimp only at hL
 rw [MakeChecks.laidMetH_plain _ _ _ (by kernel_rfl)] at hL
 have h3 := hL.tail.tail
 have ht : (Rows.laid_internal_strconv_uint64pow10 : DataW Unit) = Lib.tabData .u64 Lib.pow10Tab := by kernel_rfl
 have h3b := h3
 rw [ht] at h3b
 have h4 := Lib.tabIs_of_head (g := 1) (t := 168) (e := 150) (n := 20) (by kernel_rfl) (by kernel_rfl) Tryz.underlying168 Tryz.underlying150 (by kernel_rfl) (by kernel_rfl) h3b
 have h5 := ro_var (P := Tryz.prog) (g := 1) (by kernel_rfl) h4
 have h6 := h3.tail.tail
 have h7 := h6.tail
 have hrow : ∀ u, Tryz.prog.typeName? 3 u = some "*errors.errorString" → u = 193 := fun u hu => typeName_ptr_named (P := Tryz.prog) (nm := "errors.errorString") (by rw [starE]; kernel_rfl) (by kernel_rfl) (by decide) u (by rw [starE]; exact hu)
 obtain ⟨a1, s1, e1, _, _, _⟩ := laid_sentinel (g := 7) (ti := 77) (tp := 193) (te := 195) (ts := 9) h6 (by kernel_rfl) (by kernel_rfl) Tryz.underlying77 hrow Tryz.underlying193 Tryz.underlying195 rfl rfl Tryz.underlying9 (by kernel_rfl) (by kernel_rfl)
 obtain ⟨a2, s2, e2, _, _, _⟩ := laid_sentinel (g := 6) (ti := 77) (tp := 193) (te := 195) (ts := 9) h7 (by kernel_rfl) (by kernel_rfl) Tryz.underlying77 hrow Tryz.underlying193 Tryz.underlying195 rfl rfl Tryz.underlying9 (by kernel_rfl) (by kernel_rfl)
 obtain ⟨m, hm⟩ := Go.Proofs.cell_of_shapedOpen_int (g := 0) (zero := #[.int .i64 0]) (t := 3) hsh (of_decide_eq_true (by kernel_rfl)) (by kernel_rfl) rfl (by kernel_rfl) (by kernel_rfl) Tryz.underlying3
 obtain ⟨rest, hr⟩ := ro_cell hm
 refine ⟨⟨m, rest, hr⟩, ?_, ?_, ?_⟩
 ·rw [h5]
 ·exact ⟨_, _, ro_var (P := Tryz.prog) (g := 6) (by kernel_rfl) e2⟩
 ·exact ⟨_, _, ro_var (P := Tryz.prog) (g := 7) (by kernel_rfl) e1⟩
end Go.Proofs.YtmidibkljoaoiaaGreatDoor

/- NettextBack: for every input the law returns true, and the input reads afterwards as it read before; the listed variables of the library start as its text lays them. -/
namespace Go.Proofs.YtmidibkljoaoiaaGreatDoor
open Go Go.RowKit Go.ChangeShapes Go.WideShapes Go.ChangeAt Go.WideElems Go.Maps Go.Proofs.YtmidibkljoaoiaaGreatDoor.K Go.Proofs.YtmidibkljoaoiaaGreatDoor.M
open Go.ChangeMaps (open_string shut_string)
namespace nettextBack
theorem own : ownKnob Tryz.prog.godebug = none := by kernel_rfl
theorem laidOut : laidOutB Tryz.prog = true := by kernel_rfl
theorem readable : (Tryz.f4.params.toList).all (fun t => Tryz.prog.readableRec t && decide (t < Tryz.prog.types.size)) = true := by kernel_rfl
section
variable {H : Type} {enc : TypeId × Value → H}
theorem flat_ints : Flat enc Tryz.prog 3 1 := flat_int Tryz.underlying3
theorem cells_ints : Tryz.prog.cellsOf 3 = 1 := by kernel_rfl
end
set_option maxRecDepth 100000 in
theorem lifted (os : Os) (started : os.Started) (H : Type) (enc : TypeId × Value → H) :
  ReturnsInHanded {} Tryz.checked os 4 .any (fun w args => (Rows.nettextBackSpec.pre enc Tryz.prog Tryz.f4 [] false w args ∧ laidMetH Tryz.prog laidJ w) ∧ sizedMet enc Tryz.prog Tryz.f4 (OpenSpec.ofChange Rows.nettextBackSpec) false w args)
   (Rows.nettextBackSpec.post enc Tryz.prog Tryz.f4 false true false false) := by
 refine returnsInHanded_laidB (C := Tryz.checked) (X := fun w _ => laidMetH Tryz.prog laidJ w) (fun _ _ _ hh h => h.of_heap hh) own started (by kernel_rfl) Tryz.func4
  (ChangeSpec.witness_shaped (enc := enc) (C := Tryz.checked) (os := os) (X := fun w _ => laidMetH Tryz.prog laidJ w) false (World.laidAll Tryz.prog os laidJ) #[.slice none 0 0] 8 (World.laidAll_os _ _ _)
   (World.shaped_of_ZipB (by kernel_rfl) (by kernel_rfl)) (by kernel_rfl) (by kernel_rfl) (by kernel_rfl)
   (by rw [MakeChecks.laidMetH_plain _ _ _ (by kernel_rfl)]; exact laidMet_laidAll _ (by kernel_rfl) (by kernel_rfl))) ?_
 intro W base args ds gs before hval0 hW _ hL hsh
 have hG := glob_ofJ hsh hL
 have hval : ∀ (j : Nat) t v, Tryz.f4.params[j]? = some t → args[j]? = some v → Value.okWide Tryz.prog W .any base t v := hval0
 have hW' := hW
 obtain ⟨p, q, hA0, hV, rfl, _, _⟩ := hW
 have hA : DataW.TrodAll enc Tryz.prog W 0 (fun _ => true) true Tryz.f4.params.toList args.toList ds p := hA0
 have hA1 := hA
 obtain ⟨rfl, rfl⟩ := trodVars_none hV
 simp only [List.append_nil] at hW'
 have hlt : ∀ x ∈ p, x.block < W.heap.size := fun x hx => by simpa using hW'.lt x hx
 have hcarry : ∀ W', Below W.heap.size W W' → DataW.TrodAll enc Tryz.prog W' 0 (fun b => decide (b < W.heap.size)) true Tryz.f4.params.toList args.toList ds p := fun W' hb => carryAll laidOut readable hA1 hb hlt
 clear hA0 hval0 hA1
 rw [Tryz.params4] at hA
 obtain ⟨v0, vs0, d0, ds0, p0, q0, e0, rfl, e20, h0, t0⟩ := trodAll_cons hA
 obtain ⟨rfl, rfl, _⟩ := trodAll_nil t0
 have hargs : args = #[v0] := by rw [← Array.toArray_toList (xs := args), e0]
 subst hargs
 obtain ⟨a0, cp0, zs0, rfl, c0, l0, m0, r0⟩ := open_flat Tryz.underlying22 (by decide) cells_ints flat_ints (hval 0 22 _ rfl rfl) h0
 have g0 : RS (roOf W) 1 encI a0 (zs0.map decI) := RS.ofFlat m0 l0 decI_enc
 have n0 : (zs0.map decI).length = zs0.length := by simp
 rw [← n0] at c0
 have hcall := lift_calls (P := Tryz.prog) (f := 4) (args := [.slice a0 (zs0.map decI).length cp0]) (W := W) (NettextBack_F g0 hG c0 W)
 try simp only [List.length_map] at hcall
 refine hcall.mono fun e W' ⟨he, hb⟩ => ?_
 subst he
 exact ⟨_, rfl, ⟨_, _, _, [], _, [], hW', trodAll_mk1 (shut_bool Tryz.underlying4 _), hcarry W' hb, rfl, hb.frame _, fun h => by cases h⟩⟩
end nettextBack
theorem nettextBack_holds : Rows.NettextBackSaid :=
 OpenClaim.holds_of_wide 4 Tryz.f4 rfl rfl rfl rfl rfl rfl rfl ⟨rfl, rfl, rfl, rfl, rfl⟩ rfl rfl rfl rfl rfl (by kernel_rfl) Tryz.func4 (by kernel_rfl)
  (of_decide_eq_true (by kernel_rfl)) (by unfold Func.isWrapper; first | (rw [if_pos (by decide +kernel)]; kernel_rfl) | (rw [if_neg (by decide +kernel)]; exact ⟨rfl, rfl⟩))
  (fun os started H enc _ => nettextBack.lifted os started H enc)
theorem nettextBack_card : Rows.NettextBackCardSaid :=
 Claim7.holds_tied_plain_at .later [] [.data, .data, .data, .data, .sentinel, .sentinel, .pinned] true (true, "a8ab417d27d32975a5500058816fde3c7ee168de5f4d2e0157cc9cb094bec51d") true
  nettextBack_holds (fun _ h => by cases h) (by kernel_rfl) (fun _ h => by cases h) nettextBack_row_tie rfl ⟨rfl, rfl⟩ (by kernel_rfl) rfl
  (fun f fn hf hfn => by
   obtain rfl : f = 4 := Option.some.inj ((show Tryz.prog.funcNamed Tryz.f4.name = some 4 by kernel_rfl).symm.trans hf) |>.symm
   obtain rfl : fn = Tryz.f4 := (Option.some.inj (Tryz.func4.symm.trans hfn)).symm
   exact ⟨by kernel_rfl, fun j t ht => by
    rw [Tryz.params4] at ht
    have hm : t ∈ [22] := by simpa using Array.mem_of_getElem? ht
    have hall : ([22].all fun u => !Tryz.prog.wantsStandIn u) = true := by kernel_rfl
    exact (show Tryz.prog.wantsStandIn t = false by simpa using List.all_eq_true.1 hall t hm)⟩)
  (by kernel_rfl)
end Go.Proofs.YtmidibkljoaoiaaGreatDoor
