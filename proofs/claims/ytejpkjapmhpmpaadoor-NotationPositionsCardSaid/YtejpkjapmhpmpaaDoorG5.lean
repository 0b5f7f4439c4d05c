/- NotationPositions: for every input the law returns true, and the input reads afterwards as it read before; the listed variables of the library start as its text lays them. -/
import Derived.Test.YtejpkjapmhpmpaaDoorG4
import Derived.Shelf.Strconv.AppendIntPublic10
import Derived.Shelf.Strconv.AtoiAll
import Derived.Shelf.Strconv.ErrVarAll
import Derived.Shelf.Strings.SplitShaped
import Derived.Shelf.Strings.Shaped
import Derived.Shelf.Strings.Split
import Derived.Shelf.Strings.Cut
import Derived.Lib.Split
import Derived.Test.YtejpkjapmhpmpaaDoorRows
import Derived.ProofKit
import Derived.SizedLaws
import Derived.Maps.OwnSet
import Derived.WideKeyElems2
import Derived.Carry
import Derived.Deep.Slices
import Derived.OpenShut
import Derived.Handed
import Derived.HandedShaped
import Derived.LaidMore
import Derived.LaidHandle
import Derived.LaidLaws
import Derived.MakeChecks
import Derived.Stop.LaidErr
import Derived.Lib.LaidTab
import Derived.Shelf.Vars
import Derived.Test.YtejpkjapmhpmpaaDoorTie
import Derived.Test.YtejpkjapmhpmpaaDoorCards
import Derived.SevenTiedAt
import Derived.Stop.Joined
import Derived.Lay
/- Any valid curve in the program. No condition. -/
set_option maxRecDepth 4000
set_option linter.unusedSimpArgs false
set_option linter.unusedVariables false
namespace Go.Proofs.YtejpkjapmhpmpaaDoor
open Go Go.RowKit Go.Proofs.YtejpkjapmhpmpaaDoor.K Go.Proofs.YtejpkjapmhpmpaaDoor.M

theorem CValidG_V {R : Ro} {fa : Option Addr} {fc : Nat} {c : Cv} (ha : RS R 1 encI fa c.vals) (hl : c.vals.length ≤ 100000) : FnV Tryd.prog 39 [.agg #[.slice fa c.vals.length fc, .int .i64 c.per, .int .i64 c.inc]] R (.bool (validB c)) := by
 refine Fn.toV (fun w0 E => ?_)
 refine fE 85 Tryd.func39 ?_
 refine zQ (zG ?_)
 refine zO fun b1 => ?_
 refine zR 1 rfl (zN (zU (zQ (zG (zR 1 rfl ?_)))))
 refine' WG.y rfl rfl qD (Yl.load1 tab_ok rfl rfl rfl (fun _ => rfl) ?r1 rfl ?h1) ?_
 case r1 => apply Rd.add; (first | exact Rd.blk 0 rfl | exact Rd.blk 1 rfl)
 case h1 => rfl
 refine zR 2 rfl (zN (zU (zQ (zQ (zG (zR 3 rfl ?_))))))
 refine yP ?_
 refine yP ?_
 refine yO ?_
 refine zR 1 rfl ?_
 refine yP ?_
 refine' WG.y rfl rfl qD (Yl.loadG tab_ok rfl rfl rfl qE ?r2 rfl ?h2 ?g2) ?_
 case r2 => apply Rd.addC; (first | exact Rd.blkC 0 rfl | exact Rd.blkC 1 rfl)
 case h2 => rfl
 case g2 => first | exact fun _ => trivial | (intro hg; (try simp only [zk] at hg); (try dsimp only); omega)
 refine yP ?_
 refine yO ?_
 refine zR 1 rfl ?_
 refine yP ?_
 refine' WG.y rfl rfl qD (Yl.loadG tab_ok rfl rfl rfl qE ?r3 rfl ?h3 ?g3) ?_
 case r3 => apply Rd.addC; (first | exact Rd.blkC 0 rfl | exact Rd.blkC 1 rfl)
 case h3 => rfl
 case g3 => first | exact fun _ => trivial | (intro hg; (try simp only [zk] at hg); (try dsimp only); omega)
 refine yP ?_
 refine yO ?_
 refine zR 1 rfl ?_
 refine yP ?_
 refine' WG.y rfl rfl qD (Yl.loadG tab_ok rfl rfl rfl qE ?r4 rfl ?h4 ?g4) ?_
 case r4 => apply Rd.addC; (first | exact Rd.blkC 0 rfl | exact Rd.blkC 1 rfl)
 case h4 => rfl
 case g4 => first | exact fun _ => trivial | (intro hg; (try simp only [zk] at hg); (try dsimp only); omega)
 refine yP ?_
 refine yP ?_
 refine yO ?_
 refine zR 1 rfl ?_
 refine yP ?_
 refine' WG.y rfl rfl qD (Yl.loadG tab_ok rfl rfl rfl qE ?r5 rfl ?h5 ?g5) ?_
 case r5 => apply Rd.addC; (first | exact Rd.blkC 0 rfl | exact Rd.blkC 1 rfl)
 case h5 => rfl
 case g5 => first | exact fun _ => trivial | (intro hg; (try simp only [zk] at hg); (try dsimp only); omega)
 refine yP ?_
 refine yO ?_
 refine zR 1 rfl ?_
 refine yP ?_
 refine' WG.y rfl rfl qD (Yl.loadG tab_ok rfl rfl rfl qE ?r6 rfl ?h6 ?g6) ?_
 case r6 => apply Rd.addC; (first | exact Rd.blkC 0 rfl | exact Rd.blkC 1 rfl)
 case h6 => rfl
 case g6 => first | exact fun _ => trivial | (intro hg; (try simp only [zk] at hg); (try dsimp only); omega)
 refine yP ?_
 refine yO ?_
 refine zN (zU ?_)
 refine W.cond rfl (fun hc0 => ?_) (fun hc0 => ?_)
 ·try simp only [zk] at hc0
  have hno : validB c = false := validB_false (fun h => by obtain ⟨⟨a1, a2, a3, a4, a5, a6, a7⟩, _⟩ := h; unfold MAXV at a7; omega)
  refine zQ (zG (zR 1 rfl (zN (zU (zT (wt ?_))))))
  refine sE (E := E) ?_
  refine WE.retF tab_ok [_] rfl ⟨rfl, trivial⟩ (RLe.refl _) ?_
  exact ⟨by rw [hno]; rfl, rfl⟩
 ·try simp only [zk] at hc0
  have hall : 1 ≤ c.vals.length ∧ c.vals.length ≤ 400 ∧ 1 ≤ c.per ∧ c.per ≤ 120 ∧ c.per ≤ c.vals.length ∧ 0 ≤ c.inc ∧ c.inc ≤ MAXV := by unfold MAXV; omega
  refine zK (zU (zQ (zG (zR 1 rfl (zN (zU (zQ (zQ (zG (zR 1 rfl ?_))))))))))
  refine' WG.y rfl rfl qD (Yl.load1 tab_ok rfl rfl rfl (fun _ => rfl) ?r7 rfl ?h7) ?_
  case r7 => apply Rd.add; (first | exact Rd.blk 0 rfl | exact Rd.blk 1 rfl)
  case h7 => rfl
  refine zR 2 rfl (zN (zU (zB ?_)))
  refine W.loopK (β := Nat) (fun t => t ≤ c.vals.length ∧ ∀ i, i < t → (nth c.vals i = INF ∨ (0 ≤ nth c.vals i ∧ nth c.vals i ≤ MAXV)) ∧ (i = 0 ∨ nth c.vals (i - 1) ≤ nth c.vals i)) (fun t => [(4, true, .int .i64 (lastV c.vals t)), (45, true, .int .i64 (t : Int))]) [1, 3, 43, 44] [_, _, _, _] [] _ rfl (fun t => []) (fun t => c.vals.length - t) (0) (⟨Nat.zero_le _, fun i hi => by omega⟩) ⟨rfl, rfl, rfl, rfl, rfl, rfl, rfl⟩ qS ?_
  intro t hst
  dsimp only [zipE, setAll, List.cons_append, List.nil_append, List.set_cons_zero, List.set_cons_succ] at hst ⊢
  have hlast : 0 ≤ lastV c.vals t ∧ (lastV c.vals t = INF ∨ lastV c.vals t ≤ MAXV) := by
   unfold lastV
   by_cases h : t = 0
   ·rw [if_pos h]; exact ⟨Int.le_refl _, .inr (by decide)⟩
   ·rw [if_neg h]
    have := (hst.2 (t - 1) (by omega)).1
    unfold INF MAXV at this ⊢
    omega
  refine zQ (zG (zR 1 rfl (zN (zU (zQ ?_)))))
  refine W.condD rfl (fun hc1 => ?_) (fun hc1 => ?_)
  ·try dsimp only at hc1
   have htl : t < c.vals.length := by omega
   refine zK (zU (zQ (zB (zQ (zG ?_)))))
   refine WG.y rfl rfl qD (Yl.indexN tab_ok rfl rfl rfl rfl rfl rfl (fun _ => rfl) qN qH) ?_
   refine' WG.y rfl rfl qD (Yl.load1 tab_ok rfl rfl rfl (fun _ => rfl) ?r8 rfl ?h8) ?_
   case r8 => (first | (apply RS.rdD; assumption; ((try dsimp only) <;> omega)) | exact Rd.slD 0 rfl qX | exact Rd.slD 1 rfl qX)
   case h8 => rfl
   refine zR 1 rfl (zN (zU (zQ (zQ (zG (zR 4 rfl ?_))))))
   refine yP ?_
   refine yP ?_
   refine yP ?_
   refine yP ?_
   refine yP ?_
   refine yN ?_
   refine yO ?_
   refine zN (zU ?_)
   refine W.cond rfl (fun hc2 => ?_) (fun hc2 => ?_)
   ·try simp only [zk] at hc2
    have hno : validB c = false := validB_false (fun h => by
     have h2 := h.2.1 t htl
     unfold lastV at hc2
     unfold INF MAXV at h2
     rcases hc2 with x | x
     ·split at x
      ·omega
      ·have := h2.2.resolve_left (by omega)
       omega
     ·omega)
    refine zQ (zG (zR 1 rfl (zN (zU (zT (wt (wb (wt (wt (wb (wt ?_)))))))))))
    refine sE (E := E) ?_
    refine WE.retF tab_ok [_] rfl ⟨rfl, trivial⟩ (RLe.refl _) ?_
    exact ⟨by rw [hno]; rfl, rfl⟩
   ·try simp only [zk] at hc2
    have hy : (nth c.vals t = INF ∨ (0 ≤ nth c.vals t ∧ nth c.vals t ≤ MAXV)) ∧ (t = 0 ∨ nth c.vals (t - 1) ≤ nth c.vals t) := by
     unfold INF MAXV
     have hle : lastV c.vals t ≤ nth c.vals t := by omega
     refine ⟨by omega, ?_⟩
     unfold lastV at hle
     by_cases h : t = 0
     ·exact .inl h
     ·rw [if_neg h] at hle; exact .inr hle
    refine zK (zU (zG (zR 2 rfl (zN (zL (zU (zG ?_)))))))
    refine yA ?_
    refine zR 1 rfl (zN ?_)
    refine WE.again (t + 1) (⟨by omega, fun i hi => by
     by_cases e : i = t
     ·subst e; exact hy
     ·exact hst.2 i (by omega)⟩) (by (try dsimp only); omega) ⟨vint (lastV_succ _ _), rfl, rfl, rfl, rfl, rfl, rfl⟩ (RLe.refl _) qS
  ·try dsimp only at hc1
   obtain rfl : t = c.vals.length := by omega
   obtain ⟨P, hP⟩ := Int.eq_ofNat_of_zero_le (show 0 ≤ c.per by omega)
   have hlv : lastV c.vals c.vals.length = nth c.vals (c.vals.length - 1) := if_neg (by omega)
   have e3 : ((c.vals.length : Int) - c.per).toNat = c.vals.length - c.per.toNat := by omega
   refine zX ?_
   refine wx (wx (zY (zU (zQ (zQ (zG (zR 2 rfl (zN (zU ?_)))))))))
   refine W.condE rfl (fun hc3 => ?_) (fun hc3 => ?_)
   ·try dsimp only at hc3
    have hif : (if nth c.vals (c.vals.length - 1) = INF then c.per = 1 ∧ c.inc = 0 else nth c.vals (c.vals.length - 1) ≤ nth c.vals (c.vals.length - c.per.toNat) + c.inc) ↔ (c.per = 1 ∧ c.inc = 0) := by rw [if_pos (by rw [← hlv]; exact hc3)]
    refine zQ (zG (zR 1 rfl ?_))
    refine' WG.y rfl rfl qD (Yl.load1 tab_ok rfl rfl rfl (fun _ => rfl) ?r9 rfl ?h9) ?_
    case r9 => apply Rd.add; (first | exact Rd.blk 0 rfl | exact Rd.blk 1 rfl)
    case h9 => rfl
    refine zR 2 rfl ?_
    refine yP ?_
    refine' WG.y rfl rfl qD (Yl.loadG tab_ok rfl rfl rfl qE ?r10 rfl ?h10 ?g10) ?_
    case r10 => apply Rd.addC; (first | exact Rd.blkC 0 rfl | exact Rd.blkC 1 rfl)
    case h10 => rfl
    case g10 => first | exact fun _ => trivial | (intro hg; (try simp only [zk] at hg); (try dsimp only); omega)
    refine yP ?_
    refine yN ?_
    refine zR 1 rfl (zN (zU (zT (wt ?_))))
    refine sE (E := E) ?_
    refine WE.retF tab_ok [_] rfl ⟨rfl, trivial⟩ (RLe.refl _) ?_
    refine ⟨congrArg Value.bool ?_, rfl⟩
    rw [Bool.eq_iff_iff, validB_iff, hif]
    simp only [Bool.and_eq_true, beq_iff_eq]
    exact ⟨fun h => ⟨hall, fun j hj => hst.2 j hj, h⟩, fun h => h.2.2⟩
   ·try dsimp only at hc3
    have hif : (if nth c.vals (c.vals.length - 1) = INF then c.per = 1 ∧ c.inc = 0 else nth c.vals (c.vals.length - 1) ≤ nth c.vals (c.vals.length - c.per.toNat) + c.inc) ↔ (nth c.vals (c.vals.length - 1) ≤ nth c.vals (c.vals.length - c.per.toNat) + c.inc) := by rw [if_neg (by rw [← hlv]; exact hc3)]
    have hx2 := (hst.2 (c.vals.length - c.per.toNat) (by omega)).1
    rw [← e3] at hx2
    unfold INF MAXV at hx2 hall
    refine zK (zU (zQ ?_))
    refine W.regionQ _ mixed qK ?_
    refine zR 1 rfl ?_
    refine' WG.y rfl rfl qD (Yl.load1 tab_ok rfl rfl rfl (fun _ => rfl) ?r11 rfl ?h11) ?_
    case r11 => apply Rd.add; (first | exact Rd.blk 0 rfl | exact Rd.blk 1 rfl)
    case h11 => rfl
    refine zR 2 rfl ?_
    refine' WG.y rfl rfl qD (Yl.load1 tab_ok rfl rfl rfl (fun _ => rfl) ?r12 rfl ?h12) ?_
    case r12 => apply Rd.add; (first | exact Rd.blk 0 rfl | exact Rd.blk 1 rfl)
    case h12 => rfl
    refine yS ?_
    refine WG.y rfl rfl qD (Yl.index tab_ok rfl rfl rfl rfl rfl rfl (fun _ => rfl) qA qH) ?_
    refine' WG.y rfl rfl qD (Yl.load1 tab_ok rfl rfl rfl (fun _ => rfl) ?r13 rfl ?h13) ?_
    case r13 => (first | (apply RS.rdD; assumption; ((try dsimp only) <;> omega)) | exact Rd.slD 0 rfl qX | exact Rd.slD 1 rfl qX)
    case h13 => rfl
    refine zR 1 rfl ?_
    refine' WG.y rfl rfl qD (Yl.load1 tab_ok rfl rfl rfl (fun _ => rfl) ?r14 rfl ?h14) ?_
    case r14 => apply Rd.add; (first | exact Rd.blk 0 rfl | exact Rd.blk 1 rfl)
    case h14 => rfl
    refine yA ?_
    refine zR 3 rfl (zN (zU (zT ?_)))
    refine sE (E := E) ?_
    refine WE.retF tab_ok [_] rfl ⟨rfl, trivial⟩ (RLe.refl _) ?_
    refine ⟨congrArg Value.bool ?_, rfl⟩
    rw [Bool.eq_iff_iff, validB_iff, hif, e3, hlv]
    simp only [decide_eq_true_eq]
    exact ⟨fun h => ⟨by unfold MAXV; omega, fun j hj => hst.2 j hj, by omega⟩, fun h => by have := h.2.2; omega⟩

end Go.Proofs.YtejpkjapmhpmpaaDoor

/- The contracts of the library that the walks take, laid at this translation. No condition. -/
namespace Go.Proofs.YtejpkjapmhpmpaaDoor
open Go.Shelf
def sh_laysC172_ren : Go.Shelf.Ren := ⟨fun | 172 => 57 | 244 => 63 | 245 => 64 | 247 => 71 | 279 => 72 | 280 => 73 | 281 => 74 | 282 => 75 | 287 => 82 | 316 => 83 | 171 => 85 | 205 => 84 | 321 => 91 | 322 => 92 | 243 => 93 | 246 => 96 | 283 => 76 | 284 => 77 | 285 => 78 | 286 => 79 | 129 => 87 | 317 => 86 | 318 => 88 | 319 => 89 | 320 => 90 | 337 => 94 | 338 => 95 | n => n, fun | 9 => 9 | 3 => 3 | 75 => 90 | 76 => 91 | 4 => 4 | 5 => 5 | 167 => 101 | 37 => 32 | 0 => 0 | 85 => 102 | 2 => 2 | 168 => 104 | 53 => 98 | 175 => 119 | 46 => 100 | 210 => 123 | 127 => 131 | 145 => 134 | 143 => 132 | 21 => 21 | 171 => 107 | 173 => 110 | 212 => 126 | 51 => 112 | 20 => 20 | 213 => 127 | 232 => 137 | 233 => 138 | 80 => 82 | n => n, fun | 15 => 3 | 16 => 4 | 17 => 5 | 18 => 6 | 19 => 7 | n => n⟩
theorem sh_laysC172 : Go.Proofs.LaysC.n172 Tryd.prog sh_laysC172_ren := {
  mixed := by kernel_rfl
  f129 := Tryd.func87.trans (congrArg some (by kernel_rfl))
  f171 := Tryd.func85.trans (congrArg some (by kernel_rfl))
  f172 := Tryd.func57.trans (congrArg some (by kernel_rfl))
  f205 := Tryd.func84.trans (congrArg some (by kernel_rfl))
  f243 := Tryd.func93.trans (congrArg some (by kernel_rfl))
  f244 := Tryd.func63.trans (congrArg some (by kernel_rfl))
  f245 := Tryd.func64.trans (congrArg some (by kernel_rfl))
  f246 := Tryd.func96.trans (congrArg some (by kernel_rfl))
  f247 := Tryd.func71.trans (congrArg some (by kernel_rfl))
  f279 := Tryd.func72.trans (congrArg some (by kernel_rfl))
  f280 := Tryd.func73.trans (congrArg some (by kernel_rfl))
  f281 := Tryd.func74.trans (congrArg some (by kernel_rfl))
  f282 := Tryd.func75.trans (congrArg some (by kernel_rfl))
  f283 := Tryd.func76.trans (congrArg some (by kernel_rfl))
  f284 := Tryd.func77.trans (congrArg some (by kernel_rfl))
  f285 := Tryd.func78.trans (congrArg some (by kernel_rfl))
  f286 := Tryd.func79.trans (congrArg some (by kernel_rfl))
  f287 := Tryd.func82.trans (congrArg some (by kernel_rfl))
  f316 := Tryd.func83.trans (congrArg some (by kernel_rfl))
  f317 := Tryd.func86.trans (congrArg some (by kernel_rfl))
  f318 := Tryd.func88.trans (congrArg some (by kernel_rfl))
  f319 := Tryd.func89.trans (congrArg some (by kernel_rfl))
  f320 := Tryd.func90.trans (congrArg some (by kernel_rfl))
  f321 := Tryd.func91.trans (congrArg some (by kernel_rfl))
  f322 := Tryd.func92.trans (congrArg some (by kernel_rfl))
  f337 := Tryd.func94.trans (congrArg some (by kernel_rfl))
  f338 := Tryd.func95.trans (congrArg some (by kernel_rfl))
  t0 := Tryd.underlying0
  a0 := Tryd.isAgg0
  z0 := Tryd.sizeOf0
  v0 := Tryd.zeroValue0
  t2 := Tryd.underlying2
  a2 := Tryd.isAgg2
  z2 := Tryd.sizeOf2
  v2 := Tryd.zeroValue2
  t3 := Tryd.underlying3
  a3 := Tryd.isAgg3
  z3 := Tryd.sizeOf3
  v3 := Tryd.zeroValue3
  t4 := Tryd.underlying4
  a4 := Tryd.isAgg4
  z4 := Tryd.sizeOf4
  v4 := Tryd.zeroValue4
  t5 := Tryd.underlying5
  a5 := Tryd.isAgg5
  z5 := Tryd.sizeOf5
  v5 := Tryd.zeroValue5
  t9 := Tryd.underlying9
  a9 := Tryd.isAgg9
  z9 := Tryd.sizeOf9
  v9 := Tryd.zeroValue9
  t20 := Tryd.underlying20
  a20 := Tryd.isAgg20
  z20 := Tryd.sizeOf20
  v20 := Tryd.zeroValue20
  t21 := Tryd.underlying21
  a21 := Tryd.isAgg21
  z21 := Tryd.sizeOf21
  v21 := Tryd.zeroValue21
  t37 := Tryd.underlying32
  a37 := Tryd.isAgg32
  z37 := Tryd.sizeOf32
  v37 := Tryd.zeroValue32
  t46 := Tryd.underlying100
  a46 := Tryd.isAgg100
  z46 := Tryd.sizeOf100
  v46 := Tryd.zeroValue100
  t51 := Tryd.underlying112
  a51 := Tryd.isAgg112
  z51 := Tryd.sizeOf112
  v51 := Tryd.zeroValue112
  t53 := Tryd.underlying98
  a53 := Tryd.isAgg98
  z53 := Tryd.sizeOf98
  v53 := Tryd.zeroValue98
  t75 := Tryd.underlying90
  a75 := Tryd.isAgg90
  z75 := Tryd.sizeOf90
  v75 := Tryd.zeroValue90
  t76 := Tryd.underlying91
  a76 := Tryd.isAgg91
  z76 := Tryd.sizeOf91
  v76 := Tryd.zeroValue91
  t85 := Tryd.underlying102
  a85 := Tryd.isAgg102
  z85 := Tryd.sizeOf102
  v85 := Tryd.zeroValue102
  t127 := Tryd.underlying131
  a127 := Tryd.isAgg131
  z127 := Tryd.sizeOf131
  v127 := Tryd.zeroValue131
  t143 := Tryd.underlying132
  a143 := Tryd.isAgg132
  z143 := Tryd.sizeOf132
  v143 := Tryd.zeroValue132
  t145 := Tryd.underlying134
  a145 := Tryd.isAgg134
  z145 := Tryd.sizeOf134
  v145 := Tryd.zeroValue134
  t167 := Tryd.underlying101
  a167 := Tryd.isAgg101
  z167 := Tryd.sizeOf101
  v167 := Tryd.zeroValue101
  t168 := Tryd.underlying104
  a168 := Tryd.isAgg104
  z168 := Tryd.sizeOf104
  v168 := Tryd.zeroValue104
  t171 := Tryd.underlying107
  a171 := Tryd.isAgg107
  z171 := Tryd.sizeOf107
  v171 := Tryd.zeroValue107
  t173 := Tryd.underlying110
  a173 := Tryd.isAgg110
  z173 := Tryd.sizeOf110
  v173 := Tryd.zeroValue110
  t175 := Tryd.underlying119
  a175 := Tryd.isAgg119
  z175 := Tryd.sizeOf119
  v175 := Tryd.zeroValue119
  t210 := Tryd.underlying123
  a210 := Tryd.isAgg123
  z210 := Tryd.sizeOf123
  v210 := Tryd.zeroValue123
  t212 := Tryd.underlying126
  a212 := Tryd.isAgg126
  z212 := Tryd.sizeOf126
  v212 := Tryd.zeroValue126
  t213 := Tryd.underlying127
  a213 := Tryd.isAgg127
  z213 := Tryd.sizeOf127
  t232 := Tryd.underlying137
  a232 := Tryd.isAgg137
  z232 := Tryd.sizeOf137
  v232 := Tryd.zeroValue137
  t233 := Tryd.underlying138
  a233 := Tryd.isAgg138
  z233 := Tryd.sizeOf138
  v233 := Tryd.zeroValue138
  g15 := by kernel_rfl
  g16 := by kernel_rfl
  g17 := by kernel_rfl
  g18 := by kernel_rfl
  g19 := by kernel_rfl
  t80 := Tryd.underlying82
  a80 := Tryd.isAgg82
  z80 := Tryd.sizeOf82
  v80 := Tryd.zeroValue82
  i0 := by kernel_rfl
  i2 := by kernel_rfl
  i3 := by kernel_rfl
  i4 := by kernel_rfl
  i5 := by kernel_rfl
  i9 := by kernel_rfl
  i20 := by kernel_rfl
  i21 := by kernel_rfl
  i37 := by kernel_rfl
  i46 := by kernel_rfl
  i51 := by kernel_rfl
  i53 := by kernel_rfl
  i75 := by kernel_rfl
  i76 := by kernel_rfl
  i80 := by kernel_rfl
  i85 := by kernel_rfl
  i127 := by kernel_rfl
  i143 := by kernel_rfl
  i145 := by kernel_rfl
  i167 := by kernel_rfl
  i168 := by kernel_rfl
  i171 := by kernel_rfl
  i173 := by kernel_rfl
  i175 := by kernel_rfl
  i210 := by kernel_rfl
  i212 := by kernel_rfl
  i232 := by kernel_rfl
  i233 := by kernel_rfl
  m15 := by kernel_rfl
  m16 := by kernel_rfl
  m17 := by kernel_rfl
  m18 := by kernel_rfl
  m19 := by kernel_rfl
  c0 := by kernel_rfl
  c2 := by kernel_rfl
  c3 := by kernel_rfl
  c4 := by kernel_rfl
  c5 := by kernel_rfl
  c9 := by kernel_rfl
  c20 := by kernel_rfl
  c21 := by kernel_rfl
  c37 := by kernel_rfl
  c46 := by kernel_rfl
  c51 := by kernel_rfl
  c53 := by kernel_rfl
  c75 := by kernel_rfl
  c76 := by kernel_rfl
  c80 := by kernel_rfl
  c85 := by kernel_rfl
  c127 := by kernel_rfl
  c143 := by kernel_rfl
  c145 := by kernel_rfl
  c167 := by kernel_rfl
  c168 := by kernel_rfl
  c171 := by kernel_rfl
  c173 := by kernel_rfl
  c175 := by kernel_rfl
  c210 := by kernel_rfl
  c212 := by kernel_rfl
  c213 := by kernel_rfl
  c232 := by kernel_rfl
  c233 := by kernel_rfl }
open Go.RowKit in
theorem sh_strconv_Atoi_ok (s : ByteArray) (hmax : s.size ≤ 9223372036854775806) (v : Int) (h : Lib.atoiAll s.data.toList = .ok v) (w : World) :
  Calls Tryd.prog 57 #[.string s] w fun e w' => e = .returned (.tuple #[.int .i64 v, .nilIface]) ∧ (w' = w ∨ ∃ t, w' = Lib.bytesWorld w 5 t) := Any.strconv_Atoi_ok sh_laysC172 s hmax v h w
open Go.RowKit in
theorem sh_strconv_Atoi_syntax (s : ByteArray) (hlim : s.size ≤ 281474976710656) (h : Lib.atoiAll s.data.toList = (Lib.NumEnd.ofOption none)) (ev : Value) (w : World) (hv : w.cell? ⟨3, 0, none⟩ = some ev) (hev : ev = .nilIface ∨ ∃ te pe, ev = .iface te pe) :
  Calls Tryd.prog 57 #[.string s] w fun e w' => ∃ N, e = .returned (.tuple #[.int .i64 (0), .iface 104 (.pointer (some ⟨N, 0, none⟩))]) ∧ w.heap.size ≤ N ∧ w'.heap[N]? = some (.cells #[.string ⟨#[65, 116, 111, 105]⟩, .string s, ev] 123 (0, 0)) ∧ Below w.heap.size w w' := Any.strconv_Atoi_syntax sh_laysC172 s hlim h ev w hv hev
open Go.RowKit in
theorem sh_strconv_Atoi_range (s : ByteArray) (hlim : s.size ≤ 281474976710656) (h : Lib.atoiAll s.data.toList = .range) (ev : Value) (w : World) (hv : w.cell? ⟨4, 0, none⟩ = some ev) (hev : ev = .nilIface ∨ ∃ te pe, ev = .iface te pe) :
  Calls Tryd.prog 57 #[.string s] w fun e w' => ∃ N, e = .returned (.tuple #[.int .i64 (Lib.atoiSat s.data.toList), .iface 104 (.pointer (some ⟨N, 0, none⟩))]) ∧ w.heap.size ≤ N ∧ w'.heap[N]? = some (.cells #[.string ⟨#[65, 116, 111, 105]⟩, .string s, ev] 123 (0, 0)) ∧ Below w.heap.size w w' := Any.strconv_Atoi_range sh_laysC172 s hlim h ev w hv hev
def sh_lays145_ren : Go.Shelf.Ren := ⟨fun | 145 => 43 | 220 => 52 | 219 => 59 | 217 => 66 | 225 => 67 | 224 => 68 | 267 => 69 | 266 => 80 | 314 => 81 | n => n, fun | 9 => 9 | 4 => 4 | 59 => 78 | 3 => 3 | 5 => 5 | 46 => 100 | 146 => 113 | 51 => 112 | n => n, fun | 1 => 0 | n => n⟩
open Go.RowKit Go.Lib in
def sh_laysM176_ren : Go.Shelf.Ren := ⟨fun | 176 => 51 | 249 => 58 | 288 => 65 | 283 => 76 | 284 => 77 | 285 => 78 | 286 => 79 | 129 => 87 | 317 => 86 | 318 => 88 | 319 => 89 | 320 => 90 | 337 => 94 | 338 => 95 | n => n, fun | 37 => 32 | 2 => 2 | 3 => 3 | 53 => 98 | 4 => 4 | 9 => 9 | 171 => 107 | 0 => 0 | 173 => 110 | 212 => 126 | 51 => 112 | 5 => 5 | 20 => 20 | 213 => 127 | 46 => 100 | 232 => 137 | 233 => 138 | n => n, fun | 17 => 5 | 18 => 6 | 19 => 7 | n => n⟩
theorem sh_laysM176 : Go.Proofs.LaysM.n176 Tryd.prog sh_laysM176_ren := {
  mixed := by kernel_rfl
  f129 := Tryd.func87.trans (congrArg some (by kernel_rfl))
  f176 := Tryd.func51.trans (congrArg some (by kernel_rfl))
  f249 := Tryd.func58.trans (congrArg some (by kernel_rfl))
  f283 := Tryd.func76.trans (congrArg some (by kernel_rfl))
  f284 := Tryd.func77.trans (congrArg some (by kernel_rfl))
  f285 := Tryd.func78.trans (congrArg some (by kernel_rfl))
  f286 := Tryd.func79.trans (congrArg some (by kernel_rfl))
  f288 := Tryd.func65.trans (congrArg some (by kernel_rfl))
  f317 := Tryd.func86.trans (congrArg some (by kernel_rfl))
  f318 := Tryd.func88.trans (congrArg some (by kernel_rfl))
  f319 := Tryd.func89.trans (congrArg some (by kernel_rfl))
  f320 := Tryd.func90.trans (congrArg some (by kernel_rfl))
  f337 := Tryd.func94.trans (congrArg some (by kernel_rfl))
  f338 := Tryd.func95.trans (congrArg some (by kernel_rfl))
  t0 := Tryd.underlying0
  a0 := Tryd.isAgg0
  z0 := Tryd.sizeOf0
  v0 := Tryd.zeroValue0
  t2 := Tryd.underlying2
  a2 := Tryd.isAgg2
  z2 := Tryd.sizeOf2
  v2 := Tryd.zeroValue2
  t3 := Tryd.underlying3
  a3 := Tryd.isAgg3
  z3 := Tryd.sizeOf3
  v3 := Tryd.zeroValue3
  t4 := Tryd.underlying4
  a4 := Tryd.isAgg4
  z4 := Tryd.sizeOf4
  v4 := Tryd.zeroValue4
  t5 := Tryd.underlying5
  a5 := Tryd.isAgg5
  z5 := Tryd.sizeOf5
  v5 := Tryd.zeroValue5
  t9 := Tryd.underlying9
  a9 := Tryd.isAgg9
  z9 := Tryd.sizeOf9
  v9 := Tryd.zeroValue9
  t20 := Tryd.underlying20
  a20 := Tryd.isAgg20
  z20 := Tryd.sizeOf20
  v20 := Tryd.zeroValue20
  t37 := Tryd.underlying32
  a37 := Tryd.isAgg32
  z37 := Tryd.sizeOf32
  v37 := Tryd.zeroValue32
  t46 := Tryd.underlying100
  a46 := Tryd.isAgg100
  z46 := Tryd.sizeOf100
  v46 := Tryd.zeroValue100
  t51 := Tryd.underlying112
  a51 := Tryd.isAgg112
  z51 := Tryd.sizeOf112
  v51 := Tryd.zeroValue112
  t53 := Tryd.underlying98
  a53 := Tryd.isAgg98
  z53 := Tryd.sizeOf98
  v53 := Tryd.zeroValue98
  t171 := Tryd.underlying107
  a171 := Tryd.isAgg107
  z171 := Tryd.sizeOf107
  v171 := Tryd.zeroValue107
  t173 := Tryd.underlying110
  a173 := Tryd.isAgg110
  z173 := Tryd.sizeOf110
  v173 := Tryd.zeroValue110
  t212 := Tryd.underlying126
  a212 := Tryd.isAgg126
  z212 := Tryd.sizeOf126
  v212 := Tryd.zeroValue126
  t213 := Tryd.underlying127
  a213 := Tryd.isAgg127
  z213 := Tryd.sizeOf127
  t232 := Tryd.underlying137
  a232 := Tryd.isAgg137
  z232 := Tryd.sizeOf137
  v232 := Tryd.zeroValue137
  t233 := Tryd.underlying138
  a233 := Tryd.isAgg138
  z233 := Tryd.sizeOf138
  v233 := Tryd.zeroValue138
  g17 := by kernel_rfl
  g18 := by kernel_rfl
  g19 := by kernel_rfl
  i0 := by kernel_rfl
  i2 := by kernel_rfl
  i3 := by kernel_rfl
  i4 := by kernel_rfl
  i5 := by kernel_rfl
  i9 := by kernel_rfl
  i20 := by kernel_rfl
  i37 := by kernel_rfl
  i46 := by kernel_rfl
  i51 := by kernel_rfl
  i53 := by kernel_rfl
  i171 := by kernel_rfl
  i173 := by kernel_rfl
  i212 := by kernel_rfl
  i232 := by kernel_rfl
  i233 := by kernel_rfl
  m17 := by kernel_rfl
  m18 := by kernel_rfl
  m19 := by kernel_rfl }
open Go.RowKit Go.Sort Go.Lib in
theorem sh_strconv_AppendInt_10 (B n : Nat) (i : Int) (h0 : -9223372036854775808 ≤ i) (h1 : i ≤ 9223372036854775807) (sv : Value) (xs : List Value) (w : World) (hown : w.ownsRow B 5 1 sv n xs) (hBw : B ≤ w.heap.size) (hlim : n + 21 ≤ 140737488355328) (htab : Lib.TabBelow Tryd.prog B w "internal/strconv.uint64pow10" .u64 Lib.pow10Tab) :
  Calls Tryd.prog 51 #[sv, .int .i64 i, .int .i64 10] w fun e w' => ∃ v', e = .returned v' ∧ w'.ownsRow B 5 1 v' (n + (Lib.itoa i).length) (xs ++ Lib.byteCells (Lib.itoa i)) ∧ Below B w w' ∧ Lib.OthersKept 5 none w w' := Any.strconv_AppendInt_10 sh_laysM176 B n i h0 h1 sv xs w hown hBw hlim htab
def sh_lays146_ren : Go.Shelf.Ren := ⟨fun | 146 => 37 | 221 => 45 | 268 => 53 | 138 => 54 | 143 => 55 | 195 => 60 | 197 => 61 | 218 => 62 | 219 => 59 | 260 => 70 | 217 => 66 | 225 => 67 | 224 => 68 | 267 => 69 | 266 => 80 | 314 => 81 | n => n, fun | 9 => 9 | 31 => 35 | 3 => 3 | 4 => 4 | 0 => 0 | 105 => 94 | 21 => 21 | 5 => 5 | 46 => 100 | 119 => 115 | 139 => 118 | 138 => 117 | 146 => 113 | 51 => 112 | n => n, fun | 1 => 0 | 3 => 1 | 4 => 2 | n => n⟩
theorem sh_lays146 : Go.Proofs.Lays.n146 Tryd.prog sh_lays146_ren := {
  mixed := by kernel_rfl
  f138 := Tryd.func54.trans (congrArg some (by kernel_rfl))
  f143 := Tryd.func55.trans (congrArg some (by kernel_rfl))
  f146 := Tryd.func37.trans (congrArg some (by kernel_rfl))
  f195 := Tryd.func60.trans (congrArg some (by kernel_rfl))
  f197 := Tryd.func61.trans (congrArg some (by kernel_rfl))
  f217 := Tryd.func66.trans (congrArg some (by kernel_rfl))
  f218 := Tryd.func62.trans (congrArg some (by kernel_rfl))
  f219 := Tryd.func59.trans (congrArg some (by kernel_rfl))
  f221 := Tryd.func45.trans (congrArg some (by kernel_rfl))
  f224 := Tryd.func68.trans (congrArg some (by kernel_rfl))
  f225 := Tryd.func67.trans (congrArg some (by kernel_rfl))
  f260 := Tryd.func70.trans (congrArg some (by kernel_rfl))
  f266 := Tryd.func80.trans (congrArg some (by kernel_rfl))
  f267 := Tryd.func69.trans (congrArg some (by kernel_rfl))
  f268 := Tryd.func53.trans (congrArg some (by kernel_rfl))
  f314 := Tryd.func81.trans (congrArg some (by kernel_rfl))
  t0 := Tryd.underlying0
  a0 := Tryd.isAgg0
  z0 := Tryd.sizeOf0
  v0 := Tryd.zeroValue0
  t3 := Tryd.underlying3
  a3 := Tryd.isAgg3
  z3 := Tryd.sizeOf3
  v3 := Tryd.zeroValue3
  t4 := Tryd.underlying4
  a4 := Tryd.isAgg4
  z4 := Tryd.sizeOf4
  v4 := Tryd.zeroValue4
  t5 := Tryd.underlying5
  a5 := Tryd.isAgg5
  z5 := Tryd.sizeOf5
  v5 := Tryd.zeroValue5
  t9 := Tryd.underlying9
  a9 := Tryd.isAgg9
  z9 := Tryd.sizeOf9
  v9 := Tryd.zeroValue9
  t21 := Tryd.underlying21
  a21 := Tryd.isAgg21
  z21 := Tryd.sizeOf21
  v21 := Tryd.zeroValue21
  t31 := Tryd.underlying35
  a31 := Tryd.isAgg35
  z31 := Tryd.sizeOf35
  v31 := Tryd.zeroValue35
  t46 := Tryd.underlying100
  a46 := Tryd.isAgg100
  z46 := Tryd.sizeOf100
  v46 := Tryd.zeroValue100
  t51 := Tryd.underlying112
  a51 := Tryd.isAgg112
  z51 := Tryd.sizeOf112
  v51 := Tryd.zeroValue112
  t105 := Tryd.underlying94
  a105 := Tryd.isAgg94
  z105 := Tryd.sizeOf94
  v105 := Tryd.zeroValue94
  t119 := Tryd.underlying115
  a119 := Tryd.isAgg115
  z119 := Tryd.sizeOf115
  t138 := Tryd.underlying117
  a138 := Tryd.isAgg117
  z138 := Tryd.sizeOf117
  v138 := Tryd.zeroValue117
  t139 := Tryd.underlying118
  a139 := Tryd.isAgg118
  z139 := Tryd.sizeOf118
  v139 := Tryd.zeroValue118
  t146 := Tryd.underlying113
  a146 := Tryd.isAgg113
  z146 := Tryd.sizeOf113
  v146 := Tryd.zeroValue113
  g1 := by kernel_rfl
  g3 := by kernel_rfl
  g4 := by kernel_rfl }
open Go.RowKit Go.Lib in
theorem sh_strings_Split (s sep : ByteArray) (m : Int) (w : World) (hs : s.size < 4294967281) (hm : w.cell? ⟨0, 0, none⟩ = some (.int .i64 m)) (h1 : 1 ≤ sep.size) :
  Calls Tryd.prog 37 #[.string s, .string sep] w fun e w' =>
   e = .returned (.slice (some ⟨w.heap.size, 0, none⟩) (Lib.countB s sep + 1) (Lib.countB s sep + 1)) ∧ w' = w.alloc (.cells ((Lib.splitB sep 0 (Lib.countB s sep) s).map Value.string).toArray 9) := Any.strings_Split sh_lays146 (by kernel_rfl) s sep m w hs hm h1
end Go.Proofs.YtejpkjapmhpmpaaDoor

/- The reader of words: a certain word; digits. No condition. -/
set_option maxRecDepth 4000
set_option linter.unusedSimpArgs false
set_option linter.unusedVariables false
namespace Go.Proofs.YtejpkjapmhpmpaaDoor
open Go Go.RowKit Go.Proofs.YtejpkjapmhpmpaaDoor.K Go.Proofs.YtejpkjapmhpmpaaDoor.M

theorem Word_C {R : Ro} {b : Nat} {a : Option Addr} {cp : Nat} {ws : List (List UInt8)} {k at' size : Nat} (w0 : World) (hws : RS R 1 encT a ws) (hsz : size ≤ 1000000) {want : List UInt8} (hat : k < ws.length → at' + (nth ws k).length ≤ 2000000) : FnXAt Tryd.prog 49 [.pointer (some ⟨b, 0, none⟩), .string (str want)] w0 R (rdE b a cp ws k at' size) (fun v R' e' N => v = .tuple #[] ∧ k < ws.length ∧ nth ws k = want ∧ R = R' ∧ e' = (rdE b a cp ws (k + 1) (at' + (nth ws k).length + 1) size) ∧ N = []) (fun v R' e' => v = failV (wordE ws want k at' size).1 (wordE ws want k at' size).2 ∧ (wordE ws want k at' size).2 ≠ 0 ∧ R = R' ∧ e' = (rdE b a cp ws k at' size)) := by
 intro F
 have hwl := hws.len
 refine FnX.enter (n := 16) Tryd.func49 rfl rfl (Nat.le_of_ble_eq_true rfl) rfl ?_
 refine zQ (zQ (zG (zR 1 rfl ?_)))
 refine WL.callXAt 0 en46 rfl rfl qD (CallOp.mkT rfl rfl rfl rfl) rfl (Need_C w0 hws hsz _) ?_ ?_
 ·
  rintro _ _ _ - ⟨rfl, hk, rfl, rfl⟩
  refine WE.then_panic ?_
  refine WE.then_panic ?_
  refine WE.panicX (RLe.refl _) ?_
  have hE : wordE ws want k at' size = (size, 4) := by unfold wordE; rw [if_neg hk]
  exact ⟨_, rfl, by rw [hE], by rw [hE]; show (4 : Int) ≠ 0; decide, rfl, rfl⟩
 rintro _ _ _ _ - ⟨rfl, hk, rfl, rfl, rfl⟩
 refine zR 1 rfl ?_
 refine WG.y rfl rfl qD (Yl.neS rfl rfl rfl (fun _ => rfl)) ?_
 refine zN (zU ?_)
 refine W.cond rfl (fun hc0 => ?_) (fun hc0 => ?_)
 ·try simp only [zk] at hc0
  have hne : nth ws k ≠ want := fun h => by rw [h] at hc0; simp at hc0
  have hE : wordE ws want k at' size = (at', 4) := by unfold wordE; rw [if_pos hk, if_neg hne]
  refine zG (zR 3 rfl ?_)
  refine' WG.y rfl rfl qD (Yl.load1 tab_ok rfl rfl rfl (fun _ => rfl) ?r1 rfl ?h1) ?_
  case r1 => apply Rd.add; (first | exact Rd.blk 0 rfl | exact Rd.blk 1 rfl | (apply RS.rdD; assumption; ((try dsimp only) <;> omega)) | exact Rd.slD 0 rfl qX | exact Rd.slD 1 rfl qX)
  case h1 => rfl
  -- build
  refine WG.y rfl rfl qD (Yl.build (parts := [(0, .tmp 11), (1, .const (.int .i64 4))]) tab_ok rfl rfl rfl rfl (fun _ => rfl) rfl rfl) ?_
  refine WG.y rfl rfl qD (Yl.toIface tab_ok rfl rfl rfl rfl (fun _ => rfl)) ?_
  refine WL.panic rfl rfl rfl ?_
  refine WE.then_panic ?_
  refine WE.panicX (RLe.refl _) ?_
  exact ⟨_, rfl, by rw [hE]; rfl, by rw [hE]; show (4 : Int) ≠ 0; decide, rfl, rfl⟩
 ·try simp only [zk] at hc0
  have hew : nth ws k = want := str_inj (by simpa using hc0)
  refine zK (zU (zG (zR 1 rfl ?_)))
  refine WL.callAt 0 en47 rfl rfl qD (CallOp.mkT rfl rfl rfl rfl) rfl (Skip_C w0 hws hsz hk (hat hk) _) ?_
  rintro _ _ _ _ - ⟨rfl, rfl, rfl, rfl⟩
  refine zN ?_
  refine WE.endX tab_ok [] rfl trivial (RLe.refl _) ?_
  exact ⟨_, [], rfl, rfl, hk, hew, rfl, rfl, rfl⟩

theorem Digs_V {R : Ro} {w : List UInt8} (hw : w.length ≤ 1000000) : FnV Tryd.prog 56 [.string (str w)] R (.bool (digs w)) := by
 refine Fn.toV (fun w0 E => ?_)
 have hss := str_size w
 have hse : str w = ⟨#[]⟩ ↔ w = [] := ⟨fun h => str_inj (b := []) h, fun h => by rw [h]; rfl⟩
 have h0l : w ≠ [] → 0 < w.length := List.length_pos_iff.2
 refine fE 32 Tryd.func56 ?_
 refine zQ (zG (zR 1 rfl (zN (zU (zQ (zQ (zG (zR 1 rfl ?_))))))))
 refine WG.y rfl rfl qD (Yl.eqS rfl rfl rfl (fun _ => rfl)) ?_
 refine zR 1 rfl ?_
 refine yP ?_
 refine yP ?_
 refine yP ?_
 refine yP ?_
 refine yP ?_
 refine WG.y rfl rfl (by decide) (Yl.sidx tab_ok rfl rfl rfl rfl rfl qE (by intro hg; (try simp only [zk] at hg); (have h1 := hg.2; constructor <;> omega))) ?_
 refine yP ?_
 refine yN ?_
 refine yO ?_
 refine zN (zU ?_)
 refine W.cond rfl (fun hc0 => ?_) (fun hc0 => ?_)
 ·try simp only [zk] at hc0
  have hno : digs w = false := by
   unfold digs
   rw [decide_eq_false_iff_not]
   rintro ⟨h1, h2, _⟩
   rcases hc0 with h | h
   ·exact h1 (hse.1 h)
   ·exact h2 ⟨by omega, h.2⟩
  refine zQ (zG (zR 1 rfl (zN (zU (zT (wt ?_))))))
  refine sE (E := E) ?_
  refine WE.retF tab_ok [_] rfl ⟨rfl, trivial⟩ (RLe.refl _) ?_
  exact ⟨by rw [hno]; rfl, rfl⟩
 ·try simp only [zk] at hc0
  have hy1 : w ≠ [] := fun h => by rw [h] at hc0; simp [str] at hc0
  have hy2 : ¬ (1 < w.length ∧ byteAt w 0 = 48) := fun h => by
   obtain ⟨h1, h2⟩ := hc0
   first | exact h2 qO h.2 | (have := h2 qO; omega) | (rcases h2 with h2 | h2; omega; exact h2 h.2)
  refine zK (zU (zQ (zQ (zG (zR 1 rfl (zN (zU (zB ?_))))))))
  refine W.loopK (β := Nat) (fun i => i ≤ w.length ∧ ∀ j, j < i → 48 ≤ byteAt w j ∧ byteAt w j ≤ 57) (fun i => [(3, true, .int .i64 (i : Int))]) [0] [_] [] _ rfl (fun i => []) (fun i => w.length - i) (0) (⟨Nat.zero_le _, fun j hj => by omega⟩) ⟨rfl, rfl, rfl⟩ qS ?_
  intro i hst
  dsimp only [zipE, setAll, List.cons_append, List.nil_append, List.set_cons_zero, List.set_cons_succ] at hst ⊢
  
  refine zQ (zQ (zG (zR 4 rfl (zN (zU ?_)))))
  refine W.condD rfl (fun hc1 => ?_) (fun hc1 => ?_)
  ·try dsimp only at hc1
   have hil : i < w.length := by omega
   have hbt : byteAt w ((i : Int)).toNat = byteAt w i := rfl
   refine zK (zU (zQ (zB (zQ (zG (zR 2 rfl ?_))))))
   refine WG.y rfl rfl qD (Yl.sidx tab_ok rfl rfl rfl rfl rfl (fun _ => rfl) qA) ?_
   refine zR 2 rfl ?_
   refine yP ?_
   refine yP ?_
   refine WG.y rfl rfl (by decide) (Yl.sidx tab_ok rfl rfl rfl rfl rfl qE (by intro hg; (try simp only [zk] at hg); constructor <;> (try dsimp only) <;> omega)) ?_
   refine yP ?_
   refine yO ?_
   refine zN (zU ?_)
   refine W.cond rfl (fun hc2 => ?_) (fun hc2 => ?_)
   ·try simp only [zk] at hc2
    have hno : digs w = false := by
     unfold digs
     rw [decide_eq_false_iff_not]
     rintro ⟨_, _, h3⟩
     have := h3 i hil
     rw [hbt] at hc2
     omega
    refine zQ (zG (zR 1 rfl (zN (zU (zT (wb (wt (wt (wb (wt ?_))))))))))
    refine sE (E := E) ?_
    refine WE.retF tab_ok [_] rfl ⟨rfl, trivial⟩ (RLe.refl _) ?_
    exact ⟨by rw [hno]; rfl, rfl⟩
   ·try simp only [zk] at hc2
    rw [hbt] at hc2
    have hy : 48 ≤ byteAt w i ∧ byteAt w i ≤ 57 := by omega
    refine zK (zL (zU (zG (zR 1 rfl ?_))))
    refine yA ?_
    refine zR 1 rfl (zN ?_)
    refine WE.again (i + 1) (⟨by omega, fun j hj => by
     by_cases e : j = i
     ·subst e; exact hy
     ·exact hst.2 j (by omega)⟩) (by (try dsimp only); omega) ⟨rfl, rfl, rfl⟩ (RLe.refl _) qS
  ·try dsimp only at hc1
   obtain rfl : i = w.length := by omega
   refine zX ?_
   refine wx (wx (zY (zU (zQ (zG (zR 1 rfl (zN (zU (zT ?_)))))))))
   refine sE (E := E) ?_
   refine WE.retF tab_ok [_] rfl ⟨rfl, trivial⟩ (RLe.refl _) ?_
   exact ⟨by rw [show digs w = true from decide_eq_true ⟨hy1, hy2, hst.2⟩]; rfl, rfl⟩



theorem nilI90 : Tryd.prog.underlying 90 = some (.interface (Tryd.prog.methodsAt 90)) := by kernel_rfl
structure GlobE (R : Ro) : Prop where
 m : ∃ (m : Int) (rest : List Value), R 0 = some (.int .i64 m :: rest)
 pow : R 5 = some (Lib.pow10Tab.map fun z => Value.int .u64 z)
 es : ∃ (t : TypeId) (p : Value), R 3 = some [.iface t p]
 er : ∃ (t : TypeId) (p : Value), R 4 = some [.iface t p]
theorem GlobE.mono {R R' : Ro} (h : GlobE R) (hR : RLe R R') : GlobE R' := ⟨by obtain ⟨m, r, h⟩ := h.m; exact ⟨m, r, hR _ _ h⟩, hR _ _ h.pow, by obtain ⟨t, p, h⟩ := h.es; exact ⟨t, p, hR _ _ h⟩, by obtain ⟨t, p, h⟩ := h.er; exact ⟨t, p, hR _ _ h⟩⟩
theorem AtoiA_C {R : Ro} (hE : GlobE R) {s : List UInt8} (hs : s.length ≤ 4000000000) (w0 : World) (E : List Ent) : K.Fn Tryd.prog 57 [.string (str s)] w0 R E (fun v R' E' => ∃ (n : Int) (t : TypeId) (p : Value), (atBad s = false → Lib.atoiAll s = .ok n ∧ n = atNum s) ∧ InR n ∧ v = .tuple #[.int .i64 n, errV (atBad s) t p] ∧ R = R' ∧ E = E') := by
 intro w hm
 have hsz := str_size s
 have hli := str_list s
 obtain ⟨t1, p1, h1⟩ := hE.es
 obtain ⟨t2, p2, h2⟩ := hE.er
 rcases h : Lib.atoiAll s with v | _ | _
 ·refine (sh_strconv_Atoi_ok (str s) (by omega) v (by rw [hli]; exact h) w).mono ?_
  obtain ⟨e1, e2⟩ := atBad_ok h
  rintro e w' ⟨rfl, hw⟩
  refine ⟨_, R, E, rfl, RLe.refl _, hm.belowAll ?_, v, 0, .nilIface, fun _ => ⟨rfl, e2.symm⟩, Lib.atoiAll_bounds h, by rw [e1]; rfl, rfl, rfl⟩
  rcases hw with rfl | ⟨t, rfl⟩
  ·exact Below.refl _ _
  ·exact Lib.bytesWorld_below w _ t
 ·refine (sh_strconv_Atoi_syntax (str s) (by omega) (by rw [hli]; exact h) _ w (hm.cell h1) (.inr ⟨_, _, rfl⟩)).mono ?_
  have e1 : atBad s = true := by unfold atBad; rw [h]
  rintro e w' ⟨N, rfl, _, _, hb⟩
  exact ⟨_, R, E, rfl, RLe.refl _, hm.belowAll hb, 0, _, _, fun hh => absurd (e1.symm.trans hh) (by decide), by constructor <;> decide, by rw [e1]; rfl, rfl, rfl⟩
 ·refine (sh_strconv_Atoi_range (str s) (by omega) (by rw [hli]; exact h) _ w (hm.cell h2) (.inr ⟨_, _, rfl⟩)).mono ?_
  have e1 : atBad s = true := by unfold atBad; rw [h]
  rintro e w' ⟨N, rfl, _, _, hb⟩
  exact ⟨_, R, E, rfl, RLe.refl _, hm.belowAll hb, Lib.atoiSat (str s).data.toList, _, _, fun hh => absurd (e1.symm.trans hh) (by decide), by unfold Lib.atoiSat; split <;> constructor <;> decide, by rw [e1]; rfl, rfl, rfl⟩

theorem Number_C {R : Ro} {b : Nat} {a : Option Addr} {cp : Nat} {ws : List (List UInt8)} {k at' size : Nat} (w0 : World) (hws : RS R 1 encT a ws) (hsz : size ≤ 1000000) (hG : GlobE R) (hlw : ∀ w ∈ ws, w.length ≤ 1000000) (hat : k < ws.length → at' + (nth ws k).length ≤ 2000000) : FnXAt Tryd.prog 48 [.pointer (some ⟨b, 0, none⟩)] w0 R (rdE b a cp ws k at' size) (fun v R' e' N => v = .int .i64 (numV (nth ws k) : Int) ∧ k < ws.length ∧ numE ws k at' size = (0, 0) ∧ R = R' ∧ e' = (rdE b a cp ws (k + 1) (at' + (nth ws k).length + 1) size) ∧ N = []) (fun v R' e' => v = failV (numE ws k at' size).1 (numE ws k at' size).2 ∧ (numE ws k at' size).2 ≠ 0 ∧ R = R' ∧ e' = (rdE b a cp ws k at' size)) := by
 intro F
 have hwl := hws.len
 refine FnX.enter (n := 37) Tryd.func48 rfl rfl (Nat.le_of_ble_eq_true rfl) rfl ?_
 refine zQ (zG (zR 1 rfl (zN (zU (zQ (zG (zR 1 rfl ?_)))))))
 refine WL.callXAt 0 en46 rfl rfl qD (CallOp.mkT rfl rfl rfl rfl) rfl (Need_C w0 hws hsz _) ?_ ?_
 ·
  rintro _ _ _ - ⟨rfl, hk, rfl, rfl⟩
  refine WE.then_panic ?_
  refine WE.panicX (RLe.refl _) ?_
  have hE : numE ws k at' size = (size, 4) := by unfold numE; rw [if_neg hk]
  exact ⟨_, rfl, by rw [hE], by rw [hE]; show (4 : Int) ≠ 0; decide, rfl, rfl⟩
 rintro _ _ _ _ - ⟨rfl, hk, rfl, rfl, rfl⟩
 refine zR 1 rfl (zN (zU (zQ (zQ (zG (zR 1 rfl ?_))))))
 refine WG.callV en56 rfl rfl qD (CallOp.mk' rfl rfl rfl rfl) (fun _ => rfl) (fun hg => Digs_V (hlw _ (nth_mem hk))) ?_
 refine zR 1 rfl (zN (zU ?_))
 refine W.cond rfl (fun hc0 => ?_) (fun hc0 => ?_)
 ·try simp only [zk] at hc0
  have hE : numE ws k at' size = (at', 4) := by unfold numE; rw [if_pos hk, if_neg (by rw [hc0]; decide)]
  refine zG (zR 3 rfl ?_)
  refine' WG.y rfl rfl qD (Yl.load1 tab_ok rfl rfl rfl (fun _ => rfl) ?r1 rfl ?h1) ?_
  case r1 => apply Rd.add; (first | exact Rd.blk 0 rfl | exact Rd.blk 1 rfl | exact Rd.blk 2 rfl | (apply RS.rdD; assumption; ((try dsimp only) <;> omega)) | exact Rd.slD 0 rfl qX | exact Rd.slD 1 rfl qX | exact Rd.slD 2 rfl qX)
  case h1 => rfl
  -- build
  refine WG.y rfl rfl qD (Yl.build (parts := [(0, .tmp 14), (1, .const (.int .i64 4))]) tab_ok rfl rfl rfl rfl (fun _ => rfl) rfl rfl) ?_
  refine WG.y rfl rfl qD (Yl.toIface tab_ok rfl rfl rfl rfl (fun _ => rfl)) ?_
  refine WL.panic rfl rfl rfl ?_
  refine WE.then_panic ?_
  refine WE.panicX (RLe.refl _) ?_
  exact ⟨_, rfl, by rw [hE]; rfl, by rw [hE]; show (4 : Int) ≠ 0; decide, rfl, rfl⟩
 ·try simp only [zk] at hc0
  refine zK (zU (zQ (zG (zR 1 rfl ?_))))
  refine WL.call en57 rfl rfl qD (CallOp.mkT rfl rfl rfl rfl) (AtoiA_C hG (s := nth ws k) (by have := hlw _ (nth_mem hk); omega) w0 _) ?_
  rintro _ _ _ - ⟨n, t, p, hn, hr, rfl, rfl, rfl⟩
  obtain ⟨hd1, hd2⟩ := digs_num hc0
  refine zR 5 rfl (zN (zU (zQ (zQ (zG (zR 1 rfl ?_))))))
  refine WG.y rfl rfl qD (Yl.neNilI nilI90 rfl rfl rfl (fun _ => rfl) (errV_cases _ _ _)) ?_
  refine zR 1 rfl ?_
  refine yP ?_
  refine yP ?_
  refine yO ?_
  refine zN (zU ?_)
  refine W.cond rfl (fun hc1 => ?_) (fun hc1 => ?_)
  ·try simp only [zk] at hc1
   have hE : numE ws k at' size = (at', 2) := by
    unfold numE
    rw [if_pos hk, if_pos hc0, if_pos]
    cases hb : atBad (nth ws k) with
    | true => exact hd2 hb
    | false => have e1 := hd1 hb; have e2 := (hn hb).2; rw [hb] at hc1; simp at hc1; omega
   refine zG (zR 3 rfl ?_)
   refine' WG.y rfl rfl qD (Yl.load1 tab_ok rfl rfl rfl (fun _ => rfl) ?r2 rfl ?h2) ?_
   case r2 => apply Rd.add; (first | exact Rd.blk 0 rfl | exact Rd.blk 1 rfl | exact Rd.blk 2 rfl | (apply RS.rdD; assumption; ((try dsimp only) <;> omega)) | exact Rd.slD 0 rfl qX | exact Rd.slD 1 rfl qX | exact Rd.slD 2 rfl qX)
   case h2 => rfl
   -- build
   refine WG.y rfl rfl qD (Yl.build (parts := [(0, .tmp 31), (1, .const (.int .i64 2))]) tab_ok rfl rfl rfl rfl (fun _ => rfl) rfl rfl) ?_
   refine WG.y rfl rfl qD (Yl.toIface tab_ok rfl rfl rfl rfl (fun _ => rfl)) ?_
   refine WL.panic rfl rfl rfl ?_
   refine WE.then_panic ?_
   refine WE.panicX (RLe.refl _) ?_
   exact ⟨_, rfl, by rw [hE]; rfl, by rw [hE]; show (2 : Int) ≠ 0; decide, rfl, rfl⟩
  ·try simp only [zk] at hc1
   have e1 := hd1 hc1.1
   have e2 := (hn hc1.1).2
   have hE : numE ws k at' size = (0, 0) := by unfold numE; rw [if_pos hk, if_pos hc0, if_neg (by omega)]
   have hnv : n = (numV (nth ws k) : Int) := by omega
   refine zK (zU (zQ (zG (zR 1 rfl ?_))))
   refine WL.callAt 0 en47 rfl rfl qD (CallOp.mkT rfl rfl rfl rfl) rfl (Skip_C w0 hws hsz hk (hat hk) _) ?_
   rintro _ _ _ _ - ⟨rfl, rfl, rfl, rfl⟩
   refine zN (zU (zQ (zG (zR 2 rfl (zN (zU (zT ?_)))))))
   refine WE.retX tab_ok [_] rfl ⟨rfl, trivial⟩ (RLe.refl _) ?_
   exact ⟨_, [], rfl, by rw [hnv]; rfl, hk, hE, rfl, rfl, rfl⟩

end Go.Proofs.YtejpkjapmhpmpaaDoor

/- Regions of which an order is drawn and in which a call may panic. No condition. -/
namespace Go.Proofs.YtejpkjapmhpmpaaDoor.K
open Go Go.RowKit
section
variable {P : Program} {n : Nat} {env : Env} {w0 : World} {R : Ro} {E : List Ent} {Q : Exit → Act → World → Prop} {o : Oper} {ops : List Oper} {ES : List Ent} {R0 : Ro} {fuel : Nat} {listed : Array Bool}
/-- at a panic: nothing is deferred, and Q whatever the frame's places hold -/
def OnP (n : Nat) (Q : Exit → Act → World → Prop) : Exit → Act → World → Prop
  | .panic c, a, w => a.defers = [] ∧ a.tmps.size = n ∧ ∀ a' : Act, a'.defers = [] → a'.tmps.size = n → Q (.panic c) a' w
  | e, a, w => Q e a w
theorem OnP.imp : ∀ (e : Exit) (a : Act) (w : World), OnP n Q e a w → Q e a w := fun e a w h => by
 cases e <;> first | exact h | exact h.2.2 a h.1 h.2.1
theorem OnP.of : ∀ (e : Exit) (a : Act) (w : World), NoPanic Q e a w → OnP n Q e a w := fun e a w h => by
 cases e <;> first | exact h | exact (h : False).elim
theorem wp_monoQ {Q' : Exit → Act → World → Prop} (h : ∀ e a w, Q e a w → Q' e a w) {a : Act} {w : World} {K : Act → World → Prop} (hh : o.wp P a w K Q) : o.wp P a w K Q' := by
 unfold Oper.wp at *
 generalize (execOp a.eval o).run P w = r at *
 have hl : LetsOut Q → LetsOut Q' := fun ⟨a, w, hq⟩ => ⟨a, w, h _ _ _ hq⟩
 cases r with
 | ok n w' =>
  cases n <;> simp only [Oper.upon] at hh ⊢ <;>
   first
    | exact hh
    | exact Calls.mono hh (fun e w'' he => by cases e <;> first | exact he | exact h _ _ _ he | exact hl he)
 | halt x w' => cases x <;> simp only [Oper.upon] at hh ⊢ <;> first | exact hh | exact h _ _ _ hh
theorem wpOp_monoQ {Q' : Exit → Act → World → Prop} (h : ∀ e a w, Q e a w → Q' e a w) {l : Array Oper} {i : Nat} {a : Act} {w : World} {K : Act → World → Prop} (hh : wpOp P l Q i K a w) : wpOp P l Q' i K a w := by
 have hl : LetsOut Q → LetsOut Q' := fun ⟨a, w, hq⟩ => ⟨a, w, h _ _ _ hq⟩
 unfold wpOp at *
 split
 ·rename_i ho; simp only [ho] at hh; exact hh
 ·rename_i o ho
  simp only [ho] at hh
  split
  ·rename_i hw; simp only [hw, if_true] at hh; exact hh.imp (wp_monoQ h) (fun ⟨x, y⟩ => ⟨x, hl y⟩)
  ·rename_i hw; simp only [hw] at hh; exact hh
theorem wpAnyH_monoQ {Q' : Exit → Act → World → Prop} (h : ∀ e a w, Q e a w → Q' e a w) {l : Array Oper} {S : World → Prop} : ∀ (fuel : Nat) (listed : Array Bool) (a : Act) (w : World), wpAnyH P .any l Q S fuel listed a w → wpAnyH P .any l Q' S fuel listed a w
 | 0, _, _, _, hh => ⟨hh.1, h _ _ _ hh.2⟩
 | fuel + 1, _, _, _, hh => ⟨fun hr => h _ _ _ (hh.1 hr), fun i hi => wpOp_monoQ h (wpOp_mono (fun a' w' h' => ⟨h'.1, wpAnyH_monoQ h fuel _ a' w' h'.2⟩) (hh.2 i hi))⟩
def WAX (P : Program) (ops : List Oper) (Q : Exit → Act → World → Prop) (ES : List Ent) (R0 : Ro) (w0 : World) (fuel : Nat) (listed : Array Bool) (n : Nat) (env : Env) (R : Ro) (E : List Ent) : Prop :=
  ∀ a w, Kn n env a → Mem w0 w R E → wpAnyH P .any ops.toArray (OnP n Q) (fun w => Mem w0 w R0 ES) fuel listed a w
def WSX (P : Program) (ops : List Oper) (Q : Exit → Act → World → Prop) (ES : List Ent) (R0 : Ro) (w0 : World) (fuel : Nat) (listed : Array Bool) (n : Nat) (env : Env) (R : Ro) (E : List Ent) (i : Nat) : Prop :=
  ∀ a w, Kn n env a → Mem w0 w R E → wpOp P ops.toArray (OnP n Q) i (fun a' w' => Mem w0 w' R0 ES ∧ wpAnyH P .any ops.toArray (OnP n Q) (fun w => Mem w0 w R0 ES) fuel (listed.setIfInBounds i true) a' w') a w
theorem W.regionX (id : Nat) {l : List Oper} {ES : List Ent} (hm : P.follows .mixedOrders = true)
  (h : WAX P l Q ES R w0 l.toArray.size (Array.replicate l.toArray.size false) n env R E) : W P (.region id l.toArray true) Q n env w0 R E := by
 intro a w hk hw
 refine Code.wp_mono (Q := OnP n Q) OnP.imp (wp_region_held (S := fun w => Mem w0 w R ES) hm ?_)
 exact h a _ hk hw.drew
theorem WAX.of (h : WA P ops Q ES R0 w0 fuel listed n env R E) : WAX P ops Q ES R0 w0 fuel listed n env R E := fun a w hk hm => wpAnyH_monoQ OnP.of _ _ _ _ (h a w hk hm)
theorem WAX.take {v : Value} {d : Nat} {pc : Bool} (i : Nat) (hi : ops.toArray[i]? = some o) (hs : Region.noSelect ops.toArray = true) (hf : Region.free .any ops.toArray listed i = true) (hr : (Region.ready .any ops.toArray listed).contains i = true)
  (hg : gpc ops env o = some pc) (hd : o.dst = some d) (hdn : d < n) (hy : Yl P n env w0 R0 ES o pc v) (hsub : ES.Sublist E) (hR : RLe R0 R)
  (h : WAX P ops Q ES R0 w0 fuel (listed.setIfInBounds i true) n ((d, pc, v) :: env) R E) : WAX P ops Q ES R0 w0 (fuel + 1) listed n env R E := by
 intro a w hk hm
 have hput := hk.put hdn pc v
 refine wpAnyH_take (v := if pc then v else undef) hi hs hf hr (fun c a' w' h' => ?_) ?_ (hm.sub hR hsub) ?_
 ·obtain ⟨h1, h2, h3⟩ := h'
  refine ⟨?_, ?_, h3⟩
  ·unfold Act.put at h1; cases hdd : o.dst <;> simp only [hdd] at h1 <;> exact h1
  ·unfold Act.put at h2; cases hdd : o.dst <;> simp only [hdd] at h2 <;> simpa using h2
 ·cases pc with
  | true => exact .inl ⟨hk.wanted hg, fun w hm => by simpa using hy a w hk hm rfl⟩
  | false => exact .inr ⟨hk.wanted hg, rfl⟩
 ·rw [hd]
  exact h _ _ hput hm
theorem WAX.br2 {i j : Nat} (hr : Region.ready .any ops.toArray listed = [i, j]) (h1 : WSX P ops Q ES R0 w0 fuel listed n env R E i) (h2 : WSX P ops Q ES R0 w0 fuel listed n env R E j) : WAX P ops Q ES R0 w0 (fuel + 1) listed n env R E := by
 intro a w hk hm
 refine wpAnyH_all hr (by simp) fun m hm' => ?_
 rcases List.mem_cons.1 hm' with rfl | hm'
 ·exact h1 a w hk hm
 ·obtain rfl : m = j := by simpa using hm'
  exact h2 a w hk hm
theorem WAX.one {i : Nat} (hr : Region.ready .any ops.toArray listed = [i]) (h1 : WSX P ops Q ES R0 w0 fuel listed n env R E i) : WAX P ops Q ES R0 w0 (fuel + 1) listed n env R E := by
 intro a w hk hm
 refine wpAnyH_all hr (by simp) fun m hm' => ?_
 obtain rfl : m = i := by simpa using hm'
 exact h1 a w hk hm
theorem WSX.yl {v : Value} {d : Nat} {i : Nat} (hi : ops.toArray[i]? = some o) (hg : o.guard = none) (hd : o.dst = some d) (hdn : d < n) (hy : Yl P n env w0 R E o true v) (hsub : ES.Sublist E) (hR : RLe R0 R)
  (h : WAX P ops Q ES R0 w0 fuel (listed.setIfInBounds i true) n ((d, true, v) :: env) R E) : WSX P ops Q ES R0 w0 fuel listed n env R E i := by
 intro a w hk hm
 unfold wpOp
 rw [hi]
 simp only [Region.wanted, hg, if_true]
 left
 unfold Oper.wp
 rw [hy a w hk hm rfl]
 simp only [Oper.upon, hd]
 exact ⟨hm.sub hR hsub, h _ _ (hk.putT hdn v) hm⟩
theorem WSX.callXAt {d : Nat} {f : FuncId} {vs : List Value} {e : Ent} {Post : Value → Ro → Ent → List Ent → Prop} {PX : Value → Ro → Ent → Prop} (k : Nat) {i : Nat} (hi : ops.toArray[i]? = some o) (hf : Enters P f) (hg : o.guard = none) (hd : o.dst = some d) (hdn : d < n)
  (hc : CallOp env o.op true f vs) (hE : E[k]? = some e)
  (hv : FnX P f vs w0 R (e :: E.eraseIdx k) (fun v R' E' => ∃ e' N, E' = N ++ e' :: E.eraseIdx k ∧ Post v R' e' N) (fun v R' E' => ∃ e', E' = e' :: E.eraseIdx k ∧ PX v R' e'))
  (hx : ∀ v R' e', RLe R R' → PX v R' e' → WE Q (.panic [{ v := v, recovered := false }]) n [] w0 R' (E.set k e'))
  (h : ∀ v R' e' N, RLe R R' → Post v R' e' N → RLe R0 R' ∧ ES.Sublist (N ++ E.set k e') ∧ WA P ops Q ES R0 w0 fuel (listed.setIfInBounds i true) n ((d, true, v) :: env) R' (N ++ E.set k e')) (hds : markOf env = none := by rfl) : WSX P ops Q ES R0 w0 fuel listed n env R E i := by
 intro a w hk hm
 unfold wpOp
 rw [hi]
 simp only [Region.wanted, hg, if_true]
 left
 unfold Oper.wp
 rw [run_call hk hc rfl hf]
 refine (hv w (hm.perm (perm_get hE))).mono ?_
 rintro e0 w' (⟨v, R', E', rfl, hR, hm', e', N, rfl, hp⟩ | ⟨v, R', E', rfl, hR, hm', e', rfl, hp⟩)
 ·obtain ⟨g1, g2, g3⟩ := h v R' e' N hR hp
  have hm2 := hm'.perm ((perm_set e' hE).append_left N)
  simp only [hd]
  exact ⟨hm2.sub g1 g2, wpAnyH_monoQ OnP.of _ _ _ _ (g3 _ _ (hk.putT hdn v) hm2)⟩
 ·refine ⟨by rw [hk.defers]; unfold dsOf; rw [hds], hk.size, fun a' h1 h2 => hx v R' e' hR hp a' w' ⟨h2, hk.small, by rw [h1]; rfl, fun t p v ht => by cases ht⟩ (hm'.perm (perm_set e' hE))⟩
end
end Go.Proofs.YtejpkjapmhpmpaaDoor.K

/- The reader of words beside the plain reading of a text. Plain. No condition. -/
namespace Go.Proofs.YtejpkjapmhpmpaaDoor.M
open Go Go.Proofs.YtejpkjapmhpmpaaDoor.K
/-- how many bytes the words that are left take -/
def remL : List (List UInt8) → Nat
  | [] => 0
  | w :: ws => w.length + 1 + remL ws
theorem remL_spl : ∀ s : List UInt8, remL (spl s) = s.length + 1
 | [] => rfl
 | c :: s => by
  have ih := remL_spl s
  unfold spl
  split
  ·show 0 + 1 + remL (spl s) = _; rw [ih, List.length_cons]; omega
  ·cases h : spl s with
   | nil => exact absurd h (spl_ne s)
   | cons w ws =>
    rw [h] at ih
    show w.length + 1 + 1 + remL ws = _
    have : w.length + 1 + remL ws = s.length + 1 := ih
    rw [List.length_cons]; omega
theorem remL_len : ∀ ws : List (List UInt8), ws.length ≤ remL ws
 | [] => Nat.le_refl 0
 | w :: ws => by have := remL_len ws; show ws.length + 1 ≤ w.length + 1 + remL ws; omega
theorem remL_mem {w : List UInt8} : ∀ {ws : List (List UInt8)}, w ∈ ws → w.length ≤ remL ws
 | [], h => by cases h
 | v :: ws, h => by
  show _ ≤ v.length + 1 + remL ws
  rcases List.mem_cons.1 h with rfl | h
  ·omega
  ·have := remL_mem h; omega
/-- where reading stands: what is left -/
structure Rdr (size : Nat) (ws : List (List UInt8)) (wh : Nat) (vals : List Int) (per inc : Int) (at' k : Nat) : Prop where
  go : parseGo size 0 [] 0 0 0 ws = parseGo size wh vals per inc at' (ws.drop k)
  le : k ≤ ws.length
  rem : at' + remL (ws.drop k) ≤ 10000
  len : vals.length ≤ k
theorem Rdr.start {size : Nat} {ws : List (List UInt8)} (h : remL ws ≤ 10000) : Rdr size ws 0 [] 0 0 0 0 := ⟨rfl, Nat.zero_le _, by rw [List.drop_zero]; omega, Nat.le_refl _⟩
section
variable {size : Nat} {ws : List (List UInt8)} {wh : Nat} {vals : List Int} {per inc : Int} {at' k : Nat}
theorem Rdr.eof (h : Rdr size ws wh vals per inc at' k) (hk : ¬ k < ws.length) (hw : wh ≠ 5) : parseGo size 0 [] 0 0 0 ws = (zcv, size, 4) := by
 rw [h.go, List.drop_eq_nil_of_le (by omega), parseGo, if_neg hw]
theorem Rdr.fin (h : Rdr size ws 5 vals per inc at' k) (hk : ¬ k < ws.length) : parseGo size 0 [] 0 0 0 ws = (⟨vals, per, inc⟩, 0, 0) := by
 rw [h.go, List.drop_eq_nil_of_le (by omega), parseGo, if_pos rfl]
theorem Rdr.cons (h : Rdr size ws wh vals per inc at' k) (hk : k < ws.length) : parseGo size 0 [] 0 0 0 ws = parseGo size wh vals per inc at' (nth ws k :: ws.drop (k + 1)) ∧ at' + (nth ws k).length + 1 + remL (ws.drop (k + 1)) ≤ 10000 := by
 have e : ws.drop k = nth ws k :: ws.drop (k + 1) := by rw [nth_eq hk]; exact List.drop_eq_getElem_cons hk
 have h1 := h.go
 have h2 := h.rem
 rw [e] at h1 h2
 exact ⟨h1, by have : remL (nth ws k :: ws.drop (k + 1)) = (nth ws k).length + 1 + remL (ws.drop (k + 1)) := rfl; omega⟩
theorem Rdr.at_le (h : Rdr size ws wh vals per inc at' k) : k < ws.length → at' + (nth ws k).length ≤ 2000000 := fun hk => by have := (h.cons hk).2; omega
theorem Rdr.infS (h : Rdr size ws wh vals per inc at' k) (hk : k < ws.length) (hw : wh ≤ 1) (e : nth ws k = wInf) : Rdr size ws 1 (vals ++ [INF]) per inc (at' + (nth ws k).length + 1) (k + 1) := by
 obtain ⟨h1, h2⟩ := h.cons hk
 have h3 := h.len
 refine ⟨?_, by omega, h2, by rw [List.length_append]; show _ + 1 ≤ _; omega⟩
 rw [h1, parseGo, if_pos ⟨hw, e⟩]
theorem Rdr.perS (h : Rdr size ws 1 vals per inc at' k) (hk : k < ws.length) (e : nth ws k = wPer) : Rdr size ws 2 vals per inc (at' + (nth ws k).length + 1) (k + 1) := by
 obtain ⟨h1, h2⟩ := h.cons hk
 have h3 := h.len
 refine ⟨?_, by omega, h2, by omega⟩
 rw [h1, parseGo, if_neg (fun hh => by rw [e] at hh; exact absurd hh.2 (by decide)), if_pos ⟨rfl, e⟩]
theorem Rdr.incS (h : Rdr size ws 3 vals per inc at' k) (hk : k < ws.length) (e : nth ws k = wInc) : Rdr size ws 4 vals per inc (at' + (nth ws k).length + 1) (k + 1) := by
 obtain ⟨h1, h2⟩ := h.cons hk
 have h3 := h.len
 refine ⟨?_, by omega, h2, by omega⟩
 rw [h1, parseGo, if_neg (fun hh => absurd hh.1 (by decide)), if_neg (fun hh => absurd hh.1 (by decide)), if_pos ⟨rfl, e⟩]
theorem Rdr.incErr (h : Rdr size ws 3 vals per inc at' k) (hn : (wordE ws wInc k at' size).2 ≠ 0) : parseGo size 0 [] 0 0 0 ws = (zcv, wordE ws wInc k at' size) := by
 unfold wordE at hn ⊢
 by_cases hk : k < ws.length
 ·rw [if_pos hk] at hn ⊢
  by_cases e : nth ws k = wInc
  ·rw [if_pos e] at hn; exact absurd rfl hn
  ·rw [if_neg e]
   rw [(h.cons hk).1, parseGo, if_neg (fun hh => absurd hh.1 (by decide)), if_neg (fun hh => absurd hh.1 (by decide)), if_neg (fun hh => e hh.2), if_neg (fun hh => hh.2.1 rfl)]
 ·rw [if_neg hk, h.eof hk (by decide)]
/-- a number is read -/
theorem Rdr.numOk (h : Rdr size ws wh vals per inc at' k) (hk : k < ws.length) (hn : numE ws k at' size = (0, 0)) : digs (nth ws k) = true ∧ ¬ 1073741824 < numV (nth ws k) := by
 unfold numE at hn
 rw [if_pos hk] at hn
 by_cases hd : digs (nth ws k) = true
 ·rw [if_pos hd] at hn
  by_cases hb : 1073741824 < numV (nth ws k)
  ·rw [if_pos hb] at hn; cases hn
  ·exact ⟨hd, hb⟩
 ·rw [if_neg hd] at hn; cases hn
theorem digs_ne {w : List UInt8} (h : digs w = true) : w ≠ wInf ∧ w ≠ wPer ∧ w ≠ wInc :=
 ⟨fun e => (by rw [e, wInf_no] at h; cases h), fun e => (by rw [e, wPer_no] at h; cases h), fun e => (by rw [e, wInc_no] at h; cases h)⟩
theorem Rdr.step (h : Rdr size ws wh vals per inc at' k) (hk : k < ws.length) (hd : digs (nth ws k) = true) (hb : ¬ 1073741824 < numV (nth ws k)) (hw : wh ≠ 3 ∧ wh ≠ 5) :
  parseGo size 0 [] 0 0 0 ws = if wh = 2 then parseGo size 3 vals (numV (nth ws k)) inc (at' + (nth ws k).length + 1) (ws.drop (k + 1))
   else if wh = 4 then parseGo size 5 vals per (numV (nth ws k)) (at' + (nth ws k).length + 1) (ws.drop (k + 1))
   else parseGo size 1 (vals ++ [(numV (nth ws k) : Int)]) per inc (at' + (nth ws k).length + 1) (ws.drop (k + 1)) := by
 obtain ⟨n1, n2, n3⟩ := digs_ne hd
 rw [(h.cons hk).1, parseGo, if_neg (fun hh => n1 hh.2), if_neg (fun hh => n2 hh.2), if_neg (fun hh => n3 hh.2), if_pos ⟨hd, hw⟩, if_neg hb]
theorem Rdr.val (h : Rdr size ws wh vals per inc at' k) (hk : k < ws.length) (hw : wh ≤ 1) (hn : numE ws k at' size = (0, 0)) : Rdr size ws 1 (vals ++ [(numV (nth ws k) : Int)]) per inc (at' + (nth ws k).length + 1) (k + 1) := by
 obtain ⟨hd, hb⟩ := h.numOk hk hn
 have h3 := h.len
 exact ⟨by rw [h.step hk hd hb (by omega), if_neg (by omega), if_neg (by omega)], by omega, (h.cons hk).2, by rw [List.length_append]; show _ + 1 ≤ _; omega⟩
theorem Rdr.num2 (h : Rdr size ws 2 vals per inc at' k) (hk : k < ws.length) (hn : numE ws k at' size = (0, 0)) : Rdr size ws 3 vals (numV (nth ws k)) inc (at' + (nth ws k).length + 1) (k + 1) := by
 obtain ⟨hd, hb⟩ := h.numOk hk hn
 have h3 := h.len
 exact ⟨by rw [h.step hk hd hb (by omega), if_pos rfl], by omega, (h.cons hk).2, by omega⟩
theorem Rdr.num4 (h : Rdr size ws 4 vals per inc at' k) (hk : k < ws.length) (hn : numE ws k at' size = (0, 0)) : Rdr size ws 5 vals per (numV (nth ws k)) (at' + (nth ws k).length + 1) (k + 1) := by
 obtain ⟨hd, hb⟩ := h.numOk hk hn
 have h3 := h.len
 exact ⟨by rw [h.step hk hd hb (by omega), if_neg (by omega), if_pos rfl], by omega, (h.cons hk).2, by omega⟩
/-- a number that is not read -/
theorem Rdr.numErr (h : Rdr size ws wh vals per inc at' k) (hw : wh ≠ 3 ∧ wh ≠ 5) (h1 : k < ws.length → wh ≤ 1 → nth ws k ≠ wInf) (h2 : k < ws.length → wh = 1 → nth ws k ≠ wPer) (hn : (numE ws k at' size).2 ≠ 0) : parseGo size 0 [] 0 0 0 ws = (zcv, numE ws k at' size) := by
 unfold numE at hn ⊢
 by_cases hk : k < ws.length
 ·rw [if_pos hk] at hn ⊢
  by_cases hd : digs (nth ws k) = true
  ·rw [if_pos hd] at hn ⊢
   by_cases hb : 1073741824 < numV (nth ws k)
   ·rw [if_pos hb]
    obtain ⟨n1, n2, n3⟩ := digs_ne hd
    rw [(h.cons hk).1, parseGo, if_neg (fun hh => n1 hh.2), if_neg (fun hh => n2 hh.2), if_neg (fun hh => n3 hh.2), if_pos ⟨hd, hw⟩, if_pos hb]
   ·rw [if_neg hb] at hn; exact absurd rfl hn
  ·rw [if_neg hd]
   rw [(h.cons hk).1, parseGo, if_neg (fun hh => h1 hk hh.1 hh.2), if_neg (fun hh => h2 hk hh.1 hh.2), if_neg (fun hh => hw.1 hh.1), if_neg (fun hh => hd hh.1)]
 ·rw [if_neg hk, h.eof hk hw.2]
/-- a word too much -/
theorem Rdr.more (h : Rdr size ws 5 vals per inc at' k) (hk : k < ws.length) : parseGo size 0 [] 0 0 0 ws = (zcv, at', 4) := by
 rw [(h.cons hk).1, parseGo, if_neg (fun hh => absurd hh.1 (by decide)), if_neg (fun hh => absurd hh.1 (by decide)), if_neg (fun hh => absurd hh.1 (by decide)), if_neg (fun hh => hh.2.2 rfl)]
end
def whV (vs : List Int) : Nat := if vs = [] then 0 else 1
theorem whV_le (vs : List Int) : whV vs ≤ 1 := by unfold whV; split <;> omega
theorem whV_snoc (vs : List Int) (v : Int) : whV (vs ++ [v]) = 1 := if_neg (by simp)
end Go.Proofs.YtejpkjapmhpmpaaDoor.M

/- The reader of words: a curve. No condition. -/
set_option maxRecDepth 4000
set_option linter.unusedSimpArgs false
set_option linter.unusedVariables false
namespace Go.Proofs.YtejpkjapmhpmpaaDoor
open Go Go.RowKit Go.Proofs.YtejpkjapmhpmpaaDoor.K Go.Proofs.YtejpkjapmhpmpaaDoor.M

set_option maxHeartbeats 2000000 in
theorem CurveR_C {R : Ro} {b : Nat} {a : Option Addr} {cp : Nat} {ws : List (List UInt8)} {size : Nat} (w0 : World) (hws : RS R 1 encT a ws) (hsz : size ≤ 1000000) (hG : GlobE R) (hrm : remL ws ≤ 10000) (F : List Ent) : FnX Tryd.prog 38 [.pointer (some ⟨b, 0, none⟩)] w0 R (rdE b a cp ws 0 0 size :: F) (fun v R' E' => ∃ (c : Cv) (f : Option Addr) (fc : Nat), v = .agg #[.slice f c.vals.length fc, .int .i64 c.per, .int .i64 c.inc] ∧ RS R' 1 encI f c.vals ∧ c.vals.length ≤ fc ∧ c.vals.length ≤ 10000 ∧ parseGo size 0 [] 0 0 0 ws = (c, 0, 0) ∧ F.Sublist E') (fun v R' E' => ∃ (p : Nat) (e : Int), v = failV p e ∧ parseGo size 0 [] 0 0 0 ws = (zcv, p, e) ∧ e ≠ 0 ∧ F.Sublist E') := by
 have hwl := hws.len
 have hlw : ∀ w ∈ ws, w.length ≤ 1000000 := fun w hw => by have := remL_mem hw; omega
 have hwn := remL_len ws
 refine FnX.enter (n := 55) Tryd.func38 rfl rfl (Nat.le_of_ble_eq_true rfl) rfl ?_
 refine zQ (zG ?_)
 refine zA fun b2 => ?_
 refine zN (zU ?_)
 refine W.nil 3 1 qD ?_
 refine zQ (zG ?_)
 refine zA fun b3 => ?_
 refine zN (zU (zQ (zB ?_)))
 refine W.loopK (β := List Int × Option Addr × Nat × Nat × Nat) (fun (vs, a9, c9, k, p) => Rdr size ws (whV vs) vs 0 0 p k) (fun (vs, a9, c9, k, p) => []) [0, 2, 3] [_, _, _] [] _ rfl (fun (vs, a9, c9, k, p) => [(0, .blk b3 [.slice a9 (vs).length c9, .int .i64 0, .int .i64 0]), (1, .sl 3 1 a9 c9 ((vs).map encI)), (3, rdE b a cp ws k p size)]) (fun (vs, a9, c9, k, p) => ws.length - k) (([], none, 0, 0, 0)) (Rdr.start hrm) ⟨rfl, rfl, rfl, rfl⟩ qS ?_
 intro zz hst
 obtain ⟨vs, a9, c9, k, p⟩ := zz
 dsimp only [zipE, setAll, List.cons_append, List.nil_append, List.set_cons_zero, List.set_cons_succ] at hst ⊢
 have hr := hst
 have hw1 := whV_le vs
 have hvl := hr.len
 have hkl := hr.le
 refine zQ (zQ (zG (zR 1 rfl ?_)))
 refine WL.callXAt 3 en46 rfl rfl qD (CallOp.mkT rfl rfl rfl rfl) rfl (Need_C w0 hws hsz _) ?_ ?_
 ·
  rintro _ _ _ - ⟨rfl, hk, rfl, rfl⟩
  refine WE.then_panic ?_
  refine WE.then_panic ?_
  refine WE.then_panic ?_
  refine WE.blk_panic ?_
  refine WE.then_panic ?_
  refine WE.panicX (by first | exact RLe.refl _ | exact hR1) ?_
  exact ⟨_, _, rfl, hr.eof hk qO, by decide, qS⟩
 rintro _ _ _ _ - ⟨rfl, hk, rfl, rfl, rfl⟩
 refine WG.y rfl rfl qD (Yl.neS rfl rfl rfl (fun _ => rfl)) ?_
 refine zR 1 rfl ?_
 refine yP ?_
 refine' WG.y rfl rfl qD (Yl.loadG tab_ok rfl rfl rfl qE ?r1 rfl ?h1 ?g1) ?_
 case r1 => apply Rd.addC; (first | exact Rd.blkC 0 rfl | exact Rd.blkC 1 rfl | exact Rd.blkC 2 rfl | exact Rd.blkC 3 rfl | exact Rd.blkC 4 rfl)
 case h1 => rfl
 case g1 => first | exact fun _ => trivial | (intro hg; (try simp only [zk] at hg); (try dsimp only); omega)
 refine yP ?_
 refine yP ?_
 refine yO ?_
 refine zN (zU ?_)
 refine W.cond rfl (fun hc0 => ?_) (fun hc0 => ?_)
 ·try simp only [zk] at hc0
  have hnp : whV vs = 1 → nth ws k ≠ wPer := fun h e => by
   rcases hc0 with h0 | h0
   ·exact h0 (by rw [e]; rfl)
   ·have : vs = [] := List.eq_nil_of_length_eq_zero (by omega)
    rw [this] at h; cases h
  refine zK (zU (zB (zQ (zQ (zG (zR 1 rfl ?_))))))
  refine WL.callXAt 3 en46 rfl rfl qD (CallOp.mkT rfl rfl rfl rfl) rfl (Need_C w0 hws hsz _) ?_ ?_
  ·
   rintro _ _ _ - ⟨rfl, hk, rfl, rfl⟩
   refine WE.then_panic ?_
   refine WE.then_panic ?_
   refine WE.blk_panic ?_
   refine WE.then_panic ?_
   refine WE.blk_panic ?_
   refine WE.then_panic ?_
   refine WE.panicX (by first | exact RLe.refl _ | exact hR1) ?_
   exact ⟨_, _, rfl, hr.eof hk qO, by decide, qS⟩
  rintro _ _ _ _ - ⟨rfl, hk, rfl, rfl, rfl⟩
  refine WG.y rfl rfl qD (Yl.eqS rfl rfl rfl (fun _ => rfl)) ?_
  refine zN (zU ?_)
  refine W.cond rfl (fun hc1 => ?_) (fun hc1 => ?_)
  ·try simp only [zk] at hc1
   have hinf : nth ws k = wInf := str_inj (b := wInf) hc1
   refine zQ (zG (zR 1 rfl ?_))
   refine' WG.y rfl rfl qD (Yl.load1 tab_ok rfl rfl rfl (fun _ => rfl) ?r2 rfl ?h2) ?_
   case r2 => apply Rd.add; (first | exact Rd.blk 0 rfl | exact Rd.blk 1 rfl | exact Rd.blk 2 rfl | exact Rd.blk 3 rfl | exact Rd.blk 4 rfl)
   case h2 => rfl
   refine WL.ef rfl rfl qD (Ef.buildSliceD (enc := encI) (parts := [.const (.int .i64 4611686018427387904)]) [_] tab_ok rfl rfl rfl rfl rfl rfl rfl rfl qD qD (fun a20 => ?_))
   first | refine WL.ef rfl rfl (by decide) (Ef.appendD 1 0 tab_ok rfl rfl rfl rfl rfl rfl rfl rfl rfl rfl rfl (fun _ _ => rfl) (by simp only [List.length_cons, List.length_nil]; omega) (by simp only [List.length_cons, List.length_nil]; omega) (fun a21 c21 ha21 => ?_)) | refine WL.ef rfl rfl (by decide) (Ef.appendD 2 0 tab_ok rfl rfl rfl rfl rfl rfl rfl rfl rfl rfl rfl (fun _ _ => rfl) (by simp only [List.length_cons, List.length_nil]; omega) (by simp only [List.length_cons, List.length_nil]; omega) (fun a21 c21 ha21 => ?_)) | refine WL.ef rfl rfl (by decide) (Ef.appendD 3 0 tab_ok rfl rfl rfl rfl rfl rfl rfl rfl rfl rfl rfl (fun _ _ => rfl) (by simp only [List.length_cons, List.length_nil]; omega) (by simp only [List.length_cons, List.length_nil]; omega) (fun a21 c21 ha21 => ?_)) | refine WL.ef rfl rfl (by decide) (Ef.appendD 4 0 tab_ok rfl rfl rfl rfl rfl rfl rfl rfl rfl rfl rfl (fun _ _ => rfl) (by simp only [List.length_cons, List.length_nil]; omega) (by simp only [List.length_cons, List.length_nil]; omega) (fun a21 c21 ha21 => ?_)) | refine WL.ef rfl rfl (by decide) (Ef.appendR 0 tab_ok rfl rfl rfl rfl rfl rfl rfl rfl rfl rfl (by assumption) (fun _ _ => rfl) (by (try dsimp only); omega) (by omega) (fun a21 c21 ha21 => ?_)) | refine WL.ef rfl rfl (by decide) (Ef.appendR 1 tab_ok rfl rfl rfl rfl rfl rfl rfl rfl rfl rfl (by assumption) (fun _ _ => rfl) (by (try dsimp only); omega) (by omega) (fun a21 c21 ha21 => ?_)) | refine WL.ef rfl rfl (by decide) (Ef.appendR 2 tab_ok rfl rfl rfl rfl rfl rfl rfl rfl rfl rfl (by assumption) (fun _ _ => rfl) (by (try dsimp only); omega) (by omega) (fun a21 c21 ha21 => ?_)) | refine WL.ef rfl rfl (by decide) (Ef.appendR 3 tab_ok rfl rfl rfl rfl rfl rfl rfl rfl rfl rfl (by assumption) (fun _ _ => rfl) (by (try dsimp only); omega) (by omega) (fun a21 c21 ha21 => ?_)) | refine WL.ef rfl rfl (by decide) (Ef.appendR 4 tab_ok rfl rfl rfl rfl rfl rfl rfl rfl rfl rfl (by assumption) (fun _ _ => rfl) (by (try dsimp only); omega) (by omega) (fun a21 c21 ha21 => ?_))
   refine zR 1 rfl ?_
   first | refine WL.efN rfl rfl (Ef.store 0 tab_ok rfl rfl rfl rfl rfl rfl rfl rfl ?_) | refine WL.efN rfl rfl (Ef.store 1 tab_ok rfl rfl rfl rfl rfl rfl rfl rfl ?_) | refine WL.efN rfl rfl (Ef.store 2 tab_ok rfl rfl rfl rfl rfl rfl rfl rfl ?_) | refine WL.efN rfl rfl (Ef.store 3 tab_ok rfl rfl rfl rfl rfl rfl rfl rfl ?_) | refine WL.efN rfl rfl (Ef.store 4 tab_ok rfl rfl rfl rfl rfl rfl rfl rfl ?_)
   refine zN (zU (zQ (zG (zR 1 rfl ?_))))
   refine WL.callAt 4 en47 rfl rfl qD (CallOp.mkT rfl rfl rfl rfl) rfl (Skip_C w0 hws hsz hk (hr.at_le hk) _) ?_
   rintro _ _ _ _ - ⟨rfl, rfl, rfl, rfl⟩
   refine zN (zU ?_)
   refine zX ?_
   refine wx (zY ?_)
   refine WE.again ((vs ++ [INF], a21, c21, k + 1, p + (nth ws k).length + 1)) (by (try dsimp only); rw [whV_snoc]; exact hr.infS hk hw1 hinf) (by (try dsimp only); omega) ⟨rfl, rfl, rfl, rfl⟩ (RLe.refl _) qS
  ·try simp only [zk] at hc1
   have hinf : nth ws k ≠ wInf := fun e => hc1 (by rw [e]; rfl)
   refine zK (zU ?_)
   refine W.regionX _ (ES := []) mixed ?_
   refine WAX.take 0 rfl qK qK qK rfl rfl qD (pureV_ok tab_ok rfl (fun _ => rfl)) qS qR ?_
   refine WAX.take 2 rfl qK qK qK rfl rfl qD (pureV_ok tab_ok rfl (fun _ => rfl)) qS qR ?_
   refine WAX.br2 (i := 1) (j := 3) qK ?_ ?_
   ·
    refine' WSX.yl rfl rfl rfl qD (Yl.load1 tab_ok rfl rfl rfl (fun _ => rfl) ?r3 rfl ?h3) qS qR ?_
    case r3 => apply Rd.add; (first | exact Rd.blk 0 rfl | exact Rd.blk 1 rfl | exact Rd.blk 2 rfl | exact Rd.blk 3 rfl | exact Rd.blk 4 rfl)
    case h3 => rfl
    refine WAX.one (i := 3) qK ?_
    first | refine WSX.callXAt 3 rfl en48 rfl rfl qD (CallOp.mkT rfl rfl rfl rfl) rfl (Number_C w0 hws hsz hG hlw hr.at_le _) ?_ ?_
    ·
     rintro _ _ _ - ⟨rfl, hn, rfl, rfl⟩
     refine WE.blk_panic ?_
     refine WE.then_panic ?_
     refine WE.blk_panic ?_
     refine WE.then_panic ?_
     refine WE.panicX (by first | exact RLe.refl _ | exact hR1) ?_
     exact ⟨_, _, rfl, hr.numErr qO (fun _ _ => hinf) (fun _ h => hnp h) hn, hn, qS⟩
    rintro _ _ _ _ - ⟨rfl, hk2, hn2, rfl, rfl, rfl⟩
    refine ⟨RLe.refl _, List.nil_sublist _, ?_⟩
    refine WA.eff 4 rfl qK rfl rfl qD (Ef.buildSliceD (enc := encI) (parts := [.tmp 28]) [_] tab_ok rfl rfl rfl rfl rfl rfl rfl rfl qD qD (fun a29 => ?_))
    refine ⟨qR, qS, ?_⟩
    first | refine WA.eff 5 rfl (by kernel_rfl) rfl rfl (by decide) (Ef.appendD 1 0 tab_ok rfl rfl rfl rfl rfl rfl rfl rfl rfl rfl rfl (fun _ _ => rfl) (by simp only [List.length_cons, List.length_nil]; omega) (by simp only [List.length_cons, List.length_nil]; omega) (fun a30 c30 ha30 => ?_)) | refine WA.eff 5 rfl (by kernel_rfl) rfl rfl (by decide) (Ef.appendD 2 0 tab_ok rfl rfl rfl rfl rfl rfl rfl rfl rfl rfl rfl (fun _ _ => rfl) (by simp only [List.length_cons, List.length_nil]; omega) (by simp only [List.length_cons, List.length_nil]; omega) (fun a30 c30 ha30 => ?_)) | refine WA.eff 5 rfl (by kernel_rfl) rfl rfl (by decide) (Ef.appendD 3 0 tab_ok rfl rfl rfl rfl rfl rfl rfl rfl rfl rfl rfl (fun _ _ => rfl) (by simp only [List.length_cons, List.length_nil]; omega) (by simp only [List.length_cons, List.length_nil]; omega) (fun a30 c30 ha30 => ?_)) | refine WA.eff 5 rfl (by kernel_rfl) rfl rfl (by decide) (Ef.appendD 4 0 tab_ok rfl rfl rfl rfl rfl rfl rfl rfl rfl rfl rfl (fun _ _ => rfl) (by simp only [List.length_cons, List.length_nil]; omega) (by simp only [List.length_cons, List.length_nil]; omega) (fun a30 c30 ha30 => ?_)) | refine WA.eff 5 rfl (by kernel_rfl) rfl rfl (by decide) (Ef.appendR 0 tab_ok rfl rfl rfl rfl rfl rfl rfl rfl rfl rfl (by assumption) (fun _ _ => rfl) (by (try dsimp only); omega) (by omega) (fun a30 c30 ha30 => ?_)) | refine WA.eff 5 rfl (by kernel_rfl) rfl rfl (by decide) (Ef.appendR 1 tab_ok rfl rfl rfl rfl rfl rfl rfl rfl rfl rfl (by assumption) (fun _ _ => rfl) (by (try dsimp only); omega) (by omega) (fun a30 c30 ha30 => ?_)) | refine WA.eff 5 rfl (by kernel_rfl) rfl rfl (by decide) (Ef.appendR 2 tab_ok rfl rfl rfl rfl rfl rfl rfl rfl rfl rfl (by assumption) (fun _ _ => rfl) (by (try dsimp only); omega) (by omega) (fun a30 c30 ha30 => ?_)) | refine WA.eff 5 rfl (by kernel_rfl) rfl rfl (by decide) (Ef.appendR 3 tab_ok rfl rfl rfl rfl rfl rfl rfl rfl rfl rfl (by assumption) (fun _ _ => rfl) (by (try dsimp only); omega) (by omega) (fun a30 c30 ha30 => ?_)) | refine WA.eff 5 rfl (by kernel_rfl) rfl rfl (by decide) (Ef.appendR 4 tab_ok rfl rfl rfl rfl rfl rfl rfl rfl rfl rfl (by assumption) (fun _ _ => rfl) (by (try dsimp only); omega) (by omega) (fun a30 c30 ha30 => ?_))
    refine ⟨qR, qS, ?_⟩
    refine tP 6 ?_
    first | refine WA.effN 7 rfl qK rfl rfl (Ef.store 0 tab_ok rfl rfl rfl rfl rfl rfl rfl rfl ?_) | refine WA.effN 7 rfl qK rfl rfl (Ef.store 1 tab_ok rfl rfl rfl rfl rfl rfl rfl rfl ?_) | refine WA.effN 7 rfl qK rfl rfl (Ef.store 2 tab_ok rfl rfl rfl rfl rfl rfl rfl rfl ?_) | refine WA.effN 7 rfl qK rfl rfl (Ef.store 3 tab_ok rfl rfl rfl rfl rfl rfl rfl rfl ?_) | refine WA.effN 7 rfl qK rfl rfl (Ef.store 4 tab_ok rfl rfl rfl rfl rfl rfl rfl rfl ?_)
    refine ⟨qR, qS, ?_⟩
    refine WA.done qK ?_
    refine zL ?_
    refine WE.again ((vs ++ [(numV (nth ws k) : Int)], a30, c30, k + 1, p + (nth ws k).length + 1)) (by (try dsimp only); rw [whV_snoc]; exact hr.val hk hw1 hn2) (by (try dsimp only); omega) ⟨rfl, rfl, rfl, rfl⟩ (RLe.refl _) qS
   ·
    first | refine WSX.callXAt 3 rfl en48 rfl rfl qD (CallOp.mkT rfl rfl rfl rfl) rfl (Number_C w0 hws hsz hG hlw hr.at_le _) ?_ ?_
    ·
     rintro _ _ _ - ⟨rfl, hn, rfl, rfl⟩
     refine WE.blk_panic ?_
     refine WE.then_panic ?_
     refine WE.blk_panic ?_
     refine WE.then_panic ?_
     refine WE.panicX (by first | exact RLe.refl _ | exact hR1) ?_
     exact ⟨_, _, rfl, hr.numErr qO (fun _ _ => hinf) (fun _ h => hnp h) hn, hn, qS⟩
    rintro _ _ _ _ - ⟨rfl, hk2, hn2, rfl, rfl, rfl⟩
    refine ⟨RLe.refl _, List.nil_sublist _, ?_⟩
    refine WA.br2 (i := 1) (j := 4) qK ?_ ?_
    ·
     refine' WS.yl rfl rfl rfl qD (Yl.load1 tab_ok rfl rfl rfl (fun _ => rfl) ?r4 rfl ?h4) qS qR ?_
     case r4 => apply Rd.add; (first | exact Rd.blk 0 rfl | exact Rd.blk 1 rfl | exact Rd.blk 2 rfl | exact Rd.blk 3 rfl | exact Rd.blk 4 rfl)
     case h4 => rfl
     refine WA.eff 4 rfl qK rfl rfl qD (Ef.buildSliceD (enc := encI) (parts := [.tmp 28]) [_] tab_ok rfl rfl rfl rfl rfl rfl rfl rfl qD qD (fun a29 => ?_))
     refine ⟨qR, qS, ?_⟩
     first | refine WA.eff 5 rfl (by kernel_rfl) rfl rfl (by decide) (Ef.appendD 1 0 tab_ok rfl rfl rfl rfl rfl rfl rfl rfl rfl rfl rfl (fun _ _ => rfl) (by simp only [List.length_cons, List.length_nil]; omega) (by simp only [List.length_cons, List.length_nil]; omega) (fun a30 c30 ha30 => ?_)) | refine WA.eff 5 rfl (by kernel_rfl) rfl rfl (by decide) (Ef.appendD 2 0 tab_ok rfl rfl rfl rfl rfl rfl rfl rfl rfl rfl rfl (fun _ _ => rfl) (by simp only [List.length_cons, List.length_nil]; omega) (by simp only [List.length_cons, List.length_nil]; omega) (fun a30 c30 ha30 => ?_)) | refine WA.eff 5 rfl (by kernel_rfl) rfl rfl (by decide) (Ef.appendD 3 0 tab_ok rfl rfl rfl rfl rfl rfl rfl rfl rfl rfl rfl (fun _ _ => rfl) (by simp only [List.length_cons, List.length_nil]; omega) (by simp only [List.length_cons, List.length_nil]; omega) (fun a30 c30 ha30 => ?_)) | refine WA.eff 5 rfl (by kernel_rfl) rfl rfl (by decide) (Ef.appendD 4 0 tab_ok rfl rfl rfl rfl rfl rfl rfl rfl rfl rfl rfl (fun _ _ => rfl) (by simp only [List.length_cons, List.length_nil]; omega) (by simp only [List.length_cons, List.length_nil]; omega) (fun a30 c30 ha30 => ?_)) | refine WA.eff 5 rfl (by kernel_rfl) rfl rfl (by decide) (Ef.appendR 0 tab_ok rfl rfl rfl rfl rfl rfl rfl rfl rfl rfl (by assumption) (fun _ _ => rfl) (by (try dsimp only); omega) (by omega) (fun a30 c30 ha30 => ?_)) | refine WA.eff 5 rfl (by kernel_rfl) rfl rfl (by decide) (Ef.appendR 1 tab_ok rfl rfl rfl rfl rfl rfl rfl rfl rfl rfl (by assumption) (fun _ _ => rfl) (by (try dsimp only); omega) (by omega) (fun a30 c30 ha30 => ?_)) | refine WA.eff 5 rfl (by kernel_rfl) rfl rfl (by decide) (Ef.appendR 2 tab_ok rfl rfl rfl rfl rfl rfl rfl rfl rfl rfl (by assumption) (fun _ _ => rfl) (by (try dsimp only); omega) (by omega) (fun a30 c30 ha30 => ?_)) | refine WA.eff 5 rfl (by kernel_rfl) rfl rfl (by decide) (Ef.appendR 3 tab_ok rfl rfl rfl rfl rfl rfl rfl rfl rfl rfl (by assumption) (fun _ _ => rfl) (by (try dsimp only); omega) (by omega) (fun a30 c30 ha30 => ?_)) | refine WA.eff 5 rfl (by kernel_rfl) rfl rfl (by decide) (Ef.appendR 4 tab_ok rfl rfl rfl rfl rfl rfl rfl rfl rfl rfl (by assumption) (fun _ _ => rfl) (by (try dsimp only); omega) (by omega) (fun a30 c30 ha30 => ?_))
     refine ⟨qR, qS, ?_⟩
     refine tP 6 ?_
     first | refine WA.effN 7 rfl qK rfl rfl (Ef.store 0 tab_ok rfl rfl rfl rfl rfl rfl rfl rfl ?_) | refine WA.effN 7 rfl qK rfl rfl (Ef.store 1 tab_ok rfl rfl rfl rfl rfl rfl rfl rfl ?_) | refine WA.effN 7 rfl qK rfl rfl (Ef.store 2 tab_ok rfl rfl rfl rfl rfl rfl rfl rfl ?_) | refine WA.effN 7 rfl qK rfl rfl (Ef.store 3 tab_ok rfl rfl rfl rfl rfl rfl rfl rfl ?_) | refine WA.effN 7 rfl qK rfl rfl (Ef.store 4 tab_ok rfl rfl rfl rfl rfl rfl rfl rfl ?_)
     refine ⟨qR, qS, ?_⟩
     refine WA.done qK ?_
     refine zL ?_
     refine WE.again ((vs ++ [(numV (nth ws k) : Int)], a30, c30, k + 1, p + (nth ws k).length + 1)) (by (try dsimp only); rw [whV_snoc]; exact hr.val hk hw1 hn2) (by (try dsimp only); omega) ⟨rfl, rfl, rfl, rfl⟩ (RLe.refl _) qS
    ·
     refine WS.eff rfl rfl rfl qD (Ef.buildSliceD (enc := encI) (parts := [.tmp 28]) [_] tab_ok rfl rfl rfl rfl rfl rfl rfl rfl qD qD (fun a29 => ?_))
     refine ⟨qR, qS, ?_⟩
     refine' WA.yl 1 rfl qK rfl rfl qD (Yl.load1 tab_ok rfl rfl rfl (fun _ => rfl) ?r5 rfl ?h5) qS qR ?_
     case r5 => apply Rd.add; (first | exact Rd.blk 0 rfl | exact Rd.blk 1 rfl | exact Rd.blk 2 rfl | exact Rd.blk 3 rfl | exact Rd.blk 4 rfl)
     case h5 => rfl
     first | refine WA.eff 5 rfl (by kernel_rfl) rfl rfl (by decide) (Ef.appendD 1 0 tab_ok rfl rfl rfl rfl rfl rfl rfl rfl rfl rfl rfl (fun _ _ => rfl) (by simp only [List.length_cons, List.length_nil]; omega) (by simp only [List.length_cons, List.length_nil]; omega) (fun a30 c30 ha30 => ?_)) | refine WA.eff 5 rfl (by kernel_rfl) rfl rfl (by decide) (Ef.appendD 2 0 tab_ok rfl rfl rfl rfl rfl rfl rfl rfl rfl rfl rfl (fun _ _ => rfl) (by simp only [List.length_cons, List.length_nil]; omega) (by simp only [List.length_cons, List.length_nil]; omega) (fun a30 c30 ha30 => ?_)) | refine WA.eff 5 rfl (by kernel_rfl) rfl rfl (by decide) (Ef.appendD 3 0 tab_ok rfl rfl rfl rfl rfl rfl rfl rfl rfl rfl rfl (fun _ _ => rfl) (by simp only [List.length_cons, List.length_nil]; omega) (by simp only [List.length_cons, List.length_nil]; omega) (fun a30 c30 ha30 => ?_)) | refine WA.eff 5 rfl (by kernel_rfl) rfl rfl (by decide) (Ef.appendD 4 0 tab_ok rfl rfl rfl rfl rfl rfl rfl rfl rfl rfl rfl (fun _ _ => rfl) (by simp only [List.length_cons, List.length_nil]; omega) (by simp only [List.length_cons, List.length_nil]; omega) (fun a30 c30 ha30 => ?_)) | refine WA.eff 5 rfl (by kernel_rfl) rfl rfl (by decide) (Ef.appendR 0 tab_ok rfl rfl rfl rfl rfl rfl rfl rfl rfl rfl (by assumption) (fun _ _ => rfl) (by (try dsimp only); omega) (by omega) (fun a30 c30 ha30 => ?_)) | refine WA.eff 5 rfl (by kernel_rfl) rfl rfl (by decide) (Ef.appendR 1 tab_ok rfl rfl rfl rfl rfl rfl rfl rfl rfl rfl (by assumption) (fun _ _ => rfl) (by (try dsimp only); omega) (by omega) (fun a30 c30 ha30 => ?_)) | refine WA.eff 5 rfl (by kernel_rfl) rfl rfl (by decide) (Ef.appendR 2 tab_ok rfl rfl rfl rfl rfl rfl rfl rfl rfl rfl (by assumption) (fun _ _ => rfl) (by (try dsimp only); omega) (by omega) (fun a30 c30 ha30 => ?_)) | refine WA.eff 5 rfl (by kernel_rfl) rfl rfl (by decide) (Ef.appendR 3 tab_ok rfl rfl rfl rfl rfl rfl rfl rfl rfl rfl (by assumption) (fun _ _ => rfl) (by (try dsimp only); omega) (by omega) (fun a30 c30 ha30 => ?_)) | refine WA.eff 5 rfl (by kernel_rfl) rfl rfl (by decide) (Ef.appendR 4 tab_ok rfl rfl rfl rfl rfl rfl rfl rfl rfl rfl (by assumption) (fun _ _ => rfl) (by (try dsimp only); omega) (by omega) (fun a30 c30 ha30 => ?_))
     refine ⟨qR, qS, ?_⟩
     refine tP 6 ?_
     first | refine WA.effN 7 rfl qK rfl rfl (Ef.store 0 tab_ok rfl rfl rfl rfl rfl rfl rfl rfl ?_) | refine WA.effN 7 rfl qK rfl rfl (Ef.store 1 tab_ok rfl rfl rfl rfl rfl rfl rfl rfl ?_) | refine WA.effN 7 rfl qK rfl rfl (Ef.store 2 tab_ok rfl rfl rfl rfl rfl rfl rfl rfl ?_) | refine WA.effN 7 rfl qK rfl rfl (Ef.store 3 tab_ok rfl rfl rfl rfl rfl rfl rfl rfl ?_) | refine WA.effN 7 rfl qK rfl rfl (Ef.store 4 tab_ok rfl rfl rfl rfl rfl rfl rfl rfl ?_)
     refine ⟨qR, qS, ?_⟩
     refine WA.done qK ?_
     refine zL ?_
     refine WE.again ((vs ++ [(numV (nth ws k) : Int)], a30, c30, k + 1, p + (nth ws k).length + 1)) (by (try dsimp only); rw [whV_snoc]; exact hr.val hk hw1 hn2) (by (try dsimp only); omega) ⟨rfl, rfl, rfl, rfl⟩ (RLe.refl _) qS
 ·try simp only [zk] at hc0
  have hper : nth ws k = wPer := str_inj (b := wPer) hc0.1
  have hw : whV vs = 1 := if_neg (fun e => by rw [e] at hc0; exact hc0.2 rfl)
  rw [hw] at hr
  have h2 := hr.perS hk hper
  refine zX ?_
  refine wx (wx (zY (zU (zQ (zG (zR 1 rfl ?_))))))
  refine WL.callAt 3 en47 rfl rfl qD (CallOp.mkT rfl rfl rfl rfl) rfl (Skip_C w0 hws hsz hk (hr.at_le hk) _) ?_
  rintro _ _ _ _ - ⟨rfl, rfl, rfl, rfl⟩
  refine zN (zU (zQ (zG (zR 1 rfl ?_))))
  refine WL.callXAt 3 en48 rfl rfl qD (CallOp.mkT rfl rfl rfl rfl) rfl (Number_C w0 hws hsz hG hlw h2.at_le _) ?_ ?_
  ·
   rintro _ _ _ - ⟨rfl, hn, rfl, rfl⟩
   refine WE.then_panic ?_
   refine WE.panicX (by first | exact RLe.refl _ | exact hR1) ?_
   exact ⟨_, _, rfl, h2.numErr qD (fun _ h => absurd h qD) (fun _ h => absurd h qD) hn, hn, qS⟩
  rintro _ _ _ _ - ⟨rfl, hk2, hn2, rfl, rfl, rfl⟩
  have h3 := h2.num2 hk2 hn2
  refine zR 1 rfl ?_
  first | refine WL.efN rfl rfl (Ef.store 0 tab_ok rfl rfl rfl rfl rfl rfl rfl rfl ?_) | refine WL.efN rfl rfl (Ef.store 1 tab_ok rfl rfl rfl rfl rfl rfl rfl rfl ?_) | refine WL.efN rfl rfl (Ef.store 2 tab_ok rfl rfl rfl rfl rfl rfl rfl rfl ?_) | refine WL.efN rfl rfl (Ef.store 3 tab_ok rfl rfl rfl rfl rfl rfl rfl rfl ?_) | refine WL.efN rfl rfl (Ef.store 4 tab_ok rfl rfl rfl rfl rfl rfl rfl rfl ?_)
  refine zN (zU (zQ (zG (zR 1 rfl ?_))))
  refine WL.callXAt 3 en49 rfl rfl qD (CallOp.mkT rfl rfl rfl rfl) rfl (Word_C (want := wInc) w0 hws hsz h3.at_le _) ?_ ?_
  ·
   rintro _ _ _ - ⟨rfl, hn, rfl, rfl⟩
   refine WE.then_panic ?_
   refine WE.panicX (by first | exact RLe.refl _ | exact hR1) ?_
   exact ⟨_, _, rfl, h3.incErr hn, hn, qS⟩
  rintro _ _ _ _ - ⟨rfl, hk3, hwd, rfl, rfl, rfl⟩
  have h4 := h3.incS hk3 hwd
  refine zN (zU (zQ (zG (zR 1 rfl ?_))))
  refine WL.callXAt 3 en48 rfl rfl qD (CallOp.mkT rfl rfl rfl rfl) rfl (Number_C w0 hws hsz hG hlw h4.at_le _) ?_ ?_
  ·
   rintro _ _ _ - ⟨rfl, hn, rfl, rfl⟩
   refine WE.then_panic ?_
   refine WE.panicX (by first | exact RLe.refl _ | exact hR1) ?_
   exact ⟨_, _, rfl, h4.numErr qD (fun _ h => absurd h qD) (fun _ h => absurd h qD) hn, hn, qS⟩
  rintro _ _ _ _ - ⟨rfl, hk4, hn4, rfl, rfl, rfl⟩
  have h5 := h4.num4 hk4 hn4
  refine zR 1 rfl ?_
  first | refine WL.efN rfl rfl (Ef.store 0 tab_ok rfl rfl rfl rfl rfl rfl rfl rfl ?_) | refine WL.efN rfl rfl (Ef.store 1 tab_ok rfl rfl rfl rfl rfl rfl rfl rfl ?_) | refine WL.efN rfl rfl (Ef.store 2 tab_ok rfl rfl rfl rfl rfl rfl rfl rfl ?_) | refine WL.efN rfl rfl (Ef.store 3 tab_ok rfl rfl rfl rfl rfl rfl rfl rfl ?_) | refine WL.efN rfl rfl (Ef.store 4 tab_ok rfl rfl rfl rfl rfl rfl rfl rfl ?_)
  refine zN (zU (zQ (zQ (zG (zR 1 rfl ?_)))))
  refine WL.callAt 3 en50 rfl rfl qD (CallOp.mkT rfl rfl rfl rfl) rfl (Peek_C w0 hws hsz _) ?_
  rintro _ _ _ _ - ⟨rfl, rfl, rfl, rfl⟩
  refine zR 5 rfl (zN (zU (zQ (zG (zR 1 rfl (zN (zU ?_)))))))
  refine W.cond rfl (fun hc2 => ?_) (fun hc2 => ?_)
  ·try simp only [zk] at hc2
   have hk5 := hc2
   refine zG (zR 3 rfl ?_)
   refine' WG.y rfl rfl qD (Yl.load1 tab_ok rfl rfl rfl (fun _ => rfl) ?r6 rfl ?h6) ?_
   case r6 => apply Rd.add; (first | exact Rd.blk 0 rfl | exact Rd.blk 1 rfl | exact Rd.blk 2 rfl | exact Rd.blk 3 rfl | exact Rd.blk 4 rfl | (apply RS.rdD; assumption; ((try dsimp only) <;> omega)) | exact Rd.slD 0 rfl qX | exact Rd.slD 1 rfl qX | exact Rd.slD 2 rfl qX | exact Rd.slD 3 rfl qX | exact Rd.slD 4 rfl qX)
   case h6 => rfl
   -- build
   refine WG.y rfl rfl qD (Yl.build (parts := [(0, .tmp 51), (1, .const (.int .i64 4))]) tab_ok rfl rfl rfl rfl (fun _ => rfl) rfl rfl) ?_
   refine WG.y rfl rfl qD (Yl.toIface tab_ok rfl rfl rfl rfl (fun _ => rfl)) ?_
   refine WL.panic rfl rfl rfl ?_
   refine WE.then_panic ?_
   refine WE.panicX (by first | exact RLe.refl _ | exact hR1) ?_
   exact ⟨_, _, rfl, h5.more hk5, by decide, qS⟩
  ·try simp only [zk] at hc2
   have hk5 := hc2
   refine zK (zU ?_)
   refine W.cap 1 rfl ?_
   intro hcp
   rw [List.length_map] at hcp
   refine W.freeze (enc := encI) (xs := vs) 1 rfl ?_
   intro R1 hR1 hvs
   refine zQ (zG ?_)
   refine' WG.y rfl rfl qD (Yl.load1 tab_ok rfl rfl rfl (fun _ => rfl) ?r7 rfl ?h7) ?_
   case r7 => (first | exact Rd.blk 0 rfl | exact Rd.blk 1 rfl | exact Rd.blk 2 rfl | exact Rd.blk 3 rfl | exact Rd.blk 4 rfl)
   case h7 => rfl
   first | refine WL.efN rfl rfl (Ef.store0 0 tab_ok rfl rfl rfl rfl rfl rfl rfl rfl ?_) | refine WL.efN rfl rfl (Ef.store0 1 tab_ok rfl rfl rfl rfl rfl rfl rfl rfl ?_) | refine WL.efN rfl rfl (Ef.store0 2 tab_ok rfl rfl rfl rfl rfl rfl rfl rfl ?_) | refine WL.efN rfl rfl (Ef.store0 3 tab_ok rfl rfl rfl rfl rfl rfl rfl rfl ?_) | refine WL.efN rfl rfl (Ef.store0 4 tab_ok rfl rfl rfl rfl rfl rfl rfl rfl ?_)
   refine zN (zU (zT ?_))
   refine WE.retX tab_ok [_] rfl ⟨⟨_, _, _, rfl, rfl, rfl, qB, rfl⟩, trivial⟩ (by first | exact RLe.refl _ | exact hR1) ?_
   exact ⟨⟨vs, _, _⟩, a9, c9, rfl, hvs, hcp, by dsimp only; omega, h5.fin hk5, qS⟩

end Go.Proofs.YtejpkjapmhpmpaaDoor

/- Words between the instances of one byte: what strings.Split gives. Plain. No condition. -/
namespace Go.Proofs.YtejpkjapmhpmpaaDoor.M
open Go Go.Proofs.YtejpkjapmhpmpaaDoor.K
/-- the words between the instances of a byte -/
def splC (d : UInt8) : List UInt8 → List (List UInt8)
  | [] => [[]]
  | c :: s => if c = d then [] :: splC d s else match splC d s with
    | w :: ws => (c :: w) :: ws
    | [] => [[c]]
theorem spl_eq : ∀ s : List UInt8, spl s = splC 32 s
 | [] => rfl
 | c :: s => by
  unfold spl splC
  rw [spl_eq s]
  split
  ·rfl
  ·cases splC 32 s <;> rfl
theorem splC_ne (d : UInt8) : ∀ s : List UInt8, splC d s ≠ []
 | [] => by simp [splC]
 | c :: s => by
  unfold splC
  split
  ·simp
  ·split <;> simp
theorem splC_cons {d : UInt8} : ∀ {s w : List UInt8} {ws : List (List UInt8)}, splC d s = w :: ws → (∀ c ∈ w, c ≠ d) ∧ ((ws = [] ∧ s = w) ∨ ∃ s', s = w ++ d :: s' ∧ ws = splC d s')
 | [], w, ws, h => by
  simp [splC] at h
  obtain ⟨rfl, rfl⟩ := h
  exact ⟨by simp, .inl ⟨rfl, rfl⟩⟩
 | c :: s, w, ws, h => by
  unfold splC at h
  by_cases hc : c = d
  ·rw [if_pos hc] at h
   simp only [List.cons.injEq] at h
   obtain ⟨rfl, rfl⟩ := h
   exact ⟨by simp, .inr ⟨s, by rw [hc]; rfl, rfl⟩⟩
  ·rw [if_neg hc] at h
   cases hs : splC d s with
   | nil => exact absurd hs (splC_ne d s)
   | cons v vs =>
    rw [hs] at h
    simp only [List.cons.injEq] at h
    obtain ⟨rfl, rfl⟩ := h
    obtain ⟨h1, h2⟩ := splC_cons hs
    refine ⟨fun x hx => ?_, ?_⟩
    ·rcases List.mem_cons.1 hx with rfl | hx
     ·exact hc
     ·exact h1 x hx
    ·rcases h2 with ⟨rfl, rfl⟩ | ⟨s', rfl, rfl⟩
     ·exact .inl ⟨rfl, rfl⟩
     ·exact .inr ⟨s', rfl, rfl⟩
theorem idx_none {d : UInt8} : ∀ {w : List UInt8}, (∀ c ∈ w, c ≠ d) → Lib.index w [d] = -1
 | [], _ => rfl
 | c :: w, h => by
  have hc := h c (by simp)
  unfold Lib.index
  rw [if_neg (by simp [List.isPrefixOf]; exact fun e => hc e.symm), idx_none (fun x hx => h x (by simp [hx]))]
  rfl
theorem idx_word {d : UInt8} {s' : List UInt8} : ∀ {w : List UInt8}, (∀ c ∈ w, c ≠ d) → Lib.index (w ++ d :: s') [d] = (w.length : Int)
 | [], _ => by
  show Lib.index (d :: s') [d] = 0
  unfold Lib.index
  rw [if_pos (by simp [List.isPrefixOf])]
 | c :: w, h => by
  have hc := h c (by simp)
  show Lib.index (c :: (w ++ d :: s')) [d] = _
  unfold Lib.index
  rw [if_neg (by simp [List.isPrefixOf]; exact fun e => hc e.symm), idx_word (fun x hx => h x (by simp [hx])), if_neg (by rw [beq_iff_eq]; omega)]
  simp
theorem split_splC (d : UInt8) : ∀ (n : Nat) (s : List UInt8), s.length ≤ n → Lib.splitK [d] 0 (Lib.count s [d]) s = splC d s ∧ Lib.count s [d] + 1 = (splC d s).length
 | n, s, hn => by
  cases hs : splC d s with
  | nil => exact absurd hs (splC_ne d s)
  | cons w ws =>
   obtain ⟨h1, ⟨rfl, rfl⟩ | ⟨s', rfl, rfl⟩⟩ := splC_cons hs
   ·rw [Lib.count_miss (idx_none h1)]
    exact ⟨rfl, rfl⟩
   ·have hi := idx_word (s' := s') h1
    have hd : (w ++ d :: s').drop (w.length + [d].length) = s' := by
     rw [← List.drop_drop, List.drop_left]; rfl
    match n with
    | 0 => simp at hn
    | n + 1 =>
     have hl : s'.length ≤ n := by rw [List.length_append, List.length_cons] at hn; omega
     obtain ⟨g1, g2⟩ := split_splC d n s' hl
     rw [Lib.count_hit (by simp) hi, hd]
     refine ⟨?_, by rw [List.length_cons]; omega⟩
     rw [Nat.add_comm 1, Lib.splitK, if_neg (by rw [hi, beq_iff_eq]; omega), hi, Int.toNat_natCast, hd, g1]
     congr 1
     rw [Nat.add_zero, List.take_left]
theorem splC_len (d : UInt8) : ∀ s : List UInt8, (splC d s).length ≤ s.length + 1
 | [] => by simp [splC]
 | c :: s => by
  have ih := splC_len d s
  unfold splC
  split
  ·simp only [List.length_cons]; omega
  ·cases hs : splC d s with
   | nil => exact absurd hs (splC_ne d s)
   | cons w ws => rw [hs] at ih; simp only [List.length_cons] at ih ⊢; omega
end Go.Proofs.YtejpkjapmhpmpaaDoor.M

/- strings.Split at one byte. No condition. -/
set_option maxRecDepth 4000
set_option linter.unusedSimpArgs false
set_option linter.unusedVariables false
namespace Go.Proofs.YtejpkjapmhpmpaaDoor
open Go Go.RowKit Go.Proofs.YtejpkjapmhpmpaaDoor.K Go.Proofs.YtejpkjapmhpmpaaDoor.M

theorem Split_C {R : Ro} (hG : GlobE R) {s : List UInt8} {d : UInt8} (hs : s.length ≤ 4000000000) (w0 : World) (E : List Ent) : K.Fn Tryd.prog 37 [.string (str s), .string (str [d])] w0 R E (fun v R' E' => ∃ a : Addr, v = .slice (some a) (splC d s).length (splC d s).length ∧ RS R' 1 encT (some a) (splC d s) ∧ E = E') := by
 obtain ⟨m, rest, hm0⟩ := hG.m
 intro w hm
 have hsz := str_size s
 obtain ⟨g1, g2⟩ := split_splC d s.length s (Nat.le_refl _)
 have hls : (str s).data.toList = s := by simp [str]
 have hld : (str [d]).data.toList = [d] := by simp [str]
 have hcb : Lib.countB (str s) (str [d]) + 1 = (splC d s).length := by
  show Lib.count _ _ + 1 = _
  rw [hls, hld]; exact g2
 have hsp : (Lib.splitB (str [d]) 0 (Lib.countB (str s) (str [d])) (str s)).map Value.string = ((splC d s).map encT).flatten := by
  have h1 := Lib.splitB_data (str [d]) 0 (Lib.countB (str s) (str [d])) (str s)
  have h2 : Lib.splitB (str [d]) 0 (Lib.countB (str s) (str [d])) (str s) = (splC d s).map str := by
   have h3 : (Lib.splitB (str [d]) 0 (Lib.countB (str s) (str [d])) (str s)) = ((Lib.splitB (str [d]) 0 (Lib.countB (str s) (str [d])) (str s)).map (·.data.toList)).map str := by
    rw [List.map_map]
    refine (List.map_id'' (fun x => ?_) _).symm
    exact (str_of x).symm
   rw [h3, h1]
   show (Lib.splitK _ _ (Lib.count _ _) _).map str = _
   rw [hls, hld, g1]
  rw [h2, List.map_map]
  generalize splC d s = l
  induction l with
  | nil => rfl
  | cons x l ih => simp only [List.map_cons, List.flatten_cons, ih]; rfl
 refine (sh_strings_Split (str s) (str [d]) m w (by omega) (hm.cell hm0) (by rw [str_size]; exact Nat.le_refl 1)).mono ?_
 rintro e w' ⟨rfl, rfl⟩
 rw [hcb, hsp]
 have hlen := splC_len d s
 have hfl : ((splC d s).map encT).flatten.length = (splC d s).length := by
  generalize splC d s = l
  induction l with
  | nil => rfl
  | cons x l ih => simp only [List.map_cons, List.flatten_cons, List.length_append, ih, List.length_cons]; show 1 + _ = _; omega
 have hmn : Mem w0 (w.alloc (.cells ((splC d s).map encT).flatten.toArray 9)) R (.sl 9 1 (some ⟨w.heap.size, 0, none⟩) (splC d s).length ((splC d s).map encT) :: E) := by
  refine hm.new (e' := .sl 9 1 (some ⟨w.heap.size, 0, none⟩) (splC d s).length ((splC d s).map encT)) ⟨rfl, rfl, rfl, by simp, fun j hj _ => heap_alloc_old w _ hj⟩ ?_ (fun b hb => by simp [Ent.block] at hb; omega)
  refine ⟨fun r hr => by obtain ⟨c, _, rfl⟩ := List.mem_map.1 hr; rfl, Nat.one_pos, ?_, ?_⟩
  ·rw [hfl, List.length_map]; omega
  ·right
   refine ⟨w.heap.size, _, _, by rw [List.length_map], hm.below.size, heap_alloc_new w _, by rw [List.length_map]; exact Nat.le_refl _, by unfold maxLen; omega, by simp only [List.size_toArray]; rw [hfl]; omega, ?_⟩
   rw [List.length_map]; exact List.take_of_length_le (by show ((splC d s).map encT).flatten.length ≤ _; rw [hfl]; omega)
 obtain ⟨R2, k1, k2, k3⟩ := hmn.freeze (i := 0) (enc := encT) (xs := splC d s) rfl
 exact ⟨_, R2, E, rfl, k1, k3, ⟨w.heap.size, 0, none⟩, rfl, k2, rfl⟩



theorem nilI20 : Tryd.prog.underlying 20 = some (.interface (Tryd.prog.methodsAt 20)) := by kernel_rfl

theorem ParseD_ret {R : Ro} {x2 x3 x4 : Nat} (w0 : World) (E : List Ent) : FnDR Tryd.prog 36 [.pointer (some ⟨x2, 0, none⟩), .pointer (some ⟨x3, 0, none⟩), .pointer (some ⟨x4, 0, none⟩)] w0 R E .returning (fun R' E' u' => settle u' = .returning ∧ R = R' ∧ E = E') := by
 refine FnDR.enter (n := 22) Tryd.func36 rfl rfl (Nat.le_of_ble_eq_true rfl) rfl ?_
 intro c0 cs hc
 refine WD.seq ?_
 refine WD.region ?_
 refine WDG.recover (v := .nilIface) (cs' := { c0 with mode := .returning } :: cs) rfl rfl rfl qD rfl rfl (by cases c0; cases hc; rfl) ?_
 refine WDG.yl rfl rfl rfl qD (pureV_ok tab_ok rfl (fun _ => rfl)) ?_
 refine WDG.nil ?_
 refine WD.plain ?_
 refine zQ (zQ (zG (zR 1 rfl ?_)))
 refine WG.y rfl rfl qD (Yl.eqNilI nilI20 rfl rfl rfl (fun _ => rfl) (by first | exact .inl ⟨rfl, rfl⟩ | exact .inr ⟨⟨_, _, rfl⟩, rfl⟩)) ?_
 refine zN (zU ?_)
 refine W.cond rfl (fun hc0 => ?_) (fun hc0 => ?_)
 ·try simp only [zk] at hc0
  refine zT (wt ?_)
  refine WE.retDR rfl (RLe.refl _) ?_
  exact ⟨rfl, rfl, rfl⟩
 ·try simp only [zk] at hc0
  first | (simp at hc0; done) | exact absurd hc0 (by decide)

set_option maxHeartbeats 1000000 in
theorem ParseD_panic {R : Ro} {x2 x3 x4 : Nat} {q0 q1 q2 : Value} {q3 q4 : Int} {p : Nat} {e : Int} (w0 : World) (E : List Ent) : FnDR Tryd.prog 36 [.pointer (some ⟨x2, 0, none⟩), .pointer (some ⟨x3, 0, none⟩), .pointer (some ⟨x4, 0, none⟩)] w0 R (.blk x4 [.int .i64 q4] :: .blk x3 [.int .i64 q3] :: .blk x2 [q0, q1, q2] :: E) (.panicking [{ v := failV p e, recovered := false }]) (fun R' E' u' => settle u' = .returning ∧ R = R' ∧ E' = .blk x4 [.int .i64 e] :: .blk x3 [.int .i64 (p : Int)] :: .blk x2 [.slice none 0 0, .int .i64 0, .int .i64 0] :: E) := by
 refine FnDR.enter (n := 22) Tryd.func36 rfl rfl (Nat.le_of_ble_eq_true rfl) rfl ?_
 intro c0 cs hc
 refine WD.seq ?_
 refine WD.region ?_
 refine WDG.recover (v := failV p e) (cs' := { c0 with mode := .panicking [{ v := failV p e, recovered := true }] } :: cs) rfl rfl rfl qD rfl rfl (by cases c0; cases hc; rfl) ?_
 refine WDG.yl rfl rfl rfl qD (pureV_ok tab_ok rfl (fun _ => rfl)) ?_
 refine WDG.nil ?_
 refine WD.plain ?_
 refine zQ (zQ (zG (zR 1 rfl ?_)))
 refine WG.y rfl rfl qD (Yl.eqNilI nilI20 rfl rfl rfl (fun _ => rfl) (by first | exact .inl ⟨rfl, rfl⟩ | exact .inr ⟨⟨_, _, rfl⟩, rfl⟩)) ?_
 refine zN (zU ?_)
 refine W.cond rfl (fun hc0 => ?_) (fun hc0 => ?_)
 ·try simp only [zk] at hc0
  first | (simp at hc0; done) | exact absurd hc0 (by decide)
 ·try simp only [zk] at hc0
  refine zK (zU (zQ (zG (zR 1 rfl ?_))))
  refine WG.y rfl rfl qD (Yl.assert (v := .tuple #[.agg #[.int .i64 (p : Int), .int .i64 e], .bool true]) rfl rfl (fun w => by kernel_rfl) (fun _ => rfl)) ?_
  refine zR 3 rfl ?_
  refine zA fun b4 => ?_
  first | refine WL.efN rfl rfl (Ef.store0 0 tab_ok rfl rfl rfl rfl rfl rfl rfl rfl ?_) | refine WL.efN rfl rfl (Ef.store0 1 tab_ok rfl rfl rfl rfl rfl rfl rfl rfl ?_) | refine WL.efN rfl rfl (Ef.store0 2 tab_ok rfl rfl rfl rfl rfl rfl rfl rfl ?_) | refine WL.efN rfl rfl (Ef.store0 3 tab_ok rfl rfl rfl rfl rfl rfl rfl rfl ?_) | refine WL.efN rfl rfl (Ef.store0 4 tab_ok rfl rfl rfl rfl rfl rfl rfl rfl ?_)
  refine zR 1 rfl (zN (zU (zQ (zQ (zG (zR 2 rfl (zN (zU ?_))))))))
  refine W.cond rfl (fun hc1 => ?_) (fun hc1 => ?_)
  ·try simp only [zk] at hc1
   first | (simp at hc1; done) | exact absurd hc1 (by decide)
  ·try simp only [zk] at hc1
   refine zK (zU ?_)
   refine W.regionH _ (ES := [.blk b4 [.int .i64 (p : Int), .int .i64 e]]) mixed ?_
   -- build
   refine WA.take 0 rfl qK qK qK rfl rfl qD (Yl.build (parts := []) tab_ok rfl rfl rfl rfl (fun _ => rfl) rfl rfl) qS qR ?_
   refine tP 1 ?_
   refine' WA.take 2 rfl qK qK qK rfl rfl qD (Yl.load1 tab_ok rfl rfl rfl (fun _ => rfl) ?r1 rfl ?h1) qS qR ?_
   case r1 => apply Rd.add; (first | exact Rd.blk 0 rfl | exact Rd.blk 1 rfl | exact Rd.blk 2 rfl | exact Rd.blk 3 rfl | exact Rd.blk 4 rfl)
   case h1 => rfl
   refine tP 3 ?_
   refine' WA.take 4 rfl qK qK qK rfl rfl qD (Yl.load1 tab_ok rfl rfl rfl (fun _ => rfl) ?r2 rfl ?h2) qS qR ?_
   case r2 => apply Rd.add; (first | exact Rd.blk 0 rfl | exact Rd.blk 1 rfl | exact Rd.blk 2 rfl | exact Rd.blk 3 rfl | exact Rd.blk 4 rfl)
   case h2 => rfl
   first | refine WA.effN 5 rfl qK rfl rfl (Ef.store0 0 tab_ok rfl rfl rfl rfl rfl rfl rfl rfl ?_) | refine WA.effN 5 rfl qK rfl rfl (Ef.store0 1 tab_ok rfl rfl rfl rfl rfl rfl rfl rfl ?_) | refine WA.effN 5 rfl qK rfl rfl (Ef.store0 2 tab_ok rfl rfl rfl rfl rfl rfl rfl rfl ?_) | refine WA.effN 5 rfl qK rfl rfl (Ef.store0 3 tab_ok rfl rfl rfl rfl rfl rfl rfl rfl ?_) | refine WA.effN 5 rfl qK rfl rfl (Ef.store0 4 tab_ok rfl rfl rfl rfl rfl rfl rfl rfl ?_)
   refine ⟨qR, qS, ?_⟩
   first | refine WA.effN 6 rfl qK rfl rfl (Ef.store0 0 tab_ok rfl rfl rfl rfl rfl rfl rfl rfl ?_) | refine WA.effN 6 rfl qK rfl rfl (Ef.store0 1 tab_ok rfl rfl rfl rfl rfl rfl rfl rfl ?_) | refine WA.effN 6 rfl qK rfl rfl (Ef.store0 2 tab_ok rfl rfl rfl rfl rfl rfl rfl rfl ?_) | refine WA.effN 6 rfl qK rfl rfl (Ef.store0 3 tab_ok rfl rfl rfl rfl rfl rfl rfl rfl ?_) | refine WA.effN 6 rfl qK rfl rfl (Ef.store0 4 tab_ok rfl rfl rfl rfl rfl rfl rfl rfl ?_)
   refine ⟨qR, qS, ?_⟩
   first | refine WA.effN 7 rfl qK rfl rfl (Ef.store0 0 tab_ok rfl rfl rfl rfl rfl rfl rfl rfl ?_) | refine WA.effN 7 rfl qK rfl rfl (Ef.store0 1 tab_ok rfl rfl rfl rfl rfl rfl rfl rfl ?_) | refine WA.effN 7 rfl qK rfl rfl (Ef.store0 2 tab_ok rfl rfl rfl rfl rfl rfl rfl rfl ?_) | refine WA.effN 7 rfl qK rfl rfl (Ef.store0 3 tab_ok rfl rfl rfl rfl rfl rfl rfl rfl ?_) | refine WA.effN 7 rfl qK rfl rfl (Ef.store0 4 tab_ok rfl rfl rfl rfl rfl rfl rfl rfl ?_)
   refine ⟨qR, qS, ?_⟩
   refine WA.done qK ?_
   refine WE.subE (E' := .blk x4 [.int .i64 e] :: .blk x3 [.int .i64 (p : Int)] :: .blk x2 [.slice none 0 0, .int .i64 0, .int .i64 0] :: E) qS ?_
   refine WE.endDR rfl (RLe.refl _) ?_
   exact ⟨rfl, rfl, rfl⟩

set_option maxHeartbeats 1000000 in
theorem Parse03_C {R : Ro} {s : List UInt8} (hG : GlobE R) (hs : s.length ≤ 1000000) (w0 : World) (E : List Ent) : K.Fn Tryd.prog 13 [.string (str s)] w0 R E (fun v R' E' => ∃ (f : Option Addr) (fc : Nat), v = .tuple #[.agg #[.slice f (parseR s).1.vals.length fc, .int .i64 (parseR s).1.per, .int .i64 (parseR s).1.inc], .int .i64 ((parseR s).2.1 : Int), .int .i64 (parseR s).2.2] ∧ RS R' 1 encI f (parseR s).1.vals ∧ (parseR s).1.vals.length ≤ fc ∧ E.Sublist E') := by
 have hss := str_size s
 refine Fn.enterD (n := 24) Tryd.func13 rfl rfl (Nat.le_of_ble_eq_true rfl) rfl ?_
 refine zQ (zG ?_)
 refine zA fun b2 => ?_
 refine zA fun b3 => ?_
 refine zA fun b4 => ?_
 refine zN (zU (zQ (zQ (zG (zR 3 rfl (zN (zU ?_)))))))
 refine W.condD rfl (fun hc0 => ?_) (fun hc0 => ?_)
 ·try dsimp only at hc0
  have hp : parseR s = (zcv, 0, 3) := if_pos (by omega)
  refine zQ (zG ?_)
  -- build
  refine WG.y rfl rfl qD (Yl.build (parts := []) tab_ok rfl rfl rfl rfl (fun _ => rfl) rfl rfl) ?_
  first | refine WL.efN rfl rfl (Ef.store0 0 tab_ok rfl rfl rfl rfl rfl rfl rfl rfl ?_) | refine WL.efN rfl rfl (Ef.store0 1 tab_ok rfl rfl rfl rfl rfl rfl rfl rfl ?_) | refine WL.efN rfl rfl (Ef.store0 2 tab_ok rfl rfl rfl rfl rfl rfl rfl rfl ?_) | refine WL.efN rfl rfl (Ef.store0 3 tab_ok rfl rfl rfl rfl rfl rfl rfl rfl ?_) | refine WL.efN rfl rfl (Ef.store0 4 tab_ok rfl rfl rfl rfl rfl rfl rfl rfl ?_)
  first | refine WL.efN rfl rfl (Ef.store0 0 tab_ok rfl rfl rfl rfl rfl rfl rfl rfl ?_) | refine WL.efN rfl rfl (Ef.store0 1 tab_ok rfl rfl rfl rfl rfl rfl rfl rfl ?_) | refine WL.efN rfl rfl (Ef.store0 2 tab_ok rfl rfl rfl rfl rfl rfl rfl rfl ?_) | refine WL.efN rfl rfl (Ef.store0 3 tab_ok rfl rfl rfl rfl rfl rfl rfl rfl ?_) | refine WL.efN rfl rfl (Ef.store0 4 tab_ok rfl rfl rfl rfl rfl rfl rfl rfl ?_)
  first | refine WL.efN rfl rfl (Ef.store0 0 tab_ok rfl rfl rfl rfl rfl rfl rfl rfl ?_) | refine WL.efN rfl rfl (Ef.store0 1 tab_ok rfl rfl rfl rfl rfl rfl rfl rfl ?_) | refine WL.efN rfl rfl (Ef.store0 2 tab_ok rfl rfl rfl rfl rfl rfl rfl rfl ?_) | refine WL.efN rfl rfl (Ef.store0 3 tab_ok rfl rfl rfl rfl rfl rfl rfl rfl ?_) | refine WL.efN rfl rfl (Ef.store0 4 tab_ok rfl rfl rfl rfl rfl rfl rfl rfl ?_)
  refine zN (zU (zT (wt ?_)))
  refine WE.retD0 tab_ok [_, _, _] rfl ⟨⟨_, _, _, rfl, rfl, rfl, Rd.blk 2 rfl, rfl⟩, ⟨_, _, _, rfl, rfl, rfl, Rd.blk 1 rfl, rfl⟩, ⟨_, _, _, rfl, rfl, rfl, Rd.blk 0 rfl, rfl⟩, trivial⟩ (RLe.refl _) ?_
  exact ⟨none, 0, by rw [hp]; rfl, by rw [hp]; exact rs_nil, by rw [hp]; exact Nat.le_refl 0, qS⟩
 ·try dsimp only at hc0
  refine zK (zU (zQ (zG (zR 1 rfl ?_))))
  refine WL.defer rfl rfl rfl rfl rfl rfl rfl ?_
  refine zN (zU (zQ (zG (zR 1 rfl ?_))))
  refine WL.call en37 rfl rfl qD (CallOp.mkT rfl rfl rfl rfl) (Split_C hG (s := s) (d := 32) qO w0 _) ?_
  rintro _ R1 _ hR1 ⟨a12, rfl, hws, rfl⟩
  rw [← spl_eq] at hws ⊢
  refine zR 2 rfl ?_
  -- build
  refine WG.y rfl rfl qD (Yl.build (parts := [(0, .tmp 12), (3, .tmp 14)]) tab_ok rfl rfl rfl rfl (fun _ => rfl) rfl rfl) ?_
  refine zO fun b16 => ?_
  refine zR 1 rfl (zN (zU (zQ (zG (zR 1 rfl ?_)))))
  refine WL.callX en38 rfl rfl (by decide) (CallOp.mkT rfl rfl rfl rfl) (CurveR_C w0 hws (by omega) (hG.mono hR1) (by rw [remL_spl]; omega) _) ?_ ?_
  ·
   rintro _ R2 E2 hR2 ⟨p, e, rfl, hpg, hne, hsub⟩
   rw [hss] at hpg
   have hp : parseR s = (zcv, p, e) := by unfold parseR; rw [if_neg (by omega), hpg, if_pos hne]
   refine WE.then_panic ?_
   refine WE.subE (E' := .blk b4 [.int .i64 0] :: .blk b3 [.int .i64 0] :: .blk b2 [.slice none 0 0, .int .i64 0, .int .i64 0] :: E) hsub ?_
   refine WE.panicD tab_ok rfl rfl en36 ?_
   refine FnDR.mono (ParseD_panic w0 _) ?_
   rintro _ _ _ - ⟨hse, rfl, rfl⟩
   refine ⟨hse, hR1.trans hR2, [_, _, _], ⟨⟨_, _, _, rfl, rfl, rfl, Rd.blk 2 rfl, rfl⟩, ⟨_, _, _, rfl, rfl, rfl, Rd.blk 1 rfl, rfl⟩, ⟨_, _, _, rfl, rfl, rfl, Rd.blk 0 rfl, rfl⟩, trivial⟩, ⟨none, 0, by rw [hp]; rfl, by rw [hp]; exact rs_nil, by rw [hp]; exact Nat.le_refl 0, qS⟩⟩
  rintro _ R2 E2 hR2 ⟨c, f, fc, rfl, hf, hfc, hcl, hpg, hsub⟩
  rw [hss] at hpg
  refine WL.subE hsub ?_
  first | refine WL.efN rfl rfl (Ef.store0 0 tab_ok rfl rfl rfl rfl rfl rfl rfl rfl ?_) | refine WL.efN rfl rfl (Ef.store0 1 tab_ok rfl rfl rfl rfl rfl rfl rfl rfl ?_) | refine WL.efN rfl rfl (Ef.store0 2 tab_ok rfl rfl rfl rfl rfl rfl rfl rfl ?_) | refine WL.efN rfl rfl (Ef.store0 3 tab_ok rfl rfl rfl rfl rfl rfl rfl rfl ?_) | refine WL.efN rfl rfl (Ef.store0 4 tab_ok rfl rfl rfl rfl rfl rfl rfl rfl ?_)
  refine zN (zU (zQ (zQ (zG ?_))))
  refine' WG.y rfl rfl qD (Yl.load1 tab_ok rfl rfl rfl (fun _ => rfl) ?r1 rfl ?h1) ?_
  case r1 => (first | exact Rd.blk 0 rfl | exact Rd.blk 1 rfl | exact Rd.blk 2 rfl | exact Rd.blk 3 rfl | exact Rd.blk 4 rfl)
  case h1 => rfl
  refine WG.callV en39 rfl rfl qD (CallOp.mk' rfl rfl rfl rfl) (fun _ => rfl) (fun hg => CValidG_V (fc := fc) (c := c) hf qO) ?_
  refine zR 1 rfl (zN (zU ?_))
  refine W.cond rfl (fun hc1 => ?_) (fun hc1 => ?_)
  ·try simp only [zk] at hc1
   have hv : validB c = false := by simpa using hc1
   have hp : parseR s = (zcv, 0, 1) := by unfold parseR; rw [if_neg (by omega), hpg, if_neg (fun h => h rfl), if_neg (by rw [hv]; decide)]
   refine zQ (zG ?_)
   -- build
   refine WG.y rfl rfl qD (Yl.build (parts := []) tab_ok rfl rfl rfl rfl (fun _ => rfl) rfl rfl) ?_
   first | refine WL.efN rfl rfl (Ef.store0 0 tab_ok rfl rfl rfl rfl rfl rfl rfl rfl ?_) | refine WL.efN rfl rfl (Ef.store0 1 tab_ok rfl rfl rfl rfl rfl rfl rfl rfl ?_) | refine WL.efN rfl rfl (Ef.store0 2 tab_ok rfl rfl rfl rfl rfl rfl rfl rfl ?_) | refine WL.efN rfl rfl (Ef.store0 3 tab_ok rfl rfl rfl rfl rfl rfl rfl rfl ?_) | refine WL.efN rfl rfl (Ef.store0 4 tab_ok rfl rfl rfl rfl rfl rfl rfl rfl ?_)
   first | refine WL.efN rfl rfl (Ef.store0 0 tab_ok rfl rfl rfl rfl rfl rfl rfl rfl ?_) | refine WL.efN rfl rfl (Ef.store0 1 tab_ok rfl rfl rfl rfl rfl rfl rfl rfl ?_) | refine WL.efN rfl rfl (Ef.store0 2 tab_ok rfl rfl rfl rfl rfl rfl rfl rfl ?_) | refine WL.efN rfl rfl (Ef.store0 3 tab_ok rfl rfl rfl rfl rfl rfl rfl rfl ?_) | refine WL.efN rfl rfl (Ef.store0 4 tab_ok rfl rfl rfl rfl rfl rfl rfl rfl ?_)
   first | refine WL.efN rfl rfl (Ef.store0 0 tab_ok rfl rfl rfl rfl rfl rfl rfl rfl ?_) | refine WL.efN rfl rfl (Ef.store0 1 tab_ok rfl rfl rfl rfl rfl rfl rfl rfl ?_) | refine WL.efN rfl rfl (Ef.store0 2 tab_ok rfl rfl rfl rfl rfl rfl rfl rfl ?_) | refine WL.efN rfl rfl (Ef.store0 3 tab_ok rfl rfl rfl rfl rfl rfl rfl rfl ?_) | refine WL.efN rfl rfl (Ef.store0 4 tab_ok rfl rfl rfl rfl rfl rfl rfl rfl ?_)
   refine zN (zU (zT (wt ?_)))
   refine WE.retD tab_ok rfl rfl en36 ?_
   refine FnDR.mono (ParseD_ret w0 _) ?_
   rintro _ _ _ - ⟨hse, rfl, rfl⟩
   refine ⟨hse, hR1.trans hR2, [_, _, _], ⟨⟨_, _, _, rfl, rfl, rfl, Rd.blk 2 rfl, rfl⟩, ⟨_, _, _, rfl, rfl, rfl, Rd.blk 1 rfl, rfl⟩, ⟨_, _, _, rfl, rfl, rfl, Rd.blk 0 rfl, rfl⟩, trivial⟩, ⟨none, 0, by rw [hp]; rfl, by rw [hp]; exact rs_nil, by rw [hp]; exact Nat.le_refl 0, qS⟩⟩
  ·try simp only [zk] at hc1
   have hv : validB c = true := by simpa using hc1
   have hp : parseR s = (c, 0, 0) := by unfold parseR; rw [if_neg (by omega), hpg, if_neg (fun h => h rfl), if_pos hv]
   refine zK (zU (zQ (zG ?_)))
   refine' WG.y rfl rfl qD (Yl.load1 tab_ok rfl rfl rfl (fun _ => rfl) ?r2 rfl ?h2) ?_
   case r2 => (first | exact Rd.blk 0 rfl | exact Rd.blk 1 rfl | exact Rd.blk 2 rfl | exact Rd.blk 3 rfl | exact Rd.blk 4 rfl)
   case h2 => rfl
   first | refine WL.efN rfl rfl (Ef.store0 0 tab_ok rfl rfl rfl rfl rfl rfl rfl rfl ?_) | refine WL.efN rfl rfl (Ef.store0 1 tab_ok rfl rfl rfl rfl rfl rfl rfl rfl ?_) | refine WL.efN rfl rfl (Ef.store0 2 tab_ok rfl rfl rfl rfl rfl rfl rfl rfl ?_) | refine WL.efN rfl rfl (Ef.store0 3 tab_ok rfl rfl rfl rfl rfl rfl rfl rfl ?_) | refine WL.efN rfl rfl (Ef.store0 4 tab_ok rfl rfl rfl rfl rfl rfl rfl rfl ?_)
   first | refine WL.efN rfl rfl (Ef.store0 0 tab_ok rfl rfl rfl rfl rfl rfl rfl rfl ?_) | refine WL.efN rfl rfl (Ef.store0 1 tab_ok rfl rfl rfl rfl rfl rfl rfl rfl ?_) | refine WL.efN rfl rfl (Ef.store0 2 tab_ok rfl rfl rfl rfl rfl rfl rfl rfl ?_) | refine WL.efN rfl rfl (Ef.store0 3 tab_ok rfl rfl rfl rfl rfl rfl rfl rfl ?_) | refine WL.efN rfl rfl (Ef.store0 4 tab_ok rfl rfl rfl rfl rfl rfl rfl rfl ?_)
   first | refine WL.efN rfl rfl (Ef.store0 0 tab_ok rfl rfl rfl rfl rfl rfl rfl rfl ?_) | refine WL.efN rfl rfl (Ef.store0 1 tab_ok rfl rfl rfl rfl rfl rfl rfl rfl ?_) | refine WL.efN rfl rfl (Ef.store0 2 tab_ok rfl rfl rfl rfl rfl rfl rfl rfl ?_) | refine WL.efN rfl rfl (Ef.store0 3 tab_ok rfl rfl rfl rfl rfl rfl rfl rfl ?_) | refine WL.efN rfl rfl (Ef.store0 4 tab_ok rfl rfl rfl rfl rfl rfl rfl rfl ?_)
   refine zN (zU (zT ?_))
   refine WE.retD tab_ok rfl rfl en36 ?_
   refine FnDR.mono (ParseD_ret w0 _) ?_
   rintro _ _ _ - ⟨hse, rfl, rfl⟩
   refine ⟨hse, hR1.trans hR2, [_, _, _], ⟨⟨_, _, _, rfl, rfl, rfl, Rd.blk 2 rfl, rfl⟩, ⟨_, _, _, rfl, rfl, rfl, Rd.blk 1 rfl, rfl⟩, ⟨_, _, _, rfl, rfl, rfl, Rd.blk 0 rfl, rfl⟩, trivial⟩, ⟨f, fc, by rw [hp]; rfl, by rw [hp]; exact hf, by rw [hp]; exact hfc, qS⟩⟩



theorem ValidA_V {R : Ro} {a : Option Addr} {c : Nat} {v : List Int} {per inc : Int} (ha : RS R 1 encI a v) : FnV Tryd.prog 31 [.agg #[.slice a v.length c, .int .i64 per, .int .i64 inc]] R (.bool (validB ⟨v, per, inc⟩)) := by
 have hla := ha.len
 refine Fn.toV (fun w0 E => ?_)
 refine fE 118 Tryd.func31 ?_
 refine zQ (zG ?_)
 refine zO fun b1 => ?_
 refine zR 1 rfl (zN (zU (zQ (zG (zR 1 rfl ?_)))))
 refine' WG.y rfl rfl qD (Yl.load1 tab_ok rfl rfl rfl (fun _ => rfl) ?r1 rfl ?h1) ?_
 case r1 => apply Rd.add; (first | exact Rd.blk 0 rfl | exact Rd.blk 1 rfl | exact Rd.blk 2 rfl)
 case h1 => rfl
 refine zR 2 rfl (zN (zU (zQ (zQ (zG (zR 3 rfl ?_))))))
 refine yP ?_
 refine yP ?_
 refine yO ?_
 refine zR 1 rfl ?_
 refine yP ?_
 refine' WG.y rfl rfl qD (Yl.loadG tab_ok rfl rfl rfl qE ?r2 rfl ?h2 ?g2) ?_
 case r2 => apply Rd.addC; (first | exact Rd.blkC 0 rfl | exact Rd.blkC 1 rfl | exact Rd.blkC 2 rfl)
 case h2 => rfl
 case g2 => first | exact fun _ => trivial | (intro hg; (try simp only [zk] at hg); (try dsimp only); omega)
 refine yP ?_
 refine yO ?_
 refine zR 1 rfl ?_
 refine yP ?_
 refine' WG.y rfl rfl qD (Yl.loadG tab_ok rfl rfl rfl qE ?r3 rfl ?h3 ?g3) ?_
 case r3 => apply Rd.addC; (first | exact Rd.blkC 0 rfl | exact Rd.blkC 1 rfl | exact Rd.blkC 2 rfl)
 case h3 => rfl
 case g3 => first | exact fun _ => trivial | (intro hg; (try simp only [zk] at hg); (try dsimp only); omega)
 refine yP ?_
 refine yO ?_
 refine zR 1 rfl ?_
 refine yP ?_
 refine' WG.y rfl rfl qD (Yl.loadG tab_ok rfl rfl rfl qE ?r4 rfl ?h4 ?g4) ?_
 case r4 => apply Rd.addC; (first | exact Rd.blkC 0 rfl | exact Rd.blkC 1 rfl | exact Rd.blkC 2 rfl)
 case h4 => rfl
 case g4 => first | exact fun _ => trivial | (intro hg; (try simp only [zk] at hg); (try dsimp only); omega)
 refine yP ?_
 refine yP ?_
 refine yO ?_
 refine zR 1 rfl ?_
 refine yP ?_
 refine' WG.y rfl rfl qD (Yl.loadG tab_ok rfl rfl rfl qE ?r5 rfl ?h5 ?g5) ?_
 case r5 => apply Rd.addC; (first | exact Rd.blkC 0 rfl | exact Rd.blkC 1 rfl | exact Rd.blkC 2 rfl)
 case h5 => rfl
 case g5 => first | exact fun _ => trivial | (intro hg; (try simp only [zk] at hg); (try dsimp only); omega)
 refine yP ?_
 refine yO ?_
 refine zR 1 rfl ?_
 refine yP ?_
 refine' WG.y rfl rfl qD (Yl.loadG tab_ok rfl rfl rfl qE ?r6 rfl ?h6 ?g6) ?_
 case r6 => apply Rd.addC; (first | exact Rd.blkC 0 rfl | exact Rd.blkC 1 rfl | exact Rd.blkC 2 rfl)
 case h6 => rfl
 case g6 => first | exact fun _ => trivial | (intro hg; (try simp only [zk] at hg); (try dsimp only); omega)
 refine yP ?_
 refine yO ?_
 refine zN (zU ?_)
 refine W.cond rfl (fun hc0 => ?_) (fun hc0 => ?_)
 ·try simp only [zk] at hc0
  have hno : validB ⟨v, per, inc⟩ = false := validB_false (fun h => by obtain ⟨⟨a1, a2, a3, a4, a5, a6, a7⟩, _⟩ := h; dsimp only at a1 a2 a3 a4 a5 a6 a7; unfold MAXV at a7; omega)
  refine zQ (zG (zR 1 rfl (zN (zU (zT (wt ?_))))))
  refine sE (E := E) ?_
  refine WE.retF tab_ok [_] rfl ⟨rfl, trivial⟩ (RLe.refl _) ?_
  exact ⟨by rw [hno]; rfl, rfl⟩
 ·try simp only [zk] at hc0
  have hall : 1 ≤ v.length ∧ v.length ≤ 400 ∧ 1 ≤ per ∧ per ≤ 120 ∧ per ≤ v.length ∧ 0 ≤ inc ∧ inc ≤ MAXV := by unfold MAXV; omega
  refine zK (zU (zQ (zQ (zG (zR 1 rfl (zN (zU (zB ?_))))))))
  refine W.loopK (β := Nat) (fun i => i ≤ v.length ∧ ∀ j, j < i → (nth v j = INF ∨ (0 ≤ nth v j ∧ nth v j ≤ MAXV)) ∧ (j = 0 ∨ nth v (j - 1) ≤ nth v j)) (fun i => [(4, true, .int .i64 (i : Int))]) [1, 3] [_, _] [] _ rfl (fun i => []) (fun i => v.length - i) (0) (⟨Nat.zero_le _, fun j hj => by omega⟩) ⟨rfl, rfl, rfl, rfl⟩ qS ?_
  intro i hst
  dsimp only [zipE, setAll, List.cons_append, List.nil_append, List.set_cons_zero, List.set_cons_succ] at hst ⊢
  
  refine zQ (zQ (zG (zR 3 rfl (zN (zU ?_)))))
  refine W.condD rfl (fun hc1 => ?_) (fun hc1 => ?_)
  ·try dsimp only at hc1
   have hil : i < v.length := by omega
   have e1 : 0 < i → ((i : Int) - 1).toNat = i - 1 := fun _ => by omega
   refine zK (zU (zQ (zB (zQ ?_))))
   refine W.regionQ _ mixed qK ?_
   refine zR 1 rfl ?_
   refine' WG.y rfl rfl qD (Yl.load1 tab_ok rfl rfl rfl (fun _ => rfl) ?r7 rfl ?h7) ?_
   case r7 => apply Rd.add; (first | exact Rd.blk 0 rfl | exact Rd.blk 1 rfl | exact Rd.blk 2 rfl)
   case h7 => rfl
   refine zR 1 rfl ?_
   refine WG.y rfl rfl qD (Yl.indexN tab_ok rfl rfl rfl rfl rfl rfl (fun _ => rfl) qN qH) ?_
   refine' WG.y rfl rfl qD (Yl.load1 tab_ok rfl rfl rfl (fun _ => rfl) ?r8 rfl ?h8) ?_
   case r8 => (first | (apply RS.rdD; assumption; ((try dsimp only) <;> omega)) | exact Rd.slD 0 rfl qX | exact Rd.slD 1 rfl qX | exact Rd.slD 2 rfl qX)
   case h8 => rfl
   refine zR 2 rfl ?_
   refine yP ?_
   refine' WG.y rfl rfl qD (Yl.loadG tab_ok rfl rfl rfl qE ?r9 rfl ?h9 ?g9) ?_
   case r9 => apply Rd.addC; (first | exact Rd.blkC 0 rfl | exact Rd.blkC 1 rfl | exact Rd.blkC 2 rfl)
   case h9 => rfl
   case g9 => first | exact fun _ => trivial | (intro hg; (try simp only [zk] at hg); (try dsimp only); omega)
   refine yP ?_
   refine WG.y rfl rfl (by decide) (Yl.indexN tab_ok rfl rfl rfl rfl rfl rfl qE (by intro hg; (try simp only [zk] at hg); (try dsimp only) <;> omega) (by intro hg; (try simp only [zk] at hg); first | exact qI)) ?_
   refine' WG.y rfl rfl qD (Yl.loadG tab_ok rfl rfl rfl qE ?r10 rfl ?h10 ?g10) ?_
   case r10 => (first | (apply RS.rdC; assumption) | exact Rd.slC 0 rfl | exact Rd.slC 1 rfl | exact Rd.slC 2 rfl)
   case h10 => rfl
   case g10 => first | exact fun _ => trivial | (intro hg; (try simp only [zk] at hg); (try dsimp only); omega)
   refine yP ?_
   refine yP ?_
   refine yP ?_
   refine' WG.y rfl rfl qD (Yl.loadG tab_ok rfl rfl rfl qE ?r11 rfl ?h11 ?g11) ?_
   case r11 => apply Rd.addC; (first | exact Rd.blkC 0 rfl | exact Rd.blkC 1 rfl | exact Rd.blkC 2 rfl)
   case h11 => rfl
   case g11 => first | exact fun _ => trivial | (intro hg; (try simp only [zk] at hg); (try dsimp only); omega)
   refine yP ?_
   refine WG.y rfl rfl (by decide) (Yl.indexN tab_ok rfl rfl rfl rfl rfl rfl qE (by intro hg; (try simp only [zk] at hg); (try dsimp only) <;> omega) (by intro hg; (try simp only [zk] at hg); first | exact qI)) ?_
   refine' WG.y rfl rfl qD (Yl.loadG tab_ok rfl rfl rfl qE ?r12 rfl ?h12 ?g12) ?_
   case r12 => (first | (apply RS.rdC; assumption) | exact Rd.slC 0 rfl | exact Rd.slC 1 rfl | exact Rd.slC 2 rfl)
   case h12 => rfl
   case g12 => first | exact fun _ => trivial | (intro hg; (try simp only [zk] at hg); (try dsimp only); omega)
   refine yP ?_
   refine yO ?_
   refine yN ?_
   refine zR 1 rfl ?_
   refine yP ?_
   refine yP ?_
   refine yP ?_
   refine yP ?_
   refine' WG.y rfl rfl qD (Yl.loadG tab_ok rfl rfl rfl qE ?r13 rfl ?h13 ?g13) ?_
   case r13 => apply Rd.addC; (first | exact Rd.blkC 0 rfl | exact Rd.blkC 1 rfl | exact Rd.blkC 2 rfl)
   case h13 => rfl
   case g13 => first | exact fun _ => trivial | (intro hg; (try simp only [zk] at hg); (try dsimp only); omega)
   refine yP ?_
   refine WG.y rfl rfl (by decide) (Yl.indexN tab_ok rfl rfl rfl rfl rfl rfl qE (by intro hg; (try simp only [zk] at hg); (try dsimp only) <;> omega) (by intro hg; (try simp only [zk] at hg); first | exact qI)) ?_
   refine' WG.y rfl rfl qD (Yl.loadG tab_ok rfl rfl rfl qE ?r14 rfl ?h14 ?g14) ?_
   case r14 => (first | (apply RS.rdC; assumption) | exact Rd.slC 0 rfl | exact Rd.slC 1 rfl | exact Rd.slC 2 rfl)
   case h14 => rfl
   case g14 => first | exact fun _ => trivial | (intro hg; (try simp only [zk] at hg); (try dsimp only); omega)
   refine yP ?_
   refine' WG.y rfl rfl qD (Yl.loadG tab_ok rfl rfl rfl qE ?r15 rfl ?h15 ?g15) ?_
   case r15 => apply Rd.addC; (first | exact Rd.blkC 0 rfl | exact Rd.blkC 1 rfl | exact Rd.blkC 2 rfl)
   case h15 => rfl
   case g15 => first | exact fun _ => trivial | (intro hg; (try simp only [zk] at hg); (try dsimp only); omega)
   refine yP ?_
   refine WG.y rfl rfl (by decide) (Yl.sub rfl rfl rfl qE (by intro hg; (try simp only [zk] at hg); constructor <;> (try dsimp only) <;> omega)) ?_
   refine WG.y rfl rfl (by decide) (Yl.index tab_ok rfl rfl rfl rfl rfl rfl qE (by intro hg; (try simp only [zk] at hg); constructor <;> (try dsimp only) <;> omega) (by intro hg; (try simp only [zk] at hg); first | exact qI)) ?_
   refine' WG.y rfl rfl qD (Yl.loadG tab_ok rfl rfl rfl qE ?r16 rfl ?h16 ?g16) ?_
   case r16 => (first | (apply RS.rdC; assumption) | exact Rd.slC 0 rfl | exact Rd.slC 1 rfl | exact Rd.slC 2 rfl)
   case h16 => rfl
   case g16 => first | exact fun _ => trivial | (intro hg; (try simp only [zk] at hg); (try dsimp only); omega)
   refine yP ?_
   refine yN ?_
   refine yO ?_
   refine zN (zU ?_)
   refine W.cond rfl (fun hc2 => ?_) (fun hc2 => ?_)
   ·try simp only [zk] at hc2
    have hno : validB ⟨v, per, inc⟩ = false := validB_false (fun h => by
     obtain ⟨_, h2, _⟩ := h
     have h2 := h2 i hil
     dsimp only at h2
     unfold INF MAXV at h2
     rcases hc2 with ⟨x1, x2⟩ | ⟨x1, x2⟩
     ·omega
     ·rw [e1 (by omega)] at x2; omega)
    refine zQ (zG (zR 1 rfl (zN (zU (zT (wb (wt (wt (wb (wt ?_))))))))))
    refine sE (E := E) ?_
    refine WE.retF tab_ok [_] rfl ⟨rfl, trivial⟩ (RLe.refl _) ?_
    exact ⟨by rw [hno]; rfl, rfl⟩
   ·try simp only [zk] at hc2
    have hy : (nth v i = INF ∨ (0 ≤ nth v i ∧ nth v i ≤ MAXV)) ∧ (i = 0 ∨ nth v (i - 1) ≤ nth v i) := by
     obtain ⟨x1, x2⟩ := hc2
     unfold INF MAXV
     refine ⟨by omega, ?_⟩
     by_cases h : i = 0
     ·exact .inl h
     ·have := x2 (by omega)
      rw [e1 (by omega)] at this
      right; omega
    refine zK (zL (zU (zG (zR 1 rfl ?_))))
    refine yA ?_
    refine zR 1 rfl (zN ?_)
    refine WE.again (i + 1) (⟨by omega, fun j hj => by
     by_cases e : j = i
     ·subst e; exact hy
     ·exact hst.2 j (by omega)⟩) (by (try dsimp only); omega) ⟨rfl, rfl, rfl, rfl⟩ (RLe.refl _) qS
  ·try dsimp only at hc1
   obtain rfl : i = v.length := by omega
   have hvn : ∀ j, j < v.length → 0 ≤ nth v j ∧ nth v j ≤ 4611686018427387904 := fun j hj => by
    have := (hst.2 j hj).1
    unfold INF MAXV at this
    omega
   have e2 : ((v.length : Int) - 1).toNat = v.length - 1 := by omega
   have e3 : ((v.length : Int) - per).toNat = v.length - per.toNat := by omega
   have hx1 := hvn (((v.length : Int) - 1).toNat) (by omega)
   have hx2 := hvn (((v.length : Int) - per).toNat) (by omega)
   have hx2b : nth v ((v.length : Int) - 1).toNat ≠ 4611686018427387904 → nth v ((v.length : Int) - per).toNat + inc ≤ 4611686018427387904 + 1073741824 := fun _ => by unfold MAXV at hall; omega
   refine zX ?_
   refine wx (wx (zY (zU (zQ (zQ (zG (zR 1 rfl ?_)))))))
   refine' WG.y rfl rfl qD (Yl.load1 tab_ok rfl rfl rfl (fun _ => rfl) ?r17 rfl ?h17) ?_
   case r17 => apply Rd.add; (first | exact Rd.blk 0 rfl | exact Rd.blk 1 rfl | exact Rd.blk 2 rfl)
   case h17 => rfl
   refine zR 1 rfl ?_
   refine yS ?_
   refine WG.y rfl rfl qD (Yl.index tab_ok rfl rfl rfl rfl rfl rfl (fun _ => rfl) qA qH) ?_
   refine' WG.y rfl rfl qD (Yl.load1 tab_ok rfl rfl rfl (fun _ => rfl) ?r18 rfl ?h18) ?_
   case r18 => exact RS.rdD ha qO
   case h18 => rfl
   refine zR 1 rfl (zN (zU ?_))
   refine W.condE rfl (fun hc3 => ?_) (fun hc3 => ?_)
   ·try dsimp only at hc3
    have hif : (if nth v (v.length - 1) = INF then per = 1 ∧ inc = 0 else nth v (v.length - 1) ≤ nth v (v.length - per.toNat) + inc) ↔ (per = 1 ∧ inc = 0) := by rw [if_pos (by rw [← e2]; exact hc3)]
    refine zQ (zG (zR 1 rfl ?_))
    refine' WG.y rfl rfl qD (Yl.load1 tab_ok rfl rfl rfl (fun _ => rfl) ?r19 rfl ?h19) ?_
    case r19 => apply Rd.add; (first | exact Rd.blk 0 rfl | exact Rd.blk 1 rfl | exact Rd.blk 2 rfl)
    case h19 => rfl
    refine zR 2 rfl ?_
    refine yP ?_
    refine' WG.y rfl rfl qD (Yl.loadG tab_ok rfl rfl rfl qE ?r20 rfl ?h20 ?g20) ?_
    case r20 => apply Rd.addC; (first | exact Rd.blkC 0 rfl | exact Rd.blkC 1 rfl | exact Rd.blkC 2 rfl)
    case h20 => rfl
    case g20 => first | exact fun _ => trivial | (intro hg; (try simp only [zk] at hg); (try dsimp only); omega)
    refine yP ?_
    refine yN ?_
    refine zR 1 rfl (zN (zU (zT (wt ?_))))
    refine sE (E := E) ?_
    refine WE.retF tab_ok [_] rfl ⟨rfl, trivial⟩ (RLe.refl _) ?_
    refine ⟨congrArg Value.bool ?_, rfl⟩
    rw [Bool.eq_iff_iff, validB_iff]
    dsimp only
    rw [hif]
    simp only [Bool.and_eq_true, beq_iff_eq]
    exact ⟨fun h => ⟨hall, fun j hj => hst.2 j hj, h⟩, fun h => h.2.2⟩
   ·try dsimp only at hc3
    have hif : (if nth v (v.length - 1) = INF then per = 1 ∧ inc = 0 else nth v (v.length - 1) ≤ nth v (v.length - per.toNat) + inc) ↔ (nth v (v.length - 1) ≤ nth v (v.length - per.toNat) + inc) := by rw [if_neg (by rw [← e2]; exact hc3)]
    refine zK (zU (zQ ?_))
    refine W.regionQ _ mixed qK ?_
    refine zR 1 rfl ?_
    refine' WG.y rfl rfl qD (Yl.load1 tab_ok rfl rfl rfl (fun _ => rfl) ?r21 rfl ?h21) ?_
    case r21 => apply Rd.add; (first | exact Rd.blk 0 rfl | exact Rd.blk 1 rfl | exact Rd.blk 2 rfl)
    case h21 => rfl
    refine zR 2 rfl ?_
    refine' WG.y rfl rfl qD (Yl.load1 tab_ok rfl rfl rfl (fun _ => rfl) ?r22 rfl ?h22) ?_
    case r22 => apply Rd.add; (first | exact Rd.blk 0 rfl | exact Rd.blk 1 rfl | exact Rd.blk 2 rfl)
    case h22 => rfl
    refine yS ?_
    refine WG.y rfl rfl qD (Yl.index tab_ok rfl rfl rfl rfl rfl rfl (fun _ => rfl) qA qH) ?_
    refine' WG.y rfl rfl qD (Yl.load1 tab_ok rfl rfl rfl (fun _ => rfl) ?r23 rfl ?h23) ?_
    case r23 => exact RS.rdD ha qO
    case h23 => rfl
    refine zR 1 rfl ?_
    refine' WG.y rfl rfl qD (Yl.load1 tab_ok rfl rfl rfl (fun _ => rfl) ?r24 rfl ?h24) ?_
    case r24 => apply Rd.add; (first | exact Rd.blk 0 rfl | exact Rd.blk 1 rfl | exact Rd.blk 2 rfl)
    case h24 => rfl
    refine yA ?_
    refine zR 1 rfl ?_
    refine' WG.y rfl rfl qD (Yl.load1 tab_ok rfl rfl rfl (fun _ => rfl) ?r25 rfl ?h25) ?_
    case r25 => apply Rd.add; (first | exact Rd.blk 0 rfl | exact Rd.blk 1 rfl | exact Rd.blk 2 rfl)
    case h25 => rfl
    refine zR 1 rfl ?_
    refine yS ?_
    refine WG.y rfl rfl qD (Yl.index tab_ok rfl rfl rfl rfl rfl rfl (fun _ => rfl) qA qH) ?_
    refine' WG.y rfl rfl qD (Yl.load1 tab_ok rfl rfl rfl (fun _ => rfl) ?r26 rfl ?h26) ?_
    case r26 => exact RS.rdD ha qO
    case h26 => rfl
    refine zR 2 rfl (zN (zU (zT ?_)))
    refine sE (E := E) ?_
    refine WE.retF tab_ok [_] rfl ⟨rfl, trivial⟩ (RLe.refl _) ?_
    refine ⟨congrArg Value.bool ?_, rfl⟩
    rw [Bool.eq_iff_iff, validB_iff]
    dsimp only
    rw [hif, e2, e3]
    simp only [decide_eq_true_eq]
    exact ⟨fun h => ⟨hall, fun j hj => hst.2 j hj, h⟩, fun h => h.2.2⟩

end Go.Proofs.YtejpkjapmhpmpaaDoor

/- A walk begins anew where nothing is owned: all that exists is read only and lies below; string(b) of bytes of one's own. No condition. -/
namespace Go.Proofs.YtejpkjapmhpmpaaDoor.K
open Go Go.RowKit
section
variable {P : Program} {n : Nat} {env : Env} {w0 w1 : World} {R R1 : Ro} {E : List Ent} {c : Code} {Q : Exit → Act → World → Prop} {e : Exit}
theorem W.rebase (h : ∀ w1, Mem w0 w1 R [] → RBelow w1 R → W P c Q n env w1 R []) : W P c Q n env w0 R [] := fun a w hk hm =>
 h w hm (fun _ _ hb => hm.ro_lt hb) a w hk ⟨Below.refl _ w, hm.ro, fun e he => (by cases he), fun e he => (by cases he), List.Pairwise.nil⟩
theorem WE.rebase (hb : Mem w0 w1 R1 []) (h : WE Q e n env w0 R1 []) : WE Q e n env w1 R E := fun a w hk hm => h a w hk (hb.belowAll hm.below)
end
end Go.Proofs.YtejpkjapmhpmpaaDoor.K

/- What is written: numbers. No condition. -/
set_option maxRecDepth 4000
set_option linter.unusedSimpArgs false
set_option linter.unusedVariables false
namespace Go.Proofs.YtejpkjapmhpmpaaDoor
open Go Go.RowKit Go.Proofs.YtejpkjapmhpmpaaDoor.K Go.Proofs.YtejpkjapmhpmpaaDoor.M

theorem tab_below {w0 w : World} {R : Ro} {E : List Ent} (h : Mem w0 w R E) (hb : RBelow w0 R) {b : Nat} {name : String} {k : IntKind} {zs : List Int} (hg : Tryd.prog.globalNamed name = some b) (hr : R b = some (zs.map fun z => Value.int k z)) : Lib.TabBelow Tryd.prog w0.heap.size w name k zs := by
 intro w' hw
 obtain ⟨T, fz, h1⟩ := h.ro b _ hr
 have h2 := hw.block b (hb _ _ hr)
 rw [h1] at h2
 unfold Lib.TabIs World.var?
 simp [hg, h2]
theorem AppInt_C {R : Ro} {a : Option Addr} {cap : Nat} {l : List UInt8} {i : Int} (hG : GlobE R) (w0 : World) (hb : RBelow w0 R) (hi : InR i) (hl : l.length ≤ 1000000) :
  K.Fn Tryd.prog 51 [.slice a l.length cap, .int .i64 i, .int .i64 10] w0 R [.sl 5 1 a cap ((l).map encY)] (fun r R' E' => ∃ (a' : Option Addr) (cap' : Nat), r = .slice a' (l ++ Lib.itoa i).length cap' ∧ R = R' ∧ E' = [.sl 5 1 a' cap' ((l ++ Lib.itoa i).map encY)]) := by
 intro w hm
 obtain ⟨_, _, h2⟩ := hm.own _ (List.mem_singleton.2 rfl)
 rw [List.length_map, encY_flat] at h2
 refine (sh_strconv_AppendInt_10 w0.heap.size l.length i hi.1 hi.2 _ _ w h2 hm.below.size qO (tab_below hm hb qK hG.pow)).mono ?_
 rintro e w' ⟨v', rfl, ho, hbl, _⟩
 have hll : (l ++ Lib.itoa i).length = l.length + (Lib.itoa i).length := List.length_append
 have hcells : (l.map fun c => Value.int .u8 c.toNat) ++ Lib.byteCells (Lib.itoa i) = ((l ++ Lib.itoa i).map encY).flatten := by
  rw [encY_flat, List.map_append]; rfl
 rw [hcells, ← hll] at ho
 have hmem : ∀ (a' : Option Addr) (cap' : Nat), v' = .slice a' (l ++ Lib.itoa i).length cap' → (∀ x, a' = some x → w0.heap.size ≤ x.block) → Mem w0 w' R [.sl 5 1 a' cap' ((l ++ Lib.itoa i).map encY)] := fun a' cap' hv hge => by
  refine ⟨hm.below.trans hbl, fun b cs hr => ?_, fun e he => ?_, fun e he b hbk => ?_, List.pairwise_singleton _ _⟩
  ·obtain ⟨T, fz, h1⟩ := hm.ro b cs hr
   exact ⟨T, fz, by rw [hbl.block b (hb _ _ hr)]; exact h1⟩
  ·obtain rfl := List.mem_singleton.1 he
   refine ⟨fun r hr => by obtain ⟨c, _, rfl⟩ := List.mem_map.1 hr; rfl, Nat.one_pos, ?_⟩
   rw [List.length_map, ← hv]
   exact ho
  ·obtain rfl := List.mem_singleton.1 he
   cases a' with
   | none => cases hbk
   | some x =>
    have hx := hge x rfl
    have : x.block = b := by simpa [Ent.block] using hbk
    cases hr : R b with
    | none => rfl
    | some cs => have := hb _ _ hr; omega
 have ho2 := ho.2
 rcases ho2 with ⟨rfl, hn⟩ | ⟨g, c2, cur, rfl, hg, _⟩
 ·refine ⟨_, R, _, rfl, RLe.refl _, hmem none 0 (by rw [hn]) (fun x h => by cases h), none, 0, by rw [hn], rfl, rfl⟩
 ·refine ⟨_, R, _, rfl, RLe.refl _, hmem (some ⟨g, 0, none⟩) c2 rfl (fun x h => by cases h; exact hg), some ⟨g, 0, none⟩, c2, rfl, rfl, rfl⟩

theorem Num03_C {R : Ro} {a : Option Addr} {cap : Nat} {l : List UInt8} {v : Int} (hG : GlobE R) (w0 : World) (hb : RBelow w0 R) (hv : InR v) (hl : l.length ≤ 1000000) : K.Fn Tryd.prog 40 [.slice a l.length cap, .int .i64 v] w0 R [.sl 5 1 a cap ((l).map encY)] (fun r R' E' => ∃ (a' : Option Addr) (cap' : Nat), r = .slice a' (l ++ wordV v).length cap' ∧ R = R' ∧ E' = [.sl 5 1 a' cap' ((l ++ wordV v).map encY)]) := by
 refine fE 12 Tryd.func40 ?_
 refine zQ (zG (zR 1 rfl (zN (zU (zQ (zQ (zG (zR 2 rfl (zN (zU ?_))))))))))
 refine W.condE rfl (fun hc0 => ?_) (fun hc0 => ?_)
 ·try dsimp only at hc0
  have e : wordV v = wInf := if_pos hc0
  refine zQ (zG (zR 1 rfl ?_))
  refine WL.ef rfl rfl qD (Ef.appendStr (l := wInf) 0 tab_ok rfl rfl rfl rfl rfl rfl qK rfl rfl rfl rfl rfl rfl (by show _ + 3 ≤ _; omega) (fun a8 c8 => ?_))
  refine zR 1 rfl (zN (zU (zT (wt ?_))))
  refine WE.retF tab_ok [_] rfl ⟨rfl, trivial⟩ (RLe.refl _) ?_
  exact ⟨a8, c8, by rw [e] <;> rfl, rfl, by rw [e] <;> rfl⟩
 ·try dsimp only at hc0
  have e : wordV v = Lib.itoa v := if_neg hc0
  refine zK (zU (zQ (zG (zR 2 rfl ?_))))
  refine WL.call en51 rfl rfl qD (CallOp.mkT rfl rfl rfl rfl) (AppInt_C hG w0 hb hv hl) ?_
  rintro _ _ _ - ⟨a8, c8, rfl, rfl, rfl⟩
  refine zR 1 rfl (zN (zU (zT ?_)))
  refine WE.retF tab_ok [_] rfl ⟨rfl, trivial⟩ (RLe.refl _) ?_
  exact ⟨a8, c8, by rw [e] <;> rfl, rfl, by rw [e] <;> rfl⟩



theorem fmtVals_snoc : ∀ (xs : List Int) (v : Int), fmtVals (xs ++ [v]) = (fmtVals xs ++ wordV v) ++ [32]
 | [], v => by simp [fmtVals]
 | x :: xs, v => by rw [List.cons_append, fmtVals, fmtVals, fmtVals_snoc xs v]; simp
theorem wordV_len {v : Int} (h : v = INF ∨ (0 ≤ v ∧ v ≤ 1073741824)) : (wordV v).length ≤ 11 := by
 unfold wordV
 split
 ·decide
 ·rename_i e; have := h.resolve_left e; exact itoa_len (by omega)
theorem fmtVals_len : ∀ (xs : List Int), (∀ v ∈ xs, v = INF ∨ (0 ≤ v ∧ v ≤ 1073741824)) → (fmtVals xs).length ≤ 12 * xs.length
 | [], _ => Nat.le_refl 0
 | x :: xs, h => by
  have h1 := wordV_len (h x (by simp))
  have h2 := fmtVals_len xs (fun v hv => h v (by simp [hv]))
  rw [fmtVals, List.length_append, List.length_cons, List.length_cons]
  omega
theorem valid_vals {c : Cv} (hv : validB c = true) : ∀ v ∈ c.vals, v = INF ∨ (0 ≤ v ∧ v ≤ 1073741824) := fun v hv' => by
 obtain ⟨i, hi, rfl⟩ := List.getElem_of_mem hv'
 have := valid_each hv i hi
 rw [nth_eq hi] at this
 exact this
theorem fmtC_len {c : Cv} (hv : validB c = true) : 0 < (fmtC c).length ∧ (fmtC c).length ≤ 5000 := by
 obtain ⟨_, _, h3, h4, h5, h6, h7, h8⟩ := valid_range hv
 have h1 := fmtVals_len _ (valid_vals hv)
 have h2 := itoa_len (n := c.per) (by omega)
 have h9 := itoa_len (n := c.inc) (by omega)
 unfold fmtC
 simp only [List.length_append, List.length_cons, show wPer.length = 3 from rfl, show wInc.length = 3 from rfl]
 omega

set_option maxHeartbeats 1000000 in
theorem Fmt03_V {R : Ro} {fa : Option Addr} {fc : Nat} {c : Cv} (hG : GlobE R) (ha : RS R 1 encI fa c.vals) (hl : c.vals.length ≤ 100000) : FnV Tryd.prog 16 [.agg #[.slice fa c.vals.length fc, .int .i64 c.per, .int .i64 c.inc]] R (.tuple #[.string (str (formatR c).1), .int .i64 (formatR c).2]) := by
 refine FnV.ofOwn (fun w0 hb => ?_)
 refine fE 38 Tryd.func16 ?_
 refine zQ (zG ?_)
 refine zO fun b1 => ?_
 refine zR 2 rfl (zN (zU (zQ (zQ (zG ?_)))))
 refine' WG.y rfl rfl qD (Yl.load1 tab_ok rfl rfl rfl (fun _ => rfl) ?r1 rfl ?h1) ?_
 case r1 => (first | exact Rd.ro qU | exact Rd.blk 0 rfl | exact Rd.blk 1 rfl | exact Rd.blk 2 rfl)
 case h1 => rfl
 refine WG.callV en39 rfl rfl qD (CallOp.mk' rfl rfl rfl rfl) (fun _ => rfl) (fun hg => CValidG_V ha hl) ?_
 refine zR 1 rfl (zN (zU ?_))
 refine W.cond rfl (fun hc0 => ?_) (fun hc0 => ?_)
 ·try simp only [zk] at hc0
  have hf : formatR c = ([], 1) := if_pos (by simpa using hc0)
  refine zQ (zG (zR 2 rfl (zN (zU (zT (wt ?_))))))
  refine WE.retF tab_ok [_, _] rfl ⟨rfl, rfl, trivial⟩ (by first | exact RLe.refl _ | exact hR1) ?_
  rw [hf]; rfl
 ·try simp only [zk] at hc0
  have hv : validB c = true := by simpa using hc0
  refine zK (zU ?_)
  refine W.freezeBlk 0 rfl ?_
  intro R1 hR1 hb1
  refine W.rebase (fun w1 hm1 hb2 => ?_)
  refine W.nil 5 1 qD ?_
  have hG := hG.mono hR1
  have ha := ha.mono hR1
  have hvrg := valid_range hv
  have hfcl := fmtC_len hv
  refine zQ (zG (zR 1 rfl (zN (zU (zQ (zQ (zG (zR 1 rfl ?_))))))))
  refine' WG.y rfl rfl qD (Yl.load1 tab_ok rfl rfl rfl (fun _ => rfl) ?r2 rfl ?h2) ?_
  case r2 => apply Rd.add; (first | exact Rd.ro qU | exact Rd.blk 0 rfl | exact Rd.blk 1 rfl | exact Rd.blk 2 rfl)
  case h2 => rfl
  refine zR 2 rfl (zN (zU (zB ?_)))
  refine W.loopK (β := Nat × Option Addr × Nat) (fun (j, a, cp) => j ≤ c.vals.length) (fun (j, a, cp) => [(4, true, .slice a (fmtVals (c.vals.take j)).length cp), (13, true, .int .i64 (j : Int))]) [1, 11, 12] [_, _, _] [] _ rfl (fun (j, a, cp) => [(0, .sl 5 1 a cp ((fmtVals (c.vals.take j)).map encY))]) (fun (j, a, cp) => c.vals.length - j) ((0, none, 0)) (Nat.zero_le _) ⟨rfl, rfl, rfl, rfl, rfl, rfl⟩ qS ?_
  intro zz hst
  obtain ⟨j, a, cp⟩ := zz
  dsimp only [zipE, setAll, List.cons_append, List.nil_append, List.set_cons_zero, List.set_cons_succ] at hst ⊢
  
  refine zQ (zG (zR 1 rfl (zN (zU (zQ ?_)))))
  refine W.condD rfl (fun hc1 => ?_) (fun hc1 => ?_)
  ·try dsimp only at hc1
   have hjl : j < c.vals.length := by omega
   have hwl := wordV_len (valid_vals hv _ (nth_mem hjl))
   have hfl := fmtVals_len (c.vals.take j) (fun v h => valid_vals hv v (List.mem_of_mem_take h))
   rw [List.length_take] at hfl
   have hvr : InR (nth c.vals j) := by
    have := hvrg.1 _ (nth_mem hjl)
    constructor <;> omega
   have hsn : fmtVals (c.vals.take (j + 1)) = (fmtVals (c.vals.take j) ++ wordV (nth c.vals j)) ++ [32] := by
    rw [← fmtVals_snoc, nth_eq hjl, List.take_succ_eq_append_getElem hjl]
   refine zK (zU (zQ (zB (zQ (zG ?_)))))
   refine WG.y rfl rfl qD (Yl.indexN tab_ok rfl rfl rfl rfl rfl rfl (fun _ => rfl) qN qH) ?_
   refine' WG.y rfl rfl qD (Yl.load1 tab_ok rfl rfl rfl (fun _ => rfl) ?r3 rfl ?h3) ?_
   case r3 => (first | (apply RS.rdD; assumption; ((try dsimp only) <;> omega)) | exact Rd.slD 0 rfl qX | exact Rd.slD 1 rfl qX | exact Rd.slD 2 rfl qX)
   case h3 => rfl
   refine zR 1 rfl (zN (zU (zG (zR 2 rfl ?_))))
   refine WL.call en40 rfl rfl qD (CallOp.mkT rfl rfl rfl rfl) (Num03_C hG w1 hb2 hvr qO) ?_
   rintro _ _ _ - ⟨a8, c8, rfl, rfl, rfl⟩
   refine WL.ef rfl rfl qD (Ef.buildSliceD (enc := encY) (parts := [.const (.int .u8 32)]) [(32 : UInt8)] tab_ok rfl rfl rfl rfl rfl rfl rfl rfl qD qD (fun a20 => ?_))
   refine WL.ef rfl rfl (by decide) (Ef.appendD (enc := encY) 1 0 tab_ok rfl rfl rfl rfl rfl rfl rfl rfl rfl rfl rfl (fun _ _ => rfl) (by simp only [List.length_append, List.length_cons, List.length_nil]; omega) (by simp only [List.length_append, List.length_cons, List.length_nil]; omega) (fun a21 c21 ha21 => ?_))
   refine zR 1 rfl ?_
   rw [← hsn]
   refine zN (zL (zU (zG ?_)))
   refine yA ?_
   refine zR 1 rfl (zN ?_)
   refine WE.again ((j + 1, a21, c21)) (by (try dsimp only); omega) (by (try dsimp only); omega) ⟨rfl, rfl, rfl, rfl, rfl, rfl⟩ (RLe.refl _) qS
  ·try dsimp only at hc1
   obtain rfl : j = c.vals.length := by omega
   rw [List.take_length]
   have hfl := fmtVals_len c.vals (valid_vals hv)
   have hwp := wordV_len (v := c.per) (.inr (by omega))
   refine zX ?_
   refine wx (wx (zY (zU (zQ ?_))))
   refine W.regionH _ (ES := []) mixed ?_
   refine tP 0 ?_
   refine tP 2 ?_
   refine' WA.take 3 rfl qK qK qK rfl rfl qD (Yl.load1 tab_ok rfl rfl rfl (fun _ => rfl) ?r4 rfl ?h4) qS qR ?_
   case r4 => apply Rd.add; (first | exact Rd.ro qU | exact Rd.blk 0 rfl | exact Rd.blk 1 rfl | exact Rd.blk 2 rfl)
   case h4 => rfl
   refine WA.eff 1 rfl qK rfl rfl qD (Ef.appendStr (l := [112, 101, 114, 32]) 0 tab_ok rfl rfl rfl rfl rfl rfl qK rfl rfl rfl rfl rfl rfl (by show _ + 4 ≤ _; omega) (fun a8 c8 => ?_))
   refine ⟨qR, qS, ?_⟩
   refine WA.callG 4 rfl (by kernel_rfl) en40 rfl (by first | rfl | decide) rfl (by decide) (CallOp.mkT rfl rfl rfl rfl) (Num03_C hG w1 hb2 (by constructor <;> omega) (by (try simp only [List.length_append, List.length_cons, List.length_nil]); omega)) ?_
   rintro _ _ _ - ⟨a8, c8, rfl, rfl, rfl⟩
   refine ⟨RLe.refl _, List.nil_sublist _, ?_⟩
   refine WA.eff 5 rfl (by kernel_rfl) rfl rfl (by decide) (Ef.appendStr (l := [32, 105, 110, 99, 32]) 0 tab_ok rfl rfl rfl rfl rfl rfl (by kernel_rfl) rfl rfl rfl rfl rfl rfl (by (try simp only [List.length_append, List.length_cons, List.length_nil]); omega) (fun a9 c9 => ?_))
   refine ⟨qR, qS, ?_⟩
   refine tP 6 ?_
   refine WA.done qK ?_
   refine zU (zQ (zG (zR 2 rfl ?_)))
   refine' WG.y rfl rfl qD (Yl.load1 tab_ok rfl rfl rfl (fun _ => rfl) ?r5 rfl ?h5) ?_
   case r5 => apply Rd.add; (first | exact Rd.ro qU | exact Rd.blk 0 rfl | exact Rd.blk 1 rfl | exact Rd.blk 2 rfl)
   case h5 => rfl
   refine WL.call en40 rfl rfl (by decide) (CallOp.mkT rfl rfl rfl rfl) (Num03_C hG w1 hb2 (by constructor <;> omega) (by (try simp only [List.length_append, List.length_cons, List.length_nil]); omega)) ?_
   rintro _ _ _ - ⟨a8, c8, rfl, rfl, rfl⟩
   refine zR 1 rfl (zN (zU (zQ ?_)))
   have efc : (((fmtVals c.vals ++ [112, 101, 114, 32]) ++ wordV c.per) ++ [32, 105, 110, 99, 32]) ++ wordV c.inc = fmtC c := by
    unfold fmtC wordV
    rw [if_neg (by unfold INF; omega), if_neg (by unfold INF; omega)]
    simp [wPer, wInc]
   rw [efc]
   refine zQ (zG (zR 3 rfl (zN (zU ?_))))
   refine W.condD rfl (fun hc2 => ?_) (fun hc2 => ?_)
   ·try dsimp only at hc2
    have hf : formatR c = ([], 3) := by unfold formatR; rw [if_neg (by rw [hv]; decide), if_pos (by omega)]
    refine zQ (zG (zR 2 rfl (zN (zU (zT (wt ?_))))))
    refine WE.rebase hm1 ?_
    refine WE.retF tab_ok [_, _] rfl ⟨rfl, rfl, trivial⟩ (by first | exact RLe.refl _ | exact hR1) ?_
    rw [hf]; rfl
   ·try dsimp only at hc2
    have hf : formatR c = (fmtC c, 0) := by unfold formatR; rw [if_neg (by rw [hv]; decide), if_neg (by omega)]
    refine zK (zU (zQ (zG (zR 1 rfl ?_))))
    refine WG.y rfl rfl qD (Yl.bytesStr (l := fmtC c) 0 tab_ok rfl rfl rfl rfl rfl rfl rfl rfl rfl rfl qO (fun _ => rfl)) ?_
    refine zR 2 rfl (zN (zU (zT ?_)))
    refine WE.rebase hm1 ?_
    refine WE.retF tab_ok [_, _] rfl ⟨rfl, rfl, trivial⟩ (by first | exact RLe.refl _ | exact hR1) ?_
    rw [hf]; rfl



theorem Decimal_V {R : Ro} (u : Nat) : u ≤ 1073741824 → FnV Tryd.prog 32 [.int .i64 (u : Int)] R (.string (str (Lib.decDigits u))) := by
 refine Nat.strongRecOn (motive := fun u => u ≤ 1073741824 → FnV Tryd.prog 32 [.int .i64 (u : Int)] R (.string (str (Lib.decDigits u)))) u (fun u ih hu => ?_)
 refine Fn.toV (fun w0 E => ?_)
 refine fE 25 Tryd.func32 ?_
 refine zQ (zG (zR 1 rfl (zN (zU (zQ (zQ (zG (zR 2 rfl (zN (zU ?_))))))))))
 refine W.condD rfl (fun hc0 => ?_) (fun hc0 => ?_)
 ·try dsimp only at hc0
  omega
 ·try dsimp only at hc0
  refine zK (zU (zQ (zQ (zG (zR 2 rfl (zN (zU ?_)))))))
  refine W.condD rfl (fun hc1 => ?_) (fun hc1 => ?_)
  ·try dsimp only at hc1
   refine zQ (zG (zR 2 rfl ?_))
   refine yA ?_
   refine WG.y rfl rfl (by decide) (Yl.sliceSLH tab_ok rfl rfl rfl rfl rfl rfl (fun _ => rfl) (by intro _; (simp only [List.length_cons, List.length_nil]; omega))) ?_
   refine zR 1 rfl (zN (zU (zT (wt ?_))))
   refine sE (E := E) ?_
   refine WE.retF tab_ok [_] rfl ⟨rfl, trivial⟩ (RLe.refl _) ?_
   have e : str ((([48, 49, 50, 51, 52, 53, 54, 55, 56, 57] : List UInt8).take ((u : Int) + 1).toNat).drop (u : Int).toNat) = str (Lib.decDigits u) := by
    rw [show ((u : Int) + 1).toNat = u + 1 by omega, show (u : Int).toNat = u by omega, dig_slice (by omega), Lib.decDigits, dif_pos (by omega)]
   exact ⟨congrArg Value.string e, rfl⟩
  ·try dsimp only at hc1
   refine zK (zU (zQ ?_))
   refine W.regionQ _ mixed qK ?_
   refine zR 1 rfl ?_
   refine WG.y rfl rfl qD (Yl.quo rfl rfl rfl (fun _ => rfl) qA (by intro _; omega)) ?_
   refine WG.callV (v := .string (str (Lib.decDigits (u / 10)))) en32 rfl rfl qD (CallOp.mk' rfl rfl rfl rfl) (fun _ => rfl) (fun hg => by
    have h := ih (u / 10) (by omega) (by omega)
    exact h) ?_
   refine zR 1 rfl ?_
   refine WG.y rfl rfl qD (Yl.rem rfl rfl rfl (fun _ => rfl) qN qN) ?_
   refine zR 1 rfl ?_
   refine WG.y rfl rfl qD (Yl.rem rfl rfl rfl (fun _ => rfl) qN qN) ?_
   refine yA ?_
   refine WG.y rfl rfl (by decide) (Yl.sliceSLH tab_ok rfl rfl rfl rfl rfl rfl (fun _ => rfl) (by intro _; (simp only [List.length_cons, List.length_nil]; omega))) ?_
   refine WG.y rfl rfl (by decide) (Yl.cat rfl rfl rfl (fun _ => rfl) (by intro _; (rw [str_size, str_size]; have h1 := decDigits_le (u / 10); simp only [List.length_drop, List.length_take, List.length_cons, List.length_nil]; omega))) ?_
   refine zR 1 rfl (zN (zU (zT ?_)))
   refine sE (E := E) ?_
   refine WE.retF tab_ok [_] rfl ⟨rfl, trivial⟩ (RLe.refl _) ?_
   have e : str (Lib.decDigits (u / 10)) ++ str ((([48, 49, 50, 51, 52, 53, 54, 55, 56, 57] : List UInt8).take ((u : Int) % 10 + 1).toNat).drop ((u : Int) % 10).toNat) = str (Lib.decDigits u) := by
    rw [show ((u : Int) % 10 + 1).toNat = u % 10 + 1 by omega, show ((u : Int) % 10).toNat = u % 10 by omega, dig_slice (by omega), str_append]
    conv => rhs; rw [Lib.decDigits, dif_neg (by omega)]
   exact ⟨congrArg Value.string e, rfl⟩

theorem DecimalZ_V {R : Ro} {n : Int} (hn : -1073741824 ≤ n ∧ n ≤ 1073741824) : FnV Tryd.prog 32 [.int .i64 n] R (.string (str (Lib.itoa n))) := by
 by_cases hneg : 0 ≤ n
 ·have h := Decimal_V (R := R) n.toNat (by omega)
  rw [show ((n.toNat : Nat) : Int) = n by omega] at h
  have e : Lib.itoa n = Lib.decDigits n.toNat := by unfold Lib.itoa; rw [if_neg (by omega)]
  rw [e]; exact h
 refine Fn.toV (fun w0 E => ?_)
 have e : Lib.itoa n = 45 :: Lib.decDigits n.natAbs := by unfold Lib.itoa; rw [if_pos (by omega)]
 have hsz := str_size (Lib.decDigits n.natAbs)
 have hdl := decDigits_le n.natAbs
 refine fE 25 Tryd.func32 ?_
 refine zQ (zG (zR 1 rfl (zN (zU (zQ (zQ (zG (zR 2 rfl (zN (zU ?_))))))))))
 refine W.condD rfl (fun hc0 => ?_) (fun hc0 => ?_)
 ·try dsimp only at hc0
  refine zQ (zG (zR 1 rfl ?_))
  refine WG.y rfl rfl qD (Yl.neg rfl rfl (fun _ => rfl) qA) ?_
  refine WG.callV (v := .string (str (Lib.decDigits n.natAbs))) en32 rfl rfl qD (CallOp.mk' rfl rfl rfl rfl) (fun _ => rfl) (fun hg => by
   have h := Decimal_V (R := R) n.natAbs (by omega)
   rw [show ((n.natAbs : Nat) : Int) = -n by omega] at h
   exact h) ?_
  refine WG.y rfl rfl (by decide) (Yl.cat rfl rfl rfl (fun _ => rfl) (by intro _; (show (str [45]).size + _ ≤ _; rw [str_size]; simp only [List.length_cons, List.length_nil]; omega))) ?_
  refine zR 1 rfl (zN (zU (zT (wt ?_))))
  refine sE (E := E) ?_
  refine WE.retF tab_ok [_] rfl ⟨rfl, trivial⟩ (RLe.refl _) ?_
  exact ⟨by show Value.string (str [45] ++ str (Lib.decDigits n.natAbs)) = _; rw [str_append, e]; rfl, rfl⟩
 ·try dsimp only at hc0
  omega

set_option maxHeartbeats 1000000 in
theorem RFmt03_V {R : Ro} {fa : Option Addr} {fc : Nat} {c : Cv} (ha : RS R 1 encI fa c.vals) : FnV Tryd.prog 9 [.agg #[.slice fa c.vals.length fc, .int .i64 c.per, .int .i64 c.inc]] R (.tuple #[.string (str (formatR c).1), .int .i64 (formatR c).2]) := by
 refine Fn.toV (fun w0 E => ?_)
 refine fE 48 Tryd.func9 ?_
 refine zQ (zG ?_)
 refine zO fun b1 => ?_
 refine zR 2 rfl (zN (zU (zQ (zQ (zG ?_)))))
 refine' WG.y rfl rfl qD (Yl.load1 tab_ok rfl rfl rfl (fun _ => rfl) ?r1 rfl ?h1) ?_
 case r1 => (first | exact Rd.blk 0 rfl | exact Rd.blk 1 rfl | exact Rd.blk 2 rfl)
 case h1 => rfl
 refine WG.callV (v := .bool (validB c)) en31 rfl rfl qD (CallOp.mk' rfl rfl rfl rfl) (fun _ => rfl) (fun hg => ValidA_V (c := fc) ha) ?_
 refine zR 1 rfl (zN (zU ?_))
 refine W.cond rfl (fun hc0 => ?_) (fun hc0 => ?_)
 ·try simp only [zk] at hc0
  have hf : formatR c = ([], 1) := if_pos (by simpa using hc0)
  refine zQ (zG (zR 2 rfl (zN (zU (zT (wt ?_))))))
  refine sE (E := E) ?_
  refine WE.retF tab_ok [_, _] rfl ⟨rfl, rfl, trivial⟩ (RLe.refl _) ?_
  exact ⟨by rw [hf]; rfl, rfl⟩
 ·try simp only [zk] at hc0
  have hv : validB c = true := by simpa using hc0
  have hvrg := valid_range hv
  have hfcl := fmtC_len hv
  refine zK (zU (zQ (zG (zR 1 rfl (zN (zU (zQ (zQ (zG (zR 1 rfl (zN (zU (zB ?_)))))))))))))
  refine W.loopK (β := Nat) (fun i => i ≤ c.vals.length) (fun i => [(4, true, .string (str (fmtVals (c.vals.take i)))), (5, true, .int .i64 (i : Int))]) [1] [_] [] _ rfl (fun i => []) (fun i => c.vals.length - i) (0) (Nat.zero_le _) ⟨rfl, rfl, rfl, rfl⟩ qS ?_
  intro i hst
  dsimp only [zipE, setAll, List.cons_append, List.nil_append, List.set_cons_zero, List.set_cons_succ] at hst ⊢
  
  refine zQ (zQ (zG (zR 2 rfl ?_)))
  refine' WG.y rfl rfl qD (Yl.load1 tab_ok rfl rfl rfl (fun _ => rfl) ?r2 rfl ?h2) ?_
  case r2 => apply Rd.add; (first | exact Rd.blk 0 rfl | exact Rd.blk 1 rfl | exact Rd.blk 2 rfl)
  case h2 => rfl
  refine zR 2 rfl (zN (zU ?_))
  refine W.condD rfl (fun hc1 => ?_) (fun hc1 => ?_)
  ·try dsimp only at hc1
   have hjl : i < c.vals.length := by omega
   have hvv := valid_vals hv _ (nth_mem hjl)
   have hwl := wordV_len hvv
   have hfl := fmtVals_len (c.vals.take i) (fun v h => valid_vals hv v (List.mem_of_mem_take h))
   rw [List.length_take] at hfl
   have hsn : fmtVals (c.vals.take (i + 1)) = (fmtVals (c.vals.take i) ++ wordV (nth c.vals i)) ++ [32] := by
    rw [← fmtVals_snoc, nth_eq hjl, List.take_succ_eq_append_getElem hjl]
   have hss := str_size (fmtVals (c.vals.take i))
   refine zK (zU (zQ (zB (zQ (zG (zR 1 rfl ?_))))))
   refine' WG.y rfl rfl qD (Yl.load1 tab_ok rfl rfl rfl (fun _ => rfl) ?r3 rfl ?h3) ?_
   case r3 => apply Rd.add; (first | exact Rd.blk 0 rfl | exact Rd.blk 1 rfl | exact Rd.blk 2 rfl)
   case h3 => rfl
   refine zR 1 rfl ?_
   refine WG.y rfl rfl qD (Yl.indexN tab_ok rfl rfl rfl rfl rfl rfl (fun _ => rfl) qN qH) ?_
   refine' WG.y rfl rfl qD (Yl.load1 tab_ok rfl rfl rfl (fun _ => rfl) ?r4 rfl ?h4) ?_
   case r4 => (first | (apply RS.rdD; assumption; ((try dsimp only) <;> omega)) | exact Rd.slD 0 rfl qX | exact Rd.slD 1 rfl qX | exact Rd.slD 2 rfl qX)
   case h4 => rfl
   refine zR 1 rfl (zN (zU ?_))
   refine W.condE rfl (fun hc2 => ?_) (fun hc2 => ?_)
   ·try dsimp only at hc2
    have ew : wordV (nth c.vals i) = wInf := if_pos hc2
    rw [ew, List.append_assoc] at hsn
    refine zG (zR 1 rfl ?_)
    refine WG.y rfl rfl qD (Yl.catS rfl rfl rfl (fun _ => rfl) (by intro _; (show _ + 4 ≤ _; omega))) ?_
    rw [show fmtVals (c.vals.take i) ++ [105, 110, 102, 32] = fmtVals (c.vals.take (i + 1)) from hsn.symm]
    refine zR 1 rfl (zN (zL (zU (zG (zR 1 rfl ?_)))))
    refine yA ?_
    refine zR 1 rfl (zN ?_)
    refine WE.again (i + 1) (by (try dsimp only); omega) (by (try dsimp only); omega) ⟨rfl, rfl, rfl, rfl⟩ (RLe.refl _) qS
   ·try dsimp only at hc2
    unfold INF at hvv
    have ew : wordV (nth c.vals i) = Lib.itoa (nth c.vals i) := if_neg hc2
    rw [ew] at hsn hwl
    have hvv2 := hvv.resolve_left hc2
    refine zG (zR 2 rfl ?_)
    refine' WG.y rfl rfl qD (Yl.load1 tab_ok rfl rfl rfl (fun _ => rfl) ?r5 rfl ?h5) ?_
    case r5 => apply Rd.add; (first | exact Rd.blk 0 rfl | exact Rd.blk 1 rfl | exact Rd.blk 2 rfl)
    case h5 => rfl
    refine zR 1 rfl ?_
    refine WG.y rfl rfl qD (Yl.indexN tab_ok rfl rfl rfl rfl rfl rfl (fun _ => rfl) qN qH) ?_
    refine' WG.y rfl rfl qD (Yl.load1 tab_ok rfl rfl rfl (fun _ => rfl) ?r6 rfl ?h6) ?_
    case r6 => (first | (apply RS.rdD; assumption; ((try dsimp only) <;> omega)) | exact Rd.slD 0 rfl qX | exact Rd.slD 1 rfl qX | exact Rd.slD 2 rfl qX)
    case h6 => rfl
    refine WG.callV en32 rfl rfl qD (CallOp.mk' rfl rfl rfl rfl) (fun _ => rfl) (fun hg => DecimalZ_V qO) ?_
    refine WG.y rfl rfl qD (Yl.catS rfl rfl rfl (fun _ => rfl) (by intro _; omega)) ?_
    refine WG.y rfl rfl (by decide) (Yl.catS rfl rfl rfl (fun _ => rfl) (by intro _; (simp only [List.length_append, List.length_cons, List.length_nil]; omega))) ?_
    rw [← hsn]
    refine zR 1 rfl (zN (zL (zU (zG (zR 1 rfl ?_)))))
    refine yA ?_
    refine zR 1 rfl (zN ?_)
    refine WE.again (i + 1) (by (try dsimp only); omega) (by (try dsimp only); omega) ⟨rfl, rfl, rfl, rfl⟩ (RLe.refl _) qS
  ·try dsimp only at hc1
   obtain rfl : i = c.vals.length := by omega
   rw [List.take_length]
   have hfl := fmtVals_len c.vals (valid_vals hv)
   have hwp := wordV_len (v := c.per) (.inr (by omega))
   have hwi := wordV_len (v := c.inc) (.inr (by omega))
   have ep : wordV c.per = Lib.itoa c.per := if_neg (by unfold INF; omega)
   have ei : wordV c.inc = Lib.itoa c.inc := if_neg (by unfold INF; omega)
   rw [ep] at hwp
   rw [ei] at hwi
   refine zX ?_
   refine wx (wx (zY (zU (zQ ?_))))
   refine W.regionQ _ mixed qK ?_
   refine zR 1 rfl ?_
   refine WG.y rfl rfl qD (Yl.catS rfl rfl rfl (fun _ => rfl) (by intro _; (show _ + 4 ≤ _; omega))) ?_
   refine zR 1 rfl ?_
   refine' WG.y rfl rfl qD (Yl.load1 tab_ok rfl rfl rfl (fun _ => rfl) ?r7 rfl ?h7) ?_
   case r7 => apply Rd.add; (first | exact Rd.blk 0 rfl | exact Rd.blk 1 rfl | exact Rd.blk 2 rfl)
   case h7 => rfl
   refine WG.callV en32 rfl rfl qD (CallOp.mk' rfl rfl rfl rfl) (fun _ => rfl) (fun hg => DecimalZ_V qO) ?_
   refine WG.y rfl rfl (by decide) (Yl.catS rfl rfl rfl (fun _ => rfl) (by intro _; (simp only [List.length_append, List.length_cons, List.length_nil]; omega))) ?_
   refine WG.y rfl rfl (by decide) (Yl.catS rfl rfl rfl (fun _ => rfl) (by intro _; (simp only [List.length_append, List.length_cons, List.length_nil]; omega))) ?_
   refine zR 1 rfl ?_
   refine' WG.y rfl rfl qD (Yl.load1 tab_ok rfl rfl rfl (fun _ => rfl) ?r8 rfl ?h8) ?_
   case r8 => apply Rd.add; (first | exact Rd.blk 0 rfl | exact Rd.blk 1 rfl | exact Rd.blk 2 rfl)
   case h8 => rfl
   refine WG.callV en32 rfl rfl qD (CallOp.mk' rfl rfl rfl rfl) (fun _ => rfl) (fun hg => DecimalZ_V qO) ?_
   refine WG.y rfl rfl (by decide) (Yl.catS rfl rfl rfl (fun _ => rfl) (by intro _; (simp only [List.length_append, List.length_cons, List.length_nil]; omega))) ?_
   refine zR 1 rfl (zN (zU (zQ ?_)))
   have efc : ((((fmtVals c.vals ++ [112, 101, 114, 32]) ++ Lib.itoa c.per) ++ [32, 105, 110, 99, 32]) ++ Lib.itoa c.inc) = fmtC c := by
    unfold fmtC
    simp [wPer, wInc]
   rw [efc]
   have hss := str_size (fmtC c)
   refine zQ (zG (zR 3 rfl (zN (zU ?_))))
   refine W.condD rfl (fun hc3 => ?_) (fun hc3 => ?_)
   ·try dsimp only at hc3
    have hf : formatR c = ([], 3) := by unfold formatR; rw [if_neg (by rw [hv]; decide), if_pos (by omega)]
    refine zQ (zG (zR 2 rfl (zN (zU (zT (wt ?_))))))
    refine sE (E := E) ?_
    refine WE.retF tab_ok [_, _] rfl ⟨rfl, rfl, trivial⟩ (RLe.refl _) ?_
    exact ⟨by rw [hf]; rfl, rfl⟩
   ·try dsimp only at hc3
    have hf : formatR c = (fmtC c, 0) := by unfold formatR; rw [if_neg (by rw [hv]; decide), if_neg (by omega)]
    refine zK (zU (zQ (zG (zR 3 rfl (zN (zU (zT ?_)))))))
    refine sE (E := E) ?_
    refine WE.retF tab_ok [_, _] rfl ⟨rfl, rfl, trivial⟩ (RLe.refl _) ?_
    exact ⟨by rw [hf]; rfl, rfl⟩



theorem fmt_ex : formatR ⟨[0], 1, 3⟩ = ([48, 32, 112, 101, 114, 32, 49, 32, 105, 110, 99, 32, 51], 0) := by
 have e : fmtC ⟨[0], 1, 3⟩ = [48, 32, 112, 101, 114, 32, 49, 32, 105, 110, 99, 32, 51] := by
  unfold fmtC
  dsimp only [fmtVals]
  unfold wordV
  rw [if_neg (by decide), itoa_pos (by decide), itoa_pos (by decide), itoa_pos (by decide), show (0 : Int).toNat = 0 from rfl, show (1 : Int).toNat = 1 from rfl, show (3 : Int).toNat = 3 from rfl, dec_one (by decide), dec_one (by decide), dec_one (by decide)]
  rfl
 unfold formatR
 rw [if_neg (by decide), e, if_neg (by decide)]
theorem par_ex1 : parseR [48, 32, 120, 32, 112, 101, 114, 32, 49, 32, 105, 110, 99, 32, 51] = (zcv, 2, 4) := by kernel_rfl
theorem par_ex2 : parseR [53, 32, 52, 32, 112, 101, 114, 32, 49, 32, 105, 110, 99, 32, 48] = (zcv, 0, 1) := by kernel_rfl
theorem par_ex3 : parseR [48, 32, 105, 110, 102, 32, 112, 101, 114, 32, 49, 32, 105, 110, 99, 32, 48] = (⟨[0, 4611686018427387904], 1, 0⟩, 0, 0) := by kernel_rfl

set_option maxHeartbeats 1000000 in
theorem Awake03_C {R : Ro} (hG : GlobE R) (w0 : World) (E : List Ent) : K.Fn Tryd.prog 7 [] w0 R E (fun v R' E' => v = .bool true ∧ E.Sublist E') := by
 refine fE 61 Tryd.func7 ?_
 refine zQ (zG (zR 1 rfl (zN (zU (zQ (zG ?_))))))
 refine WL.ef rfl rfl qD (Ef.buildSliceD (enc := encI) (parts := [.const (.int .i64 0)]) [_] tab_ok rfl rfl rfl rfl rfl rfl rfl rfl qD qD (fun a13 => ?_))
 refine WL.freeze (enc := encI) (xs := [0]) 0 rfl ?_
 intro R0 hR0 hl0
 have hG := hG.mono hR0
 -- build
 refine WG.y rfl rfl qD (Yl.build (parts := [(0, .tmp 13), (1, .const (.int .i64 1)), (2, .const (.int .i64 3))]) tab_ok rfl rfl rfl rfl (fun _ => rfl) rfl rfl) ?_
 refine WG.callV (v := .tuple #[.string (str [48, 32, 112, 101, 114, 32, 49, 32, 105, 110, 99, 32, 51]), .int .i64 0]) en16 rfl rfl qD (CallOp.mk' rfl rfl rfl rfl) (fun _ => rfl) (fun hg => by
  have h := Fmt03_V (fc := 1) (c := ⟨[0], 1, 3⟩) hG hl0 (by decide)
  rw [fmt_ex] at h
  exact h) ?_
 refine zR 5 rfl (zN (zU (zQ (zG ?_))))
 refine WL.call en13 rfl rfl qD (CallOp.mkT rfl rfl rfl rfl) (Parse03_C (s := [48, 32, 120, 32, 112, 101, 114, 32, 49, 32, 105, 110, 99, 32, 51]) hG qD w0 _) ?_
 rintro _ R1 E1 hR1 ⟨f1, k1, rfl, hf1, _, hsub1⟩
 refine WL.subE hsub1 ?_
 rw [par_ex1] at hf1 ⊢
 dsimp only at hf1 ⊢
 have hG := hG.mono hR1
 refine zR 4 rfl ?_
 refine zA fun b3 => ?_
 first | refine WL.efN rfl rfl (Ef.store0 0 tab_ok rfl rfl rfl rfl rfl rfl rfl rfl ?_) | refine WL.efN rfl rfl (Ef.store0 1 tab_ok rfl rfl rfl rfl rfl rfl rfl rfl ?_) | refine WL.efN rfl rfl (Ef.store0 2 tab_ok rfl rfl rfl rfl rfl rfl rfl rfl ?_) | refine WL.efN rfl rfl (Ef.store0 3 tab_ok rfl rfl rfl rfl rfl rfl rfl rfl ?_) | refine WL.efN rfl rfl (Ef.store0 4 tab_ok rfl rfl rfl rfl rfl rfl rfl rfl ?_) | refine WL.efN rfl rfl (Ef.store0 5 tab_ok rfl rfl rfl rfl rfl rfl rfl rfl ?_)
 refine zR 2 rfl (zN (zU (zQ (zG ?_))))
 refine WL.call en13 rfl rfl qD (CallOp.mkT rfl rfl rfl rfl) (Parse03_C (s := [53, 32, 52, 32, 112, 101, 114, 32, 49, 32, 105, 110, 99, 32, 48]) hG qD w0 _) ?_
 rintro _ R2 E2 hR2 ⟨f2, k2, rfl, hf2, _, hsub2⟩
 refine WL.subE hsub2 ?_
 rw [par_ex2] at hf2 ⊢
 dsimp only at hf2 ⊢
 have hG := hG.mono hR2
 refine zR 4 rfl ?_
 refine zA fun b6 => ?_
 first | refine WL.efN rfl rfl (Ef.store0 0 tab_ok rfl rfl rfl rfl rfl rfl rfl rfl ?_) | refine WL.efN rfl rfl (Ef.store0 1 tab_ok rfl rfl rfl rfl rfl rfl rfl rfl ?_) | refine WL.efN rfl rfl (Ef.store0 2 tab_ok rfl rfl rfl rfl rfl rfl rfl rfl ?_) | refine WL.efN rfl rfl (Ef.store0 3 tab_ok rfl rfl rfl rfl rfl rfl rfl rfl ?_) | refine WL.efN rfl rfl (Ef.store0 4 tab_ok rfl rfl rfl rfl rfl rfl rfl rfl ?_) | refine WL.efN rfl rfl (Ef.store0 5 tab_ok rfl rfl rfl rfl rfl rfl rfl rfl ?_)
 refine zR 2 rfl (zN (zU (zQ (zG ?_))))
 refine WL.call en13 rfl rfl qD (CallOp.mkT rfl rfl rfl rfl) (Parse03_C (s := [48, 32, 105, 110, 102, 32, 112, 101, 114, 32, 49, 32, 105, 110, 99, 32, 48]) hG qD w0 _) ?_
 rintro _ R3 E3 hR3 ⟨f3, k3, rfl, hf3, _, hsub3⟩
 refine WL.subE hsub3 ?_
 rw [par_ex3] at hf3 ⊢
 dsimp only at hf3 ⊢
 have hG := hG.mono hR3
 refine zR 4 rfl ?_
 refine zA fun b9 => ?_
 first | refine WL.efN rfl rfl (Ef.store0 0 tab_ok rfl rfl rfl rfl rfl rfl rfl rfl ?_) | refine WL.efN rfl rfl (Ef.store0 1 tab_ok rfl rfl rfl rfl rfl rfl rfl rfl ?_) | refine WL.efN rfl rfl (Ef.store0 2 tab_ok rfl rfl rfl rfl rfl rfl rfl rfl ?_) | refine WL.efN rfl rfl (Ef.store0 3 tab_ok rfl rfl rfl rfl rfl rfl rfl rfl ?_) | refine WL.efN rfl rfl (Ef.store0 4 tab_ok rfl rfl rfl rfl rfl rfl rfl rfl ?_) | refine WL.efN rfl rfl (Ef.store0 5 tab_ok rfl rfl rfl rfl rfl rfl rfl rfl ?_)
 refine zR 2 rfl (zN (zU (zQ (zG (zR 3 rfl ?_)))))
 refine WL.guardT rfl (by rfl) ?_
 refine yP ?_
 refine WL.guardT rfl (by rfl) ?_
 refine WG.y rfl rfl qD (Yl.eqS rfl rfl rfl (fun _ => rfl)) ?_
 refine yN ?_
 refine zR 1 rfl ?_
 refine WL.guardT rfl (by rfl) ?_
 refine yP ?_
 refine WL.guardT rfl (by rfl) ?_
 refine yP ?_
 refine yN ?_
 refine zR 1 rfl ?_
 refine WL.guardT rfl (by rfl) ?_
 refine yP ?_
 refine WL.guardT rfl (by rfl) ?_
 refine yP ?_
 refine yN ?_
 refine zR 1 rfl ?_
 refine WL.guardT rfl (by rfl) ?_
 refine yP ?_
 refine WL.guardT rfl (by rfl) ?_
 refine yP ?_
 refine yN ?_
 refine zR 1 rfl ?_
 refine WL.guardT rfl (by rfl) ?_
 refine yP ?_
 refine WL.guardT rfl (by rfl) ?_
 refine yP ?_
 refine yN ?_
 refine zR 1 rfl ?_
 refine WL.guardT rfl (by rfl) ?_
 refine' WG.y rfl rfl qD (Yl.load1 tab_ok rfl rfl rfl (fun _ => rfl) ?r1 rfl ?h1) ?_
 case r1 => (first | exact Rd.blk 0 rfl | exact Rd.blk 1 rfl | exact Rd.blk 2 rfl | exact Rd.blk 3 rfl | exact Rd.blk 4 rfl | exact Rd.blk 5 rfl)
 case h1 => rfl
 refine WL.guardT rfl (by rfl) ?_
 refine WL.ef rfl rfl qD (Ef.buildSliceD (enc := encI) (parts := [.const (.int .i64 0), .const (.int .i64 4611686018427387904)]) [_, _] tab_ok rfl rfl rfl rfl rfl rfl rfl rfl qD qD (fun a57 => ?_))
 refine WL.freeze (enc := encI) (xs := [0, 4611686018427387904]) 0 rfl ?_
 intro R9 hR9 hl9
 refine WL.guardT rfl (by rfl) ?_
 -- build
 refine WG.y rfl rfl qD (Yl.build (parts := [(0, .tmp 57), (1, .const (.int .i64 1))]) tab_ok rfl rfl rfl rfl (fun _ => rfl) rfl rfl) ?_
 refine WL.guardT rfl (by rfl) ?_
 refine WG.callV (v := .bool true) en18 rfl rfl qD (CallOp.mk' rfl rfl rfl rfl) (fun _ => rfl) (fun hg => by
  have h := Same02_V (ca := k3) (cb := 2) (p1 := 1) (i1 := 0) (p2 := 1) (i2 := 0) (hf3.mono hR9) hl9
  exact h) ?_
 refine yN ?_
 refine zR 1 rfl (zN (zU (zT ?_)))
 refine WE.retF tab_ok [_] rfl ⟨rfl, trivial⟩ (hR0.trans (hR1.trans (hR2.trans (hR3.trans hR9)))) ?_
 exact ⟨rfl, qS⟩



theorem fmtR_len (c : Cv) : (formatR c).1.length ≤ 4000 := by
 unfold formatR
 split
 ·exact Nat.zero_le _
 ·split
  ·exact Nat.zero_le _
  ·rename_i h; show (fmtC c).length ≤ 4000; omega
theorem pos_byte {s : List UInt8} {p : Nat} (hp : 0 < p) (h : s[p - 1]? = some 32) : byteAt s ((p : Int) - 1).toNat = 32 := by
 rw [show ((p : Int) - 1).toNat = p - 1 by omega]
 unfold byteAt
 rw [List.getD_eq_getElem?_getD, h]
 rfl

set_option maxHeartbeats 2000000 in
theorem NotationPositions_F {R : Ro} {text : List UInt8} {z : Int} {v : UInt8} {a : Option Addr} {c : Nat} {xs : List Int} (ha : RS R 1 encI a xs) (hzr : InR z) (hG : GlobE R) (hc : xs.length ≤ c) (w0 : World) : K.Fn Tryd.prog 3 [.string (str text), .slice a xs.length c, .int .i64 z, .int .u8 v.toNat] w0 R [] (fun v _ _ => v = .bool true) := by
 have hst := str_size text
 refine fE 105 Tryd.func3 ?_
 refine zQ (zG (zR 1 rfl (zN (zU (zQ (zQ (zG (zR 3 rfl (zN (zU ?_))))))))))
 refine W.condD rfl (fun hc0 => ?_) (fun hc0 => ?_)
 ·try dsimp only at hc0
  refine zQ (zG ?_)
  refine WL.call en7 rfl rfl qD (CallOp.mkT rfl rfl rfl rfl) (Awake03_C hG w0 _) ?_
  rintro _ R9 E9 hR9 ⟨rfl, hsub9⟩
  refine WL.subE hsub9 ?_
  refine zR 1 rfl (zN (zU (zT (wt ?_))))
  refine WE.retF tab_ok [_] rfl ⟨rfl, trivial⟩ (by first | assumption | exact RLe.refl _ | exact hRz1.trans (hRp.trans (hRk.trans hR9))) ?_
  exact rfl
 ·try dsimp only at hc0
  have htl : text.length ≤ 300 := by omega
  refine zK (zU (zQ (zG (zR 1 rfl ?_))))
  refine WL.call en8 rfl rfl qD (CallOp.mkT rfl rfl rfl rfl) (New_C w0 _ hc) ?_
  rintro _ _ _ - ⟨b, rfl, rfl, rfl⟩
  have hz := ha.take 2000
  refine zR 1 rfl (zN (zU ?_))
  
  refine zQ (zG (zR 1 rfl ?_))
  refine WL.callAt 0 en10 rfl rfl qD (CallOp.mkT rfl rfl rfl rfl) rfl (KCurve_C w0 hz (most := 6) qD _) ?_
  rintro _ Rz1 _ _ hRz1 ⟨f1, k1, n1, v1, rfl, hf1, hs1, hcp1, rfl, rfl⟩
  have hz := hz.mono hRz1
  have hG := hG.mono hRz1
  refine WG.callV (v := .tuple #[.string (str (formatR v1).1), .int .i64 (formatR v1).2]) en9 rfl rfl qD (CallOp.mk' rfl rfl rfl rfl) (fun _ => rfl) (fun hg => RFmt03_V hf1) ?_
  have hwl := fmtR_len v1
  generalize (formatR v1).1 = wh at hwl ⊢
  have hws := str_size wh
  refine zR 5 rfl (zN (zU (zQ (zG (zR 1 rfl ?_)))))
  refine WL.ef rfl rfl qD (Ef.bytesOf tab_ok rfl rfl rfl rfl rfl rfl rfl rfl (fun b31 c31 m31 => ?_))
  refine zR 1 rfl (zN (zU ?_))
  refine W.seqCut (β := List UInt8) (fun st => st.length = wh.length) (fun st => [(0, true, .string (str text)), (9, true, .pointer (some ⟨b, 0, none⟩)), (10, true, .string (str wh)), (12, true, .slice (some ⟨b31, 0, none⟩) wh.length c31)]) (fun _ => Rz1) (fun st => [byB b31 5 st m31, srcE b a c (xs.take 2000) n1]) ?_ ?_
  ·
   intro st hst
   have hsl : st.length = wh.length := hst
   refine zQ (zQ ?_)
   refine W.regionH _ (ES := [byB b31 5 st m31]) mixed ?_
   refine tP 0 ?_
   refine tP 1 ?_
   refine WA.take 2 rfl qK qK qK rfl rfl qD (Yl.bytesB (l := st) 0 tab_ok rfl rfl rfl rfl rfl rfl rfl rfl rfl qO (fun _ => rfl)) qS qR ?_
   refine tP 3 ?_
   refine tP 4 ?_
   refine tP 5 ?_
   refine tP 6 ?_
   refine tA 7 ?_
   refine tP 12 ?_
   refine WA.callAt 1 8 rfl qK en12 rfl rfl qD (CallOp.mkT rfl rfl rfl rfl) rfl (N_C w0 hz (by constructor <;> omega) _) ?_
   rintro _ _ _ _ - ⟨rfl, rfl, rfl, rfl⟩
   obtain ⟨m, hm, hml⟩ : ∃ m : Nat, mod (nth (xs.take 2000) n1) ((str wh).size + 1 : Int) = (m : Int) ∧ m ≤ wh.length := by
    have := mod_range (nth (xs.take 2000) n1) (show (1 : Int) ≤ ((str wh).size + 1 : Int) by omega)
    exact ⟨(mod (nth (xs.take 2000) n1) ((str wh).size + 1 : Int)).toNat, by omega, by omega⟩
   rw [hm]
   refine ⟨RLe.refl _, qS, ?_⟩
   refine WA.take 9 rfl qK qK qK rfl rfl qD (Yl.sliceSH tab_ok rfl rfl rfl rfl rfl (fun _ => rfl) (by intro _; (constructor <;> omega))) qS qR ?_
   refine WA.eff 10 rfl qK rfl rfl qD (Ef.buildSliceD (enc := encT) (parts := [.tmp 42, .tmp 44, .tmp 51]) [text, st, wh.take m] tab_ok rfl rfl rfl rfl rfl rfl rfl rfl qD qD (fun a52 => ?_))
   refine ⟨qR, qS, ?_⟩
   refine tP 11 ?_
   refine WA.done qK ?_
   refine WE.freeze (enc := encT) (xs := [text, st, wh.take m]) 0 rfl ?_
   intro Rp hRp htx
   have htl2 : ∀ t ∈ ([text, st, wh.take m] : List (List UInt8)), t.length ≤ 4000 := by
    simp only [List.mem_cons, List.not_mem_nil, or_false, forall_eq_or_imp, forall_eq]
    exact ⟨by omega, by omega, by rw [List.length_take]; omega⟩
   have htn : ([text, st, wh.take m] : List (List UInt8)).length = 3 := rfl
   generalize ([text, st, wh.take m] : List (List UInt8)) = tx at htx htl2 htn ⊢
   have hG := hG.mono hRp
   refine zU (zB ?_)
   refine W.loopR (β := Nat × Ro) (fun (k, Rk) => k ≤ tx.length ∧ RLe Rp Rk) (fun (k, Rk) => [(54, true, .int .i64 (k : Int))]) [52, 53] [_, _] [] _ rfl (fun (k, Rk) => []) (fun (k, Rk) => Rk) (fun (k, Rk) => tx.length - k) ((0, Rp)) (⟨Nat.zero_le _, RLe.refl _⟩) ⟨rfl, rfl, rfl, rfl⟩ (RLe.refl _) qS ?_
   intro zz hst
   obtain ⟨k, Rk⟩ := zz
   dsimp only [zipE, setAll, List.cons_append, List.nil_append, List.set_cons_zero, List.set_cons_succ] at hst ⊢
   obtain ⟨hk, hRk⟩ := hst
   have htx := htx.mono hRk
   have hG := hG.mono hRk
   refine zQ (zG (zR 1 rfl (zN (zU (zQ ?_)))))
   refine W.condD rfl (fun hc1 => ?_) (fun hc1 => ?_)
   ·try dsimp only at hc1
    have hkl : k < tx.length := by omega
    have htk := htl2 _ (nth_mem hkl)
    have hsk := str_size (nth tx k)
    refine zK (zU (zQ (zB (zQ (zG ?_)))))
    refine WG.y rfl rfl qD (Yl.indexN tab_ok rfl rfl rfl rfl rfl rfl (fun _ => rfl) qN qH) ?_
    refine' WG.y rfl rfl qD (Yl.load1 tab_ok rfl rfl rfl (fun _ => rfl) ?r1 rfl ?h1) ?_
    case r1 => exact RS.rdD htx qO
    case h1 => rfl
    refine zR 1 rfl (zN (zU (zQ (zG (zR 1 rfl ?_)))))
    refine WL.call en13 rfl rfl qD (CallOp.mkT rfl rfl rfl rfl) (Parse03_C (s := nth tx k) hG qO w0 _) ?_
    rintro _ R5 E5 hR5 ⟨f5, k5, rfl, hf5, _, hsub5⟩
    refine WL.subE hsub5 ?_
    have hpos := parse_pos (nth tx k)
    generalize parseR (nth tx k) = q at hf5 hpos ⊢
    obtain ⟨hq1, hq2, hq3⟩ := hpos
    refine zR 4 rfl ?_
    refine zA fun b15 => ?_
    first | refine WL.efN rfl rfl (Ef.store0 0 tab_ok rfl rfl rfl rfl rfl rfl rfl rfl ?_) | refine WL.efN rfl rfl (Ef.store0 1 tab_ok rfl rfl rfl rfl rfl rfl rfl rfl ?_) | refine WL.efN rfl rfl (Ef.store0 2 tab_ok rfl rfl rfl rfl rfl rfl rfl rfl ?_) | refine WL.efN rfl rfl (Ef.store0 3 tab_ok rfl rfl rfl rfl rfl rfl rfl rfl ?_) | refine WL.efN rfl rfl (Ef.store0 4 tab_ok rfl rfl rfl rfl rfl rfl rfl rfl ?_) | refine WL.efN rfl rfl (Ef.store0 5 tab_ok rfl rfl rfl rfl rfl rfl rfl rfl ?_)
    refine zR 2 rfl (zN (zU (zQ (zQ (zG (zR 3 rfl ?_))))))
    refine yP ?_
    refine yP ?_
    refine yP ?_
    refine yP ?_
    refine yO ?_
    refine zR 1 rfl ?_
    refine yP ?_
    refine yP ?_
    refine yP ?_
    refine yP ?_
    refine yP ?_
    refine yN ?_
    refine yP ?_
    refine yP ?_
    refine yP ?_
    refine yN ?_
    refine yO ?_
    refine zN (zU ?_)
    refine W.cond rfl (fun hc2 => ?_) (fun hc2 => ?_)
    ·try simp only [zk] at hc2
     exfalso
     rcases hc2 with (h | h) | h
     ·omega
     ·omega
     ·have := hq2 h.1.1 h.1.2; exact h.2 (by omega)
    ·try simp only [zk] at hc2
     refine zK (zU (zQ (zG (zR 3 rfl ?_))))
     refine yP ?_
     refine yP ?_
     refine yN ?_
     refine zR 1 rfl ?_
     refine yP ?_
     refine yP ?_
     refine yP ?_
     refine yP ?_
     refine yN ?_
     refine zR 1 rfl ?_
     refine yP ?_
     refine yP ?_
     refine WG.y rfl rfl (by decide) (Yl.sub rfl rfl rfl qE (by intro hg; (try simp only [zk] at hg); constructor <;> (try dsimp only) <;> omega)) ?_
     refine WG.y rfl rfl (by decide) (Yl.sidx tab_ok rfl rfl rfl rfl rfl qE (by intro hg; (try simp only [zk] at hg); constructor <;> (try dsimp only) <;> omega)) ?_
     refine yP ?_
     refine yN ?_
     refine zN (zU ?_)
     refine W.cond rfl (fun hc3 => ?_) (fun hc3 => ?_)
     ·try simp only [zk] at hc3
      exact absurd (pos_byte (s := nth tx k) (by have := hc3.1.1.2; omega) (hq3 hc3.1.1.1 (by have := hc3.1.1.2; omega) (by have := hc3.1.2; omega))) hc3.2
     ·try simp only [zk] at hc3
      refine zK (zL (zU (zG ?_)))
      refine yA ?_
      refine zR 1 rfl (zN ?_)
      refine WE.again ((k + 1, R5)) (⟨by (try dsimp only); omega, hRk.trans hR5⟩) (by (try dsimp only); omega) ⟨rfl, rfl, rfl, rfl⟩ (RLe.refl _) qS
   ·try dsimp only at hc1
    refine zX ?_
    refine wx (wx (zY (zU (zQ (zG ?_)))))
    refine WL.call en7 rfl rfl qD (CallOp.mkT rfl rfl rfl rfl) (Awake03_C hG w0 _) ?_
    rintro _ R9 E9 hR9 ⟨rfl, hsub9⟩
    refine WL.subE hsub9 ?_
    refine zR 1 rfl (zN (zU (zT ?_)))
    refine WE.retF tab_ok [_] rfl ⟨rfl, trivial⟩ (by first | assumption | exact RLe.refl _ | exact hRz1.trans (hRp.trans (hRk.trans hR9))) ?_
    exact rfl
  ·
   refine zQ (zG (zR 3 rfl (zN (zU ?_))))
   refine W.condD rfl (fun hc4 => ?_) (fun hc4 => ?_)
   ·try dsimp only at hc4
    obtain ⟨i, hi, hil⟩ : ∃ i : Nat, mod z (wh.length : Int) = (i : Int) ∧ i < wh.length := by
     have := mod_range z (show (1 : Int) ≤ (wh.length : Int) by omega)
     exact ⟨(mod z (wh.length : Int)).toNat, by omega, by omega⟩
    refine zG (zR 4 rfl ?_)
    refine WG.callV (v := .int .i64 (i : Int)) en11 rfl rfl qD (CallOp.mk' rfl rfl rfl rfl) (fun _ => rfl) (fun hg => by
     have h := Mod_V (R := Rz1) (x := z) (n := (wh.length : Int)) (by constructor <;> omega)
     rw [hi] at h
     exact h) ?_
    refine zR 1 rfl ?_
    refine WG.y rfl rfl qD (Yl.indexN tab_ok rfl rfl rfl rfl rfl rfl (fun _ => rfl) qN qH) ?_
    refine WL.efN rfl rfl (Ef.storeB (i := i) (c := v) (l := wh) 0 tab_ok rfl rfl rfl rfl rfl rfl qO ?_)
    refine zN ?_
    refine WE.cut (wh.set i v) (by rw [List.length_set]) ⟨rfl, rfl, rfl, rfl, rfl⟩ (RLe.refl _) qS
   ·try dsimp only at hc4
    refine zK ?_
    refine WE.cut wh rfl ⟨rfl, rfl, rfl, rfl, rfl⟩ (RLe.refl _) qS

end Go.Proofs.YtejpkjapmhpmpaaDoor

/- A law over a list of numbers: from its contract to its row. No condition. -/
namespace Go.Proofs.YtejpkjapmhpmpaaDoor.K
open Go Go.RowKit

theorem mem0 (W : World) : Mem W W (fun _ => none) [] :=
 ⟨Below.refl _ W, fun b cs h => (by cases h), fun e he => (by cases he), fun e he => (by cases he), List.Pairwise.nil⟩
theorem encI_flat : ∀ (zs : List Int), (zs.map encI).flatten = zs.map (Value.int .i64)
 | [] => rfl
 | z :: zs => by simp [encI, encI_flat zs]
theorem rs_of_ints {W : World} {a : Addr} {zs : List Int} (hcell : ∀ i, i < zs.length → W.cell? (a.add i) = some (.int .i64 (zs.getD i 0))) (hl : zs.length ≤ 9223372036854775807) :
  ∃ R, Mem W W R [] ∧ RS R 1 encI (some a) zs := by
 by_cases h0 : zs = []
 ·subst h0
  exact ⟨_, mem0 W, by simp, .inl rfl, by simp⟩
 ·have hpos : 0 < zs.length := List.length_pos_iff.2 h0
  have h1 := hcell 0 hpos
  unfold World.cell? at h1
  cases hh : W.heap[(a.add 0).block]? with
  | none => simp [hh] at h1
  | some o =>
   cases o with
   | cells arr T fz =>
    have hs : a.spot = none := by
     simp only [hh] at h1
     cases hsp : a.spot with
     | none => rfl
     | some x => simp [Addr.add, hsp] at h1
    have hb : (a.add 0).block = a.block := rfl
    rw [hb] at hh
    refine ⟨fun b => if b = a.block then some arr.toList else none, ⟨Below.refl _ W, fun b cs h => ?_, fun e he => (by cases he), fun e he => (by cases he), List.Pairwise.nil⟩, by simp [encI], .inr ⟨a.block, a.off, arr.toList, ?_, by simp, fun j v hv => ?_⟩, by simpa using hl⟩
    ·by_cases hba : b = a.block
     ·subst hba
      simp at h; subst h
      exact ⟨T, fz, by simpa using hh⟩
     ·simp [hba] at h
    ·cases a; simp only at hs; subst hs; rfl
    ·rw [encI_flat] at hv
     have hj : j < zs.length := by
      have := (List.getElem?_eq_some_iff.1 hv).1
      simpa using this
     have h2 := hcell j hj
     unfold World.cell? at h2
     have hbj : (a.add j).block = a.block := by unfold Addr.add; split <;> rfl
     have hsj : (a.add j).spot = a.spot := by unfold Addr.add; split <;> simp [hs]
     have hoj : (a.add j).off = a.off + j := by unfold Addr.add; split <;> simp [*]
     rw [hbj, hh] at h2
     simp only [hsj, hs, hoj] at h2
     rw [List.getElem?_map, List.getElem?_eq_getElem hj] at hv
     simp only [Option.map_some, Option.some.injEq] at hv
     subst hv
     have e1 : zs.getD j 0 = zs[j] := by simp [List.getD, List.getElem?_eq_getElem hj]
     rw [e1] at h2
     simpa using h2
   | _ => simp [hh] at h1

/-- a contract over a list of numbers, seen from outside -/
def LawI (P : Program) (f : FuncId) : Prop := ∀ {R : Ro} {a : Option Addr} {c : Nat} {xs : List Int}, RS R 1 encI a xs → xs.length ≤ c → ∀ w0, Fn P f [.slice a xs.length c] w0 R [] (fun v _ _ => v = .bool true)
theorem LawI.nil {P : Program} {f : FuncId} (h : LawI P f) (W : World) : Calls P f #[.slice none 0 0] W fun e W' => e = .returned (.bool true) ∧ Below W.heap.size W W' := by
 refine (h (R := fun _ => none) (a := none) (c := 0) (xs := []) ⟨by simp, .inl rfl, by simp⟩ (Nat.le_refl _) W W (mem0 W)).mono ?_
 rintro e w' ⟨v, R', E', rfl, _, hm, rfl⟩
 exact ⟨rfl, hm.below⟩
theorem LawI.some {P : Program} {f : FuncId} (h : LawI P f) {W : World} {a : Addr} {len cap : Nat} {zs : List Int} (hcell : ∀ i, i < zs.length → W.cell? (a.add i) = some (.int .i64 (zs.getD i 0))) (hl : zs.length ≤ 9223372036854775807) (hz : zs.length = cap) (hc : len ≤ cap) :
  Calls P f #[.slice (some a) len cap] W fun e W' => e = .returned (.bool true) ∧ Below W.heap.size W W' := by
 obtain ⟨R, hm, hr⟩ := rs_of_ints hcell hl
 have hr := hr.take len
 have hlen : (zs.take len).length = len := by simp; omega
 have := h (c := cap) hr (by omega) W W hm
 rw [hlen] at this
 refine this.mono ?_
 rintro e w' ⟨v, R', E', rfl, _, hm, rfl⟩
 exact ⟨rfl, hm.below⟩
end Go.Proofs.YtejpkjapmhpmpaaDoor.K

/- A law over any data: from its contract to its row. No condition. -/
namespace Go.Proofs.YtejpkjapmhpmpaaDoor.K
open Go Go.RowKit Go.ChangeShapes Go.WideShapes Go.ChangeAt Go.WideElems Go.Maps

/-- all that lies in memory, as what is read only -/
def roOf (W : World) : Ro := fun b => match W.heap[b]? with
  | some (.cells arr _ _) => some arr.toList
  | _ => none
theorem memAll (W : World) : Mem W W (roOf W) [] := by
 refine ⟨Below.refl _ W, fun b cs h => ?_, fun e he => (by cases he), fun e he => (by cases he), List.Pairwise.nil⟩
 unfold roOf at h
 split at h
 ·rename_i arr T fz hh
  simp only [Option.some.injEq] at h
  subst h
  exact ⟨T, fz, by simpa using hh⟩
 ·cases h
def ints (z : List Int) : List Value := z.map (Value.int .i64)
/-- rows of numbers that lie in memory -/
theorem rsl_of {W : World} {k : Nat} {a : Addr} {zss : List (List Int)} (hk : 0 < k) (hl : ∀ z ∈ zss, z.length = k) (hm : zss.length ≤ 9223372036854775807)
  (hc : ∀ i z, zss[i]? = some z → ∀ j v, (ints z)[j]? = some v → W.cell? (a.add (i * k + j)) = some v) : RSl (roOf W) k (some a) (zss.map ints) := by
 have hlen : ∀ r ∈ zss.map ints, r.length = k := fun r hr => by
  obtain ⟨z, hz, rfl⟩ := List.mem_map.1 hr
  simp [ints, hl z hz]
 by_cases h0 : zss = []
 ·subst h0
  exact ⟨by simp, .inl rfl, by simp⟩
 ·have hpos : 0 < zss.length := List.length_pos_iff.2 h0
  have hz0 : (ints zss[0]).length = k := by simp [ints, hl _ (List.getElem_mem hpos)]
  have h1 := hc 0 zss[0] (List.getElem?_eq_getElem hpos) 0 ((ints zss[0])[0]'(by omega)) (List.getElem?_eq_getElem (by omega))
  rw [Nat.zero_mul, Nat.zero_add] at h1
  unfold World.cell? at h1
  cases hh : W.heap[(a.add 0).block]? with
  | none => simp [hh] at h1
  | some o =>
   cases o with
   | cells arr T fz =>
    have hs : a.spot = none := by
     simp only [hh] at h1
     cases hsp : a.spot with
     | none => rfl
     | some x => simp [Addr.add, hsp] at h1
    have hb : (a.add 0).block = a.block := rfl
    rw [hb] at hh
    refine ⟨hlen, .inr ⟨a.block, a.off, arr.toList, ?_, ?_, fun m v hv => ?_⟩, by simpa using hm⟩
    ·cases a; simp only at hs; subst hs; rfl
    ·unfold roOf; rw [hh]
    ·have hmlt : m < (zss.map ints).flatten.length := (List.getElem?_eq_some_iff.1 hv).1
     rw [flatten_len hlen, List.length_map] at hmlt
     have hi : m / k < zss.length := Nat.div_lt_of_lt_mul (by rw [Nat.mul_comm]; exact hmlt)
     have hj : m % k < k := Nat.mod_lt _ hk
     have hzi := hl _ (List.getElem_mem hi)
     have hg := flatten_get hlen (i := m / k) (j := m % k) (row := ints zss[m / k]) (v := (ints zss[m / k])[m % k]'(by simp [ints, hzi, hj])) (by rw [List.getElem?_map, List.getElem?_eq_getElem hi]; rfl) (List.getElem?_eq_getElem _)
     have hme : m / k * k + m % k = m := by rw [Nat.mul_comm]; exact Nat.div_add_mod m k
     rw [hme, hv] at hg
     have hv' : v = (ints zss[m / k])[m % k]'(by simp [ints, hzi, hj]) := by simpa using hg
     have h2 := hc (m / k) _ (List.getElem?_eq_getElem hi) (m % k) v (by rw [hv']; exact List.getElem?_eq_getElem _)
     rw [hme] at h2
     unfold World.cell? at h2
     have hbj : (a.add m).block = a.block := by unfold Addr.add; split <;> rfl
     have hsj : (a.add m).spot = a.spot := by unfold Addr.add; split <;> simp [hs]
     have hoj : (a.add m).off = a.off + m := by unfold Addr.add; split <;> simp [*]
     rw [hbj, hh] at h2
     simp only [hsj, hs, hoj] at h2
     simpa using h2
   | _ => simp [hh] at h1

section
variable {H : Type} {enc : TypeId × Value → H} {P : Program} {W : World} {spare : Nat → Bool}
/-- elements that are k numbers -/
def Flat (enc : TypeId × Value → H) (P : Program) (e k : Nat) : Prop := ∀ (W : World) (spare : Nat → Bool) (fuel : Nat) (cs : List Value) (x : DataW H × List MemPlace), DataW.trod enc P W 0 spare true fuel e cs = some x → ∃ z : List Int, z.length = k ∧ cs = ints z ∧ ∀ n ∈ z, InR n
theorem flat_int {e : Nat} (he : P.underlying e = some (.int .i64)) : Flat enc P e 1 := by
 intro W spare fuel cs x h
 obtain ⟨n, rfl, _, hw⟩ := DataW.trod_int he h
 exact ⟨[n], rfl, rfl, fun m hm => (by
  have e : m = n := by simpa using hm
  rw [e]; exact bounds_i64 hw)⟩
theorem open_flat {t e k : Nat} {v : Value} {d : DataW H} {ps : List MemPlace} (ht : P.underlying t = some (.slice e)) (hk : 0 < k) (hce : P.cellsOf e = k) (hfl : Flat enc P e k)
  (hval : Value.okWide P W .any 0 t v) (h : DataW.Trod enc P W 0 spare true t v d ps) :
  ∃ (a : Option Addr) (cap : Nat) (zss : List (List Int)), v = .slice a zss.length cap ∧ zss.length ≤ cap ∧ (∀ z ∈ zss, z.length = k) ∧ RSl (roOf W) k a (zss.map ints) ∧ ∀ z ∈ zss, ∀ n ∈ z, InR n := by
 obtain ⟨a0, len, cap, rfl⟩ := okWide_slice ht hval
 obtain ⟨fuel, hf⟩ := h
 rcases Go.Deep.open_slice ht hf with ⟨hcs, _⟩ | ⟨a, len', cap', m, n, D, Pl, hcs, _, hl, hm, hmm, _, hx⟩
 ·simp [Value.cells] at hcs
  obtain ⟨rfl, rfl, rfl⟩ := hcs
  exact ⟨none, 0, [], rfl, Nat.le_refl _, by simp, ⟨by simp, .inl rfl, by simp⟩, by simp⟩
 ·simp [Value.cells] at hcs
  obtain ⟨rfl, rfl, rfl⟩ := hcs
  have hlm : len ≤ m := by rw [hmm]; split <;> omega
  have each : ∀ i, i < len → ∃ z : List Int, z.length = k ∧ (∀ j v, (ints z)[j]? = some v → W.cell? (a.add (i * k + j)) = some v) ∧ ∀ n ∈ z, InR n := by
   intro i hi
   obtain ⟨cs', h1, h2⟩ := hx i (by omega)
   rw [hce] at h1
   obtain ⟨_, hlen, hcell⟩ := World.cells?_some h1
   obtain ⟨z, hz, rfl, hr⟩ := hfl W spare n cs' _ h2
   refine ⟨z, hz, fun j v hj => ?_, hr⟩
   have hjk : j < k := by have := (List.getElem?_eq_some_iff.1 hj).1; simp [ints, hz] at this; exact this
   have := hcell j hjk
   rw [addr_add_add] at this
   rw [this, hj]
  have hch : ∃ f : Nat → List Int, ∀ i, i < len → (f i).length = k ∧ (∀ j v, (ints (f i))[j]? = some v → W.cell? (a.add (i * k + j)) = some v) ∧ ∀ n ∈ f i, InR n :=
   ⟨fun i => if h : i < len then (each i h).choose else [], fun i hi => by simp only [hi, dif_pos]; exact (each i hi).choose_spec⟩
  obtain ⟨f, hf'⟩ := hch
  have hlen : ((List.range len).map f).length = len := by simp
  refine ⟨some a, cap, (List.range len).map f, by rw [hlen], by rw [hlen]; exact hl, fun z hz => ?_, ?_, fun z hz => ?_⟩
  ·obtain ⟨i, hi, rfl⟩ := List.mem_map.1 hz
   exact (hf' i (by simpa using hi)).1
  ·refine rsl_of hk (fun z hz => ?_) (by rw [hlen]; simp only [maxLen] at hm; omega) (fun i z hi => ?_)
   ·obtain ⟨i, hi, rfl⟩ := List.mem_map.1 hz
    exact (hf' i (by simpa using hi)).1
   ·have hil : i < len := by have := (List.getElem?_eq_some_iff.1 hi).1; simpa using this
    have : z = f i := by simp [List.getElem?_map, hil] at hi; exact hi.symm
    subst this
    exact (hf' i hil).2.1
  ·obtain ⟨i, hi, rfl⟩ := List.mem_map.1 hz
   exact (hf' i (by simpa using hi)).2.2

/-- typed -/
theorem RS.ofFlat {α : Type} {_i : Inhabited α} {R : Ro} {k : Nat} {en : α → List Value} {dec : List Int → α} {a : Option Addr} {zss : List (List Int)} (h : RSl R k a (zss.map ints)) (hl : ∀ z ∈ zss, z.length = k) (hd : ∀ z : List Int, z.length = k → en (dec z) = ints z) :
  RS (_i := _i) R k en a (zss.map dec) := by
 unfold RS
 have : (zss.map dec).map en = zss.map ints := by
  rw [List.map_map]
  exact List.map_congr_left fun z hz => hd z (hl z hz)
 rw [this]; exact h

theorem carryAll (hl : laidOutB P = true) {W W' : World} : ∀ {ts : List TypeId} {vs : List Value} {ds : List (DataW H)} {ps : List MemPlace}, ts.all (fun t => P.readableRec t && decide (t < P.types.size)) = true → DataW.TrodAll enc P W 0 (fun _ => true) true ts vs ds ps → Below W.heap.size W W' → (∀ x ∈ ps, x.block < W.heap.size) →
  DataW.TrodAll enc P W' 0 (fun b => decide (b < W.heap.size)) true ts vs ds ps
 | [], vs, ds, ps, _, h, _, _ => by
  obtain ⟨rfl, rfl, rfl⟩ := trodAll_nil h
  exact trodAll_mk0
 | t :: ts, vs, ds, ps, hr, h, hb, hlt => by
  obtain ⟨v, vs', d, ds', p, q, rfl, rfl, rfl, h1, h2⟩ := trodAll_cons h
  simp only [List.all_cons, Bool.and_eq_true, decide_eq_true_eq] at hr
  exact ⟨p, q, Below.trod hl hr.1.1 hr.1.2 h1 hb (fun x hx => hlt x (by simp [hx])), carryAll hl (by simpa using hr.2) h2 hb (fun x hx => hlt x (by simp [hx])), rfl⟩
end
/-- a contract, seen from outside -/
theorem lift_calls {P : Program} {f : FuncId} {args : List Value} {W : World} (h : Fn P f args W (roOf W) [] (fun v _ _ => v = .bool true)) : Calls P f args.toArray W fun e W' => e = .returned (.bool true) ∧ Below W.heap.size W W' := by
 refine (h W (memAll W)).mono ?_
 rintro e w' ⟨v, R', E', rfl, _, hm, rfl⟩
 exact ⟨rfl, hm.below⟩
def decI (z : List Int) : Int := z.headD 0
theorem decI_enc : ∀ z : List Int, z.length = 1 → encI (decI z) = ints z
 | [x], _ => rfl
 | [], h => by simp at h
 | _ :: _ :: _, h => by simp at h
def decP : List Int → M.Pkt
  | [a, b, c] => ⟨a, b, c⟩
  | _ => ⟨0, 0, 0⟩
end Go.Proofs.YtejpkjapmhpmpaaDoor.K

/- Any flat data: a law whose road reads package-level variables: all that exists when the call begins is read only; the builder that hands on the list of the variables and the shape of the world. No condition. -/
namespace Go.Proofs.YtejpkjapmhpmpaaDoor.K
open Go Go.RowKit

theorem ro_cell {W : World} {b : Nat} {v : Value} (h : W.cell? ⟨b, 0, none⟩ = some v) : ∃ rest, roOf W b = some (v :: rest) := by
 unfold World.cell? at h
 unfold roOf
 cases hh : W.heap[b]? with
 | none => simp [hh] at h
 | some o =>
  cases o with
  | cells arr T fz =>
   simp only [hh] at h ⊢
   obtain ⟨l⟩ := arr
   cases l with
   | nil => simp at h
   | cons x l => simp at h; subst h; exact ⟨l, rfl⟩
  | _ => simp [hh] at h
theorem ro_var {P : Program} {W : World} {name : String} {g : Nat} {cs : Array Value} (hg : P.globalNamed name = some g) (h : W.var? P name = some cs) : roOf W g = some cs.toList := by
 unfold World.var? at h
 simp only [hg, Option.bind_some] at h
 unfold roOf
 split at h
 ·simp only [Option.some.injEq] at h; subst h; simp [*]
 ·cases h

theorem returnsInHanded_laidB {H : Type} {enc : TypeId × Value → H} {a : Assume} {C : Checked} {os : Os} {f : FuncId} {fn : Func} {s : ChangeSpec} {conds : List PathCond} {apart fresh handsOn again : Bool} {X : World → Array Value → Prop}
  (hX : ∀ (w w' : World) (args : Array Value), w.heap = w'.heap → X w args → X w' args)
  (own : ownKnob C.prog.godebug = none) (started : os.Started) (noInit : C.prog.inits.idxOf? f = none) (hfn : C.prog.funcs[f]? = some fn)
  (witness : ∃ (w : World) (tape : Tape) (i : Input), w.os = os ∧ (w.forCall tape i).Shaped C.prog ∧ i.vars = [] ∧ Input.okWide C.prog (w.forCall tape i) .any w.heap.size f i ∧
   ((s.pre enc C.prog fn conds apart (w.forCall tape i).memory i.args ∧ X (w.forCall tape i).memory i.args) ∧ sizedMet enc C.prog fn (OpenSpec.ofChange s) apart (w.forCall tape i).memory i.args) ∧ a.holds C.prog (lone (Frame.enter C.prog f i.args .normal) [] (w.forCall tape i)))
  (contract : ∀ (W : World) (base : Nat) (args : Array Value) (ds gs : List (DataW H)) (before : List MemPlace),
   (∀ (j : Nat) t v, fn.params[j]? = some t → args[j]? = some v → Value.okWide C.prog W .any base t v) →
   DataW.Whole enc C.prog fn.params.toList s.vars apart W args.toList ds gs before →
   conds.all (PathCond.test C.prog ⟨fn.params.toList, ds, s.plain.varTypes C.prog, gs⟩) = true →
   X W args → W.ShapedOpen C.prog →
   Calls C.prog f args W fun e W' => ∃ v, e = .returned v ∧ s.post enc C.prog fn apart fresh handsOn again W args v W') :
  ReturnsInHanded a C os f .any (fun w args => (s.pre enc C.prog fn conds apart w args ∧ X w args) ∧ sizedMet enc C.prog fn (OpenSpec.ofChange s) apart w args) (s.post enc C.prog fn apart fresh handsOn again) := by
 refine returnsInHanded_of_calls own started noInit witness ?_
 intro w tape i _ hsh _ hok hpre hholds
 obtain ⟨_, _, _, fn', hfn', _, _, _, _, hval⟩ := hok
 have e : fn' = fn := Option.some.inj (hfn'.symm.trans hfn)
 subst e
 obtain ⟨⟨⟨ds, gs, before, hw, hc⟩, hx⟩, hz⟩ := hpre
 have hw' := DataW.Whole.of_heap (w' := w.forCall tape i) (by rfl) hw
 refine (contract (w.forCall tape i) w.heap.size i.args ds gs before hval hw' hc (hX _ _ _ (by rfl) hx) hsh).mono fun e W' ⟨v, he, hp⟩ => ?_
 subst he
 exact ChangeSpec.post_blind hp
end Go.Proofs.YtejpkjapmhpmpaaDoor.K

/- From the list of the variables to what the walks know of them. No condition. -/
namespace Go.Proofs.YtejpkjapmhpmpaaDoor
open Go Go.RowKit Go.Proofs.YtejpkjapmhpmpaaDoor.K
theorem starE : "*" ++ "errors.errorString" = "*errors.errorString" := by decide
def laidJ : List (String × DataW Unit) := Rows.notationPositionsRow.laid
theorem glob_ofJ {W : World} (hsh : W.ShapedOpen Tryd.prog) (hL : laidMetH Tryd.prog laidJ W) : GlobE (roOf W) := by
 unfold laidJ Rows.notationPositionsRow at hL
 dsimp only at hL
 rw [MakeChecks.laidMetH_plain _ _ _ (by kernel_rfl)] at hL
 have h3 := hL.tail.tail
 have ht : (Rows.laid_internal_strconv_uint64pow10 : DataW Unit) = Lib.tabData .u64 Lib.pow10Tab := by kernel_rfl
 have h3b := h3
 rw [ht] at h3b
 have h4 := Lib.tabIs_of_head (g := 5) (t := 126) (e := 98) (n := 20) (by kernel_rfl) (by kernel_rfl) Tryd.underlying126 Tryd.underlying98 (by kernel_rfl) (by kernel_rfl) h3b
 have h5 := ro_var (P := Tryd.prog) (g := 5) (by kernel_rfl) h4
 have h6 := h3.tail.tail
 have h7 := h6.tail
 have hrow : ∀ u, Tryd.prog.typeName? 3 u = some "*errors.errorString" → u = 132 := fun u hu => typeName_ptr_named (P := Tryd.prog) (nm := "errors.errorString") (by rw [starE]; kernel_rfl) (by kernel_rfl) (by decide) u (by rw [starE]; exact hu)
 obtain ⟨a1, s1, e1, _, _, _⟩ := laid_sentinel (g := 4) (ti := 90) (tp := 132) (te := 134) (ts := 9) h6 (by kernel_rfl) (by kernel_rfl) Tryd.underlying90 hrow Tryd.underlying132 Tryd.underlying134 rfl rfl Tryd.underlying9 (by kernel_rfl) (by kernel_rfl)
 obtain ⟨a2, s2, e2, _, _, _⟩ := laid_sentinel (g := 3) (ti := 90) (tp := 132) (te := 134) (ts := 9) h7 (by kernel_rfl) (by kernel_rfl) Tryd.underlying90 hrow Tryd.underlying132 Tryd.underlying134 rfl rfl Tryd.underlying9 (by kernel_rfl) (by kernel_rfl)
 obtain ⟨m, hm⟩ := Go.Proofs.cell_of_shapedOpen_int (g := 0) (zero := #[.int .i64 0]) (t := 3) hsh (of_decide_eq_true (by kernel_rfl)) (by kernel_rfl) rfl (by kernel_rfl) (by kernel_rfl) Tryd.underlying3
 obtain ⟨rest, hr⟩ := ro_cell hm
 refine ⟨⟨m, rest, hr⟩, ?_, ?_, ?_⟩
 ·rw [h5]
 ·exact ⟨_, _, ro_var (P := Tryd.prog) (g := 3) (by kernel_rfl) e2⟩
 ·exact ⟨_, _, ro_var (P := Tryd.prog) (g := 4) (by kernel_rfl) e1⟩
end Go.Proofs.YtejpkjapmhpmpaaDoor

/- NotationPositions: for every input the law returns true, and the input reads afterwards as it read before; the listed variables of the library start as its text lays them. -/
namespace Go.Proofs.YtejpkjapmhpmpaaDoor
open Go Go.RowKit Go.ChangeShapes Go.WideShapes Go.ChangeAt Go.WideElems Go.Maps Go.Proofs.YtejpkjapmhpmpaaDoor.K Go.Proofs.YtejpkjapmhpmpaaDoor.M
open Go.ChangeMaps (open_string shut_string)
namespace notationPositions
theorem own : ownKnob Tryd.prog.godebug = none := by kernel_rfl
theorem laidOut : laidOutB Tryd.prog = true := by kernel_rfl
theorem readable : (Tryd.f3.params.toList).all (fun t => Tryd.prog.readableRec t && decide (t < Tryd.prog.types.size)) = true := by kernel_rfl
section
variable {H : Type} {enc : TypeId × Value → H}
theorem flat_ints : Flat enc Tryd.prog 3 1 := flat_int Tryd.underlying3
theorem cells_ints : Tryd.prog.cellsOf 3 = 1 := by kernel_rfl
end
set_option maxRecDepth 100000 in
theorem lifted (os : Os) (started : os.Started) (H : Type) (enc : TypeId × Value → H) :
  ReturnsInHanded {} Tryd.checked os 3 .any (fun w args => (Rows.notationPositionsSpec.pre enc Tryd.prog Tryd.f3 [] false w args ∧ laidMetH Tryd.prog laidJ w) ∧ sizedMet enc Tryd.prog Tryd.f3 (OpenSpec.ofChange Rows.notationPositionsSpec) false w args)
   (Rows.notationPositionsSpec.post enc Tryd.prog Tryd.f3 false true false false) := by
 refine returnsInHanded_laidB (C := Tryd.checked) (X := fun w _ => laidMetH Tryd.prog laidJ w) (fun _ _ _ hh h => h.of_heap hh) own started (by kernel_rfl) Tryd.func3
  (ChangeSpec.witness_shaped (enc := enc) (C := Tryd.checked) (os := os) (X := fun w _ => laidMetH Tryd.prog laidJ w) false (World.laidAll Tryd.prog os laidJ) #[.string ⟨#[]⟩, .slice none 0 0, .int .i64 0, .int .u8 0] 8 (World.laidAll_os _ _ _)
   (World.shaped_of_ZipB (by kernel_rfl) (by kernel_rfl)) (by kernel_rfl) (by kernel_rfl) (by kernel_rfl)
   (by rw [MakeChecks.laidMetH_plain _ _ _ (by kernel_rfl)]; exact laidMet_laidAll _ (by kernel_rfl) (by kernel_rfl))) ?_
 intro W base args ds gs before hval0 hW _ hL hsh
 have hG := glob_ofJ hsh hL
 have hval : ∀ (j : Nat) t v, Tryd.f3.params[j]? = some t → args[j]? = some v → Value.okWide Tryd.prog W .any base t v := hval0
 have hW' := hW
 obtain ⟨p, q, hA0, hV, rfl, _, _⟩ := hW
 have hA : DataW.TrodAll enc Tryd.prog W 0 (fun _ => true) true Tryd.f3.params.toList args.toList ds p := hA0
 have hA1 := hA
 obtain ⟨rfl, rfl⟩ := trodVars_none hV
 simp only [List.append_nil] at hW'
 have hlt : ∀ x ∈ p, x.block < W.heap.size := fun x hx => by simpa using hW'.lt x hx
 have hcarry : ∀ W', Below W.heap.size W W' → DataW.TrodAll enc Tryd.prog W' 0 (fun b => decide (b < W.heap.size)) true Tryd.f3.params.toList args.toList ds p := fun W' hb => carryAll laidOut readable hA1 hb hlt
 clear hA0 hval0 hA1
 rw [Tryd.params3] at hA
 obtain ⟨v0, vs0, d0, ds0, p0, q0, e0, rfl, e20, h0, t0⟩ := trodAll_cons hA
 obtain ⟨v1, vs1, d1, ds1, p1, q1, rfl, rfl, e21, h1, t1⟩ := trodAll_cons t0
 obtain ⟨v2, vs2, d2, ds2, p2, q2, rfl, rfl, e22, h2, t2⟩ := trodAll_cons t1
 obtain ⟨v3, vs3, d3, ds3, p3, q3, rfl, rfl, e23, h3, t3⟩ := trodAll_cons t2
 obtain ⟨rfl, rfl, _⟩ := trodAll_nil t3
 have hargs : args = #[v0, v1, v2, v3] := by rw [← Array.toArray_toList (xs := args), e0]
 subst hargs
 obtain ⟨s0, rfl, _, _, w0⟩ := open_string Tryd.underlying9 (hval 0 9 _ rfl rfl) h0
 obtain ⟨a1, cp1, zs1, rfl, c1, l1, m1, r1⟩ := open_flat Tryd.underlying22 (by decide) cells_ints flat_ints (hval 1 22 _ rfl rfl) h1
 have g1 : RS (roOf W) 1 encI a1 (zs1.map decI) := RS.ofFlat m1 l1 decI_enc
 have n1 : (zs1.map decI).length = zs1.length := by simp
 rw [← n1] at c1
 obtain ⟨z2, rfl, _, _, w2⟩ := open_int Tryd.underlying3 (hval 2 3 _ rfl rfl) h2
 have r2 : InR z2 := bounds_i64 w2
 obtain ⟨z3, rfl, _, _, w3⟩ := open_int Tryd.underlying5 (hval 3 5 _ rfl rfl) h3
 have r3 := bounds_u8 w3
 have hcall := lift_calls (P := Tryd.prog) (f := 3) (args := [.string s0, .slice a1 (zs1.map decI).length cp1, .int .i64 z2, .int .u8 z3]) (W := W) (by have h := NotationPositions_F (text := s0.data.toList) (v := UInt8.ofNat z3.toNat) g1 r2 hG c1 W; rw [← str_of s0, show ((UInt8.ofNat z3.toNat).toNat : Int) = z3 from by rw [UInt8.toNat_ofNat']; omega] at h; exact h)
 try simp only [List.length_map] at hcall
 refine hcall.mono fun e W' ⟨he, hb⟩ => ?_
 subst he
 exact ⟨_, rfl, ⟨_, _, _, [], _, [], hW', trodAll_mk1 (shut_bool Tryd.underlying4 _), hcarry W' hb, rfl, hb.frame _, fun h => by cases h⟩⟩
end notationPositions
theorem notationPositions_holds : Rows.NotationPositionsSaid :=
 OpenClaim.holds_of_wide 3 Tryd.f3 rfl rfl rfl rfl rfl rfl rfl ⟨rfl, rfl, rfl, rfl, rfl⟩ rfl rfl rfl rfl rfl (by kernel_rfl) Tryd.func3 (by kernel_rfl)
  (of_decide_eq_true (by kernel_rfl)) (by unfold Func.isWrapper; first | (rw [if_pos (by decide +kernel)]; kernel_rfl) | (rw [if_neg (by decide +kernel)]; exact ⟨rfl, rfl⟩))
  (fun os started H enc _ => notationPositions.lifted os started H enc)
theorem notationPositions_card : Rows.NotationPositionsCardSaid :=
 Claim7.holds_tied_plain_at .later [] [.data, .data, .data, .data, .sentinel, .sentinel, .pinned] true (true, "1c2db47946faa8ff8fdf067c73190dad8394cb5bd72c58f991f507bdec60a432") true
  notationPositions_holds (fun _ h => by cases h) (by kernel_rfl) (fun _ h => by cases h) notationPositions_row_tie rfl ⟨rfl, rfl⟩ (by kernel_rfl) rfl
  (fun f fn hf hfn => by
   obtain rfl : f = 3 := Option.some.inj ((show Tryd.prog.funcNamed Tryd.f3.name = some 3 by kernel_rfl).symm.trans hf) |>.symm
   obtain rfl : fn = Tryd.f3 := (Option.some.inj (Tryd.func3.symm.trans hfn)).symm
   exact ⟨by kernel_rfl, fun j t ht => by
    rw [Tryd.params3] at ht
    have hm : t ∈ [9, 22, 3, 5] := by simpa using Array.mem_of_getElem? ht
    have hall : ([9, 22, 3, 5].all fun u => !Tryd.prog.wantsStandIn u) = true := by kernel_rfl
    exact (show Tryd.prog.wantsStandIn t = false by simpa using List.all_eq_true.1 hall t hm)⟩)
  (by kernel_rfl)
end Go.Proofs.YtejpkjapmhpmpaaDoor
