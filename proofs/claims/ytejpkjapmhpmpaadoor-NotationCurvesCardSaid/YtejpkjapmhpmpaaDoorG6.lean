/- NotationCurves: for every input the law returns true, and the input reads afterwards as it read before; the listed variables of the library start as its text lays them. -/
import Derived.Test.YtejpkjapmhpmpaaDoorG5
import Derived.Handed
import Derived.HandedShaped
import Derived.LaidMore
import Derived.LaidHandle
import Derived.LaidLaws
import Derived.MakeChecks
import Derived.Stop.LaidErr
import Derived.Lib.LaidTab
import Derived.Shelf.Vars
import Derived.Test.YtejpkjapmhpmpaaDoorTie
import Derived.Test.YtejpkjapmhpmpaaDoorCards
import Derived.SevenTiedAt
import Derived.OpenShut
import Derived.Stop.Joined
import Derived.Lay
/- strings.Split at one byte. No condition. -/
set_option maxRecDepth 4000
set_option linter.unusedSimpArgs false
set_option linter.unusedVariables false
namespace Go.Proofs.YtejpkjapmhpmpaaDoor
open Go Go.RowKit Go.Proofs.YtejpkjapmhpmpaaDoor.K Go.Proofs.YtejpkjapmhpmpaaDoor.M

theorem Split_C {R : Ro} (hG : GlobE R) {s : List UInt8} {d : UInt8} (hs : s.length ≤ 4000000000) (w0 : World) (E : List Ent) : K.Fn Tryd.prog 37 [.string (str s), .string (str [d])] w0 R E (fun v R' E' => ∃ a : Addr, v = .slice (some a) (splC d s).length (splC d s).length ∧ RS R' 1 encT (some a) (splC d s) ∧ E = E') := by
 obtain ⟨m, rest, hm0⟩ := hG.m
 intro w hm
 have hsz := str_size s
 obtain ⟨g1, g2⟩ := split_splC d s.length s (Nat.le_refl _)
 have hls : (str s).data.toList = s := by simp [str]
 have hld : (str [d]).data.toList = [d] := by simp [str]
 have hcb : Lib.countB (str s) (str [d]) + 1 = (splC d s).length := by
  show Lib.count _ _ + 1 = _
  rw [hls, hld]; exact g2
 have hsp : (Lib.splitB (str [d]) 0 (Lib.countB (str s) (str [d])) (str s)).map Value.string = ((splC d s).map encT).flatten := by
  have h1 := Lib.splitB_data (str [d]) 0 (Lib.countB (str s) (str [d])) (str s)
  have h2 : Lib.splitB (str [d]) 0 (Lib.countB (str s) (str [d])) (str s) = (splC d s).map str := by
   have h3 : (Lib.splitB (str [d]) 0 (Lib.countB (str s) (str [d])) (str s)) = ((Lib.splitB (str [d]) 0 (Lib.countB (str s) (str [d])) (str s)).map (·.data.toList)).map str := by
    rw [List.map_map]
    refine (List.map_id'' (fun x => ?_) _).symm
    exact (str_of x).symm
   rw [h3, h1]
   show (Lib.splitK _ _ (Lib.count _ _) _).map str = _
   rw [hls, hld, g1]
  rw [h2, List.map_map]
  generalize splC d s = l
  induction l with
  | nil => rfl
  | cons x l ih => simp only [List.map_cons, List.flatten_cons, ih]; rfl
 refine (sh_strings_Split (str s) (str [d]) m w (by omega) (hm.cell hm0) (by rw [str_size]; exact Nat.le_refl 1)).mono ?_
 rintro e w' ⟨rfl, rfl⟩
 rw [hcb, hsp]
 have hlen := splC_len d s
 have hfl : ((splC d s).map encT).flatten.length = (splC d s).length := by
  generalize splC d s = l
  induction l with
  | nil => rfl
  | cons x l ih => simp only [List.map_cons, List.flatten_cons, List.length_append, ih, List.length_cons]; show 1 + _ = _; omega
 have hmn : Mem w0 (w.alloc (.cells ((splC d s).map encT).flatten.toArray 9)) R (.sl 9 1 (some ⟨w.heap.size, 0, none⟩) (splC d s).length ((splC d s).map encT) :: E) := by
  refine hm.new (e' := .sl 9 1 (some ⟨w.heap.size, 0, none⟩) (splC d s).length ((splC d s).map encT)) ⟨rfl, rfl, rfl, by simp, fun j hj _ => heap_alloc_old w _ hj⟩ ?_ (fun b hb => by simp [Ent.block] at hb; omega)
  refine ⟨fun r hr => by obtain ⟨c, _, rfl⟩ := List.mem_map.1 hr; rfl, Nat.one_pos, ?_, ?_⟩
  ·rw [hfl, List.length_map]; omega
  ·right
   refine ⟨w.heap.size, _, _, by rw [List.length_map], hm.below.size, heap_alloc_new w _, by rw [List.length_map]; exact Nat.le_refl _, by unfold maxLen; omega, by simp only [List.size_toArray]; rw [hfl]; omega, ?_⟩
   rw [List.length_map]; exact List.take_of_length_le (by show ((splC d s).map encT).flatten.length ≤ _; rw [hfl]; omega)
 obtain ⟨R2, k1, k2, k3⟩ := hmn.freeze (i := 0) (enc := encT) (xs := splC d s) rfl
 exact ⟨_, R2, E, rfl, k1, k3, ⟨w.heap.size, 0, none⟩, rfl, k2, rfl⟩



theorem nilI20 : Tryd.prog.underlying 20 = some (.interface (Tryd.prog.methodsAt 20)) := by kernel_rfl

theorem ParseD_ret {R : Ro} {x2 x3 x4 : Nat} (w0 : World) (E : List Ent) : FnDR Tryd.prog 36 [.pointer (some ⟨x2, 0, none⟩), .pointer (some ⟨x3, 0, none⟩), .pointer (some ⟨x4, 0, none⟩)] w0 R E .returning (fun R' E' u' => settle u' = .returning ∧ R = R' ∧ E = E') := by
 refine FnDR.enter (n := 22) Tryd.func36 rfl rfl (Nat.le_of_ble_eq_true rfl) rfl ?_
 intro c0 cs hc
 refine WD.seq ?_
 refine WD.region ?_
 refine WDG.recover (v := .nilIface) (cs' := { c0 with mode := .returning } :: cs) rfl rfl rfl qD rfl rfl (by cases c0; cases hc; rfl) ?_
 refine WDG.yl rfl rfl rfl qD (pureV_ok tab_ok rfl (fun _ => rfl)) ?_
 refine WDG.nil ?_
 refine WD.plain ?_
 refine zQ (zQ (zG (zR 1 rfl ?_)))
 refine WG.y rfl rfl qD (Yl.eqNilI nilI20 rfl rfl rfl (fun _ => rfl) (by first | exact .inl ⟨rfl, rfl⟩ | exact .inr ⟨⟨_, _, rfl⟩, rfl⟩)) ?_
 refine zN (zU ?_)
 refine W.cond rfl (fun hc0 => ?_) (fun hc0 => ?_)
 ·try simp only [zk] at hc0
  refine zT (wt ?_)
  refine WE.retDR rfl (RLe.refl _) ?_
  exact ⟨rfl, rfl, rfl⟩
 ·try simp only [zk] at hc0
  first | (simp at hc0; done) | exact absurd hc0 (by decide)

set_option maxHeartbeats 1000000 in
theorem ParseD_panic {R : Ro} {x2 x3 x4 : Nat} {q0 q1 q2 : Value} {q3 q4 : Int} {p : Nat} {e : Int} (w0 : World) (E : List Ent) : FnDR Tryd.prog 36 [.pointer (some ⟨x2, 0, none⟩), .pointer (some ⟨x3, 0, none⟩), .pointer (some ⟨x4, 0, none⟩)] w0 R (.blk x4 [.int .i64 q4] :: .blk x3 [.int .i64 q3] :: .blk x2 [q0, q1, q2] :: E) (.panicking [{ v := failV p e, recovered := false }]) (fun R' E' u' => settle u' = .returning ∧ R = R' ∧ E' = .blk x4 [.int .i64 e] :: .blk x3 [.int .i64 (p : Int)] :: .blk x2 [.slice none 0 0, .int .i64 0, .int .i64 0] :: E) := by
 refine FnDR.enter (n := 22) Tryd.func36 rfl rfl (Nat.le_of_ble_eq_true rfl) rfl ?_
 intro c0 cs hc
 refine WD.seq ?_
 refine WD.region ?_
 refine WDG.recover (v := failV p e) (cs' := { c0 with mode := .panicking [{ v := failV p e, recovered := true }] } :: cs) rfl rfl rfl qD rfl rfl (by cases c0; cases hc; rfl) ?_
 refine WDG.yl rfl rfl rfl qD (pureV_ok tab_ok rfl (fun _ => rfl)) ?_
 refine WDG.nil ?_
 refine WD.plain ?_
 refine zQ (zQ (zG (zR 1 rfl ?_)))
 refine WG.y rfl rfl qD (Yl.eqNilI nilI20 rfl rfl rfl (fun _ => rfl) (by first | exact .inl ⟨rfl, rfl⟩ | exact .inr ⟨⟨_, _, rfl⟩, rfl⟩)) ?_
 refine zN (zU ?_)
 refine W.cond rfl (fun hc0 => ?_) (fun hc0 => ?_)
 ·try simp only [zk] at hc0
  first | (simp at hc0; done) | exact absurd hc0 (by decide)
 ·try simp only [zk] at hc0
  refine zK (zU (zQ (zG (zR 1 rfl ?_))))
  refine WG.y rfl rfl qD (Yl.assert (v := .tuple #[.agg #[.int .i64 (p : Int), .int .i64 e], .bool true]) rfl rfl (fun w => by kernel_rfl) (fun _ => rfl)) ?_
  refine zR 3 rfl ?_
  refine zA fun b4 => ?_
  first | refine WL.efN rfl rfl (Ef.store0 0 tab_ok rfl rfl rfl rfl rfl rfl rfl rfl ?_) | refine WL.efN rfl rfl (Ef.store0 1 tab_ok rfl rfl rfl rfl rfl rfl rfl rfl ?_) | refine WL.efN rfl rfl (Ef.store0 2 tab_ok rfl rfl rfl rfl rfl rfl rfl rfl ?_) | refine WL.efN rfl rfl (Ef.store0 3 tab_ok rfl rfl rfl rfl rfl rfl rfl rfl ?_) | refine WL.efN rfl rfl (Ef.store0 4 tab_ok rfl rfl rfl rfl rfl rfl rfl rfl ?_)
  refine zR 1 rfl (zN (zU (zQ (zQ (zG (zR 2 rfl (zN (zU ?_))))))))
  refine W.cond rfl (fun hc1 => ?_) (fun hc1 => ?_)
  ·try simp only [zk] at hc1
   first | (simp at hc1; done) | exact absurd hc1 (by decide)
  ·try simp only [zk] at hc1
   refine zK (zU ?_)
   refine W.regionH _ (ES := [.blk b4 [.int .i64 (p : Int), .int .i64 e]]) mixed ?_
   -- build
   refine WA.take 0 rfl qK qK qK rfl rfl qD (Yl.build (parts := []) tab_ok rfl rfl rfl rfl (fun _ => rfl) rfl rfl) qS qR ?_
   refine tP 1 ?_
   refine' WA.take 2 rfl qK qK qK rfl rfl qD (Yl.load1 tab_ok rfl rfl rfl (fun _ => rfl) ?r1 rfl ?h1) qS qR ?_
   case r1 => apply Rd.add; (first | exact Rd.blk 0 rfl | exact Rd.blk 1 rfl | exact Rd.blk 2 rfl | exact Rd.blk 3 rfl | exact Rd.blk 4 rfl)
   case h1 => rfl
   refine tP 3 ?_
   refine' WA.take 4 rfl qK qK qK rfl rfl qD (Yl.load1 tab_ok rfl rfl rfl (fun _ => rfl) ?r2 rfl ?h2) qS qR ?_
   case r2 => apply Rd.add; (first | exact Rd.blk 0 rfl | exact Rd.blk 1 rfl | exact Rd.blk 2 rfl | exact Rd.blk 3 rfl | exact Rd.blk 4 rfl)
   case h2 => rfl
   first | refine WA.effN 5 rfl qK rfl rfl (Ef.store0 0 tab_ok rfl rfl rfl rfl rfl rfl rfl rfl ?_) | refine WA.effN 5 rfl qK rfl rfl (Ef.store0 1 tab_ok rfl rfl rfl rfl rfl rfl rfl rfl ?_) | refine WA.effN 5 rfl qK rfl rfl (Ef.store0 2 tab_ok rfl rfl rfl rfl rfl rfl rfl rfl ?_) | refine WA.effN 5 rfl qK rfl rfl (Ef.store0 3 tab_ok rfl rfl rfl rfl rfl rfl rfl rfl ?_) | refine WA.effN 5 rfl qK rfl rfl (Ef.store0 4 tab_ok rfl rfl rfl rfl rfl rfl rfl rfl ?_)
   refine ⟨qR, qS, ?_⟩
   first | refine WA.effN 6 rfl qK rfl rfl (Ef.store0 0 tab_ok rfl rfl rfl rfl rfl rfl rfl rfl ?_) | refine WA.effN 6 rfl qK rfl rfl (Ef.store0 1 tab_ok rfl rfl rfl rfl rfl rfl rfl rfl ?_) | refine WA.effN 6 rfl qK rfl rfl (Ef.store0 2 tab_ok rfl rfl rfl rfl rfl rfl rfl rfl ?_) | refine WA.effN 6 rfl qK rfl rfl (Ef.store0 3 tab_ok rfl rfl rfl rfl rfl rfl rfl rfl ?_) | refine WA.effN 6 rfl qK rfl rfl (Ef.store0 4 tab_ok rfl rfl rfl rfl rfl rfl rfl rfl ?_)
   refine ⟨qR, qS, ?_⟩
   first | refine WA.effN 7 rfl qK rfl rfl (Ef.store0 0 tab_ok rfl rfl rfl rfl rfl rfl rfl rfl ?_) | refine WA.effN 7 rfl qK rfl rfl (Ef.store0 1 tab_ok rfl rfl rfl rfl rfl rfl rfl rfl ?_) | refine WA.effN 7 rfl qK rfl rfl (Ef.store0 2 tab_ok rfl rfl rfl rfl rfl rfl rfl rfl ?_) | refine WA.effN 7 rfl qK rfl rfl (Ef.store0 3 tab_ok rfl rfl rfl rfl rfl rfl rfl rfl ?_) | refine WA.effN 7 rfl qK rfl rfl (Ef.store0 4 tab_ok rfl rfl rfl rfl rfl rfl rfl rfl ?_)
   refine ⟨qR, qS, ?_⟩
   refine WA.done qK ?_
   refine WE.subE (E' := .blk x4 [.int .i64 e] :: .blk x3 [.int .i64 (p : Int)] :: .blk x2 [.slice none 0 0, .int .i64 0, .int .i64 0] :: E) qS ?_
   refine WE.endDR rfl (RLe.refl _) ?_
   exact ⟨rfl, rfl, rfl⟩

set_option maxHeartbeats 1000000 in
theorem Parse03_C {R : Ro} {s : List UInt8} (hG : GlobE R) (hs : s.length ≤ 1000000) (w0 : World) (E : List Ent) : K.Fn Tryd.prog 13 [.string (str s)] w0 R E (fun v R' E' => ∃ (f : Option Addr) (fc : Nat), v = .tuple #[.agg #[.slice f (parseR s).1.vals.length fc, .int .i64 (parseR s).1.per, .int .i64 (parseR s).1.inc], .int .i64 ((parseR s).2.1 : Int), .int .i64 (parseR s).2.2] ∧ RS R' 1 encI f (parseR s).1.vals ∧ (parseR s).1.vals.length ≤ fc ∧ E.Sublist E') := by
 have hss := str_size s
 refine Fn.enterD (n := 24) Tryd.func13 rfl rfl (Nat.le_of_ble_eq_true rfl) rfl ?_
 refine zQ (zG ?_)
 refine zA fun b2 => ?_
 refine zA fun b3 => ?_
 refine zA fun b4 => ?_
 refine zN (zU (zQ (zQ (zG (zR 3 rfl (zN (zU ?_)))))))
 refine W.condD rfl (fun hc0 => ?_) (fun hc0 => ?_)
 ·try dsimp only at hc0
  have hp : parseR s = (zcv, 0, 3) := if_pos (by omega)
  refine zQ (zG ?_)
  -- build
  refine WG.y rfl rfl qD (Yl.build (parts := []) tab_ok rfl rfl rfl rfl (fun _ => rfl) rfl rfl) ?_
  first | refine WL.efN rfl rfl (Ef.store0 0 tab_ok rfl rfl rfl rfl rfl rfl rfl rfl ?_) | refine WL.efN rfl rfl (Ef.store0 1 tab_ok rfl rfl rfl rfl rfl rfl rfl rfl ?_) | refine WL.efN rfl rfl (Ef.store0 2 tab_ok rfl rfl rfl rfl rfl rfl rfl rfl ?_) | refine WL.efN rfl rfl (Ef.store0 3 tab_ok rfl rfl rfl rfl rfl rfl rfl rfl ?_) | refine WL.efN rfl rfl (Ef.store0 4 tab_ok rfl rfl rfl rfl rfl rfl rfl rfl ?_)
  first | refine WL.efN rfl rfl (Ef.store0 0 tab_ok rfl rfl rfl rfl rfl rfl rfl rfl ?_) | refine WL.efN rfl rfl (Ef.store0 1 tab_ok rfl rfl rfl rfl rfl rfl rfl rfl ?_) | refine WL.efN rfl rfl (Ef.store0 2 tab_ok rfl rfl rfl rfl rfl rfl rfl rfl ?_) | refine WL.efN rfl rfl (Ef.store0 3 tab_ok rfl rfl rfl rfl rfl rfl rfl rfl ?_) | refine WL.efN rfl rfl (Ef.store0 4 tab_ok rfl rfl rfl rfl rfl rfl rfl rfl ?_)
  first | refine WL.efN rfl rfl (Ef.store0 0 tab_ok rfl rfl rfl rfl rfl rfl rfl rfl ?_) | refine WL.efN rfl rfl (Ef.store0 1 tab_ok rfl rfl rfl rfl rfl rfl rfl rfl ?_) | refine WL.efN rfl rfl (Ef.store0 2 tab_ok rfl rfl rfl rfl rfl rfl rfl rfl ?_) | refine WL.efN rfl rfl (Ef.store0 3 tab_ok rfl rfl rfl rfl rfl rfl rfl rfl ?_) | refine WL.efN rfl rfl (Ef.store0 4 tab_ok rfl rfl rfl rfl rfl rfl rfl rfl ?_)
  refine zN (zU (zT (wt ?_)))
  refine WE.retD0 tab_ok [_, _, _] rfl ⟨⟨_, _, _, rfl, rfl, rfl, Rd.blk 2 rfl, rfl⟩, ⟨_, _, _, rfl, rfl, rfl, Rd.blk 1 rfl, rfl⟩, ⟨_, _, _, rfl, rfl, rfl, Rd.blk 0 rfl, rfl⟩, trivial⟩ (RLe.refl _) ?_
  exact ⟨none, 0, by rw [hp]; rfl, by rw [hp]; exact rs_nil, by rw [hp]; exact Nat.le_refl 0, qS⟩
 ·try dsimp only at hc0
  refine zK (zU (zQ (zG (zR 1 rfl ?_))))
  refine WL.defer rfl rfl rfl rfl rfl rfl rfl ?_
  refine zN (zU (zQ (zG (zR 1 rfl ?_))))
  refine WL.call en37 rfl rfl qD (CallOp.mkT rfl rfl rfl rfl) (Split_C hG (s := s) (d := 32) qO w0 _) ?_
  rintro _ R1 _ hR1 ⟨a12, rfl, hws, rfl⟩
  rw [← spl_eq] at hws ⊢
  refine zR 2 rfl ?_
  -- build
  refine WG.y rfl rfl qD (Yl.build (parts := [(0, .tmp 12), (3, .tmp 14)]) tab_ok rfl rfl rfl rfl (fun _ => rfl) rfl rfl) ?_
  refine zO fun b16 => ?_
  refine zR 1 rfl (zN (zU (zQ (zG (zR 1 rfl ?_)))))
  refine WL.callX en38 rfl rfl (by decide) (CallOp.mkT rfl rfl rfl rfl) (CurveR_C w0 hws (by omega) (hG.mono hR1) (by rw [remL_spl]; omega) _) ?_ ?_
  ·
   rintro _ R2 E2 hR2 ⟨p, e, rfl, hpg, hne, hsub⟩
   rw [hss] at hpg
   have hp : parseR s = (zcv, p, e) := by unfold parseR; rw [if_neg (by omega), hpg, if_pos hne]
   refine WE.then_panic ?_
   refine WE.subE (E' := .blk b4 [.int .i64 0] :: .blk b3 [.int .i64 0] :: .blk b2 [.slice none 0 0, .int .i64 0, .int .i64 0] :: E) hsub ?_
   refine WE.panicD tab_ok rfl rfl en36 ?_
   refine FnDR.mono (ParseD_panic w0 _) ?_
   rintro _ _ _ - ⟨hse, rfl, rfl⟩
   refine ⟨hse, hR1.trans hR2, [_, _, _], ⟨⟨_, _, _, rfl, rfl, rfl, Rd.blk 2 rfl, rfl⟩, ⟨_, _, _, rfl, rfl, rfl, Rd.blk 1 rfl, rfl⟩, ⟨_, _, _, rfl, rfl, rfl, Rd.blk 0 rfl, rfl⟩, trivial⟩, ⟨none, 0, by rw [hp]; rfl, by rw [hp]; exact rs_nil, by rw [hp]; exact Nat.le_refl 0, qS⟩⟩
  rintro _ R2 E2 hR2 ⟨c, f, fc, rfl, hf, hfc, hcl, hpg, hsub⟩
  rw [hss] at hpg
  refine WL.subE hsub ?_
  first | refine WL.efN rfl rfl (Ef.store0 0 tab_ok rfl rfl rfl rfl rfl rfl rfl rfl ?_) | refine WL.efN rfl rfl (Ef.store0 1 tab_ok rfl rfl rfl rfl rfl rfl rfl rfl ?_) | refine WL.efN rfl rfl (Ef.store0 2 tab_ok rfl rfl rfl rfl rfl rfl rfl rfl ?_) | refine WL.efN rfl rfl (Ef.store0 3 tab_ok rfl rfl rfl rfl rfl rfl rfl rfl ?_) | refine WL.efN rfl rfl (Ef.store0 4 tab_ok rfl rfl rfl rfl rfl rfl rfl rfl ?_)
  refine zN (zU (zQ (zQ (zG ?_))))
  refine' WG.y rfl rfl qD (Yl.load1 tab_ok rfl rfl rfl (fun _ => rfl) ?r1 rfl ?h1) ?_
  case r1 => (first | exact Rd.blk 0 rfl | exact Rd.blk 1 rfl | exact Rd.blk 2 rfl | exact Rd.blk 3 rfl | exact Rd.blk 4 rfl)
  case h1 => rfl
  refine WG.callV en39 rfl rfl qD (CallOp.mk' rfl rfl rfl rfl) (fun _ => rfl) (fun hg => CValidG_V (fc := fc) (c := c) hf qO) ?_
  refine zR 1 rfl (zN (zU ?_))
  refine W.cond rfl (fun hc1 => ?_) (fun hc1 => ?_)
  ·try simp only [zk] at hc1
   have hv : validB c = false := by simpa using hc1
   have hp : parseR s = (zcv, 0, 1) := by unfold parseR; rw [if_neg (by omega), hpg, if_neg (fun h => h rfl), if_neg (by rw [hv]; decide)]
   refine zQ (zG ?_)
   -- build
   refine WG.y rfl rfl qD (Yl.build (parts := []) tab_ok rfl rfl rfl rfl (fun _ => rfl) rfl rfl) ?_
   first | refine WL.efN rfl rfl (Ef.store0 0 tab_ok rfl rfl rfl rfl rfl rfl rfl rfl ?_) | refine WL.efN rfl rfl (Ef.store0 1 tab_ok rfl rfl rfl rfl rfl rfl rfl rfl ?_) | refine WL.efN rfl rfl (Ef.store0 2 tab_ok rfl rfl rfl rfl rfl rfl rfl rfl ?_) | refine WL.efN rfl rfl (Ef.store0 3 tab_ok rfl rfl rfl rfl rfl rfl rfl rfl ?_) | refine WL.efN rfl rfl (Ef.store0 4 tab_ok rfl rfl rfl rfl rfl rfl rfl rfl ?_)
   first | refine WL.efN rfl rfl (Ef.store0 0 tab_ok rfl rfl rfl rfl rfl rfl rfl rfl ?_) | refine WL.efN rfl rfl (Ef.store0 1 tab_ok rfl rfl rfl rfl rfl rfl rfl rfl ?_) | refine WL.efN rfl rfl (Ef.store0 2 tab_ok rfl rfl rfl rfl rfl rfl rfl rfl ?_) | refine WL.efN rfl rfl (Ef.store0 3 tab_ok rfl rfl rfl rfl rfl rfl rfl rfl ?_) | refine WL.efN rfl rfl (Ef.store0 4 tab_ok rfl rfl rfl rfl rfl rfl rfl rfl ?_)
   first | refine WL.efN rfl rfl (Ef.store0 0 tab_ok rfl rfl rfl rfl rfl rfl rfl rfl ?_) | refine WL.efN rfl rfl (Ef.store0 1 tab_ok rfl rfl rfl rfl rfl rfl rfl rfl ?_) | refine WL.efN rfl rfl (Ef.store0 2 tab_ok rfl rfl rfl rfl rfl rfl rfl rfl ?_) | refine WL.efN rfl rfl (Ef.store0 3 tab_ok rfl rfl rfl rfl rfl rfl rfl rfl ?_) | refine WL.efN rfl rfl (Ef.store0 4 tab_ok rfl rfl rfl rfl rfl rfl rfl rfl ?_)
   refine zN (zU (zT (wt ?_)))
   refine WE.retD tab_ok rfl rfl en36 ?_
   refine FnDR.mono (ParseD_ret w0 _) ?_
   rintro _ _ _ - ⟨hse, rfl, rfl⟩
   refine ⟨hse, hR1.trans hR2, [_, _, _], ⟨⟨_, _, _, rfl, rfl, rfl, Rd.blk 2 rfl, rfl⟩, ⟨_, _, _, rfl, rfl, rfl, Rd.blk 1 rfl, rfl⟩, ⟨_, _, _, rfl, rfl, rfl, Rd.blk 0 rfl, rfl⟩, trivial⟩, ⟨none, 0, by rw [hp]; rfl, by rw [hp]; exact rs_nil, by rw [hp]; exact Nat.le_refl 0, qS⟩⟩
  ·try simp only [zk] at hc1
   have hv : validB c = true := by simpa using hc1
   have hp : parseR s = (c, 0, 0) := by unfold parseR; rw [if_neg (by omega), hpg, if_neg (fun h => h rfl), if_pos hv]
   refine zK (zU (zQ (zG ?_)))
   refine' WG.y rfl rfl qD (Yl.load1 tab_ok rfl rfl rfl (fun _ => rfl) ?r2 rfl ?h2) ?_
   case r2 => (first | exact Rd.blk 0 rfl | exact Rd.blk 1 rfl | exact Rd.blk 2 rfl | exact Rd.blk 3 rfl | exact Rd.blk 4 rfl)
   case h2 => rfl
   first | refine WL.efN rfl rfl (Ef.store0 0 tab_ok rfl rfl rfl rfl rfl rfl rfl rfl ?_) | refine WL.efN rfl rfl (Ef.store0 1 tab_ok rfl rfl rfl rfl rfl rfl rfl rfl ?_) | refine WL.efN rfl rfl (Ef.store0 2 tab_ok rfl rfl rfl rfl rfl rfl rfl rfl ?_) | refine WL.efN rfl rfl (Ef.store0 3 tab_ok rfl rfl rfl rfl rfl rfl rfl rfl ?_) | refine WL.efN rfl rfl (Ef.store0 4 tab_ok rfl rfl rfl rfl rfl rfl rfl rfl ?_)
   first | refine WL.efN rfl rfl (Ef.store0 0 tab_ok rfl rfl rfl rfl rfl rfl rfl rfl ?_) | refine WL.efN rfl rfl (Ef.store0 1 tab_ok rfl rfl rfl rfl rfl rfl rfl rfl ?_) | refine WL.efN rfl rfl (Ef.store0 2 tab_ok rfl rfl rfl rfl rfl rfl rfl rfl ?_) | refine WL.efN rfl rfl (Ef.store0 3 tab_ok rfl rfl rfl rfl rfl rfl rfl rfl ?_) | refine WL.efN rfl rfl (Ef.store0 4 tab_ok rfl rfl rfl rfl rfl rfl rfl rfl ?_)
   first | refine WL.efN rfl rfl (Ef.store0 0 tab_ok rfl rfl rfl rfl rfl rfl rfl rfl ?_) | refine WL.efN rfl rfl (Ef.store0 1 tab_ok rfl rfl rfl rfl rfl rfl rfl rfl ?_) | refine WL.efN rfl rfl (Ef.store0 2 tab_ok rfl rfl rfl rfl rfl rfl rfl rfl ?_) | refine WL.efN rfl rfl (Ef.store0 3 tab_ok rfl rfl rfl rfl rfl rfl rfl rfl ?_) | refine WL.efN rfl rfl (Ef.store0 4 tab_ok rfl rfl rfl rfl rfl rfl rfl rfl ?_)
   refine zN (zU (zT ?_))
   refine WE.retD tab_ok rfl rfl en36 ?_
   refine FnDR.mono (ParseD_ret w0 _) ?_
   rintro _ _ _ - ⟨hse, rfl, rfl⟩
   refine ⟨hse, hR1.trans hR2, [_, _, _], ⟨⟨_, _, _, rfl, rfl, rfl, Rd.blk 2 rfl, rfl⟩, ⟨_, _, _, rfl, rfl, rfl, Rd.blk 1 rfl, rfl⟩, ⟨_, _, _, rfl, rfl, rfl, Rd.blk 0 rfl, rfl⟩, trivial⟩, ⟨f, fc, by rw [hp]; rfl, by rw [hp]; exact hf, by rw [hp]; exact hfc, qS⟩⟩

end Go.Proofs.YtejpkjapmhpmpaaDoor

/- A walk begins anew where nothing is owned: all that exists is read only and lies below; string(b) of bytes of one's own. No condition. -/
namespace Go.Proofs.YtejpkjapmhpmpaaDoor.K
open Go Go.RowKit
section
variable {P : Program} {n : Nat} {env : Env} {w0 w1 : World} {R R1 : Ro} {E : List Ent} {c : Code} {Q : Exit → Act → World → Prop} {e : Exit}
theorem W.rebase (h : ∀ w1, Mem w0 w1 R [] → RBelow w1 R → W P c Q n env w1 R []) : W P c Q n env w0 R [] := fun a w hk hm =>
 h w hm (fun _ _ hb => hm.ro_lt hb) a w hk ⟨Below.refl _ w, hm.ro, fun e he => (by cases he), fun e he => (by cases he), List.Pairwise.nil⟩
theorem WE.rebase (hb : Mem w0 w1 R1 []) (h : WE Q e n env w0 R1 []) : WE Q e n env w1 R E := fun a w hk hm => h a w hk (hb.belowAll hm.below)
end
end Go.Proofs.YtejpkjapmhpmpaaDoor.K

/- What is written: numbers. No condition. -/
set_option maxRecDepth 4000
set_option linter.unusedSimpArgs false
set_option linter.unusedVariables false
namespace Go.Proofs.YtejpkjapmhpmpaaDoor
open Go Go.RowKit Go.Proofs.YtejpkjapmhpmpaaDoor.K Go.Proofs.YtejpkjapmhpmpaaDoor.M

theorem tab_below {w0 w : World} {R : Ro} {E : List Ent} (h : Mem w0 w R E) (hb : RBelow w0 R) {b : Nat} {name : String} {k : IntKind} {zs : List Int} (hg : Tryd.prog.globalNamed name = some b) (hr : R b = some (zs.map fun z => Value.int k z)) : Lib.TabBelow Tryd.prog w0.heap.size w name k zs := by
 intro w' hw
 obtain ⟨T, fz, h1⟩ := h.ro b _ hr
 have h2 := hw.block b (hb _ _ hr)
 rw [h1] at h2
 unfold Lib.TabIs World.var?
 simp [hg, h2]
theorem AppInt_C {R : Ro} {a : Option Addr} {cap : Nat} {l : List UInt8} {i : Int} (hG : GlobE R) (w0 : World) (hb : RBelow w0 R) (hi : InR i) (hl : l.length ≤ 1000000) :
  K.Fn Tryd.prog 51 [.slice a l.length cap, .int .i64 i, .int .i64 10] w0 R [.sl 5 1 a cap ((l).map encY)] (fun r R' E' => ∃ (a' : Option Addr) (cap' : Nat), r = .slice a' (l ++ Lib.itoa i).length cap' ∧ R = R' ∧ E' = [.sl 5 1 a' cap' ((l ++ Lib.itoa i).map encY)]) := by
 intro w hm
 obtain ⟨_, _, h2⟩ := hm.own _ (List.mem_singleton.2 rfl)
 rw [List.length_map, encY_flat] at h2
 refine (sh_strconv_AppendInt_10 w0.heap.size l.length i hi.1 hi.2 _ _ w h2 hm.below.size qO (tab_below hm hb qK hG.pow)).mono ?_
 rintro e w' ⟨v', rfl, ho, hbl, _⟩
 have hll : (l ++ Lib.itoa i).length = l.length + (Lib.itoa i).length := List.length_append
 have hcells : (l.map fun c => Value.int .u8 c.toNat) ++ Lib.byteCells (Lib.itoa i) = ((l ++ Lib.itoa i).map encY).flatten := by
  rw [encY_flat, List.map_append]; rfl
 rw [hcells, ← hll] at ho
 have hmem : ∀ (a' : Option Addr) (cap' : Nat), v' = .slice a' (l ++ Lib.itoa i).length cap' → (∀ x, a' = some x → w0.heap.size ≤ x.block) → Mem w0 w' R [.sl 5 1 a' cap' ((l ++ Lib.itoa i).map encY)] := fun a' cap' hv hge => by
  refine ⟨hm.below.trans hbl, fun b cs hr => ?_, fun e he => ?_, fun e he b hbk => ?_, List.pairwise_singleton _ _⟩
  ·obtain ⟨T, fz, h1⟩ := hm.ro b cs hr
   exact ⟨T, fz, by rw [hbl.block b (hb _ _ hr)]; exact h1⟩
  ·obtain rfl := List.mem_singleton.1 he
   refine ⟨fun r hr => by obtain ⟨c, _, rfl⟩ := List.mem_map.1 hr; rfl, Nat.one_pos, ?_⟩
   rw [List.length_map, ← hv]
   exact ho
  ·obtain rfl := List.mem_singleton.1 he
   cases a' with
   | none => cases hbk
   | some x =>
    have hx := hge x rfl
    have : x.block = b := by simpa [Ent.block] using hbk
    cases hr : R b with
    | none => rfl
    | some cs => have := hb _ _ hr; omega
 have ho2 := ho.2
 rcases ho2 with ⟨rfl, hn⟩ | ⟨g, c2, cur, rfl, hg, _⟩
 ·refine ⟨_, R, _, rfl, RLe.refl _, hmem none 0 (by rw [hn]) (fun x h => by cases h), none, 0, by rw [hn], rfl, rfl⟩
 ·refine ⟨_, R, _, rfl, RLe.refl _, hmem (some ⟨g, 0, none⟩) c2 rfl (fun x h => by cases h; exact hg), some ⟨g, 0, none⟩, c2, rfl, rfl, rfl⟩

theorem Num03_C {R : Ro} {a : Option Addr} {cap : Nat} {l : List UInt8} {v : Int} (hG : GlobE R) (w0 : World) (hb : RBelow w0 R) (hv : InR v) (hl : l.length ≤ 1000000) : K.Fn Tryd.prog 40 [.slice a l.length cap, .int .i64 v] w0 R [.sl 5 1 a cap ((l).map encY)] (fun r R' E' => ∃ (a' : Option Addr) (cap' : Nat), r = .slice a' (l ++ wordV v).length cap' ∧ R = R' ∧ E' = [.sl 5 1 a' cap' ((l ++ wordV v).map encY)]) := by
 refine fE 12 Tryd.func40 ?_
 refine zQ (zG (zR 1 rfl (zN (zU (zQ (zQ (zG (zR 2 rfl (zN (zU ?_))))))))))
 refine W.condE rfl (fun hc0 => ?_) (fun hc0 => ?_)
 ·try dsimp only at hc0
  have e : wordV v = wInf := if_pos hc0
  refine zQ (zG (zR 1 rfl ?_))
  refine WL.ef rfl rfl qD (Ef.appendStr (l := wInf) 0 tab_ok rfl rfl rfl rfl rfl rfl qK rfl rfl rfl rfl rfl rfl (by show _ + 3 ≤ _; omega) (fun a8 c8 => ?_))
  refine zR 1 rfl (zN (zU (zT (wt ?_))))
  refine WE.retF tab_ok [_] rfl ⟨rfl, trivial⟩ (RLe.refl _) ?_
  exact ⟨a8, c8, by rw [e] <;> rfl, rfl, by rw [e] <;> rfl⟩
 ·try dsimp only at hc0
  have e : wordV v = Lib.itoa v := if_neg hc0
  refine zK (zU (zQ (zG (zR 2 rfl ?_))))
  refine WL.call en51 rfl rfl qD (CallOp.mkT rfl rfl rfl rfl) (AppInt_C hG w0 hb hv hl) ?_
  rintro _ _ _ - ⟨a8, c8, rfl, rfl, rfl⟩
  refine zR 1 rfl (zN (zU (zT ?_)))
  refine WE.retF tab_ok [_] rfl ⟨rfl, trivial⟩ (RLe.refl _) ?_
  exact ⟨a8, c8, by rw [e] <;> rfl, rfl, by rw [e] <;> rfl⟩



theorem fmtVals_snoc : ∀ (xs : List Int) (v : Int), fmtVals (xs ++ [v]) = (fmtVals xs ++ wordV v) ++ [32]
 | [], v => by simp [fmtVals]
 | x :: xs, v => by rw [List.cons_append, fmtVals, fmtVals, fmtVals_snoc xs v]; simp
theorem wordV_len {v : Int} (h : v = INF ∨ (0 ≤ v ∧ v ≤ 1073741824)) : (wordV v).length ≤ 11 := by
 unfold wordV
 split
 ·decide
 ·rename_i e; have := h.resolve_left e; exact itoa_len (by omega)
theorem fmtVals_len : ∀ (xs : List Int), (∀ v ∈ xs, v = INF ∨ (0 ≤ v ∧ v ≤ 1073741824)) → (fmtVals xs).length ≤ 12 * xs.length
 | [], _ => Nat.le_refl 0
 | x :: xs, h => by
  have h1 := wordV_len (h x (by simp))
  have h2 := fmtVals_len xs (fun v hv => h v (by simp [hv]))
  rw [fmtVals, List.length_append, List.length_cons, List.length_cons]
  omega
theorem valid_vals {c : Cv} (hv : validB c = true) : ∀ v ∈ c.vals, v = INF ∨ (0 ≤ v ∧ v ≤ 1073741824) := fun v hv' => by
 obtain ⟨i, hi, rfl⟩ := List.getElem_of_mem hv'
 have := valid_each hv i hi
 rw [nth_eq hi] at this
 exact this
theorem fmtC_len {c : Cv} (hv : validB c = true) : 0 < (fmtC c).length ∧ (fmtC c).length ≤ 5000 := by
 obtain ⟨_, _, h3, h4, h5, h6, h7, h8⟩ := valid_range hv
 have h1 := fmtVals_len _ (valid_vals hv)
 have h2 := itoa_len (n := c.per) (by omega)
 have h9 := itoa_len (n := c.inc) (by omega)
 unfold fmtC
 simp only [List.length_append, List.length_cons, show wPer.length = 3 from rfl, show wInc.length = 3 from rfl]
 omega

set_option maxHeartbeats 1000000 in
theorem Fmt03_V {R : Ro} {fa : Option Addr} {fc : Nat} {c : Cv} (hG : GlobE R) (ha : RS R 1 encI fa c.vals) (hl : c.vals.length ≤ 100000) : FnV Tryd.prog 16 [.agg #[.slice fa c.vals.length fc, .int .i64 c.per, .int .i64 c.inc]] R (.tuple #[.string (str (formatR c).1), .int .i64 (formatR c).2]) := by
 refine FnV.ofOwn (fun w0 hb => ?_)
 refine fE 38 Tryd.func16 ?_
 refine zQ (zG ?_)
 refine zO fun b1 => ?_
 refine zR 2 rfl (zN (zU (zQ (zQ (zG ?_)))))
 refine' WG.y rfl rfl qD (Yl.load1 tab_ok rfl rfl rfl (fun _ => rfl) ?r1 rfl ?h1) ?_
 case r1 => (first | exact Rd.ro qU | exact Rd.blk 0 rfl | exact Rd.blk 1 rfl | exact Rd.blk 2 rfl)
 case h1 => rfl
 refine WG.callV en39 rfl rfl qD (CallOp.mk' rfl rfl rfl rfl) (fun _ => rfl) (fun hg => CValidG_V ha hl) ?_
 refine zR 1 rfl (zN (zU ?_))
 refine W.cond rfl (fun hc0 => ?_) (fun hc0 => ?_)
 ·try simp only [zk] at hc0
  have hf : formatR c = ([], 1) := if_pos (by simpa using hc0)
  refine zQ (zG (zR 2 rfl (zN (zU (zT (wt ?_))))))
  refine WE.retF tab_ok [_, _] rfl ⟨rfl, rfl, trivial⟩ (by first | exact RLe.refl _ | exact hR1) ?_
  rw [hf]; rfl
 ·try simp only [zk] at hc0
  have hv : validB c = true := by simpa using hc0
  refine zK (zU ?_)
  refine W.freezeBlk 0 rfl ?_
  intro R1 hR1 hb1
  refine W.rebase (fun w1 hm1 hb2 => ?_)
  refine W.nil 5 1 qD ?_
  have hG := hG.mono hR1
  have ha := ha.mono hR1
  have hvrg := valid_range hv
  have hfcl := fmtC_len hv
  refine zQ (zG (zR 1 rfl (zN (zU (zQ (zQ (zG (zR 1 rfl ?_))))))))
  refine' WG.y rfl rfl qD (Yl.load1 tab_ok rfl rfl rfl (fun _ => rfl) ?r2 rfl ?h2) ?_
  case r2 => apply Rd.add; (first | exact Rd.ro qU | exact Rd.blk 0 rfl | exact Rd.blk 1 rfl | exact Rd.blk 2 rfl)
  case h2 => rfl
  refine zR 2 rfl (zN (zU (zB ?_)))
  refine W.loopK (β := Nat × Option Addr × Nat) (fun (j, a, cp) => j ≤ c.vals.length) (fun (j, a, cp) => [(4, true, .slice a (fmtVals (c.vals.take j)).length cp), (13, true, .int .i64 (j : Int))]) [1, 11, 12] [_, _, _] [] _ rfl (fun (j, a, cp) => [(0, .sl 5 1 a cp ((fmtVals (c.vals.take j)).map encY))]) (fun (j, a, cp) => c.vals.length - j) ((0, none, 0)) (Nat.zero_le _) ⟨rfl, rfl, rfl, rfl, rfl, rfl⟩ qS ?_
  intro zz hst
  obtain ⟨j, a, cp⟩ := zz
  dsimp only [zipE, setAll, List.cons_append, List.nil_append, List.set_cons_zero, List.set_cons_succ] at hst ⊢
  
  refine zQ (zG (zR 1 rfl (zN (zU (zQ ?_)))))
  refine W.condD rfl (fun hc1 => ?_) (fun hc1 => ?_)
  ·try dsimp only at hc1
   have hjl : j < c.vals.length := by omega
   have hwl := wordV_len (valid_vals hv _ (nth_mem hjl))
   have hfl := fmtVals_len (c.vals.take j) (fun v h => valid_vals hv v (List.mem_of_mem_take h))
   rw [List.length_take] at hfl
   have hvr : InR (nth c.vals j) := by
    have := hvrg.1 _ (nth_mem hjl)
    constructor <;> omega
   have hsn : fmtVals (c.vals.take (j + 1)) = (fmtVals (c.vals.take j) ++ wordV (nth c.vals j)) ++ [32] := by
    rw [← fmtVals_snoc, nth_eq hjl, List.take_succ_eq_append_getElem hjl]
   refine zK (zU (zQ (zB (zQ (zG ?_)))))
   refine WG.y rfl rfl qD (Yl.indexN tab_ok rfl rfl rfl rfl rfl rfl (fun _ => rfl) qN qH) ?_
   refine' WG.y rfl rfl qD (Yl.load1 tab_ok rfl rfl rfl (fun _ => rfl) ?r3 rfl ?h3) ?_
   case r3 => (first | (apply RS.rdD; assumption; ((try dsimp only) <;> omega)) | exact Rd.slD 0 rfl qX | exact Rd.slD 1 rfl qX | exact Rd.slD 2 rfl qX)
   case h3 => rfl
   refine zR 1 rfl (zN (zU (zG (zR 2 rfl ?_))))
   refine WL.call en40 rfl rfl qD (CallOp.mkT rfl rfl rfl rfl) (Num03_C hG w1 hb2 hvr qO) ?_
   rintro _ _ _ - ⟨a8, c8, rfl, rfl, rfl⟩
   refine WL.ef rfl rfl qD (Ef.buildSliceD (enc := encY) (parts := [.const (.int .u8 32)]) [(32 : UInt8)] tab_ok rfl rfl rfl rfl rfl rfl rfl rfl qD qD (fun a20 => ?_))
   refine WL.ef rfl rfl (by decide) (Ef.appendD (enc := encY) 1 0 tab_ok rfl rfl rfl rfl rfl rfl rfl rfl rfl rfl rfl (fun _ _ => rfl) (by simp only [List.length_append, List.length_cons, List.length_nil]; omega) (by simp only [List.length_append, List.length_cons, List.length_nil]; omega) (fun a21 c21 ha21 => ?_))
   refine zR 1 rfl ?_
   rw [← hsn]
   refine zN (zL (zU (zG ?_)))
   refine yA ?_
   refine zR 1 rfl (zN ?_)
   refine WE.again ((j + 1, a21, c21)) (by (try dsimp only); omega) (by (try dsimp only); omega) ⟨rfl, rfl, rfl, rfl, rfl, rfl⟩ (RLe.refl _) qS
  ·try dsimp only at hc1
   obtain rfl : j = c.vals.length := by omega
   rw [List.take_length]
   have hfl := fmtVals_len c.vals (valid_vals hv)
   have hwp := wordV_len (v := c.per) (.inr (by omega))
   refine zX ?_
   refine wx (wx (zY (zU (zQ ?_))))
   refine W.regionH _ (ES := []) mixed ?_
   refine tP 0 ?_
   refine tP 2 ?_
   refine' WA.take 3 rfl qK qK qK rfl rfl qD (Yl.load1 tab_ok rfl rfl rfl (fun _ => rfl) ?r4 rfl ?h4) qS qR ?_
   case r4 => apply Rd.add; (first | exact Rd.ro qU | exact Rd.blk 0 rfl | exact Rd.blk 1 rfl | exact Rd.blk 2 rfl)
   case h4 => rfl
   refine WA.eff 1 rfl qK rfl rfl qD (Ef.appendStr (l := [112, 101, 114, 32]) 0 tab_ok rfl rfl rfl rfl rfl rfl qK rfl rfl rfl rfl rfl rfl (by show _ + 4 ≤ _; omega) (fun a8 c8 => ?_))
   refine ⟨qR, qS, ?_⟩
   refine WA.callG 4 rfl (by kernel_rfl) en40 rfl (by first | rfl | decide) rfl (by decide) (CallOp.mkT rfl rfl rfl rfl) (Num03_C hG w1 hb2 (by constructor <;> omega) (by (try simp only [List.length_append, List.length_cons, List.length_nil]); omega)) ?_
   rintro _ _ _ - ⟨a8, c8, rfl, rfl, rfl⟩
   refine ⟨RLe.refl _, List.nil_sublist _, ?_⟩
   refine WA.eff 5 rfl (by kernel_rfl) rfl rfl (by decide) (Ef.appendStr (l := [32, 105, 110, 99, 32]) 0 tab_ok rfl rfl rfl rfl rfl rfl (by kernel_rfl) rfl rfl rfl rfl rfl rfl (by (try simp only [List.length_append, List.length_cons, List.length_nil]); omega) (fun a9 c9 => ?_))
   refine ⟨qR, qS, ?_⟩
   refine tP 6 ?_
   refine WA.done qK ?_
   refine zU (zQ (zG (zR 2 rfl ?_)))
   refine' WG.y rfl rfl qD (Yl.load1 tab_ok rfl rfl rfl (fun _ => rfl) ?r5 rfl ?h5) ?_
   case r5 => apply Rd.add; (first | exact Rd.ro qU | exact Rd.blk 0 rfl | exact Rd.blk 1 rfl | exact Rd.blk 2 rfl)
   case h5 => rfl
   refine WL.call en40 rfl rfl (by decide) (CallOp.mkT rfl rfl rfl rfl) (Num03_C hG w1 hb2 (by constructor <;> omega) (by (try simp only [List.length_append, List.length_cons, List.length_nil]); omega)) ?_
   rintro _ _ _ - ⟨a8, c8, rfl, rfl, rfl⟩
   refine zR 1 rfl (zN (zU (zQ ?_)))
   have efc : (((fmtVals c.vals ++ [112, 101, 114, 32]) ++ wordV c.per) ++ [32, 105, 110, 99, 32]) ++ wordV c.inc = fmtC c := by
    unfold fmtC wordV
    rw [if_neg (by unfold INF; omega), if_neg (by unfold INF; omega)]
    simp [wPer, wInc]
   rw [efc]
   refine zQ (zG (zR 3 rfl (zN (zU ?_))))
   refine W.condD rfl (fun hc2 => ?_) (fun hc2 => ?_)
   ·try dsimp only at hc2
    have hf : formatR c = ([], 3) := by unfold formatR; rw [if_neg (by rw [hv]; decide), if_pos (by omega)]
    refine zQ (zG (zR 2 rfl (zN (zU (zT (wt ?_))))))
    refine WE.rebase hm1 ?_
    refine WE.retF tab_ok [_, _] rfl ⟨rfl, rfl, trivial⟩ (by first | exact RLe.refl _ | exact hR1) ?_
    rw [hf]; rfl
   ·try dsimp only at hc2
    have hf : formatR c = (fmtC c, 0) := by unfold formatR; rw [if_neg (by rw [hv]; decide), if_neg (by omega)]
    refine zK (zU (zQ (zG (zR 1 rfl ?_))))
    refine WG.y rfl rfl qD (Yl.bytesStr (l := fmtC c) 0 tab_ok rfl rfl rfl rfl rfl rfl rfl rfl rfl rfl qO (fun _ => rfl)) ?_
    refine zR 2 rfl (zN (zU (zT ?_)))
    refine WE.rebase hm1 ?_
    refine WE.retF tab_ok [_, _] rfl ⟨rfl, rfl, trivial⟩ (by first | exact RLe.refl _ | exact hR1) ?_
    rw [hf]; rfl



theorem Decimal_V {R : Ro} (u : Nat) : u ≤ 1073741824 → FnV Tryd.prog 32 [.int .i64 (u : Int)] R (.string (str (Lib.decDigits u))) := by
 refine Nat.strongRecOn (motive := fun u => u ≤ 1073741824 → FnV Tryd.prog 32 [.int .i64 (u : Int)] R (.string (str (Lib.decDigits u)))) u (fun u ih hu => ?_)
 refine Fn.toV (fun w0 E => ?_)
 refine fE 25 Tryd.func32 ?_
 refine zQ (zG (zR 1 rfl (zN (zU (zQ (zQ (zG (zR 2 rfl (zN (zU ?_))))))))))
 refine W.condD rfl (fun hc0 => ?_) (fun hc0 => ?_)
 ·try dsimp only at hc0
  omega
 ·try dsimp only at hc0
  refine zK (zU (zQ (zQ (zG (zR 2 rfl (zN (zU ?_)))))))
  refine W.condD rfl (fun hc1 => ?_) (fun hc1 => ?_)
  ·try dsimp only at hc1
   refine zQ (zG (zR 2 rfl ?_))
   refine yA ?_
   refine WG.y rfl rfl (by decide) (Yl.sliceSLH tab_ok rfl rfl rfl rfl rfl rfl (fun _ => rfl) (by intro _; (simp only [List.length_cons, List.length_nil]; omega))) ?_
   refine zR 1 rfl (zN (zU (zT (wt ?_))))
   refine sE (E := E) ?_
   refine WE.retF tab_ok [_] rfl ⟨rfl, trivial⟩ (RLe.refl _) ?_
   have e : str ((([48, 49, 50, 51, 52, 53, 54, 55, 56, 57] : List UInt8).take ((u : Int) + 1).toNat).drop (u : Int).toNat) = str (Lib.decDigits u) := by
    rw [show ((u : Int) + 1).toNat = u + 1 by omega, show (u : Int).toNat = u by omega, dig_slice (by omega), Lib.decDigits, dif_pos (by omega)]
   exact ⟨congrArg Value.string e, rfl⟩
  ·try dsimp only at hc1
   refine zK (zU (zQ ?_))
   refine W.regionQ _ mixed qK ?_
   refine zR 1 rfl ?_
   refine WG.y rfl rfl qD (Yl.quo rfl rfl rfl (fun _ => rfl) qA (by intro _; omega)) ?_
   refine WG.callV (v := .string (str (Lib.decDigits (u / 10)))) en32 rfl rfl qD (CallOp.mk' rfl rfl rfl rfl) (fun _ => rfl) (fun hg => by
    have h := ih (u / 10) (by omega) (by omega)
    exact h) ?_
   refine zR 1 rfl ?_
   refine WG.y rfl rfl qD (Yl.rem rfl rfl rfl (fun _ => rfl) qN qN) ?_
   refine zR 1 rfl ?_
   refine WG.y rfl rfl qD (Yl.rem rfl rfl rfl (fun _ => rfl) qN qN) ?_
   refine yA ?_
   refine WG.y rfl rfl (by decide) (Yl.sliceSLH tab_ok rfl rfl rfl rfl rfl rfl (fun _ => rfl) (by intro _; (simp only [List.length_cons, List.length_nil]; omega))) ?_
   refine WG.y rfl rfl (by decide) (Yl.cat rfl rfl rfl (fun _ => rfl) (by intro _; (rw [str_size, str_size]; have h1 := decDigits_le (u / 10); simp only [List.length_drop, List.length_take, List.length_cons, List.length_nil]; omega))) ?_
   refine zR 1 rfl (zN (zU (zT ?_)))
   refine sE (E := E) ?_
   refine WE.retF tab_ok [_] rfl ⟨rfl, trivial⟩ (RLe.refl _) ?_
   have e : str (Lib.decDigits (u / 10)) ++ str ((([48, 49, 50, 51, 52, 53, 54, 55, 56, 57] : List UInt8).take ((u : Int) % 10 + 1).toNat).drop ((u : Int) % 10).toNat) = str (Lib.decDigits u) := by
    rw [show ((u : Int) % 10 + 1).toNat = u % 10 + 1 by omega, show ((u : Int) % 10).toNat = u % 10 by omega, dig_slice (by omega), str_append]
    conv => rhs; rw [Lib.decDigits, dif_neg (by omega)]
   exact ⟨congrArg Value.string e, rfl⟩

theorem DecimalZ_V {R : Ro} {n : Int} (hn : -1073741824 ≤ n ∧ n ≤ 1073741824) : FnV Tryd.prog 32 [.int .i64 n] R (.string (str (Lib.itoa n))) := by
 by_cases hneg : 0 ≤ n
 ·have h := Decimal_V (R := R) n.toNat (by omega)
  rw [show ((n.toNat : Nat) : Int) = n by omega] at h
  have e : Lib.itoa n = Lib.decDigits n.toNat := by unfold Lib.itoa; rw [if_neg (by omega)]
  rw [e]; exact h
 refine Fn.toV (fun w0 E => ?_)
 have e : Lib.itoa n = 45 :: Lib.decDigits n.natAbs := by unfold Lib.itoa; rw [if_pos (by omega)]
 have hsz := str_size (Lib.decDigits n.natAbs)
 have hdl := decDigits_le n.natAbs
 refine fE 25 Tryd.func32 ?_
 refine zQ (zG (zR 1 rfl (zN (zU (zQ (zQ (zG (zR 2 rfl (zN (zU ?_))))))))))
 refine W.condD rfl (fun hc0 => ?_) (fun hc0 => ?_)
 ·try dsimp only at hc0
  refine zQ (zG (zR 1 rfl ?_))
  refine WG.y rfl rfl qD (Yl.neg rfl rfl (fun _ => rfl) qA) ?_
  refine WG.callV (v := .string (str (Lib.decDigits n.natAbs))) en32 rfl rfl qD (CallOp.mk' rfl rfl rfl rfl) (fun _ => rfl) (fun hg => by
   have h := Decimal_V (R := R) n.natAbs (by omega)
   rw [show ((n.natAbs : Nat) : Int) = -n by omega] at h
   exact h) ?_
  refine WG.y rfl rfl (by decide) (Yl.cat rfl rfl rfl (fun _ => rfl) (by intro _; (show (str [45]).size + _ ≤ _; rw [str_size]; simp only [List.length_cons, List.length_nil]; omega))) ?_
  refine zR 1 rfl (zN (zU (zT (wt ?_))))
  refine sE (E := E) ?_
  refine WE.retF tab_ok [_] rfl ⟨rfl, trivial⟩ (RLe.refl _) ?_
  exact ⟨by show Value.string (str [45] ++ str (Lib.decDigits n.natAbs)) = _; rw [str_append, e]; rfl, rfl⟩
 ·try dsimp only at hc0
  omega

set_option maxHeartbeats 1000000 in
theorem RFmt03_V {R : Ro} {fa : Option Addr} {fc : Nat} {c : Cv} (ha : RS R 1 encI fa c.vals) : FnV Tryd.prog 9 [.agg #[.slice fa c.vals.length fc, .int .i64 c.per, .int .i64 c.inc]] R (.tuple #[.string (str (formatR c).1), .int .i64 (formatR c).2]) := by
 refine Fn.toV (fun w0 E => ?_)
 refine fE 48 Tryd.func9 ?_
 refine zQ (zG ?_)
 refine zO fun b1 => ?_
 refine zR 2 rfl (zN (zU (zQ (zQ (zG ?_)))))
 refine' WG.y rfl rfl qD (Yl.load1 tab_ok rfl rfl rfl (fun _ => rfl) ?r1 rfl ?h1) ?_
 case r1 => (first | exact Rd.blk 0 rfl | exact Rd.blk 1 rfl | exact Rd.blk 2 rfl)
 case h1 => rfl
 refine WG.callV (v := .bool (validB c)) en31 rfl rfl qD (CallOp.mk' rfl rfl rfl rfl) (fun _ => rfl) (fun hg => ValidA_V (c := fc) ha) ?_
 refine zR 1 rfl (zN (zU ?_))
 refine W.cond rfl (fun hc0 => ?_) (fun hc0 => ?_)
 ·try simp only [zk] at hc0
  have hf : formatR c = ([], 1) := if_pos (by simpa using hc0)
  refine zQ (zG (zR 2 rfl (zN (zU (zT (wt ?_))))))
  refine sE (E := E) ?_
  refine WE.retF tab_ok [_, _] rfl ⟨rfl, rfl, trivial⟩ (RLe.refl _) ?_
  exact ⟨by rw [hf]; rfl, rfl⟩
 ·try simp only [zk] at hc0
  have hv : validB c = true := by simpa using hc0
  have hvrg := valid_range hv
  have hfcl := fmtC_len hv
  refine zK (zU (zQ (zG (zR 1 rfl (zN (zU (zQ (zQ (zG (zR 1 rfl (zN (zU (zB ?_)))))))))))))
  refine W.loopK (β := Nat) (fun i => i ≤ c.vals.length) (fun i => [(4, true, .string (str (fmtVals (c.vals.take i)))), (5, true, .int .i64 (i : Int))]) [1] [_] [] _ rfl (fun i => []) (fun i => c.vals.length - i) (0) (Nat.zero_le _) ⟨rfl, rfl, rfl, rfl⟩ qS ?_
  intro i hst
  dsimp only [zipE, setAll, List.cons_append, List.nil_append, List.set_cons_zero, List.set_cons_succ] at hst ⊢
  
  refine zQ (zQ (zG (zR 2 rfl ?_)))
  refine' WG.y rfl rfl qD (Yl.load1 tab_ok rfl rfl rfl (fun _ => rfl) ?r2 rfl ?h2) ?_
  case r2 => apply Rd.add; (first | exact Rd.blk 0 rfl | exact Rd.blk 1 rfl | exact Rd.blk 2 rfl)
  case h2 => rfl
  refine zR 2 rfl (zN (zU ?_))
  refine W.condD rfl (fun hc1 => ?_) (fun hc1 => ?_)
  ·try dsimp only at hc1
   have hjl : i < c.vals.length := by omega
   have hvv := valid_vals hv _ (nth_mem hjl)
   have hwl := wordV_len hvv
   have hfl := fmtVals_len (c.vals.take i) (fun v h => valid_vals hv v (List.mem_of_mem_take h))
   rw [List.length_take] at hfl
   have hsn : fmtVals (c.vals.take (i + 1)) = (fmtVals (c.vals.take i) ++ wordV (nth c.vals i)) ++ [32] := by
    rw [← fmtVals_snoc, nth_eq hjl, List.take_succ_eq_append_getElem hjl]
   have hss := str_size (fmtVals (c.vals.take i))
   refine zK (zU (zQ (zB (zQ (zG (zR 1 rfl ?_))))))
   refine' WG.y rfl rfl qD (Yl.load1 tab_ok rfl rfl rfl (fun _ => rfl) ?r3 rfl ?h3) ?_
   case r3 => apply Rd.add; (first | exact Rd.blk 0 rfl | exact Rd.blk 1 rfl | exact Rd.blk 2 rfl)
   case h3 => rfl
   refine zR 1 rfl ?_
   refine WG.y rfl rfl qD (Yl.indexN tab_ok rfl rfl rfl rfl rfl rfl (fun _ => rfl) qN qH) ?_
   refine' WG.y rfl rfl qD (Yl.load1 tab_ok rfl rfl rfl (fun _ => rfl) ?r4 rfl ?h4) ?_
   case r4 => (first | (apply RS.rdD; assumption; ((try dsimp only) <;> omega)) | exact Rd.slD 0 rfl qX | exact Rd.slD 1 rfl qX | exact Rd.slD 2 rfl qX)
   case h4 => rfl
   refine zR 1 rfl (zN (zU ?_))
   refine W.condE rfl (fun hc2 => ?_) (fun hc2 => ?_)
   ·try dsimp only at hc2
    have ew : wordV (nth c.vals i) = wInf := if_pos hc2
    rw [ew, List.append_assoc] at hsn
    refine zG (zR 1 rfl ?_)
    refine WG.y rfl rfl qD (Yl.catS rfl rfl rfl (fun _ => rfl) (by intro _; (show _ + 4 ≤ _; omega))) ?_
    rw [show fmtVals (c.vals.take i) ++ [105, 110, 102, 32] = fmtVals (c.vals.take (i + 1)) from hsn.symm]
    refine zR 1 rfl (zN (zL (zU (zG (zR 1 rfl ?_)))))
    refine yA ?_
    refine zR 1 rfl (zN ?_)
    refine WE.again (i + 1) (by (try dsimp only); omega) (by (try dsimp only); omega) ⟨rfl, rfl, rfl, rfl⟩ (RLe.refl _) qS
   ·try dsimp only at hc2
    unfold INF at hvv
    have ew : wordV (nth c.vals i) = Lib.itoa (nth c.vals i) := if_neg hc2
    rw [ew] at hsn hwl
    have hvv2 := hvv.resolve_left hc2
    refine zG (zR 2 rfl ?_)
    refine' WG.y rfl rfl qD (Yl.load1 tab_ok rfl rfl rfl (fun _ => rfl) ?r5 rfl ?h5) ?_
    case r5 => apply Rd.add; (first | exact Rd.blk 0 rfl | exact Rd.blk 1 rfl | exact Rd.blk 2 rfl)
    case h5 => rfl
    refine zR 1 rfl ?_
    refine WG.y rfl rfl qD (Yl.indexN tab_ok rfl rfl rfl rfl rfl rfl (fun _ => rfl) qN qH) ?_
    refine' WG.y rfl rfl qD (Yl.load1 tab_ok rfl rfl rfl (fun _ => rfl) ?r6 rfl ?h6) ?_
    case r6 => (first | (apply RS.rdD; assumption; ((try dsimp only) <;> omega)) | exact Rd.slD 0 rfl qX | exact Rd.slD 1 rfl qX | exact Rd.slD 2 rfl qX)
    case h6 => rfl
    refine WG.callV en32 rfl rfl qD (CallOp.mk' rfl rfl rfl rfl) (fun _ => rfl) (fun hg => DecimalZ_V qO) ?_
    refine WG.y rfl rfl qD (Yl.catS rfl rfl rfl (fun _ => rfl) (by intro _; omega)) ?_
    refine WG.y rfl rfl (by decide) (Yl.catS rfl rfl rfl (fun _ => rfl) (by intro _; (simp only [List.length_append, List.length_cons, List.length_nil]; omega))) ?_
    rw [← hsn]
    refine zR 1 rfl (zN (zL (zU (zG (zR 1 rfl ?_)))))
    refine yA ?_
    refine zR 1 rfl (zN ?_)
    refine WE.again (i + 1) (by (try dsimp only); omega) (by (try dsimp only); omega) ⟨rfl, rfl, rfl, rfl⟩ (RLe.refl _) qS
  ·try dsimp only at hc1
   obtain rfl : i = c.vals.length := by omega
   rw [List.take_length]
   have hfl := fmtVals_len c.vals (valid_vals hv)
   have hwp := wordV_len (v := c.per) (.inr (by omega))
   have hwi := wordV_len (v := c.inc) (.inr (by omega))
   have ep : wordV c.per = Lib.itoa c.per := if_neg (by unfold INF; omega)
   have ei : wordV c.inc = Lib.itoa c.inc := if_neg (by unfold INF; omega)
   rw [ep] at hwp
   rw [ei] at hwi
   refine zX ?_
   refine wx (wx (zY (zU (zQ ?_))))
   refine W.regionQ _ mixed qK ?_
   refine zR 1 rfl ?_
   refine WG.y rfl rfl qD (Yl.catS rfl rfl rfl (fun _ => rfl) (by intro _; (show _ + 4 ≤ _; omega))) ?_
   refine zR 1 rfl ?_
   refine' WG.y rfl rfl qD (Yl.load1 tab_ok rfl rfl rfl (fun _ => rfl) ?r7 rfl ?h7) ?_
   case r7 => apply Rd.add; (first | exact Rd.blk 0 rfl | exact Rd.blk 1 rfl | exact Rd.blk 2 rfl)
   case h7 => rfl
   refine WG.callV en32 rfl rfl qD (CallOp.mk' rfl rfl rfl rfl) (fun _ => rfl) (fun hg => DecimalZ_V qO) ?_
   refine WG.y rfl rfl (by decide) (Yl.catS rfl rfl rfl (fun _ => rfl) (by intro _; (simp only [List.length_append, List.length_cons, List.length_nil]; omega))) ?_
   refine WG.y rfl rfl (by decide) (Yl.catS rfl rfl rfl (fun _ => rfl) (by intro _; (simp only [List.length_append, List.length_cons, List.length_nil]; omega))) ?_
   refine zR 1 rfl ?_
   refine' WG.y rfl rfl qD (Yl.load1 tab_ok rfl rfl rfl (fun _ => rfl) ?r8 rfl ?h8) ?_
   case r8 => apply Rd.add; (first | exact Rd.blk 0 rfl | exact Rd.blk 1 rfl | exact Rd.blk 2 rfl)
   case h8 => rfl
   refine WG.callV en32 rfl rfl qD (CallOp.mk' rfl rfl rfl rfl) (fun _ => rfl) (fun hg => DecimalZ_V qO) ?_
   refine WG.y rfl rfl (by decide) (Yl.catS rfl rfl rfl (fun _ => rfl) (by intro _; (simp only [List.length_append, List.length_cons, List.length_nil]; omega))) ?_
   refine zR 1 rfl (zN (zU (zQ ?_)))
   have efc : ((((fmtVals c.vals ++ [112, 101, 114, 32]) ++ Lib.itoa c.per) ++ [32, 105, 110, 99, 32]) ++ Lib.itoa c.inc) = fmtC c := by
    unfold fmtC
    simp [wPer, wInc]
   rw [efc]
   have hss := str_size (fmtC c)
   refine zQ (zG (zR 3 rfl (zN (zU ?_))))
   refine W.condD rfl (fun hc3 => ?_) (fun hc3 => ?_)
   ·try dsimp only at hc3
    have hf : formatR c = ([], 3) := by unfold formatR; rw [if_neg (by rw [hv]; decide), if_pos (by omega)]
    refine zQ (zG (zR 2 rfl (zN (zU (zT (wt ?_))))))
    refine sE (E := E) ?_
    refine WE.retF tab_ok [_, _] rfl ⟨rfl, rfl, trivial⟩ (RLe.refl _) ?_
    exact ⟨by rw [hf]; rfl, rfl⟩
   ·try dsimp only at hc3
    have hf : formatR c = (fmtC c, 0) := by unfold formatR; rw [if_neg (by rw [hv]; decide), if_neg (by omega)]
    refine zK (zU (zQ (zG (zR 3 rfl (zN (zU (zT ?_)))))))
    refine sE (E := E) ?_
    refine WE.retF tab_ok [_, _] rfl ⟨rfl, rfl, trivial⟩ (RLe.refl _) ?_
    exact ⟨by rw [hf]; rfl, rfl⟩



def rnumV (w : List UInt8) : Int := if digs w = true then min (numV w : Int) 1073741825 else 0
theorem numV_take {w : List UInt8} {i : Nat} (h : i < w.length) : numV (w.take (i + 1)) = 10 * numV (w.take i) + (w[i].toNat - 48) := by
 rw [List.take_succ_eq_append_getElem h, numV_snoc]

theorem RNum03_V {R : Ro} {w : List UInt8} (hw : w.length ≤ 1000000) : FnV Tryd.prog 41 [.string (str w)] R (.tuple #[.int .i64 (rnumV w), .bool (digs w)]) := by
 refine Fn.toV (fun w0 E => ?_)
 have hss := str_size w
 refine fE 45 Tryd.func41 ?_
 refine zQ (zG (zR 2 rfl (zN (zU (zQ (zQ (zG (zR 4 rfl ?_))))))))
 refine yP ?_
 refine yP ?_
 refine yP ?_
 refine yP ?_
 refine yP ?_
 refine WG.y rfl rfl (by decide) (Yl.sidx tab_ok rfl rfl rfl rfl rfl qE (by intro hg; (try simp only [zk] at hg); constructor <;> (try dsimp only) <;> omega)) ?_
 refine yP ?_
 refine yN ?_
 refine yO ?_
 refine zN (zU ?_)
 refine W.cond rfl (fun hc0 => ?_) (fun hc0 => ?_)
 ·try simp only [zk] at hc0
  have hno : digs w = false := by
   unfold digs
   rw [decide_eq_false_iff_not]
   rintro ⟨h1, h2, _⟩
   rcases hc0 with h | h
   ·exact h1 (List.eq_nil_of_length_eq_zero (by omega))
   ·exact h2 ⟨by omega, h.2⟩
  refine zQ (zG (zR 2 rfl (zN (zU (zT (wt ?_))))))
  refine sE (E := E) ?_
  refine WE.retF tab_ok [_, _] rfl ⟨rfl, rfl, trivial⟩ (RLe.refl _) ?_
  exact ⟨by unfold rnumV; rw [hno]; rfl, rfl⟩
 ·try simp only [zk] at hc0
  have hy1 : w ≠ [] := fun h => hc0.1 (by rw [hss, h]; rfl)
  have hy2 : ¬ (1 < w.length ∧ byteAt w 0 = 48) := fun h => by
   obtain ⟨h1, h2⟩ := hc0
   first | exact h2 qO h.2 | (have := h2 qO; omega) | (rcases h2 with h2 | h2; omega; exact h2 h.2)
  refine zK (zU (zQ (zG (zR 1 rfl (zN (zU (zQ (zQ (zG (zR 1 rfl (zN (zU (zB ?_)))))))))))))
  refine W.loopK (β := Nat) (fun i => i ≤ w.length ∧ ∀ j, j < i → 48 ≤ byteAt w j ∧ byteAt w j ≤ 57) (fun i => [(4, true, .int .i64 (min (numV (w.take i) : Int) 1073741825)), (5, true, .int .i64 (i : Int))]) [0] [_] [] _ rfl (fun i => []) (fun i => w.length - i) (0) (⟨Nat.zero_le _, fun j hj => by omega⟩) ⟨rfl, rfl, rfl, rfl⟩ qS ?_
  intro i hst
  dsimp only [zipE, setAll, List.cons_append, List.nil_append, List.set_cons_zero, List.set_cons_succ] at hst ⊢
  
  refine zQ (zQ (zG (zR 4 rfl (zN (zU ?_)))))
  refine W.condD rfl (fun hc1 => ?_) (fun hc1 => ?_)
  ·try dsimp only at hc1
   have hil : i < w.length := by omega
   have hbt : byteAt w ((i : Int)).toNat = byteAt w i := rfl
   have hbr := byteAt_range w i
   refine zK (zU (zQ (zB (zQ (zQ (zG (zR 2 rfl ?_)))))))
   refine WG.y rfl rfl qD (Yl.sidx tab_ok rfl rfl rfl rfl rfl (fun _ => rfl) qA) ?_
   refine zR 2 rfl ?_
   refine yP ?_
   refine yP ?_
   refine WG.y rfl rfl (by decide) (Yl.sidx tab_ok rfl rfl rfl rfl rfl qE (by intro hg; (try simp only [zk] at hg); constructor <;> (try dsimp only) <;> omega)) ?_
   refine yP ?_
   refine yO ?_
   refine zN (zU ?_)
   refine W.cond rfl (fun hc2 => ?_) (fun hc2 => ?_)
   ·try simp only [zk] at hc2
    have hno : digs w = false := by
     unfold digs
     rw [decide_eq_false_iff_not]
     rintro ⟨_, _, h3⟩
     have := h3 i hil
     rw [hbt] at hc2
     omega
    refine zQ (zG (zR 2 rfl (zN (zU (zT (wt (wb (wt (wt (wb (wt ?_)))))))))))
    refine sE (E := E) ?_
    refine WE.retF tab_ok [_, _] rfl ⟨rfl, rfl, trivial⟩ (RLe.refl _) ?_
    exact ⟨by unfold rnumV; rw [hno]; rfl, rfl⟩
   ·try simp only [zk] at hc2
    rw [hbt] at hc2
    have hy : 48 ≤ byteAt w i ∧ byteAt w i ≤ 57 := by omega
    have hnt := numV_take hil
    have hbg := byte_get hil
    have hmn : min (10 * min (numV (w.take i) : Int) 1073741825 + (byteAt w i - 48)) 1073741825 = min (numV (w.take (i + 1)) : Int) 1073741825 := by rw [hnt]; omega
    refine zK (zU (zG (zR 1 rfl ?_)))
    refine WG.y rfl rfl qD (Yl.mul rfl rfl rfl (fun _ => rfl) qA) ?_
    refine zR 2 rfl ?_
    refine WG.y rfl rfl qD (Yl.sidx tab_ok rfl rfl rfl rfl rfl (fun _ => rfl) qA) ?_
    refine WG.y rfl rfl qD (Yl.subB rfl rfl rfl (fun _ => rfl) qA) ?_
    refine WG.y rfl rfl qD (Yl.convId tab_ok rfl rfl rfl rfl rfl rfl (fun _ => rfl) (by intro _; (try dsimp only); first | exact u64_id ⟨by omega, by omega⟩ | exact i64_wrap ⟨by omega, by omega⟩ | exact u8_id ⟨by omega, by omega⟩)) ?_
    refine yA ?_
    refine zR 1 rfl ?_
    rw [show (if 1073741825 < 10 * min (numV (w.take i) : Int) 1073741825 + (byteAt w ((i : Int)).toNat - 48) then (1073741825 : Int) else 10 * min (numV (w.take i) : Int) 1073741825 + (byteAt w ((i : Int)).toNat - 48)) = min (numV (w.take (i + 1)) : Int) 1073741825 from by rw [← hmn]; show (if _ < 10 * _ + (byteAt w i - 48) then _ else 10 * _ + (byteAt w i - 48)) = _; split <;> omega]
    refine zR 1 rfl (zN (zL (zU (zG (zR 1 rfl ?_)))))
    refine yA ?_
    refine zR 1 rfl (zN ?_)
    refine WE.again (i + 1) (⟨by omega, fun j hj => by
     by_cases e : j = i
     ·subst e; exact hy
     ·exact hst.2 j (by omega)⟩) (by (try dsimp only); omega) ⟨rfl, rfl, rfl, rfl⟩ (RLe.refl _) qS
  ·try dsimp only at hc1
   obtain rfl : i = w.length := by omega
   rw [List.take_length]
   refine zX ?_
   refine wx (wx (zY (zU (zQ (zG (zR 3 rfl (zN (zU (zT ?_)))))))))
   refine sE (E := E) ?_
   refine WE.retF tab_ok [_, _] rfl ⟨rfl, rfl, trivial⟩ (RLe.refl _) ?_
   have hyes : digs w = true := decide_eq_true ⟨hy1, hy2, hst.2⟩
   exact ⟨by unfold rnumV; rw [hyes]; rfl, rfl⟩



set_option maxHeartbeats 4000000 in
theorem RParse03_C {R : Ro} {s : List UInt8} (hs : s.length ≤ 1000000) (w0 : World) (E : List Ent) : K.Fn Tryd.prog 17 [.string (str s)] w0 R E (fun v R' E' => ∃ (f : Option Addr) (fc : Nat), v = .tuple #[.agg #[.slice f (parseR s).1.vals.length fc, .int .i64 (parseR s).1.per, .int .i64 (parseR s).1.inc], .int .i64 ((parseR s).2.1 : Int), .int .i64 (parseR s).2.2] ∧ RS R' 1 encI f (parseR s).1.vals ∧ (parseR s).1.vals.length ≤ fc ∧ E.Sublist E') := by
 have hss := str_size s
 refine fE 110 Tryd.func17 ?_
 refine zQ (zG ?_)
 refine zA fun b2 => ?_
 refine zR 2 rfl (zN (zU (zQ (zQ (zG (zR 3 rfl (zN (zU ?_))))))))
 refine W.condD rfl (fun hc0 => ?_) (fun hc0 => ?_)
 ·try dsimp only at hc0
  have hp : parseR s = (zcv, 0, 3) := if_pos (by omega)
  refine zQ (zG ?_)
  -- build
  refine WG.y rfl rfl qD (Yl.build (parts := []) tab_ok rfl rfl rfl rfl (fun _ => rfl) rfl rfl) ?_
  first | refine WL.efN rfl rfl (Ef.store0 0 tab_ok rfl rfl rfl rfl rfl rfl rfl rfl ?_) | refine WL.efN rfl rfl (Ef.store0 1 tab_ok rfl rfl rfl rfl rfl rfl rfl rfl ?_) | refine WL.efN rfl rfl (Ef.store0 2 tab_ok rfl rfl rfl rfl rfl rfl rfl rfl ?_) | refine WL.efN rfl rfl (Ef.store0 3 tab_ok rfl rfl rfl rfl rfl rfl rfl rfl ?_)
  refine zR 2 rfl (zN (zU (zT (wt ?_))))
  refine WE.retF tab_ok [_, _, _] rfl ⟨⟨_, _, _, rfl, rfl, rfl, qB, rfl⟩, rfl, rfl, trivial⟩ (by first | exact RLe.refl _ | exact hR1) ?_
  exact ⟨none, 0, by rw [hp]; rfl, by rw [hp]; exact rs_nil, by rw [hp]; exact Nat.le_refl 0, qS⟩
 ·try dsimp only at hc0
  have hnl : ¬ 4000 < s.length := by omega
  refine zK (zU (zQ (zG ?_)))
  refine zA fun b5 => ?_
  refine zN (zU ?_)
  refine W.nil 3 1 qD ?_
  refine zQ (zG (zR 2 rfl (zN (zU (zQ (zQ (zG (zR 1 rfl (zN (zU (zB ?_)))))))))))
  refine W.loopK (β := Nat × List Int × Int × Int × Nat × Nat × Option Addr × Nat) (fun (wh, vals, per, inc, a, i, a9, c9) => Scan s wh vals per inc a i ∧ wh ≤ 5 ∧ vals.length ≤ i) (fun (wh, vals, per, inc, a, i, a9, c9) => [(6, true, .int .i64 (wh : Int)), (7, true, .int .i64 (a : Int)), (8, true, .int .i64 (i : Int))]) [0, 2, 5] [_, _, _] [] _ rfl (fun (wh, vals, per, inc, a, i, a9, c9) => [(0, .sl 3 1 a9 c9 ((vals).map encI)), (1, .blk b5 [.slice a9 vals.length c9, .int .i64 per, .int .i64 inc])]) (fun (wh, vals, per, inc, a, i, a9, c9) => s.length + 1 - i) ((0, [], 0, 0, 0, 0, none, 0)) (⟨Scan.start s, by decide, Nat.le_refl 0⟩) ⟨rfl, rfl, rfl, rfl, rfl, rfl, rfl⟩ qS ?_
  intro zz hst
  obtain ⟨wh, vals, per, inc, a, i, a9, c9⟩ := zz
  dsimp only [zipE, setAll, List.cons_append, List.nil_append, List.set_cons_zero, List.set_cons_succ] at hst ⊢
  obtain ⟨hsc, hw5, hvl⟩ := hst
  have hle := hsc.le
  refine zQ (zQ (zG (zR 4 rfl (zN (zU ?_)))))
  refine W.condD rfl (fun hc1 => ?_) (fun hc1 => ?_)
  ·try dsimp only at hc1
   have hil : i ≤ s.length := by omega
   refine zK (zU (zQ (zB (zQ (zQ (zG (zR 5 rfl ?_)))))))
   refine yP ?_
   refine yP ?_
   refine WG.y rfl rfl (by decide) (Yl.sidx tab_ok rfl rfl rfl rfl rfl qE (by intro hg; (try simp only [zk] at hg); constructor <;> (try dsimp only) <;> omega)) ?_
   refine yP ?_
   refine yN ?_
   refine zN (zU ?_)
   refine W.cond rfl (fun hc2 => ?_) (fun hc2 => ?_)
   ·try simp only [zk] at hc2
    have hib : i < s.length := by omega
    have hbt : byteAt s ((i : Int)).toNat = byteAt s i := rfl
    rw [hbt] at hc2
    refine zX ?_
    refine wx (zY (zU (zG (zR 1 rfl ?_))))
    refine yA ?_
    refine zR 1 rfl (zN ?_)
    refine WE.again ((wh, vals, per, inc, a, i + 1, a9, c9)) (⟨hsc.skip hib qO, hw5, by (try dsimp only); omega⟩) (by (try dsimp only); omega) ⟨rfl, rfl, rfl, rfl, rfl, rfl, rfl⟩ (RLe.refl _) qS
   ·try simp only [zk] at hc2
    have hbt : byteAt s ((i : Int)).toNat = byteAt s i := rfl
    rw [hbt] at hc2
    have hbd : i = s.length ∨ byteAt s i = 32 := by
     by_cases h : i = s.length
     ·exact .inl h
     ·right
      first | exact hc2 qO | (have := hc2 qO; omega) | (rcases hc2 with h2 | h2; omega; omega)
    obtain ⟨ws, hgo, hnx⟩ := hsc.word hil hbd
    have hWl : ((s.take i).drop a).length ≤ 4000 := by rw [List.length_drop, List.length_take]; omega
    refine zK (zU (zQ (zG (zR 3 rfl ?_))))
    refine WG.y rfl rfl qD (Yl.sliceSLH tab_ok rfl rfl rfl rfl rfl rfl (fun _ => rfl) (by intro _; omega)) ?_
    simp only [Int.toNat_natCast]
    generalize (s.take i).drop a = wd at hgo hnx hWl ⊢
    refine zR 1 rfl (zN (zU (zQ (zG (zR 1 rfl ?_)))))
    refine WG.callV en41 rfl rfl qD (CallOp.mk' rfl rfl rfl rfl) (fun _ => rfl) (fun hg => RNum03_V (w := wd) qO) ?_
    refine zR 5 rfl (zN (zU (zQ (zB (zQ (zG (zR 3 rfl ?_)))))))
    refine yP ?_
    refine WG.y rfl rfl qD (Yl.eqS rfl rfl rfl qE) ?_
    refine yN ?_
    refine zR 1 rfl (zN (zU ?_))
    refine W.cond rfl (fun hc3 => ?_) (fun hc3 => ?_)
    ·try simp only [zk] at hc3
     have hW : wd = wInf := str_inj (b := wInf) hc3.2
     have hw1 : wh ≤ 1 := by omega
     have hgo2 := hgo
     rw [parseGo, if_pos ⟨hw1, hW⟩] at hgo2
     have hs2 := hnx _ _ _ _ hgo2
     refine zG (zR 1 rfl ?_)
     refine' WG.y rfl rfl qD (Yl.load1 tab_ok rfl rfl rfl (fun _ => rfl) ?r1 rfl ?h1) ?_
     case r1 => apply Rd.add; (first | exact Rd.blk 0 rfl | exact Rd.blk 1 rfl | exact Rd.blk 2 rfl | exact Rd.blk 3 rfl)
     case h1 => rfl
     refine WL.ef rfl rfl qD (Ef.buildSliceD (enc := encI) (parts := [.const (.int .i64 4611686018427387904)]) [_] tab_ok rfl rfl rfl rfl rfl rfl rfl rfl qD qD (fun a52 => ?_))
     first | refine WL.ef rfl rfl (by decide) (Ef.appendD 1 0 tab_ok rfl rfl rfl rfl rfl rfl rfl rfl rfl rfl rfl (fun _ _ => rfl) (by simp only [List.length_cons, List.length_nil]; omega) (by simp only [List.length_cons, List.length_nil]; omega) (fun a53 c53 ha53 => ?_)) | refine WL.ef rfl rfl (by decide) (Ef.appendD 2 0 tab_ok rfl rfl rfl rfl rfl rfl rfl rfl rfl rfl rfl (fun _ _ => rfl) (by simp only [List.length_cons, List.length_nil]; omega) (by simp only [List.length_cons, List.length_nil]; omega) (fun a53 c53 ha53 => ?_)) | refine WL.ef rfl rfl (by decide) (Ef.appendD 3 0 tab_ok rfl rfl rfl rfl rfl rfl rfl rfl rfl rfl rfl (fun _ _ => rfl) (by simp only [List.length_cons, List.length_nil]; omega) (by simp only [List.length_cons, List.length_nil]; omega) (fun a53 c53 ha53 => ?_)) | refine WL.ef rfl rfl (by decide) (Ef.appendR 0 tab_ok rfl rfl rfl rfl rfl rfl rfl rfl rfl rfl (by assumption) (fun _ _ => rfl) (by (try dsimp only); omega) (by omega) (fun a53 c53 ha53 => ?_)) | refine WL.ef rfl rfl (by decide) (Ef.appendR 1 tab_ok rfl rfl rfl rfl rfl rfl rfl rfl rfl rfl (by assumption) (fun _ _ => rfl) (by (try dsimp only); omega) (by omega) (fun a53 c53 ha53 => ?_)) | refine WL.ef rfl rfl (by decide) (Ef.appendR 2 tab_ok rfl rfl rfl rfl rfl rfl rfl rfl rfl rfl (by assumption) (fun _ _ => rfl) (by (try dsimp only); omega) (by omega) (fun a53 c53 ha53 => ?_)) | refine WL.ef rfl rfl (by decide) (Ef.appendR 3 tab_ok rfl rfl rfl rfl rfl rfl rfl rfl rfl rfl (by assumption) (fun _ _ => rfl) (by (try dsimp only); omega) (by omega) (fun a53 c53 ha53 => ?_))
     refine zR 1 rfl ?_
     first | refine WL.efN rfl rfl (Ef.store 0 tab_ok rfl rfl rfl rfl rfl rfl rfl rfl ?_) | refine WL.efN rfl rfl (Ef.store 1 tab_ok rfl rfl rfl rfl rfl rfl rfl rfl ?_) | refine WL.efN rfl rfl (Ef.store 2 tab_ok rfl rfl rfl rfl rfl rfl rfl rfl ?_) | refine WL.efN rfl rfl (Ef.store 3 tab_ok rfl rfl rfl rfl rfl rfl rfl rfl ?_)
     refine zR 1 rfl (zN (zL (zU (zG (zR 1 rfl ?_)))))
     refine yA ?_
     refine zR 1 rfl (zN (zL (zU (zG (zR 1 rfl ?_)))))
     refine yA ?_
     refine zR 1 rfl (zN ?_)
     refine WE.again ((1, vals ++ [INF], per, inc, i + 1, i + 1, a53, c53)) (⟨hs2, by (try dsimp only); omega, by (try simp only [List.length_append, List.length_cons, List.length_nil]); omega⟩) (by (try dsimp only); omega) ⟨rfl, rfl, rfl, rfl, rfl, rfl, rfl⟩ (RLe.refl _) qS
    ·try simp only [zk] at hc3
     have n1 : ¬ (wh ≤ 1 ∧ wd = wInf) := fun h => by have := hc3 (by omega); exact this (by rw [h.2]; rfl)
     refine zQ (zG (zR 3 rfl ?_))
     refine yP ?_
     refine WG.y rfl rfl qD (Yl.eqS rfl rfl rfl qE) ?_
     refine yN ?_
     refine zR 1 rfl (zN (zU ?_))
     refine W.cond rfl (fun hc4 => ?_) (fun hc4 => ?_)
     ·try simp only [zk] at hc4
      have hW : wd = wPer := str_inj (b := wPer) hc4.2
      have hw1 : wh = 1 := by omega
      have hgo2 := hgo
      rw [parseGo, if_neg n1, if_pos ⟨hw1, hW⟩] at hgo2
      have hs2 := hnx _ _ _ _ hgo2
      refine zG (zR 1 rfl (zN (zL (zU (zG (zR 1 rfl ?_))))))
      refine yA ?_
      refine zR 1 rfl (zN (zL (zU (zG (zR 1 rfl ?_)))))
      refine yA ?_
      refine zR 1 rfl (zN ?_)
      refine WE.again ((2, vals, per, inc, i + 1, i + 1, a9, c9)) (⟨hs2, by (try dsimp only); omega, by (try simp only [List.length_append, List.length_cons, List.length_nil]); omega⟩) (by (try dsimp only); omega) ⟨rfl, rfl, rfl, rfl, rfl, rfl, rfl⟩ (RLe.refl _) qS
     ·try simp only [zk] at hc4
      have n2 : ¬ (wh = 1 ∧ wd = wPer) := fun h => by have := hc4 (by omega); exact this (by rw [h.2]; rfl)
      refine zQ (zG (zR 3 rfl ?_))
      refine yP ?_
      refine WG.y rfl rfl qD (Yl.eqS rfl rfl rfl qE) ?_
      refine yN ?_
      refine zR 1 rfl (zN (zU ?_))
      refine W.cond rfl (fun hc5 => ?_) (fun hc5 => ?_)
      ·try simp only [zk] at hc5
       have hW : wd = wInc := str_inj (b := wInc) hc5.2
       have hw1 : wh = 3 := by omega
       have hgo2 := hgo
       rw [parseGo, if_neg n1, if_neg n2, if_pos ⟨hw1, hW⟩] at hgo2
       have hs2 := hnx _ _ _ _ hgo2
       refine zG (zR 1 rfl (zN (zL (zU (zG (zR 1 rfl ?_))))))
       refine yA ?_
       refine zR 1 rfl (zN (zL (zU (zG (zR 1 rfl ?_)))))
       refine yA ?_
       refine zR 1 rfl (zN ?_)
       refine WE.again ((4, vals, per, inc, i + 1, i + 1, a9, c9)) (⟨hs2, by (try dsimp only); omega, by (try simp only [List.length_append, List.length_cons, List.length_nil]); omega⟩) (by (try dsimp only); omega) ⟨rfl, rfl, rfl, rfl, rfl, rfl, rfl⟩ (RLe.refl _) qS
      ·try simp only [zk] at hc5
       have n3 : ¬ (wh = 3 ∧ wd = wInc) := fun h => by have := hc5 (by omega); exact this (by rw [h.2]; rfl)
       refine zQ (zG (zR 2 rfl ?_))
       refine yP ?_
       refine yP ?_
       refine yN ?_
       refine zR 1 rfl ?_
       refine yP ?_
       refine yP ?_
       refine yN ?_
       refine zR 1 rfl (zN (zU ?_))
       refine W.cond rfl (fun hc6 => ?_) (fun hc6 => ?_)
       ·try simp only [zk] at hc6
        have hd : digs wd = true ∧ wh ≠ 3 ∧ wh ≠ 5 := by refine ⟨hc6.1.1, ?_, ?_⟩ <;> omega
        have hrn : rnumV wd = min (numV wd : Int) 1073741825 := if_pos hd.1
        have hgo2 := hgo
        rw [parseGo, if_neg n1, if_neg n2, if_neg n3, if_pos hd] at hgo2
        refine zQ (zQ (zG (zR 2 rfl (zN (zU ?_)))))
        refine W.condD rfl (fun hc7 => ?_) (fun hc7 => ?_)
        ·try dsimp only at hc7
         have hp : parseR s = (zcv, a, 2) := by
          have e : parseGo s.length 0 [] 0 0 0 (spl s) = (zcv, a, 2) := by rw [hgo2, if_pos (by omega)]
          unfold parseR
          rw [if_neg hnl, e]; exact if_pos (by show (2 : Int) ≠ 0; decide)
         refine zQ (zG ?_)
         -- build
         refine WG.y rfl rfl qD (Yl.build (parts := []) tab_ok rfl rfl rfl rfl (fun _ => rfl) rfl rfl) ?_
         refine zR 1 rfl ?_
         first | refine WL.efN rfl rfl (Ef.store0 0 tab_ok rfl rfl rfl rfl rfl rfl rfl rfl ?_) | refine WL.efN rfl rfl (Ef.store0 1 tab_ok rfl rfl rfl rfl rfl rfl rfl rfl ?_) | refine WL.efN rfl rfl (Ef.store0 2 tab_ok rfl rfl rfl rfl rfl rfl rfl rfl ?_) | refine WL.efN rfl rfl (Ef.store0 3 tab_ok rfl rfl rfl rfl rfl rfl rfl rfl ?_)
         refine zR 2 rfl (zN (zU (zT (wt (wb (wt (wb (wt (wt (wb (wt ?_)))))))))))
         refine WE.retF tab_ok [_, _, _] rfl ⟨⟨_, _, _, rfl, rfl, rfl, qB, rfl⟩, rfl, rfl, trivial⟩ (by first | exact RLe.refl _ | exact hR1) ?_
         exact ⟨none, 0, by rw [hp]; rfl, by rw [hp]; exact rs_nil, by rw [hp]; exact Nat.le_refl 0, qS⟩
        ·try dsimp only at hc7
         rw [if_neg (by omega)] at hgo2
         have hrv : rnumV wd = (numV wd : Int) := by omega
         rw [hrv]
         refine zK (zU (zQ (zG (zR 1 rfl (zN (zU (zB (zQ (zG (zR 2 rfl (zN (zU ?_))))))))))))
         refine W.condE rfl (fun hc8 => ?_) (fun hc8 => ?_)
         ·try dsimp only at hc8
          rw [if_pos (by omega)] at hgo2
          have hs2 := hnx _ _ _ _ hgo2
          refine zG (zR 2 rfl ?_)
          first | refine WL.efN rfl rfl (Ef.store 0 tab_ok rfl rfl rfl rfl rfl rfl rfl rfl ?_) | refine WL.efN rfl rfl (Ef.store 1 tab_ok rfl rfl rfl rfl rfl rfl rfl rfl ?_) | refine WL.efN rfl rfl (Ef.store 2 tab_ok rfl rfl rfl rfl rfl rfl rfl rfl ?_) | refine WL.efN rfl rfl (Ef.store 3 tab_ok rfl rfl rfl rfl rfl rfl rfl rfl ?_)
          refine zR 1 rfl (zN (zL (zL (zU (zG (zR 1 rfl ?_))))))
          refine yA ?_
          refine zR 1 rfl (zN (zL (zU (zG (zR 1 rfl ?_)))))
          refine yA ?_
          refine zR 1 rfl (zN ?_)
          refine WE.again ((3, vals, (numV wd : Int), inc, i + 1, i + 1, a9, c9)) (⟨hs2, by (try dsimp only); omega, by (try simp only [List.length_append, List.length_cons, List.length_nil]); omega⟩) (by (try dsimp only); omega) ⟨rfl, rfl, rfl, rfl, rfl, rfl, rfl⟩ (RLe.refl _) qS
         ·try dsimp only at hc8
          rw [if_neg (by omega)] at hgo2
          refine zQ (zG (zR 2 rfl (zN (zU ?_))))
          refine W.condE rfl (fun hc9 => ?_) (fun hc9 => ?_)
          ·try dsimp only at hc9
           rw [if_pos (by omega)] at hgo2
           have hs2 := hnx _ _ _ _ hgo2
           refine zG (zR 2 rfl ?_)
           first | refine WL.efN rfl rfl (Ef.store 0 tab_ok rfl rfl rfl rfl rfl rfl rfl rfl ?_) | refine WL.efN rfl rfl (Ef.store 1 tab_ok rfl rfl rfl rfl rfl rfl rfl rfl ?_) | refine WL.efN rfl rfl (Ef.store 2 tab_ok rfl rfl rfl rfl rfl rfl rfl rfl ?_) | refine WL.efN rfl rfl (Ef.store 3 tab_ok rfl rfl rfl rfl rfl rfl rfl rfl ?_)
           refine zR 1 rfl (zN (zL (zL (zU (zG (zR 1 rfl ?_))))))
           refine yA ?_
           refine zR 1 rfl (zN (zL (zU (zG (zR 1 rfl ?_)))))
           refine yA ?_
           refine zR 1 rfl (zN ?_)
           refine WE.again ((5, vals, per, (numV wd : Int), i + 1, i + 1, a9, c9)) (⟨hs2, by (try dsimp only); omega, by (try simp only [List.length_append, List.length_cons, List.length_nil]); omega⟩) (by (try dsimp only); omega) ⟨rfl, rfl, rfl, rfl, rfl, rfl, rfl⟩ (RLe.refl _) qS
          ·try dsimp only at hc9
           rw [if_neg (by omega)] at hgo2
           have hs2 := hnx _ _ _ _ hgo2
           refine zG (zR 1 rfl ?_)
           refine' WG.y rfl rfl qD (Yl.load1 tab_ok rfl rfl rfl (fun _ => rfl) ?r2 rfl ?h2) ?_
           case r2 => apply Rd.add; (first | exact Rd.blk 0 rfl | exact Rd.blk 1 rfl | exact Rd.blk 2 rfl | exact Rd.blk 3 rfl)
           case h2 => rfl
           refine zR 1 rfl ?_
           refine WL.ef rfl rfl qD (Ef.buildSliceD (enc := encI) (parts := [.tmp 86]) [_] tab_ok rfl rfl rfl rfl rfl rfl rfl rfl qD qD (fun a87 => ?_))
           first | refine WL.ef rfl rfl (by decide) (Ef.appendD 1 0 tab_ok rfl rfl rfl rfl rfl rfl rfl rfl rfl rfl rfl (fun _ _ => rfl) (by simp only [List.length_cons, List.length_nil]; omega) (by simp only [List.length_cons, List.length_nil]; omega) (fun a88 c88 ha88 => ?_)) | refine WL.ef rfl rfl (by decide) (Ef.appendD 2 0 tab_ok rfl rfl rfl rfl rfl rfl rfl rfl rfl rfl rfl (fun _ _ => rfl) (by simp only [List.length_cons, List.length_nil]; omega) (by simp only [List.length_cons, List.length_nil]; omega) (fun a88 c88 ha88 => ?_)) | refine WL.ef rfl rfl (by decide) (Ef.appendD 3 0 tab_ok rfl rfl rfl rfl rfl rfl rfl rfl rfl rfl rfl (fun _ _ => rfl) (by simp only [List.length_cons, List.length_nil]; omega) (by simp only [List.length_cons, List.length_nil]; omega) (fun a88 c88 ha88 => ?_)) | refine WL.ef rfl rfl (by decide) (Ef.appendR 0 tab_ok rfl rfl rfl rfl rfl rfl rfl rfl rfl rfl (by assumption) (fun _ _ => rfl) (by (try dsimp only); omega) (by omega) (fun a88 c88 ha88 => ?_)) | refine WL.ef rfl rfl (by decide) (Ef.appendR 1 tab_ok rfl rfl rfl rfl rfl rfl rfl rfl rfl rfl (by assumption) (fun _ _ => rfl) (by (try dsimp only); omega) (by omega) (fun a88 c88 ha88 => ?_)) | refine WL.ef rfl rfl (by decide) (Ef.appendR 2 tab_ok rfl rfl rfl rfl rfl rfl rfl rfl rfl rfl (by assumption) (fun _ _ => rfl) (by (try dsimp only); omega) (by omega) (fun a88 c88 ha88 => ?_)) | refine WL.ef rfl rfl (by decide) (Ef.appendR 3 tab_ok rfl rfl rfl rfl rfl rfl rfl rfl rfl rfl (by assumption) (fun _ _ => rfl) (by (try dsimp only); omega) (by omega) (fun a88 c88 ha88 => ?_))
           refine zR 1 rfl ?_
           first | refine WL.efN rfl rfl (Ef.store 0 tab_ok rfl rfl rfl rfl rfl rfl rfl rfl ?_) | refine WL.efN rfl rfl (Ef.store 1 tab_ok rfl rfl rfl rfl rfl rfl rfl rfl ?_) | refine WL.efN rfl rfl (Ef.store 2 tab_ok rfl rfl rfl rfl rfl rfl rfl rfl ?_) | refine WL.efN rfl rfl (Ef.store 3 tab_ok rfl rfl rfl rfl rfl rfl rfl rfl ?_)
           refine zR 1 rfl (zN (zL (zL (zU (zG (zR 1 rfl ?_))))))
           refine yA ?_
           refine zR 1 rfl (zN (zL (zU (zG (zR 1 rfl ?_)))))
           refine yA ?_
           refine zR 1 rfl (zN ?_)
           refine WE.again ((1, vals ++ [(numV wd : Int)], per, inc, i + 1, i + 1, a88, c88)) (⟨hs2, by (try dsimp only); omega, by (try simp only [List.length_append, List.length_cons, List.length_nil]); omega⟩) (by (try dsimp only); omega) ⟨rfl, rfl, rfl, rfl, rfl, rfl, rfl⟩ (RLe.refl _) qS
       ·try simp only [zk] at hc6
        have hd : ¬ (digs wd = true ∧ wh ≠ 3 ∧ wh ≠ 5) := fun h => by
         first | exact hc6 (by omega) (by omega) | (have := hc6 ⟨h.1, by omega⟩; omega) | (have := hc6 h.1; omega) | simp_all <;> omega
        have hp : parseR s = (zcv, a, 4) := by
         have e : parseGo s.length 0 [] 0 0 0 (spl s) = (zcv, a, 4) := by rw [hgo, parseGo, if_neg n1, if_neg n2, if_neg n3, if_neg hd]
         unfold parseR
         rw [if_neg hnl, e]; exact if_pos (by show (4 : Int) ≠ 0; decide)
        refine zQ (zG ?_)
        -- build
        refine WG.y rfl rfl qD (Yl.build (parts := []) tab_ok rfl rfl rfl rfl (fun _ => rfl) rfl rfl) ?_
        refine zR 1 rfl ?_
        first | refine WL.efN rfl rfl (Ef.store0 0 tab_ok rfl rfl rfl rfl rfl rfl rfl rfl ?_) | refine WL.efN rfl rfl (Ef.store0 1 tab_ok rfl rfl rfl rfl rfl rfl rfl rfl ?_) | refine WL.efN rfl rfl (Ef.store0 2 tab_ok rfl rfl rfl rfl rfl rfl rfl rfl ?_) | refine WL.efN rfl rfl (Ef.store0 3 tab_ok rfl rfl rfl rfl rfl rfl rfl rfl ?_)
        refine zR 2 rfl (zN (zU (zT (wb (wt (wb (wt (wt (wb (wt ?_))))))))))
        refine WE.retF tab_ok [_, _, _] rfl ⟨⟨_, _, _, rfl, rfl, rfl, qB, rfl⟩, rfl, rfl, trivial⟩ (by first | exact RLe.refl _ | exact hR1) ?_
        exact ⟨none, 0, by rw [hp]; rfl, by rw [hp]; exact rs_nil, by rw [hp]; exact Nat.le_refl 0, qS⟩
  ·try dsimp only at hc1
   have hil : ¬ i ≤ s.length := by omega
   have hgo := hsc.stop hil
   refine zX ?_
   refine wx (wx (zY (zU (zQ (zQ (zG (zR 2 rfl (zN (zU ?_)))))))))
   refine W.condN rfl (fun hc10 => ?_) (fun hc10 => ?_)
   ·try dsimp only at hc10
    have hp : parseR s = (zcv, s.length, 4) := by
     have e : parseGo s.length 0 [] 0 0 0 (spl s) = (zcv, s.length, 4) := by rw [hgo, if_neg (by omega)]
     unfold parseR
     rw [if_neg hnl, e]; exact if_pos (by show (4 : Int) ≠ 0; decide)
    refine zQ (zG ?_)
    -- build
    refine WG.y rfl rfl qD (Yl.build (parts := []) tab_ok rfl rfl rfl rfl (fun _ => rfl) rfl rfl) ?_
    refine zR 2 rfl ?_
    first | refine WL.efN rfl rfl (Ef.store0 0 tab_ok rfl rfl rfl rfl rfl rfl rfl rfl ?_) | refine WL.efN rfl rfl (Ef.store0 1 tab_ok rfl rfl rfl rfl rfl rfl rfl rfl ?_) | refine WL.efN rfl rfl (Ef.store0 2 tab_ok rfl rfl rfl rfl rfl rfl rfl rfl ?_) | refine WL.efN rfl rfl (Ef.store0 3 tab_ok rfl rfl rfl rfl rfl rfl rfl rfl ?_)
    refine zR 2 rfl (zN (zU (zT (wt ?_))))
    refine WE.retF tab_ok [_, _, _] rfl ⟨⟨_, _, _, rfl, rfl, rfl, qB, rfl⟩, rfl, rfl, trivial⟩ (by first | exact RLe.refl _ | exact hR1) ?_
    exact ⟨none, 0, by rw [hp]; rfl, by rw [hp]; exact rs_nil, by rw [hp]; exact Nat.le_refl 0, qS⟩
   ·try dsimp only at hc10
    have hgo2 : parseGo s.length 0 [] 0 0 0 (spl s) = (⟨vals, per, inc⟩, 0, 0) := by rw [hgo, if_pos (by omega)]
    refine zK (zU (zQ ?_))
    refine W.cap 0 rfl ?_
    intro hcp
    rw [List.length_map] at hcp
    refine W.freeze (enc := encI) (xs := vals) 0 rfl ?_
    intro R1 hR1 hvs
    refine zQ (zG ?_)
    refine' WG.y rfl rfl qD (Yl.load1 tab_ok rfl rfl rfl (fun _ => rfl) ?r3 rfl ?h3) ?_
    case r3 => (first | exact Rd.blk 0 rfl | exact Rd.blk 1 rfl | exact Rd.blk 2 rfl | exact Rd.blk 3 rfl)
    case h3 => rfl
    refine WG.callV (v := .bool (validB ⟨vals, per, inc⟩)) en31 rfl rfl qD (CallOp.mk' rfl rfl rfl rfl) (fun _ => rfl) (fun hg => ValidA_V (c := c9) (v := vals) hvs) ?_
    refine zR 1 rfl (zN (zU ?_))
    refine W.cond rfl (fun hc11 => ?_) (fun hc11 => ?_)
    ·try simp only [zk] at hc11
     have hv : validB ⟨vals, per, inc⟩ = false := by simpa using hc11
     have hp : parseR s = (zcv, 0, 1) := by unfold parseR; rw [if_neg hnl, hgo2, if_neg (fun h => h rfl), if_neg (by rw [hv]; decide)]
     refine zQ (zG ?_)
     -- build
     refine WG.y rfl rfl qD (Yl.build (parts := []) tab_ok rfl rfl rfl rfl (fun _ => rfl) rfl rfl) ?_
     first | refine WL.efN rfl rfl (Ef.store0 0 tab_ok rfl rfl rfl rfl rfl rfl rfl rfl ?_) | refine WL.efN rfl rfl (Ef.store0 1 tab_ok rfl rfl rfl rfl rfl rfl rfl rfl ?_) | refine WL.efN rfl rfl (Ef.store0 2 tab_ok rfl rfl rfl rfl rfl rfl rfl rfl ?_) | refine WL.efN rfl rfl (Ef.store0 3 tab_ok rfl rfl rfl rfl rfl rfl rfl rfl ?_)
     refine zR 2 rfl (zN (zU (zT (wt ?_))))
     refine WE.retF tab_ok [_, _, _] rfl ⟨⟨_, _, _, rfl, rfl, rfl, qB, rfl⟩, rfl, rfl, trivial⟩ (by first | exact RLe.refl _ | exact hR1) ?_
     exact ⟨none, 0, by rw [hp]; rfl, by rw [hp]; exact rs_nil, by rw [hp]; exact Nat.le_refl 0, qS⟩
    ·try simp only [zk] at hc11
     have hv : validB ⟨vals, per, inc⟩ = true := by simpa using hc11
     have hp : parseR s = (⟨vals, per, inc⟩, 0, 0) := by unfold parseR; rw [if_neg hnl, hgo2, if_neg (fun h => h rfl), if_pos hv]
     refine zK (zU (zQ (zG ?_)))
     refine' WG.y rfl rfl qD (Yl.load1 tab_ok rfl rfl rfl (fun _ => rfl) ?r4 rfl ?h4) ?_
     case r4 => (first | exact Rd.blk 0 rfl | exact Rd.blk 1 rfl | exact Rd.blk 2 rfl | exact Rd.blk 3 rfl)
     case h4 => rfl
     first | refine WL.efN rfl rfl (Ef.store0 0 tab_ok rfl rfl rfl rfl rfl rfl rfl rfl ?_) | refine WL.efN rfl rfl (Ef.store0 1 tab_ok rfl rfl rfl rfl rfl rfl rfl rfl ?_) | refine WL.efN rfl rfl (Ef.store0 2 tab_ok rfl rfl rfl rfl rfl rfl rfl rfl ?_) | refine WL.efN rfl rfl (Ef.store0 3 tab_ok rfl rfl rfl rfl rfl rfl rfl rfl ?_)
     refine zR 2 rfl (zN (zU (zT ?_)))
     refine WE.retF tab_ok [_, _, _] rfl ⟨⟨_, _, _, rfl, rfl, rfl, qB, rfl⟩, rfl, rfl, trivial⟩ (by first | exact RLe.refl _ | exact hR1) ?_
     exact ⟨a9, c9, by rw [hp]; rfl, by rw [hp]; exact hvs, by rw [hp]; exact hcp, qS⟩



def isNameB (s : List UInt8) : Bool := decide (1 ≤ s.length ∧ s.length ≤ 12 ∧ ∀ i, i < s.length → (97 ≤ byteAt s i ∧ byteAt s i ≤ 122) ∨ (0 < i ∧ 48 ≤ byteAt s i ∧ byteAt s i ≤ 57))

set_option maxHeartbeats 1000000 in
theorem IsName03_V {R : Ro} {s : List UInt8} (hs : s.length ≤ 1000000) : FnV Tryd.prog 20 [.string (str s)] R (.bool (isNameB s)) := by
 refine Fn.toV (fun w0 E => ?_)
 have hss := str_size s
 refine fE 50 Tryd.func20 ?_
 refine zQ (zG (zR 1 rfl (zN (zU (zQ (zQ (zG (zR 4 rfl ?_))))))))
 refine yP ?_
 refine yP ?_
 refine yP ?_
 refine yO ?_
 refine zR 1 rfl ?_
 refine yP ?_
 refine WG.y rfl rfl (by decide) (Yl.sidx tab_ok rfl rfl rfl rfl rfl qE (by intro hg; (try simp only [zk] at hg); (constructor <;> first | omega | (have h1 := hg; simp at h1; omega)))) ?_
 refine yP ?_
 refine yO ?_
 refine zR 1 rfl ?_
 refine yP ?_
 refine WG.y rfl rfl (by decide) (Yl.sidx tab_ok rfl rfl rfl rfl rfl qE (by intro hg; (try simp only [zk] at hg); (constructor <;> first | omega | (have h1 := hg; simp at h1; omega)))) ?_
 refine yP ?_
 refine yO ?_
 refine zN (zU ?_)
 refine W.cond rfl (fun hc0 => ?_) (fun hc0 => ?_)
 ·try simp only [zk] at hc0
  have h00 : byteAt s ((0 : Int)).toNat = byteAt s 0 := rfl
  try rw [h00] at hc0
  have hno : isNameB s = false := by
   unfold isNameB
   rw [decide_eq_false_iff_not]
   rintro ⟨h1, h2, h3⟩
   have := h3 0 (by omega)
   omega
  refine zQ (zG (zR 1 rfl (zN (zU (zT (wt ?_))))))
  refine sE (E := E) ?_
  refine WE.retF tab_ok [_] rfl ⟨rfl, trivial⟩ (RLe.refl _) ?_
  exact ⟨by rw [hno]; rfl, rfl⟩
 ·try simp only [zk] at hc0
  have h00 : byteAt s ((0 : Int)).toNat = byteAt s 0 := rfl
  try rw [h00] at hc0
  have hok : 1 ≤ s.length ∧ s.length ≤ 12 ∧ 97 ≤ byteAt s 0 ∧ byteAt s 0 ≤ 122 := by omega
  refine zK (zU (zQ (zQ (zG (zR 1 rfl (zN (zU (zB ?_))))))))
  refine W.loopK (β := Nat) (fun i => i ≤ s.length ∧ ∀ j, j < i → (97 ≤ byteAt s j ∧ byteAt s j ≤ 122) ∨ (0 < j ∧ 48 ≤ byteAt s j ∧ byteAt s j ≤ 57)) (fun i => [(3, true, .int .i64 (i : Int))]) [0] [_] [] _ rfl (fun i => []) (fun i => s.length - i) (0) (⟨Nat.zero_le _, fun j hj => by omega⟩) ⟨rfl, rfl, rfl⟩ qS ?_
  intro i hst
  dsimp only [zipE, setAll, List.cons_append, List.nil_append, List.set_cons_zero, List.set_cons_succ] at hst ⊢
  
  refine zQ (zQ (zG (zR 4 rfl (zN (zU ?_)))))
  refine W.condD rfl (fun hc1 => ?_) (fun hc1 => ?_)
  ·try dsimp only at hc1
   have hil : i < s.length := by omega
   have hbt : byteAt s ((i : Int)).toNat = byteAt s i := rfl
   refine zK (zU (zQ (zB (zQ (zG (zR 2 rfl ?_))))))
   refine WG.y rfl rfl qD (Yl.sidx tab_ok rfl rfl rfl rfl rfl (fun _ => rfl) qA) ?_
   refine zR 2 rfl ?_
   refine yP ?_
   refine yP ?_
   refine WG.y rfl rfl (by decide) (Yl.sidx tab_ok rfl rfl rfl rfl rfl qE (by intro hg; (try simp only [zk] at hg); constructor <;> (try dsimp only) <;> omega)) ?_
   refine yP ?_
   refine yO ?_
   refine zR 1 rfl ?_
   refine yP ?_
   refine yP ?_
   refine WG.y rfl rfl (by decide) (Yl.sidx tab_ok rfl rfl rfl rfl rfl qE (by intro hg; (try simp only [zk] at hg); constructor <;> (try dsimp only) <;> omega)) ?_
   refine yP ?_
   refine yP ?_
   refine yP ?_
   refine yP ?_
   refine WG.y rfl rfl (by decide) (Yl.sidx tab_ok rfl rfl rfl rfl rfl qE (by intro hg; (try simp only [zk] at hg); constructor <;> (try dsimp only) <;> omega)) ?_
   refine yP ?_
   refine yO ?_
   refine yN ?_
   refine zN (zU ?_)
   refine W.cond rfl (fun hc2 => ?_) (fun hc2 => ?_)
   ·try simp only [zk] at hc2
    have hno : isNameB s = false := by
     unfold isNameB
     rw [decide_eq_false_iff_not]
     rintro ⟨h1, h2, h3⟩
     have := h3 i hil
     rw [hbt] at hc2
     omega
    refine zQ (zG (zR 1 rfl (zN (zU (zT (wb (wt (wt (wb (wt ?_))))))))))
    refine sE (E := E) ?_
    refine WE.retF tab_ok [_] rfl ⟨rfl, trivial⟩ (RLe.refl _) ?_
    exact ⟨by rw [hno]; rfl, rfl⟩
   ·try simp only [zk] at hc2
    rw [hbt] at hc2
    have hy : (97 ≤ byteAt s i ∧ byteAt s i ≤ 122) ∨ (0 < i ∧ 48 ≤ byteAt s i ∧ byteAt s i ≤ 57) := by
     by_cases h0 : i = 0
     ·subst h0; exact .inl hok.2.2
     ·omega
    refine zK (zL (zU (zG (zR 1 rfl ?_))))
    refine yA ?_
    refine zR 1 rfl (zN ?_)
    refine WE.again (i + 1) (⟨by omega, fun j hj => by
     by_cases e : j = i
     ·subst e; exact hy
     ·exact hst.2 j (by omega)⟩) (by (try dsimp only); omega) ⟨rfl, rfl, rfl⟩ (RLe.refl _) qS
  ·try dsimp only at hc1
   obtain rfl : i = s.length := by omega
   refine zX ?_
   refine wx (wx (zY (zU (zQ (zG (zR 1 rfl (zN (zU (zT ?_)))))))))
   refine sE (E := E) ?_
   refine WE.retF tab_ok [_] rfl ⟨rfl, trivial⟩ (RLe.refl _) ?_
   exact ⟨by rw [show isNameB s = true from decide_eq_true ⟨hok.1, hok.2.1, hst.2⟩]; rfl, rfl⟩

set_option maxHeartbeats 1000000 in
theorem RIsName03_V {R : Ro} {s : List UInt8} (hs : s.length ≤ 1000000) : FnV Tryd.prog 21 [.string (str s)] R (.bool (isNameB s)) := by
 refine Fn.toV (fun w0 E => ?_)
 have hss := str_size s
 refine fE 44 Tryd.func21 ?_
 refine zQ (zG (zR 1 rfl (zN (zU (zQ (zQ (zG (zR 1 rfl (zN (zU (zB ?_)))))))))))
 refine W.loopK (β := Nat) (fun i => i ≤ s.length ∧ ∀ j, j < i → (97 ≤ byteAt s j ∧ byteAt s j ≤ 122) ∨ (0 < j ∧ 48 ≤ byteAt s j ∧ byteAt s j ≤ 57)) (fun i => [(3, true, .int .i64 (i : Int))]) [0] [_] [] _ rfl (fun i => []) (fun i => s.length - i) (0) (⟨Nat.zero_le _, fun j hj => by omega⟩) ⟨rfl, rfl, rfl⟩ qS ?_
 intro i hst
 dsimp only [zipE, setAll, List.cons_append, List.nil_append, List.set_cons_zero, List.set_cons_succ] at hst ⊢
 
 refine zQ (zQ (zG (zR 4 rfl (zN (zU ?_)))))
 refine W.condD rfl (fun hc0 => ?_) (fun hc0 => ?_)
 ·try dsimp only at hc0
  have hil : i < s.length := by omega
  have hbt : byteAt s ((i : Int)).toNat = byteAt s i := rfl
  refine zK (zU (zQ (zB (zQ (zG (zR 2 rfl ?_))))))
  refine WG.y rfl rfl qD (Yl.sidx tab_ok rfl rfl rfl rfl rfl (fun _ => rfl) qA) ?_
  refine zR 2 rfl ?_
  refine yP ?_
  refine yP ?_
  refine WG.y rfl rfl (by decide) (Yl.sidx tab_ok rfl rfl rfl rfl rfl qE (by intro hg; (try simp only [zk] at hg); constructor <;> (try dsimp only) <;> omega)) ?_
  refine yP ?_
  refine yO ?_
  refine zR 1 rfl ?_
  refine yP ?_
  refine yP ?_
  refine yP ?_
  refine yP ?_
  refine yP ?_
  refine WG.y rfl rfl (by decide) (Yl.sidx tab_ok rfl rfl rfl rfl rfl qE (by intro hg; (try simp only [zk] at hg); constructor <;> (try dsimp only) <;> omega)) ?_
  refine yP ?_
  refine yO ?_
  refine yP ?_
  refine yP ?_
  refine yP ?_
  refine WG.y rfl rfl (by decide) (Yl.sidx tab_ok rfl rfl rfl rfl rfl qE (by intro hg; (try simp only [zk] at hg); constructor <;> (try dsimp only) <;> omega)) ?_
  refine yP ?_
  refine yO ?_
  refine yN ?_
  refine zN (zU ?_)
  refine W.cond rfl (fun hc1 => ?_) (fun hc1 => ?_)
  ·try simp only [zk] at hc1
   have hno : isNameB s = false := by
    unfold isNameB
    rw [decide_eq_false_iff_not]
    rintro ⟨h1, h2, h3⟩
    have := h3 i hil
    rw [hbt] at hc1
    omega
   refine zQ (zG (zR 1 rfl (zN (zU (zT (wb (wt (wt (wb (wt ?_))))))))))
   refine sE (E := E) ?_
   refine WE.retF tab_ok [_] rfl ⟨rfl, trivial⟩ (RLe.refl _) ?_
   exact ⟨by rw [hno]; rfl, rfl⟩
  ·try simp only [zk] at hc1
   rw [hbt] at hc1
   have hy : (97 ≤ byteAt s i ∧ byteAt s i ≤ 122) ∨ (0 < i ∧ 48 ≤ byteAt s i ∧ byteAt s i ≤ 57) := by omega
   refine zK (zL (zU (zG (zR 1 rfl ?_))))
   refine yA ?_
   refine zR 1 rfl (zN ?_)
   refine WE.again (i + 1) (⟨by omega, fun j hj => by
    by_cases e : j = i
    ·subst e; exact hy
    ·exact hst.2 j (by omega)⟩) (by (try dsimp only); omega) ⟨rfl, rfl, rfl⟩ (RLe.refl _) qS
 ·try dsimp only at hc0
  obtain rfl : i = s.length := by omega
  refine zX ?_
  refine wx (wx (zY (zU (zQ (zG (zR 4 rfl ?_))))))
  refine yP ?_
  refine yP ?_
  refine yP ?_
  refine yN ?_
  refine zR 1 rfl (zN (zU (zT ?_)))
  refine sE (E := E) ?_
  refine WE.retF tab_ok [_] rfl ⟨rfl, trivial⟩ (RLe.refl _) ?_
  have e : (decide (((str s).size : Int) ≥ 1) && decide (((str s).size : Int) ≤ 12)) = isNameB s := by
   unfold isNameB
   rw [hss, ← Bool.decide_and]
   exact decide_eq_decide.2 ⟨fun h => ⟨by omega, by omega, hst.2⟩, fun h => ⟨by omega, by omega⟩⟩
  exact ⟨congrArg Value.bool e, rfl⟩



theorem fmt_ex : formatR ⟨[0], 1, 3⟩ = ([48, 32, 112, 101, 114, 32, 49, 32, 105, 110, 99, 32, 51], 0) := by
 have e : fmtC ⟨[0], 1, 3⟩ = [48, 32, 112, 101, 114, 32, 49, 32, 105, 110, 99, 32, 51] := by
  unfold fmtC
  dsimp only [fmtVals]
  unfold wordV
  rw [if_neg (by decide), itoa_pos (by decide), itoa_pos (by decide), itoa_pos (by decide), show (0 : Int).toNat = 0 from rfl, show (1 : Int).toNat = 1 from rfl, show (3 : Int).toNat = 3 from rfl, dec_one (by decide), dec_one (by decide), dec_one (by decide)]
  rfl
 unfold formatR
 rw [if_neg (by decide), e, if_neg (by decide)]
theorem par_ex1 : parseR [48, 32, 120, 32, 112, 101, 114, 32, 49, 32, 105, 110, 99, 32, 51] = (zcv, 2, 4) := by kernel_rfl
theorem par_ex2 : parseR [53, 32, 52, 32, 112, 101, 114, 32, 49, 32, 105, 110, 99, 32, 48] = (zcv, 0, 1) := by kernel_rfl
theorem par_ex3 : parseR [48, 32, 105, 110, 102, 32, 112, 101, 114, 32, 49, 32, 105, 110, 99, 32, 48] = (⟨[0, 4611686018427387904], 1, 0⟩, 0, 0) := by kernel_rfl

set_option maxHeartbeats 1000000 in
theorem Awake03_C {R : Ro} (hG : GlobE R) (w0 : World) (E : List Ent) : K.Fn Tryd.prog 7 [] w0 R E (fun v R' E' => v = .bool true ∧ E.Sublist E') := by
 refine fE 61 Tryd.func7 ?_
 refine zQ (zG (zR 1 rfl (zN (zU (zQ (zG ?_))))))
 refine WL.ef rfl rfl qD (Ef.buildSliceD (enc := encI) (parts := [.const (.int .i64 0)]) [_] tab_ok rfl rfl rfl rfl rfl rfl rfl rfl qD qD (fun a13 => ?_))
 refine WL.freeze (enc := encI) (xs := [0]) 0 rfl ?_
 intro R0 hR0 hl0
 have hG := hG.mono hR0
 -- build
 refine WG.y rfl rfl qD (Yl.build (parts := [(0, .tmp 13), (1, .const (.int .i64 1)), (2, .const (.int .i64 3))]) tab_ok rfl rfl rfl rfl (fun _ => rfl) rfl rfl) ?_
 refine WG.callV (v := .tuple #[.string (str [48, 32, 112, 101, 114, 32, 49, 32, 105, 110, 99, 32, 51]), .int .i64 0]) en16 rfl rfl qD (CallOp.mk' rfl rfl rfl rfl) (fun _ => rfl) (fun hg => by
  have h := Fmt03_V (fc := 1) (c := ⟨[0], 1, 3⟩) hG hl0 (by decide)
  rw [fmt_ex] at h
  exact h) ?_
 refine zR 5 rfl (zN (zU (zQ (zG ?_))))
 refine WL.call en13 rfl rfl qD (CallOp.mkT rfl rfl rfl rfl) (Parse03_C (s := [48, 32, 120, 32, 112, 101, 114, 32, 49, 32, 105, 110, 99, 32, 51]) hG qD w0 _) ?_
 rintro _ R1 E1 hR1 ⟨f1, k1, rfl, hf1, _, hsub1⟩
 refine WL.subE hsub1 ?_
 rw [par_ex1] at hf1 ⊢
 dsimp only at hf1 ⊢
 have hG := hG.mono hR1
 refine zR 4 rfl ?_
 refine zA fun b3 => ?_
 first | refine WL.efN rfl rfl (Ef.store0 0 tab_ok rfl rfl rfl rfl rfl rfl rfl rfl ?_) | refine WL.efN rfl rfl (Ef.store0 1 tab_ok rfl rfl rfl rfl rfl rfl rfl rfl ?_) | refine WL.efN rfl rfl (Ef.store0 2 tab_ok rfl rfl rfl rfl rfl rfl rfl rfl ?_) | refine WL.efN rfl rfl (Ef.store0 3 tab_ok rfl rfl rfl rfl rfl rfl rfl rfl ?_) | refine WL.efN rfl rfl (Ef.store0 4 tab_ok rfl rfl rfl rfl rfl rfl rfl rfl ?_) | refine WL.efN rfl rfl (Ef.store0 5 tab_ok rfl rfl rfl rfl rfl rfl rfl rfl ?_)
 refine zR 2 rfl (zN (zU (zQ (zG ?_))))
 refine WL.call en13 rfl rfl qD (CallOp.mkT rfl rfl rfl rfl) (Parse03_C (s := [53, 32, 52, 32, 112, 101, 114, 32, 49, 32, 105, 110, 99, 32, 48]) hG qD w0 _) ?_
 rintro _ R2 E2 hR2 ⟨f2, k2, rfl, hf2, _, hsub2⟩
 refine WL.subE hsub2 ?_
 rw [par_ex2] at hf2 ⊢
 dsimp only at hf2 ⊢
 have hG := hG.mono hR2
 refine zR 4 rfl ?_
 refine zA fun b6 => ?_
 first | refine WL.efN rfl rfl (Ef.store0 0 tab_ok rfl rfl rfl rfl rfl rfl rfl rfl ?_) | refine WL.efN rfl rfl (Ef.store0 1 tab_ok rfl rfl rfl rfl rfl rfl rfl rfl ?_) | refine WL.efN rfl rfl (Ef.store0 2 tab_ok rfl rfl rfl rfl rfl rfl rfl rfl ?_) | refine WL.efN rfl rfl (Ef.store0 3 tab_ok rfl rfl rfl rfl rfl rfl rfl rfl ?_) | refine WL.efN rfl rfl (Ef.store0 4 tab_ok rfl rfl rfl rfl rfl rfl rfl rfl ?_) | refine WL.efN rfl rfl (Ef.store0 5 tab_ok rfl rfl rfl rfl rfl rfl rfl rfl ?_)
 refine zR 2 rfl (zN (zU (zQ (zG ?_))))
 refine WL.call en13 rfl rfl qD (CallOp.mkT rfl rfl rfl rfl) (Parse03_C (s := [48, 32, 105, 110, 102, 32, 112, 101, 114, 32, 49, 32, 105, 110, 99, 32, 48]) hG qD w0 _) ?_
 rintro _ R3 E3 hR3 ⟨f3, k3, rfl, hf3, _, hsub3⟩
 refine WL.subE hsub3 ?_
 rw [par_ex3] at hf3 ⊢
 dsimp only at hf3 ⊢
 have hG := hG.mono hR3
 refine zR 4 rfl ?_
 refine zA fun b9 => ?_
 first | refine WL.efN rfl rfl (Ef.store0 0 tab_ok rfl rfl rfl rfl rfl rfl rfl rfl ?_) | refine WL.efN rfl rfl (Ef.store0 1 tab_ok rfl rfl rfl rfl rfl rfl rfl rfl ?_) | refine WL.efN rfl rfl (Ef.store0 2 tab_ok rfl rfl rfl rfl rfl rfl rfl rfl ?_) | refine WL.efN rfl rfl (Ef.store0 3 tab_ok rfl rfl rfl rfl rfl rfl rfl rfl ?_) | refine WL.efN rfl rfl (Ef.store0 4 tab_ok rfl rfl rfl rfl rfl rfl rfl rfl ?_) | refine WL.efN rfl rfl (Ef.store0 5 tab_ok rfl rfl rfl rfl rfl rfl rfl rfl ?_)
 refine zR 2 rfl (zN (zU (zQ (zG (zR 3 rfl ?_)))))
 refine WL.guardT rfl (by rfl) ?_
 refine yP ?_
 refine WL.guardT rfl (by rfl) ?_
 refine WG.y rfl rfl qD (Yl.eqS rfl rfl rfl (fun _ => rfl)) ?_
 refine yN ?_
 refine zR 1 rfl ?_
 refine WL.guardT rfl (by rfl) ?_
 refine yP ?_
 refine WL.guardT rfl (by rfl) ?_
 refine yP ?_
 refine yN ?_
 refine zR 1 rfl ?_
 refine WL.guardT rfl (by rfl) ?_
 refine yP ?_
 refine WL.guardT rfl (by rfl) ?_
 refine yP ?_
 refine yN ?_
 refine zR 1 rfl ?_
 refine WL.guardT rfl (by rfl) ?_
 refine yP ?_
 refine WL.guardT rfl (by rfl) ?_
 refine yP ?_
 refine yN ?_
 refine zR 1 rfl ?_
 refine WL.guardT rfl (by rfl) ?_
 refine yP ?_
 refine WL.guardT rfl (by rfl) ?_
 refine yP ?_
 refine yN ?_
 refine zR 1 rfl ?_
 refine WL.guardT rfl (by rfl) ?_
 refine' WG.y rfl rfl qD (Yl.load1 tab_ok rfl rfl rfl (fun _ => rfl) ?r1 rfl ?h1) ?_
 case r1 => (first | exact Rd.blk 0 rfl | exact Rd.blk 1 rfl | exact Rd.blk 2 rfl | exact Rd.blk 3 rfl | exact Rd.blk 4 rfl | exact Rd.blk 5 rfl)
 case h1 => rfl
 refine WL.guardT rfl (by rfl) ?_
 refine WL.ef rfl rfl qD (Ef.buildSliceD (enc := encI) (parts := [.const (.int .i64 0), .const (.int .i64 4611686018427387904)]) [_, _] tab_ok rfl rfl rfl rfl rfl rfl rfl rfl qD qD (fun a57 => ?_))
 refine WL.freeze (enc := encI) (xs := [0, 4611686018427387904]) 0 rfl ?_
 intro R9 hR9 hl9
 refine WL.guardT rfl (by rfl) ?_
 -- build
 refine WG.y rfl rfl qD (Yl.build (parts := [(0, .tmp 57), (1, .const (.int .i64 1))]) tab_ok rfl rfl rfl rfl (fun _ => rfl) rfl rfl) ?_
 refine WL.guardT rfl (by rfl) ?_
 refine WG.callV (v := .bool true) en18 rfl rfl qD (CallOp.mk' rfl rfl rfl rfl) (fun _ => rfl) (fun hg => by
  have h := Same02_V (ca := k3) (cb := 2) (p1 := 1) (i1 := 0) (p2 := 1) (i2 := 0) (hf3.mono hR9) hl9
  exact h) ?_
 refine yN ?_
 refine zR 1 rfl (zN (zU (zT ?_)))
 refine WE.retF tab_ok [_] rfl ⟨rfl, trivial⟩ (hR0.trans (hR1.trans (hR2.trans (hR3.trans hR9)))) ?_
 exact ⟨rfl, qS⟩



theorem fmtR_len (c : Cv) : (formatR c).1.length ≤ 4000 := by
 unfold formatR
 split
 ·exact Nat.zero_le _
 ·split
  ·exact Nat.zero_le _
  ·rename_i h; show (fmtC c).length ≤ 4000; omega


def nmL : List (List UInt8) := [[97], [98, 55], [114, 97, 116, 101], [97, 98, 99, 100, 101, 102, 103, 104, 105, 106, 107, 108], [97, 98, 99, 100, 101, 102, 103, 104, 105, 106, 107, 108, 109], [], [55, 97], [65], [97, 32, 98]]
theorem nm_len : ∀ t ∈ nmL, t.length ≤ 13 := by decide

theorem Names03_C {R : Ro} (w0 : World) (E : List Ent) : K.Fn Tryd.prog 19 [] w0 R E (fun v R' E' => ∃ a : Option Addr, v = .slice a nmL.length 9 ∧ R = R' ∧ E' = .sl 9 1 a 9 ((nmL).map encT) :: E) := by
 refine fE 2 Tryd.func19 ?_
 refine zQ (zG (zR 1 rfl (zN (zU (zQ (zG ?_))))))
 refine WL.ef rfl rfl qD (Ef.buildSliceD (enc := encT) (parts := [.const (.string ⟨#[97]⟩), .const (.string ⟨#[98, 55]⟩), .const (.string ⟨#[114, 97, 116, 101]⟩), .const (.string ⟨#[97, 98, 99, 100, 101, 102, 103, 104, 105, 106, 107, 108]⟩), .const (.string ⟨#[97, 98, 99, 100, 101, 102, 103, 104, 105, 106, 107, 108, 109]⟩), .const (.string ⟨#[]⟩), .const (.string ⟨#[55, 97]⟩), .const (.string ⟨#[65]⟩), .const (.string ⟨#[97, 32, 98]⟩)]) nmL tab_ok rfl rfl rfl rfl rfl rfl rfl rfl qD qD (fun a1 => ?_))
 refine zR 1 rfl (zN (zU (zT ?_)))
 refine WE.retF tab_ok [_] rfl ⟨rfl, trivial⟩ (RLe.refl _) ?_
 exact ⟨_, rfl, rfl, rfl⟩

set_option maxHeartbeats 4000000 in
theorem NotationCurves_F {R : Ro} {ra : Option Addr} {rc : Nat} {rw_ : Cv} {text : List UInt8} {z : Int} {v : UInt8} {a : Option Addr} {c : Nat} {xs : List Int} (hr : RS R 1 encI ra rw_.vals) (ha : RS R 1 encI a xs) (hzr : InR z) (hG : GlobE R) (hc : xs.length ≤ c) (w0 : World) : K.Fn Tryd.prog 4 [.agg #[.slice ra rw_.vals.length rc, .int .i64 rw_.per, .int .i64 rw_.inc], .string (str text), .slice a xs.length c, .int .i64 z, .int .u8 v.toNat] w0 R [] (fun v _ _ => v = .bool true) := by
 have hst := str_size text
 refine fE 158 Tryd.func4 ?_
 refine zQ (zG ?_)
 refine zO fun b5 => ?_
 refine zR 1 rfl (zN (zU (zQ (zQ (zG ?_)))))
 refine' WG.y rfl rfl qD (Yl.load1 tab_ok rfl rfl rfl (fun _ => rfl) ?r1 rfl ?h1) ?_
 case r1 => (first | exact Rd.ro qU | exact Rd.blk 0 rfl | exact Rd.blk 1 rfl | exact Rd.blk 2 rfl | exact Rd.blk 3 rfl | exact Rd.blk 4 rfl | exact Rd.blk 5 rfl | exact Rd.blk 6 rfl)
 case h1 => rfl
 refine WG.callV (v := .bool (decide ((rw_.vals.length : Int) ≤ 800))) en14 rfl rfl qD (CallOp.mk' rfl rfl rfl rfl) (fun _ => rfl) (fun hg => SmallK_V) ?_
 refine zR 2 rfl ?_
 refine yP ?_
 refine yP ?_
 refine yP ?_
 refine yO ?_
 refine zN (zU ?_)
 refine W.cond rfl (fun hc0 => ?_) (fun hc0 => ?_)
 ·try simp only [zk] at hc0
  refine zQ (zG ?_)
  refine WL.call en7 rfl rfl qD (CallOp.mkT rfl rfl rfl rfl) (Awake03_C hG w0 _) ?_
  rintro _ R9 E9 hR9 ⟨rfl, hsub9⟩
  refine WL.subE hsub9 ?_
  refine zR 1 rfl (zN (zU (zT (wt ?_))))
  refine WE.retF tab_ok [_] rfl ⟨rfl, trivial⟩ (by first | assumption | exact RLe.refl _ | exact hRz1.trans (hRab.trans (hR4.trans (hRp.trans (hRq.trans (hRk.trans (hRt.trans hR9))))))) ?_
  exact rfl
 ·try simp only [zk] at hc0
  have hrl : rw_.vals.length ≤ 800 := by first | omega | (simp at hc0; omega)
  have htl : text.length ≤ 300 := by first | omega | (simp at hc0; omega)
  refine zK (zU (zQ (zG (zR 1 rfl ?_))))
  refine WL.call en8 rfl rfl qD (CallOp.mkT rfl rfl rfl rfl) (New_C w0 _ hc) ?_
  rintro _ _ _ - ⟨b, rfl, rfl, rfl⟩
  have hz := ha.take 2000
  refine zR 1 rfl (zN (zU (zQ (zG (zR 1 rfl ?_)))))
  refine WL.callAt 0 en10 rfl rfl qD (CallOp.mkT rfl rfl rfl rfl) rfl (KCurve_C w0 hz (most := 9) qD _) ?_
  rintro _ Rz1 _ _ hRz1 ⟨f1, k1, n1, v1, rfl, hf1, hs1, hcp1, rfl, rfl⟩
  have hz := hz.mono hRz1
  have hG := hG.mono hRz1
  have hr := hr.mono hRz1
  refine zA fun b12 => ?_
  first | refine WL.efN rfl rfl (Ef.store0 0 tab_ok rfl rfl rfl rfl rfl rfl rfl rfl ?_) | refine WL.efN rfl rfl (Ef.store0 1 tab_ok rfl rfl rfl rfl rfl rfl rfl rfl ?_) | refine WL.efN rfl rfl (Ef.store0 2 tab_ok rfl rfl rfl rfl rfl rfl rfl rfl ?_) | refine WL.efN rfl rfl (Ef.store0 3 tab_ok rfl rfl rfl rfl rfl rfl rfl rfl ?_) | refine WL.efN rfl rfl (Ef.store0 4 tab_ok rfl rfl rfl rfl rfl rfl rfl rfl ?_) | refine WL.efN rfl rfl (Ef.store0 5 tab_ok rfl rfl rfl rfl rfl rfl rfl rfl ?_) | refine WL.efN rfl rfl (Ef.store0 6 tab_ok rfl rfl rfl rfl rfl rfl rfl rfl ?_)
  refine zN (zU (zQ ?_))
  refine W.freezeBlk 2 rfl ?_
  intro Ra hRa hb5
  refine W.freezeBlk 0 rfl ?_
  intro Rb hRb hb12
  have hRab := hRa.trans hRb
  have hb5 := hRb _ _ hb5
  have hz := hz.mono hRab
  have hG := hG.mono hRab
  have hr := hr.mono hRab
  have hf1 := hf1.mono hRab
  refine zQ ?_
  refine W.regionH _ (ES := []) mixed ?_
  refine' WA.take 0 rfl qK qK qK rfl rfl qD (Yl.load1 tab_ok rfl rfl rfl (fun _ => rfl) ?r2 rfl ?h2) qS qR ?_
  case r2 => (first | exact Rd.ro qU | exact Rd.blk 0 rfl | exact Rd.blk 1 rfl | exact Rd.blk 2 rfl | exact Rd.blk 3 rfl | exact Rd.blk 4 rfl | exact Rd.blk 5 rfl | exact Rd.blk 6 rfl)
  case h2 => rfl
  refine' WA.take 1 rfl qK qK qK rfl rfl qD (Yl.load1 tab_ok rfl rfl rfl (fun _ => rfl) ?r3 rfl ?h3) qS qR ?_
  case r3 => (first | exact Rd.ro qU | exact Rd.blk 0 rfl | exact Rd.blk 1 rfl | exact Rd.blk 2 rfl | exact Rd.blk 3 rfl | exact Rd.blk 4 rfl | exact Rd.blk 5 rfl | exact Rd.blk 6 rfl)
  case h3 => rfl
  refine tP 2 ?_
  refine' WA.take 3 rfl qK qK qK rfl rfl qD (Yl.load1 tab_ok rfl rfl rfl (fun _ => rfl) ?r4 rfl ?h4) qS qR ?_
  case r4 => (first | exact Rd.ro qU | exact Rd.blk 0 rfl | exact Rd.blk 1 rfl | exact Rd.blk 2 rfl | exact Rd.blk 3 rfl | exact Rd.blk 4 rfl | exact Rd.blk 5 rfl | exact Rd.blk 6 rfl)
  case h4 => rfl
  refine tP 7 ?_
  refine WA.callAt 0 4 rfl qK en15 rfl rfl qD (CallOp.mkT rfl rfl rfl rfl) rfl (Bent_C w0 hz hs1.valid hf1 _) ?_
  rintro _ R4 _ _ hR4 ⟨f4, k4, n4, v4, rfl, hf4, hl4, hcp4, rfl, rfl⟩
  have hz := hz.mono hR4
  have hG := hG.mono hR4
  have hr := hr.mono hR4
  have hf1 := hf1.mono hR4
  refine ⟨hR4, qS, ?_⟩
  refine WA.eff 5 rfl qK rfl rfl qD (Ef.buildSliceD (enc := encC) (parts := [.tmp 45, .tmp 46, .tmp 49]) [(⟨ra, rc, rw_⟩ : CvS), ⟨f1, k1, v1⟩, ⟨f4, k4, v4⟩] tab_ok rfl rfl rfl rfl rfl rfl rfl rfl qD qD (fun a50 => ?_))
  refine ⟨qR, qS, ?_⟩
  refine tP 6 ?_
  refine WA.done qK ?_
  refine WE.freeze (enc := encC) (xs := [(⟨ra, rc, rw_⟩ : CvS), ⟨f1, k1, v1⟩, ⟨f4, k4, v4⟩]) 0 rfl ?_
  intro Rp hRp htx0
  have hz := hz.mono hRp
  have hG := hG.mono hRp
  have hr := hr.mono hRp
  have hf1 := hf1.mono hRp
  have hf4 := hf4.mono hRp
  have y1 := valid_range hs1.valid
  have htx : ∀ x ∈ ([(⟨ra, rc, rw_⟩ : CvS), ⟨f1, k1, v1⟩, ⟨f4, k4, v4⟩] : List CvS), RS Rp 1 encI x.a x.cv.vals ∧ x.cv.vals.length ≤ 1000 := by
   simp only [List.mem_cons, List.not_mem_nil, or_false, forall_eq_or_imp, forall_eq]
   exact ⟨⟨hr, by omega⟩, ⟨hf1, by omega⟩, ⟨hf4, by omega⟩⟩
  have htn : ([(⟨ra, rc, rw_⟩ : CvS), ⟨f1, k1, v1⟩, ⟨f4, k4, v4⟩] : List CvS).length = 3 := rfl
  have hb12p := hRp _ _ (hR4 _ _ hb12)
  generalize ([(⟨ra, rc, rw_⟩ : CvS), ⟨f1, k1, v1⟩, ⟨f4, k4, v4⟩] : List CvS) = tx at htx0 htx htn ⊢
  refine zU (zB ?_)
  refine W.loopK (β := Nat) (fun k => k ≤ tx.length) (fun k => [(52, true, .int .i64 (k : Int))]) [1, 3, 4, 11, 12, 50, 51] [_, _, _, _, _, _, _] [] _ rfl (fun k => []) (fun k => tx.length - k) (0) (Nat.zero_le _) ⟨rfl, rfl, rfl, rfl, rfl, rfl, rfl, rfl, rfl⟩ qS ?_
  intro k hst
  dsimp only [zipE, setAll, List.cons_append, List.nil_append, List.set_cons_zero, List.set_cons_succ] at hst ⊢
  
  refine zQ (zG (zR 1 rfl (zN (zU (zQ ?_)))))
  refine W.condD rfl (fun hc1 => ?_) (fun hc1 => ?_)
  ·try dsimp only at hc1
   have hkl : k < tx.length := by omega
   have hX := htx _ (nth_mem hkl)
   have htx1 := RS.rdD (R := Rp) (E := []) htx0 hkl
   generalize hxx : nth tx k = X at hX htx1
   refine zK (zU (zQ (zB (zQ (zG ?_)))))
   refine WG.y rfl rfl qD (Yl.indexN tab_ok rfl rfl rfl rfl rfl rfl (fun _ => rfl) qN qH) ?_
   refine' WG.y rfl rfl qD (Yl.load1 tab_ok rfl rfl rfl (fun _ => rfl) ?r5 rfl ?h5) ?_
   case r5 => exact RS.rdD htx0 qO
   case h5 => rfl
   rw [hxx]
   refine zA fun b14 => ?_
   first | refine WL.efN rfl rfl (Ef.store0 0 tab_ok rfl rfl rfl rfl rfl rfl rfl rfl ?_) | refine WL.efN rfl rfl (Ef.store0 1 tab_ok rfl rfl rfl rfl rfl rfl rfl rfl ?_) | refine WL.efN rfl rfl (Ef.store0 2 tab_ok rfl rfl rfl rfl rfl rfl rfl rfl ?_) | refine WL.efN rfl rfl (Ef.store0 3 tab_ok rfl rfl rfl rfl rfl rfl rfl rfl ?_) | refine WL.efN rfl rfl (Ef.store0 4 tab_ok rfl rfl rfl rfl rfl rfl rfl rfl ?_) | refine WL.efN rfl rfl (Ef.store0 5 tab_ok rfl rfl rfl rfl rfl rfl rfl rfl ?_) | refine WL.efN rfl rfl (Ef.store0 6 tab_ok rfl rfl rfl rfl rfl rfl rfl rfl ?_)
   refine zN (zU (zQ (zG ?_)))
   refine' WG.y rfl rfl qD (Yl.load1 tab_ok rfl rfl rfl (fun _ => rfl) ?r6 rfl ?h6) ?_
   case r6 => (first | exact Rd.ro qU | exact Rd.blk 0 rfl | exact Rd.blk 1 rfl | exact Rd.blk 2 rfl | exact Rd.blk 3 rfl | exact Rd.blk 4 rfl | exact Rd.blk 5 rfl | exact Rd.blk 6 rfl)
   case h6 => rfl
   refine WG.callV en16 rfl rfl qD (CallOp.mk' rfl rfl rfl rfl) (fun _ => rfl) (fun hg => Fmt03_V (fc := X.cap) (c := X.cv) hG hX.1 qO) ?_
   refine zR 5 rfl (zN (zU (zQ (zG ?_))))
   refine' WG.y rfl rfl qD (Yl.load1 tab_ok rfl rfl rfl (fun _ => rfl) ?r7 rfl ?h7) ?_
   case r7 => (first | exact Rd.ro qU | exact Rd.blk 0 rfl | exact Rd.blk 1 rfl | exact Rd.blk 2 rfl | exact Rd.blk 3 rfl | exact Rd.blk 4 rfl | exact Rd.blk 5 rfl | exact Rd.blk 6 rfl)
   case h7 => rfl
   refine WG.callV en9 rfl rfl qD (CallOp.mk' rfl rfl rfl rfl) (fun _ => rfl) (fun hg => RFmt03_V (fc := X.cap) (c := X.cv) hX.1) ?_
   refine zR 5 rfl (zN (zU (zQ (zG (zR 2 rfl ?_)))))
   refine WG.y rfl rfl qD (Yl.neS rfl rfl rfl (fun _ => rfl)) ?_
   refine zR 1 rfl ?_
   refine yP ?_
   refine yP ?_
   refine yP ?_
   refine yO ?_
   refine zN (zU ?_)
   refine W.cond rfl (fun hc2 => ?_) (fun hc2 => ?_)
   ·try simp only [zk] at hc2
    first | (simp at hc2; done) | exact absurd hc2 (by decide)
   ·try simp only [zk] at hc2
    refine zK (zL (zU (zG ?_)))
    refine yA ?_
    refine zR 1 rfl (zN ?_)
    refine WE.again (k + 1) (by (try dsimp only); omega) (by (try dsimp only); omega) ⟨rfl, rfl, rfl, rfl, rfl, rfl, rfl, rfl, rfl⟩ (RLe.refl _) qS
  ·try dsimp only at hc1
   refine zX ?_
   refine wx (wx (zY (zU (zQ (zG ?_)))))
   refine' WG.y rfl rfl qD (Yl.load1 tab_ok rfl rfl rfl (fun _ => rfl) ?r8 rfl ?h8) ?_
   case r8 => exact Rd.ro hb12p
   case h8 => rfl
   refine WG.callV (v := .tuple #[.string (str (formatR v1).1), .int .i64 (formatR v1).2]) en9 rfl rfl qD (CallOp.mk' rfl rfl rfl rfl) (fun _ => rfl) (fun hg => RFmt03_V hf1) ?_
   refine zR 1 rfl ?_
   have hwl := fmtR_len v1
   generalize (formatR v1).1 = wh at hwl ⊢
   have hws := str_size wh
   refine zR 4 rfl (zN (zU (zQ (zG (zR 1 rfl ?_)))))
   refine WL.ef rfl rfl qD (Ef.bytesOf tab_ok rfl rfl rfl rfl rfl rfl rfl rfl (fun b31 c31 m31 => ?_))
   refine zR 1 rfl (zN (zU ?_))
   refine W.seqCut (β := List UInt8) (fun st => st.length = wh.length) (fun st => [(1, true, .string (str text)), (11, true, .pointer (some ⟨b, 0, none⟩)), (19, true, .string (str wh)), (21, true, .slice (some ⟨b31, 0, none⟩) wh.length c31)]) (fun _ => Rp) (fun st => [byB b31 5 st m31, srcE b a c (xs.take 2000) n4]) ?_ ?_
   ·
    intro st hst
    have hsl : st.length = wh.length := hst
    refine zQ (zQ ?_)
    refine W.regionH _ (ES := [byB b31 5 st m31]) mixed ?_
    refine tP 0 ?_
    refine tP 1 ?_
    refine tP 2 ?_
    refine WA.take 3 rfl qK qK qK rfl rfl qD (Yl.bytesB (l := st) 0 tab_ok rfl rfl rfl rfl rfl rfl rfl rfl rfl qO (fun _ => rfl)) qS qR ?_
    refine tP 4 ?_
    refine WA.take 5 rfl (by kernel_rfl) (by kernel_rfl) (by kernel_rfl) rfl rfl (by decide) (Yl.catS rfl rfl rfl (fun _ => rfl) (by intro _; (simp only [List.length_append, List.length_cons, List.length_nil]; omega))) qS (by first | exact RLe.refl _ | assumption) ?_
    refine tP 6 ?_
    refine WA.take 7 rfl (by kernel_rfl) (by kernel_rfl) (by kernel_rfl) rfl rfl (by decide) (Yl.catS rfl rfl rfl (fun _ => rfl) (by intro _; (simp only [List.length_append, List.length_cons, List.length_nil]; omega))) qS (by first | exact RLe.refl _ | assumption) ?_
    refine tP 8 ?_
    refine tP 9 ?_
    refine tP 10 ?_
    refine tP 11 ?_
    refine tA 12 ?_
    refine tP 15 ?_
    refine WA.take 16 rfl (by kernel_rfl) (by kernel_rfl) (by kernel_rfl) rfl rfl (by decide) (Yl.catS rfl rfl rfl (fun _ => rfl) (by intro _; (simp only [List.length_append, List.length_cons, List.length_nil]; omega))) qS (by first | exact RLe.refl _ | assumption) ?_
    refine tP 19 ?_
    refine WA.callAt 1 13 rfl qK en12 rfl rfl qD (CallOp.mkT rfl rfl rfl rfl) rfl (N_C w0 hz (by constructor <;> omega) _) ?_
    rintro _ _ _ _ - ⟨rfl, rfl, rfl, rfl⟩
    obtain ⟨m, hm, hml⟩ : ∃ m : Nat, mod (nth (xs.take 2000) n4) ((str wh).size + 1 : Int) = (m : Int) ∧ m ≤ wh.length := by
     have := mod_range (nth (xs.take 2000) n4) (show (1 : Int) ≤ ((str wh).size + 1 : Int) by omega)
     exact ⟨(mod (nth (xs.take 2000) n4) ((str wh).size + 1 : Int)).toNat, by omega, by omega⟩
    rw [hm]
    refine ⟨RLe.refl _, qS, ?_⟩
    refine WA.take 14 rfl qK qK qK rfl rfl qD (Yl.sliceSH tab_ok rfl rfl rfl rfl rfl (fun _ => rfl) (by intro _; (constructor <;> omega))) qS qR ?_
    refine WA.eff 17 rfl qK rfl rfl qD (Ef.buildSliceD (enc := encT) (parts := [.tmp 92, .tmp 93, .tmp 95, .tmp 97, .tmp 99, .tmp 106, .tmp 108, .const (.string ⟨#[49, 48, 55, 51, 55, 52, 49, 56, 50, 53, 32, 112, 101, 114, 32, 49, 32, 105, 110, 99, 32, 48]⟩), .const (.string ⟨#[48, 48, 32, 112, 101, 114, 32, 49, 32, 105, 110, 99, 32, 48]⟩), .const (.string ⟨#[112, 101, 114, 32, 49, 32, 105, 110, 99, 32, 48]⟩)]) [text, wh, st, wh ++ [32], wh ++ [32, 49], wh.take m, 48 :: 32 :: wh, [49, 48, 55, 51, 55, 52, 49, 56, 50, 53, 32, 112, 101, 114, 32, 49, 32, 105, 110, 99, 32, 48], [48, 48, 32, 112, 101, 114, 32, 49, 32, 105, 110, 99, 32, 48], [112, 101, 114, 32, 49, 32, 105, 110, 99, 32, 48]] tab_ok rfl rfl rfl rfl rfl rfl rfl rfl qD qD (fun a109 => ?_))
    refine ⟨qR, qS, ?_⟩
    refine tP 18 ?_
    refine WA.done qK ?_
    refine WE.freeze (enc := encT) (xs := [text, wh, st, wh ++ [32], wh ++ [32, 49], wh.take m, 48 :: 32 :: wh, [49, 48, 55, 51, 55, 52, 49, 56, 50, 53, 32, 112, 101, 114, 32, 49, 32, 105, 110, 99, 32, 48], [48, 48, 32, 112, 101, 114, 32, 49, 32, 105, 110, 99, 32, 48], [112, 101, 114, 32, 49, 32, 105, 110, 99, 32, 48]]) 0 rfl ?_
    intro Rq hRq hty
    have hty2 : ∀ t ∈ ([text, wh, st, wh ++ [32], wh ++ [32, 49], wh.take m, 48 :: 32 :: wh, [49, 48, 55, 51, 55, 52, 49, 56, 50, 53, 32, 112, 101, 114, 32, 49, 32, 105, 110, 99, 32, 48], [48, 48, 32, 112, 101, 114, 32, 49, 32, 105, 110, 99, 32, 48], [112, 101, 114, 32, 49, 32, 105, 110, 99, 32, 48]] : List (List UInt8)), t.length ≤ 4100 := by
     simp only [List.mem_cons, List.not_mem_nil, or_false, forall_eq_or_imp, forall_eq]
     refine ⟨by omega, by omega, by omega, by rw [List.length_append]; show _ + 1 ≤ _; omega, by rw [List.length_append]; show _ + 2 ≤ _; omega, by rw [List.length_take]; omega, by simp only [List.length_cons]; omega, by decide, by decide, by decide⟩
    have htn2 : ([text, wh, st, wh ++ [32], wh ++ [32, 49], wh.take m, 48 :: 32 :: wh, [49, 48, 55, 51, 55, 52, 49, 56, 50, 53, 32, 112, 101, 114, 32, 49, 32, 105, 110, 99, 32, 48], [48, 48, 32, 112, 101, 114, 32, 49, 32, 105, 110, 99, 32, 48], [112, 101, 114, 32, 49, 32, 105, 110, 99, 32, 48]] : List (List UInt8)).length = 10 := rfl
    generalize ([text, wh, st, wh ++ [32], wh ++ [32, 49], wh.take m, 48 :: 32 :: wh, [49, 48, 55, 51, 55, 52, 49, 56, 50, 53, 32, 112, 101, 114, 32, 49, 32, 105, 110, 99, 32, 48], [48, 48, 32, 112, 101, 114, 32, 49, 32, 105, 110, 99, 32, 48], [112, 101, 114, 32, 49, 32, 105, 110, 99, 32, 48]] : List (List UInt8)) = ty at hty hty2 htn2 ⊢
    have hG := hG.mono hRq
    refine zU (zB ?_)
    refine W.loopR (β := Nat × Ro) (fun (j, Rk) => j ≤ ty.length ∧ RLe Rq Rk) (fun (j, Rk) => [(111, true, .int .i64 (j : Int))]) [1, 109, 110] [_, _, _] [] _ rfl (fun (j, Rk) => []) (fun (j, Rk) => Rk) (fun (j, Rk) => ty.length - j) ((0, Rq)) (⟨Nat.zero_le _, RLe.refl _⟩) ⟨rfl, rfl, rfl, rfl, rfl⟩ (RLe.refl _) qS ?_
    intro zz hst
    obtain ⟨j, Rk⟩ := zz
    dsimp only [zipE, setAll, List.cons_append, List.nil_append, List.set_cons_zero, List.set_cons_succ] at hst ⊢
    obtain ⟨hj, hRk⟩ := hst
    have hty := hty.mono hRk
    have hG := hG.mono hRk
    refine zQ (zG (zR 1 rfl (zN (zU (zQ ?_)))))
    refine W.condD rfl (fun hc3 => ?_) (fun hc3 => ?_)
    ·try dsimp only at hc3
     have hjl : j < ty.length := by omega
     have htj := hty2 _ (nth_mem hjl)
     have hsj := str_size (nth ty j)
     refine zK (zU (zQ (zB (zQ (zG ?_)))))
     refine WG.y rfl rfl qD (Yl.indexN tab_ok rfl rfl rfl rfl rfl rfl (fun _ => rfl) qN qH) ?_
     refine' WG.y rfl rfl qD (Yl.load1 tab_ok rfl rfl rfl (fun _ => rfl) ?r9 rfl ?h9) ?_
     case r9 => exact RS.rdD hty qO
     case h9 => rfl
     refine zR 1 rfl (zN (zU (zQ (zG (zR 1 rfl ?_)))))
     refine WL.call en13 rfl rfl qD (CallOp.mkT rfl rfl rfl rfl) (Parse03_C (s := nth ty j) hG qO w0 _) ?_
     rintro _ R5 E1 hR5 ⟨g1, j1, rfl, hg1, _, hsb1⟩
     refine WL.subE hsb1 ?_
     have hG := hG.mono hR5
     refine zR 4 rfl ?_
     refine zA fun b24 => ?_
     first | refine WL.efN rfl rfl (Ef.store0 0 tab_ok rfl rfl rfl rfl rfl rfl rfl rfl ?_) | refine WL.efN rfl rfl (Ef.store0 1 tab_ok rfl rfl rfl rfl rfl rfl rfl rfl ?_) | refine WL.efN rfl rfl (Ef.store0 2 tab_ok rfl rfl rfl rfl rfl rfl rfl rfl ?_) | refine WL.efN rfl rfl (Ef.store0 3 tab_ok rfl rfl rfl rfl rfl rfl rfl rfl ?_) | refine WL.efN rfl rfl (Ef.store0 4 tab_ok rfl rfl rfl rfl rfl rfl rfl rfl ?_) | refine WL.efN rfl rfl (Ef.store0 5 tab_ok rfl rfl rfl rfl rfl rfl rfl rfl ?_) | refine WL.efN rfl rfl (Ef.store0 6 tab_ok rfl rfl rfl rfl rfl rfl rfl rfl ?_)
     refine zR 2 rfl (zN (zU (zQ (zG (zR 1 rfl ?_)))))
     refine WL.call en17 rfl rfl qD (CallOp.mkT rfl rfl rfl rfl) (RParse03_C (s := nth ty j) qO w0 _) ?_
     rintro _ R6 E2 hR6 ⟨g2, j2, rfl, hg2, _, hsb2⟩
     refine WL.subE hsb2 ?_
     have hG := hG.mono hR6
     have hg1 := hg1.mono hR6
     generalize parseR (nth ty j) = q at hg1 hg2 ⊢
     refine zR 4 rfl ?_
     refine zA fun b27 => ?_
     first | refine WL.efN rfl rfl (Ef.store0 0 tab_ok rfl rfl rfl rfl rfl rfl rfl rfl ?_) | refine WL.efN rfl rfl (Ef.store0 1 tab_ok rfl rfl rfl rfl rfl rfl rfl rfl ?_) | refine WL.efN rfl rfl (Ef.store0 2 tab_ok rfl rfl rfl rfl rfl rfl rfl rfl ?_) | refine WL.efN rfl rfl (Ef.store0 3 tab_ok rfl rfl rfl rfl rfl rfl rfl rfl ?_) | refine WL.efN rfl rfl (Ef.store0 4 tab_ok rfl rfl rfl rfl rfl rfl rfl rfl ?_) | refine WL.efN rfl rfl (Ef.store0 5 tab_ok rfl rfl rfl rfl rfl rfl rfl rfl ?_) | refine WL.efN rfl rfl (Ef.store0 6 tab_ok rfl rfl rfl rfl rfl rfl rfl rfl ?_)
     refine zR 2 rfl (zN (zU (zQ (zG ?_))))
     refine' WG.y rfl rfl qD (Yl.load1 tab_ok rfl rfl rfl (fun _ => rfl) ?r10 rfl ?h10) ?_
     case r10 => (first | exact Rd.ro qU | exact Rd.blk 0 rfl | exact Rd.blk 1 rfl | exact Rd.blk 2 rfl | exact Rd.blk 3 rfl | exact Rd.blk 4 rfl | exact Rd.blk 5 rfl | exact Rd.blk 6 rfl)
     case h10 => rfl
     refine' WG.y rfl rfl qD (Yl.load1 tab_ok rfl rfl rfl (fun _ => rfl) ?r11 rfl ?h11) ?_
     case r11 => (first | exact Rd.ro qU | exact Rd.blk 0 rfl | exact Rd.blk 1 rfl | exact Rd.blk 2 rfl | exact Rd.blk 3 rfl | exact Rd.blk 4 rfl | exact Rd.blk 5 rfl | exact Rd.blk 6 rfl)
     case h11 => rfl
     refine WG.callV (v := .bool true) en18 rfl rfl (by decide) (CallOp.mk' rfl rfl rfl rfl) (fun _ => rfl) (fun hg => by have h := Same02_V (ca := j1) (cb := j2) (p1 := q.1.per) (i1 := q.1.inc) (p2 := q.1.per) (i2 := q.1.inc) hg1 hg2; rw [decide_eq_true ⟨rfl, rfl, rfl⟩] at h; exact h) ?_
     refine zR 2 rfl ?_
     refine yP ?_
     refine yP ?_
     refine yP ?_
     refine yO ?_
     refine zR 1 rfl ?_
     refine yP ?_
     refine yP ?_
     refine yP ?_
     refine yO ?_
     refine zN (zU ?_)
     refine W.cond rfl (fun hc4 => ?_) (fun hc4 => ?_)
     ·try simp only [zk] at hc4
      first | (simp at hc4; done) | exact absurd hc4 (by decide)
     ·try simp only [zk] at hc4
      refine zK (zL (zU (zG ?_)))
      refine yA ?_
      refine zR 1 rfl (zN ?_)
      refine WE.again ((j + 1, R6)) (⟨by (try dsimp only); omega, hRk.trans (hR5.trans hR6)⟩) (by (try dsimp only); omega) ⟨rfl, rfl, rfl, rfl, rfl⟩ (RLe.refl _) qS
    ·try dsimp only at hc3
     refine zX ?_
     refine wx (wx (zY (zU (zQ (zQ (zG ?_))))))
     refine WL.call en19 rfl rfl qD (CallOp.mkT rfl rfl rfl rfl) (Names03_C w0 _) ?_
     rintro _ _ _ - ⟨a142, rfl, rfl, rfl⟩
     refine zR 1 rfl ?_
     refine WL.ef rfl rfl qD (Ef.buildSliceD (enc := encT) (parts := [.tmp 143]) [text] tab_ok rfl rfl rfl rfl rfl rfl rfl rfl qD qD (fun a144 => ?_))
     refine WL.ef rfl rfl qD (Ef.appendD (enc := encT) 1 0 tab_ok rfl rfl rfl rfl rfl rfl rfl rfl rfl rfl rfl (fun _ _ => rfl) (by show (nmL.length + 1) * _ ≤ _; decide) (by show nmL.length + 1 ≤ _; decide) (fun a145 c145 ha145 => ?_))
     refine WL.freeze (enc := encT) (xs := nmL ++ [text]) 1 rfl ?_
     intro Rt hRt htz
     have htz2 : ∀ t ∈ nmL ++ [text], t.length ≤ 300 := fun t ht => by
      rcases List.mem_append.1 ht with h | h
      ·have := nm_len t h; omega
      ·rw [List.mem_singleton.1 h]; omega
     have htn3 : (nmL ++ [text]).length = 10 := by rw [List.length_append]; rfl
     generalize nmL ++ [text] = tz at htz htz2 htn3 ⊢
     have hG := hG.mono hRt
     refine zR 2 rfl (zN (zU (zB ?_)))
     refine W.loopK (β := Nat) (fun l => l ≤ tz.length) (fun l => [(147, true, .int .i64 (l : Int))]) [145, 146] [_, _] [] _ rfl (fun l => []) (fun l => tz.length - l) (0) (Nat.zero_le _) ⟨rfl, rfl, rfl, rfl⟩ qS ?_
     intro l hst
     dsimp only [zipE, setAll, List.cons_append, List.nil_append, List.set_cons_zero, List.set_cons_succ] at hst ⊢
     
     refine zQ (zG (zR 1 rfl (zN (zU (zQ ?_)))))
     refine W.condD rfl (fun hc5 => ?_) (fun hc5 => ?_)
     ·try dsimp only at hc5
      have hll : l < tz.length := by omega
      have htl2 := htz2 _ (nth_mem hll)
      have hsl2 := str_size (nth tz l)
      refine zK (zU (zQ (zB (zQ (zG ?_)))))
      refine WG.y rfl rfl qD (Yl.indexN tab_ok rfl rfl rfl rfl rfl rfl (fun _ => rfl) qN qH) ?_
      refine' WG.y rfl rfl qD (Yl.load1 tab_ok rfl rfl rfl (fun _ => rfl) ?r12 rfl ?h12) ?_
      case r12 => exact RS.rdD htz qO
      case h12 => rfl
      refine zR 1 rfl (zN (zU (zQ (zG (zR 1 rfl ?_)))))
      refine WG.callV en20 rfl rfl qD (CallOp.mk' rfl rfl rfl rfl) (fun _ => rfl) (fun hg => IsName03_V (s := nth tz l) qO) ?_
      refine zR 1 rfl ?_
      refine WG.callV en21 rfl rfl qD (CallOp.mk' rfl rfl rfl rfl) (fun _ => rfl) (fun hg => RIsName03_V (s := nth tz l) qO) ?_
      refine WG.y rfl rfl qD (Yl.neB tab_ok rfl rfl rfl rfl rfl (fun _ => rfl)) ?_
      refine zN (zU ?_)
      refine W.cond rfl (fun hc6 => ?_) (fun hc6 => ?_)
      ·try simp only [zk] at hc6
       first | (simp at hc6; done) | exact absurd hc6 (by decide)
      ·try simp only [zk] at hc6
       refine zK (zL (zU (zG ?_)))
       refine yA ?_
       refine zR 1 rfl (zN ?_)
       refine WE.again (l + 1) (by (try dsimp only); omega) (by (try dsimp only); omega) ⟨rfl, rfl, rfl, rfl⟩ (RLe.refl _) qS
     ·try dsimp only at hc5
      refine zX ?_
      refine wx (wx (zY (zU (zQ (zG ?_)))))
      refine WL.call en7 rfl rfl qD (CallOp.mkT rfl rfl rfl rfl) (Awake03_C hG w0 _) ?_
      rintro _ R9 E9 hR9 ⟨rfl, hsub9⟩
      refine WL.subE hsub9 ?_
      refine zR 1 rfl (zN (zU (zT ?_)))
      refine WE.retF tab_ok [_] rfl ⟨rfl, trivial⟩ (by first | assumption | exact RLe.refl _ | exact hRz1.trans (hRab.trans (hR4.trans (hRp.trans (hRq.trans (hRk.trans (hRt.trans hR9))))))) ?_
      exact rfl
   ·
    refine zQ (zG (zR 3 rfl (zN (zU ?_))))
    refine W.condD rfl (fun hc7 => ?_) (fun hc7 => ?_)
    ·try dsimp only at hc7
     obtain ⟨i, hi, hil⟩ : ∃ i : Nat, mod z (wh.length : Int) = (i : Int) ∧ i < wh.length := by
      have := mod_range z (show (1 : Int) ≤ (wh.length : Int) by omega)
      exact ⟨(mod z (wh.length : Int)).toNat, by omega, by omega⟩
     refine zG (zR 4 rfl ?_)
     refine WG.callV (v := .int .i64 (i : Int)) en11 rfl rfl qD (CallOp.mk' rfl rfl rfl rfl) (fun _ => rfl) (fun hg => by
      have h := Mod_V (R := Rp) (x := z) (n := (wh.length : Int)) (by constructor <;> omega)
      rw [hi] at h
      exact h) ?_
     refine zR 1 rfl ?_
     refine WG.y rfl rfl qD (Yl.indexN tab_ok rfl rfl rfl rfl rfl rfl (fun _ => rfl) qN qH) ?_
     refine WL.efN rfl rfl (Ef.storeB (i := i) (c := v) (l := wh) 0 tab_ok rfl rfl rfl rfl rfl rfl qO ?_)
     refine zN ?_
     refine WE.cut (wh.set i v) (by rw [List.length_set]) ⟨rfl, rfl, rfl, rfl, rfl⟩ (RLe.refl _) qS
    ·try dsimp only at hc7
     refine zK ?_
     refine WE.cut wh rfl ⟨rfl, rfl, rfl, rfl, rfl⟩ (RLe.refl _) qS

end Go.Proofs.YtejpkjapmhpmpaaDoor

/- Any flat data: a law whose road reads package-level variables: all that exists when the call begins is read only; the builder that hands on the list of the variables and the shape of the world. No condition. -/
namespace Go.Proofs.YtejpkjapmhpmpaaDoor.K
open Go Go.RowKit

theorem ro_cell {W : World} {b : Nat} {v : Value} (h : W.cell? ⟨b, 0, none⟩ = some v) : ∃ rest, roOf W b = some (v :: rest) := by
 unfold World.cell? at h
 unfold roOf
 cases hh : W.heap[b]? with
 | none => simp [hh] at h
 | some o =>
  cases o with
  | cells arr T fz =>
   simp only [hh] at h ⊢
   obtain ⟨l⟩ := arr
   cases l with
   | nil => simp at h
   | cons x l => simp at h; subst h; exact ⟨l, rfl⟩
  | _ => simp [hh] at h
theorem ro_var {P : Program} {W : World} {name : String} {g : Nat} {cs : Array Value} (hg : P.globalNamed name = some g) (h : W.var? P name = some cs) : roOf W g = some cs.toList := by
 unfold World.var? at h
 simp only [hg, Option.bind_some] at h
 unfold roOf
 split at h
 ·simp only [Option.some.injEq] at h; subst h; simp [*]
 ·cases h

theorem returnsInHanded_laidB {H : Type} {enc : TypeId × Value → H} {a : Assume} {C : Checked} {os : Os} {f : FuncId} {fn : Func} {s : ChangeSpec} {conds : List PathCond} {apart fresh handsOn again : Bool} {X : World → Array Value → Prop}
  (hX : ∀ (w w' : World) (args : Array Value), w.heap = w'.heap → X w args → X w' args)
  (own : ownKnob C.prog.godebug = none) (started : os.Started) (noInit : C.prog.inits.idxOf? f = none) (hfn : C.prog.funcs[f]? = some fn)
  (witness : ∃ (w : World) (tape : Tape) (i : Input), w.os = os ∧ (w.forCall tape i).Shaped C.prog ∧ i.vars = [] ∧ Input.okWide C.prog (w.forCall tape i) .any w.heap.size f i ∧
   ((s.pre enc C.prog fn conds apart (w.forCall tape i).memory i.args ∧ X (w.forCall tape i).memory i.args) ∧ sizedMet enc C.prog fn (OpenSpec.ofChange s) apart (w.forCall tape i).memory i.args) ∧ a.holds C.prog (lone (Frame.enter C.prog f i.args .normal) [] (w.forCall tape i)))
  (contract : ∀ (W : World) (base : Nat) (args : Array Value) (ds gs : List (DataW H)) (before : List MemPlace),
   (∀ (j : Nat) t v, fn.params[j]? = some t → args[j]? = some v → Value.okWide C.prog W .any base t v) →
   DataW.Whole enc C.prog fn.params.toList s.vars apart W args.toList ds gs before →
   conds.all (PathCond.test C.prog ⟨fn.params.toList, ds, s.plain.varTypes C.prog, gs⟩) = true →
   X W args → W.ShapedOpen C.prog →
   Calls C.prog f args W fun e W' => ∃ v, e = .returned v ∧ s.post enc C.prog fn apart fresh handsOn again W args v W') :
  ReturnsInHanded a C os f .any (fun w args => (s.pre enc C.prog fn conds apart w args ∧ X w args) ∧ sizedMet enc C.prog fn (OpenSpec.ofChange s) apart w args) (s.post enc C.prog fn apart fresh handsOn again) := by
 refine returnsInHanded_of_calls own started noInit witness ?_
 intro w tape i _ hsh _ hok hpre hholds
 obtain ⟨_, _, _, fn', hfn', _, _, _, _, hval⟩ := hok
 have e : fn' = fn := Option.some.inj (hfn'.symm.trans hfn)
 subst e
 obtain ⟨⟨⟨ds, gs, before, hw, hc⟩, hx⟩, hz⟩ := hpre
 have hw' := DataW.Whole.of_heap (w' := w.forCall tape i) (by rfl) hw
 refine (contract (w.forCall tape i) w.heap.size i.args ds gs before hval hw' hc (hX _ _ _ (by rfl) hx) hsh).mono fun e W' ⟨v, he, hp⟩ => ?_
 subst he
 exact ChangeSpec.post_blind hp
end Go.Proofs.YtejpkjapmhpmpaaDoor.K

/- From the list of the variables to what the walks know of them. No condition. -/
namespace Go.Proofs.YtejpkjapmhpmpaaDoor
open Go Go.RowKit Go.Proofs.YtejpkjapmhpmpaaDoor.K
theorem starE : "*" ++ "errors.errorString" = "*errors.errorString" := by decide
def laidJ : List (String × DataW Unit) := Rows.notationPositionsRow.laid
theorem glob_ofJ {W : World} (hsh : W.ShapedOpen Tryd.prog) (hL : laidMetH Tryd.prog laidJ W) : GlobE (roOf W) := by
 unfold laidJ Rows.notationPositionsRow at hL
 dsimp only at hL
 rw [MakeChecks.laidMetH_plain _ _ _ (by kernel_rfl)] at hL
 have h3 := hL.tail.tail
 have ht : (Rows.laid_internal_strconv_uint64pow10 : DataW Unit) = Lib.tabData .u64 Lib.pow10Tab := by kernel_rfl
 have h3b := h3
 rw [ht] at h3b
 have h4 := Lib.tabIs_of_head (g := 5) (t := 126) (e := 98) (n := 20) (by kernel_rfl) (by kernel_rfl) Tryd.underlying126 Tryd.underlying98 (by kernel_rfl) (by kernel_rfl) h3b
 have h5 := ro_var (P := Tryd.prog) (g := 5) (by kernel_rfl) h4
 have h6 := h3.tail.tail
 have h7 := h6.tail
 have hrow : ∀ u, Tryd.prog.typeName? 3 u = some "*errors.errorString" → u = 132 := fun u hu => typeName_ptr_named (P := Tryd.prog) (nm := "errors.errorString") (by rw [starE]; kernel_rfl) (by kernel_rfl) (by decide) u (by rw [starE]; exact hu)
 obtain ⟨a1, s1, e1, _, _, _⟩ := laid_sentinel (g := 4) (ti := 90) (tp := 132) (te := 134) (ts := 9) h6 (by kernel_rfl) (by kernel_rfl) Tryd.underlying90 hrow Tryd.underlying132 Tryd.underlying134 rfl rfl Tryd.underlying9 (by kernel_rfl) (by kernel_rfl)
 obtain ⟨a2, s2, e2, _, _, _⟩ := laid_sentinel (g := 3) (ti := 90) (tp := 132) (te := 134) (ts := 9) h7 (by kernel_rfl) (by kernel_rfl) Tryd.underlying90 hrow Tryd.underlying132 Tryd.underlying134 rfl rfl Tryd.underlying9 (by kernel_rfl) (by kernel_rfl)
 obtain ⟨m, hm⟩ := Go.Proofs.cell_of_shapedOpen_int (g := 0) (zero := #[.int .i64 0]) (t := 3) hsh (of_decide_eq_true (by kernel_rfl)) (by kernel_rfl) rfl (by kernel_rfl) (by kernel_rfl) Tryd.underlying3
 obtain ⟨rest, hr⟩ := ro_cell hm
 refine ⟨⟨m, rest, hr⟩, ?_, ?_, ?_⟩
 ·rw [h5]
 ·exact ⟨_, _, ro_var (P := Tryd.prog) (g := 3) (by kernel_rfl) e2⟩
 ·exact ⟨_, _, ro_var (P := Tryd.prog) (g := 4) (by kernel_rfl) e1⟩
end Go.Proofs.YtejpkjapmhpmpaaDoor

/- NotationCurves: for every input the law returns true, and the input reads afterwards as it read before; the listed variables of the library start as its text lays them. -/
namespace Go.Proofs.YtejpkjapmhpmpaaDoor
open Go Go.RowKit Go.ChangeShapes Go.WideShapes Go.ChangeAt Go.WideElems Go.Maps Go.Proofs.YtejpkjapmhpmpaaDoor.K Go.Proofs.YtejpkjapmhpmpaaDoor.M
open Go.ChangeMaps (open_string shut_string)
namespace notationCurves
theorem own : ownKnob Tryd.prog.godebug = none := by kernel_rfl
theorem laidOut : laidOutB Tryd.prog = true := by kernel_rfl
theorem readable : (Tryd.f4.params.toList).all (fun t => Tryd.prog.readableRec t && decide (t < Tryd.prog.types.size)) = true := by kernel_rfl
section
variable {H : Type} {enc : TypeId × Value → H}
theorem flat_ints : Flat enc Tryd.prog 3 1 := flat_int Tryd.underlying3
theorem cells_ints : Tryd.prog.cellsOf 3 = 1 := by kernel_rfl
theorem opn_cv : Opn enc Tryd.prog 30 3 encC OkI := opn_curve Tryd.underlying30 (by kernel_rfl) rfl rfl rfl (by kernel_rfl) (by kernel_rfl) rfl rfl rfl Tryd.underlying22 Tryd.underlying3
end
set_option maxRecDepth 100000 in
theorem lifted (os : Os) (started : os.Started) (H : Type) (enc : TypeId × Value → H) :
  ReturnsInHanded {} Tryd.checked os 4 .any (fun w args => (Rows.notationCurvesSpec.pre enc Tryd.prog Tryd.f4 [] false w args ∧ laidMetH Tryd.prog laidJ w) ∧ sizedMet enc Tryd.prog Tryd.f4 (OpenSpec.ofChange Rows.notationCurvesSpec) false w args)
   (Rows.notationCurvesSpec.post enc Tryd.prog Tryd.f4 false true false false) := by
 refine returnsInHanded_laidB (C := Tryd.checked) (X := fun w _ => laidMetH Tryd.prog laidJ w) (fun _ _ _ hh h => h.of_heap hh) own started (by kernel_rfl) Tryd.func4
  (ChangeSpec.witness_shaped (enc := enc) (C := Tryd.checked) (os := os) (X := fun w _ => laidMetH Tryd.prog laidJ w) false (World.laidAll Tryd.prog os laidJ) #[.agg #[.slice none 0 0, .int .i64 0, .int .i64 0], .string ⟨#[]⟩, .slice none 0 0, .int .i64 0, .int .u8 0] 8 (World.laidAll_os _ _ _)
   (World.shaped_of_ZipB (by kernel_rfl) (by kernel_rfl)) (by kernel_rfl) (by kernel_rfl) (by kernel_rfl)
   (by rw [MakeChecks.laidMetH_plain _ _ _ (by kernel_rfl)]; exact laidMet_laidAll _ (by kernel_rfl) (by kernel_rfl))) ?_
 intro W base args ds gs before hval0 hW _ hL hsh
 have hG := glob_ofJ hsh hL
 have hval : ∀ (j : Nat) t v, Tryd.f4.params[j]? = some t → args[j]? = some v → Value.okWide Tryd.prog W .any base t v := hval0
 have hW' := hW
 obtain ⟨p, q, hA0, hV, rfl, _, _⟩ := hW
 have hA : DataW.TrodAll enc Tryd.prog W 0 (fun _ => true) true Tryd.f4.params.toList args.toList ds p := hA0
 have hA1 := hA
 obtain ⟨rfl, rfl⟩ := trodVars_none hV
 simp only [List.append_nil] at hW'
 have hlt : ∀ x ∈ p, x.block < W.heap.size := fun x hx => by simpa using hW'.lt x hx
 have hcarry : ∀ W', Below W.heap.size W W' → DataW.TrodAll enc Tryd.prog W' 0 (fun b => decide (b < W.heap.size)) true Tryd.f4.params.toList args.toList ds p := fun W' hb => carryAll laidOut readable hA1 hb hlt
 clear hA0 hval0 hA1
 rw [Tryd.params4] at hA
 obtain ⟨v0, vs0, d0, ds0, p0, q0, e0, rfl, e20, h0, t0⟩ := trodAll_cons hA
 obtain ⟨v1, vs1, d1, ds1, p1, q1, rfl, rfl, e21, h1, t1⟩ := trodAll_cons t0
 obtain ⟨v2, vs2, d2, ds2, p2, q2, rfl, rfl, e22, h2, t2⟩ := trodAll_cons t1
 obtain ⟨v3, vs3, d3, ds3, p3, q3, rfl, rfl, e23, h3, t3⟩ := trodAll_cons t2
 obtain ⟨v4, vs4, d4, ds4, p4, q4, rfl, rfl, e24, h4, t4⟩ := trodAll_cons t3
 obtain ⟨rfl, rfl, _⟩ := trodAll_nil t4
 have hargs : args = #[v0, v1, v2, v3, v4] := by rw [← Array.toArray_toList (xs := args), e0]
 subst hargs
 obtain ⟨s0, rfl, k0⟩ := opn_cv.top Tryd.underlying30 (hval 0 30 _ rfl rfl) h0
 obtain ⟨s1, rfl, _, _, w1⟩ := open_string Tryd.underlying9 (hval 1 9 _ rfl rfl) h1
 obtain ⟨a2, cp2, zs2, rfl, c2, l2, m2, r2⟩ := open_flat Tryd.underlying22 (by decide) cells_ints flat_ints (hval 2 22 _ rfl rfl) h2
 have g2 : RS (roOf W) 1 encI a2 (zs2.map decI) := RS.ofFlat m2 l2 decI_enc
 have n2 : (zs2.map decI).length = zs2.length := by simp
 rw [← n2] at c2
 obtain ⟨z3, rfl, _, _, w3⟩ := open_int Tryd.underlying3 (hval 3 3 _ rfl rfl) h3
 have r3 : InR z3 := bounds_i64 w3
 obtain ⟨z4, rfl, _, _, w4⟩ := open_int Tryd.underlying5 (hval 4 5 _ rfl rfl) h4
 have r4 := bounds_u8 w4
 have hcall := lift_calls (P := Tryd.prog) (f := 4) (args := [.agg #[.slice s0.a s0.cv.vals.length s0.cap, .int .i64 s0.cv.per, .int .i64 s0.cv.inc], .string s1, .slice a2 (zs2.map decI).length cp2, .int .i64 z3, .int .u8 z4]) (W := W) (by have h := NotationCurves_F (rc := s0.cap) (rw_ := s0.cv) (text := s1.data.toList) (v := UInt8.ofNat z4.toNat) k0.1 g2 r3 hG c2 W; rw [← str_of s1, show ((UInt8.ofNat z4.toNat).toNat : Int) = z4 from by rw [UInt8.toNat_ofNat']; omega] at h; exact h)
 try simp only [List.length_map] at hcall
 refine hcall.mono fun e W' ⟨he, hb⟩ => ?_
 subst he
 exact ⟨_, rfl, ⟨_, _, _, [], _, [], hW', trodAll_mk1 (shut_bool Tryd.underlying4 _), hcarry W' hb, rfl, hb.frame _, fun h => by cases h⟩⟩
end notationCurves
theorem notationCurves_holds : Rows.NotationCurvesSaid :=
 OpenClaim.holds_of_wide 4 Tryd.f4 rfl rfl rfl rfl rfl rfl rfl ⟨rfl, rfl, rfl, rfl, rfl⟩ rfl rfl rfl rfl rfl (by kernel_rfl) Tryd.func4 (by kernel_rfl)
  (of_decide_eq_true (by kernel_rfl)) (by unfold Func.isWrapper; first | (rw [if_pos (by decide +kernel)]; kernel_rfl) | (rw [if_neg (by decide +kernel)]; exact ⟨rfl, rfl⟩))
  (fun os started H enc _ => notationCurves.lifted os started H enc)
theorem notationCurves_card : Rows.NotationCurvesCardSaid :=
 Claim7.holds_tied_plain_at .later [] [.data, .data, .data, .data, .sentinel, .sentinel, .pinned] true (true, "1c2db47946faa8ff8fdf067c73190dad8394cb5bd72c58f991f507bdec60a432") true
  notationCurves_holds (fun _ h => by cases h) (by kernel_rfl) (fun _ h => by cases h) notationCurves_row_tie rfl ⟨rfl, rfl⟩ (by kernel_rfl) rfl
  (fun f fn hf hfn => by
   obtain rfl : f = 4 := Option.some.inj ((show Tryd.prog.funcNamed Tryd.f4.name = some 4 by kernel_rfl).symm.trans hf) |>.symm
   obtain rfl : fn = Tryd.f4 := (Option.some.inj (Tryd.func4.symm.trans hfn)).symm
   exact ⟨by kernel_rfl, fun j t ht => by
    rw [Tryd.params4] at ht
    have hm : t ∈ [30, 9, 22, 3, 5] := by simpa using Array.mem_of_getElem? ht
    have hall : ([30, 9, 22, 3, 5].all fun u => !Tryd.prog.wantsStandIn u) = true := by kernel_rfl
    exact (show Tryd.prog.wantsStandIn t = false by simpa using List.all_eq_true.1 hall t hm)⟩)
  (by kernel_rfl)
end Go.Proofs.YtejpkjapmhpmpaaDoor
