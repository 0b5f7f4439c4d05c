/- NettextPlaces: for every input the law returns true, and the input reads afterwards as it read before; the listed variables of the library start as its text lays them. -/
import Derived.Test.YtmidibkljoaoiaaGreatDoorG4
import Derived.Test.YtmidibkljoaoiaaGreatDoorRows
import Derived.ProofKit
import Derived.SizedLaws
import Derived.Maps.OwnSet
import Derived.WideKeyElems2
import Derived.Carry
import Derived.Deep.Slices
import Derived.OpenShut
import Derived.Handed
import Derived.HandedShaped
import Derived.LaidMore
import Derived.LaidHandle
import Derived.LaidLaws
import Derived.MakeChecks
import Derived.Stop.LaidErr
import Derived.Lib.LaidTab
import Derived.Shelf.Vars
import Derived.Test.YtmidibkljoaoiaaGreatDoorTie
import Derived.Test.YtmidibkljoaoiaaGreatDoorCards
import Derived.SevenTiedAt
import Derived.Stop.Joined
import Derived.Lay
/- Regions that draw their order and write: what is held until the writes of D (ES2) and what is held throughout (ES); what leans on ES2 is waited for by all of D. No condition. -/
namespace Go.Proofs.YtmidibkljoaoiaaGreatDoor.K
open Go Go.RowKit
theorem noD {b : Bool} {p : Prop} (h : b = false) : b = true → p := fun h2 => by rw [h] at h2; cases h2
def noneD (D : List Nat) (listed : Array Bool) : Bool := (List.range listed.size).all fun d => !(D.contains d) || !(listed.getD d true)
theorem noneD_set {D : List Nat} {listed : Array Bool} {i : Nat} (h : D.contains i = false) : noneD D (listed.setIfInBounds i true) = noneD D listed := by
 unfold noneD
 rw [Array.size_setIfInBounds]
 apply Bool.eq_iff_iff.2
 simp only [List.all_eq_true]
 have e : ∀ d, (!(D.contains d) || !((listed.setIfInBounds i true).getD d true)) = (!(D.contains d) || !(listed.getD d true)) := fun d => by
  by_cases hd : i = d
  ·subst hd; rw [h]; rfl
  ·rw [getD_set_ne true hd]
 exact ⟨fun hh d hm => (e d) ▸ hh d hm, fun hh d hm => (e d).symm ▸ hh d hm⟩
section
variable {P : Program} {ops : Array Oper} {Q : Exit → Act → World → Prop} {md : Region.Mode} {S S2 : World → Prop} {D : List Nat}
/-- whatever order is picked: S behind every operation, S2 as long as none of D has come up -/
def wpAnyD (P : Program) (md : Region.Mode) (ops : Array Oper) (Q : Exit → Act → World → Prop) (S S2 : World → Prop) (D : List Nat) : Nat → Array Bool → Act → World → Prop
  | 0, listed, a, w => Region.ready md ops listed = [] ∧ Q .normal a w
  | fuel + 1, listed, a, w =>
    (Region.ready md ops listed = [] → Q .normal a w) ∧
    ∀ i ∈ Region.ready md ops listed, wpOp P ops Q i (fun a' w' => (S w' ∧ (noneD D (listed.setIfInBounds i true) = true → S2 w')) ∧ wpAnyD P md ops Q S S2 D fuel (listed.setIfInBounds i true) a' w') a w
theorem wpAny_of_D : ∀ (fuel : Nat) (listed : Array Bool) (a : Act) (w : World), wpAnyD P md ops Q S S2 D fuel listed a w → wpAny P md ops Q fuel listed a w
 | 0, _, _, _, h => h
 | fuel + 1, _, _, _, h => ⟨h.1, fun i hi => wpOp_mono (fun a' w' h' => wpAny_of_D fuel _ a' w' h'.2) (h.2 i hi)⟩
/-- every operation of D waits for number i -/
def waitsD (md : Region.Mode) (ops : Array Oper) (D : List Nat) (i : Nat) : Bool := D.all fun d => match ops[d]? with | some od => od.after.toList.any fun e => Region.binds md e && Nat.beq e.on i | none => true
theorem waitsD_spec {i d : Nat} {od : Oper} (h : waitsD md ops D i = true) (hd : D.contains d = true) (ho : ops[d]? = some od) : ∃ e ∈ od.after, Region.binds md e = true ∧ e.on = i := by
 unfold waitsD at h
 have h1 := List.all_eq_true.1 h d (by simpa using hd)
 rw [ho] at h1
 simp only [List.any_eq_true, Bool.and_eq_true] at h1
 obtain ⟨e, he, h2, h3⟩ := h1
 exact ⟨e, Array.mem_toList_iff.1 he, h2, Nat.eq_of_beq_eq_true h3⟩
theorem wpAnyD_first {SX : World → Prop} {i : Nat} {oi : Oper} {v : Value} (hi : ops[i]? = some oi) (hsel : ∀ (j : Nat) (o : Oper) cs b, ops[j]? = some o → o.op ≠ .select cs b)
  (hQ : ∀ c a w, Q (.panic c) (a.put oi.dst v) w → Q (.panic c) a w) (hDi : D.contains i = false) :
  ∀ (fuel : Nat) (listed : Array Bool) (a : Act) (w : World),
   (∀ j oj, ops[j]? = some oj → j ≠ i → listed.getD j true = false → (∀ e ∈ oj.after, Region.binds md e = true → e.on ≠ i) → oi.apart ops oj = true) →
   i ∈ Region.ready md ops listed → YieldsIf P ops SX oi v a → S w → (noneD D listed = true → S2 w) →
   ((∀ w, S w → SX w) ∨ ((∀ w, S2 w → SX w) ∧ waitsD md ops D i = true ∧ noneD D listed = true)) →
   wpAnyD P md ops Q S S2 D fuel (listed.setIfInBounds i true) (a.put oi.dst v) w → wpAnyD P md ops Q S S2 D (fuel + 1) listed a w := by
 intro fuel
 induction fuel with
 | zero =>
  intro listed a w _ hr hy hS hS2 hm H
  have hSX : SX w := by
   rcases hm with hm | ⟨hm, _, hn⟩
   ·exact hm w hS
   ·exact hm w (hS2 hn)
  refine ⟨fun h => (by rw [h] at hr; cases hr), fun j hj => ?_⟩
  by_cases hji : j = i
  ·subst hji; exact hy.wpOp hi hSX ⟨⟨hS, fun hn => hS2 (by rw [noneD_set hDi] at hn; exact hn)⟩, H⟩
  ·have := ready_mono hj hji
   rw [H.1] at this
   cases this
 | succ fuel ih =>
  intro listed a w hfree hr hy hS hS2 hm H
  have hSX : SX w := by
   rcases hm with hm | ⟨hm, _, hn⟩
   ·exact hm w hS
   ·exact hm w (hS2 hn)
  refine ⟨fun h => (by rw [h] at hr; cases hr), fun j hj => ?_⟩
  by_cases hji : j = i
  ·subst hji; exact hy.wpOp hi hSX ⟨⟨hS, fun hn => hS2 (by rw [noneD_set hDi] at hn; exact hn)⟩, H⟩
  ·have h1 := H.2 j (ready_mono hj hji)
   obtain ⟨hjun, oj, hoj, hall⟩ := mem_ready.1 hj
   have hnot : ∀ e ∈ oj.after, Region.binds md e = true → e.on ≠ i := fun e he hb heq => by
    have h1 := hall e he hb
    have h0 := (mem_ready.1 hr).1
    rw [heq] at h1
    rcases Nat.lt_or_ge i listed.size with h' | h'
    ·simp [h'] at h0 h1; rw [h0] at h1; cases h1
    ·simp [Array.getElem?_eq_none h'] at h1
   have hm' : (∀ w, S w → SX w) ∨ ((∀ w, S2 w → SX w) ∧ waitsD md ops D i = true ∧ noneD D (listed.setIfInBounds j true) = true) := by
    rcases hm with hm | ⟨g1, g2, g3⟩
    ·exact .inl hm
    ·refine .inr ⟨g1, g2, ?_⟩
     have hdj : D.contains j = false := by
      cases hdj : D.contains j with
      | false => rfl
      | true =>
       obtain ⟨e, he, hb, heq⟩ := waitsD_spec g2 hdj hoj
       exact absurd heq (hnot e he hb)
     rw [noneD_set hdj]; exact g3
   have h2 := wpOp_putIf hoj (hfree j oj hoj hji hjun hnot) (fun cs b => hsel i oi cs b hi) (fun cs b => hsel j oj cs b hoj) hQ hy h1
   have hfree' : ∀ k ok, ops[k]? = some ok → k ≠ i → (listed.setIfInBounds j true).getD k true = false →
     (∀ e ∈ ok.after, Region.binds md e = true → e.on ≠ i) → oi.apart ops ok = true := fun k ok hk hki hun hno => by
    refine hfree k ok hk hki ?_ hno
    by_cases hjk : j = k
    ·subst hjk; exact hjun
    ·rw [getD_set_ne true hjk] at hun; exact hun
   have hco := Array.setIfInBounds_comm (xs := listed) true true (show j ≠ i from hji)
   refine wpOp_mono (fun a' w' h3 => ?_) h2
   have hn' : noneD D (listed.setIfInBounds j true) = true → S2 w' := fun hn => h3.2.1.2 (by rw [← hco, noneD_set hDi]; exact hn)
   refine ⟨⟨h3.2.1.1, hn'⟩, ih (listed.setIfInBounds j true) a' w' hfree' (ready_mono hr (Ne.symm hji)) h3.1 h3.2.1.1 hn' hm' ?_⟩
   rw [hco]
   exact h3.2.2
theorem wpAnyD_all {rs : List Nat} {fuel : Nat} {listed : Array Bool} {a : Act} {w : World} (hr : Region.ready md ops listed = rs) (hne : rs ≠ [])
  (h : ∀ i ∈ rs, wpOp P ops Q i (fun a' w' => (S w' ∧ (noneD D (listed.setIfInBounds i true) = true → S2 w')) ∧ wpAnyD P md ops Q S S2 D fuel (listed.setIfInBounds i true) a' w') a w) : wpAnyD P md ops Q S S2 D (fuel + 1) listed a w :=
 ⟨fun h0 => absurd (hr ▸ h0) hne, hr ▸ h⟩
theorem wpAnyD_done {listed : Array Bool} {a : Act} {w : World} (hr : Region.ready md ops listed = []) (h : Q .normal a w) :
  ∀ fuel, wpAnyD P md ops Q S S2 D fuel listed a w
 | 0 => ⟨hr, h⟩
 | _ + 1 => ⟨fun _ => h, by rw [hr]; simp⟩
end
section
variable {P : Program} {T : Tab} {ops : List Oper} {Q : Exit → Act → World → Prop} {n : Nat} {env : Env} {w0 : World} {R R0 : Ro} {E ES ES2 : List Ent} {D : List Nat} {o : Oper} {pc q : Bool} {fuel : Nat} {listed : Array Bool}
def VA (P : Program) (ops : List Oper) (Q : Exit → Act → World → Prop) (ES ES2 : List Ent) (D : List Nat) (R0 : Ro) (w0 : World) (fuel : Nat) (listed : Array Bool) (n : Nat) (env : Env) (R : Ro) (E : List Ent) : Prop :=
  ∀ a w, Kn n env a → Mem w0 w R E → wpAnyD P .any ops.toArray (NoPanic Q) (fun w => Mem w0 w R0 ES) (fun w => Mem w0 w R0 ES2) D fuel listed a w
def VS (P : Program) (ops : List Oper) (Q : Exit → Act → World → Prop) (ES ES2 : List Ent) (D : List Nat) (R0 : Ro) (w0 : World) (fuel : Nat) (listed : Array Bool) (n : Nat) (env : Env) (R : Ro) (E : List Ent) (i : Nat) : Prop :=
  ∀ a w, Kn n env a → Mem w0 w R E → wpOp P ops.toArray (NoPanic Q) i (fun a' w' => (Mem w0 w' R0 ES ∧ (noneD D (listed.setIfInBounds i true) = true → Mem w0 w' R0 ES2)) ∧ wpAnyD P .any ops.toArray (NoPanic Q) (fun w => Mem w0 w R0 ES) (fun w => Mem w0 w R0 ES2) D fuel (listed.setIfInBounds i true) a' w') a w
theorem W.regionD (id : Nat) {l : List Oper} (ES ES2 : List Ent) (D : List Nat) (hm : P.follows .mixedOrders = true)
  (h : VA P l Q ES ES2 D R w0 l.toArray.size (Array.replicate l.toArray.size false) n env R E) : W P (.region id l.toArray true) Q n env w0 R E := by
 intro a w hk hw
 refine wp_region_noPanic (wp_region_any hm (wpAny_of_D (S := fun w => Mem w0 w R ES) (S2 := fun w => Mem w0 w R ES2) (D := D) _ _ _ _ ?_))
 exact h a _ hk hw.drew
/-- what leans on ES alone is taken first -/
theorem VA.take {v : Value} {d : Nat} {pc : Bool} (i : Nat) (hi : ops.toArray[i]? = some o) (hs : Region.noSelect ops.toArray = true) (hf : Region.free .any ops.toArray listed i = true) (hr : (Region.ready .any ops.toArray listed).contains i = true) (hDi : D.contains i = false)
  (hg : gpc ops env o = some pc) (hd : o.dst = some d) (hdn : d < n) (hy : Yl P n env w0 R0 ES o pc v) (hsub : ES.Sublist E) (hR : RLe R0 R) (hs2 : noneD D listed = true → ES2.Sublist E)
  (h : VA P ops Q ES ES2 D R0 w0 fuel (listed.setIfInBounds i true) n ((d, pc, v) :: env) R E) : VA P ops Q ES ES2 D R0 w0 (fuel + 1) listed n env R E := by
 intro a w hk hm
 have hput := hk.put hdn pc v
 refine wpAnyD_first (SX := fun w => Mem w0 w R0 ES) (v := if pc then v else undef) hi (Region.noSelect_spec hs) (fun _ _ _ h => h) hDi fuel listed a w (Region.free_spec hi hf) (by simpa using hr) ?_ (hm.sub hR hsub) (fun hn => hm.sub hR (hs2 hn)) (.inl fun _ h => h) ?_
 ·cases pc with
  | true => exact .inl ⟨hk.wanted hg, fun w hm => by simpa using hy a w hk hm rfl⟩
  | false => exact .inr ⟨hk.wanted hg, rfl⟩
 ·rw [hd]
  exact h _ _ hput hm
/-- what leans on ES2, and is waited for by all of D, too -/
theorem VA.take2 {v : Value} {d : Nat} {pc : Bool} (i : Nat) (hi : ops.toArray[i]? = some o) (hs : Region.noSelect ops.toArray = true) (hf : Region.free .any ops.toArray listed i = true) (hr : (Region.ready .any ops.toArray listed).contains i = true) (hDi : D.contains i = false) (hw : waitsD .any ops.toArray D i = true) (hn : noneD D listed = true)
  (hg : gpc ops env o = some pc) (hd : o.dst = some d) (hdn : d < n) (hy : Yl P n env w0 R0 ES2 o pc v) (hsub : ES.Sublist E) (hR : RLe R0 R) (hs2 : ES2.Sublist E)
  (h : VA P ops Q ES ES2 D R0 w0 fuel (listed.setIfInBounds i true) n ((d, pc, v) :: env) R E) : VA P ops Q ES ES2 D R0 w0 (fuel + 1) listed n env R E := by
 intro a w hk hm
 have hput := hk.put hdn pc v
 refine wpAnyD_first (SX := fun w => Mem w0 w R0 ES2) (v := if pc then v else undef) hi (Region.noSelect_spec hs) (fun _ _ _ h => h) hDi fuel listed a w (Region.free_spec hi hf) (by simpa using hr) ?_ (hm.sub hR hsub) (fun _ => hm.sub hR hs2) (.inr ⟨fun _ h => h, hw, hn⟩) ?_
 ·cases pc with
  | true => exact .inl ⟨hk.wanted hg, fun w hm => by simpa using hy a w hk hm rfl⟩
  | false => exact .inr ⟨hk.wanted hg, rfl⟩
 ·rw [hd]
  exact h _ _ hput hm
theorem VA.one {i : Nat} (hr : Region.ready .any ops.toArray listed = [i]) (h : VS P ops Q ES ES2 D R0 w0 fuel listed n env R E i) : VA P ops Q ES ES2 D R0 w0 (fuel + 1) listed n env R E := by
 intro a w hk hm
 refine wpAnyD_all hr (by simp) fun j hj => ?_
 obtain rfl : j = i := by simpa using hj
 exact h a w hk hm
theorem VA.br2 {i j : Nat} (hr : Region.ready .any ops.toArray listed = [i, j]) (h1 : VS P ops Q ES ES2 D R0 w0 fuel listed n env R E i) (h2 : VS P ops Q ES ES2 D R0 w0 fuel listed n env R E j) : VA P ops Q ES ES2 D R0 w0 (fuel + 1) listed n env R E := by
 intro a w hk hm
 refine wpAnyD_all hr (by simp) fun m hm' => ?_
 rcases List.mem_cons.1 hm' with rfl | hm'
 ·exact h1 a w hk hm
 ·obtain rfl : m = j := by simpa using hm'
  exact h2 a w hk hm
theorem VS.eff {d : Nat} {i : Nat} (hi : ops.toArray[i]? = some o) (hg : o.guard = none) (hd : o.dst = some d) (hdn : d < n)
  (h : Ef P n env w0 R E o fun v R' E' => RLe R0 R' ∧ ES.Sublist E' ∧ (noneD D (listed.setIfInBounds i true) = true → ES2.Sublist E') ∧ VA P ops Q ES ES2 D R0 w0 fuel (listed.setIfInBounds i true) n ((d, true, v) :: env) R' E') : VS P ops Q ES ES2 D R0 w0 fuel listed n env R E i := by
 intro a w hk hm
 unfold wpOp
 rw [hi]
 simp only [Region.wanted, hg, if_true]
 left
 obtain ⟨v, w', R', E', hrun, hm', hR', hsub', hs2, hn⟩ := h a w hk hm
 unfold Oper.wp
 rcases hrun with hrun | ⟨hrun, rfl⟩
 ·rw [hrun]; simp only [Oper.upon, hd]; exact ⟨⟨hm'.sub hR' hsub', fun h => hm'.sub hR' (hs2 h)⟩, hn _ _ (hk.putT hdn v) hm'⟩
 ·rw [hrun]; simp only [Oper.upon, hd]; exact ⟨⟨hm'.sub hR' hsub', fun h => hm'.sub hR' (hs2 h)⟩, hn _ _ (hk.putT hdn _) hm'⟩
theorem VS.effN {i : Nat} (hi : ops.toArray[i]? = some o) (hg : o.guard = none) (hd : o.dst = none)
  (h : Ef P n env w0 R E o fun _ R' E' => RLe R0 R' ∧ ES.Sublist E' ∧ (noneD D (listed.setIfInBounds i true) = true → ES2.Sublist E') ∧ VA P ops Q ES ES2 D R0 w0 fuel (listed.setIfInBounds i true) n env R' E') : VS P ops Q ES ES2 D R0 w0 fuel listed n env R E i := by
 intro a w hk hm
 unfold wpOp
 rw [hi]
 simp only [Region.wanted, hg, if_true]
 left
 obtain ⟨v, w', R', E', hrun, hm', hR', hsub', hs2, hn⟩ := h a w hk hm
 unfold Oper.wp
 rcases hrun with hrun | ⟨hrun, rfl⟩
 ·rw [hrun]; simp only [Oper.upon, hd]; exact ⟨⟨hm'.sub hR' hsub', fun h => hm'.sub hR' (hs2 h)⟩, hn _ _ hk hm'⟩
 ·rw [hrun]; simp only [Oper.upon, hd]; exact ⟨⟨hm'.sub hR' hsub', fun h => hm'.sub hR' (hs2 h)⟩, hn _ _ hk hm'⟩
theorem VS.yl {v : Value} {d : Nat} {i : Nat} (hi : ops.toArray[i]? = some o) (hg : o.guard = none) (hd : o.dst = some d) (hdn : d < n) (hy : Yl P n env w0 R E o true v) (hsub : ES.Sublist E) (hR : RLe R0 R) (hs2 : noneD D (listed.setIfInBounds i true) = true → ES2.Sublist E)
  (h : VA P ops Q ES ES2 D R0 w0 fuel (listed.setIfInBounds i true) n ((d, true, v) :: env) R E) : VS P ops Q ES ES2 D R0 w0 fuel listed n env R E i :=
 VS.eff hi hg hd hdn (fun a w hk hm => ⟨v, w, R, E, .inl (hy a w hk hm rfl), hm, hR, hsub, hs2, h⟩)
theorem VS.callAt {d : Nat} {f : FuncId} {vs : List Value} {e : Ent} {Post : Value → Ro → Ent → List Ent → Prop} (k : Nat) {i : Nat} (hi : ops.toArray[i]? = some o) (hf : Enters P f) (hg : o.guard = none) (hd : o.dst = some d) (hdn : d < n)
  (hc : CallOp env o.op true f vs) (hE : E[k]? = some e) (hv : Fn P f vs w0 R (e :: E.eraseIdx k) (fun v R' E' => ∃ e' N, E' = N ++ e' :: E.eraseIdx k ∧ Post v R' e' N))
  (h : ∀ v R' e' N, RLe R R' → Post v R' e' N → RLe R0 R' ∧ ES.Sublist (N ++ E.set k e') ∧ (noneD D (listed.setIfInBounds i true) = true → ES2.Sublist (N ++ E.set k e')) ∧ VA P ops Q ES ES2 D R0 w0 fuel (listed.setIfInBounds i true) n ((d, true, v) :: env) R' (N ++ E.set k e')) : VS P ops Q ES ES2 D R0 w0 fuel listed n env R E i := by
 intro a w hk hm
 unfold wpOp
 rw [hi]
 simp only [Region.wanted, hg, if_true]
 left
 unfold Oper.wp
 rw [run_call hk hc rfl hf]
 refine (hv w (hm.perm (perm_get hE))).mono ?_
 rintro e0 w' ⟨v, R', E', rfl, hR, hm', e', N, rfl, hp⟩
 obtain ⟨g1, g2, g3, g4⟩ := h v R' e' N hR hp
 have hm2 := hm'.perm ((perm_set e' hE).append_left N)
 simp only [hd]
 exact ⟨⟨hm2.sub g1 g2, fun h => hm2.sub g1 (g3 h)⟩, g4 _ _ (hk.putT hdn v) hm2⟩
theorem VA.done (hr : Region.ready .any ops.toArray listed = []) (h : WE Q .normal n env w0 R E) : VA P ops Q ES ES2 D R0 w0 fuel listed n env R E :=
 fun a w hk hm => wpAnyD_done hr (NoPanic.normal (h a w hk hm)) fuel
end
end Go.Proofs.YtmidibkljoaoiaaGreatDoor.K

/- Chapter 24: one line of a text. No condition. -/
set_option maxRecDepth 4000
set_option linter.unusedSimpArgs false
set_option linter.unusedVariables false
namespace Go.Proofs.YtmidibkljoaoiaaGreatDoor
open Go Go.RowKit Go.Proofs.YtmidibkljoaoiaaGreatDoor.K Go.Proofs.YtmidibkljoaoiaaGreatDoor.M

/-- what one line of a text adds to a network: a line, a flow, or nothing -/
def TakeP (R : Ro) (s : List UInt8) (ns : List (List UInt8)) (ms : List LnM) (fs : List FlM) (ok : Bool) (ns' : List (List UInt8)) (ms' : List LnM) (fs' : List FlM) : Prop :=
 (ok = true ∧ (lineO s = true ∧ fs = []) ∧ ns' = ns ++ [nmR s] ∧ fs' = fs ∧ ∃ m, ms' = ms ++ [m] ∧ OkLn R m ∧ m.L = vlR s) ∨
 (ok = true ∧ ¬ (lineO s = true ∧ fs = []) ∧ flO ns s = true ∧ ns' = ns ∧ ms' = ms ∧ ∃ x, fs' = fs ++ [x] ∧ OkFl R x ∧ x.f.route.length ≤ x.c1 ∧ x.f.cv.vals.length ≤ x.c2 ∧ x.f = flV ns s) ∨
 (ok = false ∧ ¬ (lineO s = true ∧ fs = []) ∧ flO ns s = false ∧ ns' = ns ∧ ms' = ms ∧ fs' = fs)

set_option maxHeartbeats 8000000 in
theorem Take_C {R : Ro} (hG : GlobE R) {s : List UInt8} (hs : s.length ≤ 1000000) {b : Nat} {a1 a2 a3 : Option Addr} {c1 c2 c3 : Nat} {ns : List (List UInt8)} {ms : List LnM} {fs : List FlM} (hns : ns.length ≤ 1000000) (hms : ms.length ≤ 1000000) (hfs : fs.length ≤ 1000000) (hnn : ∀ x ∈ ns, x.length ≤ 9223372036854775807) (w0 : World) (F : List Ent) : K.Fn Tryz.prog 52 [.pointer (some ⟨b, 0, none⟩), .string (str s)] w0 R (.sl 9 1 a1 c1 (ns.map encT) :: .sl 29 5 a2 c2 (ms.map encLn) :: .sl 35 8 a3 c3 (fs.map encFl) :: .blk b [.slice a1 ns.length c1, .slice a2 ms.length c2, .slice a3 fs.length c3] :: F) (fun v R' E' => ∃ (ok : Bool) (a1' a2' a3' : Option Addr) (c1' c2' c3' : Nat) (ns' : List (List UInt8)) (ms' : List LnM) (fs' : List FlM), v = .bool ok ∧ E' = .sl 9 1 a1' c1' (ns'.map encT) :: .sl 29 5 a2' c2' (ms'.map encLn) :: .sl 35 8 a3' c3' (fs'.map encFl) :: .blk b [.slice a1' ns'.length c1', .slice a2' ms'.length c2', .slice a3' fs'.length c3'] :: F ∧ TakeP R' s ns ms fs ok ns' ms' fs') := by
 
 refine fE 66 Tryz.func52 ?_
 refine zQ (zG (zR 1 rfl (zN (zU (zQ (zQ (zG (zR 1 rfl ?_))))))))
 refine WL.call en75 rfl rfl qD (CallOp.mkT rfl rfl rfl rfl) (LineP_C hG hs w0 _) ?_
 rintro _ R1 _ hR1 ⟨nm, L, x1, x2, y1, y2, rfl, hf1, hf2, hg1, hg2, hLv, rfl⟩
 have hG := hG.mono hR1
 refine zR 4 rfl ?_
 refine zA fun b6 => ?_
 refine zR 1 rfl ?_
 refine zE 0 ?_
 refine zR 1 rfl (zN (zU (zQ (zG (zR 2 rfl ?_)))))
 refine yP ?_
 refine yP ?_
 refine yP ?_
 refine yG (Rd.addC (Rd.blkC 4 rfl) _) ?_
 refine yP ?_
 refine yP ?_
 refine yN ?_
 refine zN (zU ?_)
 refine W.cond rfl (fun hc0 => ?_) (fun hc0 => ?_)
 ·try simp only [zk] at hc0
  have hyes : lineO s = true := by simpa using hc0.1
  have hfn : fs = [] := List.length_eq_zero_iff.1 (by omega)
  refine zQ ?_
  refine W.regionD _ [.blk b6 [.int .i64 L.kind, .int .i64 L.cap, .int .i64 L.n, .slice x1 L.w.length y1, .slice x2 L.tb.length y2]] [.blk b6 [.int .i64 L.kind, .int .i64 L.cap, .int .i64 L.n, .slice x1 L.w.length y1, .slice x2 L.tb.length y2], .blk b [.slice a1 ns.length c1, .slice a2 ms.length c2, .slice a3 fs.length c3]] [18, 21] mixed ?_
  refine VA.take2 0 rfl qK qK qK rfl qK qK rfl rfl qD (pureV_ok tab_ok rfl (fun _ => rfl)) qS qR qS ?_
  refine VA.take 1 rfl qK qK qK rfl rfl rfl qD (pureV_ok tab_ok rfl (fun _ => rfl)) qS qR (fun _ => qS) ?_
  refine VA.take2 2 rfl qK qK qK rfl qK qK rfl rfl qD (pureV_ok tab_ok rfl (fun _ => rfl)) qS qR qS ?_
  refine VA.take2 3 rfl qK qK qK rfl qK qK rfl rfl qD (pureV_ok tab_ok rfl (fun _ => rfl)) qS qR qS ?_
  refine VA.take2 4 rfl qK qK qK rfl qK qK rfl rfl qD (pureV_ok tab_ok rfl (fun _ => rfl)) qS qR qS ?_
  refine' VA.take2 5 rfl qK qK qK rfl qK qK rfl rfl qD (Yl.load1 tab_ok rfl rfl rfl (fun _ => rfl) ?r2 rfl ?h2) qS qR qS ?_
  case r2 => apply Rd.add; (exact Rd.blk 1 rfl)
  case h2 => rfl
  refine VA.take2 6 rfl qK qK qK rfl qK qK rfl rfl qD (pureV_ok tab_ok rfl (fun _ => rfl)) qS qR qS ?_
  refine VA.take 9 rfl qK qK qK rfl rfl rfl qD (pureV_ok tab_ok rfl (fun _ => rfl)) qS qR (fun _ => qS) ?_
  refine VA.take 10 rfl qK qK qK rfl rfl rfl qD (pureV_ok tab_ok rfl (fun _ => rfl)) qS qR (fun _ => qS) ?_
  refine VA.take 11 rfl qK qK qK rfl rfl rfl qD (pureV_ok tab_ok rfl (fun _ => rfl)) qS qR (fun _ => qS) ?_
  refine' VA.take2 12 rfl qK qK qK rfl qK qK rfl rfl qD (Yl.load1 tab_ok rfl rfl rfl (fun _ => rfl) ?r3 rfl ?h3) qS qR qS ?_
  case r3 => apply Rd.add; (exact Rd.blk 1 rfl)
  case h3 => rfl
  refine' VA.take 13 rfl qK qK qK rfl rfl rfl qD (Yl.load1 tab_ok rfl rfl rfl (fun _ => rfl) ?r4 rfl ?h4) qS qR (fun _ => qS) ?_
  case r4 => (exact Rd.blk 0 rfl)
  case h4 => rfl
  refine VA.br2 qK (i := 7) (j := 14) ?_ ?_
  ·
   refine VS.eff rfl rfl rfl qD (Ef.buildSliceD (enc := encT) (parts := [.tmp 31]) [nm] tab_ok rfl rfl rfl rfl rfl rfl rfl rfl qD qD (fun a32 => ?_))
   refine ⟨by first | exact RLe.refl _ | assumption, qS, (fun _ => qS), ?_⟩
   refine VA.br2 qK (i := 8) (j := 14) ?_ ?_
   ·
    refine VS.eff rfl rfl rfl (by decide) (Ef.appendD 2 0 tab_ok rfl rfl rfl rfl rfl rfl rfl rfl rfl rfl rfl (fun _ _ => rfl) (by simp only [List.length_cons, List.length_nil]; omega) (by simp only [List.length_cons, List.length_nil]; omega) (fun a33 c33 ha33 => ?_))
    refine ⟨by first | exact RLe.refl _ | assumption, qS, (fun _ => qS), ?_⟩
    refine VA.one (i := 14) qK ?_
    refine VS.eff rfl rfl rfl qD (Ef.buildSliceD (enc := encLn) (parts := [.tmp 38]) [⟨x1, y1, x2, y2, L⟩] tab_ok rfl rfl rfl rfl rfl rfl rfl rfl qD qD (fun a39 => ?_))
    refine ⟨by first | exact RLe.refl _ | assumption, qS, (fun _ => qS), ?_⟩
    refine VA.one (i := 15) qK ?_
    refine VS.eff rfl rfl rfl (by decide) (Ef.appendD 4 0 tab_ok rfl rfl rfl rfl rfl rfl rfl rfl rfl rfl rfl (fun _ _ => rfl) (by simp only [List.length_cons, List.length_nil]; omega) (by simp only [List.length_cons, List.length_nil]; omega) (fun a40 c40 ha40 => ?_))
    refine ⟨by first | exact RLe.refl _ | assumption, qS, (fun _ => qS), ?_⟩
    refine VA.take 16 rfl qK qK qK rfl rfl rfl qD (pureV_ok tab_ok rfl (fun _ => rfl)) qS qR (fun _ => qS) ?_
    refine VA.take2 17 rfl qK qK qK rfl qK qK rfl rfl qD (pureV_ok tab_ok rfl (fun _ => rfl)) qS qR qS ?_
    refine VA.one (i := 18) qK ?_
    refine VS.effN rfl rfl rfl (Ef.store 6 tab_ok rfl rfl rfl rfl rfl rfl rfl rfl ?_)
    refine ⟨by first | exact RLe.refl _ | assumption, qS, (noD qK), ?_⟩
    refine VA.take 19 rfl qK qK qK rfl rfl rfl qD (pureV_ok tab_ok rfl (fun _ => rfl)) qS qR (noD qK) ?_
    refine VA.take 20 rfl qK qK qK rfl rfl rfl qD (pureV_ok tab_ok rfl (fun _ => rfl)) qS qR (noD qK) ?_
    refine VA.one (i := 21) qK ?_
    refine VS.effN rfl rfl rfl (Ef.store 6 tab_ok rfl rfl rfl rfl rfl rfl rfl rfl ?_)
    refine ⟨by first | exact RLe.refl _ | assumption, qS, (noD qK), ?_⟩
    refine VA.done qK ?_
    refine zU (zQ (zG (zR 1 rfl (zN (zU (zT (wt ?_)))))))
    refine WE.subE (E' := .sl 9 1 a33 c33 ((ns ++ [nm]).map encT) :: .sl 29 5 a40 c40 ((ms ++ [(⟨x1, y1, x2, y2, L⟩ : LnM)]).map encLn) :: .sl 35 8 a3 c3 (fs.map encFl) :: .blk b [.slice a33 (ns ++ [nm]).length c33, .slice a40 (ms ++ [(⟨x1, y1, x2, y2, L⟩ : LnM)]).length c40, .slice a3 fs.length c3] :: F) qS ?_
    refine WE.retF tab_ok [_] rfl ⟨rfl, trivial⟩ (by first | exact RLe.refl _ | assumption | exact hR1.trans hR2) ?_
    exact ⟨_, _, _, _, _, _, _, _, _, fs, rfl, rfl, .inl ⟨rfl, ⟨hyes, hfn⟩, by rw [(hLv hyes).1]; rfl, rfl, ⟨x1, y1, x2, y2, L⟩, rfl, ⟨hf1, hf2⟩, (hLv hyes).2⟩⟩
   ·
    refine VS.eff rfl rfl rfl qD (Ef.buildSliceD (enc := encLn) (parts := [.tmp 38]) [⟨x1, y1, x2, y2, L⟩] tab_ok rfl rfl rfl rfl rfl rfl rfl rfl qD qD (fun a39 => ?_))
    refine ⟨by first | exact RLe.refl _ | assumption, qS, (fun _ => qS), ?_⟩
    refine VA.one (i := 8) qK ?_
    refine VS.eff rfl rfl rfl (by decide) (Ef.appendD 3 1 tab_ok rfl rfl rfl rfl rfl rfl rfl rfl rfl rfl rfl (fun _ _ => rfl) (by simp only [List.length_cons, List.length_nil]; omega) (by simp only [List.length_cons, List.length_nil]; omega) (fun a33 c33 ha33 => ?_))
    refine ⟨by first | exact RLe.refl _ | assumption, qS, (fun _ => qS), ?_⟩
    refine VA.one (i := 15) qK ?_
    refine VS.eff rfl rfl rfl (by decide) (Ef.appendD 4 0 tab_ok rfl rfl rfl rfl rfl rfl rfl rfl rfl rfl rfl (fun _ _ => rfl) (by simp only [List.length_cons, List.length_nil]; omega) (by simp only [List.length_cons, List.length_nil]; omega) (fun a40 c40 ha40 => ?_))
    refine ⟨by first | exact RLe.refl _ | assumption, qS, (fun _ => qS), ?_⟩
    refine VA.take 16 rfl qK qK qK rfl rfl rfl qD (pureV_ok tab_ok rfl (fun _ => rfl)) qS qR (fun _ => qS) ?_
    refine VA.take2 17 rfl qK qK qK rfl qK qK rfl rfl qD (pureV_ok tab_ok rfl (fun _ => rfl)) qS qR qS ?_
    refine VA.one (i := 18) qK ?_
    refine VS.effN rfl rfl rfl (Ef.store 6 tab_ok rfl rfl rfl rfl rfl rfl rfl rfl ?_)
    refine ⟨by first | exact RLe.refl _ | assumption, qS, (noD qK), ?_⟩
    refine VA.take 19 rfl qK qK qK rfl rfl rfl qD (pureV_ok tab_ok rfl (fun _ => rfl)) qS qR (noD qK) ?_
    refine VA.take 20 rfl qK qK qK rfl rfl rfl qD (pureV_ok tab_ok rfl (fun _ => rfl)) qS qR (noD qK) ?_
    refine VA.one (i := 21) qK ?_
    refine VS.effN rfl rfl rfl (Ef.store 6 tab_ok rfl rfl rfl rfl rfl rfl rfl rfl ?_)
    refine ⟨by first | exact RLe.refl _ | assumption, qS, (noD qK), ?_⟩
    refine VA.done qK ?_
    refine zU (zQ (zG (zR 1 rfl (zN (zU (zT (wt ?_)))))))
    refine WE.subE (E' := .sl 9 1 a33 c33 ((ns ++ [nm]).map encT) :: .sl 29 5 a40 c40 ((ms ++ [(⟨x1, y1, x2, y2, L⟩ : LnM)]).map encLn) :: .sl 35 8 a3 c3 (fs.map encFl) :: .blk b [.slice a33 (ns ++ [nm]).length c33, .slice a40 (ms ++ [(⟨x1, y1, x2, y2, L⟩ : LnM)]).length c40, .slice a3 fs.length c3] :: F) qS ?_
    refine WE.retF tab_ok [_] rfl ⟨rfl, trivial⟩ (by first | exact RLe.refl _ | assumption | exact hR1.trans hR2) ?_
    exact ⟨_, _, _, _, _, _, _, _, _, fs, rfl, rfl, .inl ⟨rfl, ⟨hyes, hfn⟩, by rw [(hLv hyes).1]; rfl, rfl, ⟨x1, y1, x2, y2, L⟩, rfl, ⟨hf1, hf2⟩, (hLv hyes).2⟩⟩
  ·
   refine VS.eff rfl rfl rfl qD (Ef.buildSliceD (enc := encLn) (parts := [.tmp 38]) [⟨x1, y1, x2, y2, L⟩] tab_ok rfl rfl rfl rfl rfl rfl rfl rfl qD qD (fun a39 => ?_))
   refine ⟨by first | exact RLe.refl _ | assumption, qS, (fun _ => qS), ?_⟩
   refine VA.one (i := 7) qK ?_
   refine VS.eff rfl rfl rfl qD (Ef.buildSliceD (enc := encT) (parts := [.tmp 31]) [nm] tab_ok rfl rfl rfl rfl rfl rfl rfl rfl qD qD (fun a32 => ?_))
   refine ⟨by first | exact RLe.refl _ | assumption, qS, (fun _ => qS), ?_⟩
   refine VA.one (i := 8) qK ?_
   refine VS.eff rfl rfl rfl (by decide) (Ef.appendD 3 0 tab_ok rfl rfl rfl rfl rfl rfl rfl rfl rfl rfl rfl (fun _ _ => rfl) (by simp only [List.length_cons, List.length_nil]; omega) (by simp only [List.length_cons, List.length_nil]; omega) (fun a33 c33 ha33 => ?_))
   refine ⟨by first | exact RLe.refl _ | assumption, qS, (fun _ => qS), ?_⟩
   refine VA.one (i := 15) qK ?_
   refine VS.eff rfl rfl rfl (by decide) (Ef.appendD 4 1 tab_ok rfl rfl rfl rfl rfl rfl rfl rfl rfl rfl rfl (fun _ _ => rfl) (by simp only [List.length_cons, List.length_nil]; omega) (by simp only [List.length_cons, List.length_nil]; omega) (fun a40 c40 ha40 => ?_))
   refine ⟨by first | exact RLe.refl _ | assumption, qS, (fun _ => qS), ?_⟩
   refine VA.take 16 rfl qK qK qK rfl rfl rfl qD (pureV_ok tab_ok rfl (fun _ => rfl)) qS qR (fun _ => qS) ?_
   refine VA.take2 17 rfl qK qK qK rfl qK qK rfl rfl qD (pureV_ok tab_ok rfl (fun _ => rfl)) qS qR qS ?_
   refine VA.one (i := 18) qK ?_
   refine VS.effN rfl rfl rfl (Ef.store 6 tab_ok rfl rfl rfl rfl rfl rfl rfl rfl ?_)
   refine ⟨by first | exact RLe.refl _ | assumption, qS, (noD qK), ?_⟩
   refine VA.take 19 rfl qK qK qK rfl rfl rfl qD (pureV_ok tab_ok rfl (fun _ => rfl)) qS qR (noD qK) ?_
   refine VA.take 20 rfl qK qK qK rfl rfl rfl qD (pureV_ok tab_ok rfl (fun _ => rfl)) qS qR (noD qK) ?_
   refine VA.one (i := 21) qK ?_
   refine VS.effN rfl rfl rfl (Ef.store 6 tab_ok rfl rfl rfl rfl rfl rfl rfl rfl ?_)
   refine ⟨by first | exact RLe.refl _ | assumption, qS, (noD qK), ?_⟩
   refine VA.done qK ?_
   refine zU (zQ (zG (zR 1 rfl (zN (zU (zT (wt ?_)))))))
   refine WE.subE (E' := .sl 9 1 a33 c33 ((ns ++ [nm]).map encT) :: .sl 29 5 a40 c40 ((ms ++ [(⟨x1, y1, x2, y2, L⟩ : LnM)]).map encLn) :: .sl 35 8 a3 c3 (fs.map encFl) :: .blk b [.slice a33 (ns ++ [nm]).length c33, .slice a40 (ms ++ [(⟨x1, y1, x2, y2, L⟩ : LnM)]).length c40, .slice a3 fs.length c3] :: F) qS ?_
   refine WE.retF tab_ok [_] rfl ⟨rfl, trivial⟩ (by first | exact RLe.refl _ | assumption | exact hR1.trans hR2) ?_
   exact ⟨_, _, _, _, _, _, _, _, _, fs, rfl, rfl, .inl ⟨rfl, ⟨hyes, hfn⟩, by rw [(hLv hyes).1]; rfl, rfl, ⟨x1, y1, x2, y2, L⟩, rfl, ⟨hf1, hf2⟩, (hLv hyes).2⟩⟩
 ·try simp only [zk] at hc0
  have hno : ¬ (lineO s = true ∧ fs = []) := fun h => hc0 h.1 (by rw [h.2]; rfl)
  refine zK (zU (zQ (zG (zR 3 rfl ?_))))
  refine yL (Rd.add (Rd.blk 4 rfl) _) ?_
  refine zR 1 rfl ?_
  refine WL.call en76 rfl rfl qD (CallOp.mkT rfl rfl rfl rfl) (Flow_C hG hs (LsT.own 1 rfl hns) rfl hnn w0) ?_
  rintro _ R2 _ hR2 ⟨x, rfl, hxo, hx1, hx2, hxf, rfl⟩
  refine zR 3 rfl ?_
  refine zA fun b8 => ?_
  refine zE 0 ?_
  refine zR 1 rfl (zN (zU (zQ (zQ (zG (zR 1 rfl (zN (zU ?_))))))))
  refine W.cond rfl (fun hc1 => ?_) (fun hc1 => ?_)
  ·try simp only [zk] at hc1
   have hfo : flO ns s = true := by simpa using hc1
   refine W.regionD _ [.blk b8 (encFl x)] [.blk b8 (encFl x), .blk b [.slice a1 ns.length c1, .slice a2 ms.length c2, .slice a3 fs.length c3]] [10] mixed ?_
   refine VA.take2 0 rfl qK qK qK rfl qK qK rfl rfl qD (pureV_ok tab_ok rfl (fun _ => rfl)) qS qR qS ?_
   refine VA.take2 1 rfl qK qK qK rfl qK qK rfl rfl qD (pureV_ok tab_ok rfl (fun _ => rfl)) qS qR qS ?_
   refine VA.take2 2 rfl qK qK qK rfl qK qK rfl rfl qD (pureV_ok tab_ok rfl (fun _ => rfl)) qS qR qS ?_
   refine VA.take2 3 rfl qK qK qK rfl qK qK rfl rfl qD (pureV_ok tab_ok rfl (fun _ => rfl)) qS qR qS ?_
   refine' VA.take2 4 rfl qK qK qK rfl qK qK rfl rfl qD (Yl.load1 tab_ok rfl rfl rfl (fun _ => rfl) ?r6 rfl ?h6) qS qR qS ?_
   case r6 => apply Rd.add; (exact Rd.blk 1 rfl)
   case h6 => rfl
   refine' VA.take2 5 rfl qK qK qK rfl qK qK rfl rfl qD (Yl.load1 tab_ok rfl rfl rfl (fun _ => rfl) ?r7 rfl ?h7) qS qR qS ?_
   case r7 => (exact Rd.blk 0 rfl)
   case h7 => rfl
   refine VA.one (i := 6) qK ?_
   refine VS.eff rfl rfl rfl qD (Ef.buildSliceD (enc := encFl) (parts := [.tmp 60]) [x] tab_ok rfl rfl rfl rfl rfl rfl rfl rfl qD qD (fun a61 => ?_))
   refine ⟨by first | exact RLe.refl _ | assumption, qS, (fun _ => qS), ?_⟩
   refine VA.one (i := 7) qK ?_
   refine VS.eff rfl rfl rfl (by decide) (Ef.appendD 5 0 tab_ok rfl rfl rfl rfl rfl rfl rfl rfl rfl rfl rfl (fun _ _ => rfl) (by simp only [List.length_cons, List.length_nil]; omega) (by simp only [List.length_cons, List.length_nil]; omega) (fun a62 c62 ha62 => ?_))
   refine ⟨by first | exact RLe.refl _ | assumption, qS, (fun _ => qS), ?_⟩
   refine VA.take 8 rfl qK qK qK rfl rfl rfl qD (pureV_ok tab_ok rfl (fun _ => rfl)) qS qR (fun _ => qS) ?_
   refine VA.take2 9 rfl qK qK qK rfl qK qK rfl rfl qD (pureV_ok tab_ok rfl (fun _ => rfl)) qS qR qS ?_
   refine VA.one (i := 10) qK ?_
   refine VS.effN rfl rfl rfl (Ef.store 6 tab_ok rfl rfl rfl rfl rfl rfl rfl rfl ?_)
   refine ⟨by first | exact RLe.refl _ | assumption, qS, (noD qK), ?_⟩
   refine VA.done qK ?_
   refine zU (zQ (zG (zR 2 rfl (zN (zU (zT ?_))))))
   refine WE.subE (E' := .sl 9 1 a1 c1 (ns.map encT) :: .sl 29 5 a2 c2 (ms.map encLn) :: .sl 35 8 a62 c62 ((fs ++ [x]).map encFl) :: .blk b [.slice a1 ns.length c1, .slice a2 ms.length c2, .slice a62 (fs ++ [x]).length c62] :: F) qS ?_
   refine WE.retF tab_ok [_] rfl ⟨rfl, trivial⟩ (by first | exact RLe.refl _ | assumption | exact hR1.trans hR2) ?_
   exact ⟨true, _, _, _, _, _, _, ns, ms, _, by rw [hfo]; rfl, rfl, .inr (.inl ⟨rfl, hno, hfo, rfl, rfl, x, rfl, hxo, hx1, hx2, hxf hfo⟩)⟩
  ·try simp only [zk] at hc1
   have hfo : flO ns s = false := by simpa using hc1
   refine zK (zU (zQ (zG (zR 2 rfl (zN (zU (zT ?_)))))))
   refine WE.subE (E' := .sl 9 1 a1 c1 (ns.map encT) :: .sl 29 5 a2 c2 (ms.map encLn) :: .sl 35 8 a3 c3 (fs.map encFl) :: .blk b [.slice a1 ns.length c1, .slice a2 ms.length c2, .slice a3 fs.length c3] :: F) qS ?_
   refine WE.retF tab_ok [_] rfl ⟨rfl, trivial⟩ (by first | exact RLe.refl _ | assumption | exact hR1.trans hR2) ?_
   exact ⟨false, _, _, _, _, _, _, ns, ms, fs, by rw [hfo]; rfl, rfl, .inr (.inr ⟨rfl, hno, hfo, rfl, rfl, rfl⟩)⟩



theorem Cut03_V {R : Ro} (hG : GlobE R) {s sep : List UInt8} (hs : s.length ≤ 4000000000) : FnV Tryz.prog 51 [.string (str s), .string (str sep)] R (.tuple #[.string (str (Lib.cut s sep).1), .string (str (Lib.cut s sep).2.1), .bool (Lib.cut s sep).2.2]) := by
 obtain ⟨m, rest, hm0⟩ := hG.m
 refine FnV.of (fun w0 E w hm => ?_)
 have hsz := str_size s
 refine (sh_strings_Cut (str s) (str sep) m w qO (hm.cell hm0)).mono ?_
 rintro e w' ⟨rfl, n, rfl⟩
 have h1 : (str s).data.toList = s := by simp [str]
 have h2 : (str sep).data.toList = sep := by simp [str]
 rw [h1, h2]
 exact ⟨rfl, K.below_drewN w n⟩

theorem take_none {R : Ro} {s : List UInt8} {ns ns' : List (List UInt8)} {ms ms' : List LnM} {fs fs' : List FlM} (h : TakeP R s ns ms fs false ns' ms' fs') : takeS (ns, ms.map (·.L), fs.map (·.f)) s = none := by
 rcases h with ⟨h, _⟩ | ⟨h, _⟩ | ⟨_, h1, h2, _⟩
 ·cases h
 ·cases h
 ·unfold takeS
  rw [if_neg (fun hh => h1 ⟨hh.1, List.map_eq_nil_iff.1 hh.2⟩), if_neg (by rw [h2]; decide)]
theorem nmR_le (s : List UInt8) : (nmR s).length ≤ s.length := by
 unfold nmR
 by_cases h : 1 < (splC 32 s).length
 ·exact splC_mem 32 s _ (nth_mem h)
 ·rw [nth_out (by omega)]; exact Nat.zero_le _
theorem take_some {R R0 : Ro} {s : List UInt8} {ns ns' : List (List UInt8)} {ms ms' : List LnM} {fs fs' : List FlM} (h : TakeP R s ns ms fs true ns' ms' fs') (hR : RLe R0 R) (hnn : ∀ x ∈ ns, x.length ≤ 9223372036854775807) (hs : s.length ≤ 1000000) (hom : ∀ m ∈ ms, OkLn R0 m) (hof : ∀ x ∈ fs, OkFl R0 x ∧ x.f.route.length ≤ x.c1 ∧ x.f.cv.vals.length ≤ x.c2) :
  takeS (ns, ms.map (·.L), fs.map (·.f)) s = some (ns', ms'.map (·.L), fs'.map (·.f)) ∧ ns'.length ≤ ns.length + 1 ∧ ms'.length ≤ ms.length + 1 ∧ fs'.length ≤ fs.length + 1 ∧ (∀ x ∈ ns', x.length ≤ 9223372036854775807) ∧ (∀ m ∈ ms', OkLn R m) ∧ ∀ x ∈ fs', OkFl R x ∧ x.f.route.length ≤ x.c1 ∧ x.f.cv.vals.length ≤ x.c2 := by
 rcases h with ⟨_, ⟨h1, h2⟩, rfl, rfl, m, rfl, h3, h4⟩ | ⟨_, h1, h2, rfl, rfl, x, rfl, h3, h4, h5, h6⟩ | ⟨h, _⟩
 ·refine ⟨?_, by simp, by simp, by simp, fun x hx => ?_, fun q hq => ?_, fun x hx => ⟨(hof x hx).1.mono hR, (hof x hx).2⟩⟩
  ·subst h2
   unfold takeS
   rw [if_pos ⟨h1, rfl⟩, List.map_append, List.map_singleton, h4]
  ·rcases List.mem_append.1 hx with hx | hx
   ·exact hnn x hx
   ·rw [List.mem_singleton.1 hx]; have := nmR_le s; omega
  ·rcases List.mem_append.1 hq with hq | hq
   ·exact (hom q hq).mono hR
   ·rw [List.mem_singleton.1 hq]; exact h3
 ·refine ⟨?_, by simp, by simp, by simp, hnn, fun q hq => (hom q hq).mono hR, fun y hy => ?_⟩
  ·unfold takeS
   rw [if_neg (fun hh => h1 ⟨hh.1, List.map_eq_nil_iff.1 hh.2⟩), if_pos h2, List.map_append, List.map_singleton, h6]
  ·rcases List.mem_append.1 hy with hy | hy
   ·exact ⟨(hof y hy).1.mono hR, (hof y hy).2⟩
   ·rw [List.mem_singleton.1 hy]; exact ⟨h3, h4, h5⟩
 ·cases h

set_option maxHeartbeats 4000000 in
theorem Parse_C {R : Ro} (hG : GlobE R) {s : List UInt8} (hs : s.length ≤ 9223372036854775807) (w0 : World) (E : List Ent) : K.Fn Tryz.prog 19 [.string (str s)] w0 R E (fun v R' E' => ∃ (na la fa : Option Addr) (nc lc fc : Nat) (ns : List (List UInt8)) (ms : List LnM) (fs : List FlM) (line e : Int), v = .tuple #[.agg #[.slice na ns.length nc, .slice la ms.length lc, .slice fa fs.length fc], .int .i64 line, .int .i64 e] ∧ K.RS R' 1 encT na ns ∧ K.RS R' 5 encLn la ms ∧ (∀ m ∈ ms, OkLn R' m) ∧ (∀ x ∈ fs, OkFl R' x ∧ x.f.route.length ≤ x.c1 ∧ x.f.cv.vals.length ≤ x.c2) ∧ (∀ x ∈ ns, x.length ≤ 9223372036854775807) ∧ ns.length ≤ nc ∧ ms.length ≤ lc ∧ fs.length ≤ fc ∧ parN s = ((ns, ms.map (·.L), fs.map (·.f)), line, e) ∧ E' = .sl 35 8 fa fc (fs.map encFl) :: E) := by
 have hss := str_size s
 refine fE 42 Tryz.func19 ?_
 refine zQ (zG ?_)
 refine zA fun b2 => ?_
 refine zR 2 rfl (zN (zU (zQ (zQ (zG (zR 3 rfl (zN (zU ?_))))))))
 refine W.condD rfl (fun hc0 => ?_) (fun hc0 => ?_)
 ·try dsimp only at hc0
  have hpn : parN s = (zNt, 0, 3) := if_pos (by omega)
  refine W.nil 35 8 qD ?_
  refine zQ (zG ?_)
  -- build
  refine WG.y rfl rfl qD (Yl.build (parts := []) tab_ok rfl rfl rfl rfl (fun _ => rfl) rfl rfl) ?_
  refine zE 1 ?_
  refine zR 2 rfl (zN (zU (zT (wt ?_))))
  refine WE.retFS (E' := (.sl 35 8 none 0 [] :: E)) qS tab_ok [_, _, _] rfl ⟨⟨_, _, _, rfl, rfl, rfl, qB, rfl⟩, rfl, rfl, trivial⟩ qR ?_
  exact ⟨none, none, none, 0, 0, 0, [], [], [], _, _, rfl, ⟨by simp, .inl rfl, by simp⟩, ⟨by simp, .inl rfl, by simp⟩, (fun m h => by cases h), (fun m h => by cases h), (fun x h => by cases h), Nat.le_refl _, Nat.le_refl _, Nat.le_refl _, by rw [hpn]; rfl, rfl⟩
 ·try dsimp only at hc0
  have hpn : parN s = if (parGo zNt 0 (splC 10 s)).2.2 ≠ 0 then parGo zNt 0 (splC 10 s) else if chkN (parGo zNt 0 (splC 10 s)).1 ≠ 0 then (zNt, 0, chkN (parGo zNt 0 (splC 10 s)).1) else ((parGo zNt 0 (splC 10 s)).1, 0, 0) := if_neg (by omega)
  refine zK (zU (zQ ?_))
  refine W.nil 35 8 qD ?_
  refine W.nil 29 5 qD ?_
  refine W.nil 9 1 qD ?_
  refine zQ (zG (zR 2 rfl (zN (zU (zB ?_)))))
  refine W.loopR (β := Nat × List (List UInt8) × List LnM × List FlM × (Option Addr × Nat) × (Option Addr × Nat) × (Option Addr × Nat) × List UInt8 × Ro) (fun (i, ns, ms, fs, p1, p2, p3, rest, Rk) => RLe R Rk ∧ i + rest.length ≤ 4000 ∧ (ns.length ≤ i ∧ ms.length ≤ i ∧ fs.length ≤ i) ∧ parGo (ns, ms.map (·.L), fs.map (·.f)) i (splC 10 rest) = parGo zNt 0 (splC 10 s) ∧ (∀ x ∈ ns, x.length ≤ 9223372036854775807) ∧ (∀ m ∈ ms, OkLn Rk m) ∧ ∀ x ∈ fs, OkFl Rk x ∧ x.f.route.length ≤ x.c1 ∧ x.f.cv.vals.length ≤ x.c2) (fun (i, ns, ms, fs, p1, p2, p3, rest, Rk) => [(3, true, .int .i64 (i : Int)), (5, true, .string (str rest))]) [2] [_] [] _ rfl (fun (i, ns, ms, fs, p1, p2, p3, rest, Rk) => [(0, .sl 9 1 p1.1 p1.2 (ns.map encT)), (1, .sl 29 5 p2.1 p2.2 (ms.map encLn)), (2, .sl 35 8 p3.1 p3.2 (fs.map encFl)), (3, .blk b2 [.slice p1.1 ns.length p1.2, .slice p2.1 ms.length p2.2, .slice p3.1 fs.length p3.2])]) (fun (i, ns, ms, fs, p1, p2, p3, rest, Rk) => Rk) (fun (i, ns, ms, fs, p1, p2, p3, rest, Rk) => rest.length) ((0, [], [], [], (none, 0), (none, 0), (none, 0), s, R)) (⟨RLe.refl _, by omega, ⟨Nat.le_refl _, Nat.le_refl _, Nat.le_refl _⟩, rfl, fun x h => (by cases h), fun m h => (by cases h), fun m h => (by cases h)⟩) ⟨rfl, rfl, rfl, rfl⟩ (RLe.refl _) qS ?_
  intro zz hst
  obtain ⟨i, ns, ms, fs, p1, p2, p3, rest, Rk⟩ := zz
  dsimp only [zipE, setAll, List.cons_append, List.nil_append, List.set_cons_zero, List.set_cons_succ] at hst ⊢
  obtain ⟨hRk, hil, ⟨hnl, hml, hfl⟩, hpg, hnn, hom, hof⟩ := hst
  obtain ⟨a1, c1⟩ := p1
  obtain ⟨a2, c2⟩ := p2
  obtain ⟨a3, c3⟩ := p3
  dsimp only
  have hG := hG.mono hRk
  refine zQ (zQ (zG (zR 1 rfl ?_)))
  refine WG.y rfl rfl qD (Yl.neS rfl rfl rfl (fun _ => rfl)) ?_
  refine zN (zU ?_)
  refine W.cond rfl (fun hc1 => ?_) (fun hc1 => ?_)
  ·try simp only [zk] at hc1
   have hne : rest ≠ [] := fun h => hc1 (by rw [h]; rfl)
   obtain ⟨x, more, en, hcut, hfx⟩ := cut_rows rest hne
   refine zK (zU (zB (zQ (zG (zR 1 rfl ?_)))))
   refine yA ?_
   refine zR 1 rfl (zN (zU (zQ (zG (zR 1 rfl ?_)))))
   refine WG.callV en51 rfl rfl qD (CallOp.mk' rfl rfl rfl rfl) (fun _ => rfl) (fun hg => Cut03_V hG (s := rest) (sep := [10]) qO) ?_
   rw [hcut]
   refine zR 7 rfl (zN (zU (zQ (zQ ?_))))
   rcases hfx with ⟨rfl, hfa, hfb⟩ | ⟨rfl, hfa, hfb⟩
   ·
    have hxl : x.length + 1 + more.length = rest.length := by rw [hfa, List.length_append, List.length_cons]; omega
    rw [hfb] at hpg
    refine zG (zR 3 rfl ?_)
    refine yP ?_
    refine WL.callT en52 rfl rfl rfl qD (CallOp.mk' rfl rfl rfl rfl) rfl (Take_C hG (s := x) qO qO qO qO hnn w0 _) ?_
    rintro _ R2 _ hR2 ⟨ok, a1', a2', a3', c1', c2', c3', ns', ms', fs', rfl, rfl, htk⟩
    have hRR := hRk.trans hR2
    refine yP ?_
    refine yO ?_
    refine zN (zU ?_)
    refine W.cond rfl (fun hc2 => ?_) (fun hc2 => ?_)
    ·try simp only [zk] at hc2
     have hok : ok = false := by simpa using hc2
     have htn : takeS (ns, ms.map (·.L), fs.map (·.f)) x = none := take_none (hok ▸ htk)
     refine W.nil 35 8 qD ?_
     refine zQ (zG ?_)
     -- build
     refine WG.y rfl rfl qD (Yl.build (parts := []) tab_ok rfl rfl rfl rfl (fun _ => rfl) rfl rfl) ?_
     refine zR 1 rfl ?_
     refine zE 4 ?_
     refine zR 2 rfl (zN (zU (zT (wt (wb (wt (wb (wt ?_))))))))
     refine WE.retFS (E' := (.sl 35 8 none 0 [] :: E)) qS tab_ok [_, _, _] rfl ⟨⟨_, _, _, rfl, rfl, rfl, qB, rfl⟩, rfl, rfl, trivial⟩ qR ?_
     have hpg2 := hpg.symm.trans (par_none htn)
     exact ⟨none, none, none, 0, 0, 0, [], [], [], _, 4, rfl, ⟨by simp, .inl rfl, by simp⟩, ⟨by simp, .inl rfl, by simp⟩, (fun m h => by cases h), (fun m h => by cases h), (fun x h => by cases h), Nat.le_refl _, Nat.le_refl _, Nat.le_refl _, by rw [hpn, hpg2, if_pos (by show (4 : Int) ≠ 0; decide)]; rfl, rfl⟩
    ·try simp only [zk] at hc2
     have hok : ok = true := by simpa using hc2
     obtain ⟨hts, hnl2, hml2, hfl2, hnn2, hom2, hof2⟩ := take_some (hok ▸ htk) hR2 hnn (by omega) hom hof
     refine zK (zU (zG (zR 2 rfl (zN (zL ?_)))))
     refine WE.again ((i + 1, ns', ms', fs', (a1', c1'), (a2', c2'), (a3', c3'), more, R2)) (⟨hRR, by dsimp only; omega, ⟨by dsimp only; omega, by dsimp only; omega, by dsimp only; omega⟩, (par_some hts).symm.trans hpg, hnn2, hom2, hof2⟩) (by show more.length < rest.length; omega) ⟨rfl, rfl, rfl, rfl⟩ (RLe.refl _) qS
   ·
    rw [hfb] at hpg
    refine zG (zR 3 rfl ?_)
    refine yP ?_
    refine WG.callV (v := .bool false) (vs := [.pointer (some ⟨b2, 0, none⟩), .string (str x)]) en52 rfl rfl qD (CallOp.mk' rfl rfl rfl rfl) (by intro h; cases h) (fun h => by cases h) ?_
    refine yP ?_
    refine yO ?_
    refine zN (zU ?_)
    refine W.cond rfl (fun hc2 => ?_) (fun hc2 => ?_)
    ·try simp only [zk] at hc2
     refine W.nil 35 8 qD ?_
     refine zQ (zG ?_)
     -- build
     refine WG.y rfl rfl qD (Yl.build (parts := []) tab_ok rfl rfl rfl rfl (fun _ => rfl) rfl rfl) ?_
     refine zR 1 rfl ?_
     refine zE 4 ?_
     refine zR 2 rfl (zN (zU (zT (wt (wb (wt (wb (wt ?_))))))))
     refine WE.retFS (E' := (.sl 35 8 none 0 [] :: E)) qS tab_ok [_, _, _] rfl ⟨⟨_, _, _, rfl, rfl, rfl, qB, rfl⟩, rfl, rfl, trivial⟩ qR ?_
     have hpg2 : parGo zNt 0 (splC 10 s) = (zNt, (i : Int) + 1, 4) := by rw [← hpg, parGo, if_neg (by rw [hfa]; exact hne)]
     exact ⟨none, none, none, 0, 0, 0, [], [], [], _, 4, rfl, ⟨by simp, .inl rfl, by simp⟩, ⟨by simp, .inl rfl, by simp⟩, (fun m h => by cases h), (fun m h => by cases h), (fun x h => by cases h), Nat.le_refl _, Nat.le_refl _, Nat.le_refl _, by rw [hpn, hpg2, if_pos (by show (4 : Int) ≠ 0; decide)]; rfl, rfl⟩
    ·try simp only [zk] at hc2
     (simp at hc2; done)
  ·try simp only [zk] at hc1
   have hnil : rest = [] := str_inj (b := []) (by first | exact hc1 | exact Classical.not_not.1 hc1)
   rw [hnil] at hpg
   have hpz : parGo zNt 0 (splC 10 s) = ((ns, ms.map (·.L), fs.map (·.f)), 0, 0) := hpg.symm
   rw [hpz, if_neg (fun h => h rfl)] at hpn
   have hpn : parN s = if chkNet ns (ms.map (·.L)) (fs.map (·.f)) ≠ 0 then (zNt, 0, chkNet ns (ms.map (·.L)) (fs.map (·.f))) else ((ns, ms.map (·.L), fs.map (·.f)), 0, 0) := hpn
   refine zX ?_
   refine wx (wx (zY (zU (zQ ?_))))
   refine W.cap 0 rfl ?_
   intro hcl1
   refine W.cap 1 rfl ?_
   intro hcl2
   refine W.cap 2 rfl ?_
   intro hcl3
   refine W.freeze (enc := encT) (xs := ns) 0 rfl ?_
   intro R3 hR3 hna
   refine W.freeze (enc := encLn) (xs := ms) 0 rfl ?_
   intro R4 hR4 hla
   have hna := hna.mono hR4
   have hRkz := hR3.trans hR4
   have hRR := hRk.trans hRkz
   refine zQ (zG ?_)
   refine yL (Rd.blk 1 rfl) ?_
   refine WG.callE en32 rfl rfl qD (CallOp.mk' rfl rfl rfl rfl) (fun _ => rfl) (fun hg => NCheck_E hna hla (LsF.own 0 rfl qO) (fun m hm => (hom m hm).mono hRkz) (fun m hm => (hof m hm).1.mono hRkz) hnn w0) ?_
   refine zR 1 rfl (zN (zU (zQ (zG (zR 2 rfl (zN (zU ?_)))))))
   refine W.condN rfl (fun hc3 => ?_) (fun hc3 => ?_)
   ·try dsimp only at hc3
    refine W.nil 35 8 qD ?_
    refine zQ (zG ?_)
    -- build
    refine WG.y rfl rfl qD (Yl.build (parts := []) tab_ok rfl rfl rfl rfl (fun _ => rfl) rfl rfl) ?_
    refine zR 1 rfl ?_
    refine zE 2 ?_
    refine zR 2 rfl (zN (zU (zT (wt ?_))))
    refine WE.retFS (E' := (.sl 35 8 none 0 [] :: E)) qS tab_ok [_, _, _] rfl ⟨⟨_, _, _, rfl, rfl, rfl, qB, rfl⟩, rfl, rfl, trivial⟩ qR ?_
    exact ⟨none, none, none, 0, 0, 0, [], [], [], _, _, rfl, ⟨by simp, .inl rfl, by simp⟩, ⟨by simp, .inl rfl, by simp⟩, (fun m h => by cases h), (fun m h => by cases h), (fun x h => by cases h), Nat.le_refl _, Nat.le_refl _, Nat.le_refl _, by rw [hpn, if_pos hc3]; rfl, rfl⟩
   ·try dsimp only at hc3
    refine zK (zU (zQ (zG ?_)))
    refine yL (Rd.blk 1 rfl) ?_
    refine zE 1 ?_
    refine zR 2 rfl (zN (zU (zT ?_)))
    refine WE.retFS (E' := (.sl 35 8 a3 c3 (fs.map encFl) :: E)) qS tab_ok [_, _, _] rfl ⟨⟨_, _, _, rfl, rfl, rfl, qB, rfl⟩, rfl, rfl, trivial⟩ qR ?_
    exact ⟨a1, a2, a3, c1, c2, c3, ns, ms, fs, 0, 0, rfl, hna, hla, (fun m h => (hom m h).mono hRkz), (fun x h => ⟨(hof x h).1.mono hRkz, (hof x h).2⟩), hnn, by simpa using hcl1, by simpa using hcl2, by simpa using hcl3, by rw [hpn, if_neg (fun h => h (by first | exact hc3 | exact Classical.not_not.1 hc3))], rfl⟩



theorem Range_C {R : Ro} {b : Nat} {a : Option Addr} {cp : Nat} {xs : List Int} {c : Nat} (w0 : World) {lo hi : Int} (ha : K.RS R 1 encI a xs) (hlo : -1000000 ≤ lo ∧ lo ≤ hi) (hhi : hi ≤ 1000000) : FnAt Tryz.prog 25 [.pointer (some ⟨b, 0, none⟩), .int .i64 lo, .int .i64 hi] w0 R (srcE b a cp xs c) (RdPost (.int .i64 (lo + mod (nth xs c) (hi - lo + 1))) R (srcE b a cp xs (c + 1))) := by
 intro F
 have hmr := mod_range (nth xs c) (show (1 : Int) ≤ hi - lo + 1 by omega)
 refine fE 15 Tryz.func25 ?_
 refine zQ (zG (zR 1 rfl (zN (zU (zQ (zG (zR 4 rfl ?_)))))))
 refine yS ?_
 refine yA ?_
 refine WL.callAt 0 en17 rfl rfl qD (CallOp.mkT rfl rfl rfl rfl) rfl (N_C w0 ha (by constructor <;> omega) _) ?_
 rintro _ _ _ _ - ⟨rfl, rfl, rfl, rfl⟩
 refine yA ?_
 refine zR 1 rfl (zN (zU (zT ?_)))
 refine WE.retF tab_ok [_] rfl ⟨rfl, trivial⟩ (RLe.refl _) ?_
 exact ⟨_, [], rfl, rfl, rfl, rfl, rfl⟩



set_option maxHeartbeats 4000000 in
theorem Port2_C {R : Ro} {b : Nat} {a : Option Addr} {cp : Nat} {xs : List Int} {c : Nat} (w0 : World) (ha : K.RS R 1 encI a xs) : FnAt Tryz.prog 26 [.pointer (some ⟨b, 0, none⟩), .int .i64 2] w0 R (srcE b a cp xs c) (fun v R' e' N => ∃ (L : Ln) (aw at_ : Option Addr) (cw ct cn : Nat), v = .agg #[.int .i64 L.kind, .int .i64 L.cap, .int .i64 L.n, .slice aw L.w.length cw, .slice at_ L.tb.length ct] ∧ K.RS R' 1 encI aw L.w ∧ K.RS R' 1 encI at_ L.tb ∧ DrawP 2 L ∧ e' = srcE b a cp xs cn ∧ N = []) := by
 intro F
 refine fE 85 Tryz.func26 ?_
 refine zQ (zG ?_)
 refine zA fun b4 => ?_
 refine zN (zU (zQ (zG (zR 1 rfl ?_))))
 refine WL.callAt 1 en25 rfl rfl qD (CallOp.mkT rfl rfl rfl rfl) rfl (Range_C (lo := 4) (hi := 24) w0 ha qO qO _) ?_
 rintro _ _ _ _ - ⟨rfl, rfl, rfl, rfl⟩
 have hm0 := mod_range (nth xs (c)) (show (1 : Int) ≤ 24 - 4 + 1 by omega)
 refine zR 1 rfl ?_
 -- build
 refine WG.y rfl rfl qD (Yl.build (parts := [(0, .const (.int .i64 1)), (1, .tmp 11), (2, .tmp 12)]) tab_ok rfl rfl rfl rfl (fun _ => rfl) rfl rfl) ?_
 refine zA fun b5 => ?_
 refine zE 0 ?_
 refine zN (zU (zQ (zQ (zG (zR 3 rfl ?_)))))
 refine yP ?_
 refine WG.callV (v := .int .i64 0) (vs := [.pointer (some ⟨b, 0, none⟩), .int .i64 3]) en17 rfl rfl qD (CallOp.mk' rfl rfl rfl rfl) (by intro h; cases h) (fun h => by cases h) ?_
 refine yP ?_
 refine yN ?_
 refine zN (zU ?_)
 refine W.cond rfl (fun hc0 => ?_) (fun hc0 => ?_)
 ·try simp only [zk] at hc0
  exact absurd hc0.1 qD
 ·try simp only [zk] at hc0
  refine zK (zU (zQ (zQ (zG (zR 1 rfl ?_)))))
  refine WL.callAt 2 en17 rfl rfl qD (CallOp.mkT rfl rfl rfl rfl) rfl (N_C w0 ha (by constructor <;> decide) _) ?_
  rintro _ _ _ _ - ⟨rfl, rfl, rfl, rfl⟩
  have hm1 := mod_range (nth xs (c + 1)) (show (1 : Int) ≤ 4 by decide)
  refine zN (zU (zB (zQ (zG (zR 2 rfl (zN (zU ?_)))))))
  refine W.condE rfl (fun hc1 => ?_) (fun hc1 => ?_)
  ·try dsimp only at hc1
   refine zG (zR 1 rfl ?_)
   refine zF 0 ?_
   refine zN (zL (zU (zQ (zG ?_))))
   refine yL (Rd.blk 0 rfl) ?_
   refine zE 1 ?_
   refine zN (zU (zT ?_))
   refine WE.retFS (E' := srcE b a cp xs (c + 1 + 1) :: F) qS tab_ok [_] rfl ⟨⟨_, _, _, rfl, rfl, rfl, qB, rfl⟩, trivial⟩ (by first | assumption | exact RLe.refl _) ?_
   exact ⟨_, [], rfl, ⟨2, (4 + mod (nth xs c) (24 - 4 + 1)), 2, [], []⟩, none, none, 0, 0, _, rfl, rs_nil, rs_nil, ⟨by dsimp only; omega, rfl, by dsimp only; omega, fun _ => ⟨rfl, rfl⟩, fun h => by dsimp only at h; omega, fun h => by dsimp only at h; omega, fun h => by dsimp only at h; omega, fun h => by dsimp only at h; omega⟩, rfl, rfl⟩
  ·try dsimp only at hc1
   refine zQ (zG (zR 2 rfl (zN (zU ?_))))
   refine W.condE rfl (fun hc2 => ?_) (fun hc2 => ?_)
   ·try dsimp only at hc2
    refine zQ (zG (zR 1 rfl ?_))
    refine zF 0 ?_
    refine zN (zU ?_)
    refine W.nil 3 1 qD ?_
    refine zQ (zG (zR 1 rfl (zN (zU (zB ?_)))))
    refine W.loopK (β := Nat × List Int × Nat × Option Addr × Nat) (fun (i, ys, cn, a9, c9) => ys.length = i ∧ i ≤ 2 ∧ ∀ y ∈ ys, 1 ≤ y ∧ y ≤ 3) (fun (i, ys, cn, a9, c9) => [(6, true, .int .i64 (i : Int))]) [0, 1, 4, 5] [_, _, _, _] [] _ rfl (fun (i, ys, cn, a9, c9) => [(0, .sl 3 1 a9 c9 (ys.map encI)), (1, .blk b5 [.int .i64 3, .int .i64 (4 + mod (nth xs c) (24 - 4 + 1)), .int .i64 2, .slice a9 ys.length c9, .slice none 0 0]), (3, srcE b a cp xs cn)]) (fun (i, ys, cn, a9, c9) => 2 - i) ((0, [], c + 1 + 1, none, 0)) (⟨rfl, Nat.zero_le _, fun y h => (by cases h)⟩) ⟨rfl, rfl, rfl, rfl, rfl, rfl⟩ qS ?_
    intro zz hst
    obtain ⟨i, ys, cn, a9, c9⟩ := zz
    dsimp only [zipE, setAll, List.cons_append, List.nil_append, List.set_cons_zero, List.set_cons_succ] at hst ⊢
    obtain ⟨hy1, hy2, hy3⟩ := hst
    refine zQ (zQ (zG (zR 3 rfl (zN (zU ?_)))))
    refine W.condD rfl (fun hc3 => ?_) (fun hc3 => ?_)
    ·try dsimp only at hc3
     refine zK (zU (zQ (zB ?_)))
     refine W.regionH _ (ES := (.blk b4 [.int .i64 0, .int .i64 0, .int .i64 0, .slice none 0 0, .slice none 0 0] :: F)) mixed ?_
     refine tP 0 ?_
     refine tP 2 ?_
     refine WA.br2 (i := 1) (j := 3) qK ?_ ?_
     ·
      refine sL (Rd.add (Rd.blk 1 rfl) _) ?_
      refine WA.callAt 3 3 rfl qK en25 rfl rfl qD (CallOp.mkT rfl rfl rfl rfl) rfl (Range_C (lo := 1) (hi := 3) w0 ha qO qO _) ?_
      rintro _ _ _ _ - ⟨rfl, rfl, rfl, rfl⟩
      refine ⟨RLe.refl _, qS, ?_⟩
      have hm9 := mod_range (nth xs cn) (show (1 : Int) ≤ 3 - 1 + 1 by omega)
      refine WA.eff 4 rfl qK rfl rfl qD (Ef.buildSliceD (enc := encI) (parts := [.tmp 65]) [_] tab_ok rfl rfl rfl rfl rfl rfl rfl rfl qD qD (fun a66 => ?_))
      refine ⟨qR, qS, ?_⟩
      refine WA.eff 5 rfl (by kernel_rfl) rfl rfl (by decide) (Ef.appendD 1 0 tab_ok rfl rfl rfl rfl rfl rfl rfl rfl rfl rfl rfl (fun _ _ => rfl) (by simp only [List.length_cons, List.length_nil]; omega) (by simp only [List.length_cons, List.length_nil]; omega) (fun a67 c67 ha67 => ?_))
      refine ⟨qR, qS, ?_⟩
      refine tP 6 ?_
      refine zCF 7 2 ?_
      refine WA.done qK ?_
      refine zL (zU (zG (zR 1 rfl ?_)))
      refine yA ?_
      refine zR 1 rfl (zN ?_)
      refine WE.again ((i + 1, ys ++ [1 + mod (nth xs cn) (3 - 1 + 1)], cn + 1, a67, c67)) (⟨by simp only [List.length_append, List.length_cons, List.length_nil]; omega, by omega, fun y hy => by rcases List.mem_append.1 hy with h | h; exact hy3 y h; have := List.mem_singleton.1 h; omega⟩) (by (try dsimp only); omega) ⟨rfl, rfl, rfl, rfl, rfl, rfl⟩ (RLe.refl _) qS
     ·
      refine WS.callAt 3 rfl en25 rfl rfl qD (CallOp.mkT rfl rfl rfl rfl) rfl (Range_C (lo := 1) (hi := 3) w0 ha qO qO _) ?_
      rintro _ _ _ _ - ⟨rfl, rfl, rfl, rfl⟩
      refine ⟨RLe.refl _, qS, ?_⟩
      have hm9 := mod_range (nth xs cn) (show (1 : Int) ≤ 3 - 1 + 1 by omega)
      refine WA.br2 (i := 1) (j := 4) qK ?_ ?_
      ·
       refine sL (Rd.add (Rd.blk 1 rfl) _) ?_
       refine WA.eff 4 rfl qK rfl rfl qD (Ef.buildSliceD (enc := encI) (parts := [.tmp 65]) [_] tab_ok rfl rfl rfl rfl rfl rfl rfl rfl qD qD (fun a66 => ?_))
       refine ⟨qR, qS, ?_⟩
       refine WA.eff 5 rfl (by kernel_rfl) rfl rfl (by decide) (Ef.appendD 1 0 tab_ok rfl rfl rfl rfl rfl rfl rfl rfl rfl rfl rfl (fun _ _ => rfl) (by simp only [List.length_cons, List.length_nil]; omega) (by simp only [List.length_cons, List.length_nil]; omega) (fun a67 c67 ha67 => ?_))
       refine ⟨qR, qS, ?_⟩
       refine tP 6 ?_
       refine zCF 7 2 ?_
       refine WA.done qK ?_
       refine zL (zU (zG (zR 1 rfl ?_)))
       refine yA ?_
       refine zR 1 rfl (zN ?_)
       refine WE.again ((i + 1, ys ++ [1 + mod (nth xs cn) (3 - 1 + 1)], cn + 1, a67, c67)) (⟨by simp only [List.length_append, List.length_cons, List.length_nil]; omega, by omega, fun y hy => by rcases List.mem_append.1 hy with h | h; exact hy3 y h; have := List.mem_singleton.1 h; omega⟩) (by (try dsimp only); omega) ⟨rfl, rfl, rfl, rfl, rfl, rfl⟩ (RLe.refl _) qS
      ·
       refine WS.eff rfl rfl rfl qD (Ef.buildSliceD (enc := encI) (parts := [.tmp 65]) [_] tab_ok rfl rfl rfl rfl rfl rfl rfl rfl qD qD (fun a66 => ?_))
       refine ⟨qR, qS, ?_⟩
       refine lL 1 (Rd.add (Rd.blk 2 rfl) _) ?_
       refine WA.eff 5 rfl (by kernel_rfl) rfl rfl (by decide) (Ef.appendD 1 0 tab_ok rfl rfl rfl rfl rfl rfl rfl rfl rfl rfl rfl (fun _ _ => rfl) (by simp only [List.length_cons, List.length_nil]; omega) (by simp only [List.length_cons, List.length_nil]; omega) (fun a67 c67 ha67 => ?_))
       refine ⟨qR, qS, ?_⟩
       refine tP 6 ?_
       refine zCF 7 2 ?_
       refine WA.done qK ?_
       refine zL (zU (zG (zR 1 rfl ?_)))
       refine yA ?_
       refine zR 1 rfl (zN ?_)
       refine WE.again ((i + 1, ys ++ [1 + mod (nth xs cn) (3 - 1 + 1)], cn + 1, a67, c67)) (⟨by simp only [List.length_append, List.length_cons, List.length_nil]; omega, by omega, fun y hy => by rcases List.mem_append.1 hy with h | h; exact hy3 y h; have := List.mem_singleton.1 h; omega⟩) (by (try dsimp only); omega) ⟨rfl, rfl, rfl, rfl, rfl, rfl⟩ (RLe.refl _) qS
    ·try dsimp only at hc3
     refine W.freeze (enc := encI) (xs := ys) 0 rfl ?_
     intro R1 hR1 hwz
     refine zX ?_
     refine wx (wx (zY (zL (zU (zQ (zG ?_))))))
     refine yL (Rd.blk 0 rfl) ?_
     refine zE 1 ?_
     refine zN (zU (zT ?_))
     refine WE.retFS (E' := srcE b a cp xs (cn) :: F) qS tab_ok [_] rfl ⟨⟨_, _, _, rfl, rfl, rfl, qB, rfl⟩, trivial⟩ (by first | assumption | exact RLe.refl _) ?_
     exact ⟨_, [], rfl, ⟨3, (4 + mod (nth xs c) (24 - 4 + 1)), 2, ys, []⟩, _, none, _, 0, _, rfl, hwz, rs_nil, ⟨by dsimp only; omega, rfl, by dsimp only; omega, fun h => by dsimp only at h; omega, fun h => by dsimp only at h; omega, fun _ => ⟨by dsimp only; omega, hy3, rfl⟩, fun h => by dsimp only at h; omega, fun h => by dsimp only at h; omega⟩, rfl, rfl⟩
   ·try dsimp only at hc2
    refine zQ (zG (zR 2 rfl (zN (zU ?_))))
    refine W.condE rfl (fun hc4 => ?_) (fun hc4 => ?_)
    ·try dsimp only at hc4
     refine zQ (zG (zR 1 rfl ?_))
     refine zF 0 ?_
     refine zN (zU ?_)
     refine W.nil 3 1 qD ?_
     refine zQ (zG (zR 1 rfl (zN (zU (zB ?_)))))
     refine W.loopK (β := Nat × List Int × Nat × Option Addr × Nat) (fun (i, ys, cn, a9, c9) => ys.length = i ∧ i ≤ 2 ∧ ∀ y ∈ ys, 8 ≤ y ∧ y ≤ 20) (fun (i, ys, cn, a9, c9) => [(7, true, .int .i64 (i : Int))]) [0, 1, 4, 5] [_, _, _, _] [] _ rfl (fun (i, ys, cn, a9, c9) => [(0, .sl 3 1 a9 c9 (ys.map encI)), (1, .blk b5 [.int .i64 4, .int .i64 (4 + mod (nth xs c) (24 - 4 + 1)), .int .i64 2, .slice a9 ys.length c9, .slice none 0 0]), (3, srcE b a cp xs cn)]) (fun (i, ys, cn, a9, c9) => 2 - i) ((0, [], c + 1 + 1, none, 0)) (⟨rfl, Nat.zero_le _, fun y h => (by cases h)⟩) ⟨rfl, rfl, rfl, rfl, rfl, rfl⟩ qS ?_
     intro zz hst
     obtain ⟨i, ys, cn, a9, c9⟩ := zz
     dsimp only [zipE, setAll, List.cons_append, List.nil_append, List.set_cons_zero, List.set_cons_succ] at hst ⊢
     obtain ⟨hy1, hy2, hy3⟩ := hst
     refine zQ (zQ (zG (zR 3 rfl (zN (zU ?_)))))
     refine W.condD rfl (fun hc5 => ?_) (fun hc5 => ?_)
     ·try dsimp only at hc5
      refine zK (zU (zQ (zB ?_)))
      refine W.regionH _ (ES := (.blk b4 [.int .i64 0, .int .i64 0, .int .i64 0, .slice none 0 0, .slice none 0 0] :: F)) mixed ?_
      refine tP 0 ?_
      refine tP 2 ?_
      refine WA.br2 (i := 1) (j := 3) qK ?_ ?_
      ·
       refine sL (Rd.add (Rd.blk 1 rfl) _) ?_
       refine WA.callAt 3 3 rfl qK en25 rfl rfl qD (CallOp.mkT rfl rfl rfl rfl) rfl (Range_C (lo := 8) (hi := 20) w0 ha qO qO _) ?_
       rintro _ _ _ _ - ⟨rfl, rfl, rfl, rfl⟩
       refine ⟨RLe.refl _, qS, ?_⟩
       have hm9 := mod_range (nth xs cn) (show (1 : Int) ≤ 20 - 8 + 1 by omega)
       refine WA.eff 4 rfl qK rfl rfl qD (Ef.buildSliceD (enc := encI) (parts := [.tmp 80]) [_] tab_ok rfl rfl rfl rfl rfl rfl rfl rfl qD qD (fun a81 => ?_))
       refine ⟨qR, qS, ?_⟩
       refine WA.eff 5 rfl (by kernel_rfl) rfl rfl (by decide) (Ef.appendD 1 0 tab_ok rfl rfl rfl rfl rfl rfl rfl rfl rfl rfl rfl (fun _ _ => rfl) (by simp only [List.length_cons, List.length_nil]; omega) (by simp only [List.length_cons, List.length_nil]; omega) (fun a82 c82 ha82 => ?_))
       refine ⟨qR, qS, ?_⟩
       refine tP 6 ?_
       refine zCF 7 2 ?_
       refine WA.done qK ?_
       refine zL (zU (zG (zR 1 rfl ?_)))
       refine yA ?_
       refine zR 1 rfl (zN ?_)
       refine WE.again ((i + 1, ys ++ [8 + mod (nth xs cn) (20 - 8 + 1)], cn + 1, a82, c82)) (⟨by simp only [List.length_append, List.length_cons, List.length_nil]; omega, by omega, fun y hy => by rcases List.mem_append.1 hy with h | h; exact hy3 y h; have := List.mem_singleton.1 h; omega⟩) (by (try dsimp only); omega) ⟨rfl, rfl, rfl, rfl, rfl, rfl⟩ (RLe.refl _) qS
      ·
       refine WS.callAt 3 rfl en25 rfl rfl qD (CallOp.mkT rfl rfl rfl rfl) rfl (Range_C (lo := 8) (hi := 20) w0 ha qO qO _) ?_
       rintro _ _ _ _ - ⟨rfl, rfl, rfl, rfl⟩
       refine ⟨RLe.refl _, qS, ?_⟩
       have hm9 := mod_range (nth xs cn) (show (1 : Int) ≤ 20 - 8 + 1 by omega)
       refine WA.br2 (i := 1) (j := 4) qK ?_ ?_
       ·
        refine sL (Rd.add (Rd.blk 1 rfl) _) ?_
        refine WA.eff 4 rfl qK rfl rfl qD (Ef.buildSliceD (enc := encI) (parts := [.tmp 80]) [_] tab_ok rfl rfl rfl rfl rfl rfl rfl rfl qD qD (fun a81 => ?_))
        refine ⟨qR, qS, ?_⟩
        refine WA.eff 5 rfl (by kernel_rfl) rfl rfl (by decide) (Ef.appendD 1 0 tab_ok rfl rfl rfl rfl rfl rfl rfl rfl rfl rfl rfl (fun _ _ => rfl) (by simp only [List.length_cons, List.length_nil]; omega) (by simp only [List.length_cons, List.length_nil]; omega) (fun a82 c82 ha82 => ?_))
        refine ⟨qR, qS, ?_⟩
        refine tP 6 ?_
        refine zCF 7 2 ?_
        refine WA.done qK ?_
        refine zL (zU (zG (zR 1 rfl ?_)))
        refine yA ?_
        refine zR 1 rfl (zN ?_)
        refine WE.again ((i + 1, ys ++ [8 + mod (nth xs cn) (20 - 8 + 1)], cn + 1, a82, c82)) (⟨by simp only [List.length_append, List.length_cons, List.length_nil]; omega, by omega, fun y hy => by rcases List.mem_append.1 hy with h | h; exact hy3 y h; have := List.mem_singleton.1 h; omega⟩) (by (try dsimp only); omega) ⟨rfl, rfl, rfl, rfl, rfl, rfl⟩ (RLe.refl _) qS
       ·
        refine WS.eff rfl rfl rfl qD (Ef.buildSliceD (enc := encI) (parts := [.tmp 80]) [_] tab_ok rfl rfl rfl rfl rfl rfl rfl rfl qD qD (fun a81 => ?_))
        refine ⟨qR, qS, ?_⟩
        refine lL 1 (Rd.add (Rd.blk 2 rfl) _) ?_
        refine WA.eff 5 rfl (by kernel_rfl) rfl rfl (by decide) (Ef.appendD 1 0 tab_ok rfl rfl rfl rfl rfl rfl rfl rfl rfl rfl rfl (fun _ _ => rfl) (by simp only [List.length_cons, List.length_nil]; omega) (by simp only [List.length_cons, List.length_nil]; omega) (fun a82 c82 ha82 => ?_))
        refine ⟨qR, qS, ?_⟩
        refine tP 6 ?_
        refine zCF 7 2 ?_
        refine WA.done qK ?_
        refine zL (zU (zG (zR 1 rfl ?_)))
        refine yA ?_
        refine zR 1 rfl (zN ?_)
        refine WE.again ((i + 1, ys ++ [8 + mod (nth xs cn) (20 - 8 + 1)], cn + 1, a82, c82)) (⟨by simp only [List.length_append, List.length_cons, List.length_nil]; omega, by omega, fun y hy => by rcases List.mem_append.1 hy with h | h; exact hy3 y h; have := List.mem_singleton.1 h; omega⟩) (by (try dsimp only); omega) ⟨rfl, rfl, rfl, rfl, rfl, rfl⟩ (RLe.refl _) qS
     ·try dsimp only at hc5
      refine W.freeze (enc := encI) (xs := ys) 0 rfl ?_
      intro R1 hR1 hwz
      refine zX ?_
      refine wx (wx (zY (zL (zU (zQ (zG ?_))))))
      refine yL (Rd.blk 0 rfl) ?_
      refine zE 1 ?_
      refine zN (zU (zT ?_))
      refine WE.retFS (E' := srcE b a cp xs (cn) :: F) qS tab_ok [_] rfl ⟨⟨_, _, _, rfl, rfl, rfl, qB, rfl⟩, trivial⟩ (by first | assumption | exact RLe.refl _) ?_
      exact ⟨_, [], rfl, ⟨4, (4 + mod (nth xs c) (24 - 4 + 1)), 2, ys, []⟩, _, none, _, 0, _, rfl, hwz, rs_nil, ⟨by dsimp only; omega, rfl, by dsimp only; omega, fun h => by dsimp only at h; omega, fun h => by dsimp only at h; omega, fun h => by dsimp only at h; omega, fun _ => ⟨by dsimp only; omega, hy3, rfl⟩, fun h => by dsimp only at h; omega⟩, rfl, rfl⟩
    ·try dsimp only at hc4
     refine zQ (zG (zR 1 rfl ?_))
     refine zF 0 ?_
     refine zN (zU (zQ ?_))
     refine W.nil 3 1 qD ?_
     refine zQ (zG (zR 1 rfl (zN (zU (zB ?_)))))
     refine W.loopK (β := Nat × List Int × Option Addr × Nat) (fun (i, ys, a9, c9) => ys.length = i ∧ i ≤ 2 ∧ ∀ y ∈ ys, -1 ≤ y ∧ y ≤ (2 : Int) - 1) (fun (i, ys, a9, c9) => [(8, true, .int .i64 (i : Int))]) [0, 1, 4, 5] [_, _, _, _] [] _ rfl (fun (i, ys, a9, c9) => [(0, .sl 3 1 a9 c9 (ys.map encI)), (1, .blk b5 [.int .i64 5, .int .i64 (4 + mod (nth xs c) (24 - 4 + 1)), .int .i64 2, .slice none 0 0, .slice a9 ys.length c9])]) (fun (i, ys, a9, c9) => 2 - i) ((0, [], none, 0)) (⟨rfl, Nat.zero_le _, fun y h => (by cases h)⟩) ⟨rfl, rfl, rfl, rfl, rfl, rfl⟩ qS ?_
     intro zz hst
     obtain ⟨i, ys, a9, c9⟩ := zz
     dsimp only [zipE, setAll, List.cons_append, List.nil_append, List.set_cons_zero, List.set_cons_succ] at hst ⊢
     obtain ⟨hy1, hy2, hy3⟩ := hst
     refine zQ (zQ (zG (zR 3 rfl (zN (zU ?_)))))
     refine W.condD rfl (fun hc6 => ?_) (fun hc6 => ?_)
     ·try dsimp only at hc6
      refine zK (zU (zQ (zB (zG (zR 1 rfl ?_)))))
      refine yL (Rd.add (Rd.blk 1 rfl) _) ?_
      refine zR 1 rfl ?_
      refine WL.ef rfl rfl qD (Ef.buildSliceD (enc := encI) (parts := [.tmp 32]) [_] tab_ok rfl rfl rfl rfl rfl rfl rfl rfl qD qD (fun a33 => ?_))
      refine WL.ef rfl rfl (by decide) (Ef.appendD 1 0 tab_ok rfl rfl rfl rfl rfl rfl rfl rfl rfl rfl rfl (fun _ _ => rfl) (by simp only [List.length_cons, List.length_nil]; omega) (by simp only [List.length_cons, List.length_nil]; omega) (fun a34 c34 ha34 => ?_))
      refine zR 1 rfl ?_
      refine zF 2 ?_
      refine zN (zL (zU (zG (zR 1 rfl ?_))))
      refine yA ?_
      refine zR 1 rfl (zN ?_)
      refine WE.again ((i + 1, ys ++ [(i : Int)], a34, c34)) (⟨by simp only [List.length_append, List.length_cons, List.length_nil]; omega, by omega, fun y hy => by rcases List.mem_append.1 hy with h | h; exact hy3 y h; have := List.mem_singleton.1 h; omega⟩) (by (try dsimp only); omega) ⟨rfl, rfl, rfl, rfl, rfl, rfl⟩ (RLe.refl _) qS
     ·try dsimp only at hc6
      refine zX ?_
      refine wx (wx (zY (zU (zQ (zG (zR 1 rfl ?_))))))
      refine WL.callAt 3 en17 rfl rfl qD (CallOp.mkT rfl rfl rfl rfl) rfl (N_C w0 ha (by constructor <;> decide) _) ?_
      rintro _ _ _ _ - ⟨rfl, rfl, rfl, rfl⟩
      have hm8 := mod_range (nth xs (c + 1 + 1)) (show (1 : Int) ≤ 3 by decide)
      obtain ⟨k8, hk8⟩ := Int.eq_ofNat_of_zero_le hm8.1
      rw [hk8]
      refine zR 1 rfl (zN (zU (zB ?_)))
      refine W.loopK (β := Nat × List Int × Nat × Option Addr × Nat) (fun (j, ys, cn, a9, c9) => 2 ≤ ys.length ∧ ys.length + j ≤ 4 ∧ ∀ y ∈ ys, -1 ≤ y ∧ y ≤ (2 : Int) - 1) (fun (j, ys, cn, a9, c9) => [(9, true, .int .i64 (j : Int))]) [0, 1, 4, 5] [_, _, _, _] [] _ rfl (fun (j, ys, cn, a9, c9) => [(0, .sl 3 1 a9 c9 (ys.map encI)), (1, .blk b5 [.int .i64 5, .int .i64 (4 + mod (nth xs c) (24 - 4 + 1)), .int .i64 2, .slice none 0 0, .slice a9 ys.length c9]), (3, srcE b a cp xs cn)]) (fun (j, ys, cn, a9, c9) => j) ((k8, ys, c + 1 + 1 + 1, a9, c9)) (⟨by (try dsimp only); omega, by (try dsimp only); omega, hy3⟩) ⟨rfl, rfl, rfl, rfl, rfl, rfl⟩ qS ?_
      intro zz hst
      obtain ⟨j, ys, cn, a9, c9⟩ := zz
      dsimp only [zipE, setAll, List.cons_append, List.nil_append, List.set_cons_zero, List.set_cons_succ] at hst ⊢
      obtain ⟨hy1, hy2, hy3⟩ := hst
      refine zQ (zQ (zG (zR 2 rfl (zN (zU ?_)))))
      refine W.condD rfl (fun hc7 => ?_) (fun hc7 => ?_)
      ·try dsimp only at hc7
       obtain ⟨j, rfl⟩ : ∃ m, j = m + 1 := ⟨j - 1, by omega⟩
       refine zK (zU (zQ (zB ?_)))
       refine W.regionH _ (ES := (.blk b4 [.int .i64 0, .int .i64 0, .int .i64 0, .slice none 0 0, .slice none 0 0] :: F)) mixed ?_
       refine tP 0 ?_
       refine tP 2 ?_
       refine tP 3 ?_
       refine tS 4 ?_
       refine WA.br2 (i := 1) (j := 5) qK ?_ ?_
       ·
        refine sL (Rd.add (Rd.blk 1 rfl) _) ?_
        refine WA.callAt 3 5 rfl qK en25 rfl rfl qD (CallOp.mkT rfl rfl rfl rfl) rfl (Range_C (lo := (-1)) (hi := (2 - 1)) w0 ha qO qO _) ?_
        rintro _ _ _ _ - ⟨rfl, rfl, rfl, rfl⟩
        refine ⟨RLe.refl _, qS, ?_⟩
        have hm9 := mod_range (nth xs cn) (show (1 : Int) ≤ (2 - 1) - (-1) + 1 by omega)
        refine WA.eff 6 rfl qK rfl rfl qD (Ef.buildSliceD (enc := encI) (parts := [.tmp 47]) [_] tab_ok rfl rfl rfl rfl rfl rfl rfl rfl qD qD (fun a48 => ?_))
        refine ⟨qR, qS, ?_⟩
        refine WA.eff 7 rfl (by kernel_rfl) rfl rfl (by decide) (Ef.appendD 1 0 tab_ok rfl rfl rfl rfl rfl rfl rfl rfl rfl rfl rfl (fun _ _ => rfl) (by simp only [List.length_cons, List.length_nil]; omega) (by simp only [List.length_cons, List.length_nil]; omega) (fun a49 c49 ha49 => ?_))
        refine ⟨qR, qS, ?_⟩
        refine tP 8 ?_
        refine zCF 9 2 ?_
        refine WA.done qK ?_
        refine zL (zU (zG (zR 1 rfl ?_)))
        refine yS ?_
        refine zR 1 rfl (zN ?_)
        refine WE.again ((j, ys ++ [-1 + mod (nth xs cn) ((2 - 1) - -1 + 1)], cn + 1, a49, c49)) (⟨by simp only [List.length_append, List.length_cons, List.length_nil]; omega, by simp only [List.length_append, List.length_cons, List.length_nil]; omega, fun y hy => by rcases List.mem_append.1 hy with h | h; exact hy3 y h; have := List.mem_singleton.1 h; omega⟩) (by (try dsimp only); omega) ⟨vint (by omega), rfl, rfl, rfl, rfl, rfl⟩ (RLe.refl _) qS
       ·
        refine WS.callAt 3 rfl en25 rfl rfl qD (CallOp.mkT rfl rfl rfl rfl) rfl (Range_C (lo := (-1)) (hi := (2 - 1)) w0 ha qO qO _) ?_
        rintro _ _ _ _ - ⟨rfl, rfl, rfl, rfl⟩
        refine ⟨RLe.refl _, qS, ?_⟩
        have hm9 := mod_range (nth xs cn) (show (1 : Int) ≤ (2 - 1) - (-1) + 1 by omega)
        refine WA.br2 (i := 1) (j := 6) qK ?_ ?_
        ·
         refine sL (Rd.add (Rd.blk 1 rfl) _) ?_
         refine WA.eff 6 rfl qK rfl rfl qD (Ef.buildSliceD (enc := encI) (parts := [.tmp 47]) [_] tab_ok rfl rfl rfl rfl rfl rfl rfl rfl qD qD (fun a48 => ?_))
         refine ⟨qR, qS, ?_⟩
         refine WA.eff 7 rfl (by kernel_rfl) rfl rfl (by decide) (Ef.appendD 1 0 tab_ok rfl rfl rfl rfl rfl rfl rfl rfl rfl rfl rfl (fun _ _ => rfl) (by simp only [List.length_cons, List.length_nil]; omega) (by simp only [List.length_cons, List.length_nil]; omega) (fun a49 c49 ha49 => ?_))
         refine ⟨qR, qS, ?_⟩
         refine tP 8 ?_
         refine zCF 9 2 ?_
         refine WA.done qK ?_
         refine zL (zU (zG (zR 1 rfl ?_)))
         refine yS ?_
         refine zR 1 rfl (zN ?_)
         refine WE.again ((j, ys ++ [-1 + mod (nth xs cn) ((2 - 1) - -1 + 1)], cn + 1, a49, c49)) (⟨by simp only [List.length_append, List.length_cons, List.length_nil]; omega, by simp only [List.length_append, List.length_cons, List.length_nil]; omega, fun y hy => by rcases List.mem_append.1 hy with h | h; exact hy3 y h; have := List.mem_singleton.1 h; omega⟩) (by (try dsimp only); omega) ⟨vint (by omega), rfl, rfl, rfl, rfl, rfl⟩ (RLe.refl _) qS
        ·
         refine WS.eff rfl rfl rfl qD (Ef.buildSliceD (enc := encI) (parts := [.tmp 47]) [_] tab_ok rfl rfl rfl rfl rfl rfl rfl rfl qD qD (fun a48 => ?_))
         refine ⟨qR, qS, ?_⟩
         refine lL 1 (Rd.add (Rd.blk 2 rfl) _) ?_
         refine WA.eff 7 rfl (by kernel_rfl) rfl rfl (by decide) (Ef.appendD 1 0 tab_ok rfl rfl rfl rfl rfl rfl rfl rfl rfl rfl rfl (fun _ _ => rfl) (by simp only [List.length_cons, List.length_nil]; omega) (by simp only [List.length_cons, List.length_nil]; omega) (fun a49 c49 ha49 => ?_))
         refine ⟨qR, qS, ?_⟩
         refine tP 8 ?_
         refine zCF 9 2 ?_
         refine WA.done qK ?_
         refine zL (zU (zG (zR 1 rfl ?_)))
         refine yS ?_
         refine zR 1 rfl (zN ?_)
         refine WE.again ((j, ys ++ [-1 + mod (nth xs cn) ((2 - 1) - -1 + 1)], cn + 1, a49, c49)) (⟨by simp only [List.length_append, List.length_cons, List.length_nil]; omega, by simp only [List.length_append, List.length_cons, List.length_nil]; omega, fun y hy => by rcases List.mem_append.1 hy with h | h; exact hy3 y h; have := List.mem_singleton.1 h; omega⟩) (by (try dsimp only); omega) ⟨vint (by omega), rfl, rfl, rfl, rfl, rfl⟩ (RLe.refl _) qS
      ·try dsimp only at hc7
       refine W.freeze (enc := encI) (xs := ys) 0 rfl ?_
       intro R1 hR1 hwz
       refine zX ?_
       refine wx (wx (zY (zL (zU (zQ (zG ?_))))))
       refine yL (Rd.blk 0 rfl) ?_
       refine zE 1 ?_
       refine zN (zU (zT ?_))
       refine WE.retFS (E' := srcE b a cp xs (cn) :: F) qS tab_ok [_] rfl ⟨⟨_, _, _, rfl, rfl, rfl, qB, rfl⟩, trivial⟩ (by first | assumption | exact RLe.refl _) ?_
       exact ⟨_, [], rfl, ⟨5, (4 + mod (nth xs c) (24 - 4 + 1)), 2, [], ys⟩, none, _, 0, _, _, rfl, rs_nil, hwz, ⟨by dsimp only; omega, rfl, by dsimp only; omega, fun h => by dsimp only at h; omega, fun h => by dsimp only at h; omega, fun h => by dsimp only at h; omega, fun h => by dsimp only at h; omega, fun _ => ⟨rfl, by dsimp only; omega, by dsimp only; omega, hy3⟩⟩, rfl, rfl⟩

set_option maxHeartbeats 4000000 in
theorem Port1_C {R : Ro} {b : Nat} {a : Option Addr} {cp : Nat} {xs : List Int} {c : Nat} (w0 : World) (ha : K.RS R 1 encI a xs) : FnAt Tryz.prog 26 [.pointer (some ⟨b, 0, none⟩), .int .i64 1] w0 R (srcE b a cp xs c) (fun v R' e' N => ∃ (L : Ln) (aw at_ : Option Addr) (cw ct cn : Nat), v = .agg #[.int .i64 L.kind, .int .i64 L.cap, .int .i64 L.n, .slice aw L.w.length cw, .slice at_ L.tb.length ct] ∧ K.RS R' 1 encI aw L.w ∧ K.RS R' 1 encI at_ L.tb ∧ DrawP 1 L ∧ e' = srcE b a cp xs cn ∧ N = []) := by
 intro F
 refine fE 85 Tryz.func26 ?_
 refine zQ (zG ?_)
 refine zA fun b4 => ?_
 refine zN (zU (zQ (zG (zR 1 rfl ?_))))
 refine WL.callAt 1 en25 rfl rfl qD (CallOp.mkT rfl rfl rfl rfl) rfl (Range_C (lo := 4) (hi := 24) w0 ha qO qO _) ?_
 rintro _ _ _ _ - ⟨rfl, rfl, rfl, rfl⟩
 have hm0 := mod_range (nth xs (c)) (show (1 : Int) ≤ 24 - 4 + 1 by omega)
 refine zR 1 rfl ?_
 -- build
 refine WG.y rfl rfl qD (Yl.build (parts := [(0, .const (.int .i64 1)), (1, .tmp 11), (2, .tmp 12)]) tab_ok rfl rfl rfl rfl (fun _ => rfl) rfl rfl) ?_
 refine zA fun b5 => ?_
 refine zE 0 ?_
 refine zN (zU (zQ (zQ (zG (zR 3 rfl ?_)))))
 refine yP ?_
 refine WL.callAtT 2 en17 rfl rfl (by rfl) qD (CallOp.mk' rfl rfl rfl rfl) rfl rfl (N_C (n := 3) w0 ha (by constructor <;> decide) _) ?_
 rintro _ _ _ _ - ⟨rfl, rfl, rfl, rfl⟩
 have hm2 := mod_range (nth xs (c + 1)) (show (1 : Int) ≤ 3 by decide)
 refine yP ?_
 refine yN ?_
 refine zN (zU ?_)
 refine W.cond rfl (fun hc0 => ?_) (fun hc0 => ?_)
 ·try simp only [zk] at hc0
  refine zQ (zG ?_)
  refine yL (Rd.blk 0 rfl) ?_
  refine zE 1 ?_
  refine zN (zU (zT (wt ?_)))
  refine WE.retFS (E' := srcE b a cp xs (c + 1 + 1) :: F) qS tab_ok [_] rfl ⟨⟨_, _, _, rfl, rfl, rfl, qB, rfl⟩, trivial⟩ (by first | assumption | exact RLe.refl _) ?_
  exact ⟨_, [], rfl, ⟨1, (4 + mod (nth xs c) (24 - 4 + 1)), 1, [], []⟩, none, none, 0, 0, _, rfl, rs_nil, rs_nil, ⟨by dsimp only; omega, rfl, by dsimp only; omega, fun _ => ⟨rfl, rfl⟩, fun _ => rfl, fun h => by dsimp only at h; omega, fun h => by dsimp only at h; omega, fun h => by dsimp only at h; omega⟩, rfl, rfl⟩
 ·try simp only [zk] at hc0
  refine zK (zU (zQ (zQ (zG (zR 1 rfl ?_)))))
  refine WL.callAt 2 en17 rfl rfl qD (CallOp.mkT rfl rfl rfl rfl) rfl (N_C w0 ha (by constructor <;> decide) _) ?_
  rintro _ _ _ _ - ⟨rfl, rfl, rfl, rfl⟩
  have hm1 := mod_range (nth xs (c + 1 + 1)) (show (1 : Int) ≤ 4 by decide)
  refine zN (zU (zB (zQ (zG (zR 2 rfl (zN (zU ?_)))))))
  refine W.condE rfl (fun hc1 => ?_) (fun hc1 => ?_)
  ·try dsimp only at hc1
   refine zG (zR 1 rfl ?_)
   refine zF 0 ?_
   refine zN (zL (zU (zQ (zG ?_))))
   refine yL (Rd.blk 0 rfl) ?_
   refine zE 1 ?_
   refine zN (zU (zT ?_))
   refine WE.retFS (E' := srcE b a cp xs (c + 1 + 1 + 1) :: F) qS tab_ok [_] rfl ⟨⟨_, _, _, rfl, rfl, rfl, qB, rfl⟩, trivial⟩ (by first | assumption | exact RLe.refl _) ?_
   exact ⟨_, [], rfl, ⟨2, (4 + mod (nth xs c) (24 - 4 + 1)), 1, [], []⟩, none, none, 0, 0, _, rfl, rs_nil, rs_nil, ⟨by dsimp only; omega, rfl, by dsimp only; omega, fun _ => ⟨rfl, rfl⟩, fun h => by dsimp only at h; omega, fun h => by dsimp only at h; omega, fun h => by dsimp only at h; omega, fun h => by dsimp only at h; omega⟩, rfl, rfl⟩
  ·try dsimp only at hc1
   refine zQ (zG (zR 2 rfl (zN (zU ?_))))
   refine W.condE rfl (fun hc2 => ?_) (fun hc2 => ?_)
   ·try dsimp only at hc2
    refine zQ (zG (zR 1 rfl ?_))
    refine zF 0 ?_
    refine zN (zU ?_)
    refine W.nil 3 1 qD ?_
    refine zQ (zG (zR 1 rfl (zN (zU (zB ?_)))))
    refine W.loopK (β := Nat × List Int × Nat × Option Addr × Nat) (fun (i, ys, cn, a9, c9) => ys.length = i ∧ i ≤ 1 ∧ ∀ y ∈ ys, 1 ≤ y ∧ y ≤ 3) (fun (i, ys, cn, a9, c9) => [(6, true, .int .i64 (i : Int))]) [0, 1, 4, 5] [_, _, _, _] [] _ rfl (fun (i, ys, cn, a9, c9) => [(0, .sl 3 1 a9 c9 (ys.map encI)), (1, .blk b5 [.int .i64 3, .int .i64 (4 + mod (nth xs c) (24 - 4 + 1)), .int .i64 1, .slice a9 ys.length c9, .slice none 0 0]), (3, srcE b a cp xs cn)]) (fun (i, ys, cn, a9, c9) => 1 - i) ((0, [], c + 1 + 1 + 1, none, 0)) (⟨rfl, Nat.zero_le _, fun y h => (by cases h)⟩) ⟨rfl, rfl, rfl, rfl, rfl, rfl⟩ qS ?_
    intro zz hst
    obtain ⟨i, ys, cn, a9, c9⟩ := zz
    dsimp only [zipE, setAll, List.cons_append, List.nil_append, List.set_cons_zero, List.set_cons_succ] at hst ⊢
    obtain ⟨hy1, hy2, hy3⟩ := hst
    refine zQ (zQ (zG (zR 3 rfl (zN (zU ?_)))))
    refine W.condD rfl (fun hc3 => ?_) (fun hc3 => ?_)
    ·try dsimp only at hc3
     refine zK (zU (zQ (zB ?_)))
     refine W.regionH _ (ES := (.blk b4 [.int .i64 0, .int .i64 0, .int .i64 0, .slice none 0 0, .slice none 0 0] :: F)) mixed ?_
     refine tP 0 ?_
     refine tP 2 ?_
     refine WA.br2 (i := 1) (j := 3) qK ?_ ?_
     ·
      refine sL (Rd.add (Rd.blk 1 rfl) _) ?_
      refine WA.callAt 3 3 rfl qK en25 rfl rfl qD (CallOp.mkT rfl rfl rfl rfl) rfl (Range_C (lo := 1) (hi := 3) w0 ha qO qO _) ?_
      rintro _ _ _ _ - ⟨rfl, rfl, rfl, rfl⟩
      refine ⟨RLe.refl _, qS, ?_⟩
      have hm9 := mod_range (nth xs cn) (show (1 : Int) ≤ 3 - 1 + 1 by omega)
      refine WA.eff 4 rfl qK rfl rfl qD (Ef.buildSliceD (enc := encI) (parts := [.tmp 65]) [_] tab_ok rfl rfl rfl rfl rfl rfl rfl rfl qD qD (fun a66 => ?_))
      refine ⟨qR, qS, ?_⟩
      refine WA.eff 5 rfl (by kernel_rfl) rfl rfl (by decide) (Ef.appendD 1 0 tab_ok rfl rfl rfl rfl rfl rfl rfl rfl rfl rfl rfl (fun _ _ => rfl) (by simp only [List.length_cons, List.length_nil]; omega) (by simp only [List.length_cons, List.length_nil]; omega) (fun a67 c67 ha67 => ?_))
      refine ⟨qR, qS, ?_⟩
      refine tP 6 ?_
      refine zCF 7 2 ?_
      refine WA.done qK ?_
      refine zL (zU (zG (zR 1 rfl ?_)))
      refine yA ?_
      refine zR 1 rfl (zN ?_)
      refine WE.again ((i + 1, ys ++ [1 + mod (nth xs cn) (3 - 1 + 1)], cn + 1, a67, c67)) (⟨by simp only [List.length_append, List.length_cons, List.length_nil]; omega, by omega, fun y hy => by rcases List.mem_append.1 hy with h | h; exact hy3 y h; have := List.mem_singleton.1 h; omega⟩) (by (try dsimp only); omega) ⟨rfl, rfl, rfl, rfl, rfl, rfl⟩ (RLe.refl _) qS
     ·
      refine WS.callAt 3 rfl en25 rfl rfl qD (CallOp.mkT rfl rfl rfl rfl) rfl (Range_C (lo := 1) (hi := 3) w0 ha qO qO _) ?_
      rintro _ _ _ _ - ⟨rfl, rfl, rfl, rfl⟩
      refine ⟨RLe.refl _, qS, ?_⟩
      have hm9 := mod_range (nth xs cn) (show (1 : Int) ≤ 3 - 1 + 1 by omega)
      refine WA.br2 (i := 1) (j := 4) qK ?_ ?_
      ·
       refine sL (Rd.add (Rd.blk 1 rfl) _) ?_
       refine WA.eff 4 rfl qK rfl rfl qD (Ef.buildSliceD (enc := encI) (parts := [.tmp 65]) [_] tab_ok rfl rfl rfl rfl rfl rfl rfl rfl qD qD (fun a66 => ?_))
       refine ⟨qR, qS, ?_⟩
       refine WA.eff 5 rfl (by kernel_rfl) rfl rfl (by decide) (Ef.appendD 1 0 tab_ok rfl rfl rfl rfl rfl rfl rfl rfl rfl rfl rfl (fun _ _ => rfl) (by simp only [List.length_cons, List.length_nil]; omega) (by simp only [List.length_cons, List.length_nil]; omega) (fun a67 c67 ha67 => ?_))
       refine ⟨qR, qS, ?_⟩
       refine tP 6 ?_
       refine zCF 7 2 ?_
       refine WA.done qK ?_
       refine zL (zU (zG (zR 1 rfl ?_)))
       refine yA ?_
       refine zR 1 rfl (zN ?_)
       refine WE.again ((i + 1, ys ++ [1 + mod (nth xs cn) (3 - 1 + 1)], cn + 1, a67, c67)) (⟨by simp only [List.length_append, List.length_cons, List.length_nil]; omega, by omega, fun y hy => by rcases List.mem_append.1 hy with h | h; exact hy3 y h; have := List.mem_singleton.1 h; omega⟩) (by (try dsimp only); omega) ⟨rfl, rfl, rfl, rfl, rfl, rfl⟩ (RLe.refl _) qS
      ·
       refine WS.eff rfl rfl rfl qD (Ef.buildSliceD (enc := encI) (parts := [.tmp 65]) [_] tab_ok rfl rfl rfl rfl rfl rfl rfl rfl qD qD (fun a66 => ?_))
       refine ⟨qR, qS, ?_⟩
       refine lL 1 (Rd.add (Rd.blk 2 rfl) _) ?_
       refine WA.eff 5 rfl (by kernel_rfl) rfl rfl (by decide) (Ef.appendD 1 0 tab_ok rfl rfl rfl rfl rfl rfl rfl rfl rfl rfl rfl (fun _ _ => rfl) (by simp only [List.length_cons, List.length_nil]; omega) (by simp only [List.length_cons, List.length_nil]; omega) (fun a67 c67 ha67 => ?_))
       refine ⟨qR, qS, ?_⟩
       refine tP 6 ?_
       refine zCF 7 2 ?_
       refine WA.done qK ?_
       refine zL (zU (zG (zR 1 rfl ?_)))
       refine yA ?_
       refine zR 1 rfl (zN ?_)
       refine WE.again ((i + 1, ys ++ [1 + mod (nth xs cn) (3 - 1 + 1)], cn + 1, a67, c67)) (⟨by simp only [List.length_append, List.length_cons, List.length_nil]; omega, by omega, fun y hy => by rcases List.mem_append.1 hy with h | h; exact hy3 y h; have := List.mem_singleton.1 h; omega⟩) (by (try dsimp only); omega) ⟨rfl, rfl, rfl, rfl, rfl, rfl⟩ (RLe.refl _) qS
    ·try dsimp only at hc3
     refine W.freeze (enc := encI) (xs := ys) 0 rfl ?_
     intro R1 hR1 hwz
     refine zX ?_
     refine wx (wx (zY (zL (zU (zQ (zG ?_))))))
     refine yL (Rd.blk 0 rfl) ?_
     refine zE 1 ?_
     refine zN (zU (zT ?_))
     refine WE.retFS (E' := srcE b a cp xs (cn) :: F) qS tab_ok [_] rfl ⟨⟨_, _, _, rfl, rfl, rfl, qB, rfl⟩, trivial⟩ (by first | assumption | exact RLe.refl _) ?_
     exact ⟨_, [], rfl, ⟨3, (4 + mod (nth xs c) (24 - 4 + 1)), 1, ys, []⟩, _, none, _, 0, _, rfl, hwz, rs_nil, ⟨by dsimp only; omega, rfl, by dsimp only; omega, fun h => by dsimp only at h; omega, fun h => by dsimp only at h; omega, fun _ => ⟨by dsimp only; omega, hy3, rfl⟩, fun h => by dsimp only at h; omega, fun h => by dsimp only at h; omega⟩, rfl, rfl⟩
   ·try dsimp only at hc2
    refine zQ (zG (zR 2 rfl (zN (zU ?_))))
    refine W.condE rfl (fun hc4 => ?_) (fun hc4 => ?_)
    ·try dsimp only at hc4
     refine zQ (zG (zR 1 rfl ?_))
     refine zF 0 ?_
     refine zN (zU ?_)
     refine W.nil 3 1 qD ?_
     refine zQ (zG (zR 1 rfl (zN (zU (zB ?_)))))
     refine W.loopK (β := Nat × List Int × Nat × Option Addr × Nat) (fun (i, ys, cn, a9, c9) => ys.length = i ∧ i ≤ 1 ∧ ∀ y ∈ ys, 8 ≤ y ∧ y ≤ 20) (fun (i, ys, cn, a9, c9) => [(7, true, .int .i64 (i : Int))]) [0, 1, 4, 5] [_, _, _, _] [] _ rfl (fun (i, ys, cn, a9, c9) => [(0, .sl 3 1 a9 c9 (ys.map encI)), (1, .blk b5 [.int .i64 4, .int .i64 (4 + mod (nth xs c) (24 - 4 + 1)), .int .i64 1, .slice a9 ys.length c9, .slice none 0 0]), (3, srcE b a cp xs cn)]) (fun (i, ys, cn, a9, c9) => 1 - i) ((0, [], c + 1 + 1 + 1, none, 0)) (⟨rfl, Nat.zero_le _, fun y h => (by cases h)⟩) ⟨rfl, rfl, rfl, rfl, rfl, rfl⟩ qS ?_
     intro zz hst
     obtain ⟨i, ys, cn, a9, c9⟩ := zz
     dsimp only [zipE, setAll, List.cons_append, List.nil_append, List.set_cons_zero, List.set_cons_succ] at hst ⊢
     obtain ⟨hy1, hy2, hy3⟩ := hst
     refine zQ (zQ (zG (zR 3 rfl (zN (zU ?_)))))
     refine W.condD rfl (fun hc5 => ?_) (fun hc5 => ?_)
     ·try dsimp only at hc5
      refine zK (zU (zQ (zB ?_)))
      refine W.regionH _ (ES := (.blk b4 [.int .i64 0, .int .i64 0, .int .i64 0, .slice none 0 0, .slice none 0 0] :: F)) mixed ?_
      refine tP 0 ?_
      refine tP 2 ?_
      refine WA.br2 (i := 1) (j := 3) qK ?_ ?_
      ·
       refine sL (Rd.add (Rd.blk 1 rfl) _) ?_
       refine WA.callAt 3 3 rfl qK en25 rfl rfl qD (CallOp.mkT rfl rfl rfl rfl) rfl (Range_C (lo := 8) (hi := 20) w0 ha qO qO _) ?_
       rintro _ _ _ _ - ⟨rfl, rfl, rfl, rfl⟩
       refine ⟨RLe.refl _, qS, ?_⟩
       have hm9 := mod_range (nth xs cn) (show (1 : Int) ≤ 20 - 8 + 1 by omega)
       refine WA.eff 4 rfl qK rfl rfl qD (Ef.buildSliceD (enc := encI) (parts := [.tmp 80]) [_] tab_ok rfl rfl rfl rfl rfl rfl rfl rfl qD qD (fun a81 => ?_))
       refine ⟨qR, qS, ?_⟩
       refine WA.eff 5 rfl (by kernel_rfl) rfl rfl (by decide) (Ef.appendD 1 0 tab_ok rfl rfl rfl rfl rfl rfl rfl rfl rfl rfl rfl (fun _ _ => rfl) (by simp only [List.length_cons, List.length_nil]; omega) (by simp only [List.length_cons, List.length_nil]; omega) (fun a82 c82 ha82 => ?_))
       refine ⟨qR, qS, ?_⟩
       refine tP 6 ?_
       refine zCF 7 2 ?_
       refine WA.done qK ?_
       refine zL (zU (zG (zR 1 rfl ?_)))
       refine yA ?_
       refine zR 1 rfl (zN ?_)
       refine WE.again ((i + 1, ys ++ [8 + mod (nth xs cn) (20 - 8 + 1)], cn + 1, a82, c82)) (⟨by simp only [List.length_append, List.length_cons, List.length_nil]; omega, by omega, fun y hy => by rcases List.mem_append.1 hy with h | h; exact hy3 y h; have := List.mem_singleton.1 h; omega⟩) (by (try dsimp only); omega) ⟨rfl, rfl, rfl, rfl, rfl, rfl⟩ (RLe.refl _) qS
      ·
       refine WS.callAt 3 rfl en25 rfl rfl qD (CallOp.mkT rfl rfl rfl rfl) rfl (Range_C (lo := 8) (hi := 20) w0 ha qO qO _) ?_
       rintro _ _ _ _ - ⟨rfl, rfl, rfl, rfl⟩
       refine ⟨RLe.refl _, qS, ?_⟩
       have hm9 := mod_range (nth xs cn) (show (1 : Int) ≤ 20 - 8 + 1 by omega)
       refine WA.br2 (i := 1) (j := 4) qK ?_ ?_
       ·
        refine sL (Rd.add (Rd.blk 1 rfl) _) ?_
        refine WA.eff 4 rfl qK rfl rfl qD (Ef.buildSliceD (enc := encI) (parts := [.tmp 80]) [_] tab_ok rfl rfl rfl rfl rfl rfl rfl rfl qD qD (fun a81 => ?_))
        refine ⟨qR, qS, ?_⟩
        refine WA.eff 5 rfl (by kernel_rfl) rfl rfl (by decide) (Ef.appendD 1 0 tab_ok rfl rfl rfl rfl rfl rfl rfl rfl rfl rfl rfl (fun _ _ => rfl) (by simp only [List.length_cons, List.length_nil]; omega) (by simp only [List.length_cons, List.length_nil]; omega) (fun a82 c82 ha82 => ?_))
        refine ⟨qR, qS, ?_⟩
        refine tP 6 ?_
        refine zCF 7 2 ?_
        refine WA.done qK ?_
        refine zL (zU (zG (zR 1 rfl ?_)))
        refine yA ?_
        refine zR 1 rfl (zN ?_)
        refine WE.again ((i + 1, ys ++ [8 + mod (nth xs cn) (20 - 8 + 1)], cn + 1, a82, c82)) (⟨by simp only [List.length_append, List.length_cons, List.length_nil]; omega, by omega, fun y hy => by rcases List.mem_append.1 hy with h | h; exact hy3 y h; have := List.mem_singleton.1 h; omega⟩) (by (try dsimp only); omega) ⟨rfl, rfl, rfl, rfl, rfl, rfl⟩ (RLe.refl _) qS
       ·
        refine WS.eff rfl rfl rfl qD (Ef.buildSliceD (enc := encI) (parts := [.tmp 80]) [_] tab_ok rfl rfl rfl rfl rfl rfl rfl rfl qD qD (fun a81 => ?_))
        refine ⟨qR, qS, ?_⟩
        refine lL 1 (Rd.add (Rd.blk 2 rfl) _) ?_
        refine WA.eff 5 rfl (by kernel_rfl) rfl rfl (by decide) (Ef.appendD 1 0 tab_ok rfl rfl rfl rfl rfl rfl rfl rfl rfl rfl rfl (fun _ _ => rfl) (by simp only [List.length_cons, List.length_nil]; omega) (by simp only [List.length_cons, List.length_nil]; omega) (fun a82 c82 ha82 => ?_))
        refine ⟨qR, qS, ?_⟩
        refine tP 6 ?_
        refine zCF 7 2 ?_
        refine WA.done qK ?_
        refine zL (zU (zG (zR 1 rfl ?_)))
        refine yA ?_
        refine zR 1 rfl (zN ?_)
        refine WE.again ((i + 1, ys ++ [8 + mod (nth xs cn) (20 - 8 + 1)], cn + 1, a82, c82)) (⟨by simp only [List.length_append, List.length_cons, List.length_nil]; omega, by omega, fun y hy => by rcases List.mem_append.1 hy with h | h; exact hy3 y h; have := List.mem_singleton.1 h; omega⟩) (by (try dsimp only); omega) ⟨rfl, rfl, rfl, rfl, rfl, rfl⟩ (RLe.refl _) qS
     ·try dsimp only at hc5
      refine W.freeze (enc := encI) (xs := ys) 0 rfl ?_
      intro R1 hR1 hwz
      refine zX ?_
      refine wx (wx (zY (zL (zU (zQ (zG ?_))))))
      refine yL (Rd.blk 0 rfl) ?_
      refine zE 1 ?_
      refine zN (zU (zT ?_))
      refine WE.retFS (E' := srcE b a cp xs (cn) :: F) qS tab_ok [_] rfl ⟨⟨_, _, _, rfl, rfl, rfl, qB, rfl⟩, trivial⟩ (by first | assumption | exact RLe.refl _) ?_
      exact ⟨_, [], rfl, ⟨4, (4 + mod (nth xs c) (24 - 4 + 1)), 1, ys, []⟩, _, none, _, 0, _, rfl, hwz, rs_nil, ⟨by dsimp only; omega, rfl, by dsimp only; omega, fun h => by dsimp only at h; omega, fun h => by dsimp only at h; omega, fun h => by dsimp only at h; omega, fun _ => ⟨by dsimp only; omega, hy3, rfl⟩, fun h => by dsimp only at h; omega⟩, rfl, rfl⟩
    ·try dsimp only at hc4
     refine zQ (zG (zR 1 rfl ?_))
     refine zF 0 ?_
     refine zN (zU (zQ ?_))
     refine W.nil 3 1 qD ?_
     refine zQ (zG (zR 1 rfl (zN (zU (zB ?_)))))
     refine W.loopK (β := Nat × List Int × Option Addr × Nat) (fun (i, ys, a9, c9) => ys.length = i ∧ i ≤ 1 ∧ ∀ y ∈ ys, -1 ≤ y ∧ y ≤ (1 : Int) - 1) (fun (i, ys, a9, c9) => [(8, true, .int .i64 (i : Int))]) [0, 1, 4, 5] [_, _, _, _] [] _ rfl (fun (i, ys, a9, c9) => [(0, .sl 3 1 a9 c9 (ys.map encI)), (1, .blk b5 [.int .i64 5, .int .i64 (4 + mod (nth xs c) (24 - 4 + 1)), .int .i64 1, .slice none 0 0, .slice a9 ys.length c9])]) (fun (i, ys, a9, c9) => 1 - i) ((0, [], none, 0)) (⟨rfl, Nat.zero_le _, fun y h => (by cases h)⟩) ⟨rfl, rfl, rfl, rfl, rfl, rfl⟩ qS ?_
     intro zz hst
     obtain ⟨i, ys, a9, c9⟩ := zz
     dsimp only [zipE, setAll, List.cons_append, List.nil_append, List.set_cons_zero, List.set_cons_succ] at hst ⊢
     obtain ⟨hy1, hy2, hy3⟩ := hst
     refine zQ (zQ (zG (zR 3 rfl (zN (zU ?_)))))
     refine W.condD rfl (fun hc6 => ?_) (fun hc6 => ?_)
     ·try dsimp only at hc6
      refine zK (zU (zQ (zB (zG (zR 1 rfl ?_)))))
      refine yL (Rd.add (Rd.blk 1 rfl) _) ?_
      refine zR 1 rfl ?_
      refine WL.ef rfl rfl qD (Ef.buildSliceD (enc := encI) (parts := [.tmp 32]) [_] tab_ok rfl rfl rfl rfl rfl rfl rfl rfl qD qD (fun a33 => ?_))
      refine WL.ef rfl rfl (by decide) (Ef.appendD 1 0 tab_ok rfl rfl rfl rfl rfl rfl rfl rfl rfl rfl rfl (fun _ _ => rfl) (by simp only [List.length_cons, List.length_nil]; omega) (by simp only [List.length_cons, List.length_nil]; omega) (fun a34 c34 ha34 => ?_))
      refine zR 1 rfl ?_
      refine zF 2 ?_
      refine zN (zL (zU (zG (zR 1 rfl ?_))))
      refine yA ?_
      refine zR 1 rfl (zN ?_)
      refine WE.again ((i + 1, ys ++ [(i : Int)], a34, c34)) (⟨by simp only [List.length_append, List.length_cons, List.length_nil]; omega, by omega, fun y hy => by rcases List.mem_append.1 hy with h | h; exact hy3 y h; have := List.mem_singleton.1 h; omega⟩) (by (try dsimp only); omega) ⟨rfl, rfl, rfl, rfl, rfl, rfl⟩ (RLe.refl _) qS
     ·try dsimp only at hc6
      refine zX ?_
      refine wx (wx (zY (zU (zQ (zG (zR 1 rfl ?_))))))
      refine WL.callAt 3 en17 rfl rfl qD (CallOp.mkT rfl rfl rfl rfl) rfl (N_C w0 ha (by constructor <;> decide) _) ?_
      rintro _ _ _ _ - ⟨rfl, rfl, rfl, rfl⟩
      have hm8 := mod_range (nth xs (c + 1 + 1 + 1)) (show (1 : Int) ≤ 3 by decide)
      obtain ⟨k8, hk8⟩ := Int.eq_ofNat_of_zero_le hm8.1
      rw [hk8]
      refine zR 1 rfl (zN (zU (zB ?_)))
      refine W.loopK (β := Nat × List Int × Nat × Option Addr × Nat) (fun (j, ys, cn, a9, c9) => 1 ≤ ys.length ∧ ys.length + j ≤ 3 ∧ ∀ y ∈ ys, -1 ≤ y ∧ y ≤ (1 : Int) - 1) (fun (j, ys, cn, a9, c9) => [(9, true, .int .i64 (j : Int))]) [0, 1, 4, 5] [_, _, _, _] [] _ rfl (fun (j, ys, cn, a9, c9) => [(0, .sl 3 1 a9 c9 (ys.map encI)), (1, .blk b5 [.int .i64 5, .int .i64 (4 + mod (nth xs c) (24 - 4 + 1)), .int .i64 1, .slice none 0 0, .slice a9 ys.length c9]), (3, srcE b a cp xs cn)]) (fun (j, ys, cn, a9, c9) => j) ((k8, ys, c + 1 + 1 + 1 + 1, a9, c9)) (⟨by (try dsimp only); omega, by (try dsimp only); omega, hy3⟩) ⟨rfl, rfl, rfl, rfl, rfl, rfl⟩ qS ?_
      intro zz hst
      obtain ⟨j, ys, cn, a9, c9⟩ := zz
      dsimp only [zipE, setAll, List.cons_append, List.nil_append, List.set_cons_zero, List.set_cons_succ] at hst ⊢
      obtain ⟨hy1, hy2, hy3⟩ := hst
      refine zQ (zQ (zG (zR 2 rfl (zN (zU ?_)))))
      refine W.condD rfl (fun hc7 => ?_) (fun hc7 => ?_)
      ·try dsimp only at hc7
       obtain ⟨j, rfl⟩ : ∃ m, j = m + 1 := ⟨j - 1, by omega⟩
       refine zK (zU (zQ (zB ?_)))
       refine W.regionH _ (ES := (.blk b4 [.int .i64 0, .int .i64 0, .int .i64 0, .slice none 0 0, .slice none 0 0] :: F)) mixed ?_
       refine tP 0 ?_
       refine tP 2 ?_
       refine tP 3 ?_
       refine tS 4 ?_
       refine WA.br2 (i := 1) (j := 5) qK ?_ ?_
       ·
        refine sL (Rd.add (Rd.blk 1 rfl) _) ?_
        refine WA.callAt 3 5 rfl qK en25 rfl rfl qD (CallOp.mkT rfl rfl rfl rfl) rfl (Range_C (lo := (-1)) (hi := (1 - 1)) w0 ha qO qO _) ?_
        rintro _ _ _ _ - ⟨rfl, rfl, rfl, rfl⟩
        refine ⟨RLe.refl _, qS, ?_⟩
        have hm9 := mod_range (nth xs cn) (show (1 : Int) ≤ (1 - 1) - (-1) + 1 by omega)
        refine WA.eff 6 rfl qK rfl rfl qD (Ef.buildSliceD (enc := encI) (parts := [.tmp 47]) [_] tab_ok rfl rfl rfl rfl rfl rfl rfl rfl qD qD (fun a48 => ?_))
        refine ⟨qR, qS, ?_⟩
        refine WA.eff 7 rfl (by kernel_rfl) rfl rfl (by decide) (Ef.appendD 1 0 tab_ok rfl rfl rfl rfl rfl rfl rfl rfl rfl rfl rfl (fun _ _ => rfl) (by simp only [List.length_cons, List.length_nil]; omega) (by simp only [List.length_cons, List.length_nil]; omega) (fun a49 c49 ha49 => ?_))
        refine ⟨qR, qS, ?_⟩
        refine tP 8 ?_
        refine zCF 9 2 ?_
        refine WA.done qK ?_
        refine zL (zU (zG (zR 1 rfl ?_)))
        refine yS ?_
        refine zR 1 rfl (zN ?_)
        refine WE.again ((j, ys ++ [-1 + mod (nth xs cn) ((1 - 1) - -1 + 1)], cn + 1, a49, c49)) (⟨by simp only [List.length_append, List.length_cons, List.length_nil]; omega, by simp only [List.length_append, List.length_cons, List.length_nil]; omega, fun y hy => by rcases List.mem_append.1 hy with h | h; exact hy3 y h; have := List.mem_singleton.1 h; omega⟩) (by (try dsimp only); omega) ⟨vint (by omega), rfl, rfl, rfl, rfl, rfl⟩ (RLe.refl _) qS
       ·
        refine WS.callAt 3 rfl en25 rfl rfl qD (CallOp.mkT rfl rfl rfl rfl) rfl (Range_C (lo := (-1)) (hi := (1 - 1)) w0 ha qO qO _) ?_
        rintro _ _ _ _ - ⟨rfl, rfl, rfl, rfl⟩
        refine ⟨RLe.refl _, qS, ?_⟩
        have hm9 := mod_range (nth xs cn) (show (1 : Int) ≤ (1 - 1) - (-1) + 1 by omega)
        refine WA.br2 (i := 1) (j := 6) qK ?_ ?_
        ·
         refine sL (Rd.add (Rd.blk 1 rfl) _) ?_
         refine WA.eff 6 rfl qK rfl rfl qD (Ef.buildSliceD (enc := encI) (parts := [.tmp 47]) [_] tab_ok rfl rfl rfl rfl rfl rfl rfl rfl qD qD (fun a48 => ?_))
         refine ⟨qR, qS, ?_⟩
         refine WA.eff 7 rfl (by kernel_rfl) rfl rfl (by decide) (Ef.appendD 1 0 tab_ok rfl rfl rfl rfl rfl rfl rfl rfl rfl rfl rfl (fun _ _ => rfl) (by simp only [List.length_cons, List.length_nil]; omega) (by simp only [List.length_cons, List.length_nil]; omega) (fun a49 c49 ha49 => ?_))
         refine ⟨qR, qS, ?_⟩
         refine tP 8 ?_
         refine zCF 9 2 ?_
         refine WA.done qK ?_
         refine zL (zU (zG (zR 1 rfl ?_)))
         refine yS ?_
         refine zR 1 rfl (zN ?_)
         refine WE.again ((j, ys ++ [-1 + mod (nth xs cn) ((1 - 1) - -1 + 1)], cn + 1, a49, c49)) (⟨by simp only [List.length_append, List.length_cons, List.length_nil]; omega, by simp only [List.length_append, List.length_cons, List.length_nil]; omega, fun y hy => by rcases List.mem_append.1 hy with h | h; exact hy3 y h; have := List.mem_singleton.1 h; omega⟩) (by (try dsimp only); omega) ⟨vint (by omega), rfl, rfl, rfl, rfl, rfl⟩ (RLe.refl _) qS
        ·
         refine WS.eff rfl rfl rfl qD (Ef.buildSliceD (enc := encI) (parts := [.tmp 47]) [_] tab_ok rfl rfl rfl rfl rfl rfl rfl rfl qD qD (fun a48 => ?_))
         refine ⟨qR, qS, ?_⟩
         refine lL 1 (Rd.add (Rd.blk 2 rfl) _) ?_
         refine WA.eff 7 rfl (by kernel_rfl) rfl rfl (by decide) (Ef.appendD 1 0 tab_ok rfl rfl rfl rfl rfl rfl rfl rfl rfl rfl rfl (fun _ _ => rfl) (by simp only [List.length_cons, List.length_nil]; omega) (by simp only [List.length_cons, List.length_nil]; omega) (fun a49 c49 ha49 => ?_))
         refine ⟨qR, qS, ?_⟩
         refine tP 8 ?_
         refine zCF 9 2 ?_
         refine WA.done qK ?_
         refine zL (zU (zG (zR 1 rfl ?_)))
         refine yS ?_
         refine zR 1 rfl (zN ?_)
         refine WE.again ((j, ys ++ [-1 + mod (nth xs cn) ((1 - 1) - -1 + 1)], cn + 1, a49, c49)) (⟨by simp only [List.length_append, List.length_cons, List.length_nil]; omega, by simp only [List.length_append, List.length_cons, List.length_nil]; omega, fun y hy => by rcases List.mem_append.1 hy with h | h; exact hy3 y h; have := List.mem_singleton.1 h; omega⟩) (by (try dsimp only); omega) ⟨vint (by omega), rfl, rfl, rfl, rfl, rfl⟩ (RLe.refl _) qS
      ·try dsimp only at hc7
       refine W.freeze (enc := encI) (xs := ys) 0 rfl ?_
       intro R1 hR1 hwz
       refine zX ?_
       refine wx (wx (zY (zL (zU (zQ (zG ?_))))))
       refine yL (Rd.blk 0 rfl) ?_
       refine zE 1 ?_
       refine zN (zU (zT ?_))
       refine WE.retFS (E' := srcE b a cp xs (cn) :: F) qS tab_ok [_] rfl ⟨⟨_, _, _, rfl, rfl, rfl, qB, rfl⟩, trivial⟩ (by first | assumption | exact RLe.refl _) ?_
       exact ⟨_, [], rfl, ⟨5, (4 + mod (nth xs c) (24 - 4 + 1)), 1, [], ys⟩, none, _, 0, _, _, rfl, rs_nil, hwz, ⟨by dsimp only; omega, rfl, by dsimp only; omega, fun h => by dsimp only at h; omega, fun h => by dsimp only at h; omega, fun h => by dsimp only at h; omega, fun h => by dsimp only at h; omega, fun _ => ⟨rfl, by dsimp only; omega, by dsimp only; omega, hy3⟩⟩, rfl, rfl⟩



theorem PickF_C {R : Ro} {b : Nat} {a : Option Addr} {cp : Nat} {xs : List Int} {c : Nat} (w0 : World) {n : Nat} {a2 : Option Addr} {c2 : Nat} {j : Nat} {F : List Ent} (ys : List Int) (hn : ys.length = n) (hn0 : 0 < n) (hn1 : n ≤ 1000000) (ha : RS R 1 encI a xs) (hy : F[j]? = some (.sl 3 1 a2 c2 (ys.map encI))) :
  K.Fn Tryz.prog 29 [.pointer (some ⟨b, 0, none⟩), .slice a2 n c2] w0 R (srcE b a cp xs c :: F) (fun v R' E' => ∃ e' N, E' = N ++ e' :: F ∧ RdPost (.int .i64 (nth ys (mod (nth xs c) n).toNat)) R (srcE b a cp xs (c + 1)) v R' e' N) := by
 subst hn; exact Pick_C w0 ha hy hn0 hn1

theorem Stair_C {R : Ro} {burst more : Int} {p : Nat} (hp : p ≤ 1000) (w0 : World) (E : List Ent) : K.Fn Tryz.prog 81 [.int .i64 burst, .int .i64 (p : Int), .int .i64 more] w0 R E (fun v R' E' => ∃ (f : Option Addr) (fc : Nat), v = .agg #[.slice f (stairC burst p more).vals.length fc, .int .i64 (p : Int), .int .i64 more] ∧ RS R' 1 encI f (stairC burst p more).vals ∧ (stairC burst p more).vals.length ≤ fc ∧ E' = E) := by
 refine fE 25 Tryz.func81 ?_
 refine zQ (zG ?_)
 refine zA fun b6 => ?_
 refine zN (zU (zQ (zG ?_)))
 refine WL.ef rfl rfl qD (Ef.buildSliceD (enc := encI) (parts := [.const (.int .i64 0)]) [0] tab_ok rfl rfl rfl rfl rfl rfl rfl rfl qD qD (fun a9 => ?_))
 refine zR 2 rfl ?_
 -- build
 refine WG.y rfl rfl qD (Yl.build (parts := [(0, .tmp 9), (1, .tmp 10), (2, .tmp 11)]) tab_ok rfl rfl rfl rfl (fun _ => rfl) rfl rfl) ?_
 refine zA fun b7 => ?_
 refine zE 0 ?_
 refine zN (zU (zQ (zQ (zG (zR 1 rfl (zN (zU (zB ?_))))))))
 refine W.loopK (β := Nat × Option Addr × Nat) (fun (i, a1, c1) => i ≤ p) (fun (i, a1, c1) => [(8, true, .int .i64 (i : Int))]) [0, 1, 6, 7] [_, _, _, _] [] _ rfl (fun (i, a1, c1) => [(0, .blk b7 [.slice a1 (0 :: List.replicate i burst).length c1, .int .i64 (p : Int), .int .i64 more]), (1, .sl 3 1 a1 c1 ((0 :: List.replicate i burst).map encI))]) (fun (i, a1, c1) => p - i) ((0, some ⟨a9, 0, none⟩, 1)) (Nat.zero_le _) ⟨rfl, rfl, rfl, rfl, rfl, rfl⟩ qS ?_
 intro zz hst
 obtain ⟨i, a1, c1⟩ := zz
 dsimp only [zipE, setAll, List.cons_append, List.nil_append, List.set_cons_zero, List.set_cons_succ] at hst ⊢
 have hi := hst
 have hrl : (0 :: List.replicate i burst).length = i + 1 := by rw [List.length_cons, List.length_replicate]
 have hrl2 : (List.replicate i burst).length = i := List.length_replicate ..
 refine zQ (zQ (zG (zR 3 rfl (zN (zU ?_)))))
 refine W.condD rfl (fun hc0 => ?_) (fun hc0 => ?_)
 ·try dsimp only at hc0
  have hip : i < p := by omega
  have hrs : (0 :: List.replicate (i + 1) burst) = (0 :: List.replicate i burst) ++ [burst] := by rw [List.replicate_succ', List.cons_append]
  refine zK (zU (zQ (zB (zG (zR 1 rfl ?_)))))
  refine yL (Rd.add (Rd.blk 0 rfl) _) ?_
  refine zR 1 rfl ?_
  refine WL.ef rfl rfl qD (Ef.buildSliceD (enc := encI) (parts := [.tmp 20]) [_] tab_ok rfl rfl rfl rfl rfl rfl rfl rfl qD qD (fun a21 => ?_))
  refine WL.ef rfl rfl (by decide) (Ef.appendD 2 0 tab_ok rfl rfl rfl rfl rfl rfl rfl rfl rfl rfl rfl (fun _ _ => rfl) (by simp only [List.length_cons, List.length_nil]; omega) (by simp only [List.length_cons, List.length_nil]; omega) (fun a22 c22 ha22 => ?_))
  refine zR 1 rfl ?_
  refine zF 1 ?_
  refine zN (zL (zU (zG (zR 1 rfl ?_))))
  refine yA ?_
  refine zR 1 rfl (zN ?_)
  refine WE.again ((i + 1, a22, c22)) (by show i + 1 ≤ p; omega) (by (try dsimp only); omega) ⟨rfl, rfl, rfl, rfl, rfl, rfl⟩ (RLe.refl _) (by dsimp only [setAll, List.set_cons_zero, List.set_cons_succ]; rw [hrs]; exact qS)
 ·try dsimp only at hc0
  obtain rfl : i = p := by omega
  refine W.cap 1 rfl ?_
  intro hcap
  rw [List.length_map] at hcap
  refine W.freeze (enc := encI) (xs := (0 :: List.replicate i burst)) 1 rfl ?_
  intro R1 hR1 hf1
  refine zX ?_
  refine wx (wx (zY (zU (zQ (zG ?_)))))
  refine yL (Rd.blk 0 rfl) ?_
  refine zE 1 ?_
  refine zN (zU (zT ?_))
  refine WE.retFS (E' := E) qS tab_ok [_] rfl ⟨⟨_, _, _, rfl, rfl, rfl, qB, rfl⟩, trivial⟩ qR ?_
  exact ⟨a1, c1, rfl, hf1, hcap, rfl⟩

theorem Contr24_C {R : Ro} {b : Nat} {a : Option Addr} {cp : Nat} {xs : List Int} {c : Nat} (w0 : World) (ha : K.RS R 1 encI a xs) : FnAt Tryz.prog 60 [.pointer (some ⟨b, 0, none⟩)] w0 R (srcE b a cp xs c) (fun v R' e' N => ∃ (f : Option Addr) (fc cn : Nat) (cv : Cv), v = .agg #[.slice f cv.vals.length fc, .int .i64 cv.per, .int .i64 cv.inc] ∧ RS R' 1 encI f cv.vals ∧ cv.vals.length ≤ fc ∧ StairP cv ∧ e' = srcE b a cp xs cn ∧ N = []) := by
 intro F
 refine fE 11 Tryz.func60 ?_
 refine zQ (zG ?_)
 refine zA fun b2 => ?_
 refine zN (zU (zQ (zG (zR 1 rfl ?_))))
 refine WL.callAt 1 en25 rfl rfl qD (CallOp.mkT rfl rfl rfl rfl) rfl (Range_C (lo := 4) (hi := 16) w0 ha qO qO _) ?_
 rintro _ _ _ _ - ⟨rfl, rfl, rfl, rfl⟩
 have hm0 := mod_range (nth xs (c)) (show (1 : Int) ≤ 16 - 4 + 1 by omega)
 refine zR 1 rfl ?_
 refine WL.ef rfl rfl qD (Ef.buildSliceD (enc := encI) (parts := [.const (.int .i64 1), .const (.int .i64 2), .const (.int .i64 3), .const (.int .i64 4), .const (.int .i64 6), .const (.int .i64 12)]) [1, 2, 3, 4, 6, 12] tab_ok rfl rfl rfl rfl rfl rfl rfl rfl qD qD (fun a6 => ?_))
 refine WL.callAt 2 en29 rfl rfl qD (CallOp.mkT rfl rfl rfl rfl) rfl (PickF_C (j := 0) w0 ([1, 2, 3, 4, 6, 12] : List Int) rfl qD qD ha rfl) ?_
 rintro _ _ _ _ - ⟨rfl, rfl, rfl, rfl⟩
 have hm1 := mod_range (nth xs (c + 1)) (show (1 : Int) ≤ ((6 : Nat) : Int) by decide)
 have hp6 := pick6 (mod (nth xs (c + 1)) ((6 : Nat) : Int)).toNat (by omega)
 obtain ⟨p, hp⟩ := Int.eq_ofNat_of_zero_le (show 0 ≤ nth ([1, 2, 3, 4, 6, 12] : List Int) (mod (nth xs (c + 1)) ((6 : Nat) : Int)).toNat by omega)
 rw [hp] at hp6 ⊢
 refine zR 1 rfl ?_
 refine WL.callAt 2 en17 rfl rfl qD (CallOp.mkT rfl rfl rfl rfl) rfl (N_C (n := 4) w0 ha (by constructor <;> decide) _) ?_
 rintro _ _ _ _ - ⟨rfl, rfl, rfl, rfl⟩
 have hm2 := mod_range (nth xs (c + 1 + 1)) (show (1 : Int) ≤ 4 by decide)
 refine WL.call en81 rfl rfl qD (CallOp.mkT rfl rfl rfl rfl) (Stair_C (p := p) qO w0 _) ?_
 rintro _ R1 _ hR1 ⟨f1, k1, rfl, hf1, hk1, rfl⟩
 refine zE 1 ?_
 refine zN (zU (zT ?_))
 refine WE.retFS (E' := (srcE b a cp xs (c + 1 + 1 + 1) :: F)) qS tab_ok [_] rfl ⟨⟨_, _, _, rfl, rfl, rfl, qB, rfl⟩, trivial⟩ qR ?_
 exact ⟨_, [], rfl, f1, k1, _, stairC (4 + mod (nth xs c) (16 - 4 + 1)) p (mod (nth xs (c + 1 + 1)) 4), rfl, hf1, hk1, ⟨_, p, _, rfl, by omega, by omega, by omega⟩, rfl, rfl⟩



set_option maxHeartbeats 4000000 in
theorem Flow24_C {R : Ro} {b : Nat} {a : Option Addr} {cp : Nat} {xs : List Int} {c : Nat} (w0 : World) (ha : K.RS R 1 encI a xs) {na la fa : Option Addr} {nn nc lc nf fc m k : Nat} {name : List UInt8} (hk : k = 1 ∨ k = 2) (hm : 1 ≤ m ∧ m ≤ 4) (hnm : name.length ≤ 100) : FnAt Tryz.prog 27 [.pointer (some ⟨b, 0, none⟩), .agg #[.slice na nn nc, .slice la m lc, .slice fa nf fc], .string (str name), .int .i64 (k : Int)] w0 R (srcE b a cp xs c) (fun v R' e' N => ∃ (x : FlM) (cn : Nat), v = .agg #[.string (str x.f.name), .slice x.a1 x.f.route.length x.c1, .int .i64 x.f.cls, .int .i64 x.f.lo, .int .i64 x.f.hi, .slice x.a2 x.f.cv.vals.length x.c2, .int .i64 x.f.cv.per, .int .i64 x.f.cv.inc] ∧ OkFl R' x ∧ x.f.route.length ≤ x.c1 ∧ x.f.cv.vals.length ≤ x.c2 ∧ x.f.name = name ∧ DrawF k m x.f ∧ e' = srcE b a cp xs cn ∧ N = []) := by
 intro F
 refine fE 87 Tryz.func27 ?_
 refine zQ (zG ?_)
 refine zO fun b5 => ?_
 refine zA fun b8 => ?_
 refine zN (zU (zQ (zG (zR 3 rfl ?_))))
 refine WL.callAt 2 en17 rfl rfl qD (CallOp.mkT rfl rfl rfl rfl) rfl (N_C (n := (k : Int)) w0 ha (by constructor <;> omega) _) ?_
 rintro _ _ _ _ - ⟨rfl, rfl, rfl, rfl⟩
 have hmk := mod_range (nth xs c) (show (1 : Int) ≤ (k : Int) by omega)
 refine zR 1 rfl ?_
 refine WL.callAt 2 en60 rfl rfl qD (CallOp.mkT rfl rfl rfl rfl) rfl (Contr24_C w0 ha _) ?_
 rintro _ R1 _ _ hR1 ⟨f1, fc1, c4, cv, rfl, hf1, hcf1, hstp, rfl, rfl⟩
 have ha := ha.mono hR1
 -- build
 refine WG.y rfl rfl qD (Yl.build (parts := [(0, .tmp 13), (2, .tmp 16), (4, .tmp 18)]) tab_ok rfl rfl rfl rfl (fun _ => rfl) rfl rfl) ?_
 refine zA fun b9 => ?_
 refine zE 0 ?_
 refine zN (zU (zQ (zG (zR 1 rfl ?_))))
 refine WL.callAt 3 en25 rfl rfl qD (CallOp.mkT rfl rfl rfl rfl) rfl (Range_C (lo := 1) (hi := 3) w0 ha qO qO _) ?_
 rintro _ _ _ _ - ⟨rfl, rfl, rfl, rfl⟩
 have hml := mod_range (nth xs c4) (show (1 : Int) ≤ 3 - 1 + 1 by omega)
 refine zR 2 rfl ?_
 refine WL.efN rfl rfl (Ef.store2 0 tab_ok rfl rfl rfl rfl rfl rfl rfl rfl ?_)
 refine zN (zU ?_)
 refine W.seqCut (β := Unit) (fun _u => True) (fun _u => [(0, true, .pointer (some ⟨b, 0, none⟩)), (5, true, .pointer (some ⟨b5, 0, none⟩)), (8, true, .pointer (some ⟨b8, 0, none⟩)), (9, true, .pointer (some ⟨b9, 0, none⟩))]) (fun _ => R1) (fun _ => .blk b9 [.string (str name), .slice none 0 0, .int .i64 (mod (nth xs c) (k : Int)), .int .i64 (1 + mod (nth xs c4) (3 - 1 + 1)), .int .i64 ((1 + mod (nth xs c4) (3 - 1 + 1)) + mod (nth xs (c4 + 1)) 5), .slice f1 cv.vals.length fc1, .int .i64 cv.per, .int .i64 cv.inc] :: .blk b8 [.string (str []), .slice none 0 0, .int .i64 0, .int .i64 0, .int .i64 0, .slice none 0 0, .int .i64 0, .int .i64 0] :: .blk b5 [.slice na nn nc, .slice la m lc, .slice fa nf fc] :: srcE b a cp xs (c4 + 1 + 1) :: F) ?_ ?_
 ·
  intro _u hst
  have hm5 := mod_range (nth xs (c4 + 1)) (show (1 : Int) ≤ 5 by decide)
  refine zQ (zG (zR 2 rfl ?_))
  refine yL (Rd.add (Rd.blk 2 rfl) _) ?_
  refine zR 1 rfl ?_
  refine WL.callAt 3 en17 rfl rfl qD (CallOp.mkT rfl rfl rfl rfl) rfl (N_C (n := (m : Int)) w0 ha (by constructor <;> omega) _) ?_
  rintro _ _ _ _ - ⟨rfl, rfl, rfl, rfl⟩
  obtain ⟨a0, ha0, ha0m⟩ : ∃ a0 : Nat, mod (nth xs (c4 + 1 + 1)) (m : Int) = (a0 : Int) ∧ a0 < m := by
   have := mod_range (nth xs (c4 + 1 + 1)) (show (1 : Int) ≤ (m : Int) by omega)
   exact ⟨(mod (nth xs (c4 + 1 + 1)) (m : Int)).toNat, by omega, by omega⟩
  rw [ha0]
  refine zR 1 rfl (zN (zU (zQ (zG (zR 2 rfl ?_)))))
  refine yL (Rd.add (Rd.blk 2 rfl) _) ?_
  refine zR 1 rfl ?_
  refine yS ?_
  refine WL.ef rfl rfl qD (Ef.buildSliceD (enc := encI) (parts := [.const (.int .i64 1), .tmp 41]) [1, (m : Int) - 1] tab_ok rfl rfl rfl rfl rfl rfl rfl rfl qD qD (fun a42 => ?_))
  refine WL.callAt 4 en29 rfl rfl qD (CallOp.mkT rfl rfl rfl rfl) rfl (PickF_C (j := 0) w0 ([1, (m : Int) - 1] : List Int) rfl qD qD ha rfl) ?_
  rintro _ _ _ _ - ⟨rfl, rfl, rfl, rfl⟩
  obtain ⟨s, hs, hs1⟩ : ∃ s : Int, nth ([1, (m : Int) - 1] : List Int) (mod (nth xs (c4 + 1 + 1 + 1)) ((2 : Nat) : Int)).toNat = s ∧ (s = 1 ∨ s = (m : Int) - 1) := by
   have := mod_range (nth xs (c4 + 1 + 1 + 1)) (show (1 : Int) ≤ ((2 : Nat) : Int) by decide)
   refine ⟨_, rfl, ?_⟩
   rcases (show (mod (nth xs (c4 + 1 + 1 + 1)) ((2 : Nat) : Int)).toNat = 0 ∨ (mod (nth xs (c4 + 1 + 1 + 1)) ((2 : Nat) : Int)).toNat = 1 by omega) with h | h <;> rw [h]
   ·exact .inl rfl
   ·exact .inr rfl
  rw [hs]
  refine zR 1 rfl (zN (zU (zQ ?_)))
  refine W.nil 3 1 qD ?_
  refine zQ (zG (zR 2 rfl ?_))
  refine yL (Rd.add (Rd.blk 4 rfl) _) ?_
  refine zR 2 rfl ?_
  refine WL.callAt 5 en25 rfl rfl qD (CallOp.mkT rfl rfl rfl rfl) rfl (Range_C (lo := 1) (hi := (if (m : Int) < (3 : Int) then (m : Int) else 3)) w0 ha (by split <;> omega) (by split <;> omega) _) ?_
  rintro _ _ _ _ - ⟨rfl, rfl, rfl, rfl⟩
  obtain ⟨q, hq, hq1, hq3, hqm⟩ : ∃ q : Nat, 1 + mod (nth xs (c4 + 1 + 1 + 1 + 1)) ((if (m : Int) < (3 : Int) then (m : Int) else 3) - 1 + 1) = (q : Int) ∧ 1 ≤ q ∧ q < 4 ∧ q ≤ m := by
   have := mod_range (nth xs (c4 + 1 + 1 + 1 + 1)) (show (1 : Int) ≤ (if (m : Int) < (3 : Int) then (m : Int) else 3) - 1 + 1 by split <;> omega)
   refine ⟨(1 + mod (nth xs (c4 + 1 + 1 + 1 + 1)) ((if (m : Int) < (3 : Int) then (m : Int) else 3) - 1 + 1)).toNat, ?_⟩
   split at this <;> rename_i h <;> simp only [h, if_true, if_false] <;> omega
  rw [hq]
  have hwn : (wayR (a0 : Int) s m q).Nodup := by
   obtain ⟨n1, n2⟩ := way_nodup m (by omega) a0 ha0m q hq3 hqm
   rcases hs1 with rfl | rfl
   ·exact n1
   ·exact n2
  refine zR 1 rfl (zN (zU (zB ?_)))
  refine W.loopK (β := Nat × Nat × Option Addr × Nat) (fun (i, j, a1, c1) => i + j = q) (fun (i, j, a1, c1) => [(10, true, .int .i64 (mod ((a0 : Int) + (i : Int) * s) (m : Int))), (12, true, .int .i64 (j : Int))]) [5, 8, 9, 11] [_, _, _, _] [] _ rfl (fun (i, j, a1, c1) => [(0, .sl 3 1 a1 c1 ((wayR (a0 : Int) s m i).map encI)), (2, .blk b9 [.string (str name), .slice a1 (wayR (a0 : Int) s m i).length c1, .int .i64 (mod (nth xs c) (k : Int)), .int .i64 (1 + mod (nth xs c4) (3 - 1 + 1)), .int .i64 ((1 + mod (nth xs c4) (3 - 1 + 1)) + mod (nth xs (c4 + 1)) 5), .slice f1 cv.vals.length fc1, .int .i64 cv.per, .int .i64 cv.inc])]) (fun (i, j, a1, c1) => j) ((0, q, none, 0)) (by show 0 + q = q; omega) ⟨vint (by show (a0 : Int) = mod ((a0 : Int) + ((0 : Nat) : Int) * s) (m : Int); rw [Int.natCast_zero, Int.zero_mul, Int.add_zero]; unfold mod; rw [if_neg (by omega), Int.emod_eq_of_lt (by omega) (by omega)]), rfl, rfl, rfl, rfl, rfl, rfl⟩ qS ?_
  intro zz hst
  obtain ⟨i, j, a1, c1⟩ := zz
  dsimp only [zipE, setAll, List.cons_append, List.nil_append, List.set_cons_zero, List.set_cons_succ] at hst ⊢
  have hij := hst
  have hwl := wayR_len (a0 : Int) s m i
  have hmm := mod_range ((a0 : Int) + (i : Int) * s) (show (1 : Int) ≤ (m : Int) by omega)
  refine zQ (zQ (zG (zR 2 rfl (zN (zU ?_)))))
  refine W.condD rfl (fun hc0 => ?_) (fun hc0 => ?_)
  ·try dsimp only at hc0
   refine zK (zU (zQ (zB (zQ (zG (zR 1 rfl ?_))))))
   refine yL (Rd.add (Rd.blk 2 rfl) _) ?_
   refine zR 1 rfl ?_
   refine WL.ef rfl rfl qD (Ef.buildSliceD (enc := encI) (parts := [.tmp 56]) [_] tab_ok rfl rfl rfl rfl rfl rfl rfl rfl qD qD (fun a57 => ?_))
   refine WL.ef rfl rfl (by decide) (Ef.appendD 1 0 tab_ok rfl rfl rfl rfl rfl rfl rfl rfl rfl rfl rfl (fun _ _ => rfl) (by simp only [List.length_cons, List.length_nil]; omega) (by simp only [List.length_cons, List.length_nil]; omega) (fun a58 c58 ha58 => ?_))
   refine zR 1 rfl ?_
   refine zF 3 ?_
   refine zN (zU (zG (zR 2 rfl ?_)))
   refine yA ?_
   refine zR 1 rfl ?_
   refine yL (Rd.add (Rd.blk 5 rfl) _) ?_
   refine zR 1 rfl ?_
   refine WG.callV (v := .int .i64 (mod (mod ((a0 : Int) + (i : Int) * s) (m : Int) + s) (m : Int))) en49 rfl rfl qD (CallOp.mk' rfl rfl rfl rfl) (fun _ => rfl) (fun hg => Mod_V (by constructor <;> omega)) ?_
   refine zR 1 rfl (zN (zL (zU (zG (zR 1 rfl ?_)))))
   refine yS ?_
   refine zR 1 rfl (zN ?_)
   rw [way_step _ _ _ _ hm.1]
   refine WE.again ((i + 1, j - 1, a58, c58)) (by show i + 1 + (j - 1) = q; omega) (by show j - 1 < j; omega) ⟨rfl, vint (by show (j : Int) - 1 = ((j - 1 : Nat) : Int); omega), rfl, rfl, rfl, rfl, rfl⟩ (RLe.refl _) (by dsimp only [setAll, List.set_cons_zero, List.set_cons_succ]; rw [wayR_snoc]; exact qS)
  ·try dsimp only at hc0
   obtain rfl : j = 0 := by omega
   obtain rfl : i = q := by omega
   refine zX ?_
   refine wx (wx (zY (zU (zQ (zQ ?_)))))
   refine W.regionQ _ mixed qK ?_
   refine zR 1 rfl ?_
   refine yL (Rd.add (Rd.blk 2 rfl) _) ?_
   refine zR 3 rfl ?_
   refine yP ?_
   refine yG (Rd.addC (Rd.blkC 2 rfl) _) ?_
   refine WG.y rfl rfl (by decide) (Yl.indexN tab_ok rfl rfl rfl rfl rfl rfl qE (by intro hg; (try simp only [zk] at hg); (try dsimp only) <;> omega) (by intro hg; (try simp only [zk] at hg); first | exact qI)) ?_
   refine' WG.y rfl rfl qD (Yl.loadG tab_ok rfl rfl rfl qE ?r8 rfl ?h8 ?g8) ?_
   case r8 => (exact Rd.slC 0 rfl)
   case h8 => rfl
   case g8 => (intro hg; (try simp only [zk] at hg); (try dsimp only); omega)
   refine yP ?_
   refine yG (Rd.addC (Rd.blkC 2 rfl) _) ?_
   refine WG.y rfl rfl (by decide) (Yl.indexN tab_ok rfl rfl rfl rfl rfl rfl qE (by intro hg; (try simp only [zk] at hg); (try dsimp only) <;> omega) (by intro hg; (try simp only [zk] at hg); first | exact qI)) ?_
   refine' WG.y rfl rfl qD (Yl.loadG tab_ok rfl rfl rfl qE ?r10 rfl ?h10 ?g10) ?_
   case r10 => (exact Rd.slC 0 rfl)
   case h10 => rfl
   case g10 => (intro hg; (try simp only [zk] at hg); (try dsimp only); omega)
   refine yP ?_
   refine yN ?_
   refine zN (zU ?_)
   refine W.cond rfl (fun hc1 => ?_) (fun hc1 => ?_)
   ·try simp only [zk] at hc1
    exfalso
    obtain ⟨h1, h2⟩ := hc1
    have hl : 1 < (wayR (a0 : Int) s m i).length := by omega
    have h3 : nth (wayR (a0 : Int) s m i) 0 = nth (wayR (a0 : Int) s m i) 1 := h2
    rw [nth_eq (by omega), nth_eq hl] at h3
    exact (List.pairwise_iff_getElem.1 hwn 0 1 qO hl qD) h3
   ·try simp only [zk] at hc1
    refine zK (zU ?_)
    refine W.cap 0 rfl ?_
    intro hcap
    refine W.freeze (enc := encI) (xs := wayR (a0 : Int) s m i) 0 rfl ?_
    intro R2 hR2 hrt
    have hf1 := hf1.mono hR2
    refine zQ (zG ?_)
    refine yL (Rd.blk 1 rfl) ?_
    refine zE 2 ?_
    refine zN (zU (zT ?_))
    refine WE.retFS (E' := (srcE b a cp xs (c4 + 1 + 1 + 1 + 1 + 1) :: F)) qS tab_ok [_] rfl ⟨⟨_, _, _, rfl, rfl, rfl, qB, rfl⟩, trivial⟩ (by first | exact RLe.refl _ | assumption | exact hR1.trans hR2) ?_
    exact ⟨_, [], rfl, ⟨a1, c1, f1, fc1, ⟨name, wayR (a0 : Int) s m i, mod (nth xs c) (k : Int), (1 + mod (nth xs c4) (3 - 1 + 1)), (1 + mod (nth xs c4) (3 - 1 + 1)) + mod (nth xs (c4 + 1)) 5, cv⟩⟩, _, rfl, ⟨hrt, hf1, by have := (stair_valid hstp).2.2.2; show cv.vals.length ≤ _; omega, by show name.length ≤ _; omega⟩, by simpa using hcap, hcf1, rfl, ⟨by show 0 ≤ mod _ _ ∧ _; omega, by dsimp only; omega, by dsimp only; omega, way_in hm.1, hwn, hstp⟩, rfl, rfl⟩
 ·
  refine W.regionH _ (ES := (.blk b8 [.string (str []), .slice none 0 0, .int .i64 0, .int .i64 0, .int .i64 0, .slice none 0 0, .int .i64 0, .int .i64 0] :: .blk b5 [.slice na nn nc, .slice la m lc, .slice fa nf fc] :: F)) mixed ?_
  refine tP 0 ?_
  refine tP 1 ?_
  refine tP 3 ?_
  refine WA.br2 (i := 2) (j := 4) qK ?_ ?_
  ·
   refine sL (Rd.add (Rd.add (Rd.blk 0 rfl) _) _) ?_
   refine WA.callAt 3 4 rfl qK en17 rfl rfl qD (CallOp.mkT rfl rfl rfl rfl) rfl (N_C (n := 5) w0 ha (by constructor <;> decide) _) ?_
   rintro _ _ _ _ - ⟨rfl, rfl, rfl, rfl⟩
   refine ⟨RLe.refl _, qS, ?_⟩
   have hm5 := mod_range (nth xs (c4 + 1)) (show (1 : Int) ≤ 5 by decide)
   refine tA 5 ?_
   refine tP 6 ?_
   refine tP 7 ?_
   refine WA.effN 8 rfl qK rfl rfl (Ef.store2 0 tab_ok rfl rfl rfl rfl rfl rfl rfl rfl ?_)
   refine ⟨qR, qS, ?_⟩
   refine WA.done qK ?_
   refine WE.cut () trivial ⟨rfl, rfl, rfl, rfl, rfl⟩ (RLe.refl _) qS
  ·
   refine WS.callAt 3 rfl en17 rfl rfl qD (CallOp.mkT rfl rfl rfl rfl) rfl (N_C (n := 5) w0 ha (by constructor <;> decide) _) ?_
   rintro _ _ _ _ - ⟨rfl, rfl, rfl, rfl⟩
   refine ⟨RLe.refl _, qS, ?_⟩
   have hm5 := mod_range (nth xs (c4 + 1)) (show (1 : Int) ≤ 5 by decide)
   refine lL 2 (Rd.add (Rd.add (Rd.blk 0 rfl) _) _) ?_
   refine tA 5 ?_
   refine tP 6 ?_
   refine tP 7 ?_
   refine WA.effN 8 rfl qK rfl rfl (Ef.store2 0 tab_ok rfl rfl rfl rfl rfl rfl rfl rfl ?_)
   refine ⟨qR, qS, ?_⟩
   refine WA.done qK ?_
   refine WE.cut () trivial ⟨rfl, rfl, rfl, rfl, rfl⟩ (RLe.refl _) qS



theorem PortK_C {k : Nat} (hk : k = 1 ∨ k = 2) {R : Ro} {b : Nat} {a : Option Addr} {cp : Nat} {xs : List Int} {c : Nat} (w0 : World) (ha : K.RS R 1 encI a xs) : FnAt Tryz.prog 26 [.pointer (some ⟨b, 0, none⟩), .int .i64 (k : Int)] w0 R (srcE b a cp xs c) (fun v R' e' N => ∃ (L : Ln) (aw at_ : Option Addr) (cw ct cn : Nat), v = .agg #[.int .i64 L.kind, .int .i64 L.cap, .int .i64 L.n, .slice aw L.w.length cw, .slice at_ L.tb.length ct] ∧ K.RS R' 1 encI aw L.w ∧ K.RS R' 1 encI at_ L.tb ∧ DrawP k L ∧ e' = srcE b a cp xs cn ∧ N = []) := by
 rcases hk with rfl | rfl
 ·exact Port1_C w0 ha
 ·exact Port2_C w0 ha

set_option maxHeartbeats 8000000 in
theorem Net24_C {R : Ro} {b : Nat} {a : Option Addr} {cp : Nat} {xs : List Int} {c : Nat} (w0 : World) (ha : K.RS R 1 encI a xs) {nl nf : Nat} (hnl4 : 1 ≤ nl ∧ nl ≤ 4) (hnf4 : nf ≤ 4) : FnAt Tryz.prog 9 [.pointer (some ⟨b, 0, none⟩), .int .i64 (nl : Int), .int .i64 (nf : Int)] w0 R (srcE b a cp xs c) (fun v R' e' N => ∃ (k : Nat) (ms : List LnM) (fs : List FlM) (na la fa : Option Addr) (nc lc fc cn : Nat), v = .agg #[.slice na (nm4.take ms.length).length nc, .slice la ms.length lc, .slice fa fs.length fc] ∧ (k = 1 ∨ k = 2) ∧ (1 ≤ ms.length ∧ ms.length ≤ nl) ∧ fs.length ≤ nf ∧ K.RS R' 1 encT na (nm4.take ms.length) ∧ K.RS R' 5 encLn la ms ∧ K.RS R' 8 encFl fa fs ∧ (∀ m ∈ ms, OkLn R' m ∧ DrawP k m.L) ∧ (∀ x ∈ fs, OkFl R' x ∧ (x.f.route.length ≤ x.c1 ∧ x.f.cv.vals.length ≤ x.c2) ∧ DrawF k ms.length x.f) ∧ fs.map FlM.nm = nf5.take fs.length ∧ ((nm4.take ms.length).length ≤ nc ∧ ms.length ≤ lc ∧ fs.length ≤ fc) ∧ e' = srcE b a cp xs cn ∧ N = []) := by
 intro F
 refine fE 64 Tryz.func9 ?_
 refine zQ (zG ?_)
 refine zA fun b6 => ?_
 refine zN (zU (zQ (zG ?_)))
 refine zA fun b7 => ?_
 refine zN (zU (zQ (zG (zR 1 rfl ?_))))
 refine WL.callAt 2 en25 rfl rfl qD (CallOp.mkT rfl rfl rfl rfl) rfl (Range_C (lo := 1) (hi := 2) w0 ha qO qO _) ?_
 rintro _ _ _ _ - ⟨rfl, rfl, rfl, rfl⟩
 obtain ⟨k, hkv, hk⟩ : ∃ k : Nat, 1 + mod (nth xs c) (2 - 1 + 1) = (k : Int) ∧ (k = 1 ∨ k = 2) := by
  have := mod_range (nth xs c) (show (1 : Int) ≤ 2 - 1 + 1 by omega)
  exact ⟨(1 + mod (nth xs c) (2 - 1 + 1)).toNat, by omega, by omega⟩
 rw [hkv]
 refine zR 1 rfl (zN (zU (zQ ?_)))
 refine W.nil 29 5 qD ?_
 refine W.nil 9 1 qD ?_
 refine zQ (zG (zR 2 rfl ?_))
 refine WL.callAt 4 en25 rfl rfl qD (CallOp.mkT rfl rfl rfl rfl) rfl (Range_C (lo := 1) (hi := (nl : Int)) w0 ha qO qO _) ?_
 rintro _ _ _ _ - ⟨rfl, rfl, rfl, rfl⟩
 obtain ⟨n, hnv, hn⟩ : ∃ n : Nat, 1 + mod (nth xs (c + 1)) ((nl : Int) - 1 + 1) = (n : Int) ∧ 1 ≤ n ∧ n ≤ nl := by
  have := mod_range (nth xs (c + 1)) (show (1 : Int) ≤ (nl : Int) - 1 + 1 by omega)
  exact ⟨(1 + mod (nth xs (c + 1)) ((nl : Int) - 1 + 1)).toNat, by omega, by omega⟩
 rw [hnv]
 refine zR 1 rfl (zN (zU (zB ?_)))
 refine W.loopR (β := Nat × List (List UInt8) × List LnM × Option Addr × Nat × Option Addr × Nat × Nat × Ro) (fun (j, ns, ms, a1, c1, a2, c2, cn, Rk) => j + ms.length = n ∧ ns = nm4.take ms.length ∧ RLe R Rk ∧ ∀ m ∈ ms, OkLn Rk m ∧ DrawP k m.L) (fun (j, ns, ms, a1, c1, a2, c2, cn, Rk) => [(9, true, .int .i64 (j : Int))]) [0, 2, 6, 7, 8] [_, _, _, _, _] [] _ rfl (fun (j, ns, ms, a1, c1, a2, c2, cn, Rk) => [(0, .sl 9 1 a1 c1 (ns.map encT)), (1, .sl 29 5 a2 c2 (ms.map encLn)), (2, .blk b7 [.slice a1 ns.length c1, .slice a2 ms.length c2, .slice none 0 0]), (4, srcE b a cp xs cn)]) (fun (j, ns, ms, a1, c1, a2, c2, cn, Rk) => Rk) (fun (j, ns, ms, a1, c1, a2, c2, cn, Rk) => j) ((n, [], [], none, 0, none, 0, c + 1 + 1, R)) (⟨by simp, rfl, RLe.refl _, fun m h => (by cases h)⟩) ⟨rfl, rfl, rfl, rfl, rfl, rfl, rfl⟩ (RLe.refl _) qS ?_
 intro zz hst
 obtain ⟨j, ns, ms, a1, c1, a2, c2, cn, Rk⟩ := zz
 dsimp only [zipE, setAll, List.cons_append, List.nil_append, List.set_cons_zero, List.set_cons_succ] at hst ⊢
 obtain ⟨hj, hns, hRk, hom⟩ := hst
 have ha := ha.mono hRk
 have hnl : ns.length = ms.length := by rw [hns, List.length_take]; show min _ 4 = _; omega
 refine zQ (zQ (zG (zR 2 rfl (zN (zU ?_)))))
 refine W.condD rfl (fun hc0 => ?_) (fun hc0 => ?_)
 ·try dsimp only at hc0
  have htk : ns ++ [nth nm4 (ns.length % 4)] = nm4.take (ms.length + 1) := by
   rw [hnl, Nat.mod_eq_of_lt (by omega), hns]
   exact (take_nth (show ms.length < nm4.length by show _ < 4; omega)).symm
  refine zK (zU (zQ (zB (zQ ?_))))
  refine W.regionD _ (.blk b6 [.slice none 0 0, .slice none 0 0, .slice none 0 0] :: F) (.blk b7 [.slice a1 ns.length c1, .slice a2 ms.length c2, .slice none 0 0] :: .blk b6 [.slice none 0 0, .slice none 0 0, .slice none 0 0] :: F) [12] mixed ?_
  refine VA.take2 0 rfl qK qK qK rfl qK qK rfl rfl qD (pureV_ok tab_ok rfl (fun _ => rfl)) qS qR qS ?_
  refine' VA.take2 1 rfl qK qK qK rfl qK qK rfl rfl qD (Yl.load1 tab_ok rfl rfl rfl (fun _ => rfl) ?r1 rfl ?h1) qS qR qS ?_
  case r1 => apply Rd.add; (exact Rd.blk 0 rfl)
  case h1 => rfl
  refine VA.take2 3 rfl qK qK qK rfl qK qK rfl rfl qD (pureV_ok tab_ok rfl (fun _ => rfl)) qS qR qS ?_
  refine' VA.take2 4 rfl qK qK qK rfl qK qK rfl rfl qD (Yl.load1 tab_ok rfl rfl rfl (fun _ => rfl) ?r2 rfl ?h2) qS qR qS ?_
  case r2 => apply Rd.add; (exact Rd.blk 0 rfl)
  case h2 => rfl
  refine VA.take2 5 rfl qK qK qK rfl qK qK rfl rfl qD (pureV_ok tab_ok rfl (fun _ => rfl)) qS qR qS ?_
  refine VA.take2 6 rfl qK qK qK rfl qK qK rfl rfl qD (Yl.rem rfl rfl rfl (fun _ => rfl) qN qN) qS qR qS ?_
  refine VA.one (i := 2) qK ?_
  refine VS.eff rfl rfl rfl qD (Ef.buildSliceD (enc := encT) (parts := [.const (.string ⟨#[97]⟩), .const (.string ⟨#[98]⟩), .const (.string ⟨#[99]⟩), .const (.string ⟨#[100]⟩)]) nm4 tab_ok rfl rfl rfl rfl rfl rfl rfl rfl qD qD (fun a22 => ?_))
  refine ⟨by first | exact RLe.refl _ | assumption, qS, (fun _ => qS), ?_⟩
  refine VA.take2 7 rfl qK qK qK rfl qK qK rfl rfl qD (Yl.indexN tab_ok rfl rfl rfl rfl rfl rfl (fun _ => rfl) (by intro _; (show _ < 4; exact Nat.mod_lt _ qD)) qH) qS qR qS ?_
  refine VA.one (i := 8) qK ?_
  refine' VS.yl rfl rfl rfl qD (Yl.load1 tab_ok rfl rfl rfl (fun _ => rfl) ?r3 rfl ?h3) qS qR (fun _ => qS) ?_
  case r3 => exact Rd.slD 0 rfl (by show _ < 4; exact Nat.mod_lt _ qD)
  case h3 => rfl
  refine VA.one (i := 9) qK ?_
  refine VS.eff rfl rfl rfl qD (Ef.buildSliceD (enc := encT) (parts := [.tmp 28]) [nth nm4 (ns.length % 4)] tab_ok rfl rfl rfl rfl rfl rfl rfl rfl qD qD (fun a29 => ?_))
  refine ⟨by first | exact RLe.refl _ | assumption, qS, (fun _ => qS), ?_⟩
  refine VA.one (i := 10) qK ?_
  refine VS.eff rfl rfl rfl (by decide) (Ef.appendD 2 0 tab_ok rfl rfl rfl rfl rfl rfl rfl rfl rfl rfl rfl (fun _ _ => rfl) (by simp only [List.length_cons, List.length_nil]; omega) (by simp only [List.length_cons, List.length_nil]; omega) (fun a30 c30 ha30 => ?_))
  refine ⟨by first | exact RLe.refl _ | assumption, qS, (fun _ => qS), ?_⟩
  refine VA.take2 11 rfl qK qK qK rfl qK qK rfl rfl qD (pureV_ok tab_ok rfl (fun _ => rfl)) qS qR qS ?_
  refine VA.one (i := 12) qK ?_
  refine VS.effN rfl rfl rfl (Ef.store 4 tab_ok rfl rfl rfl rfl rfl rfl rfl rfl ?_)
  refine ⟨by first | exact RLe.refl _ | assumption, qS, (noD qK), ?_⟩
  refine VA.done qK ?_
  refine zU ?_
  refine W.regionD _ (.blk b6 [.slice none 0 0, .slice none 0 0, .slice none 0 0] :: F) (.blk b7 [.slice a30 (ns ++ [nth nm4 (ns.length % 4)]).length c30, .slice a2 ms.length c2, .slice none 0 0] :: .blk b6 [.slice none 0 0, .slice none 0 0, .slice none 0 0] :: F) [8] mixed ?_
  refine VA.take2 0 rfl qK qK qK rfl qK qK rfl rfl qD (pureV_ok tab_ok rfl (fun _ => rfl)) qS qR qS ?_
  refine' VA.take2 1 rfl qK qK qK rfl qK qK rfl rfl qD (Yl.load1 tab_ok rfl rfl rfl (fun _ => rfl) ?r4 rfl ?h4) qS qR qS ?_
  case r4 => apply Rd.add; (exact Rd.blk 0 rfl)
  case h4 => rfl
  refine VA.take2 2 rfl qK qK qK rfl qK qK rfl rfl qD (pureV_ok tab_ok rfl (fun _ => rfl)) qS qR qS ?_
  refine VA.take2 3 rfl qK qK qK rfl qK qK rfl rfl qD (pureV_ok tab_ok rfl (fun _ => rfl)) qS qR qS ?_
  refine VA.one (i := 4) qK ?_
  refine VS.callAt 6 rfl en26 rfl rfl qD (CallOp.mkT rfl rfl rfl rfl) rfl (PortK_C hk w0 ha _) ?_
  rintro _ R2 _ _ hR2 ⟨L, aw, at_, cw, ct, cq, rfl, hf1, hf2, hdp, rfl, rfl⟩
  refine ⟨by first | exact hR2 | assumption, qS, (fun _ => qS), ?_⟩
  refine VA.one (i := 5) qK ?_
  refine VS.eff rfl rfl rfl qD (Ef.buildSliceD (enc := encLn) (parts := [.tmp 36]) [⟨aw, cw, at_, ct, L⟩] tab_ok rfl rfl rfl rfl rfl rfl rfl rfl qD qD (fun a37 => ?_))
  refine ⟨by first | exact RLe.refl _ | assumption, qS, (fun _ => qS), ?_⟩
  refine VA.one (i := 6) qK ?_
  refine VS.eff rfl rfl rfl (by decide) (Ef.appendD 4 0 tab_ok rfl rfl rfl rfl rfl rfl rfl rfl rfl rfl rfl (fun _ _ => rfl) (by simp only [List.length_cons, List.length_nil]; omega) (by simp only [List.length_cons, List.length_nil]; omega) (fun a38 c38 ha38 => ?_))
  refine ⟨by first | exact RLe.refl _ | assumption, qS, (fun _ => qS), ?_⟩
  refine VA.take2 7 rfl qK qK qK rfl qK qK rfl rfl qD (pureV_ok tab_ok rfl (fun _ => rfl)) qS qR qS ?_
  refine VA.one (i := 8) qK ?_
  refine VS.effN rfl rfl rfl (Ef.store 5 tab_ok rfl rfl rfl rfl rfl rfl rfl rfl ?_)
  refine ⟨by first | exact RLe.refl _ | assumption, qS, (noD qK), ?_⟩
  refine VA.done qK ?_
  refine zL (zU (zG (zR 1 rfl ?_)))
  refine yS ?_
  refine zR 1 rfl (zN ?_)
  refine WE.again ((j - 1, ns ++ [nth nm4 (ns.length % 4)], ms ++ [⟨aw, cw, at_, ct, L⟩], a30, c30, a38, c38, cq, R2)) (⟨by rw [List.length_append]; show j - 1 + (ms.length + 1) = n; omega, by rw [List.length_append]; exact htk, hRk.trans hR2, fun m hm => by
   rcases List.mem_append.1 hm with h | h
   ·exact ⟨(hom m h).1.mono hR2, (hom m h).2⟩
   ·rw [List.mem_singleton.1 h]; exact ⟨⟨hf1, hf2⟩, hdp⟩⟩) (by show j - 1 < j; omega) ⟨vint (by show (j : Int) - 1 = ((j - 1 : Nat) : Int); omega), rfl, rfl, rfl, rfl, rfl, rfl⟩ (RLe.refl _) qS
 ·try dsimp only at hc0
  obtain rfl : j = 0 := by omega
  subst hns
  refine zX ?_
  refine wx (wx (zY (zU (zQ ?_))))
  refine W.cap 0 rfl ?_
  intro hcl1
  refine W.cap 1 rfl ?_
  intro hcl2
  refine W.freeze (enc := encT) (xs := nm4.take ms.length) 0 rfl ?_
  intro R3 hR3 hna
  refine W.freeze (enc := encLn) (xs := ms) 0 rfl ?_
  intro R4 hR4 hla
  have hna := hna.mono hR4
  have ha := ha.mono (hR3.trans hR4)
  have hRR := (hRk.trans hR3).trans hR4
  refine W.nil 35 8 qD ?_
  refine zQ (zG (zR 2 rfl ?_))
  refine WL.callAt 3 en25 rfl rfl qD (CallOp.mkT rfl rfl rfl rfl) rfl (Range_C (lo := 0) (hi := (nf : Int)) w0 ha qO qO _) ?_
  rintro _ _ _ _ - ⟨rfl, rfl, rfl, rfl⟩
  obtain ⟨nq, hqv, hnq⟩ : ∃ n : Nat, 0 + mod (nth xs cn) ((nf : Int) - 0 + 1) = (n : Int) ∧ n ≤ nf := by
   have := mod_range (nth xs cn) (show (1 : Int) ≤ (nf : Int) - 0 + 1 by omega)
   exact ⟨(0 + mod (nth xs cn) ((nf : Int) - 0 + 1)).toNat, by omega, by omega⟩
  rw [hqv]
  refine zR 1 rfl (zN (zU (zB ?_)))
  refine W.loopR (β := Nat × List FlM × Option Addr × Nat × Nat × Ro) (fun (j, fs, a3, c3, cn, Rj) => j + fs.length = nq ∧ RLe R4 Rj ∧ fs.map FlM.nm = nf5.take fs.length ∧ ∀ x ∈ fs, OkFl Rj x ∧ (x.f.route.length ≤ x.c1 ∧ x.f.cv.vals.length ≤ x.c2) ∧ DrawF k ms.length x.f) (fun (j, fs, a3, c3, cn, Rj) => [(10, true, .int .i64 (j : Int))]) [0, 6, 7, 8] [_, _, _, _] [] _ rfl (fun (j, fs, a3, c3, cn, Rj) => [(0, .sl 35 8 a3 c3 (fs.map encFl)), (1, .blk b7 [.slice a1 (nm4.take ms.length).length c1, .slice a2 ms.length c2, .slice a3 fs.length c3]), (3, srcE b a cp xs cn)]) (fun (j, fs, a3, c3, cn, Rj) => Rj) (fun (j, fs, a3, c3, cn, Rj) => j) ((nq, [], none, 0, cn + 1, R4)) (⟨by simp, RLe.refl _, rfl, fun x h => (by cases h)⟩) ⟨rfl, rfl, rfl, rfl, rfl, rfl⟩ (RLe.refl _) qS ?_
  intro zz hst
  obtain ⟨j, fs, a3, c3, cn, Rj⟩ := zz
  dsimp only [zipE, setAll, List.cons_append, List.nil_append, List.set_cons_zero, List.set_cons_succ] at hst ⊢
  obtain ⟨hj, hRj, hfn, hof⟩ := hst
  have ha := ha.mono hRj
  have hfl5 : (fs.map FlM.nm).length = fs.length := List.length_map ..
  refine zQ (zQ (zG (zR 2 rfl (zN (zU ?_)))))
  refine W.condD rfl (fun hc1 => ?_) (fun hc1 => ?_)
  ·try dsimp only at hc1
   have htf : nf5.take fs.length ++ [nth nf5 (fs.length % 5)] = nf5.take (fs.length + 1) := by
    rw [Nat.mod_eq_of_lt (by omega)]
    exact (take_nth (show fs.length < nf5.length by show _ < 5; omega)).symm
   refine zK (zU (zQ (zB ?_)))
   refine W.regionD _ (.blk b6 [.slice none 0 0, .slice none 0 0, .slice none 0 0] :: F) (.blk b7 [.slice a1 (nm4.take ms.length).length c1, .slice a2 ms.length c2, .slice a3 fs.length c3] :: .blk b6 [.slice none 0 0, .slice none 0 0, .slice none 0 0] :: F) [16] mixed ?_
   refine VA.take2 0 rfl qK qK qK rfl qK qK rfl rfl qD (pureV_ok tab_ok rfl (fun _ => rfl)) qS qR qS ?_
   refine' VA.take2 1 rfl qK qK qK rfl qK qK rfl rfl qD (Yl.load1 tab_ok rfl rfl rfl (fun _ => rfl) ?r5 rfl ?h5) qS qR qS ?_
   case r5 => apply Rd.add; (exact Rd.blk 0 rfl)
   case h5 => rfl
   refine VA.take2 2 rfl qK qK qK rfl qK qK rfl rfl qD (pureV_ok tab_ok rfl (fun _ => rfl)) qS qR qS ?_
   refine' VA.take2 3 rfl qK qK qK rfl qK qK rfl rfl qD (Yl.load1 tab_ok rfl rfl rfl (fun _ => rfl) ?r6 rfl ?h6) qS qR qS ?_
   case r6 => (exact Rd.blk 0 rfl)
   case h6 => rfl
   refine VA.take2 5 rfl qK qK qK rfl qK qK rfl rfl qD (pureV_ok tab_ok rfl (fun _ => rfl)) qS qR qS ?_
   refine' VA.take2 6 rfl qK qK qK rfl qK qK rfl rfl qD (Yl.load1 tab_ok rfl rfl rfl (fun _ => rfl) ?r7 rfl ?h7) qS qR qS ?_
   case r7 => apply Rd.add; (exact Rd.blk 0 rfl)
   case h7 => rfl
   refine VA.take2 7 rfl qK qK qK rfl qK qK rfl rfl qD (pureV_ok tab_ok rfl (fun _ => rfl)) qS qR qS ?_
   refine VA.take2 8 rfl qK qK qK rfl qK qK rfl rfl qD (Yl.rem rfl rfl rfl (fun _ => rfl) qN qN) qS qR qS ?_
   refine VA.take2 11 rfl qK qK qK rfl qK qK rfl rfl qD (pureV_ok tab_ok rfl (fun _ => rfl)) qS qR qS ?_
   refine VA.one (i := 4) qK ?_
   refine VS.eff rfl rfl rfl qD (Ef.buildSliceD (enc := encT) (parts := [.const (.string ⟨#[102]⟩), .const (.string ⟨#[103]⟩), .const (.string ⟨#[104]⟩), .const (.string ⟨#[105]⟩), .const (.string ⟨#[106]⟩)]) nf5 tab_ok rfl rfl rfl rfl rfl rfl rfl rfl qD qD (fun a51 => ?_))
   refine ⟨by first | exact RLe.refl _ | assumption, qS, (fun _ => qS), ?_⟩
   refine VA.take2 9 rfl qK qK qK rfl qK qK rfl rfl qD (Yl.indexN tab_ok rfl rfl rfl rfl rfl rfl (fun _ => rfl) (by intro _; (show _ < 5; exact Nat.mod_lt _ qD)) qH) qS qR qS ?_
   refine VA.one (i := 10) qK ?_
   refine' VS.yl rfl rfl rfl qD (Yl.load1 tab_ok rfl rfl rfl (fun _ => rfl) ?r8 rfl ?h8) qS qR (fun _ => qS) ?_
   case r8 => exact Rd.slD 0 rfl (by show _ < 5; exact Nat.mod_lt _ qD)
   case h8 => rfl
   refine VA.one (i := 12) qK ?_
   refine VS.callAt 4 rfl en27 rfl rfl qD (CallOp.mkT rfl rfl rfl rfl) rfl (Flow24_C (m := ms.length) (k := k) w0 ha hk ⟨by omega, by omega⟩ (nf5_len (fs.length % 5)) _) ?_
   rintro _ R2 _ _ hR2 ⟨x, cq, rfl, hxo, hx1, hx2, hxn, hxd, rfl, rfl⟩
   refine ⟨by first | exact hR2 | assumption, qS, (fun _ => qS), ?_⟩
   refine VA.one (i := 13) qK ?_
   refine VS.eff rfl rfl rfl qD (Ef.buildSliceD (enc := encFl) (parts := [.tmp 59]) [x] tab_ok rfl rfl rfl rfl rfl rfl rfl rfl qD qD (fun a60 => ?_))
   refine ⟨by first | exact RLe.refl _ | assumption, qS, (fun _ => qS), ?_⟩
   refine VA.one (i := 14) qK ?_
   refine VS.eff rfl rfl rfl (by decide) (Ef.appendD 2 0 tab_ok rfl rfl rfl rfl rfl rfl rfl rfl rfl rfl rfl (fun _ _ => rfl) (by simp only [List.length_cons, List.length_nil]; omega) (by simp only [List.length_cons, List.length_nil]; omega) (fun a61 c61 ha61 => ?_))
   refine ⟨by first | exact RLe.refl _ | assumption, qS, (fun _ => qS), ?_⟩
   refine VA.take2 15 rfl qK qK qK rfl qK qK rfl rfl qD (pureV_ok tab_ok rfl (fun _ => rfl)) qS qR qS ?_
   refine VA.one (i := 16) qK ?_
   refine VS.effN rfl rfl rfl (Ef.store 3 tab_ok rfl rfl rfl rfl rfl rfl rfl rfl ?_)
   refine ⟨by first | exact RLe.refl _ | assumption, qS, (noD qK), ?_⟩
   refine VA.done qK ?_
   refine zL (zU (zG (zR 1 rfl ?_)))
   refine yS ?_
   refine zR 1 rfl (zN ?_)
   refine WE.again ((j - 1, fs ++ [x], a61, c61, cq, R2)) (⟨by rw [List.length_append]; show j - 1 + (fs.length + 1) = nq; omega, hRj.trans hR2, by rw [List.map_append, hfn, List.length_append, List.map_singleton, show FlM.nm x = nth nf5 (fs.length % 5) from hxn]; exact htf, fun y hy => by
    rcases List.mem_append.1 hy with h | h
    ·exact ⟨(hof y h).1.mono hR2, (hof y h).2⟩
    ·rw [List.mem_singleton.1 h]; exact ⟨hxo, ⟨hx1, hx2⟩, hxd⟩⟩) (by show j - 1 < j; omega) ⟨vint (by show (j : Int) - 1 = ((j - 1 : Nat) : Int); omega), rfl, rfl, rfl, rfl, rfl⟩ (RLe.refl _) qS
  ·try dsimp only at hc1
   obtain rfl : j = 0 := by omega
   refine zX ?_
   refine wx (wx (zY (zU ?_)))
   refine W.cap 0 rfl ?_
   intro hcl3
   refine W.freeze (enc := encFl) (xs := fs) 0 rfl ?_
   intro R5 hR5 hfa
   have hRR := hRR.trans (hRj.trans hR5)
   have hna := hna.mono (hRj.trans hR5)
   have hla := hla.mono (hRj.trans hR5)
   refine zQ (zG ?_)
   refine yL (Rd.blk 0 rfl) ?_
   refine zE 1 ?_
   refine zN (zU (zT ?_))
   refine WE.retFS (E' := srcE b a cp xs (cn) :: F) qS tab_ok [_] rfl ⟨⟨_, _, _, rfl, rfl, rfl, qB, rfl⟩, trivial⟩ (by first | assumption | exact RLe.refl _) ?_
   exact ⟨_, [], rfl, k, ms, fs, _, _, _, _, _, _, _, rfl, hk, ⟨by omega, by omega⟩, by omega, hna, hla, hfa, fun m hm => ⟨(hom m hm).1.mono (hR3.trans (hR4.trans (hRj.trans hR5))), (hom m hm).2⟩, fun x hx => ⟨(hof x hx).1.mono hR5, (hof x hx).2⟩, hfn, ⟨by simpa using hcl1, by simpa using hcl2, by simpa using hcl3⟩, rfl, rfl⟩



theorem nod_word {s : List UInt8} {d : UInt8} {a i : Nat} (hi : i ≤ s.length) (h : ∀ j, a ≤ j → j < i → byteAt s j ≠ (d.toNat : Int)) : ∀ c ∈ (s.take i).drop a, c ≠ d := fun c hc => by
 obtain ⟨q, hq, rfl⟩ := List.getElem_of_mem hc
 rw [List.length_drop, List.length_take] at hq
 have hqs : a + q < s.length := by omega
 rw [List.getElem_drop, List.getElem_take]
 intro e
 refine h (a + q) qO qO ?_
 unfold byteAt
 rw [List.getD_eq_getElem?_getD, List.getElem?_eq_getElem hqs, Option.getD_some, e]
theorem spl_at {s : List UInt8} {d : UInt8} {a i : Nat} (ha : a ≤ i) (hi : i < s.length) (hd : byteAt s i = (d.toNat : Int)) (h : ∀ j, a ≤ j → j < i → byteAt s j ≠ (d.toNat : Int)) : splC d (s.drop a) = (s.take i).drop a :: splC d (s.drop (i + 1)) := by
 have hdi : s[i] = d := by
  unfold byteAt at hd
  rw [List.getD_eq_getElem?_getD, List.getElem?_eq_getElem hi, Option.getD_some] at hd
  exact UInt8.toNat_inj.1 qO
 have e : s.drop a = (s.take i).drop a ++ d :: s.drop (i + 1) := by
  have e1 : s = s.take i ++ (s[i] :: s.drop (i + 1)) := by rw [← List.drop_eq_getElem_cons hi, List.take_append_drop]
  have e2 := congrArg (List.drop a) e1
  rw [List.drop_append_of_le_length (by rw [List.length_take]; omega), hdi] at e2
  exact e2
 rw [e]
 exact (splC_word _ _ (nod_word qO h)).1
theorem spl_end {s : List UInt8} {d : UInt8} {a : Nat} (ha : a ≤ s.length) (h : ∀ j, a ≤ j → j < s.length → byteAt s j ≠ (d.toNat : Int)) : splC d (s.drop a) = [(s.take s.length).drop a] := by
 have h2 := nod_word (a := a) (Nat.le_refl _) h
 rw [List.take_length] at h2 ⊢
 exact (splC_word _ [] h2).2

set_option maxHeartbeats 1000000 in
theorem Split24_C {R : Ro} {s : List UInt8} {d : UInt8} (hs : s.length ≤ 1000000) (w0 : World) (E : List Ent) : K.Fn Tryz.prog 23 [.string (str s), .int .u8 (d.toNat : Int)] w0 R E (fun v R' E' => ∃ (a : Option Addr) (c : Nat), v = .slice a (splC d s).length c ∧ RS R' 1 encT a (splC d s) ∧ (splC d s).length ≤ c ∧ E' = E) := by
 have hss := str_size s
 refine fE 35 Tryz.func23 ?_
 refine zQ (zG (zR 1 rfl (zN (zU ?_))))
 refine W.nil 9 1 qD ?_
 refine zQ (zG (zR 1 rfl (zN (zU (zQ (zG (zR 1 rfl (zN (zU (zQ (zQ (zG (zR 1 rfl (zN (zU (zB ?_))))))))))))))))
 refine W.loopK (β := Nat × Nat × List (List UInt8) × Option Addr × Nat) (fun (i, fr, ws, a5, c5) => ws.length ≤ i ∧ ((i ≤ s.length ∧ fr ≤ i ∧ ws ++ splC d (s.drop fr) = splC d s ∧ (∀ j, fr ≤ j → j < i → byteAt s j ≠ (d.toNat : Int))) ∨ (i = s.length + 1 ∧ ws = splC d s))) (fun (i, fr, ws, a5, c5) => [(5, true, .slice a5 ws.length c5), (6, true, .int .i64 (fr : Int)), (7, true, .int .i64 (i : Int))]) [0, 1] [_, _] [] _ rfl (fun (i, fr, ws, a5, c5) => [(0, .sl 9 1 a5 c5 (ws.map encT))]) (fun (i, fr, ws, a5, c5) => s.length + 1 - i) ((0, 0, [], none, 0)) (⟨Nat.le_refl _, .inl ⟨Nat.zero_le _, Nat.le_refl _, rfl, fun j h1 h2 => absurd h2 qO⟩⟩) ⟨rfl, rfl, rfl, rfl, rfl, rfl⟩ qS ?_
 intro zz hst
 obtain ⟨i, fr, ws, a5, c5⟩ := zz
 dsimp only [zipE, setAll, List.cons_append, List.nil_append, List.set_cons_zero, List.set_cons_succ] at hst ⊢
 obtain ⟨hwl, hiv⟩ := hst
 refine zQ (zQ (zG (zR 4 rfl (zN (zU ?_)))))
 refine W.condD rfl (fun hc0 => ?_) (fun hc0 => ?_)
 ·try dsimp only at hc0
  rcases hiv with ⟨hi, hfi, hwe, hno⟩ | ⟨hi, _⟩
  rotate_left
  ·omega
  refine zK (zU (zQ (zB (zQ (zG (zR 5 rfl ?_))))))
  refine yP ?_
  refine yP ?_
  refine WG.y rfl rfl (by decide) (Yl.sidx tab_ok rfl rfl rfl rfl rfl qE (by intro hg; (try simp only [zk] at hg); (constructor <;> omega))) ?_
  refine yP ?_
  refine yP ?_
  refine yO ?_
  refine zN (zU ?_)
  refine W.cond rfl (fun hc1 => ?_) (fun hc1 => ?_)
  ·try simp only [zk] at hc1
   refine zQ (zG (zR 4 rfl ?_))
   refine WG.y rfl rfl qD (Yl.sliceSLH tab_ok rfl rfl rfl rfl rfl rfl (fun _ => rfl) (by intro _; (refine ⟨?_, ?_, ?_⟩ <;> omega))) ?_
   refine WL.ef rfl rfl qD (Ef.buildSliceD (enc := encT) (parts := [.tmp 29]) [_] tab_ok rfl rfl rfl rfl rfl rfl rfl rfl qD qD (fun a30 => ?_))
   refine WL.ef rfl rfl (by decide) (Ef.appendD 1 0 tab_ok rfl rfl rfl rfl rfl rfl rfl rfl rfl rfl rfl (fun _ _ => rfl) (by simp only [List.length_cons, List.length_nil]; omega) (by simp only [List.length_cons, List.length_nil]; omega) (fun a31 c31 ha31 => ?_))
   refine zR 1 rfl (zN (zU (zG (zR 1 rfl ?_))))
   refine yA ?_
   refine zR 1 rfl (zN (zL (zU (zG (zR 1 rfl ?_)))))
   refine yA ?_
   refine zR 1 rfl (zN ?_)
   refine WE.again ((i + 1, i + 1, (ws ++ [(s.take i).drop fr]), a31, c31)) (⟨by rw [List.length_append]; show ws.length + 1 ≤ i + 1; omega, by
    show (i + 1 ≤ s.length ∧ i + 1 ≤ i + 1 ∧ (ws ++ [(s.take i).drop fr]) ++ splC d (s.drop (i + 1)) = splC d s ∧ _) ∨ (i + 1 = s.length + 1 ∧ (ws ++ [(s.take i).drop fr]) = splC d s)
    rcases Nat.lt_or_ge i s.length with hil | hil
    ·left
     have hbd : byteAt s i = (d.toNat : Int) := by
      have hbt : byteAt s ((i : Int)).toNat = byteAt s i := rfl
      rw [← hbt]
      rcases hc1 with h | h
      ·omega
      ·exact h
     refine ⟨by omega, Nat.le_refl _, ?_, fun j h1 h2 => absurd h2 (by dsimp only at h1 ⊢; omega)⟩
     rw [List.append_assoc, ← hwe, spl_at hfi hil hbd hno]; rfl
    ·right
     obtain rfl : i = s.length := by omega
     refine ⟨rfl, ?_⟩
     rw [← hwe, spl_end hfi hno]⟩) (by (try dsimp only); omega) ⟨rfl, rfl, rfl, rfl, rfl, rfl⟩ (RLe.refl _) qS
  ·try simp only [zk] at hc1
   have hil : i < s.length := by omega
   have hbi : byteAt s i ≠ (d.toNat : Int) := by
    have hbt : byteAt s ((i : Int)).toNat = byteAt s i := rfl
    rw [← hbt]; first | exact hc1.2 | exact hc1 (by omega) | omega
   refine zK (zL (zU (zG (zR 1 rfl ?_))))
   refine yA ?_
   refine zR 1 rfl (zN ?_)
   refine WE.again ((i + 1, fr, ws, a5, c5)) (⟨by dsimp only; omega, .inl ⟨by dsimp only; omega, by dsimp only; omega, hwe, fun j h1 h2 => by
    by_cases e : j = i
    ·subst e; exact hbi
    ·exact hno j h1 (by dsimp only at h2; omega)⟩⟩) (by (try dsimp only); omega) ⟨rfl, rfl, rfl, rfl, rfl, rfl⟩ (RLe.refl _) qS
 ·try dsimp only at hc0
  rcases hiv with ⟨hi, _⟩ | ⟨hi, hwe⟩
  ·omega
  subst hwe
  refine zX ?_
  refine wx (wx (zY (zU ?_)))
  refine W.cap 0 rfl ?_
  intro hcl
  refine W.freeze (enc := encT) (xs := splC d s) 0 rfl ?_
  intro R1 hR1 hwr
  refine zQ (zG (zR 2 rfl (zN (zU (zT ?_)))))
  refine sE (E := E) ?_
  refine WE.retF tab_ok [_] rfl ⟨rfl, trivial⟩ qR ?_
  exact ⟨a5, c5, rfl, hwr, by simpa using hcl, rfl⟩



theorem par_A : parN (lineA ++ [10]) = (([[97]], [(⟨1, 100, 1, [], []⟩ : Ln)], []), 0, 0) := by kernel_rfl
theorem par_B : parN (lineA ++ [10] ++ (lineB ++ [10])) = (zNt, 2, 4) := by kernel_rfl
theorem nt_eq {s : List UInt8} {n n' : Nt} {l l' e e' : Int} (h : parN s = (n, l, e)) (h' : parN s = (n', l', e')) : n = n' ∧ l = l' ∧ e = e' := by
 have h2 := h.symm.trans h'
 obtain ⟨h3, h4⟩ := Prod.mk.inj h2
 obtain ⟨h5, h6⟩ := Prod.mk.inj h4
 exact ⟨h3, h5, h6⟩
theorem nt_ms {L : Ln} {ms : List LnM} (h : ms.map (·.L) = [L]) : ∃ m, ms = [m] ∧ m.L = L := by
 obtain ⟨m, r, rfl, h1, h2⟩ := List.map_eq_cons_iff.1 h
 obtain rfl := List.map_eq_nil_iff.1 h2
 exact ⟨m, rfl, h1⟩

set_option maxHeartbeats 4000000 in
theorem SaneG_C {R : Ro} (hG : GlobE R) (w0 : World) (E : List Ent) : K.Fn Tryz.prog 7 [] w0 R E (fun v R' E' => v = .bool true ∧ E.Sublist E') := by
 refine fE 60 Tryz.func7 ?_
 refine zQ (zG (zR 1 rfl (zN (zU (zQ (zG ?_))))))
 have hp1 := Parse_C hG (s := lineA ++ [10]) (by decide) w0
 refine WL.call en19 rfl rfl qD (CallOp.mkT rfl rfl rfl rfl) (hp1 _) ?_
 rintro _ R1 _ hR1 ⟨na1, la1, fa1, nc1, lc1, fc1, ns1, ms1, fs1, ln1, e1, rfl, hna1, hla1, hom1, hof1, hnn1, hnc1, hlc1, hfc1, hpn1, rfl⟩
 have hG := hG.mono hR1
 obtain ⟨hq1, rfl, rfl⟩ := nt_eq hpn1 par_A
 obtain ⟨rfl, hq2⟩ := Prod.mk.inj hq1
 obtain ⟨hms, hfs⟩ := Prod.mk.inj hq2
 obtain rfl := List.map_eq_nil_iff.1 hfs
 obtain ⟨⟨x1, y1, x2, y2, L⟩, rfl, hL⟩ := nt_ms hms
 dsimp only at hL
 subst hL
 refine zR 4 rfl ?_
 refine zA fun b1 => ?_
 refine zE 0 ?_
 refine zR 2 rfl (zN (zU (zQ (zG ?_))))
 refine yL (Rd.blk 0 rfl) ?_
 refine WG.callV (v := .tuple #[.string (str (lineA ++ [10])), .int .i64 0]) en12 rfl rfl qD (CallOp.mk' rfl rfl rfl rfl) (fun _ => rfl) (fun hg => by
  have h := FmtN_V (fs := []) (fa := fa1) (fc := fc1) (nc := nc1) (lc := lc1) hG hna1 hla1 ⟨by simp, .inl rfl, by simp⟩ hom1 (fun m h => by cases h) (by decide)
  rw [show ([(⟨x1, y1, x2, y2, (⟨1, 100, 1, [], []⟩ : Ln)⟩ : LnM)].map (·.L)) = [(⟨1, 100, 1, [], []⟩ : Ln)] from rfl, show (([] : List FlM).map (·.f)) = [] from rfl, fmtN_nil, fmt_A] at h
  exact h) ?_
 refine zR 5 rfl (zN (zU (zQ (zG ?_))))
 have hp2 := Parse_C hG (s := lineA ++ [10] ++ (lineB ++ [10])) (by decide) w0
 refine WL.call en19 rfl rfl qD (CallOp.mkT rfl rfl rfl rfl) (hp2 _) ?_
 rintro _ R2 _ hR2 ⟨na2, la2, fa2, nc2, lc2, fc2, ns2, ms2, fs2, ln2, e2, rfl, hna2, hla2, hom2, hof2, hnn2, hnc2, hlc2, hfc2, hpn2, rfl⟩
 have hG := hG.mono hR2
 have hla1 := hla1.mono hR2
 obtain ⟨_, rfl, rfl⟩ := nt_eq hpn2 par_B
 refine zR 4 rfl ?_
 refine zA fun b6 => ?_
 refine zE 0 ?_
 refine zR 2 rfl (zN (zU (zQ (zG (zR 3 rfl ?_)))))
 refine WL.guardT rfl (by rfl) ?_
 refine yP ?_
 refine WL.guardT rfl (by rfl) ?_
 refine yP ?_
 refine yN ?_
 refine zR 1 rfl ?_
 refine WL.guardT rfl (by rfl) ?_
 refine yP ?_
 refine WL.guardT rfl (by rfl) ?_
 refine yL (Rd.add (Rd.blk 2 rfl) _) ?_
 refine WL.guardT rfl (by rfl) ?_
 refine yP ?_
 refine WL.guardT rfl (by rfl) ?_
 refine yP ?_
 refine yN ?_
 refine zR 1 rfl ?_
 refine WL.guardT rfl (by rfl) ?_
 refine yP ?_
 refine WL.guardT rfl (by rfl) ?_
 refine yL (Rd.add (Rd.blk 2 rfl) _) ?_
 refine WL.guardT rfl (by rfl) ?_
 refine WG.y rfl rfl qD (Yl.indexN tab_ok rfl rfl rfl rfl rfl rfl (fun _ => rfl) (by intro _; (exact Nat.one_pos)) qH) ?_
 refine WL.guardT rfl (by rfl) ?_
 refine yP ?_
 refine WL.guardT rfl (by rfl) ?_
 refine' WG.y rfl rfl qD (Yl.load1 tab_ok rfl rfl rfl (fun _ => rfl) ?r4 rfl ?h4) ?_
 case r4 => apply Rd.add; exact RS.rdD hla1 Nat.one_pos
 case h4 => rfl
 refine WL.guardT rfl (by rfl) ?_
 refine yP ?_
 refine yN ?_
 refine zR 1 rfl ?_
 refine WL.guardT rfl (by rfl) ?_
 refine yP ?_
 refine WL.guardT rfl (by rfl) ?_
 refine yP ?_
 refine yN ?_
 refine zR 1 rfl ?_
 refine WL.guardT rfl (by rfl) ?_
 refine yP ?_
 refine WL.guardT rfl (by rfl) ?_
 refine WG.y rfl rfl qD (Yl.eqS rfl rfl rfl (fun _ => rfl)) ?_
 refine yN ?_
 refine zR 1 rfl ?_
 refine WL.guardT rfl (by rfl) ?_
 refine yP ?_
 refine WL.guardT rfl (by rfl) ?_
 refine yP ?_
 refine yN ?_
 refine zR 1 rfl ?_
 refine WL.guardT rfl (by rfl) ?_
 refine yP ?_
 refine WL.guardT rfl (by rfl) ?_
 refine yP ?_
 refine yN ?_
 refine zR 1 rfl (zN (zU (zT ?_)))
 refine WE.retF tab_ok [_] rfl ⟨rfl, trivial⟩ (hR1.trans hR2) ?_
 exact ⟨rfl, qS⟩



set_option maxHeartbeats 8000000 in
theorem NettextPlaces_F {R : Ro} {z : Int} {a : Option Addr} {c : Nat} {xs : List Int} (ha : RS R 1 encI a xs) (hzr : 0 ≤ z ∧ z ≤ 255) (hG : GlobE R) (hc : xs.length ≤ c) (w0 : World) : K.Fn Tryz.prog 5 [.slice a xs.length c, .int .u8 z] w0 R [] (fun v _ _ => v = .bool true) := by
 
 refine fE 115 Tryz.func5 ?_
 refine zQ (zG (zR 1 rfl (zN (zU (zQ (zQ (zG (zR 3 rfl (zN (zU ?_))))))))))
 refine W.condD rfl (fun hc0 => ?_) (fun hc0 => ?_)
 ·try dsimp only at hc0
  refine zQ (zG ?_)
  refine WL.call en7 rfl rfl qD (CallOp.mkT rfl rfl rfl rfl) (SaneG_C hG w0 _) ?_
  rintro _ R9 E9 hR9 ⟨rfl, hsub9⟩
  refine WL.subE hsub9 ?_
  refine zR 1 rfl (zN (zU (zT (wt ?_))))
  refine WE.retF tab_ok [_] rfl ⟨rfl, trivial⟩ (by first | assumption | exact RLe.refl _ | exact hR1.trans (hR2.trans (hR5.trans (hR6.trans hR9)))) ?_
  exact rfl
 ·try dsimp only at hc0
  refine zK (zU (zQ (zG (zR 1 rfl ?_))))
  refine WL.call en8 rfl rfl qD (CallOp.mkT rfl rfl rfl rfl) (New_C w0 _ hc) ?_
  rintro _ _ _ - ⟨b, rfl, rfl, rfl⟩
  have hz := ha.take 2000
  refine WL.callAt 0 en9 rfl rfl qD (CallOp.mkT rfl rfl rfl rfl) rfl (Net24_C (nl := 3) (nf := 3) w0 hz qD qD _) ?_
  rintro _ R1 _ _ hR1 ⟨k, ms, fs, na, la, fa, nc, lc, fc, cn, rfl, hk, hml, hfl, hna, hla, hfa, hmd, hfd, hfn, hcaps, rfl, rfl⟩
  have hG := hG.mono hR1
  have hD : DrawN k ms fs := ⟨hk, ⟨hml.1, by omega⟩, by omega, fun m hm => (hmd m hm).2, fun x hx => (hfd x hx).2.2, hfn⟩
  obtain ⟨hrwl, hrw, hrwt, _⟩ := hD.rows
  obtain ⟨hf1, hf2, hf3, hf4, _⟩ := hD.facts
  have hbk := hD.back
  have hfmt := hD.fmt
  have hsp := splC_rwN hD
  refine zA fun b5 => ?_
  refine zE 0 ?_
  refine zN (zU (zQ (zG ?_)))
  refine yL (Rd.blk 0 rfl) ?_
  refine WG.callV (v := .tuple #[.string (str (rowsT (rwN ms fs))), .int .i64 0]) en12 rfl rfl qD (CallOp.mk' rfl rfl rfl rfl) (fun _ => rfl) (fun hg => by
   have h := FmtN_V (nc := nc) (lc := lc) (fc := fc) hG hna hla hfa (fun m hm => (hmd m hm).1) (fun x hx => (hfd x hx).1) (fun x hx => by have := (nm4_len hx).1; omega)
   rw [show nm4.take ms.length = nmsN ms from rfl, hfmt] at h
   exact h) ?_
  refine zR 5 rfl (zN (zU (zQ (zQ (zG (zR 2 rfl (zN (zU ?_))))))))
  refine W.condE rfl (fun hc1 => ?_) (fun hc1 => ?_)
  ·try dsimp only at hc1
   exact absurd hc1 qD
  ·try dsimp only at hc1
   refine zK (zU (zQ (zG (zR 1 rfl ?_))))
   have hp4 := Split24_C (R := R1) (s := rowsT (rwN ms fs)) (d := 10) (by omega) w0
   refine WL.call en23 rfl rfl qD (CallOp.mkT rfl rfl rfl rfl) (hp4 _) ?_
   rintro _ R2 _ hR2 ⟨sa, sc, rfl, hsr, hsc, rfl⟩
   rw [hsp] at hsr hsc ⊢
   have hG := hG.mono hR2
   have hrl : (rwN ms fs ++ [[]]).length = (rwN ms fs).length + 1 := by rw [List.length_append]; rfl
   refine zR 1 rfl (zN (zU (zQ (zQ (zG (zR 3 rfl ?_))))))
   refine yP ?_
   refine yP ?_
   refine yP ?_
   refine yG (Rd.addC (Rd.blkC 0 rfl) _) ?_
   refine yP ?_
   refine yP ?_
   refine yG (Rd.addC (Rd.blkC 0 rfl) _) ?_
   refine yP ?_
   refine WG.y rfl rfl (by decide) (Yl.add rfl rfl rfl qE (by intro hg; (try simp only [zk] at hg); constructor <;> (try dsimp only) <;> omega)) ?_
   refine WG.y rfl rfl (by decide) (Yl.add rfl rfl rfl qE (by intro hg; (try simp only [zk] at hg); constructor <;> (try dsimp only) <;> omega)) ?_
   refine yP ?_
   refine yO ?_
   refine zN (zU ?_)
   refine W.cond rfl (fun hc2 => ?_) (fun hc2 => ?_)
   ·try simp only [zk] at hc2
    exfalso; rcases hc2 with h | h <;> first | exact h rfl | exact h trivial | omega
   ·try simp only [zk] at hc2
    refine zK (zU (zQ (zG (zR 1 rfl ?_))))
    refine WG.y rfl rfl qD (Yl.convId tab_ok rfl rfl rfl rfl rfl rfl (fun _ => rfl) (by intro _; exact i64_wrap ⟨by omega, by omega⟩)) ?_
    obtain ⟨j, hj, hjl⟩ : ∃ j : Nat, z % ((rwN ms fs ++ [[]]).length : Int) = (j : Int) ∧ j ≤ (rwN ms fs).length := by
     have h1 := Int.emod_nonneg z (show ((rwN ms fs ++ [[]]).length : Int) ≠ 0 by omega)
     have h2 := Int.emod_lt_of_pos z (show (0 : Int) < ((rwN ms fs ++ [[]]).length : Int) by omega)
     exact ⟨(z % ((rwN ms fs ++ [[]]).length : Int)).toNat, by omega, by omega⟩
    refine zR 2 rfl ?_
    refine WG.y rfl rfl qD (Yl.rem rfl rfl rfl (fun _ => rfl) qN qN) ?_
    rw [hj]
    refine zR 1 rfl (zN (zU (zQ (zG (zR 1 rfl (zN (zU (zQ (zQ (zG (zR 3 rfl (zN (zU (zB ?_))))))))))))))
    refine W.loopK (β := Nat) (fun i => i ≤ (rwN ms fs).length + 1) (fun i => [(10, true, .string (str (plT (rwN ms fs) j i))), (57, true, .int .i64 (i : Int))]) [6, 8, 9, 56] [_, _, _, _] [] _ rfl (fun i => []) (fun i => (rwN ms fs).length + 1 - i) (0) (Nat.zero_le _) ⟨rfl, rfl, rfl, rfl, rfl, rfl, rfl⟩ qS ?_
    intro i hst
    dsimp only [zipE, setAll, List.cons_append, List.nil_append, List.set_cons_zero, List.set_cons_succ] at hst ⊢
    have hi := hst
    have hpl := plT_len (j := j) (fun x hx => (hrw x hx).2.2) i
    refine zQ (zG (zR 1 rfl (zN (zU (zQ ?_)))))
    refine W.condD rfl (fun hc3 => ?_) (fun hc3 => ?_)
    ·try dsimp only at hc3
     have hil : i ≤ (rwN ms fs).length := by omega
     refine zK (zU (zQ (zB (zQ (zG (zR 2 rfl (zN (zU (zQ (zQ (zG (zR 3 rfl (zN (zU ?_))))))))))))))
     refine W.condE rfl (fun hc4 => ?_) (fun hc4 => ?_)
     ·try dsimp only at hc4
      have hij : i = j := by omega
      refine zG (zR 1 rfl ?_)
      refine WG.y rfl rfl (by decide) (Yl.catS rfl rfl rfl (fun _ => rfl) (by intro _; (simp only [List.length_cons, List.length_nil]; omega))) ?_
      refine zR 1 rfl (zN (zU (zQ (zG (zR 1 rfl ?_)))))
      refine yA ?_
      refine zR 3 rfl (zN (zU ?_))
      refine W.condD rfl (fun hc5 => ?_) (fun hc5 => ?_)
      ·try dsimp only at hc5
       have hir : i < (rwN ms fs).length := by omega
       have hnr := (hrw _ (nth_mem hir)).2.2
       have hnn := nth_snocl (x := []) hir
       refine zG (zR 3 rfl ?_)
       refine WG.y rfl rfl qD (Yl.indexN tab_ok rfl rfl rfl rfl rfl rfl (fun _ => rfl) qN qH) ?_
       refine' WG.y rfl rfl qD (Yl.load1 tab_ok rfl rfl rfl (fun _ => rfl) ?r4 rfl ?h4) ?_
       case r4 => exact RS.rdD hsr qO
       case h4 => rfl
       refine WG.y rfl rfl (by decide) (Yl.catS rfl rfl rfl (fun _ => rfl) (by intro _; (rw [hnn]; simp only [List.length_cons, List.length_nil]; omega))) ?_
       refine WG.y rfl rfl (by decide) (Yl.catS rfl rfl rfl (fun _ => rfl) (by intro _; (rw [hnn]; simp only [List.length_append, List.length_cons, List.length_nil]; omega))) ?_
       refine zR 1 rfl (zN (zL (zU (zG ?_))))
       refine yA ?_
       refine zR 1 rfl (zN ?_)
       rw [show ((plT (rwN ms fs) j i) ++ [102, 108, 111, 119, 115, 10] ++ (nth (rwN ms fs ++ [[]]) i ++ [10])) = plT (rwN ms fs) j (i + 1) from by rw [plT, if_pos hij, if_pos hir, hnn]; rfl]
       refine WE.again (i + 1) (by show i + 1 ≤ _; omega) (by show _ - (i + 1) < _ - i; omega) ⟨rfl, rfl, rfl, rfl, rfl, rfl, rfl⟩ (RLe.refl _) qS
      ·try dsimp only at hc5
       have hir : ¬ i < (rwN ms fs).length := by omega
       refine zK (zL (zU (zG ?_)))
       refine yA ?_
       refine zR 1 rfl (zN ?_)
       rw [show ((plT (rwN ms fs) j i) ++ [102, 108, 111, 119, 115, 10]) = plT (rwN ms fs) j (i + 1) from by rw [plT, if_pos hij, if_neg hir, List.append_nil]; rfl]
       refine WE.again (i + 1) (by show i + 1 ≤ _; omega) (by show _ - (i + 1) < _ - i; omega) ⟨rfl, rfl, rfl, rfl, rfl, rfl, rfl⟩ (RLe.refl _) qS
     ·try dsimp only at hc4
      have hij : ¬ i = j := by omega
      refine zK (zU (zQ (zG (zR 1 rfl ?_))))
      refine yA ?_
      refine zR 3 rfl (zN (zU ?_))
      refine W.condD rfl (fun hc6 => ?_) (fun hc6 => ?_)
      ·try dsimp only at hc6
       have hir : i < (rwN ms fs).length := by omega
       have hnr := (hrw _ (nth_mem hir)).2.2
       have hnn := nth_snocl (x := []) hir
       refine zG (zR 3 rfl ?_)
       refine WG.y rfl rfl qD (Yl.indexN tab_ok rfl rfl rfl rfl rfl rfl (fun _ => rfl) qN qH) ?_
       refine' WG.y rfl rfl qD (Yl.load1 tab_ok rfl rfl rfl (fun _ => rfl) ?r5 rfl ?h5) ?_
       case r5 => exact RS.rdD hsr qO
       case h5 => rfl
       refine WG.y rfl rfl (by decide) (Yl.catS rfl rfl rfl (fun _ => rfl) (by intro _; (rw [hnn]; simp only [List.length_cons, List.length_nil]; omega))) ?_
       refine WG.y rfl rfl (by decide) (Yl.catS rfl rfl rfl (fun _ => rfl) (by intro _; (rw [hnn]; simp only [List.length_append, List.length_cons, List.length_nil]; omega))) ?_
       refine zR 1 rfl (zN (zL (zU (zG ?_))))
       refine yA ?_
       refine zR 1 rfl (zN ?_)
       rw [show ((plT (rwN ms fs) j i) ++ (nth (rwN ms fs ++ [[]]) i ++ [10])) = plT (rwN ms fs) j (i + 1) from by rw [plT, if_neg hij, if_pos hir, hnn, List.append_nil]]
       refine WE.again (i + 1) (by show i + 1 ≤ _; omega) (by show _ - (i + 1) < _ - i; omega) ⟨rfl, rfl, rfl, rfl, rfl, rfl, rfl⟩ (RLe.refl _) qS
      ·try dsimp only at hc6
       have hir : ¬ i < (rwN ms fs).length := by omega
       refine zK (zL (zU (zG ?_)))
       refine yA ?_
       refine zR 1 rfl (zN ?_)
       rw [show (plT (rwN ms fs) j i) = plT (rwN ms fs) j (i + 1) from by rw [plT, if_neg hij, if_neg hir, List.append_nil, List.append_nil]]
       refine WE.again (i + 1) (by show i + 1 ≤ _; omega) (by show _ - (i + 1) < _ - i; omega) ⟨rfl, rfl, rfl, rfl, rfl, rfl, rfl⟩ (RLe.refl _) qS
    ·try dsimp only at hc3
     obtain rfl : i = (rwN ms fs).length + 1 := by omega
     rw [plT_all hjl]
     refine zX ?_
     refine wx (wx (zY (zU (zQ (zG (zR 1 rfl ?_))))))
     have hp5 := Parse_C hG (s := rowsT ((rwN ms fs).take j) ++ (wFlows ++ [10]) ++ rowsT ((rwN ms fs).drop j)) (by have := plT_len (j := j) (fun x hx => (hrw x hx).2.2) ((rwN ms fs).length + 1); rw [plT_all hjl] at this; omega) w0
     refine WL.call en19 rfl rfl qD (CallOp.mkT rfl rfl rfl rfl) (hp5 _) ?_
     rintro _ R5 _ hR5 ⟨na5, la5, fa5, nc5, lc5, fc5, ns5, ms5, fs5, ln5, e5, rfl, hna5, hla5, hom5, hof5, hnn5, hnc5, hlc5, hfc5, hpn5, rfl⟩
     have hG := hG.mono hR5
     obtain ⟨_, rfl, rfl⟩ := nt_eq hpn5 (hD.placed hjl)
     have hsr := hsr.mono hR5
     have h0l : 0 < (rwN ms fs ++ [[]]).length := by omega
     refine zR 4 rfl ?_
     refine zA fun b12 => ?_
     refine zE 0 ?_
     refine zR 2 rfl (zN (zU (zQ (zG (zR 2 rfl ?_)))))
     refine WG.y rfl rfl qD (Yl.indexN tab_ok rfl rfl rfl rfl rfl rfl (fun _ => rfl) (by intro _; (exact h0l)) qH) ?_
     refine' WG.y rfl rfl qD (Yl.load1 tab_ok rfl rfl rfl (fun _ => rfl) ?r6 rfl ?h6) ?_
     case r6 => exact RS.rdD hsr h0l
     case h6 => rfl
     have h0n : nth (rwN ms fs ++ [[]]) 0 = nth (rwN ms fs) 0 := nth_snocl (by omega)
     rw [h0n]
     refine WG.y rfl rfl qD (Yl.catS rfl rfl rfl (fun _ => rfl) (by intro _; (have := (hrw _ (nth_mem (show 0 < (rwN ms fs).length by omega))).2.2; omega))) ?_
     have hp6 := Parse_C hG (s := rowsT (rwN ms fs) ++ nth (rwN ms fs) 0) (by have := (hrw _ (nth_mem (show 0 < (rwN ms fs).length by omega))).2.2; rw [List.length_append]; omega) w0
     refine WL.call en19 rfl rfl qD (CallOp.mkT rfl rfl rfl rfl) (hp6 _) ?_
     rintro _ R6 _ hR6 ⟨na6, la6, fa6, nc6, lc6, fc6, ns6, ms6, fs6, ln6, e6, rfl, hna6, hla6, hom6, hof6, hnn6, hnc6, hlc6, hfc6, hpn6, rfl⟩
     have hG := hG.mono hR6
     obtain ⟨_, rfl, rfl⟩ := nt_eq hpn6 hD.torn
     refine zR 4 rfl ?_
     refine zA fun b15 => ?_
     refine zE 0 ?_
     refine zR 2 rfl (zN (zU (zQ (zG (zR 3 rfl ?_)))))
     refine WL.guardT rfl (by first | rfl | simp) ?_
     refine yP ?_
     refine WL.guardT rfl (by first | rfl | simp) ?_
     refine yP ?_
     refine WL.guardT rfl (by first | rfl | simp) ?_
     refine yA ?_
     refine WL.guardT rfl (by first | rfl | simp) ?_
     refine yP ?_
     refine yN ?_
     refine zR 1 rfl ?_
     refine WL.guardT rfl (by first | rfl | simp) ?_
     refine yP ?_
     refine WL.guardT rfl (by first | rfl | simp) ?_
     refine yP ?_
     refine yN ?_
     refine zR 1 rfl ?_
     refine WL.guardT rfl (by first | rfl | simp) ?_
     refine yP ?_
     refine WL.guardT rfl (by first | rfl | simp) ?_
     refine yP ?_
     refine WL.guardT rfl (by first | rfl | simp) ?_
     refine yP ?_
     refine WL.guardT rfl (by first | rfl | simp) ?_
     refine yP ?_
     refine yN ?_
     refine zR 1 rfl ?_
     refine WL.guardT rfl (by first | rfl | simp) ?_
     refine WL.callT en7 rfl rfl (by rfl) qD (CallOp.mk' rfl rfl rfl rfl) rfl (SaneG_C hG w0 _) ?_
     rintro _ R9 E9 hR9 ⟨rfl, hsub9⟩
     refine WL.subE hsub9 ?_
     refine yN ?_
     refine zR 1 rfl (zN (zU (zT ?_)))
     refine WE.retF tab_ok [_] rfl ⟨rfl, trivial⟩ (by first | assumption | exact RLe.refl _ | exact hR1.trans (hR2.trans (hR5.trans (hR6.trans hR9)))) ?_
     (show Value.bool _ = Value.bool true; simp [hrl])

end Go.Proofs.YtmidibkljoaoiaaGreatDoor

/- A law over a list of numbers: from its contract to its row. No condition. -/
namespace Go.Proofs.YtmidibkljoaoiaaGreatDoor.K
open Go Go.RowKit

theorem mem0 (W : World) : Mem W W (fun _ => none) [] :=
 ⟨Below.refl _ W, fun b cs h => (by cases h), fun e he => (by cases he), fun e he => (by cases he), List.Pairwise.nil⟩
theorem encI_flat : ∀ (zs : List Int), (zs.map encI).flatten = zs.map (Value.int .i64)
 | [] => rfl
 | z :: zs => by simp [encI, encI_flat zs]
theorem rs_of_ints {W : World} {a : Addr} {zs : List Int} (hcell : ∀ i, i < zs.length → W.cell? (a.add i) = some (.int .i64 (zs.getD i 0))) (hl : zs.length ≤ 9223372036854775807) :
  ∃ R, Mem W W R [] ∧ RS R 1 encI (some a) zs := by
 by_cases h0 : zs = []
 ·subst h0
  exact ⟨_, mem0 W, by simp, .inl rfl, by simp⟩
 ·have hpos : 0 < zs.length := List.length_pos_iff.2 h0
  have h1 := hcell 0 hpos
  unfold World.cell? at h1
  cases hh : W.heap[(a.add 0).block]? with
  | none => simp [hh] at h1
  | some o =>
   cases o with
   | cells arr T fz =>
    have hs : a.spot = none := by
     simp only [hh] at h1
     cases hsp : a.spot with
     | none => rfl
     | some x => simp [Addr.add, hsp] at h1
    have hb : (a.add 0).block = a.block := rfl
    rw [hb] at hh
    refine ⟨fun b => if b = a.block then some arr.toList else none, ⟨Below.refl _ W, fun b cs h => ?_, fun e he => (by cases he), fun e he => (by cases he), List.Pairwise.nil⟩, by simp [encI], .inr ⟨a.block, a.off, arr.toList, ?_, by simp, fun j v hv => ?_⟩, by simpa using hl⟩
    ·by_cases hba : b = a.block
     ·subst hba
      simp at h; subst h
      exact ⟨T, fz, by simpa using hh⟩
     ·simp [hba] at h
    ·cases a; simp only at hs; subst hs; rfl
    ·rw [encI_flat] at hv
     have hj : j < zs.length := by
      have := (List.getElem?_eq_some_iff.1 hv).1
      simpa using this
     have h2 := hcell j hj
     unfold World.cell? at h2
     have hbj : (a.add j).block = a.block := by unfold Addr.add; split <;> rfl
     have hsj : (a.add j).spot = a.spot := by unfold Addr.add; split <;> simp [hs]
     have hoj : (a.add j).off = a.off + j := by unfold Addr.add; split <;> simp [*]
     rw [hbj, hh] at h2
     simp only [hsj, hs, hoj] at h2
     rw [List.getElem?_map, List.getElem?_eq_getElem hj] at hv
     simp only [Option.map_some, Option.some.injEq] at hv
     subst hv
     have e1 : zs.getD j 0 = zs[j] := by simp [List.getD, List.getElem?_eq_getElem hj]
     rw [e1] at h2
     simpa using h2
   | _ => simp [hh] at h1

/-- a contract over a list of numbers, seen from outside -/
def LawI (P : Program) (f : FuncId) : Prop := ∀ {R : Ro} {a : Option Addr} {c : Nat} {xs : List Int}, RS R 1 encI a xs → xs.length ≤ c → ∀ w0, Fn P f [.slice a xs.length c] w0 R [] (fun v _ _ => v = .bool true)
theorem LawI.nil {P : Program} {f : FuncId} (h : LawI P f) (W : World) : Calls P f #[.slice none 0 0] W fun e W' => e = .returned (.bool true) ∧ Below W.heap.size W W' := by
 refine (h (R := fun _ => none) (a := none) (c := 0) (xs := []) ⟨by simp, .inl rfl, by simp⟩ (Nat.le_refl _) W W (mem0 W)).mono ?_
 rintro e w' ⟨v, R', E', rfl, _, hm, rfl⟩
 exact ⟨rfl, hm.below⟩
theorem LawI.some {P : Program} {f : FuncId} (h : LawI P f) {W : World} {a : Addr} {len cap : Nat} {zs : List Int} (hcell : ∀ i, i < zs.length → W.cell? (a.add i) = some (.int .i64 (zs.getD i 0))) (hl : zs.length ≤ 9223372036854775807) (hz : zs.length = cap) (hc : len ≤ cap) :
  Calls P f #[.slice (some a) len cap] W fun e W' => e = .returned (.bool true) ∧ Below W.heap.size W W' := by
 obtain ⟨R, hm, hr⟩ := rs_of_ints hcell hl
 have hr := hr.take len
 have hlen : (zs.take len).length = len := by simp; omega
 have := h (c := cap) hr (by omega) W W hm
 rw [hlen] at this
 refine this.mono ?_
 rintro e w' ⟨v, R', E', rfl, _, hm, rfl⟩
 exact ⟨rfl, hm.below⟩
end Go.Proofs.YtmidibkljoaoiaaGreatDoor.K

/- A law over any data: from its contract to its row. No condition. -/
namespace Go.Proofs.YtmidibkljoaoiaaGreatDoor.K
open Go Go.RowKit Go.ChangeShapes Go.WideShapes Go.ChangeAt Go.WideElems Go.Maps

/-- all that lies in memory, as what is read only -/
def roOf (W : World) : Ro := fun b => match W.heap[b]? with
  | some (.cells arr _ _) => some arr.toList
  | _ => none
theorem memAll (W : World) : Mem W W (roOf W) [] := by
 refine ⟨Below.refl _ W, fun b cs h => ?_, fun e he => (by cases he), fun e he => (by cases he), List.Pairwise.nil⟩
 unfold roOf at h
 split at h
 ·rename_i arr T fz hh
  simp only [Option.some.injEq] at h
  subst h
  exact ⟨T, fz, by simpa using hh⟩
 ·cases h
def ints (z : List Int) : List Value := z.map (Value.int .i64)
/-- rows of numbers that lie in memory -/
theorem rsl_of {W : World} {k : Nat} {a : Addr} {zss : List (List Int)} (hk : 0 < k) (hl : ∀ z ∈ zss, z.length = k) (hm : zss.length ≤ 9223372036854775807)
  (hc : ∀ i z, zss[i]? = some z → ∀ j v, (ints z)[j]? = some v → W.cell? (a.add (i * k + j)) = some v) : RSl (roOf W) k (some a) (zss.map ints) := by
 have hlen : ∀ r ∈ zss.map ints, r.length = k := fun r hr => by
  obtain ⟨z, hz, rfl⟩ := List.mem_map.1 hr
  simp [ints, hl z hz]
 by_cases h0 : zss = []
 ·subst h0
  exact ⟨by simp, .inl rfl, by simp⟩
 ·have hpos : 0 < zss.length := List.length_pos_iff.2 h0
  have hz0 : (ints zss[0]).length = k := by simp [ints, hl _ (List.getElem_mem hpos)]
  have h1 := hc 0 zss[0] (List.getElem?_eq_getElem hpos) 0 ((ints zss[0])[0]'(by omega)) (List.getElem?_eq_getElem (by omega))
  rw [Nat.zero_mul, Nat.zero_add] at h1
  unfold World.cell? at h1
  cases hh : W.heap[(a.add 0).block]? with
  | none => simp [hh] at h1
  | some o =>
   cases o with
   | cells arr T fz =>
    have hs : a.spot = none := by
     simp only [hh] at h1
     cases hsp : a.spot with
     | none => rfl
     | some x => simp [Addr.add, hsp] at h1
    have hb : (a.add 0).block = a.block := rfl
    rw [hb] at hh
    refine ⟨hlen, .inr ⟨a.block, a.off, arr.toList, ?_, ?_, fun m v hv => ?_⟩, by simpa using hm⟩
    ·cases a; simp only at hs; subst hs; rfl
    ·unfold roOf; rw [hh]
    ·have hmlt : m < (zss.map ints).flatten.length := (List.getElem?_eq_some_iff.1 hv).1
     rw [flatten_len hlen, List.length_map] at hmlt
     have hi : m / k < zss.length := Nat.div_lt_of_lt_mul (by rw [Nat.mul_comm]; exact hmlt)
     have hj : m % k < k := Nat.mod_lt _ hk
     have hzi := hl _ (List.getElem_mem hi)
     have hg := flatten_get hlen (i := m / k) (j := m % k) (row := ints zss[m / k]) (v := (ints zss[m / k])[m % k]'(by simp [ints, hzi, hj])) (by rw [List.getElem?_map, List.getElem?_eq_getElem hi]; rfl) (List.getElem?_eq_getElem _)
     have hme : m / k * k + m % k = m := by rw [Nat.mul_comm]; exact Nat.div_add_mod m k
     rw [hme, hv] at hg
     have hv' : v = (ints zss[m / k])[m % k]'(by simp [ints, hzi, hj]) := by simpa using hg
     have h2 := hc (m / k) _ (List.getElem?_eq_getElem hi) (m % k) v (by rw [hv']; exact List.getElem?_eq_getElem _)
     rw [hme] at h2
     unfold World.cell? at h2
     have hbj : (a.add m).block = a.block := by unfold Addr.add; split <;> rfl
     have hsj : (a.add m).spot = a.spot := by unfold Addr.add; split <;> simp [hs]
     have hoj : (a.add m).off = a.off + m := by unfold Addr.add; split <;> simp [*]
     rw [hbj, hh] at h2
     simp only [hsj, hs, hoj] at h2
     simpa using h2
   | _ => simp [hh] at h1

section
variable {H : Type} {enc : TypeId × Value → H} {P : Program} {W : World} {spare : Nat → Bool}
/-- elements that are k numbers -/
def Flat (enc : TypeId × Value → H) (P : Program) (e k : Nat) : Prop := ∀ (W : World) (spare : Nat → Bool) (fuel : Nat) (cs : List Value) (x : DataW H × List MemPlace), DataW.trod enc P W 0 spare true fuel e cs = some x → ∃ z : List Int, z.length = k ∧ cs = ints z ∧ ∀ n ∈ z, InR n
theorem flat_int {e : Nat} (he : P.underlying e = some (.int .i64)) : Flat enc P e 1 := by
 intro W spare fuel cs x h
 obtain ⟨n, rfl, _, hw⟩ := DataW.trod_int he h
 exact ⟨[n], rfl, rfl, fun m hm => (by
  have e : m = n := by simpa using hm
  rw [e]; exact bounds_i64 hw)⟩
theorem open_flat {t e k : Nat} {v : Value} {d : DataW H} {ps : List MemPlace} (ht : P.underlying t = some (.slice e)) (hk : 0 < k) (hce : P.cellsOf e = k) (hfl : Flat enc P e k)
  (hval : Value.okWide P W .any 0 t v) (h : DataW.Trod enc P W 0 spare true t v d ps) :
  ∃ (a : Option Addr) (cap : Nat) (zss : List (List Int)), v = .slice a zss.length cap ∧ zss.length ≤ cap ∧ (∀ z ∈ zss, z.length = k) ∧ RSl (roOf W) k a (zss.map ints) ∧ ∀ z ∈ zss, ∀ n ∈ z, InR n := by
 obtain ⟨a0, len, cap, rfl⟩ := okWide_slice ht hval
 obtain ⟨fuel, hf⟩ := h
 rcases Go.Deep.open_slice ht hf with ⟨hcs, _⟩ | ⟨a, len', cap', m, n, D, Pl, hcs, _, hl, hm, hmm, _, hx⟩
 ·simp [Value.cells] at hcs
  obtain ⟨rfl, rfl, rfl⟩ := hcs
  exact ⟨none, 0, [], rfl, Nat.le_refl _, by simp, ⟨by simp, .inl rfl, by simp⟩, by simp⟩
 ·simp [Value.cells] at hcs
  obtain ⟨rfl, rfl, rfl⟩ := hcs
  have hlm : len ≤ m := by rw [hmm]; split <;> omega
  have each : ∀ i, i < len → ∃ z : List Int, z.length = k ∧ (∀ j v, (ints z)[j]? = some v → W.cell? (a.add (i * k + j)) = some v) ∧ ∀ n ∈ z, InR n := by
   intro i hi
   obtain ⟨cs', h1, h2⟩ := hx i (by omega)
   rw [hce] at h1
   obtain ⟨_, hlen, hcell⟩ := World.cells?_some h1
   obtain ⟨z, hz, rfl, hr⟩ := hfl W spare n cs' _ h2
   refine ⟨z, hz, fun j v hj => ?_, hr⟩
   have hjk : j < k := by have := (List.getElem?_eq_some_iff.1 hj).1; simp [ints, hz] at this; exact this
   have := hcell j hjk
   rw [addr_add_add] at this
   rw [this, hj]
  have hch : ∃ f : Nat → List Int, ∀ i, i < len → (f i).length = k ∧ (∀ j v, (ints (f i))[j]? = some v → W.cell? (a.add (i * k + j)) = some v) ∧ ∀ n ∈ f i, InR n :=
   ⟨fun i => if h : i < len then (each i h).choose else [], fun i hi => by simp only [hi, dif_pos]; exact (each i hi).choose_spec⟩
  obtain ⟨f, hf'⟩ := hch
  have hlen : ((List.range len).map f).length = len := by simp
  refine ⟨some a, cap, (List.range len).map f, by rw [hlen], by rw [hlen]; exact hl, fun z hz => ?_, ?_, fun z hz => ?_⟩
  ·obtain ⟨i, hi, rfl⟩ := List.mem_map.1 hz
   exact (hf' i (by simpa using hi)).1
  ·refine rsl_of hk (fun z hz => ?_) (by rw [hlen]; simp only [maxLen] at hm; omega) (fun i z hi => ?_)
   ·obtain ⟨i, hi, rfl⟩ := List.mem_map.1 hz
    exact (hf' i (by simpa using hi)).1
   ·have hil : i < len := by have := (List.getElem?_eq_some_iff.1 hi).1; simpa using this
    have : z = f i := by simp [List.getElem?_map, hil] at hi; exact hi.symm
    subst this
    exact (hf' i hil).2.1
  ·obtain ⟨i, hi, rfl⟩ := List.mem_map.1 hz
   exact (hf' i (by simpa using hi)).2.2

/-- typed -/
theorem RS.ofFlat {α : Type} {_i : Inhabited α} {R : Ro} {k : Nat} {en : α → List Value} {dec : List Int → α} {a : Option Addr} {zss : List (List Int)} (h : RSl R k a (zss.map ints)) (hl : ∀ z ∈ zss, z.length = k) (hd : ∀ z : List Int, z.length = k → en (dec z) = ints z) :
  RS (_i := _i) R k en a (zss.map dec) := by
 unfold RS
 have : (zss.map dec).map en = zss.map ints := by
  rw [List.map_map]
  exact List.map_congr_left fun z hz => hd z (hl z hz)
 rw [this]; exact h

theorem carryAll (hl : laidOutB P = true) {W W' : World} : ∀ {ts : List TypeId} {vs : List Value} {ds : List (DataW H)} {ps : List MemPlace}, ts.all (fun t => P.readableRec t && decide (t < P.types.size)) = true → DataW.TrodAll enc P W 0 (fun _ => true) true ts vs ds ps → Below W.heap.size W W' → (∀ x ∈ ps, x.block < W.heap.size) →
  DataW.TrodAll enc P W' 0 (fun b => decide (b < W.heap.size)) true ts vs ds ps
 | [], vs, ds, ps, _, h, _, _ => by
  obtain ⟨rfl, rfl, rfl⟩ := trodAll_nil h
  exact trodAll_mk0
 | t :: ts, vs, ds, ps, hr, h, hb, hlt => by
  obtain ⟨v, vs', d, ds', p, q, rfl, rfl, rfl, h1, h2⟩ := trodAll_cons h
  simp only [List.all_cons, Bool.and_eq_true, decide_eq_true_eq] at hr
  exact ⟨p, q, Below.trod hl hr.1.1 hr.1.2 h1 hb (fun x hx => hlt x (by simp [hx])), carryAll hl (by simpa using hr.2) h2 hb (fun x hx => hlt x (by simp [hx])), rfl⟩
end
/-- a contract, seen from outside -/
theorem lift_calls {P : Program} {f : FuncId} {args : List Value} {W : World} (h : Fn P f args W (roOf W) [] (fun v _ _ => v = .bool true)) : Calls P f args.toArray W fun e W' => e = .returned (.bool true) ∧ Below W.heap.size W W' := by
 refine (h W (memAll W)).mono ?_
 rintro e w' ⟨v, R', E', rfl, _, hm, rfl⟩
 exact ⟨rfl, hm.below⟩
def decI (z : List Int) : Int := z.headD 0
theorem decI_enc : ∀ z : List Int, z.length = 1 → encI (decI z) = ints z
 | [x], _ => rfl
 | [], h => by simp at h
 | _ :: _ :: _, h => by simp at h
def decP : List Int → M.Pkt
  | [a, b, c] => ⟨a, b, c⟩
  | _ => ⟨0, 0, 0⟩
end Go.Proofs.YtmidibkljoaoiaaGreatDoor.K

/- Any flat data: a law whose road reads package-level variables: all that exists when the call begins is read only; the builder that hands on the list of the variables and the shape of the world. No condition. -/
namespace Go.Proofs.YtmidibkljoaoiaaGreatDoor.K
open Go Go.RowKit

theorem ro_cell {W : World} {b : Nat} {v : Value} (h : W.cell? ⟨b, 0, none⟩ = some v) : ∃ rest, roOf W b = some (v :: rest) := by
 unfold World.cell? at h
 unfold roOf
 cases hh : W.heap[b]? with
 | none => simp [hh] at h
 | some o =>
  cases o with
  | cells arr T fz =>
   simp only [hh] at h ⊢
   obtain ⟨l⟩ := arr
   cases l with
   | nil => simp at h
   | cons x l => simp at h; subst h; exact ⟨l, rfl⟩
  | _ => simp [hh] at h
theorem ro_var {P : Program} {W : World} {name : String} {g : Nat} {cs : Array Value} (hg : P.globalNamed name = some g) (h : W.var? P name = some cs) : roOf W g = some cs.toList := by
 unfold World.var? at h
 simp only [hg, Option.bind_some] at h
 unfold roOf
 split at h
 ·simp only [Option.some.injEq] at h; subst h; simp [*]
 ·cases h

theorem returnsInHanded_laidB {H : Type} {enc : TypeId × Value → H} {a : Assume} {C : Checked} {os : Os} {f : FuncId} {fn : Func} {s : ChangeSpec} {conds : List PathCond} {apart fresh handsOn again : Bool} {X : World → Array Value → Prop}
  (hX : ∀ (w w' : World) (args : Array Value), w.heap = w'.heap → X w args → X w' args)
  (own : ownKnob C.prog.godebug = none) (started : os.Started) (noInit : C.prog.inits.idxOf? f = none) (hfn : C.prog.funcs[f]? = some fn)
  (witness : ∃ (w : World) (tape : Tape) (i : Input), w.os = os ∧ (w.forCall tape i).Shaped C.prog ∧ i.vars = [] ∧ Input.okWide C.prog (w.forCall tape i) .any w.heap.size f i ∧
   ((s.pre enc C.prog fn conds apart (w.forCall tape i).memory i.args ∧ X (w.forCall tape i).memory i.args) ∧ sizedMet enc C.prog fn (OpenSpec.ofChange s) apart (w.forCall tape i).memory i.args) ∧ a.holds C.prog (lone (Frame.enter C.prog f i.args .normal) [] (w.forCall tape i)))
  (contract : ∀ (W : World) (base : Nat) (args : Array Value) (ds gs : List (DataW H)) (before : List MemPlace),
   (∀ (j : Nat) t v, fn.params[j]? = some t → args[j]? = some v → Value.okWide C.prog W .any base t v) →
   DataW.Whole enc C.prog fn.params.toList s.vars apart W args.toList ds gs before →
   conds.all (PathCond.test C.prog ⟨fn.params.toList, ds, s.plain.varTypes C.prog, gs⟩) = true →
   X W args → W.ShapedOpen C.prog →
   Calls C.prog f args W fun e W' => ∃ v, e = .returned v ∧ s.post enc C.prog fn apart fresh handsOn again W args v W') :
  ReturnsInHanded a C os f .any (fun w args => (s.pre enc C.prog fn conds apart w args ∧ X w args) ∧ sizedMet enc C.prog fn (OpenSpec.ofChange s) apart w args) (s.post enc C.prog fn apart fresh handsOn again) := by
 refine returnsInHanded_of_calls own started noInit witness ?_
 intro w tape i _ hsh _ hok hpre hholds
 obtain ⟨_, _, _, fn', hfn', _, _, _, _, hval⟩ := hok
 have e : fn' = fn := Option.some.inj (hfn'.symm.trans hfn)
 subst e
 obtain ⟨⟨⟨ds, gs, before, hw, hc⟩, hx⟩, hz⟩ := hpre
 have hw' := DataW.Whole.of_heap (w' := w.forCall tape i) (by rfl) hw
 refine (contract (w.forCall tape i) w.heap.size i.args ds gs before hval hw' hc (hX _ _ _ (by rfl) hx) hsh).mono fun e W' ⟨v, he, hp⟩ => ?_
 subst he
 exact ChangeSpec.post_blind hp
end Go.Proofs.YtmidibkljoaoiaaGreatDoor.K

/- From the list of the variables to what the walks know of them. No condition. -/
namespace Go.Proofs.YtmidibkljoaoiaaGreatDoor
open Go Go.RowKit Go.Proofs.YtmidibkljoaoiaaGreatDoor.K
theorem starE : "*" ++ "errors.errorString" = "*errors.errorString" := by decide
def laidJ : List (String × DataW Unit) := Rows.nettextPlacesRow.laid
theorem glob_ofJ {W : World} (hsh : W.ShapedOpen Tryz.prog) (hL : laidMetH Tryz.prog laidJ W) : GlobE (roOf W) := by
 unfold laidJ Rows.nettextPlacesRow at hL
 dsimp only at hL
 rw [MakeChecks.laidMetH_plain _ _ _ (by kernel_rfl)] at hL
 have h3 := hL.tail.tail
 have ht : (Rows.laid_internal_strconv_uint64pow10 : DataW Unit) = Lib.tabData .u64 Lib.pow10Tab := by kernel_rfl
 have h3b := h3
 rw [ht] at h3b
 have h4 := Lib.tabIs_of_head (g := 1) (t := 168) (e := 150) (n := 20) (by kernel_rfl) (by kernel_rfl) Tryz.underlying168 Tryz.underlying150 (by kernel_rfl) (by kernel_rfl) h3b
 have h5 := ro_var (P := Tryz.prog) (g := 1) (by kernel_rfl) h4
 have h6 := h3.tail.tail
 have h7 := h6.tail
 have hrow : ∀ u, Tryz.prog.typeName? 3 u = some "*errors.errorString" → u = 193 := fun u hu => typeName_ptr_named (P := Tryz.prog) (nm := "errors.errorString") (by rw [starE]; kernel_rfl) (by kernel_rfl) (by decide) u (by rw [starE]; exact hu)
 obtain ⟨a1, s1, e1, _, _, _⟩ := laid_sentinel (g := 7) (ti := 77) (tp := 193) (te := 195) (ts := 9) h6 (by kernel_rfl) (by kernel_rfl) Tryz.underlying77 hrow Tryz.underlying193 Tryz.underlying195 rfl rfl Tryz.underlying9 (by kernel_rfl) (by kernel_rfl)
 obtain ⟨a2, s2, e2, _, _, _⟩ := laid_sentinel (g := 6) (ti := 77) (tp := 193) (te := 195) (ts := 9) h7 (by kernel_rfl) (by kernel_rfl) Tryz.underlying77 hrow Tryz.underlying193 Tryz.underlying195 rfl rfl Tryz.underlying9 (by kernel_rfl) (by kernel_rfl)
 obtain ⟨m, hm⟩ := Go.Proofs.cell_of_shapedOpen_int (g := 0) (zero := #[.int .i64 0]) (t := 3) hsh (of_decide_eq_true (by kernel_rfl)) (by kernel_rfl) rfl (by kernel_rfl) (by kernel_rfl) Tryz.underlying3
 obtain ⟨rest, hr⟩ := ro_cell hm
 refine ⟨⟨m, rest, hr⟩, ?_, ?_, ?_⟩
 ·rw [h5]
 ·exact ⟨_, _, ro_var (P := Tryz.prog) (g := 6) (by kernel_rfl) e2⟩
 ·exact ⟨_, _, ro_var (P := Tryz.prog) (g := 7) (by kernel_rfl) e1⟩
end Go.Proofs.YtmidibkljoaoiaaGreatDoor

/- NettextPlaces: for every input the law returns true, and the input reads afterwards as it read before; the listed variables of the library start as its text lays them. -/
namespace Go.Proofs.YtmidibkljoaoiaaGreatDoor
open Go Go.RowKit Go.ChangeShapes Go.WideShapes Go.ChangeAt Go.WideElems Go.Maps Go.Proofs.YtmidibkljoaoiaaGreatDoor.K Go.Proofs.YtmidibkljoaoiaaGreatDoor.M
open Go.ChangeMaps (open_string shut_string)
namespace nettextPlaces
theorem own : ownKnob Tryz.prog.godebug = none := by kernel_rfl
theorem laidOut : laidOutB Tryz.prog = true := by kernel_rfl
theorem readable : (Tryz.f5.params.toList).all (fun t => Tryz.prog.readableRec t && decide (t < Tryz.prog.types.size)) = true := by kernel_rfl
section
variable {H : Type} {enc : TypeId × Value → H}
theorem flat_ints : Flat enc Tryz.prog 3 1 := flat_int Tryz.underlying3
theorem cells_ints : Tryz.prog.cellsOf 3 = 1 := by kernel_rfl
end
set_option maxRecDepth 100000 in
theorem lifted (os : Os) (started : os.Started) (H : Type) (enc : TypeId × Value → H) :
  ReturnsInHanded {} Tryz.checked os 5 .any (fun w args => (Rows.nettextPlacesSpec.pre enc Tryz.prog Tryz.f5 [] false w args ∧ laidMetH Tryz.prog laidJ w) ∧ sizedMet enc Tryz.prog Tryz.f5 (OpenSpec.ofChange Rows.nettextPlacesSpec) false w args)
   (Rows.nettextPlacesSpec.post enc Tryz.prog Tryz.f5 false true false false) := by
 refine returnsInHanded_laidB (C := Tryz.checked) (X := fun w _ => laidMetH Tryz.prog laidJ w) (fun _ _ _ hh h => h.of_heap hh) own started (by kernel_rfl) Tryz.func5
  (ChangeSpec.witness_shaped (enc := enc) (C := Tryz.checked) (os := os) (X := fun w _ => laidMetH Tryz.prog laidJ w) false (World.laidAll Tryz.prog os laidJ) #[.slice none 0 0, .int .u8 0] 8 (World.laidAll_os _ _ _)
   (World.shaped_of_ZipB (by kernel_rfl) (by kernel_rfl)) (by kernel_rfl) (by kernel_rfl) (by kernel_rfl)
   (by rw [MakeChecks.laidMetH_plain _ _ _ (by kernel_rfl)]; exact laidMet_laidAll _ (by kernel_rfl) (by kernel_rfl))) ?_
 intro W base args ds gs before hval0 hW _ hL hsh
 have hG := glob_ofJ hsh hL
 have hval : ∀ (j : Nat) t v, Tryz.f5.params[j]? = some t → args[j]? = some v → Value.okWide Tryz.prog W .any base t v := hval0
 have hW' := hW
 obtain ⟨p, q, hA0, hV, rfl, _, _⟩ := hW
 have hA : DataW.TrodAll enc Tryz.prog W 0 (fun _ => true) true Tryz.f5.params.toList args.toList ds p := hA0
 have hA1 := hA
 obtain ⟨rfl, rfl⟩ := trodVars_none hV
 simp only [List.append_nil] at hW'
 have hlt : ∀ x ∈ p, x.block < W.heap.size := fun x hx => by simpa using hW'.lt x hx
 have hcarry : ∀ W', Below W.heap.size W W' → DataW.TrodAll enc Tryz.prog W' 0 (fun b => decide (b < W.heap.size)) true Tryz.f5.params.toList args.toList ds p := fun W' hb => carryAll laidOut readable hA1 hb hlt
 clear hA0 hval0 hA1
 rw [Tryz.params5] at hA
 obtain ⟨v0, vs0, d0, ds0, p0, q0, e0, rfl, e20, h0, t0⟩ := trodAll_cons hA
 obtain ⟨v1, vs1, d1, ds1, p1, q1, rfl, rfl, e21, h1, t1⟩ := trodAll_cons t0
 obtain ⟨rfl, rfl, _⟩ := trodAll_nil t1
 have hargs : args = #[v0, v1] := by rw [← Array.toArray_toList (xs := args), e0]
 subst hargs
 obtain ⟨a0, cp0, zs0, rfl, c0, l0, m0, r0⟩ := open_flat Tryz.underlying22 (by decide) cells_ints flat_ints (hval 0 22 _ rfl rfl) h0
 have g0 : RS (roOf W) 1 encI a0 (zs0.map decI) := RS.ofFlat m0 l0 decI_enc
 have n0 : (zs0.map decI).length = zs0.length := by simp
 rw [← n0] at c0
 obtain ⟨z1, rfl, _, _, w1⟩ := open_int Tryz.underlying5 (hval 1 5 _ rfl rfl) h1
 have r1 := bounds_u8 w1
 have hcall := lift_calls (P := Tryz.prog) (f := 5) (args := [.slice a0 (zs0.map decI).length cp0, .int .u8 z1]) (W := W) (NettextPlaces_F g0 r1 hG c0 W)
 try simp only [List.length_map] at hcall
 refine hcall.mono fun e W' ⟨he, hb⟩ => ?_
 subst he
 exact ⟨_, rfl, ⟨_, _, _, [], _, [], hW', trodAll_mk1 (shut_bool Tryz.underlying4 _), hcarry W' hb, rfl, hb.frame _, fun h => by cases h⟩⟩
end nettextPlaces
theorem nettextPlaces_holds : Rows.NettextPlacesSaid :=
 OpenClaim.holds_of_wide 5 Tryz.f5 rfl rfl rfl rfl rfl rfl rfl ⟨rfl, rfl, rfl, rfl, rfl⟩ rfl rfl rfl rfl rfl (by kernel_rfl) Tryz.func5 (by kernel_rfl)
  (of_decide_eq_true (by kernel_rfl)) (by unfold Func.isWrapper; first | (rw [if_pos (by decide +kernel)]; kernel_rfl) | (rw [if_neg (by decide +kernel)]; exact ⟨rfl, rfl⟩))
  (fun os started H enc _ => nettextPlaces.lifted os started H enc)
theorem nettextPlaces_card : Rows.NettextPlacesCardSaid :=
 Claim7.holds_tied_plain_at .later [] [.data, .data, .data, .data, .sentinel, .sentinel, .pinned] true (true, "a8ab417d27d32975a5500058816fde3c7ee168de5f4d2e0157cc9cb094bec51d") true
  nettextPlaces_holds (fun _ h => by cases h) (by kernel_rfl) (fun _ h => by cases h) nettextPlaces_row_tie rfl ⟨rfl, rfl⟩ (by kernel_rfl) rfl
  (fun f fn hf hfn => by
   obtain rfl : f = 5 := Option.some.inj ((show Tryz.prog.funcNamed Tryz.f5.name = some 5 by kernel_rfl).symm.trans hf) |>.symm
   obtain rfl : fn = Tryz.f5 := (Option.some.inj (Tryz.func5.symm.trans hfn)).symm
   exact ⟨by kernel_rfl, fun j t ht => by
    rw [Tryz.params5] at ht
    have hm : t ∈ [22, 5] := by simpa using Array.mem_of_getElem? ht
    have hall : ([22, 5].all fun u => !Tryz.prog.wantsStandIn u) = true := by kernel_rfl
    exact (show Tryz.prog.wantsStandIn t = false by simpa using List.all_eq_true.1 hall t hm)⟩)
  (by kernel_rfl)
end Go.Proofs.YtmidibkljoaoiaaGreatDoor
