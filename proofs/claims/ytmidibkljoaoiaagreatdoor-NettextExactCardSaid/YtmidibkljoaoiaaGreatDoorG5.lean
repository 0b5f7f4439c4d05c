/- Rules and walks, joined from 20 texts: the first of them says: A function that defers a closure which recovers: its contract, and the closure's. No condition. -/
import Derived.Test.YtmidibkljoaoiaaGreatDoorG4
/- A function that defers a closure which recovers: its contract, and the closure's. No condition. -/
namespace Go.Proofs.YtmidibkljoaoiaaGreatDoor.K
open Go Go.RowKit
section
variable {P : Program} {T : Tab} {n : Nat} {env : Env} {w0 : World} {R : Ro} {E : List Ent} {Q : Exit → Act → World → Prop} {o : Oper} {ops rest : List Oper}
/-- a closure is laid among the deferred calls -/
theorem WL.defer {c : Call} {x : Operand} {fv : Go.Fn} {ca : Array Value} (hg : o.guard = none) (hd : o.dst = none) (ho : o.op = .defer c) (hc : c.callee = .value x) (hca : c.args = #[]) (hx : ev env x = some (true, .func fv #[] ca)) (hmk : markOf env = none)
  (h : WG false P ops Q rest n ((99999, true, .func fv #[] ca) :: env) w0 R E) : WG false P ops Q (o :: rest) n env w0 R E := by
 intro a w hk hm
 refine wpList_plain hg fun K hK => ?_
 have e : (execOp a.eval o).run P w = .ok (.defer { target := .fn fv ca, args := #[] }) w := by
  unfold execOp
  rw [ho]
  have hev := hk.ev hx rfl
  simp [resolve, hc, hca, hev, Deferred.ofValue]
 unfold Oper.wp
 rw [e]
 simp only [Oper.upon, hd]
 refine hK _ _ (h _ _ ⟨by simpa [Act.put] using hk.size, hk.small, ?_, fun t p v ht => ?_⟩ hm)
 ·simp only [Act.put, hk.defers]
  unfold dsOf
  rw [hmk]
  rfl
 ·have h9 : Nat.beq 99999 t = false := by
   cases h9 : Nat.beq 99999 t with
   | false => rfl
   | true => simp [look, ← beq_true h9] at ht
  simp only [look, h9, cond_false] at ht
  simpa [Act.put] using hk.val t p v ht
theorem Fn.enterD {f : FuncId} {fn : Func} {c : Code} {args : List Value} {Post : Value → Ro → List Ent → Prop} {n : Nat}
  (hf : P.funcs[f]? = some fn) (hb : fn.body = some c) (hn : fn.ntmps = n) (ha : args.length ≤ n) (hs : Nat.ble n 99999 = true)
  (h : W P c (bodyPostD P fn (FnR w0 R Post)) n (argEnv 0 args) w0 R E) : Fn P f args w0 R E Post := by
 intro w hm
 have hs := Nat.le_of_ble_eq_true hs
 refine calls_of_wp_defers hf hb (h _ w ⟨?_, hs, (argEnv_mark 0 args (by omega)).symm, fun t p v ht => ?_⟩ hm)
 ·simp [hn]; omega
 ·obtain ⟨hp, _, hv⟩ := argEnv_look 0 args t p v ht
  simp only [Nat.sub_zero] at hv
  subst hp
  have hlt : t < args.length := (List.getElem?_eq_some_iff.1 hv).1
  rw [Array.getElem?_append_left (by simpa using hlt)]
  simpa using hv
/-- a deferred closure's contract: it returns; what it makes of its caller's mode -/
def FnDR (P : Program) (f : FuncId) (args : List Value) (w0 : World) (R : Ro) (E : List Ent) (u : FrameMode) (Post : Ro → List Ent → FrameMode → Prop) : Prop :=
  ∀ w, Mem w0 w R E → CallsD P f args.toArray u w fun e u' w' => ∃ v R' E', e = .returned v ∧ RLe R R' ∧ Mem w0 w' R' E' ∧ Post R' E' u'
theorem leavesD (hT : TabOk P T) {fn : Func} {Post : Value → Ro → List Ent → Prop} {R0 : Ro} {rs : List ResultVar} {f : FuncId} {ca : List Value} {u : FrameMode} (hr : fn.results = rs.toArray) (hds : markOf env = some (.func (.func f) #[] ca.toArray)) (hf : Enters P f) (hu : u ≠ .run)
  (hc : FnDR P f ca w0 R E u (fun R' E' u' => settle u' = .returning ∧ RLe R0 R' ∧ ∃ vs, ResAll T env R' E' rs vs ∧ Post (resVal vs) R' E'))
  {a : Act} {w : World} (hk : Kn n env a) (hm : Mem w0 w R E) : Leaves P fn a.tmps (FnR w0 R0 Post) a.defers u w := by
 have hd : a.defers = [{ target := .fn (.func f) ca.toArray, args := #[] }] := by rw [hk.defers]; unfold dsOf; rw [hds]
 rw [hd]
 refine ⟨hu, .func f, ca.toArray, f, ca.toArray, rfl, ?_, ?_⟩
 ·have := hf ca.toArray w
  simpa [invoke] using this
 ·intro c cs hcu
  obtain ⟨e, u', w', fr, ⟨v, R', E', rfl, hR, hm', hs, hR0, vs, hv, hp⟩, h2, h3, h4⟩ := hc w hm c cs hcu
  refine ⟨_, u', w', fr, ?_, h2, h3, h4⟩
  show Leaves P fn a.tmps (FnR w0 R0 Post) [] (settle u') w'
  rw [hs]
  exact ⟨_, results_ok hT hr hk hm' hv, resVal vs, R', E', rfl, hR0, hm', hp⟩
theorem WE.retD (hT : TabOk P T) {fn : Func} {Post : Value → Ro → List Ent → Prop} {R0 : Ro} {rs : List ResultVar} {f : FuncId} {ca : List Value} (hr : fn.results = rs.toArray) (hds : markOf env = some (.func (.func f) #[] ca.toArray)) (hf : Enters P f)
  (hc : FnDR P f ca w0 R E .returning (fun R' E' u' => settle u' = .returning ∧ RLe R0 R' ∧ ∃ vs, ResAll T env R' E' rs vs ∧ Post (resVal vs) R' E')) :
  WE (bodyPostD P fn (FnR w0 R0 Post)) .ret n env w0 R E := fun _ _ hk hm => leavesD hT hr hds hf (by simp) hc hk hm
theorem WE.panicD (hT : TabOk P T) {fn : Func} {Post : Value → Ro → List Ent → Prop} {R0 : Ro} {rs : List ResultVar} {f : FuncId} {ca : List Value} {ch : List PanicEntry} (hr : fn.results = rs.toArray) (hds : markOf env = some (.func (.func f) #[] ca.toArray)) (hf : Enters P f)
  (hc : FnDR P f ca w0 R E (.panicking ch) (fun R' E' u' => settle u' = .returning ∧ RLe R0 R' ∧ ∃ vs, ResAll T env R' E' rs vs ∧ Post (resVal vs) R' E')) :
  WE (bodyPostD P fn (FnR w0 R0 Post)) (.panic ch) n env w0 R E := fun _ _ hk hm => leavesD hT hr hds hf (by simp) hc hk hm
/-- where nothing is deferred yet -/
theorem WE.retD0 (hT : TabOk P T) {fn : Func} {Post : Value → Ro → List Ent → Prop} {R0 : Ro} {rs : List ResultVar} (vs : List Value) (hr : fn.results = rs.toArray) (h : ResAll T env R E rs vs) (hR : RLe R0 R) (hp : Post (resVal vs) R E) (hds : markOf env = none := by rfl) :
  WE (bodyPostD P fn (FnR w0 R0 Post)) .ret n env w0 R E := fun a w hk hm => by
 show Leaves P fn a.tmps (FnR w0 R0 Post) a.defers .returning w
 rw [hk.defers]
 unfold dsOf
 rw [hds]
 exact ⟨resVal vs, results_ok hT hr hk hm h, resVal vs, R, E, rfl, hR, hm, hp⟩

/-! ### the closure -/
def WD (P : Program) (c : Code) (Q : Exit → Act → List Frame → World → Prop) (n : Nat) (env : Env) (w0 : World) (R : Ro) (E : List Ent) (cs : List Frame) : Prop :=
  ∀ a w, Kn n env a → Mem w0 w R E → c.wpS P Q a cs w
def WDG (P : Program) (ops : Array Oper) (Q : Exit → Act → List Frame → World → Prop) (l : List Nat) (n : Nat) (env : Env) (w0 : World) (R : Ro) (E : List Ent) (cs : List Frame) : Prop :=
  ∀ a w, Kn n env a → Mem w0 w R E → wpOpsS P ops Q l a cs w
variable {QS : Exit → Act → List Frame → World → Prop} {cs : List Frame} {x y : Code} {aops : Array Oper} {il : List Nat}
theorem WD.seq (h : WD P x (Exit.thenS (y.wpS P QS) QS) n env w0 R E cs) : WD P (.seq x y) QS n env w0 R E cs := fun a w hk hm => wpS_seq (h a w hk hm)
theorem WD.region {id : Nat} (h : WDG P aops QS (List.range aops.size) n env w0 R E cs) : WD P (.region id aops false) QS n env w0 R E cs := fun a w hk hm => wpS_region (h a w hk hm)
theorem WD.plain (h : W P x (fun e a w => QS e a cs w) n env w0 R E) : WD P x QS n env w0 R E cs := fun a w hk hm => wpS_of_wp (h a w hk hm)
theorem WDG.nil (h : WD P y QS n env w0 R E cs) : WDG P aops (Exit.thenS (y.wpS P QS) QS) [] n env w0 R E cs := fun a w hk hm => h a w hk hm
theorem WDG.yl {i d : Nat} {v : Value} (hi : aops[i]? = some o) (hg : o.guard = none) (hd : o.dst = some d) (hdn : d < n) (hy : Yl P n env w0 R E o true v)
  (h : WDG P aops QS il n ((d, true, v) :: env) w0 R E cs) : WDG P aops QS (i :: il) n env w0 R E cs := by
 intro a w hk hm
 have e := hy a w hk hm rfl
 have h2 := h _ _ (hk.putT hdn v) hm
 unfold wpOpsS
 rw [hi]
 simp only [Region.wanted, hg, if_true, e, Oper.upon, hd]
 exact h2
/-- recover, in a deferred closure -/
theorem WDG.recover {i d : Nat} {c : Call} {v : Value} {cs' : List Frame} (hi : aops[i]? = some o) (hg : o.guard = none) (hd : o.dst = some d) (hdn : d < n) (ho : o.op = .call c) (hc : c.callee = .builtin .recover)
  (hr : (recoverD cs).getD (.nilIface, cs) = (v, cs'))
  (h : WDG P aops QS il n ((d, true, v) :: env) w0 R E cs') : WDG P aops QS (i :: il) n env w0 R E cs := by
 intro a w hk hm
 have h2 := h _ _ (hk.putT hdn v) hm
 have e : (execOp a.eval o).run P w = .ok .recover w := by
  unfold execOp
  rw [ho]
  simp [resolve, hc, invoke, builtin]
 unfold wpOpsS
 rw [hi]
 simp only [Region.wanted, hg, if_true, e, hd]
 cases hrd : recoverD cs with
 | none => rw [hrd] at hr; simp at hr; obtain ⟨rfl, rfl⟩ := hr; exact h2
 | some q => rw [hrd] at hr; simp at hr; subst hr; exact h2
theorem FnDR.enter {f : FuncId} {fn : Func} {c : Code} {args : List Value} {u : FrameMode} {Post : Ro → List Ent → FrameMode → Prop} {n : Nat}
  (hf : P.funcs[f]? = some fn) (hb : fn.body = some c) (hn : fn.ntmps = n) (ha : args.length ≤ n) (hs : Nat.ble n 99999 = true)
  (h : ∀ (c0 : Frame) (cs : List Frame), c0.mode = u → WD P c (bodyPostS P fn c0 cs (fun e u' w' => ∃ v R' E', e = .returned v ∧ RLe R R' ∧ Mem w0 w' R' E' ∧ Post R' E' u')) n (argEnv 0 args) w0 R E (c0 :: cs)) : FnDR P f args w0 R E u Post := by
 intro w hm
 have hs := Nat.le_of_ble_eq_true hs
 refine callsD_of_wpS hf hb (fun c0 cs hc => h c0 cs hc _ w ⟨?_, hs, (argEnv_mark 0 args (by omega)).symm, fun t p v ht => ?_⟩ hm)
 ·simp [hn]; omega
 ·obtain ⟨hp, _, hv⟩ := argEnv_look 0 args t p v ht
  simp only [Nat.sub_zero] at hv
  subst hp
  have hlt : t < args.length := (List.getElem?_eq_some_iff.1 hv).1
  rw [Array.getElem?_append_left (by simpa using hlt)]
  simpa using hv
/-- the closure's end: it has no result -/
theorem WE.retDR {fn : Func} {c0 : Frame} {cs : List Frame} {u' : FrameMode} {R0 : Ro} {Post : Ro → List Ent → FrameMode → Prop} (hr : fn.results = #[]) (hR : RLe R0 R) (hp : Post R E u') (hds : markOf env = none := by rfl) :
  WE (fun e a w => bodyPostS P fn c0 cs (fun e u' w' => ∃ v R' E', e = .returned v ∧ RLe R0 R' ∧ Mem w0 w' R' E' ∧ Post R' E' u') e a ({ c0 with mode := u' } :: cs) w) .ret n env w0 R E := fun a w hk hm =>
 ⟨by rw [hk.defers]; unfold dsOf; rw [hds], u', rfl, .tuple #[], by unfold results; simp [hr], .tuple #[], R, E, rfl, hR, hm, hp⟩
theorem WE.endDR {fn : Func} {c0 : Frame} {cs : List Frame} {u' : FrameMode} {R0 : Ro} {Post : Ro → List Ent → FrameMode → Prop} (hr : fn.results = #[]) (hR : RLe R0 R) (hp : Post R E u') (hds : markOf env = none := by rfl) :
  WE (fun e a w => bodyPostS P fn c0 cs (fun e u' w' => ∃ v R' E', e = .returned v ∧ RLe R0 R' ∧ Mem w0 w' R' E' ∧ Post R' E' u') e a ({ c0 with mode := u' } :: cs) w) .normal n env w0 R E := fun a w hk hm =>
 ⟨by rw [hk.defers]; unfold dsOf; rw [hds], u', rfl, .tuple #[], by unfold results; simp [hr], .tuple #[], R, E, rfl, hR, hm, hp⟩
end
end Go.Proofs.YtmidibkljoaoiaaGreatDoor.K

/- A deferred closure's contract made weaker; an interface against nil; a value out of an interface. No condition. -/
namespace Go.Proofs.YtmidibkljoaoiaaGreatDoor.K
open Go Go.RowKit
section
variable {P : Program} {T : Tab} {n : Nat} {env : Env} {w0 : World} {R : Ro} {E : List Ent} {o : Oper} {pc p : Bool}
theorem FnDR.mono {f : FuncId} {args : List Value} {u : FrameMode} {Post Post' : Ro → List Ent → FrameMode → Prop} (h : FnDR P f args w0 R E u Post) (hp : ∀ R' E' u', RLe R R' → Post R' E' u' → Post' R' E' u') : FnDR P f args w0 R E u Post' := by
 intro w hm c cs hc
 obtain ⟨e, u', w', fr, ⟨v, R', E', he, hR, hm', hq⟩, h2, h3, h4⟩ := h w hm c cs hc
 exact ⟨e, u', w', fr, ⟨v, R', E', he, hR, hm', hp _ _ _ hR hq⟩, h2, h3, h4⟩
theorem Yl.eqNilI {t t' x y} {v : Value} {r : Bool} (hu : P.underlying t = some (.interface (P.methodsAt t))) (ho : o.op = .binOp .eql t x y t') (hc : y = .const .nilIface) (hx : ev env x = some (p, v))
  (hpq : pc = true → p = true) (hv : (v = .nilIface ∧ r = true) ∨ ((∃ u z, v = .iface u z) ∧ r = false)) : Yl P n env w0 R E o pc (.bool r) := by
 intro ac w hkn hm hp
 subst hc
 have hy : ac.eval (.const .nilIface) = .nilIface := rfl
 unfold execOp
 rcases hv with ⟨rfl, rfl⟩ | ⟨⟨u, z, rfl⟩, rfl⟩
 ·have e := run_equal_nil_nil w t hu
  simp [ho, hkn.ev hx (hpq hp), hy, eqGuard, binOp, e]
 ·have e := run_equal_held_nil w t u z hu
  simp [ho, hkn.ev hx (hpq hp), hy, eqGuard, binOp, e]
theorem Yl.assert {t xt : TypeId} {x : Operand} {u v : Value} (ho : o.op = .typeAssert x xt t true) (hx : ev env x = some (p, u)) (hr : ∀ w, (Instr.typeAssert u xt t true).run P w = .ok v w) (hpq : pc = true → p = true) : Yl P n env w0 R E o pc v := by
 intro ac w hkn hm hp
 unfold execOp
 simp [ho, hkn.ev hx (hpq hp), hr w]
end
end Go.Proofs.YtmidibkljoaoiaaGreatDoor.K

/- Regions of which an order is drawn and in which a call may panic. No condition. -/
namespace Go.Proofs.YtmidibkljoaoiaaGreatDoor.K
open Go Go.RowKit
section
variable {P : Program} {n : Nat} {env : Env} {w0 : World} {R : Ro} {E : List Ent} {Q : Exit → Act → World → Prop} {o : Oper} {ops : List Oper} {ES : List Ent} {R0 : Ro} {fuel : Nat} {listed : Array Bool}
/-- at a panic: nothing is deferred, and Q whatever the frame's places hold -/
def OnP (n : Nat) (Q : Exit → Act → World → Prop) : Exit → Act → World → Prop
  | .panic c, a, w => a.defers = [] ∧ a.tmps.size = n ∧ ∀ a' : Act, a'.defers = [] → a'.tmps.size = n → Q (.panic c) a' w
  | e, a, w => Q e a w
theorem OnP.imp : ∀ (e : Exit) (a : Act) (w : World), OnP n Q e a w → Q e a w := fun e a w h => by
 cases e <;> first | exact h | exact h.2.2 a h.1 h.2.1
theorem OnP.of : ∀ (e : Exit) (a : Act) (w : World), NoPanic Q e a w → OnP n Q e a w := fun e a w h => by
 cases e <;> first | exact h | exact (h : False).elim
theorem wp_monoQ {Q' : Exit → Act → World → Prop} (h : ∀ e a w, Q e a w → Q' e a w) {a : Act} {w : World} {K : Act → World → Prop} (hh : o.wp P a w K Q) : o.wp P a w K Q' := by
 unfold Oper.wp at *
 generalize (execOp a.eval o).run P w = r at *
 have hl : LetsOut Q → LetsOut Q' := fun ⟨a, w, hq⟩ => ⟨a, w, h _ _ _ hq⟩
 cases r with
 | ok n w' =>
  cases n <;> simp only [Oper.upon] at hh ⊢ <;>
   first
    | exact hh
    | exact Calls.mono hh (fun e w'' he => by cases e <;> first | exact he | exact h _ _ _ he | exact hl he)
 | halt x w' => cases x <;> simp only [Oper.upon] at hh ⊢ <;> first | exact hh | exact h _ _ _ hh
theorem wpOp_monoQ {Q' : Exit → Act → World → Prop} (h : ∀ e a w, Q e a w → Q' e a w) {l : Array Oper} {i : Nat} {a : Act} {w : World} {K : Act → World → Prop} (hh : wpOp P l Q i K a w) : wpOp P l Q' i K a w := by
 have hl : LetsOut Q → LetsOut Q' := fun ⟨a, w, hq⟩ => ⟨a, w, h _ _ _ hq⟩
 unfold wpOp at *
 split
 ·rename_i ho; simp only [ho] at hh; exact hh
 ·rename_i o ho
  simp only [ho] at hh
  split
  ·rename_i hw; simp only [hw, if_true] at hh; exact hh.imp (wp_monoQ h) (fun ⟨x, y⟩ => ⟨x, hl y⟩)
  ·rename_i hw; simp only [hw] at hh; exact hh
theorem wpAnyH_monoQ {Q' : Exit → Act → World → Prop} (h : ∀ e a w, Q e a w → Q' e a w) {l : Array Oper} {S : World → Prop} : ∀ (fuel : Nat) (listed : Array Bool) (a : Act) (w : World), wpAnyH P .any l Q S fuel listed a w → wpAnyH P .any l Q' S fuel listed a w
 | 0, _, _, _, hh => ⟨hh.1, h _ _ _ hh.2⟩
 | fuel + 1, _, _, _, hh => ⟨fun hr => h _ _ _ (hh.1 hr), fun i hi => wpOp_monoQ h (wpOp_mono (fun a' w' h' => ⟨h'.1, wpAnyH_monoQ h fuel _ a' w' h'.2⟩) (hh.2 i hi))⟩
def WAX (P : Program) (ops : List Oper) (Q : Exit → Act → World → Prop) (ES : List Ent) (R0 : Ro) (w0 : World) (fuel : Nat) (listed : Array Bool) (n : Nat) (env : Env) (R : Ro) (E : List Ent) : Prop :=
  ∀ a w, Kn n env a → Mem w0 w R E → wpAnyH P .any ops.toArray (OnP n Q) (fun w => Mem w0 w R0 ES) fuel listed a w
def WSX (P : Program) (ops : List Oper) (Q : Exit → Act → World → Prop) (ES : List Ent) (R0 : Ro) (w0 : World) (fuel : Nat) (listed : Array Bool) (n : Nat) (env : Env) (R : Ro) (E : List Ent) (i : Nat) : Prop :=
  ∀ a w, Kn n env a → Mem w0 w R E → wpOp P ops.toArray (OnP n Q) i (fun a' w' => Mem w0 w' R0 ES ∧ wpAnyH P .any ops.toArray (OnP n Q) (fun w => Mem w0 w R0 ES) fuel (listed.setIfInBounds i true) a' w') a w
theorem W.regionX (id : Nat) {l : List Oper} {ES : List Ent} (hm : P.follows .mixedOrders = true)
  (h : WAX P l Q ES R w0 l.toArray.size (Array.replicate l.toArray.size false) n env R E) : W P (.region id l.toArray true) Q n env w0 R E := by
 intro a w hk hw
 refine Code.wp_mono (Q := OnP n Q) OnP.imp (wp_region_held (S := fun w => Mem w0 w R ES) hm ?_)
 exact h a _ hk hw.drew
theorem WAX.of (h : WA P ops Q ES R0 w0 fuel listed n env R E) : WAX P ops Q ES R0 w0 fuel listed n env R E := fun a w hk hm => wpAnyH_monoQ OnP.of _ _ _ _ (h a w hk hm)
theorem WAX.take {v : Value} {d : Nat} {pc : Bool} (i : Nat) (hi : ops.toArray[i]? = some o) (hs : Region.noSelect ops.toArray = true) (hf : Region.free .any ops.toArray listed i = true) (hr : (Region.ready .any ops.toArray listed).contains i = true)
  (hg : gpc ops env o = some pc) (hd : o.dst = some d) (hdn : d < n) (hy : Yl P n env w0 R0 ES o pc v) (hsub : ES.Sublist E) (hR : RLe R0 R)
  (h : WAX P ops Q ES R0 w0 fuel (listed.setIfInBounds i true) n ((d, pc, v) :: env) R E) : WAX P ops Q ES R0 w0 (fuel + 1) listed n env R E := by
 intro a w hk hm
 have hput := hk.put hdn pc v
 refine wpAnyH_take (v := if pc then v else undef) hi hs hf hr (fun c a' w' h' => ?_) ?_ (hm.sub hR hsub) ?_
 ·obtain ⟨h1, h2, h3⟩ := h'
  refine ⟨?_, ?_, h3⟩
  ·unfold Act.put at h1; cases hdd : o.dst <;> simp only [hdd] at h1 <;> exact h1
  ·unfold Act.put at h2; cases hdd : o.dst <;> simp only [hdd] at h2 <;> simpa using h2
 ·cases pc with
  | true => exact .inl ⟨hk.wanted hg, fun w hm => by simpa using hy a w hk hm rfl⟩
  | false => exact .inr ⟨hk.wanted hg, rfl⟩
 ·rw [hd]
  exact h _ _ hput hm
theorem WAX.br2 {i j : Nat} (hr : Region.ready .any ops.toArray listed = [i, j]) (h1 : WSX P ops Q ES R0 w0 fuel listed n env R E i) (h2 : WSX P ops Q ES R0 w0 fuel listed n env R E j) : WAX P ops Q ES R0 w0 (fuel + 1) listed n env R E := by
 intro a w hk hm
 refine wpAnyH_all hr (by simp) fun m hm' => ?_
 rcases List.mem_cons.1 hm' with rfl | hm'
 ·exact h1 a w hk hm
 ·obtain rfl : m = j := by simpa using hm'
  exact h2 a w hk hm
theorem WAX.one {i : Nat} (hr : Region.ready .any ops.toArray listed = [i]) (h1 : WSX P ops Q ES R0 w0 fuel listed n env R E i) : WAX P ops Q ES R0 w0 (fuel + 1) listed n env R E := by
 intro a w hk hm
 refine wpAnyH_all hr (by simp) fun m hm' => ?_
 obtain rfl : m = i := by simpa using hm'
 exact h1 a w hk hm
theorem WSX.yl {v : Value} {d : Nat} {i : Nat} (hi : ops.toArray[i]? = some o) (hg : o.guard = none) (hd : o.dst = some d) (hdn : d < n) (hy : Yl P n env w0 R E o true v) (hsub : ES.Sublist E) (hR : RLe R0 R)
  (h : WAX P ops Q ES R0 w0 fuel (listed.setIfInBounds i true) n ((d, true, v) :: env) R E) : WSX P ops Q ES R0 w0 fuel listed n env R E i := by
 intro a w hk hm
 unfold wpOp
 rw [hi]
 simp only [Region.wanted, hg, if_true]
 left
 unfold Oper.wp
 rw [hy a w hk hm rfl]
 simp only [Oper.upon, hd]
 exact ⟨hm.sub hR hsub, h _ _ (hk.putT hdn v) hm⟩
theorem WSX.callXAt {d : Nat} {f : FuncId} {vs : List Value} {e : Ent} {Post : Value → Ro → Ent → List Ent → Prop} {PX : Value → Ro → Ent → Prop} (k : Nat) {i : Nat} (hi : ops.toArray[i]? = some o) (hf : Enters P f) (hg : o.guard = none) (hd : o.dst = some d) (hdn : d < n)
  (hc : CallOp env o.op true f vs) (hE : E[k]? = some e)
  (hv : FnX P f vs w0 R (e :: E.eraseIdx k) (fun v R' E' => ∃ e' N, E' = N ++ e' :: E.eraseIdx k ∧ Post v R' e' N) (fun v R' E' => ∃ e', E' = e' :: E.eraseIdx k ∧ PX v R' e'))
  (hx : ∀ v R' e', RLe R R' → PX v R' e' → WE Q (.panic [{ v := v, recovered := false }]) n [] w0 R' (E.set k e'))
  (h : ∀ v R' e' N, RLe R R' → Post v R' e' N → RLe R0 R' ∧ ES.Sublist (N ++ E.set k e') ∧ WA P ops Q ES R0 w0 fuel (listed.setIfInBounds i true) n ((d, true, v) :: env) R' (N ++ E.set k e')) (hds : markOf env = none := by rfl) : WSX P ops Q ES R0 w0 fuel listed n env R E i := by
 intro a w hk hm
 unfold wpOp
 rw [hi]
 simp only [Region.wanted, hg, if_true]
 left
 unfold Oper.wp
 rw [run_call hk hc rfl hf]
 refine (hv w (hm.perm (perm_get hE))).mono ?_
 rintro e0 w' (⟨v, R', E', rfl, hR, hm', e', N, rfl, hp⟩ | ⟨v, R', E', rfl, hR, hm', e', rfl, hp⟩)
 ·obtain ⟨g1, g2, g3⟩ := h v R' e' N hR hp
  have hm2 := hm'.perm ((perm_set e' hE).append_left N)
  simp only [hd]
  exact ⟨hm2.sub g1 g2, wpAnyH_monoQ OnP.of _ _ _ _ (g3 _ _ (hk.putT hdn v) hm2)⟩
 ·refine ⟨by rw [hk.defers]; unfold dsOf; rw [hds], hk.size, fun a' h1 h2 => hx v R' e' hR hp a' w' ⟨h2, hk.small, by rw [h1]; rfl, fun t p v ht => by cases ht⟩ (hm'.perm (perm_set e' hE))⟩
end
end Go.Proofs.YtmidibkljoaoiaaGreatDoor.K

/- The reader of words beside the plain reading of a text. Plain. No condition. -/
namespace Go.Proofs.YtmidibkljoaoiaaGreatDoor.M
open Go Go.Proofs.YtmidibkljoaoiaaGreatDoor.K
/-- how many bytes the words that are left take -/
def remL : List (List UInt8) → Nat
  | [] => 0
  | w :: ws => w.length + 1 + remL ws
theorem remL_spl : ∀ s : List UInt8, remL (spl s) = s.length + 1
 | [] => rfl
 | c :: s => by
  have ih := remL_spl s
  unfold spl
  split
  ·show 0 + 1 + remL (spl s) = _; rw [ih, List.length_cons]; omega
  ·cases h : spl s with
   | nil => exact absurd h (spl_ne s)
   | cons w ws =>
    rw [h] at ih
    show w.length + 1 + 1 + remL ws = _
    have : w.length + 1 + remL ws = s.length + 1 := ih
    rw [List.length_cons]; omega
theorem remL_len : ∀ ws : List (List UInt8), ws.length ≤ remL ws
 | [] => Nat.le_refl 0
 | w :: ws => by have := remL_len ws; show ws.length + 1 ≤ w.length + 1 + remL ws; omega
theorem remL_mem {w : List UInt8} : ∀ {ws : List (List UInt8)}, w ∈ ws → w.length ≤ remL ws
 | [], h => by cases h
 | v :: ws, h => by
  show _ ≤ v.length + 1 + remL ws
  rcases List.mem_cons.1 h with rfl | h
  ·omega
  ·have := remL_mem h; omega
/-- where reading stands: what is left -/
structure Rdr (size : Nat) (ws : List (List UInt8)) (wh : Nat) (vals : List Int) (per inc : Int) (at' k : Nat) : Prop where
  go : parseGo size 0 [] 0 0 0 ws = parseGo size wh vals per inc at' (ws.drop k)
  le : k ≤ ws.length
  rem : at' + remL (ws.drop k) ≤ 10000
  len : vals.length ≤ k
theorem Rdr.start {size : Nat} {ws : List (List UInt8)} (h : remL ws ≤ 10000) : Rdr size ws 0 [] 0 0 0 0 := ⟨rfl, Nat.zero_le _, by rw [List.drop_zero]; omega, Nat.le_refl _⟩
section
variable {size : Nat} {ws : List (List UInt8)} {wh : Nat} {vals : List Int} {per inc : Int} {at' k : Nat}
theorem Rdr.eof (h : Rdr size ws wh vals per inc at' k) (hk : ¬ k < ws.length) (hw : wh ≠ 5) : parseGo size 0 [] 0 0 0 ws = (zcv, size, 4) := by
 rw [h.go, List.drop_eq_nil_of_le (by omega), parseGo, if_neg hw]
theorem Rdr.fin (h : Rdr size ws 5 vals per inc at' k) (hk : ¬ k < ws.length) : parseGo size 0 [] 0 0 0 ws = (⟨vals, per, inc⟩, 0, 0) := by
 rw [h.go, List.drop_eq_nil_of_le (by omega), parseGo, if_pos rfl]
theorem Rdr.cons (h : Rdr size ws wh vals per inc at' k) (hk : k < ws.length) : parseGo size 0 [] 0 0 0 ws = parseGo size wh vals per inc at' (nth ws k :: ws.drop (k + 1)) ∧ at' + (nth ws k).length + 1 + remL (ws.drop (k + 1)) ≤ 10000 := by
 have e : ws.drop k = nth ws k :: ws.drop (k + 1) := by rw [nth_eq hk]; exact List.drop_eq_getElem_cons hk
 have h1 := h.go
 have h2 := h.rem
 rw [e] at h1 h2
 exact ⟨h1, by have : remL (nth ws k :: ws.drop (k + 1)) = (nth ws k).length + 1 + remL (ws.drop (k + 1)) := rfl; omega⟩
theorem Rdr.at_le (h : Rdr size ws wh vals per inc at' k) : k < ws.length → at' + (nth ws k).length ≤ 2000000 := fun hk => by have := (h.cons hk).2; omega
theorem Rdr.infS (h : Rdr size ws wh vals per inc at' k) (hk : k < ws.length) (hw : wh ≤ 1) (e : nth ws k = wInf) : Rdr size ws 1 (vals ++ [INF]) per inc (at' + (nth ws k).length + 1) (k + 1) := by
 obtain ⟨h1, h2⟩ := h.cons hk
 have h3 := h.len
 refine ⟨?_, by omega, h2, by rw [List.length_append]; show _ + 1 ≤ _; omega⟩
 rw [h1, parseGo, if_pos ⟨hw, e⟩]
theorem Rdr.perS (h : Rdr size ws 1 vals per inc at' k) (hk : k < ws.length) (e : nth ws k = wPer) : Rdr size ws 2 vals per inc (at' + (nth ws k).length + 1) (k + 1) := by
 obtain ⟨h1, h2⟩ := h.cons hk
 have h3 := h.len
 refine ⟨?_, by omega, h2, by omega⟩
 rw [h1, parseGo, if_neg (fun hh => by rw [e] at hh; exact absurd hh.2 (by decide)), if_pos ⟨rfl, e⟩]
theorem Rdr.incS (h : Rdr size ws 3 vals per inc at' k) (hk : k < ws.length) (e : nth ws k = wInc) : Rdr size ws 4 vals per inc (at' + (nth ws k).length + 1) (k + 1) := by
 obtain ⟨h1, h2⟩ := h.cons hk
 have h3 := h.len
 refine ⟨?_, by omega, h2, by omega⟩
 rw [h1, parseGo, if_neg (fun hh => absurd hh.1 (by decide)), if_neg (fun hh => absurd hh.1 (by decide)), if_pos ⟨rfl, e⟩]
theorem Rdr.incErr (h : Rdr size ws 3 vals per inc at' k) (hn : (wordE ws wInc k at' size).2 ≠ 0) : parseGo size 0 [] 0 0 0 ws = (zcv, wordE ws wInc k at' size) := by
 unfold wordE at hn ⊢
 by_cases hk : k < ws.length
 ·rw [if_pos hk] at hn ⊢
  by_cases e : nth ws k = wInc
  ·rw [if_pos e] at hn; exact absurd rfl hn
  ·rw [if_neg e]
   rw [(h.cons hk).1, parseGo, if_neg (fun hh => absurd hh.1 (by decide)), if_neg (fun hh => absurd hh.1 (by decide)), if_neg (fun hh => e hh.2), if_neg (fun hh => hh.2.1 rfl)]
 ·rw [if_neg hk, h.eof hk (by decide)]
/-- a number is read -/
theorem Rdr.numOk (h : Rdr size ws wh vals per inc at' k) (hk : k < ws.length) (hn : numE ws k at' size = (0, 0)) : digs (nth ws k) = true ∧ ¬ 1073741824 < numV (nth ws k) := by
 unfold numE at hn
 rw [if_pos hk] at hn
 by_cases hd : digs (nth ws k) = true
 ·rw [if_pos hd] at hn
  by_cases hb : 1073741824 < numV (nth ws k)
  ·rw [if_pos hb] at hn; cases hn
  ·exact ⟨hd, hb⟩
 ·rw [if_neg hd] at hn; cases hn
theorem digs_ne {w : List UInt8} (h : digs w = true) : w ≠ wInf ∧ w ≠ wPer ∧ w ≠ wInc :=
 ⟨fun e => (by rw [e, wInf_no] at h; cases h), fun e => (by rw [e, wPer_no] at h; cases h), fun e => (by rw [e, wInc_no] at h; cases h)⟩
theorem Rdr.step (h : Rdr size ws wh vals per inc at' k) (hk : k < ws.length) (hd : digs (nth ws k) = true) (hb : ¬ 1073741824 < numV (nth ws k)) (hw : wh ≠ 3 ∧ wh ≠ 5) :
  parseGo size 0 [] 0 0 0 ws = if wh = 2 then parseGo size 3 vals (numV (nth ws k)) inc (at' + (nth ws k).length + 1) (ws.drop (k + 1))
   else if wh = 4 then parseGo size 5 vals per (numV (nth ws k)) (at' + (nth ws k).length + 1) (ws.drop (k + 1))
   else parseGo size 1 (vals ++ [(numV (nth ws k) : Int)]) per inc (at' + (nth ws k).length + 1) (ws.drop (k + 1)) := by
 obtain ⟨n1, n2, n3⟩ := digs_ne hd
 rw [(h.cons hk).1, parseGo, if_neg (fun hh => n1 hh.2), if_neg (fun hh => n2 hh.2), if_neg (fun hh => n3 hh.2), if_pos ⟨hd, hw⟩, if_neg hb]
theorem Rdr.val (h : Rdr size ws wh vals per inc at' k) (hk : k < ws.length) (hw : wh ≤ 1) (hn : numE ws k at' size = (0, 0)) : Rdr size ws 1 (vals ++ [(numV (nth ws k) : Int)]) per inc (at' + (nth ws k).length + 1) (k + 1) := by
 obtain ⟨hd, hb⟩ := h.numOk hk hn
 have h3 := h.len
 exact ⟨by rw [h.step hk hd hb (by omega), if_neg (by omega), if_neg (by omega)], by omega, (h.cons hk).2, by rw [List.length_append]; show _ + 1 ≤ _; omega⟩
theorem Rdr.num2 (h : Rdr size ws 2 vals per inc at' k) (hk : k < ws.length) (hn : numE ws k at' size = (0, 0)) : Rdr size ws 3 vals (numV (nth ws k)) inc (at' + (nth ws k).length + 1) (k + 1) := by
 obtain ⟨hd, hb⟩ := h.numOk hk hn
 have h3 := h.len
 exact ⟨by rw [h.step hk hd hb (by omega), if_pos rfl], by omega, (h.cons hk).2, by omega⟩
theorem Rdr.num4 (h : Rdr size ws 4 vals per inc at' k) (hk : k < ws.length) (hn : numE ws k at' size = (0, 0)) : Rdr size ws 5 vals per (numV (nth ws k)) (at' + (nth ws k).length + 1) (k + 1) := by
 obtain ⟨hd, hb⟩ := h.numOk hk hn
 have h3 := h.len
 exact ⟨by rw [h.step hk hd hb (by omega), if_neg (by omega), if_pos rfl], by omega, (h.cons hk).2, by omega⟩
/-- a number that is not read -/
theorem Rdr.numErr (h : Rdr size ws wh vals per inc at' k) (hw : wh ≠ 3 ∧ wh ≠ 5) (h1 : k < ws.length → wh ≤ 1 → nth ws k ≠ wInf) (h2 : k < ws.length → wh = 1 → nth ws k ≠ wPer) (hn : (numE ws k at' size).2 ≠ 0) : parseGo size 0 [] 0 0 0 ws = (zcv, numE ws k at' size) := by
 unfold numE at hn ⊢
 by_cases hk : k < ws.length
 ·rw [if_pos hk] at hn ⊢
  by_cases hd : digs (nth ws k) = true
  ·rw [if_pos hd] at hn ⊢
   by_cases hb : 1073741824 < numV (nth ws k)
   ·rw [if_pos hb]
    obtain ⟨n1, n2, n3⟩ := digs_ne hd
    rw [(h.cons hk).1, parseGo, if_neg (fun hh => n1 hh.2), if_neg (fun hh => n2 hh.2), if_neg (fun hh => n3 hh.2), if_pos ⟨hd, hw⟩, if_pos hb]
   ·rw [if_neg hb] at hn; exact absurd rfl hn
  ·rw [if_neg hd]
   rw [(h.cons hk).1, parseGo, if_neg (fun hh => h1 hk hh.1 hh.2), if_neg (fun hh => h2 hk hh.1 hh.2), if_neg (fun hh => hw.1 hh.1), if_neg (fun hh => hd hh.1)]
 ·rw [if_neg hk, h.eof hk hw.2]
/-- a word too much -/
theorem Rdr.more (h : Rdr size ws 5 vals per inc at' k) (hk : k < ws.length) : parseGo size 0 [] 0 0 0 ws = (zcv, at', 4) := by
 rw [(h.cons hk).1, parseGo, if_neg (fun hh => absurd hh.1 (by decide)), if_neg (fun hh => absurd hh.1 (by decide)), if_neg (fun hh => absurd hh.1 (by decide)), if_neg (fun hh => hh.2.2 rfl)]
end
def whV (vs : List Int) : Nat := if vs = [] then 0 else 1
theorem whV_le (vs : List Int) : whV vs ≤ 1 := by unfold whV; split <;> omega
theorem whV_snoc (vs : List Int) (v : Int) : whV (vs ++ [v]) = 1 := if_neg (by simp)
end Go.Proofs.YtmidibkljoaoiaaGreatDoor.M

/- The reader of words: a curve. No condition. -/
set_option maxRecDepth 4000
set_option linter.unusedSimpArgs false
set_option linter.unusedVariables false
namespace Go.Proofs.YtmidibkljoaoiaaGreatDoor
open Go Go.RowKit Go.Proofs.YtmidibkljoaoiaaGreatDoor.K Go.Proofs.YtmidibkljoaoiaaGreatDoor.M

set_option maxHeartbeats 2000000 in
theorem CurveR_C {R : Ro} {b : Nat} {a : Option Addr} {cp : Nat} {ws : List (List UInt8)} {size : Nat} (w0 : World) (hws : RS R 1 encT a ws) (hsz : size ≤ 1000000) (hG : GlobE R) (hrm : remL ws ≤ 10000) (F : List Ent) : FnX Tryz.prog 103 [.pointer (some ⟨b, 0, none⟩)] w0 R (rdE b a cp ws 0 0 size :: F) (fun v R' E' => ∃ (c : Cv) (f : Option Addr) (fc : Nat), v = .agg #[.slice f c.vals.length fc, .int .i64 c.per, .int .i64 c.inc] ∧ RS R' 1 encI f c.vals ∧ c.vals.length ≤ fc ∧ c.vals.length ≤ 10000 ∧ parseGo size 0 [] 0 0 0 ws = (c, 0, 0) ∧ F.Sublist E') (fun v R' E' => ∃ (p : Nat) (e : Int), v = failV p e ∧ parseGo size 0 [] 0 0 0 ws = (zcv, p, e) ∧ e ≠ 0 ∧ F.Sublist E') := by
 have hwl := hws.len
 have hlw : ∀ w ∈ ws, w.length ≤ 1000000 := fun w hw => by have := remL_mem hw; omega
 have hwn := remL_len ws
 refine FnX.enter (n := 55) Tryz.func103 rfl rfl (Nat.le_of_ble_eq_true rfl) rfl ?_
 refine zQ (zG ?_)
 refine zA fun b2 => ?_
 refine zN (zU ?_)
 refine W.nil 3 1 qD ?_
 refine zQ (zG ?_)
 refine zA fun b3 => ?_
 refine zN (zU (zQ (zB ?_)))
 refine W.loopK (β := List Int × Option Addr × Nat × Nat × Nat) (fun (vs, a9, c9, k, p) => Rdr size ws (whV vs) vs 0 0 p k) (fun (vs, a9, c9, k, p) => []) [0, 2, 3] [_, _, _] [] _ rfl (fun (vs, a9, c9, k, p) => [(0, .blk b3 [.slice a9 (vs).length c9, .int .i64 0, .int .i64 0]), (1, .sl 3 1 a9 c9 ((vs).map encI)), (3, rdE b a cp ws k p size)]) (fun (vs, a9, c9, k, p) => ws.length - k) (([], none, 0, 0, 0)) (Rdr.start hrm) ⟨rfl, rfl, rfl, rfl⟩ qS ?_
 intro zz hst
 obtain ⟨vs, a9, c9, k, p⟩ := zz
 dsimp only [zipE, setAll, List.cons_append, List.nil_append, List.set_cons_zero, List.set_cons_succ] at hst ⊢
 have hr := hst
 have hw1 := whV_le vs
 have hvl := hr.len
 have hkl := hr.le
 refine zQ (zQ (zG (zR 1 rfl ?_)))
 refine WL.callXAt 3 en110 rfl rfl qD (CallOp.mkT rfl rfl rfl rfl) rfl (Need_C w0 hws hsz _) ?_ ?_
 ·
  rintro _ _ _ - ⟨rfl, hk, rfl, rfl⟩
  refine WE.then_panic ?_
  refine WE.then_panic ?_
  refine WE.then_panic ?_
  refine WE.blk_panic ?_
  refine WE.then_panic ?_
  refine WE.panicX (by first | exact RLe.refl _ | exact hR1) ?_
  exact ⟨_, _, rfl, hr.eof hk qO, by decide, qS⟩
 rintro _ _ _ _ - ⟨rfl, hk, rfl, rfl, rfl⟩
 refine WG.y rfl rfl qD (Yl.neS rfl rfl rfl (fun _ => rfl)) ?_
 refine zR 1 rfl ?_
 refine yP ?_
 refine yG (Rd.addC (Rd.blkC 0 rfl) _) ?_
 refine yP ?_
 refine yP ?_
 refine yO ?_
 refine zN (zU ?_)
 refine W.cond rfl (fun hc0 => ?_) (fun hc0 => ?_)
 ·try simp only [zk] at hc0
  have hnp : whV vs = 1 → nth ws k ≠ wPer := fun h e => by
   rcases hc0 with h0 | h0
   ·exact h0 (by rw [e]; rfl)
   ·have : vs = [] := List.eq_nil_of_length_eq_zero (by omega)
    rw [this] at h; cases h
  refine zK (zU (zB (zQ (zQ (zG (zR 1 rfl ?_))))))
  refine WL.callXAt 3 en110 rfl rfl qD (CallOp.mkT rfl rfl rfl rfl) rfl (Need_C w0 hws hsz _) ?_ ?_
  ·
   rintro _ _ _ - ⟨rfl, hk, rfl, rfl⟩
   refine WE.then_panic ?_
   refine WE.then_panic ?_
   refine WE.blk_panic ?_
   refine WE.then_panic ?_
   refine WE.blk_panic ?_
   refine WE.then_panic ?_
   refine WE.panicX (by first | exact RLe.refl _ | exact hR1) ?_
   exact ⟨_, _, rfl, hr.eof hk qO, by decide, qS⟩
  rintro _ _ _ _ - ⟨rfl, hk, rfl, rfl, rfl⟩
  refine WG.y rfl rfl qD (Yl.eqS rfl rfl rfl (fun _ => rfl)) ?_
  refine zN (zU ?_)
  refine W.cond rfl (fun hc1 => ?_) (fun hc1 => ?_)
  ·try simp only [zk] at hc1
   have hinf : nth ws k = wInf := str_inj (b := wInf) hc1
   refine zQ (zG (zR 1 rfl ?_))
   refine yL (Rd.add (Rd.blk 0 rfl) _) ?_
   refine WL.ef rfl rfl qD (Ef.buildSliceD (enc := encI) (parts := [.const (.int .i64 4611686018427387904)]) [_] tab_ok rfl rfl rfl rfl rfl rfl rfl rfl qD qD (fun a20 => ?_))
   refine WL.ef rfl rfl (by decide) (Ef.appendD 2 0 tab_ok rfl rfl rfl rfl rfl rfl rfl rfl rfl rfl rfl (fun _ _ => rfl) (by simp only [List.length_cons, List.length_nil]; omega) (by simp only [List.length_cons, List.length_nil]; omega) (fun a21 c21 ha21 => ?_))
   refine zR 1 rfl ?_
   refine zF 1 ?_
   refine zN (zU (zQ (zG (zR 1 rfl ?_))))
   refine WL.callAt 4 en111 rfl rfl qD (CallOp.mkT rfl rfl rfl rfl) rfl (Skip_C w0 hws hsz hk (hr.at_le hk) _) ?_
   rintro _ _ _ _ - ⟨rfl, rfl, rfl, rfl⟩
   refine zN (zU ?_)
   refine zX ?_
   refine wx (zY ?_)
   refine WE.again ((vs ++ [INF], a21, c21, k + 1, p + (nth ws k).length + 1)) (by (try dsimp only); rw [whV_snoc]; exact hr.infS hk hw1 hinf) (by (try dsimp only); omega) ⟨rfl, rfl, rfl, rfl⟩ (RLe.refl _) qS
  ·try simp only [zk] at hc1
   have hinf : nth ws k ≠ wInf := fun e => hc1 (by rw [e]; rfl)
   refine zK (zU ?_)
   refine W.regionX _ (ES := []) mixed ?_
   refine WAX.take 0 rfl qK qK qK rfl rfl qD (pureV_ok tab_ok rfl (fun _ => rfl)) qS qR ?_
   refine WAX.take 2 rfl qK qK qK rfl rfl qD (pureV_ok tab_ok rfl (fun _ => rfl)) qS qR ?_
   refine WAX.br2 (i := 1) (j := 3) qK ?_ ?_
   ·
    refine' WSX.yl rfl rfl rfl qD (Yl.load1 tab_ok rfl rfl rfl (fun _ => rfl) ?r3 rfl ?h3) qS qR ?_
    case r3 => apply Rd.add; (exact Rd.blk 0 rfl)
    case h3 => rfl
    refine WAX.one (i := 3) qK ?_
    first | refine WSX.callXAt 3 rfl en112 rfl rfl qD (CallOp.mkT rfl rfl rfl rfl) rfl (Number_C w0 hws hsz hG hlw hr.at_le _) ?_ ?_
    ·
     rintro _ _ _ - ⟨rfl, hn, rfl, rfl⟩
     refine WE.blk_panic ?_
     refine WE.then_panic ?_
     refine WE.blk_panic ?_
     refine WE.then_panic ?_
     refine WE.panicX (by first | exact RLe.refl _ | exact hR1) ?_
     exact ⟨_, _, rfl, hr.numErr qO (fun _ _ => hinf) (fun _ h => hnp h) hn, hn, qS⟩
    rintro _ _ _ _ - ⟨rfl, hk2, hn2, rfl, rfl, rfl⟩
    refine ⟨RLe.refl _, List.nil_sublist _, ?_⟩
    refine WA.eff 4 rfl qK rfl rfl qD (Ef.buildSliceD (enc := encI) (parts := [.tmp 28]) [_] tab_ok rfl rfl rfl rfl rfl rfl rfl rfl qD qD (fun a29 => ?_))
    refine ⟨qR, qS, ?_⟩
    refine WA.eff 5 rfl (by kernel_rfl) rfl rfl (by decide) (Ef.appendD 2 0 tab_ok rfl rfl rfl rfl rfl rfl rfl rfl rfl rfl rfl (fun _ _ => rfl) (by simp only [List.length_cons, List.length_nil]; omega) (by simp only [List.length_cons, List.length_nil]; omega) (fun a30 c30 ha30 => ?_))
    refine ⟨qR, qS, ?_⟩
    refine tP 6 ?_
    refine zCF 7 1 ?_
    refine WA.done qK ?_
    refine zL ?_
    refine WE.again ((vs ++ [(numV (nth ws k) : Int)], a30, c30, k + 1, p + (nth ws k).length + 1)) (by (try dsimp only); rw [whV_snoc]; exact hr.val hk hw1 hn2) (by (try dsimp only); omega) ⟨rfl, rfl, rfl, rfl⟩ (RLe.refl _) qS
   ·
    first | refine WSX.callXAt 3 rfl en112 rfl rfl qD (CallOp.mkT rfl rfl rfl rfl) rfl (Number_C w0 hws hsz hG hlw hr.at_le _) ?_ ?_
    ·
     rintro _ _ _ - ⟨rfl, hn, rfl, rfl⟩
     refine WE.blk_panic ?_
     refine WE.then_panic ?_
     refine WE.blk_panic ?_
     refine WE.then_panic ?_
     refine WE.panicX (by first | exact RLe.refl _ | exact hR1) ?_
     exact ⟨_, _, rfl, hr.numErr qO (fun _ _ => hinf) (fun _ h => hnp h) hn, hn, qS⟩
    rintro _ _ _ _ - ⟨rfl, hk2, hn2, rfl, rfl, rfl⟩
    refine ⟨RLe.refl _, List.nil_sublist _, ?_⟩
    refine WA.br2 (i := 1) (j := 4) qK ?_ ?_
    ·
     refine sL (Rd.add (Rd.blk 0 rfl) _) ?_
     refine WA.eff 4 rfl qK rfl rfl qD (Ef.buildSliceD (enc := encI) (parts := [.tmp 28]) [_] tab_ok rfl rfl rfl rfl rfl rfl rfl rfl qD qD (fun a29 => ?_))
     refine ⟨qR, qS, ?_⟩
     refine WA.eff 5 rfl (by kernel_rfl) rfl rfl (by decide) (Ef.appendD 2 0 tab_ok rfl rfl rfl rfl rfl rfl rfl rfl rfl rfl rfl (fun _ _ => rfl) (by simp only [List.length_cons, List.length_nil]; omega) (by simp only [List.length_cons, List.length_nil]; omega) (fun a30 c30 ha30 => ?_))
     refine ⟨qR, qS, ?_⟩
     refine tP 6 ?_
     refine zCF 7 1 ?_
     refine WA.done qK ?_
     refine zL ?_
     refine WE.again ((vs ++ [(numV (nth ws k) : Int)], a30, c30, k + 1, p + (nth ws k).length + 1)) (by (try dsimp only); rw [whV_snoc]; exact hr.val hk hw1 hn2) (by (try dsimp only); omega) ⟨rfl, rfl, rfl, rfl⟩ (RLe.refl _) qS
    ·
     refine WS.eff rfl rfl rfl qD (Ef.buildSliceD (enc := encI) (parts := [.tmp 28]) [_] tab_ok rfl rfl rfl rfl rfl rfl rfl rfl qD qD (fun a29 => ?_))
     refine ⟨qR, qS, ?_⟩
     refine lL 1 (Rd.add (Rd.blk 1 rfl) _) ?_
     refine WA.eff 5 rfl (by kernel_rfl) rfl rfl (by decide) (Ef.appendD 2 0 tab_ok rfl rfl rfl rfl rfl rfl rfl rfl rfl rfl rfl (fun _ _ => rfl) (by simp only [List.length_cons, List.length_nil]; omega) (by simp only [List.length_cons, List.length_nil]; omega) (fun a30 c30 ha30 => ?_))
     refine ⟨qR, qS, ?_⟩
     refine tP 6 ?_
     refine zCF 7 1 ?_
     refine WA.done qK ?_
     refine zL ?_
     refine WE.again ((vs ++ [(numV (nth ws k) : Int)], a30, c30, k + 1, p + (nth ws k).length + 1)) (by (try dsimp only); rw [whV_snoc]; exact hr.val hk hw1 hn2) (by (try dsimp only); omega) ⟨rfl, rfl, rfl, rfl⟩ (RLe.refl _) qS
 ·try simp only [zk] at hc0
  have hper : nth ws k = wPer := str_inj (b := wPer) hc0.1
  have hw : whV vs = 1 := if_neg (fun e => by rw [e] at hc0; exact hc0.2 rfl)
  rw [hw] at hr
  have h2 := hr.perS hk hper
  refine zX ?_
  refine wx (wx (zY (zU (zQ (zG (zR 1 rfl ?_))))))
  refine WL.callAt 3 en111 rfl rfl qD (CallOp.mkT rfl rfl rfl rfl) rfl (Skip_C w0 hws hsz hk (hr.at_le hk) _) ?_
  rintro _ _ _ _ - ⟨rfl, rfl, rfl, rfl⟩
  refine zN (zU (zQ (zG (zR 1 rfl ?_))))
  refine WL.callXAt 3 en112 rfl rfl qD (CallOp.mkT rfl rfl rfl rfl) rfl (Number_C w0 hws hsz hG hlw h2.at_le _) ?_ ?_
  ·
   rintro _ _ _ - ⟨rfl, hn, rfl, rfl⟩
   refine WE.then_panic ?_
   refine WE.panicX (by first | exact RLe.refl _ | exact hR1) ?_
   exact ⟨_, _, rfl, h2.numErr qD (fun _ h => absurd h qD) (fun _ h => absurd h qD) hn, hn, qS⟩
  rintro _ _ _ _ - ⟨rfl, hk2, hn2, rfl, rfl, rfl⟩
  have h3 := h2.num2 hk2 hn2
  refine zR 1 rfl ?_
  refine zF 0 ?_
  refine zN (zU (zQ (zG (zR 1 rfl ?_))))
  refine WL.callXAt 3 en113 rfl rfl qD (CallOp.mkT rfl rfl rfl rfl) rfl (Word_C (want := wInc) w0 hws hsz h3.at_le _) ?_ ?_
  ·
   rintro _ _ _ - ⟨rfl, hn, rfl, rfl⟩
   refine WE.then_panic ?_
   refine WE.panicX (by first | exact RLe.refl _ | exact hR1) ?_
   exact ⟨_, _, rfl, h3.incErr hn, hn, qS⟩
  rintro _ _ _ _ - ⟨rfl, hk3, hwd, rfl, rfl, rfl⟩
  have h4 := h3.incS hk3 hwd
  refine zN (zU (zQ (zG (zR 1 rfl ?_))))
  refine WL.callXAt 3 en112 rfl rfl qD (CallOp.mkT rfl rfl rfl rfl) rfl (Number_C w0 hws hsz hG hlw h4.at_le _) ?_ ?_
  ·
   rintro _ _ _ - ⟨rfl, hn, rfl, rfl⟩
   refine WE.then_panic ?_
   refine WE.panicX (by first | exact RLe.refl _ | exact hR1) ?_
   exact ⟨_, _, rfl, h4.numErr qD (fun _ h => absurd h qD) (fun _ h => absurd h qD) hn, hn, qS⟩
  rintro _ _ _ _ - ⟨rfl, hk4, hn4, rfl, rfl, rfl⟩
  have h5 := h4.num4 hk4 hn4
  refine zR 1 rfl ?_
  refine zF 0 ?_
  refine zN (zU (zQ (zQ (zG (zR 1 rfl ?_)))))
  refine WL.callAt 3 en114 rfl rfl qD (CallOp.mkT rfl rfl rfl rfl) rfl (Peek_C w0 hws hsz _) ?_
  rintro _ _ _ _ - ⟨rfl, rfl, rfl, rfl⟩
  refine zR 5 rfl (zN (zU (zQ (zG (zR 1 rfl (zN (zU ?_)))))))
  refine W.cond rfl (fun hc2 => ?_) (fun hc2 => ?_)
  ·try simp only [zk] at hc2
   have hk5 := hc2
   refine zG (zR 3 rfl ?_)
   refine yL (Rd.add (Rd.blk 3 rfl) _) ?_
   -- build
   refine WG.y rfl rfl qD (Yl.build (parts := [(0, .tmp 51), (1, .const (.int .i64 4))]) tab_ok rfl rfl rfl rfl (fun _ => rfl) rfl rfl) ?_
   refine WG.y rfl rfl qD (Yl.toIface tab_ok rfl rfl rfl rfl (fun _ => rfl)) ?_
   refine WL.panic rfl rfl rfl ?_
   refine WE.then_panic ?_
   refine WE.panicX (by first | exact RLe.refl _ | exact hR1) ?_
   exact ⟨_, _, rfl, h5.more hk5, by decide, qS⟩
  ·try simp only [zk] at hc2
   have hk5 := hc2
   refine zK (zU ?_)
   refine W.cap 1 rfl ?_
   intro hcp
   rw [List.length_map] at hcp
   refine W.freeze (enc := encI) (xs := vs) 1 rfl ?_
   intro R1 hR1 hvs
   refine zQ (zG ?_)
   refine yL (Rd.blk 0 rfl) ?_
   refine zE 1 ?_
   refine zN (zU (zT ?_))
   refine WE.retX tab_ok [_] rfl ⟨⟨_, _, _, rfl, rfl, rfl, qB, rfl⟩, trivial⟩ (by first | exact RLe.refl _ | exact hR1) ?_
   exact ⟨⟨vs, _, _⟩, a9, c9, rfl, hvs, hcp, by dsimp only; omega, h5.fin hk5, qS⟩



theorem nilI20 : Tryz.prog.underlying 20 = some (.interface (Tryz.prog.methodsAt 20)) := by kernel_rfl

theorem ParseD_ret {R : Ro} {x2 x3 x4 : Nat} (w0 : World) (E : List Ent) : FnDR Tryz.prog 102 [.pointer (some ⟨x2, 0, none⟩), .pointer (some ⟨x3, 0, none⟩), .pointer (some ⟨x4, 0, none⟩)] w0 R E .returning (fun R' E' u' => settle u' = .returning ∧ R = R' ∧ E = E') := by
 refine FnDR.enter (n := 22) Tryz.func102 rfl rfl (Nat.le_of_ble_eq_true rfl) rfl ?_
 intro c0 cs hc
 refine WD.seq ?_
 refine WD.region ?_
 refine WDG.recover (v := .nilIface) (cs' := { c0 with mode := .returning } :: cs) rfl rfl rfl qD rfl rfl (by cases c0; cases hc; rfl) ?_
 refine WDG.yl rfl rfl rfl qD (pureV_ok tab_ok rfl (fun _ => rfl)) ?_
 refine WDG.nil ?_
 refine WD.plain ?_
 refine zQ (zQ (zG (zR 1 rfl ?_)))
 refine WG.y rfl rfl qD (Yl.eqNilI nilI20 rfl rfl rfl (fun _ => rfl) (by first | exact .inl ⟨rfl, rfl⟩ | exact .inr ⟨⟨_, _, rfl⟩, rfl⟩)) ?_
 refine zN (zU ?_)
 refine W.cond rfl (fun hc0 => ?_) (fun hc0 => ?_)
 ·try simp only [zk] at hc0
  refine zT (wt ?_)
  refine WE.retDR rfl (RLe.refl _) ?_
  exact ⟨rfl, rfl, rfl⟩
 ·try simp only [zk] at hc0
  (simp at hc0; done)

set_option maxHeartbeats 1000000 in
theorem ParseD_panic {R : Ro} {x2 x3 x4 : Nat} {q0 q1 q2 : Value} {q3 q4 : Int} {p : Nat} {e : Int} (w0 : World) (E : List Ent) : FnDR Tryz.prog 102 [.pointer (some ⟨x2, 0, none⟩), .pointer (some ⟨x3, 0, none⟩), .pointer (some ⟨x4, 0, none⟩)] w0 R (.blk x4 [.int .i64 q4] :: .blk x3 [.int .i64 q3] :: .blk x2 [q0, q1, q2] :: E) (.panicking [{ v := failV p e, recovered := false }]) (fun R' E' u' => settle u' = .returning ∧ R = R' ∧ E' = .blk x4 [.int .i64 e] :: .blk x3 [.int .i64 (p : Int)] :: .blk x2 [.slice none 0 0, .int .i64 0, .int .i64 0] :: E) := by
 refine FnDR.enter (n := 22) Tryz.func102 rfl rfl (Nat.le_of_ble_eq_true rfl) rfl ?_
 intro c0 cs hc
 refine WD.seq ?_
 refine WD.region ?_
 refine WDG.recover (v := failV p e) (cs' := { c0 with mode := .panicking [{ v := failV p e, recovered := true }] } :: cs) rfl rfl rfl qD rfl rfl (by cases c0; cases hc; rfl) ?_
 refine WDG.yl rfl rfl rfl qD (pureV_ok tab_ok rfl (fun _ => rfl)) ?_
 refine WDG.nil ?_
 refine WD.plain ?_
 refine zQ (zQ (zG (zR 1 rfl ?_)))
 refine WG.y rfl rfl qD (Yl.eqNilI nilI20 rfl rfl rfl (fun _ => rfl) (by first | exact .inl ⟨rfl, rfl⟩ | exact .inr ⟨⟨_, _, rfl⟩, rfl⟩)) ?_
 refine zN (zU ?_)
 refine W.cond rfl (fun hc0 => ?_) (fun hc0 => ?_)
 ·try simp only [zk] at hc0
  (simp at hc0; done)
 ·try simp only [zk] at hc0
  refine zK (zU (zQ (zG (zR 1 rfl ?_))))
  refine WG.y rfl rfl qD (Yl.assert (v := .tuple #[.agg #[.int .i64 (p : Int), .int .i64 e], .bool true]) rfl rfl (fun w => by kernel_rfl) (fun _ => rfl)) ?_
  refine zR 3 rfl ?_
  refine zA fun b4 => ?_
  refine zE 0 ?_
  refine zR 1 rfl (zN (zU (zQ (zQ (zG (zR 2 rfl (zN (zU ?_))))))))
  refine W.cond rfl (fun hc1 => ?_) (fun hc1 => ?_)
  ·try simp only [zk] at hc1
   (simp at hc1; done)
  ·try simp only [zk] at hc1
   refine zK (zU ?_)
   refine W.regionH _ (ES := [.blk b4 [.int .i64 (p : Int), .int .i64 e]]) mixed ?_
   -- build
   refine WA.take 0 rfl qK qK qK rfl rfl qD (Yl.build (parts := []) tab_ok rfl rfl rfl rfl (fun _ => rfl) rfl rfl) qS qR ?_
   refine tP 1 ?_
   refine tL 2 (Rd.add (Rd.blk 0 rfl) _) ?_
   refine tP 3 ?_
   refine tL 4 (Rd.add (Rd.blk 0 rfl) _) ?_
   refine zCE 5 3 ?_
   refine zCE 6 2 ?_
   refine zCE 7 1 ?_
   refine WA.done qK ?_
   refine WE.subE (E' := .blk x4 [.int .i64 e] :: .blk x3 [.int .i64 (p : Int)] :: .blk x2 [.slice none 0 0, .int .i64 0, .int .i64 0] :: E) qS ?_
   refine WE.endDR rfl (RLe.refl _) ?_
   exact ⟨rfl, rfl, rfl⟩

set_option maxHeartbeats 1000000 in
theorem Parse03_C {R : Ro} {s : List UInt8} (hG : GlobE R) (hs : s.length ≤ 1000000) (w0 : World) (E : List Ent) : K.Fn Tryz.prog 92 [.string (str s)] w0 R E (fun v R' E' => ∃ (f : Option Addr) (fc : Nat), v = .tuple #[.agg #[.slice f (parseR s).1.vals.length fc, .int .i64 (parseR s).1.per, .int .i64 (parseR s).1.inc], .int .i64 ((parseR s).2.1 : Int), .int .i64 (parseR s).2.2] ∧ RS R' 1 encI f (parseR s).1.vals ∧ (parseR s).1.vals.length ≤ fc ∧ E.Sublist E') := by
 have hss := str_size s
 refine Fn.enterD (n := 24) Tryz.func92 rfl rfl (Nat.le_of_ble_eq_true rfl) rfl ?_
 refine zQ (zG ?_)
 refine zA fun b2 => ?_
 refine zA fun b3 => ?_
 refine zA fun b4 => ?_
 refine zN (zU (zQ (zQ (zG (zR 3 rfl (zN (zU ?_)))))))
 refine W.condD rfl (fun hc0 => ?_) (fun hc0 => ?_)
 ·try dsimp only at hc0
  have hp : parseR s = (zcv, 0, 3) := if_pos (by omega)
  refine zQ (zG ?_)
  -- build
  refine WG.y rfl rfl qD (Yl.build (parts := []) tab_ok rfl rfl rfl rfl (fun _ => rfl) rfl rfl) ?_
  refine zE 2 ?_
  refine zE 1 ?_
  refine zE 0 ?_
  refine zN (zU (zT (wt ?_)))
  refine WE.retD0 tab_ok [_, _, _] rfl ⟨⟨_, _, _, rfl, rfl, rfl, Rd.blk 2 rfl, rfl⟩, ⟨_, _, _, rfl, rfl, rfl, Rd.blk 1 rfl, rfl⟩, ⟨_, _, _, rfl, rfl, rfl, Rd.blk 0 rfl, rfl⟩, trivial⟩ (RLe.refl _) ?_
  exact ⟨none, 0, by rw [hp]; rfl, by rw [hp]; exact rs_nil, by rw [hp]; exact Nat.le_refl 0, qS⟩
 ·try dsimp only at hc0
  refine zK (zU (zQ (zG (zR 1 rfl ?_))))
  refine WL.defer rfl rfl rfl rfl rfl rfl rfl ?_
  refine zN (zU (zQ (zG (zR 1 rfl ?_))))
  refine WL.call en88 rfl rfl qD (CallOp.mkT rfl rfl rfl rfl) (Split_C hG (s := s) (d := 32) qO w0 _) ?_
  rintro _ R1 _ hR1 ⟨a12, rfl, hws, rfl⟩
  rw [← spl_eq] at hws ⊢
  refine zR 2 rfl ?_
  -- build
  refine WG.y rfl rfl qD (Yl.build (parts := [(0, .tmp 12), (3, .tmp 14)]) tab_ok rfl rfl rfl rfl (fun _ => rfl) rfl rfl) ?_
  refine zO fun b16 => ?_
  refine zR 1 rfl (zN (zU (zQ (zG (zR 1 rfl ?_)))))
  refine WL.callX en103 rfl rfl (by decide) (CallOp.mkT rfl rfl rfl rfl) (CurveR_C w0 hws (by omega) (hG.mono hR1) (by rw [remL_spl]; omega) _) ?_ ?_
  ·
   rintro _ R2 E2 hR2 ⟨p, e, rfl, hpg, hne, hsub⟩
   rw [hss] at hpg
   have hp : parseR s = (zcv, p, e) := by unfold parseR; rw [if_neg (by omega), hpg, if_pos hne]
   refine WE.then_panic ?_
   refine WE.subE (E' := .blk b4 [.int .i64 0] :: .blk b3 [.int .i64 0] :: .blk b2 [.slice none 0 0, .int .i64 0, .int .i64 0] :: E) hsub ?_
   refine WE.panicD tab_ok rfl rfl en102 ?_
   refine FnDR.mono (ParseD_panic w0 _) ?_
   rintro _ _ _ - ⟨hse, rfl, rfl⟩
   refine ⟨hse, hR1.trans hR2, [_, _, _], ⟨⟨_, _, _, rfl, rfl, rfl, Rd.blk 2 rfl, rfl⟩, ⟨_, _, _, rfl, rfl, rfl, Rd.blk 1 rfl, rfl⟩, ⟨_, _, _, rfl, rfl, rfl, Rd.blk 0 rfl, rfl⟩, trivial⟩, ⟨none, 0, by rw [hp]; rfl, by rw [hp]; exact rs_nil, by rw [hp]; exact Nat.le_refl 0, qS⟩⟩
  rintro _ R2 E2 hR2 ⟨c, f, fc, rfl, hf, hfc, hcl, hpg, hsub⟩
  rw [hss] at hpg
  refine WL.subE hsub ?_
  refine zE 2 ?_
  refine zN (zU (zQ (zQ (zG ?_))))
  refine yL (Rd.blk 2 rfl) ?_
  refine WG.callV en66 rfl rfl qD (CallOp.mk' rfl rfl rfl rfl) (fun _ => rfl) (fun hg => CValidG_V (fc := fc) (c := c) hf qO) ?_
  refine zR 1 rfl (zN (zU ?_))
  refine W.cond rfl (fun hc1 => ?_) (fun hc1 => ?_)
  ·try simp only [zk] at hc1
   have hv : validB c = false := by simpa using hc1
   have hp : parseR s = (zcv, 0, 1) := by unfold parseR; rw [if_neg (by omega), hpg, if_neg (fun h => h rfl), if_neg (by rw [hv]; decide)]
   refine zQ (zG ?_)
   -- build
   refine WG.y rfl rfl qD (Yl.build (parts := []) tab_ok rfl rfl rfl rfl (fun _ => rfl) rfl rfl) ?_
   refine zE 2 ?_
   refine zE 1 ?_
   refine zE 0 ?_
   refine zN (zU (zT (wt ?_)))
   refine WE.retD tab_ok rfl rfl en102 ?_
   refine FnDR.mono (ParseD_ret w0 _) ?_
   rintro _ _ _ - ⟨hse, rfl, rfl⟩
   refine ⟨hse, hR1.trans hR2, [_, _, _], ⟨⟨_, _, _, rfl, rfl, rfl, Rd.blk 2 rfl, rfl⟩, ⟨_, _, _, rfl, rfl, rfl, Rd.blk 1 rfl, rfl⟩, ⟨_, _, _, rfl, rfl, rfl, Rd.blk 0 rfl, rfl⟩, trivial⟩, ⟨none, 0, by rw [hp]; rfl, by rw [hp]; exact rs_nil, by rw [hp]; exact Nat.le_refl 0, qS⟩⟩
  ·try simp only [zk] at hc1
   have hv : validB c = true := by simpa using hc1
   have hp : parseR s = (c, 0, 0) := by unfold parseR; rw [if_neg (by omega), hpg, if_neg (fun h => h rfl), if_pos hv]
   refine zK (zU (zQ (zG ?_)))
   refine yL (Rd.blk 2 rfl) ?_
   refine zE 2 ?_
   refine zE 1 ?_
   refine zE 0 ?_
   refine zN (zU (zT ?_))
   refine WE.retD tab_ok rfl rfl en102 ?_
   refine FnDR.mono (ParseD_ret w0 _) ?_
   rintro _ _ _ - ⟨hse, rfl, rfl⟩
   refine ⟨hse, hR1.trans hR2, [_, _, _], ⟨⟨_, _, _, rfl, rfl, rfl, Rd.blk 2 rfl, rfl⟩, ⟨_, _, _, rfl, rfl, rfl, Rd.blk 1 rfl, rfl⟩, ⟨_, _, _, rfl, rfl, rfl, Rd.blk 0 rfl, rfl⟩, trivial⟩, ⟨f, fc, by rw [hp]; rfl, by rw [hp]; exact hf, by rw [hp]; exact hfc, qS⟩⟩



theorem SplitN7_C {R : Ro} (hG : GlobE R) {s : List UInt8} (hs : s.length ≤ 1000000) (w0 : World) (E : List Ent) : K.Fn Tryz.prog 91 [.string (str s), .string (str [32]), .int .i64 7] w0 R E (fun v R' E' => ∃ (a : Addr) (c : Nat), v = .slice (some a) (w7 s).length c ∧ RS R' 1 encT (some a) (w7 s) ∧ E = E') := by
 obtain ⟨m, rest, hm0⟩ := hG.m
 intro w hm
 have hsz := str_size s
 have hls : (str s).data.toList = s := by simp [str]
 have hld : (str [32]).data.toList = [32] := by simp [str]
 have h2 : Lib.splitB (str [32]) 0 (min 7 ((str s).size + 1) - 1) (str s) = (w7 s).map str := by
  have h1 := Lib.splitB_data (str [32]) 0 (min 7 ((str s).size + 1) - 1) (str s)
  have h3 : (Lib.splitB (str [32]) 0 (min 7 ((str s).size + 1) - 1) (str s)) = ((Lib.splitB (str [32]) 0 (min 7 ((str s).size + 1) - 1) (str s)).map (·.data.toList)).map str := by
   rw [List.map_map]
   refine (List.map_id'' (fun x => ?_) _).symm
   exact (str_of x).symm
  rw [h3, h1, hls, hld, hsz, splitK_w7]
 have hw7 := (w7_len s).1
 have hwl : (w7 s).length ≤ min 7 ((str s).size + 1) := by
  have h4 := Lib.splitB_length_le (str [32]) 0 (min 7 ((str s).size + 1) - 1) (str s)
  rw [h2, List.length_map] at h4
  omega
 have hfl : ∀ l : List (List UInt8), (l.map encT).flatten.length = l.length ∧ (l.map str).map Value.string = (l.map encT).flatten := by
  intro l
  induction l with
  | nil => exact ⟨rfl, rfl⟩
  | cons x l ih => exact ⟨by simp only [List.map_cons, List.flatten_cons, List.length_append, ih.1, List.length_cons]; show 1 + _ = _; omega, by simp only [List.map_cons, List.flatten_cons, ih.2]; rfl⟩
 refine (sh_strings_SplitN (str s) (str [32]) 7 m w (by omega) (hm.cell hm0) (by rw [str_size]; exact Nat.le_refl 1) (by decide) (by decide)).mono ?_
 rintro e w' ⟨rfl, rfl⟩
 rw [h2, List.length_map]
 have hcs := Lib.cellsOf_size (done := (w7 s).map str) (N := min 7 ((str s).size + 1)) (by rw [List.length_map]; exact hwl)
 have hct : (Lib.cellsOf ((w7 s).map str) (min 7 ((str s).size + 1))).toList.take (w7 s).length = ((w7 s).map encT).flatten := by
  unfold Lib.cellsOf
  rw [(hfl (w7 s)).2]
  exact List.take_left' (hfl (w7 s)).1
 generalize Lib.cellsOf ((w7 s).map str) (min 7 ((str s).size + 1)) = cs at hcs hct ⊢
 have hmn : Mem w0 (w.alloc (.cells cs 9)) R (.sl 9 1 (some ⟨w.heap.size, 0, none⟩) (min 7 ((str s).size + 1)) ((w7 s).map encT) :: E) := by
  refine hm.new (e' := .sl 9 1 (some ⟨w.heap.size, 0, none⟩) (min 7 ((str s).size + 1)) ((w7 s).map encT)) ⟨rfl, rfl, rfl, by simp, fun j hj _ => heap_alloc_old w _ hj⟩ ?_ (fun b hb => by simp [Ent.block] at hb; omega)
  refine ⟨fun r hr => by obtain ⟨c, _, rfl⟩ := List.mem_map.1 hr; rfl, Nat.one_pos, ?_, ?_⟩
  ·rw [(hfl _).1, List.length_map]; omega
  ·right
   refine ⟨w.heap.size, _, _, by rw [List.length_map], hm.below.size, heap_alloc_new w _, by rw [List.length_map]; exact hwl, by unfold maxLen; omega, by rw [hcs]; omega, ?_⟩
   rw [List.length_map, Nat.mul_one]; exact hct
 obtain ⟨R2, k1, k2, k3⟩ := hmn.freeze (i := 0) (enc := encT) (xs := w7 s) rfl
 exact ⟨_, R2, E, rfl, k1, k3, ⟨w.heap.size, 0, none⟩, _, rfl, k2, rfl⟩



set_option maxHeartbeats 4000000 in
theorem Flow_C {R : Ro} (hG : GlobE R) {s : List UInt8} (hs : s.length ≤ 1000000) {na : Option Addr} {nc m : Nat} {ns : List (List UInt8)} {E : List Ent} (hN : LsT R E na ns) (hm : ns.length = m) (hnl : ∀ x ∈ ns, x.length ≤ 9223372036854775807) (w0 : World) : K.Fn Tryz.prog 76 [.slice na m nc, .string (str s)] w0 R E (fun v R' E' => ∃ x : FlM, v = .tuple #[.agg #[.string (str x.f.name), .slice x.a1 x.f.route.length x.c1, .int .i64 x.f.cls, .int .i64 x.f.lo, .int .i64 x.f.hi, .slice x.a2 x.f.cv.vals.length x.c2, .int .i64 x.f.cv.per, .int .i64 x.f.cv.inc], .bool (flO ns s)] ∧ OkFl R' x ∧ x.f.route.length ≤ x.c1 ∧ x.f.cv.vals.length ≤ x.c2 ∧ (flO ns s = true → x.f = flV ns s) ∧ E' = E) := by
 subst hm
 have hnlen := hN.len
 refine fE 117 Tryz.func76 ?_
 refine zQ (zG ?_)
 refine zA fun b4 => ?_
 refine zR 1 rfl (zN (zU (zQ (zG (zR 1 rfl ?_)))))
 refine WL.call en91 rfl rfl qD (CallOp.mkT rfl rfl rfl rfl) (SplitN7_C hG hs w0 _) ?_
 rintro _ R1 _ hRR ⟨a9, c9, rfl, hws, rfl⟩
 have hG := hG.mono hRR
 have hwl := (w7_len s).1
 have hwm := w7_mem s
 have hflO : flO ns s = (decide ((w7 s).length = 7) && (decide (nth (w7 s) 0 = wFlow) && (wordB (nth (w7 s) 1) && ((num9 (nth (w7 s) 2) && (num9 (nth (w7 s) 3) && num9 (nth (w7 s) 4))) && (wayO ns (nth (w7 s) 5) && decide ((parseR (nth (w7 s) 6)).2.2 = 0)))))) := rfl
 have hflV : flV ns s = ⟨nth (w7 s) 1, wayV ns (nth (w7 s) 5), num9V (nth (w7 s) 2), num9V (nth (w7 s) 3), num9V (nth (w7 s) 4), (parseR (nth (w7 s) 6)).1⟩ := rfl
 generalize w7 s = ws at hws hwl hwm hflO hflV ⊢
 have hwa : ∀ i, (nth ws i).length ≤ s.length := fun i => by
  by_cases h : i < ws.length
  ·exact hwm _ (nth_mem h)
  ·rw [nth_out (by omega)]; exact Nat.zero_le _
 refine zR 1 rfl (zN (zU (zQ (zQ (zG (zR 4 rfl ?_))))))
 refine yP ?_
 refine WG.y rfl rfl (by decide) (Yl.indexN tab_ok rfl rfl rfl rfl rfl rfl qE (by intro hg; (try simp only [zk] at hg); (try dsimp only) <;> omega) (by intro hg; (try simp only [zk] at hg); first | exact (hN.sub hRR qS).has | exact qI)) ?_
 refine' WG.y rfl rfl qD (Yl.loadG tab_ok rfl rfl rfl qE ?r1 rfl ?h1 ?g1) ?_
 case r1 => ((apply RS.rdC; assumption))
 case h1 => rfl
 case g1 => (intro hg; (try simp only [zk] at hg); (try dsimp only); omega)
 refine WG.y rfl rfl qD (Yl.neS rfl rfl rfl qE) ?_
 refine yO ?_
 refine zR 1 rfl ?_
 refine yP ?_
 refine WG.y rfl rfl (by decide) (Yl.indexN tab_ok rfl rfl rfl rfl rfl rfl qE (by intro hg; (try simp only [zk] at hg); (try dsimp only) <;> omega) (by intro hg; (try simp only [zk] at hg); first | exact (hN.sub hRR qS).has | exact qI)) ?_
 refine' WG.y rfl rfl qD (Yl.loadG tab_ok rfl rfl rfl qE ?r2 rfl ?h2 ?g2) ?_
 case r2 => ((apply RS.rdC; assumption))
 case h2 => rfl
 case g2 => (intro hg; (try simp only [zk] at hg); (try dsimp only); omega)
 refine WG.callV en41 rfl rfl qD (CallOp.mk' rfl rfl rfl rfl) qE (fun hg => Word_V (s := nth ws 1) (by have := hwa 1; omega)) ?_
 refine yP ?_
 refine yO ?_
 refine zN (zU ?_)
 refine W.cond rfl (fun hc0 => ?_) (fun hc0 => ?_)
 ·try simp only [zk] at hc0
  have hno : flO ns s = false := by
   rw [hflO, Bool.and_eq_false_iff, Bool.and_eq_false_iff, Bool.and_eq_false_iff, decide_eq_false_iff_not, decide_eq_false_iff_not]
   rcases hc0 with (h | h) | h
   ·left; omega
   ·right; left; intro e; exact h (by rw [e]; rfl)
   ·right; right; left; simpa using h
  refine zQ (zG ?_)
  -- build
  refine WG.y rfl rfl qD (Yl.build (parts := []) tab_ok rfl rfl rfl rfl (fun _ => rfl) rfl rfl) ?_
  refine zE 0 ?_
  refine zR 1 rfl (zN (zU (zT (wt ?_))))
  refine WE.retFS (E' := E) qS tab_ok [_, _] rfl ⟨⟨_, _, _, rfl, rfl, rfl, qB, rfl⟩, rfl, trivial⟩ (by first | exact RLe.refl _ | assumption | exact hRR | exact hRR.trans hR5) ?_
  exact ⟨(⟨none, 0, none, 0, ⟨[], [], 0, 0, 0, zcv⟩⟩ : FlM), by rw [hno]; rfl, ⟨rs_nil, rs_nil, by decide, by decide⟩, Nat.le_refl 0, Nat.le_refl 0, (fun h => by rw [hno] at h; cases h), rfl⟩
 ·try simp only [zk] at hc0
  obtain ⟨⟨h7, hw0⟩, hw1⟩ := hc0
  have h7n : ws.length = 7 := by omega
  rw [decide_eq_true h7n, decide_eq_true (str_inj (b := wFlow) hw0), hw1, Bool.true_and, Bool.true_and, Bool.true_and] at hflO
  refine zK (zU (zQ (zG (zR 1 rfl ?_))))
  refine WG.y rfl rfl qD (Yl.indexN tab_ok rfl rfl rfl rfl rfl rfl (fun _ => rfl) qN (by intro _; first | exact (hN.sub hRR qS).has | exact qI)) ?_
  refine yR ?_
  -- build
  refine WG.y rfl rfl qD (Yl.build (parts := [(0, .tmp 39)]) tab_ok rfl rfl rfl rfl (fun _ => rfl) rfl rfl) ?_
  refine zA fun b7 => ?_
  refine zE 0 ?_
  refine zN (zU (zQ (zQ (zG (zR 5 rfl ?_)))))
  refine WL.ef rfl rfl qD (Ef.buildSliceD (enc := encPtr) (parts := [.tmp 41, .tmp 43, .tmp 45]) [some ⟨b7, 2, none⟩, some ⟨b7, 3, none⟩, some ⟨b7, 4, none⟩] tab_ok rfl rfl rfl rfl rfl rfl rfl rfl qD qD (fun a46 => ?_))
  refine WL.freeze (enc := encPtr) (xs := [some ⟨b7, 2, none⟩, some ⟨b7, 3, none⟩, some ⟨b7, 4, none⟩]) 0 rfl ?_
  intro R3 hR3 hpt
  have hG := hG.mono hR3
  have hws := hws.mono hR3
  have hRR := hRR.trans hR3
  refine zR 2 rfl (zN (zU (zB ?_)))
  refine W.loopK (β := Nat × Int × Int × Int) (fun (i, A, B, C) => i ≤ 3 ∧ (0 < i → num9 (nth ws 2) = true ∧ A = (num9V (nth ws 2) : Int)) ∧ (1 < i → num9 (nth ws 3) = true ∧ B = (num9V (nth ws 3) : Int)) ∧ (2 < i → num9 (nth ws 4) = true ∧ C = (num9V (nth ws 4) : Int))) (fun (i, A, B, C) => [(48, true, .int .i64 (i : Int))]) [0, 4, 6, 7, 46, 47] [_, _, _, _, _, _] [] _ rfl (fun (i, A, B, C) => [(0, .blk b7 [.string (str (nth ws 1)), .slice none 0 0, .int .i64 A, .int .i64 B, .int .i64 C, .slice none 0 0, .int .i64 0, .int .i64 0])]) (fun (i, A, B, C) => 3 - i) ((0, 0, 0, 0)) (⟨Nat.zero_le _, fun h => absurd h qD, fun h => absurd h qD, fun h => absurd h qD⟩) ⟨rfl, rfl, rfl, rfl, rfl, rfl, rfl, rfl⟩ qS ?_
  intro zz hst
  obtain ⟨i, A, B, C⟩ := zz
  dsimp only [zipE, setAll, List.cons_append, List.nil_append, List.set_cons_zero, List.set_cons_succ] at hst ⊢
  obtain ⟨hi, hcA, hcB, hcC⟩ := hst
  refine zQ (zG (zR 1 rfl (zN (zU (zQ ?_)))))
  refine W.condD rfl (fun hc1 => ?_) (fun hc1 => ?_)
  ·try dsimp only at hc1
   have hi3 : i < 3 := by omega
   refine zK (zU (zQ (zB (zQ (zG (zR 1 rfl ?_))))))
   refine WG.y rfl rfl qD (Yl.indexN tab_ok rfl rfl rfl rfl rfl rfl (fun _ => rfl) qN (by intro _; first | exact (hN.sub hRR qS).has | exact qI)) ?_
   refine' WG.y rfl rfl qD (Yl.load1 tab_ok rfl rfl rfl (fun _ => rfl) ?r4 rfl ?h4) ?_
   case r4 => exact RS.rdD hpt hi3
   case h4 => rfl
   refine zR 2 rfl (zN (zU (zQ (zG (zR 2 rfl ?_)))))
   refine yA ?_
   rw [show (2 : Int) + (i : Int) = ((2 + i : Nat) : Int) by omega]
   refine WG.y rfl rfl qD (Yl.indexN tab_ok rfl rfl rfl rfl rfl rfl (fun _ => rfl) qN (by intro _; first | exact (hN.sub hRR qS).has | exact qI)) ?_
   refine yR ?_
   refine WG.callV en89 rfl rfl qD (CallOp.mk' rfl rfl rfl rfl) (fun _ => rfl) (fun hg => Number9_V (w := nth ws (2 + i)) (by have := hwa (2 + i); omega)) ?_
   refine zR 5 rfl (zN (zU (zQ (zQ (zG (zR 2 rfl (zN (zU ?_))))))))
   refine W.cond rfl (fun hc2 => ?_) (fun hc2 => ?_)
   ·try simp only [zk] at hc2
    have hn9 : num9 (nth ws (2 + i)) = false := by simpa using hc2
    have hno : flO ns s = false := by
     rw [hflO]
     rcases (show i = 0 ∨ i = 1 ∨ i = 2 by omega) with rfl | rfl | rfl
     ·rw [hn9]; rfl
     ·rw [hn9, Bool.false_and, Bool.and_false]; rfl
     ·rw [hn9, Bool.and_false, Bool.and_false]; rfl
    refine zQ (zG ?_)
    -- build
    refine WG.y rfl rfl qD (Yl.build (parts := []) tab_ok rfl rfl rfl rfl (fun _ => rfl) rfl rfl) ?_
    refine zE 1 ?_
    refine zR 1 rfl (zN (zU (zT (wt (wb (wt (wt (wb (wt ?_)))))))))
    refine WE.retFS (E' := E) qS tab_ok [_, _] rfl ⟨⟨_, _, _, rfl, rfl, rfl, qB, rfl⟩, rfl, trivial⟩ (by first | exact RLe.refl _ | assumption | exact hRR | exact hRR.trans hR5) ?_
    exact ⟨(⟨none, 0, none, 0, ⟨[], [], 0, 0, 0, zcv⟩⟩ : FlM), by rw [hno]; rfl, ⟨rs_nil, rs_nil, by decide, by decide⟩, Nat.le_refl 0, Nat.le_refl 0, (fun h => by rw [hno] at h; cases h), rfl⟩
   ·try simp only [zk] at hc2
    have hn9 : num9 (nth ws (2 + i)) = true := by simpa using hc2
    refine zK (zU ?_)
    rcases (show i = 0 ∨ i = 1 ∨ i = 2 by omega) with rfl | rfl | rfl
    ·
     
     refine zG (zR 3 rfl ?_)
     refine WL.efN rfl rfl (Ef.store (off := 2) 0 tab_ok rfl rfl rfl rfl rfl rfl rfl rfl ?_)
     refine zN (zL (zU (zG ?_)))
     refine yA ?_
     refine zR 1 rfl (zN ?_)
     refine WE.again ((1, (num9V (nth ws 2) : Int), B, C)) (⟨by dsimp only; omega, fun _ => ⟨hn9, rfl⟩, fun h => absurd h (by dsimp only; omega), fun h => absurd h (by dsimp only; omega)⟩) (by (try dsimp only); omega) ⟨rfl, rfl, rfl, rfl, rfl, rfl, rfl, rfl⟩ (RLe.refl _) qS
    ·
     
     refine zG (zR 3 rfl ?_)
     refine WL.efN rfl rfl (Ef.store (off := 3) 0 tab_ok rfl rfl rfl rfl rfl rfl rfl rfl ?_)
     refine zN (zL (zU (zG ?_)))
     refine yA ?_
     refine zR 1 rfl (zN ?_)
     refine WE.again ((2, A, (num9V (nth ws 3) : Int), C)) (⟨by dsimp only; omega, fun _ => hcA qD, fun _ => ⟨hn9, rfl⟩, fun h => absurd h (by dsimp only; omega)⟩) (by (try dsimp only); omega) ⟨rfl, rfl, rfl, rfl, rfl, rfl, rfl, rfl⟩ (RLe.refl _) qS
    ·
     
     refine zG (zR 3 rfl ?_)
     refine WL.efN rfl rfl (Ef.store (off := 4) 0 tab_ok rfl rfl rfl rfl rfl rfl rfl rfl ?_)
     refine zN (zL (zU (zG ?_)))
     refine yA ?_
     refine zR 1 rfl (zN ?_)
     refine WE.again ((3, A, B, (num9V (nth ws 4) : Int))) (⟨by dsimp only; omega, fun _ => hcA qD, fun _ => hcB qD, fun _ => ⟨hn9, rfl⟩⟩) (by (try dsimp only); omega) ⟨rfl, rfl, rfl, rfl, rfl, rfl, rfl, rfl⟩ (RLe.refl _) qS
  ·try dsimp only at hc1
   obtain rfl : i = 3 := by omega
   obtain ⟨h2, hA⟩ := hcA (by decide)
   obtain ⟨h3, hB⟩ := hcB (by decide)
   obtain ⟨h4, hC⟩ := hcC (by decide)
   rw [h2, h3, h4, Bool.true_and, Bool.true_and, Bool.true_and] at hflO
   refine zX ?_
   refine wx (wx (zY (zU (zQ ?_))))
   refine W.nil 3 1 qD ?_
   refine zQ (zG (zR 1 rfl ?_))
   refine WG.y rfl rfl qD (Yl.indexN tab_ok rfl rfl rfl rfl rfl rfl (fun _ => rfl) qN (by intro _; first | exact (hN.sub hRR qS).has | exact qI)) ?_
   refine yR ?_
   refine WL.call en88 rfl rfl qD (CallOp.mkT rfl rfl rfl rfl) (Split_C hG (s := nth ws 5) (d := 62) (by have := hwa 5; omega) w0 _) ?_
   rintro _ R2 _ hR2 ⟨a72, rfl, hpz, rfl⟩
   have hRR := hRR.trans hR2
   have hws := hws.mono hR2
   have hpt := hpt.mono hR2
   have hG := hG.mono hR2
   have hpl := splC_len 62 (nth ws 5)
   have hpm := splC_mem 62 (nth ws 5)
   have hwo : wayO ns (nth ws 5) = (splC 62 (nth ws 5)).all (fun x => decide (x ∈ ns)) := rfl
   have hwv : wayV ns (nth ws 5) = (splC 62 (nth ws 5)).map (fun x => (idxN ns x : Int)) := rfl
   generalize splC 62 (nth ws 5) = pz at hpz hpl hpm hwo hwv ⊢
   refine zR 2 rfl (zN (zU (zB ?_)))
   refine W.loopK (β := Nat × List Int × Option Addr × Nat) (fun (k, rt, a1, c1) => k ≤ pz.length ∧ (pz.take k).all (fun x => decide (x ∈ ns)) = true ∧ rt = (pz.take k).map (fun x => (idxN ns x : Int))) (fun (k, rt, a1, c1) => [(74, true, .int .i64 (k : Int))]) [0, 4, 6, 7, 72, 73] [_, _, _, _, _, _] [] _ rfl (fun (k, rt, a1, c1) => [(0, .sl 3 1 a1 c1 (rt.map encI)), (1, .blk b7 [.string (str (nth ws 1)), .slice a1 rt.length c1, .int .i64 A, .int .i64 B, .int .i64 C, .slice none 0 0, .int .i64 0, .int .i64 0])]) (fun (k, rt, a1, c1) => pz.length - k) ((0, [], none, 0)) (⟨Nat.zero_le _, rfl, rfl⟩) ⟨rfl, rfl, rfl, rfl, rfl, rfl, rfl, rfl⟩ qS ?_
   intro zz hst
   obtain ⟨k, rt, a1, c1⟩ := zz
   dsimp only [zipE, setAll, List.cons_append, List.nil_append, List.set_cons_zero, List.set_cons_succ] at hst ⊢
   obtain ⟨hk, hka, hrt⟩ := hst
   have hrl : rt.length = k := by rw [hrt, List.length_map, List.length_take]; omega
   refine zQ (zG (zR 1 rfl (zN (zU (zQ ?_)))))
   refine W.condD rfl (fun hc3 => ?_) (fun hc3 => ?_)
   ·try dsimp only at hc3
    have h5w := hwa 5
    have hkl : k < pz.length := by omega
    have hpk := hpm _ (nth_mem hkl)
    refine zK (zU (zQ (zB (zQ (zG ?_)))))
    refine WG.y rfl rfl qD (Yl.indexN tab_ok rfl rfl rfl rfl rfl rfl (fun _ => rfl) qN (by intro _; first | exact (hN.sub hRR qS).has | exact qI)) ?_
    refine' WG.y rfl rfl qD (Yl.load1 tab_ok rfl rfl rfl (fun _ => rfl) ?r7 rfl ?h7) ?_
    case r7 => exact RS.rdD hpz hkl
    case h7 => rfl
    refine zR 1 rfl (zN (zU (zQ (zG (zR 1 rfl (zN (zU (zQ (zB ?_)))))))))
    refine W.loopK (β := Nat) (fun j => j ≤ ns.length ∧ ∀ q, q < j → nth ns q ≠ nth pz k) (fun j => [(14, true, .int .i64 (j : Int))]) [0, 4, 6, 7, 13, 72, 73, 74] [_, _, _, _, _, _, _, _] [] _ rfl (fun j => []) (fun j => ns.length - j) (0) (⟨Nat.zero_le _, fun q hq => by omega⟩) ⟨rfl, rfl, rfl, rfl, rfl, rfl, rfl, rfl, rfl, rfl⟩ qS ?_
    intro j hst
    dsimp only [zipE, setAll, List.cons_append, List.nil_append, List.set_cons_zero, List.set_cons_succ] at hst ⊢
    obtain ⟨hj, hjn⟩ := hst
    refine zQ (zQ (zG (zR 5 rfl ?_)))
    refine yP ?_
    refine yP ?_
    refine WG.y rfl rfl (by decide) (Yl.indexN tab_ok rfl rfl rfl rfl rfl rfl qE (by intro hg; (try simp only [zk] at hg); (try dsimp only) <;> omega) (by intro hg; (try simp only [zk] at hg); first | exact (hN.sub hRR qS).has | exact qI)) ?_
    refine' WG.y rfl rfl qD (Yl.loadG tab_ok rfl rfl rfl qE ?r8 rfl ?h8 ?g8) ?_
    case r8 => exact fun hg => (hN.sub hRR qS).rd j (by (try simp only [decide_eq_true_eq, Bool.and_eq_true] at hg); omega)
    case h8 => rfl
    case g8 => (intro hg; (try simp only [zk] at hg); (try dsimp only); omega)
    refine yP ?_
    refine WG.y rfl rfl qD (Yl.neS rfl rfl rfl qE) ?_
    refine yN ?_
    refine zN (zU ?_)
    refine W.cond rfl (fun hc4 => ?_) (fun hc4 => ?_)
    ·try simp only [zk] at hc4
     obtain ⟨hc41, hc42⟩ := hc4
     have hjl : j < ns.length := by omega
     have hne : nth ns j ≠ nth pz k := fun e => by first | exact hc42 (by rw [e]) | (rw [e] at hc42; simp at hc42)
     refine zK (zU (zB (zG (zR 1 rfl ?_))))
     refine yA ?_
     refine zR 1 rfl (zN (zL ?_))
     refine WE.again (j + 1) (⟨by omega, fun q hq => by
      by_cases e : q = j
      ·subst e; exact hne
      ·exact hjn q (by omega)⟩) (by (try dsimp only); omega) ⟨rfl, rfl, rfl, rfl, rfl, rfl, rfl, rfl, rfl, rfl⟩ (RLe.refl _) qS
    ·try simp only [zk] at hc4
     refine zX ?_
     refine wx (wx (zY (zU (zQ (zQ (zG (zR 4 rfl (zN (zU ?_)))))))))
     refine W.condE rfl (fun hc5 => ?_) (fun hc5 => ?_)
     ·try dsimp only at hc5
      have hno : flO ns s = false := by
       obtain rfl : j = ns.length := by omega
       rw [hflO, hwo, show pz.all (fun x => decide (x ∈ ns)) = false from List.all_eq_false.2 ⟨_, nth_mem hkl, by rw [decide_eq_false (idx_no hjn)]; decide⟩, Bool.false_and]
      refine zQ (zG ?_)
      -- build
      refine WG.y rfl rfl qD (Yl.build (parts := []) tab_ok rfl rfl rfl rfl (fun _ => rfl) rfl rfl) ?_
      refine zE 2 ?_
      refine zR 1 rfl (zN (zU (zT (wt (wb (wt (wt (wb (wt ?_)))))))))
      refine WE.retFS (E' := E) qS tab_ok [_, _] rfl ⟨⟨_, _, _, rfl, rfl, rfl, qB, rfl⟩, rfl, trivial⟩ (by first | exact RLe.refl _ | assumption | exact hRR | exact hRR.trans hR5) ?_
      exact ⟨(⟨none, 0, none, 0, ⟨[], [], 0, 0, 0, zcv⟩⟩ : FlM), by rw [hno]; rfl, ⟨rs_nil, rs_nil, by decide, by decide⟩, Nat.le_refl 0, Nat.le_refl 0, (fun h => by rw [hno] at h; cases h), rfl⟩
     ·try dsimp only at hc5
      have hjl : j < ns.length := by omega
      have hje : nth ns j = nth pz k := str_inj (hc4 (by omega))
      obtain ⟨hix, him⟩ := idx_at hjn hjl hje
      refine zK (zU (zG (zR 1 rfl ?_)))
      refine yL (Rd.add (Rd.blk 1 rfl) _) ?_
      refine zR 1 rfl ?_
      refine WL.ef rfl rfl qD (Ef.buildSliceD (enc := encI) (parts := [.tmp 99]) [_] tab_ok rfl rfl rfl rfl rfl rfl rfl rfl qD qD (fun a100 => ?_))
      refine WL.ef rfl rfl (by decide) (Ef.appendD 1 0 tab_ok rfl rfl rfl rfl rfl rfl rfl rfl rfl rfl rfl (fun _ _ => rfl) (by simp only [List.length_cons, List.length_nil]; omega) (by simp only [List.length_cons, List.length_nil]; omega) (fun a101 c101 ha101 => ?_))
      refine zR 1 rfl ?_
      refine zF 2 ?_
      refine zN (zL (zU (zG ?_)))
      refine yA ?_
      refine zR 1 rfl (zN ?_)
      refine WE.again ((k + 1, rt ++ [(j : Int)], a101, c101)) (⟨by omega, by rw [take_nth hkl, List.all_append, hka, List.all_cons, List.all_nil, decide_eq_true him]; rfl, by rw [take_nth hkl, List.map_append, List.map_singleton, ← hrt, hix]⟩) (by (try dsimp only); omega) ⟨rfl, rfl, rfl, rfl, rfl, rfl, rfl, rfl⟩ (RLe.refl _) qS
   ·try dsimp only at hc3
    obtain rfl : k = pz.length := by omega
    rw [List.take_length] at hka hrt
    rw [← hwo] at hka
    rw [← hwv] at hrt
    rw [hka, Bool.true_and] at hflO
    refine zX ?_
    refine wx (wx (zY (zU ?_)))
    refine W.cap 0 rfl ?_
    intro hcz
    refine W.freeze (enc := encI) (xs := rt) 0 rfl ?_
    intro Rz hRz hrz
    have hG := hG.mono hRz
    have hws := hws.mono hRz
    have hRR := hRR.trans hRz
    refine zQ (zG (zR 1 rfl ?_))
    refine WG.y rfl rfl qD (Yl.indexN tab_ok rfl rfl rfl rfl rfl rfl (fun _ => rfl) qN (by intro _; first | exact (hN.sub hRR qS).has | exact qI)) ?_
    refine yR ?_
    refine WL.call en92 rfl rfl qD (CallOp.mkT rfl rfl rfl rfl) (Parse03_C (s := nth ws 6) hG (by have := hwa 6; omega) w0 _) ?_
    rintro _ R5 E5 hR5 ⟨f5, k5, rfl, hf5, hk5, hsub5⟩
    refine WL.subE hsub5 ?_
    have hrz := hrz.mono hR5
    refine zR 4 rfl ?_
    refine zA fun b15 => ?_
    refine zE 0 ?_
    refine zR 2 rfl (zN (zU (zQ (zG ?_))))
    refine yL (Rd.blk 0 rfl) ?_
    refine zR 1 rfl ?_
    refine zF 1 ?_
    refine zN (zU (zQ (zG ?_)))
    refine yL (Rd.blk 1 rfl) ?_
    refine zR 2 rfl ?_
    refine zE 2 ?_
    refine zR 1 rfl (zN (zU (zT ?_)))
    refine WE.retFS (E' := E) qS tab_ok [_, _] rfl ⟨⟨_, _, _, rfl, rfl, rfl, qB, rfl⟩, rfl, trivial⟩ (by first | exact RLe.refl _ | assumption | exact hRR | exact hRR.trans hR5) ?_
    have hdd : ((parseR (nth ws 6)).2.2 == 0) = decide ((parseR (nth ws 6)).2.2 = 0) := by by_cases h : (parseR (nth ws 6)).2.2 = 0 <;> simp [h]
    refine ⟨⟨a1, c1, f5, k5, ⟨nth ws 1, rt, A, B, C, (parseR (nth ws 6)).1⟩⟩, by rw [hflO, ← hdd]; rfl, ⟨hrz, hf5, Nat.le_trans (parseR_len _) (by decide), ?_⟩, by simpa using hcz, hk5, fun _ => by rw [hflV, hrt, hA, hB, hC], rfl⟩
    show (nth ws 1).length ≤ _
    have := hwa 1; omega



/-- what one line of a text adds to a network: a line, a flow, or nothing -/
def TakeP (R : Ro) (s : List UInt8) (ns : List (List UInt8)) (ms : List LnM) (fs : List FlM) (ok : Bool) (ns' : List (List UInt8)) (ms' : List LnM) (fs' : List FlM) : Prop :=
 (ok = true ∧ (lineO s = true ∧ fs = []) ∧ ns' = ns ++ [nmR s] ∧ fs' = fs ∧ ∃ m, ms' = ms ++ [m] ∧ OkLn R m ∧ m.L = vlR s) ∨
 (ok = true ∧ ¬ (lineO s = true ∧ fs = []) ∧ flO ns s = true ∧ ns' = ns ∧ ms' = ms ∧ ∃ x, fs' = fs ++ [x] ∧ OkFl R x ∧ x.f.route.length ≤ x.c1 ∧ x.f.cv.vals.length ≤ x.c2 ∧ x.f = flV ns s) ∨
 (ok = false ∧ ¬ (lineO s = true ∧ fs = []) ∧ flO ns s = false ∧ ns' = ns ∧ ms' = ms ∧ fs' = fs)

set_option maxHeartbeats 8000000 in
theorem Take_C {R : Ro} (hG : GlobE R) {s : List UInt8} (hs : s.length ≤ 1000000) {b : Nat} {a1 a2 a3 : Option Addr} {c1 c2 c3 : Nat} {ns : List (List UInt8)} {ms : List LnM} {fs : List FlM} (hns : ns.length ≤ 1000000) (hms : ms.length ≤ 1000000) (hfs : fs.length ≤ 1000000) (hnn : ∀ x ∈ ns, x.length ≤ 9223372036854775807) (w0 : World) (F : List Ent) : K.Fn Tryz.prog 52 [.pointer (some ⟨b, 0, none⟩), .string (str s)] w0 R (.sl 9 1 a1 c1 (ns.map encT) :: .sl 29 5 a2 c2 (ms.map encLn) :: .sl 35 8 a3 c3 (fs.map encFl) :: .blk b [.slice a1 ns.length c1, .slice a2 ms.length c2, .slice a3 fs.length c3] :: F) (fun v R' E' => ∃ (ok : Bool) (a1' a2' a3' : Option Addr) (c1' c2' c3' : Nat) (ns' : List (List UInt8)) (ms' : List LnM) (fs' : List FlM), v = .bool ok ∧ E' = .sl 9 1 a1' c1' (ns'.map encT) :: .sl 29 5 a2' c2' (ms'.map encLn) :: .sl 35 8 a3' c3' (fs'.map encFl) :: .blk b [.slice a1' ns'.length c1', .slice a2' ms'.length c2', .slice a3' fs'.length c3'] :: F ∧ TakeP R' s ns ms fs ok ns' ms' fs') := by
 
 refine fE 66 Tryz.func52 ?_
 refine zQ (zG (zR 1 rfl (zN (zU (zQ (zQ (zG (zR 1 rfl ?_))))))))
 refine WL.call en75 rfl rfl qD (CallOp.mkT rfl rfl rfl rfl) (LineP_C hG hs w0 _) ?_
 rintro _ R1 _ hR1 ⟨nm, L, x1, x2, y1, y2, rfl, hf1, hf2, hg1, hg2, hLv, rfl⟩
 have hG := hG.mono hR1
 refine zR 4 rfl ?_
 refine zA fun b6 => ?_
 refine zR 1 rfl ?_
 refine zE 0 ?_
 refine zR 1 rfl (zN (zU (zQ (zG (zR 2 rfl ?_)))))
 refine yP ?_
 refine yP ?_
 refine yP ?_
 refine yG (Rd.addC (Rd.blkC 4 rfl) _) ?_
 refine yP ?_
 refine yP ?_
 refine yN ?_
 refine zN (zU ?_)
 refine W.cond rfl (fun hc0 => ?_) (fun hc0 => ?_)
 ·try simp only [zk] at hc0
  have hyes : lineO s = true := by simpa using hc0.1
  have hfn : fs = [] := List.length_eq_zero_iff.1 (by omega)
  refine zQ ?_
  refine W.regionD _ [.blk b6 [.int .i64 L.kind, .int .i64 L.cap, .int .i64 L.n, .slice x1 L.w.length y1, .slice x2 L.tb.length y2]] [.blk b6 [.int .i64 L.kind, .int .i64 L.cap, .int .i64 L.n, .slice x1 L.w.length y1, .slice x2 L.tb.length y2], .blk b [.slice a1 ns.length c1, .slice a2 ms.length c2, .slice a3 fs.length c3]] [18, 21] mixed ?_
  refine VA.take2 0 rfl qK qK qK rfl qK qK rfl rfl qD (pureV_ok tab_ok rfl (fun _ => rfl)) qS qR qS ?_
  refine VA.take 1 rfl qK qK qK rfl rfl rfl qD (pureV_ok tab_ok rfl (fun _ => rfl)) qS qR (fun _ => qS) ?_
  refine VA.take2 2 rfl qK qK qK rfl qK qK rfl rfl qD (pureV_ok tab_ok rfl (fun _ => rfl)) qS qR qS ?_
  refine VA.take2 3 rfl qK qK qK rfl qK qK rfl rfl qD (pureV_ok tab_ok rfl (fun _ => rfl)) qS qR qS ?_
  refine VA.take2 4 rfl qK qK qK rfl qK qK rfl rfl qD (pureV_ok tab_ok rfl (fun _ => rfl)) qS qR qS ?_
  refine' VA.take2 5 rfl qK qK qK rfl qK qK rfl rfl qD (Yl.load1 tab_ok rfl rfl rfl (fun _ => rfl) ?r2 rfl ?h2) qS qR qS ?_
  case r2 => apply Rd.add; (exact Rd.blk 1 rfl)
  case h2 => rfl
  refine VA.take2 6 rfl qK qK qK rfl qK qK rfl rfl qD (pureV_ok tab_ok rfl (fun _ => rfl)) qS qR qS ?_
  refine VA.take 9 rfl qK qK qK rfl rfl rfl qD (pureV_ok tab_ok rfl (fun _ => rfl)) qS qR (fun _ => qS) ?_
  refine VA.take 10 rfl qK qK qK rfl rfl rfl qD (pureV_ok tab_ok rfl (fun _ => rfl)) qS qR (fun _ => qS) ?_
  refine VA.take 11 rfl qK qK qK rfl rfl rfl qD (pureV_ok tab_ok rfl (fun _ => rfl)) qS qR (fun _ => qS) ?_
  refine' VA.take2 12 rfl qK qK qK rfl qK qK rfl rfl qD (Yl.load1 tab_ok rfl rfl rfl (fun _ => rfl) ?r3 rfl ?h3) qS qR qS ?_
  case r3 => apply Rd.add; (exact Rd.blk 1 rfl)
  case h3 => rfl
  refine' VA.take 13 rfl qK qK qK rfl rfl rfl qD (Yl.load1 tab_ok rfl rfl rfl (fun _ => rfl) ?r4 rfl ?h4) qS qR (fun _ => qS) ?_
  case r4 => (exact Rd.blk 0 rfl)
  case h4 => rfl
  refine VA.br2 qK (i := 7) (j := 14) ?_ ?_
  ·
   refine VS.eff rfl rfl rfl qD (Ef.buildSliceD (enc := encT) (parts := [.tmp 31]) [nm] tab_ok rfl rfl rfl rfl rfl rfl rfl rfl qD qD (fun a32 => ?_))
   refine ⟨by first | exact RLe.refl _ | assumption, qS, (fun _ => qS), ?_⟩
   refine VA.br2 qK (i := 8) (j := 14) ?_ ?_
   ·
    refine VS.eff rfl rfl rfl (by decide) (Ef.appendD 2 0 tab_ok rfl rfl rfl rfl rfl rfl rfl rfl rfl rfl rfl (fun _ _ => rfl) (by simp only [List.length_cons, List.length_nil]; omega) (by simp only [List.length_cons, List.length_nil]; omega) (fun a33 c33 ha33 => ?_))
    refine ⟨by first | exact RLe.refl _ | assumption, qS, (fun _ => qS), ?_⟩
    refine VA.one (i := 14) qK ?_
    refine VS.eff rfl rfl rfl qD (Ef.buildSliceD (enc := encLn) (parts := [.tmp 38]) [⟨x1, y1, x2, y2, L⟩] tab_ok rfl rfl rfl rfl rfl rfl rfl rfl qD qD (fun a39 => ?_))
    refine ⟨by first | exact RLe.refl _ | assumption, qS, (fun _ => qS), ?_⟩
    refine VA.one (i := 15) qK ?_
    refine VS.eff rfl rfl rfl (by decide) (Ef.appendD 4 0 tab_ok rfl rfl rfl rfl rfl rfl rfl rfl rfl rfl rfl (fun _ _ => rfl) (by simp only [List.length_cons, List.length_nil]; omega) (by simp only [List.length_cons, List.length_nil]; omega) (fun a40 c40 ha40 => ?_))
    refine ⟨by first | exact RLe.refl _ | assumption, qS, (fun _ => qS), ?_⟩
    refine VA.take 16 rfl qK qK qK rfl rfl rfl qD (pureV_ok tab_ok rfl (fun _ => rfl)) qS qR (fun _ => qS) ?_
    refine VA.take2 17 rfl qK qK qK rfl qK qK rfl rfl qD (pureV_ok tab_ok rfl (fun _ => rfl)) qS qR qS ?_
    refine VA.one (i := 18) qK ?_
    refine VS.effN rfl rfl rfl (Ef.store 6 tab_ok rfl rfl rfl rfl rfl rfl rfl rfl ?_)
    refine ⟨by first | exact RLe.refl _ | assumption, qS, (noD qK), ?_⟩
    refine VA.take 19 rfl qK qK qK rfl rfl rfl qD (pureV_ok tab_ok rfl (fun _ => rfl)) qS qR (noD qK) ?_
    refine VA.take 20 rfl qK qK qK rfl rfl rfl qD (pureV_ok tab_ok rfl (fun _ => rfl)) qS qR (noD qK) ?_
    refine VA.one (i := 21) qK ?_
    refine VS.effN rfl rfl rfl (Ef.store 6 tab_ok rfl rfl rfl rfl rfl rfl rfl rfl ?_)
    refine ⟨by first | exact RLe.refl _ | assumption, qS, (noD qK), ?_⟩
    refine VA.done qK ?_
    refine zU (zQ (zG (zR 1 rfl (zN (zU (zT (wt ?_)))))))
    refine WE.subE (E' := .sl 9 1 a33 c33 ((ns ++ [nm]).map encT) :: .sl 29 5 a40 c40 ((ms ++ [(⟨x1, y1, x2, y2, L⟩ : LnM)]).map encLn) :: .sl 35 8 a3 c3 (fs.map encFl) :: .blk b [.slice a33 (ns ++ [nm]).length c33, .slice a40 (ms ++ [(⟨x1, y1, x2, y2, L⟩ : LnM)]).length c40, .slice a3 fs.length c3] :: F) qS ?_
    refine WE.retF tab_ok [_] rfl ⟨rfl, trivial⟩ (by first | exact RLe.refl _ | assumption | exact hR1.trans hR2) ?_
    exact ⟨_, _, _, _, _, _, _, _, _, fs, rfl, rfl, .inl ⟨rfl, ⟨hyes, hfn⟩, by rw [(hLv hyes).1]; rfl, rfl, ⟨x1, y1, x2, y2, L⟩, rfl, ⟨hf1, hf2⟩, (hLv hyes).2⟩⟩
   ·
    refine VS.eff rfl rfl rfl qD (Ef.buildSliceD (enc := encLn) (parts := [.tmp 38]) [⟨x1, y1, x2, y2, L⟩] tab_ok rfl rfl rfl rfl rfl rfl rfl rfl qD qD (fun a39 => ?_))
    refine ⟨by first | exact RLe.refl _ | assumption, qS, (fun _ => qS), ?_⟩
    refine VA.one (i := 8) qK ?_
    refine VS.eff rfl rfl rfl (by decide) (Ef.appendD 3 1 tab_ok rfl rfl rfl rfl rfl rfl rfl rfl rfl rfl rfl (fun _ _ => rfl) (by simp only [List.length_cons, List.length_nil]; omega) (by simp only [List.length_cons, List.length_nil]; omega) (fun a33 c33 ha33 => ?_))
    refine ⟨by first | exact RLe.refl _ | assumption, qS, (fun _ => qS), ?_⟩
    refine VA.one (i := 15) qK ?_
    refine VS.eff rfl rfl rfl (by decide) (Ef.appendD 4 0 tab_ok rfl rfl rfl rfl rfl rfl rfl rfl rfl rfl rfl (fun _ _ => rfl) (by simp only [List.length_cons, List.length_nil]; omega) (by simp only [List.length_cons, List.length_nil]; omega) (fun a40 c40 ha40 => ?_))
    refine ⟨by first | exact RLe.refl _ | assumption, qS, (fun _ => qS), ?_⟩
    refine VA.take 16 rfl qK qK qK rfl rfl rfl qD (pureV_ok tab_ok rfl (fun _ => rfl)) qS qR (fun _ => qS) ?_
    refine VA.take2 17 rfl qK qK qK rfl qK qK rfl rfl qD (pureV_ok tab_ok rfl (fun _ => rfl)) qS qR qS ?_
    refine VA.one (i := 18) qK ?_
    refine VS.effN rfl rfl rfl (Ef.store 6 tab_ok rfl rfl rfl rfl rfl rfl rfl rfl ?_)
    refine ⟨by first | exact RLe.refl _ | assumption, qS, (noD qK), ?_⟩
    refine VA.take 19 rfl qK qK qK rfl rfl rfl qD (pureV_ok tab_ok rfl (fun _ => rfl)) qS qR (noD qK) ?_
    refine VA.take 20 rfl qK qK qK rfl rfl rfl qD (pureV_ok tab_ok rfl (fun _ => rfl)) qS qR (noD qK) ?_
    refine VA.one (i := 21) qK ?_
    refine VS.effN rfl rfl rfl (Ef.store 6 tab_ok rfl rfl rfl rfl rfl rfl rfl rfl ?_)
    refine ⟨by first | exact RLe.refl _ | assumption, qS, (noD qK), ?_⟩
    refine VA.done qK ?_
    refine zU (zQ (zG (zR 1 rfl (zN (zU (zT (wt ?_)))))))
    refine WE.subE (E' := .sl 9 1 a33 c33 ((ns ++ [nm]).map encT) :: .sl 29 5 a40 c40 ((ms ++ [(⟨x1, y1, x2, y2, L⟩ : LnM)]).map encLn) :: .sl 35 8 a3 c3 (fs.map encFl) :: .blk b [.slice a33 (ns ++ [nm]).length c33, .slice a40 (ms ++ [(⟨x1, y1, x2, y2, L⟩ : LnM)]).length c40, .slice a3 fs.length c3] :: F) qS ?_
    refine WE.retF tab_ok [_] rfl ⟨rfl, trivial⟩ (by first | exact RLe.refl _ | assumption | exact hR1.trans hR2) ?_
    exact ⟨_, _, _, _, _, _, _, _, _, fs, rfl, rfl, .inl ⟨rfl, ⟨hyes, hfn⟩, by rw [(hLv hyes).1]; rfl, rfl, ⟨x1, y1, x2, y2, L⟩, rfl, ⟨hf1, hf2⟩, (hLv hyes).2⟩⟩
  ·
   refine VS.eff rfl rfl rfl qD (Ef.buildSliceD (enc := encLn) (parts := [.tmp 38]) [⟨x1, y1, x2, y2, L⟩] tab_ok rfl rfl rfl rfl rfl rfl rfl rfl qD qD (fun a39 => ?_))
   refine ⟨by first | exact RLe.refl _ | assumption, qS, (fun _ => qS), ?_⟩
   refine VA.one (i := 7) qK ?_
   refine VS.eff rfl rfl rfl qD (Ef.buildSliceD (enc := encT) (parts := [.tmp 31]) [nm] tab_ok rfl rfl rfl rfl rfl rfl rfl rfl qD qD (fun a32 => ?_))
   refine ⟨by first | exact RLe.refl _ | assumption, qS, (fun _ => qS), ?_⟩
   refine VA.one (i := 8) qK ?_
   refine VS.eff rfl rfl rfl (by decide) (Ef.appendD 3 0 tab_ok rfl rfl rfl rfl rfl rfl rfl rfl rfl rfl rfl (fun _ _ => rfl) (by simp only [List.length_cons, List.length_nil]; omega) (by simp only [List.length_cons, List.length_nil]; omega) (fun a33 c33 ha33 => ?_))
   refine ⟨by first | exact RLe.refl _ | assumption, qS, (fun _ => qS), ?_⟩
   refine VA.one (i := 15) qK ?_
   refine VS.eff rfl rfl rfl (by decide) (Ef.appendD 4 1 tab_ok rfl rfl rfl rfl rfl rfl rfl rfl rfl rfl rfl (fun _ _ => rfl) (by simp only [List.length_cons, List.length_nil]; omega) (by simp only [List.length_cons, List.length_nil]; omega) (fun a40 c40 ha40 => ?_))
   refine ⟨by first | exact RLe.refl _ | assumption, qS, (fun _ => qS), ?_⟩
   refine VA.take 16 rfl qK qK qK rfl rfl rfl qD (pureV_ok tab_ok rfl (fun _ => rfl)) qS qR (fun _ => qS) ?_
   refine VA.take2 17 rfl qK qK qK rfl qK qK rfl rfl qD (pureV_ok tab_ok rfl (fun _ => rfl)) qS qR qS ?_
   refine VA.one (i := 18) qK ?_
   refine VS.effN rfl rfl rfl (Ef.store 6 tab_ok rfl rfl rfl rfl rfl rfl rfl rfl ?_)
   refine ⟨by first | exact RLe.refl _ | assumption, qS, (noD qK), ?_⟩
   refine VA.take 19 rfl qK qK qK rfl rfl rfl qD (pureV_ok tab_ok rfl (fun _ => rfl)) qS qR (noD qK) ?_
   refine VA.take 20 rfl qK qK qK rfl rfl rfl qD (pureV_ok tab_ok rfl (fun _ => rfl)) qS qR (noD qK) ?_
   refine VA.one (i := 21) qK ?_
   refine VS.effN rfl rfl rfl (Ef.store 6 tab_ok rfl rfl rfl rfl rfl rfl rfl rfl ?_)
   refine ⟨by first | exact RLe.refl _ | assumption, qS, (noD qK), ?_⟩
   refine VA.done qK ?_
   refine zU (zQ (zG (zR 1 rfl (zN (zU (zT (wt ?_)))))))
   refine WE.subE (E' := .sl 9 1 a33 c33 ((ns ++ [nm]).map encT) :: .sl 29 5 a40 c40 ((ms ++ [(⟨x1, y1, x2, y2, L⟩ : LnM)]).map encLn) :: .sl 35 8 a3 c3 (fs.map encFl) :: .blk b [.slice a33 (ns ++ [nm]).length c33, .slice a40 (ms ++ [(⟨x1, y1, x2, y2, L⟩ : LnM)]).length c40, .slice a3 fs.length c3] :: F) qS ?_
   refine WE.retF tab_ok [_] rfl ⟨rfl, trivial⟩ (by first | exact RLe.refl _ | assumption | exact hR1.trans hR2) ?_
   exact ⟨_, _, _, _, _, _, _, _, _, fs, rfl, rfl, .inl ⟨rfl, ⟨hyes, hfn⟩, by rw [(hLv hyes).1]; rfl, rfl, ⟨x1, y1, x2, y2, L⟩, rfl, ⟨hf1, hf2⟩, (hLv hyes).2⟩⟩
 ·try simp only [zk] at hc0
  have hno : ¬ (lineO s = true ∧ fs = []) := fun h => hc0 h.1 (by rw [h.2]; rfl)
  refine zK (zU (zQ (zG (zR 3 rfl ?_))))
  refine yL (Rd.add (Rd.blk 4 rfl) _) ?_
  refine zR 1 rfl ?_
  refine WL.call en76 rfl rfl qD (CallOp.mkT rfl rfl rfl rfl) (Flow_C hG hs (LsT.own 1 rfl hns) rfl hnn w0) ?_
  rintro _ R2 _ hR2 ⟨x, rfl, hxo, hx1, hx2, hxf, rfl⟩
  refine zR 3 rfl ?_
  refine zA fun b8 => ?_
  refine zE 0 ?_
  refine zR 1 rfl (zN (zU (zQ (zQ (zG (zR 1 rfl (zN (zU ?_))))))))
  refine W.cond rfl (fun hc1 => ?_) (fun hc1 => ?_)
  ·try simp only [zk] at hc1
   have hfo : flO ns s = true := by simpa using hc1
   refine W.regionD _ [.blk b8 (encFl x)] [.blk b8 (encFl x), .blk b [.slice a1 ns.length c1, .slice a2 ms.length c2, .slice a3 fs.length c3]] [10] mixed ?_
   refine VA.take2 0 rfl qK qK qK rfl qK qK rfl rfl qD (pureV_ok tab_ok rfl (fun _ => rfl)) qS qR qS ?_
   refine VA.take2 1 rfl qK qK qK rfl qK qK rfl rfl qD (pureV_ok tab_ok rfl (fun _ => rfl)) qS qR qS ?_
   refine VA.take2 2 rfl qK qK qK rfl qK qK rfl rfl qD (pureV_ok tab_ok rfl (fun _ => rfl)) qS qR qS ?_
   refine VA.take2 3 rfl qK qK qK rfl qK qK rfl rfl qD (pureV_ok tab_ok rfl (fun _ => rfl)) qS qR qS ?_
   refine' VA.take2 4 rfl qK qK qK rfl qK qK rfl rfl qD (Yl.load1 tab_ok rfl rfl rfl (fun _ => rfl) ?r6 rfl ?h6) qS qR qS ?_
   case r6 => apply Rd.add; (exact Rd.blk 1 rfl)
   case h6 => rfl
   refine' VA.take2 5 rfl qK qK qK rfl qK qK rfl rfl qD (Yl.load1 tab_ok rfl rfl rfl (fun _ => rfl) ?r7 rfl ?h7) qS qR qS ?_
   case r7 => (exact Rd.blk 0 rfl)
   case h7 => rfl
   refine VA.one (i := 6) qK ?_
   refine VS.eff rfl rfl rfl qD (Ef.buildSliceD (enc := encFl) (parts := [.tmp 60]) [x] tab_ok rfl rfl rfl rfl rfl rfl rfl rfl qD qD (fun a61 => ?_))
   refine ⟨by first | exact RLe.refl _ | assumption, qS, (fun _ => qS), ?_⟩
   refine VA.one (i := 7) qK ?_
   refine VS.eff rfl rfl rfl (by decide) (Ef.appendD 5 0 tab_ok rfl rfl rfl rfl rfl rfl rfl rfl rfl rfl rfl (fun _ _ => rfl) (by simp only [List.length_cons, List.length_nil]; omega) (by simp only [List.length_cons, List.length_nil]; omega) (fun a62 c62 ha62 => ?_))
   refine ⟨by first | exact RLe.refl _ | assumption, qS, (fun _ => qS), ?_⟩
   refine VA.take 8 rfl qK qK qK rfl rfl rfl qD (pureV_ok tab_ok rfl (fun _ => rfl)) qS qR (fun _ => qS) ?_
   refine VA.take2 9 rfl qK qK qK rfl qK qK rfl rfl qD (pureV_ok tab_ok rfl (fun _ => rfl)) qS qR qS ?_
   refine VA.one (i := 10) qK ?_
   refine VS.effN rfl rfl rfl (Ef.store 6 tab_ok rfl rfl rfl rfl rfl rfl rfl rfl ?_)
   refine ⟨by first | exact RLe.refl _ | assumption, qS, (noD qK), ?_⟩
   refine VA.done qK ?_
   refine zU (zQ (zG (zR 2 rfl (zN (zU (zT ?_))))))
   refine WE.subE (E' := .sl 9 1 a1 c1 (ns.map encT) :: .sl 29 5 a2 c2 (ms.map encLn) :: .sl 35 8 a62 c62 ((fs ++ [x]).map encFl) :: .blk b [.slice a1 ns.length c1, .slice a2 ms.length c2, .slice a62 (fs ++ [x]).length c62] :: F) qS ?_
   refine WE.retF tab_ok [_] rfl ⟨rfl, trivial⟩ (by first | exact RLe.refl _ | assumption | exact hR1.trans hR2) ?_
   exact ⟨true, _, _, _, _, _, _, ns, ms, _, by rw [hfo]; rfl, rfl, .inr (.inl ⟨rfl, hno, hfo, rfl, rfl, x, rfl, hxo, hx1, hx2, hxf hfo⟩)⟩
  ·try simp only [zk] at hc1
   have hfo : flO ns s = false := by simpa using hc1
   refine zK (zU (zQ (zG (zR 2 rfl (zN (zU (zT ?_)))))))
   refine WE.subE (E' := .sl 9 1 a1 c1 (ns.map encT) :: .sl 29 5 a2 c2 (ms.map encLn) :: .sl 35 8 a3 c3 (fs.map encFl) :: .blk b [.slice a1 ns.length c1, .slice a2 ms.length c2, .slice a3 fs.length c3] :: F) qS ?_
   refine WE.retF tab_ok [_] rfl ⟨rfl, trivial⟩ (by first | exact RLe.refl _ | assumption | exact hR1.trans hR2) ?_
   exact ⟨false, _, _, _, _, _, _, ns, ms, fs, by rw [hfo]; rfl, rfl, .inr (.inr ⟨rfl, hno, hfo, rfl, rfl, rfl⟩)⟩



theorem Cut03_V {R : Ro} (hG : GlobE R) {s sep : List UInt8} (hs : s.length ≤ 4000000000) : FnV Tryz.prog 51 [.string (str s), .string (str sep)] R (.tuple #[.string (str (Lib.cut s sep).1), .string (str (Lib.cut s sep).2.1), .bool (Lib.cut s sep).2.2]) := by
 obtain ⟨m, rest, hm0⟩ := hG.m
 refine FnV.of (fun w0 E w hm => ?_)
 have hsz := str_size s
 refine (sh_strings_Cut (str s) (str sep) m w qO (hm.cell hm0)).mono ?_
 rintro e w' ⟨rfl, n, rfl⟩
 have h1 : (str s).data.toList = s := by simp [str]
 have h2 : (str sep).data.toList = sep := by simp [str]
 rw [h1, h2]
 exact ⟨rfl, K.below_drewN w n⟩

theorem take_none {R : Ro} {s : List UInt8} {ns ns' : List (List UInt8)} {ms ms' : List LnM} {fs fs' : List FlM} (h : TakeP R s ns ms fs false ns' ms' fs') : takeS (ns, ms.map (·.L), fs.map (·.f)) s = none := by
 rcases h with ⟨h, _⟩ | ⟨h, _⟩ | ⟨_, h1, h2, _⟩
 ·cases h
 ·cases h
 ·unfold takeS
  rw [if_neg (fun hh => h1 ⟨hh.1, List.map_eq_nil_iff.1 hh.2⟩), if_neg (by rw [h2]; decide)]
theorem nmR_le (s : List UInt8) : (nmR s).length ≤ s.length := by
 unfold nmR
 by_cases h : 1 < (splC 32 s).length
 ·exact splC_mem 32 s _ (nth_mem h)
 ·rw [nth_out (by omega)]; exact Nat.zero_le _
theorem take_some {R R0 : Ro} {s : List UInt8} {ns ns' : List (List UInt8)} {ms ms' : List LnM} {fs fs' : List FlM} (h : TakeP R s ns ms fs true ns' ms' fs') (hR : RLe R0 R) (hnn : ∀ x ∈ ns, x.length ≤ 9223372036854775807) (hs : s.length ≤ 1000000) (hom : ∀ m ∈ ms, OkLn R0 m) (hof : ∀ x ∈ fs, OkFl R0 x ∧ x.f.route.length ≤ x.c1 ∧ x.f.cv.vals.length ≤ x.c2) :
  takeS (ns, ms.map (·.L), fs.map (·.f)) s = some (ns', ms'.map (·.L), fs'.map (·.f)) ∧ ns'.length ≤ ns.length + 1 ∧ ms'.length ≤ ms.length + 1 ∧ fs'.length ≤ fs.length + 1 ∧ (∀ x ∈ ns', x.length ≤ 9223372036854775807) ∧ (∀ m ∈ ms', OkLn R m) ∧ ∀ x ∈ fs', OkFl R x ∧ x.f.route.length ≤ x.c1 ∧ x.f.cv.vals.length ≤ x.c2 := by
 rcases h with ⟨_, ⟨h1, h2⟩, rfl, rfl, m, rfl, h3, h4⟩ | ⟨_, h1, h2, rfl, rfl, x, rfl, h3, h4, h5, h6⟩ | ⟨h, _⟩
 ·refine ⟨?_, by simp, by simp, by simp, fun x hx => ?_, fun q hq => ?_, fun x hx => ⟨(hof x hx).1.mono hR, (hof x hx).2⟩⟩
  ·subst h2
   unfold takeS
   rw [if_pos ⟨h1, rfl⟩, List.map_append, List.map_singleton, h4]
  ·rcases List.mem_append.1 hx with hx | hx
   ·exact hnn x hx
   ·rw [List.mem_singleton.1 hx]; have := nmR_le s; omega
  ·rcases List.mem_append.1 hq with hq | hq
   ·exact (hom q hq).mono hR
   ·rw [List.mem_singleton.1 hq]; exact h3
 ·refine ⟨?_, by simp, by simp, by simp, hnn, fun q hq => (hom q hq).mono hR, fun y hy => ?_⟩
  ·unfold takeS
   rw [if_neg (fun hh => h1 ⟨hh.1, List.map_eq_nil_iff.1 hh.2⟩), if_pos h2, List.map_append, List.map_singleton, h6]
  ·rcases List.mem_append.1 hy with hy | hy
   ·exact ⟨(hof y hy).1.mono hR, (hof y hy).2⟩
   ·rw [List.mem_singleton.1 hy]; exact ⟨h3, h4, h5⟩
 ·cases h

set_option maxHeartbeats 4000000 in
theorem Parse_C {R : Ro} (hG : GlobE R) {s : List UInt8} (hs : s.length ≤ 9223372036854775807) (w0 : World) (E : List Ent) : K.Fn Tryz.prog 19 [.string (str s)] w0 R E (fun v R' E' => ∃ (na la fa : Option Addr) (nc lc fc : Nat) (ns : List (List UInt8)) (ms : List LnM) (fs : List FlM) (line e : Int), v = .tuple #[.agg #[.slice na ns.length nc, .slice la ms.length lc, .slice fa fs.length fc], .int .i64 line, .int .i64 e] ∧ K.RS R' 1 encT na ns ∧ K.RS R' 5 encLn la ms ∧ (∀ m ∈ ms, OkLn R' m) ∧ (∀ x ∈ fs, OkFl R' x ∧ x.f.route.length ≤ x.c1 ∧ x.f.cv.vals.length ≤ x.c2) ∧ (∀ x ∈ ns, x.length ≤ 9223372036854775807) ∧ ns.length ≤ nc ∧ ms.length ≤ lc ∧ fs.length ≤ fc ∧ parN s = ((ns, ms.map (·.L), fs.map (·.f)), line, e) ∧ E' = .sl 35 8 fa fc (fs.map encFl) :: E) := by
 have hss := str_size s
 refine fE 42 Tryz.func19 ?_
 refine zQ (zG ?_)
 refine zA fun b2 => ?_
 refine zR 2 rfl (zN (zU (zQ (zQ (zG (zR 3 rfl (zN (zU ?_))))))))
 refine W.condD rfl (fun hc0 => ?_) (fun hc0 => ?_)
 ·try dsimp only at hc0
  have hpn : parN s = (zNt, 0, 3) := if_pos (by omega)
  refine W.nil 35 8 qD ?_
  refine zQ (zG ?_)
  -- build
  refine WG.y rfl rfl qD (Yl.build (parts := []) tab_ok rfl rfl rfl rfl (fun _ => rfl) rfl rfl) ?_
  refine zE 1 ?_
  refine zR 2 rfl (zN (zU (zT (wt ?_))))
  refine WE.retFS (E' := (.sl 35 8 none 0 [] :: E)) qS tab_ok [_, _, _] rfl ⟨⟨_, _, _, rfl, rfl, rfl, qB, rfl⟩, rfl, rfl, trivial⟩ qR ?_
  exact ⟨none, none, none, 0, 0, 0, [], [], [], _, _, rfl, ⟨by simp, .inl rfl, by simp⟩, ⟨by simp, .inl rfl, by simp⟩, (fun m h => by cases h), (fun m h => by cases h), (fun x h => by cases h), Nat.le_refl _, Nat.le_refl _, Nat.le_refl _, by rw [hpn]; rfl, rfl⟩
 ·try dsimp only at hc0
  have hpn : parN s = if (parGo zNt 0 (splC 10 s)).2.2 ≠ 0 then parGo zNt 0 (splC 10 s) else if chkN (parGo zNt 0 (splC 10 s)).1 ≠ 0 then (zNt, 0, chkN (parGo zNt 0 (splC 10 s)).1) else ((parGo zNt 0 (splC 10 s)).1, 0, 0) := if_neg (by omega)
  refine zK (zU (zQ ?_))
  refine W.nil 35 8 qD ?_
  refine W.nil 29 5 qD ?_
  refine W.nil 9 1 qD ?_
  refine zQ (zG (zR 2 rfl (zN (zU (zB ?_)))))
  refine W.loopR (β := Nat × List (List UInt8) × List LnM × List FlM × (Option Addr × Nat) × (Option Addr × Nat) × (Option Addr × Nat) × List UInt8 × Ro) (fun (i, ns, ms, fs, p1, p2, p3, rest, Rk) => RLe R Rk ∧ i + rest.length ≤ 4000 ∧ (ns.length ≤ i ∧ ms.length ≤ i ∧ fs.length ≤ i) ∧ parGo (ns, ms.map (·.L), fs.map (·.f)) i (splC 10 rest) = parGo zNt 0 (splC 10 s) ∧ (∀ x ∈ ns, x.length ≤ 9223372036854775807) ∧ (∀ m ∈ ms, OkLn Rk m) ∧ ∀ x ∈ fs, OkFl Rk x ∧ x.f.route.length ≤ x.c1 ∧ x.f.cv.vals.length ≤ x.c2) (fun (i, ns, ms, fs, p1, p2, p3, rest, Rk) => [(3, true, .int .i64 (i : Int)), (5, true, .string (str rest))]) [2] [_] [] _ rfl (fun (i, ns, ms, fs, p1, p2, p3, rest, Rk) => [(0, .sl 9 1 p1.1 p1.2 (ns.map encT)), (1, .sl 29 5 p2.1 p2.2 (ms.map encLn)), (2, .sl 35 8 p3.1 p3.2 (fs.map encFl)), (3, .blk b2 [.slice p1.1 ns.length p1.2, .slice p2.1 ms.length p2.2, .slice p3.1 fs.length p3.2])]) (fun (i, ns, ms, fs, p1, p2, p3, rest, Rk) => Rk) (fun (i, ns, ms, fs, p1, p2, p3, rest, Rk) => rest.length) ((0, [], [], [], (none, 0), (none, 0), (none, 0), s, R)) (⟨RLe.refl _, by omega, ⟨Nat.le_refl _, Nat.le_refl _, Nat.le_refl _⟩, rfl, fun x h => (by cases h), fun m h => (by cases h), fun m h => (by cases h)⟩) ⟨rfl, rfl, rfl, rfl⟩ (RLe.refl _) qS ?_
  intro zz hst
  obtain ⟨i, ns, ms, fs, p1, p2, p3, rest, Rk⟩ := zz
  dsimp only [zipE, setAll, List.cons_append, List.nil_append, List.set_cons_zero, List.set_cons_succ] at hst ⊢
  obtain ⟨hRk, hil, ⟨hnl, hml, hfl⟩, hpg, hnn, hom, hof⟩ := hst
  obtain ⟨a1, c1⟩ := p1
  obtain ⟨a2, c2⟩ := p2
  obtain ⟨a3, c3⟩ := p3
  dsimp only
  have hG := hG.mono hRk
  refine zQ (zQ (zG (zR 1 rfl ?_)))
  refine WG.y rfl rfl qD (Yl.neS rfl rfl rfl (fun _ => rfl)) ?_
  refine zN (zU ?_)
  refine W.cond rfl (fun hc1 => ?_) (fun hc1 => ?_)
  ·try simp only [zk] at hc1
   have hne : rest ≠ [] := fun h => hc1 (by rw [h]; rfl)
   obtain ⟨x, more, en, hcut, hfx⟩ := cut_rows rest hne
   refine zK (zU (zB (zQ (zG (zR 1 rfl ?_)))))
   refine yA ?_
   refine zR 1 rfl (zN (zU (zQ (zG (zR 1 rfl ?_)))))
   refine WG.callV en51 rfl rfl qD (CallOp.mk' rfl rfl rfl rfl) (fun _ => rfl) (fun hg => Cut03_V hG (s := rest) (sep := [10]) qO) ?_
   rw [hcut]
   refine zR 7 rfl (zN (zU (zQ (zQ ?_))))
   rcases hfx with ⟨rfl, hfa, hfb⟩ | ⟨rfl, hfa, hfb⟩
   ·
    have hxl : x.length + 1 + more.length = rest.length := by rw [hfa, List.length_append, List.length_cons]; omega
    rw [hfb] at hpg
    refine zG (zR 3 rfl ?_)
    refine yP ?_
    refine WL.callT en52 rfl rfl rfl qD (CallOp.mk' rfl rfl rfl rfl) rfl (Take_C hG (s := x) qO qO qO qO hnn w0 _) ?_
    rintro _ R2 _ hR2 ⟨ok, a1', a2', a3', c1', c2', c3', ns', ms', fs', rfl, rfl, htk⟩
    have hRR := hRk.trans hR2
    refine yP ?_
    refine yO ?_
    refine zN (zU ?_)
    refine W.cond rfl (fun hc2 => ?_) (fun hc2 => ?_)
    ·try simp only [zk] at hc2
     have hok : ok = false := by simpa using hc2
     have htn : takeS (ns, ms.map (·.L), fs.map (·.f)) x = none := take_none (hok ▸ htk)
     refine W.nil 35 8 qD ?_
     refine zQ (zG ?_)
     -- build
     refine WG.y rfl rfl qD (Yl.build (parts := []) tab_ok rfl rfl rfl rfl (fun _ => rfl) rfl rfl) ?_
     refine zR 1 rfl ?_
     refine zE 4 ?_
     refine zR 2 rfl (zN (zU (zT (wt (wb (wt (wb (wt ?_))))))))
     refine WE.retFS (E' := (.sl 35 8 none 0 [] :: E)) qS tab_ok [_, _, _] rfl ⟨⟨_, _, _, rfl, rfl, rfl, qB, rfl⟩, rfl, rfl, trivial⟩ qR ?_
     have hpg2 := hpg.symm.trans (par_none htn)
     exact ⟨none, none, none, 0, 0, 0, [], [], [], _, 4, rfl, ⟨by simp, .inl rfl, by simp⟩, ⟨by simp, .inl rfl, by simp⟩, (fun m h => by cases h), (fun m h => by cases h), (fun x h => by cases h), Nat.le_refl _, Nat.le_refl _, Nat.le_refl _, by rw [hpn, hpg2, if_pos (by show (4 : Int) ≠ 0; decide)]; rfl, rfl⟩
    ·try simp only [zk] at hc2
     have hok : ok = true := by simpa using hc2
     obtain ⟨hts, hnl2, hml2, hfl2, hnn2, hom2, hof2⟩ := take_some (hok ▸ htk) hR2 hnn (by omega) hom hof
     refine zK (zU (zG (zR 2 rfl (zN (zL ?_)))))
     refine WE.again ((i + 1, ns', ms', fs', (a1', c1'), (a2', c2'), (a3', c3'), more, R2)) (⟨hRR, by dsimp only; omega, ⟨by dsimp only; omega, by dsimp only; omega, by dsimp only; omega⟩, (par_some hts).symm.trans hpg, hnn2, hom2, hof2⟩) (by show more.length < rest.length; omega) ⟨rfl, rfl, rfl, rfl⟩ (RLe.refl _) qS
   ·
    rw [hfb] at hpg
    refine zG (zR 3 rfl ?_)
    refine yP ?_
    refine WG.callV (v := .bool false) (vs := [.pointer (some ⟨b2, 0, none⟩), .string (str x)]) en52 rfl rfl qD (CallOp.mk' rfl rfl rfl rfl) (by intro h; cases h) (fun h => by cases h) ?_
    refine yP ?_
    refine yO ?_
    refine zN (zU ?_)
    refine W.cond rfl (fun hc2 => ?_) (fun hc2 => ?_)
    ·try simp only [zk] at hc2
     refine W.nil 35 8 qD ?_
     refine zQ (zG ?_)
     -- build
     refine WG.y rfl rfl qD (Yl.build (parts := []) tab_ok rfl rfl rfl rfl (fun _ => rfl) rfl rfl) ?_
     refine zR 1 rfl ?_
     refine zE 4 ?_
     refine zR 2 rfl (zN (zU (zT (wt (wb (wt (wb (wt ?_))))))))
     refine WE.retFS (E' := (.sl 35 8 none 0 [] :: E)) qS tab_ok [_, _, _] rfl ⟨⟨_, _, _, rfl, rfl, rfl, qB, rfl⟩, rfl, rfl, trivial⟩ qR ?_
     have hpg2 : parGo zNt 0 (splC 10 s) = (zNt, (i : Int) + 1, 4) := by rw [← hpg, parGo, if_neg (by rw [hfa]; exact hne)]
     exact ⟨none, none, none, 0, 0, 0, [], [], [], _, 4, rfl, ⟨by simp, .inl rfl, by simp⟩, ⟨by simp, .inl rfl, by simp⟩, (fun m h => by cases h), (fun m h => by cases h), (fun x h => by cases h), Nat.le_refl _, Nat.le_refl _, Nat.le_refl _, by rw [hpn, hpg2, if_pos (by show (4 : Int) ≠ 0; decide)]; rfl, rfl⟩
    ·try simp only [zk] at hc2
     (simp at hc2; done)
  ·try simp only [zk] at hc1
   have hnil : rest = [] := str_inj (b := []) (by first | exact hc1 | exact Classical.not_not.1 hc1)
   rw [hnil] at hpg
   have hpz : parGo zNt 0 (splC 10 s) = ((ns, ms.map (·.L), fs.map (·.f)), 0, 0) := hpg.symm
   rw [hpz, if_neg (fun h => h rfl)] at hpn
   have hpn : parN s = if chkNet ns (ms.map (·.L)) (fs.map (·.f)) ≠ 0 then (zNt, 0, chkNet ns (ms.map (·.L)) (fs.map (·.f))) else ((ns, ms.map (·.L), fs.map (·.f)), 0, 0) := hpn
   refine zX ?_
   refine wx (wx (zY (zU (zQ ?_))))
   refine W.cap 0 rfl ?_
   intro hcl1
   refine W.cap 1 rfl ?_
   intro hcl2
   refine W.cap 2 rfl ?_
   intro hcl3
   refine W.freeze (enc := encT) (xs := ns) 0 rfl ?_
   intro R3 hR3 hna
   refine W.freeze (enc := encLn) (xs := ms) 0 rfl ?_
   intro R4 hR4 hla
   have hna := hna.mono hR4
   have hRkz := hR3.trans hR4
   have hRR := hRk.trans hRkz
   refine zQ (zG ?_)
   refine yL (Rd.blk 1 rfl) ?_
   refine WG.callE en32 rfl rfl qD (CallOp.mk' rfl rfl rfl rfl) (fun _ => rfl) (fun hg => NCheck_E hna hla (LsF.own 0 rfl qO) (fun m hm => (hom m hm).mono hRkz) (fun m hm => (hof m hm).1.mono hRkz) hnn w0) ?_
   refine zR 1 rfl (zN (zU (zQ (zG (zR 2 rfl (zN (zU ?_)))))))
   refine W.condN rfl (fun hc3 => ?_) (fun hc3 => ?_)
   ·try dsimp only at hc3
    refine W.nil 35 8 qD ?_
    refine zQ (zG ?_)
    -- build
    refine WG.y rfl rfl qD (Yl.build (parts := []) tab_ok rfl rfl rfl rfl (fun _ => rfl) rfl rfl) ?_
    refine zR 1 rfl ?_
    refine zE 2 ?_
    refine zR 2 rfl (zN (zU (zT (wt ?_))))
    refine WE.retFS (E' := (.sl 35 8 none 0 [] :: E)) qS tab_ok [_, _, _] rfl ⟨⟨_, _, _, rfl, rfl, rfl, qB, rfl⟩, rfl, rfl, trivial⟩ qR ?_
    exact ⟨none, none, none, 0, 0, 0, [], [], [], _, _, rfl, ⟨by simp, .inl rfl, by simp⟩, ⟨by simp, .inl rfl, by simp⟩, (fun m h => by cases h), (fun m h => by cases h), (fun x h => by cases h), Nat.le_refl _, Nat.le_refl _, Nat.le_refl _, by rw [hpn, if_pos hc3]; rfl, rfl⟩
   ·try dsimp only at hc3
    refine zK (zU (zQ (zG ?_)))
    refine yL (Rd.blk 1 rfl) ?_
    refine zE 1 ?_
    refine zR 2 rfl (zN (zU (zT ?_)))
    refine WE.retFS (E' := (.sl 35 8 a3 c3 (fs.map encFl) :: E)) qS tab_ok [_, _, _] rfl ⟨⟨_, _, _, rfl, rfl, rfl, qB, rfl⟩, rfl, rfl, trivial⟩ qR ?_
    exact ⟨a1, a2, a3, c1, c2, c3, ns, ms, fs, 0, 0, rfl, hna, hla, (fun m h => (hom m h).mono hRkz), (fun x h => ⟨(hof x h).1.mono hRkz, (hof x h).2⟩), hnn, by simpa using hcl1, by simpa using hcl2, by simpa using hcl3, by rw [hpn, if_neg (fun h => h (by first | exact hc3 | exact Classical.not_not.1 hc3))], rfl⟩



set_option maxHeartbeats 4000000 in
theorem Port2_C {R : Ro} {b : Nat} {a : Option Addr} {cp : Nat} {xs : List Int} {c : Nat} (w0 : World) (ha : K.RS R 1 encI a xs) : FnAt Tryz.prog 26 [.pointer (some ⟨b, 0, none⟩), .int .i64 2] w0 R (srcE b a cp xs c) (fun v R' e' N => ∃ (L : Ln) (aw at_ : Option Addr) (cw ct cn : Nat), v = .agg #[.int .i64 L.kind, .int .i64 L.cap, .int .i64 L.n, .slice aw L.w.length cw, .slice at_ L.tb.length ct] ∧ K.RS R' 1 encI aw L.w ∧ K.RS R' 1 encI at_ L.tb ∧ DrawP 2 L ∧ e' = srcE b a cp xs cn ∧ N = []) := by
 intro F
 refine fE 85 Tryz.func26 ?_
 refine zQ (zG ?_)
 refine zA fun b4 => ?_
 refine zN (zU (zQ (zG (zR 1 rfl ?_))))
 refine WL.callAt 1 en25 rfl rfl qD (CallOp.mkT rfl rfl rfl rfl) rfl (Range_C (lo := 4) (hi := 24) w0 ha qO qO _) ?_
 rintro _ _ _ _ - ⟨rfl, rfl, rfl, rfl⟩
 have hm0 := mod_range (nth xs (c)) (show (1 : Int) ≤ 24 - 4 + 1 by omega)
 refine zR 1 rfl ?_
 -- build
 refine WG.y rfl rfl qD (Yl.build (parts := [(0, .const (.int .i64 1)), (1, .tmp 11), (2, .tmp 12)]) tab_ok rfl rfl rfl rfl (fun _ => rfl) rfl rfl) ?_
 refine zA fun b5 => ?_
 refine zE 0 ?_
 refine zN (zU (zQ (zQ (zG (zR 3 rfl ?_)))))
 refine yP ?_
 refine WG.callV (v := .int .i64 0) (vs := [.pointer (some ⟨b, 0, none⟩), .int .i64 3]) en17 rfl rfl qD (CallOp.mk' rfl rfl rfl rfl) (by intro h; cases h) (fun h => by cases h) ?_
 refine yP ?_
 refine yN ?_
 refine zN (zU ?_)
 refine W.cond rfl (fun hc0 => ?_) (fun hc0 => ?_)
 ·try simp only [zk] at hc0
  exact absurd hc0.1 qD
 ·try simp only [zk] at hc0
  refine zK (zU (zQ (zQ (zG (zR 1 rfl ?_)))))
  refine WL.callAt 2 en17 rfl rfl qD (CallOp.mkT rfl rfl rfl rfl) rfl (N_C w0 ha (by constructor <;> decide) _) ?_
  rintro _ _ _ _ - ⟨rfl, rfl, rfl, rfl⟩
  have hm1 := mod_range (nth xs (c + 1)) (show (1 : Int) ≤ 4 by decide)
  refine zN (zU (zB (zQ (zG (zR 2 rfl (zN (zU ?_)))))))
  refine W.condE rfl (fun hc1 => ?_) (fun hc1 => ?_)
  ·try dsimp only at hc1
   refine zG (zR 1 rfl ?_)
   refine zF 0 ?_
   refine zN (zL (zU (zQ (zG ?_))))
   refine yL (Rd.blk 0 rfl) ?_
   refine zE 1 ?_
   refine zN (zU (zT ?_))
   refine WE.retFS (E' := srcE b a cp xs (c + 1 + 1) :: F) qS tab_ok [_] rfl ⟨⟨_, _, _, rfl, rfl, rfl, qB, rfl⟩, trivial⟩ (by first | assumption | exact RLe.refl _) ?_
   exact ⟨_, [], rfl, ⟨2, (4 + mod (nth xs c) (24 - 4 + 1)), 2, [], []⟩, none, none, 0, 0, _, rfl, rs_nil, rs_nil, ⟨by dsimp only; omega, rfl, by dsimp only; omega, fun _ => ⟨rfl, rfl⟩, fun h => by dsimp only at h; omega, fun h => by dsimp only at h; omega, fun h => by dsimp only at h; omega, fun h => by dsimp only at h; omega⟩, rfl, rfl⟩
  ·try dsimp only at hc1
   refine zQ (zG (zR 2 rfl (zN (zU ?_))))
   refine W.condE rfl (fun hc2 => ?_) (fun hc2 => ?_)
   ·try dsimp only at hc2
    refine zQ (zG (zR 1 rfl ?_))
    refine zF 0 ?_
    refine zN (zU ?_)
    refine W.nil 3 1 qD ?_
    refine zQ (zG (zR 1 rfl (zN (zU (zB ?_)))))
    refine W.loopK (β := Nat × List Int × Nat × Option Addr × Nat) (fun (i, ys, cn, a9, c9) => ys.length = i ∧ i ≤ 2 ∧ ∀ y ∈ ys, 1 ≤ y ∧ y ≤ 3) (fun (i, ys, cn, a9, c9) => [(6, true, .int .i64 (i : Int))]) [0, 1, 4, 5] [_, _, _, _] [] _ rfl (fun (i, ys, cn, a9, c9) => [(0, .sl 3 1 a9 c9 (ys.map encI)), (1, .blk b5 [.int .i64 3, .int .i64 (4 + mod (nth xs c) (24 - 4 + 1)), .int .i64 2, .slice a9 ys.length c9, .slice none 0 0]), (3, srcE b a cp xs cn)]) (fun (i, ys, cn, a9, c9) => 2 - i) ((0, [], c + 1 + 1, none, 0)) (⟨rfl, Nat.zero_le _, fun y h => (by cases h)⟩) ⟨rfl, rfl, rfl, rfl, rfl, rfl⟩ qS ?_
    intro zz hst
    obtain ⟨i, ys, cn, a9, c9⟩ := zz
    dsimp only [zipE, setAll, List.cons_append, List.nil_append, List.set_cons_zero, List.set_cons_succ] at hst ⊢
    obtain ⟨hy1, hy2, hy3⟩ := hst
    refine zQ (zQ (zG (zR 3 rfl (zN (zU ?_)))))
    refine W.condD rfl (fun hc3 => ?_) (fun hc3 => ?_)
    ·try dsimp only at hc3
     refine zK (zU (zQ (zB ?_)))
     refine W.regionH _ (ES := (.blk b4 [.int .i64 0, .int .i64 0, .int .i64 0, .slice none 0 0, .slice none 0 0] :: F)) mixed ?_
     refine tP 0 ?_
     refine tP 2 ?_
     refine WA.br2 (i := 1) (j := 3) qK ?_ ?_
     ·
      refine sL (Rd.add (Rd.blk 1 rfl) _) ?_
      refine WA.callAt 3 3 rfl qK en25 rfl rfl qD (CallOp.mkT rfl rfl rfl rfl) rfl (Range_C (lo := 1) (hi := 3) w0 ha qO qO _) ?_
      rintro _ _ _ _ - ⟨rfl, rfl, rfl, rfl⟩
      refine ⟨RLe.refl _, qS, ?_⟩
      have hm9 := mod_range (nth xs cn) (show (1 : Int) ≤ 3 - 1 + 1 by omega)
      refine WA.eff 4 rfl qK rfl rfl qD (Ef.buildSliceD (enc := encI) (parts := [.tmp 65]) [_] tab_ok rfl rfl rfl rfl rfl rfl rfl rfl qD qD (fun a66 => ?_))
      refine ⟨qR, qS, ?_⟩
      refine WA.eff 5 rfl (by kernel_rfl) rfl rfl (by decide) (Ef.appendD 1 0 tab_ok rfl rfl rfl rfl rfl rfl rfl rfl rfl rfl rfl (fun _ _ => rfl) (by simp only [List.length_cons, List.length_nil]; omega) (by simp only [List.length_cons, List.length_nil]; omega) (fun a67 c67 ha67 => ?_))
      refine ⟨qR, qS, ?_⟩
      refine tP 6 ?_
      refine zCF 7 2 ?_
      refine WA.done qK ?_
      refine zL (zU (zG (zR 1 rfl ?_)))
      refine yA ?_
      refine zR 1 rfl (zN ?_)
      refine WE.again ((i + 1, ys ++ [1 + mod (nth xs cn) (3 - 1 + 1)], cn + 1, a67, c67)) (⟨by simp only [List.length_append, List.length_cons, List.length_nil]; omega, by omega, fun y hy => by rcases List.mem_append.1 hy with h | h; exact hy3 y h; have := List.mem_singleton.1 h; omega⟩) (by (try dsimp only); omega) ⟨rfl, rfl, rfl, rfl, rfl, rfl⟩ (RLe.refl _) qS
     ·
      refine WS.callAt 3 rfl en25 rfl rfl qD (CallOp.mkT rfl rfl rfl rfl) rfl (Range_C (lo := 1) (hi := 3) w0 ha qO qO _) ?_
      rintro _ _ _ _ - ⟨rfl, rfl, rfl, rfl⟩
      refine ⟨RLe.refl _, qS, ?_⟩
      have hm9 := mod_range (nth xs cn) (show (1 : Int) ≤ 3 - 1 + 1 by omega)
      refine WA.br2 (i := 1) (j := 4) qK ?_ ?_
      ·
       refine sL (Rd.add (Rd.blk 1 rfl) _) ?_
       refine WA.eff 4 rfl qK rfl rfl qD (Ef.buildSliceD (enc := encI) (parts := [.tmp 65]) [_] tab_ok rfl rfl rfl rfl rfl rfl rfl rfl qD qD (fun a66 => ?_))
       refine ⟨qR, qS, ?_⟩
       refine WA.eff 5 rfl (by kernel_rfl) rfl rfl (by decide) (Ef.appendD 1 0 tab_ok rfl rfl rfl rfl rfl rfl rfl rfl rfl rfl rfl (fun _ _ => rfl) (by simp only [List.length_cons, List.length_nil]; omega) (by simp only [List.length_cons, List.length_nil]; omega) (fun a67 c67 ha67 => ?_))
       refine ⟨qR, qS, ?_⟩
       refine tP 6 ?_
       refine zCF 7 2 ?_
       refine WA.done qK ?_
       refine zL (zU (zG (zR 1 rfl ?_)))
       refine yA ?_
       refine zR 1 rfl (zN ?_)
       refine WE.again ((i + 1, ys ++ [1 + mod (nth xs cn) (3 - 1 + 1)], cn + 1, a67, c67)) (⟨by simp only [List.length_append, List.length_cons, List.length_nil]; omega, by omega, fun y hy => by rcases List.mem_append.1 hy with h | h; exact hy3 y h; have := List.mem_singleton.1 h; omega⟩) (by (try dsimp only); omega) ⟨rfl, rfl, rfl, rfl, rfl, rfl⟩ (RLe.refl _) qS
      ·
       refine WS.eff rfl rfl rfl qD (Ef.buildSliceD (enc := encI) (parts := [.tmp 65]) [_] tab_ok rfl rfl rfl rfl rfl rfl rfl rfl qD qD (fun a66 => ?_))
       refine ⟨qR, qS, ?_⟩
       refine lL 1 (Rd.add (Rd.blk 2 rfl) _) ?_
       refine WA.eff 5 rfl (by kernel_rfl) rfl rfl (by decide) (Ef.appendD 1 0 tab_ok rfl rfl rfl rfl rfl rfl rfl rfl rfl rfl rfl (fun _ _ => rfl) (by simp only [List.length_cons, List.length_nil]; omega) (by simp only [List.length_cons, List.length_nil]; omega) (fun a67 c67 ha67 => ?_))
       refine ⟨qR, qS, ?_⟩
       refine tP 6 ?_
       refine zCF 7 2 ?_
       refine WA.done qK ?_
       refine zL (zU (zG (zR 1 rfl ?_)))
       refine yA ?_
       refine zR 1 rfl (zN ?_)
       refine WE.again ((i + 1, ys ++ [1 + mod (nth xs cn) (3 - 1 + 1)], cn + 1, a67, c67)) (⟨by simp only [List.length_append, List.length_cons, List.length_nil]; omega, by omega, fun y hy => by rcases List.mem_append.1 hy with h | h; exact hy3 y h; have := List.mem_singleton.1 h; omega⟩) (by (try dsimp only); omega) ⟨rfl, rfl, rfl, rfl, rfl, rfl⟩ (RLe.refl _) qS
    ·try dsimp only at hc3
     refine W.freeze (enc := encI) (xs := ys) 0 rfl ?_
     intro R1 hR1 hwz
     refine zX ?_
     refine wx (wx (zY (zL (zU (zQ (zG ?_))))))
     refine yL (Rd.blk 0 rfl) ?_
     refine zE 1 ?_
     refine zN (zU (zT ?_))
     refine WE.retFS (E' := srcE b a cp xs (cn) :: F) qS tab_ok [_] rfl ⟨⟨_, _, _, rfl, rfl, rfl, qB, rfl⟩, trivial⟩ (by first | assumption | exact RLe.refl _) ?_
     exact ⟨_, [], rfl, ⟨3, (4 + mod (nth xs c) (24 - 4 + 1)), 2, ys, []⟩, _, none, _, 0, _, rfl, hwz, rs_nil, ⟨by dsimp only; omega, rfl, by dsimp only; omega, fun h => by dsimp only at h; omega, fun h => by dsimp only at h; omega, fun _ => ⟨by dsimp only; omega, hy3, rfl⟩, fun h => by dsimp only at h; omega, fun h => by dsimp only at h; omega⟩, rfl, rfl⟩
   ·try dsimp only at hc2
    refine zQ (zG (zR 2 rfl (zN (zU ?_))))
    refine W.condE rfl (fun hc4 => ?_) (fun hc4 => ?_)
    ·try dsimp only at hc4
     refine zQ (zG (zR 1 rfl ?_))
     refine zF 0 ?_
     refine zN (zU ?_)
     refine W.nil 3 1 qD ?_
     refine zQ (zG (zR 1 rfl (zN (zU (zB ?_)))))
     refine W.loopK (β := Nat × List Int × Nat × Option Addr × Nat) (fun (i, ys, cn, a9, c9) => ys.length = i ∧ i ≤ 2 ∧ ∀ y ∈ ys, 8 ≤ y ∧ y ≤ 20) (fun (i, ys, cn, a9, c9) => [(7, true, .int .i64 (i : Int))]) [0, 1, 4, 5] [_, _, _, _] [] _ rfl (fun (i, ys, cn, a9, c9) => [(0, .sl 3 1 a9 c9 (ys.map encI)), (1, .blk b5 [.int .i64 4, .int .i64 (4 + mod (nth xs c) (24 - 4 + 1)), .int .i64 2, .slice a9 ys.length c9, .slice none 0 0]), (3, srcE b a cp xs cn)]) (fun (i, ys, cn, a9, c9) => 2 - i) ((0, [], c + 1 + 1, none, 0)) (⟨rfl, Nat.zero_le _, fun y h => (by cases h)⟩) ⟨rfl, rfl, rfl, rfl, rfl, rfl⟩ qS ?_
     intro zz hst
     obtain ⟨i, ys, cn, a9, c9⟩ := zz
     dsimp only [zipE, setAll, List.cons_append, List.nil_append, List.set_cons_zero, List.set_cons_succ] at hst ⊢
     obtain ⟨hy1, hy2, hy3⟩ := hst
     refine zQ (zQ (zG (zR 3 rfl (zN (zU ?_)))))
     refine W.condD rfl (fun hc5 => ?_) (fun hc5 => ?_)
     ·try dsimp only at hc5
      refine zK (zU (zQ (zB ?_)))
      refine W.regionH _ (ES := (.blk b4 [.int .i64 0, .int .i64 0, .int .i64 0, .slice none 0 0, .slice none 0 0] :: F)) mixed ?_
      refine tP 0 ?_
      refine tP 2 ?_
      refine WA.br2 (i := 1) (j := 3) qK ?_ ?_
      ·
       refine sL (Rd.add (Rd.blk 1 rfl) _) ?_
       refine WA.callAt 3 3 rfl qK en25 rfl rfl qD (CallOp.mkT rfl rfl rfl rfl) rfl (Range_C (lo := 8) (hi := 20) w0 ha qO qO _) ?_
       rintro _ _ _ _ - ⟨rfl, rfl, rfl, rfl⟩
       refine ⟨RLe.refl _, qS, ?_⟩
       have hm9 := mod_range (nth xs cn) (show (1 : Int) ≤ 20 - 8 + 1 by omega)
       refine WA.eff 4 rfl qK rfl rfl qD (Ef.buildSliceD (enc := encI) (parts := [.tmp 80]) [_] tab_ok rfl rfl rfl rfl rfl rfl rfl rfl qD qD (fun a81 => ?_))
       refine ⟨qR, qS, ?_⟩
       refine WA.eff 5 rfl (by kernel_rfl) rfl rfl (by decide) (Ef.appendD 1 0 tab_ok rfl rfl rfl rfl rfl rfl rfl rfl rfl rfl rfl (fun _ _ => rfl) (by simp only [List.length_cons, List.length_nil]; omega) (by simp only [List.length_cons, List.length_nil]; omega) (fun a82 c82 ha82 => ?_))
       refine ⟨qR, qS, ?_⟩
       refine tP 6 ?_
       refine zCF 7 2 ?_
       refine WA.done qK ?_
       refine zL (zU (zG (zR 1 rfl ?_)))
       refine yA ?_
       refine zR 1 rfl (zN ?_)
       refine WE.again ((i + 1, ys ++ [8 + mod (nth xs cn) (20 - 8 + 1)], cn + 1, a82, c82)) (⟨by simp only [List.length_append, List.length_cons, List.length_nil]; omega, by omega, fun y hy => by rcases List.mem_append.1 hy with h | h; exact hy3 y h; have := List.mem_singleton.1 h; omega⟩) (by (try dsimp only); omega) ⟨rfl, rfl, rfl, rfl, rfl, rfl⟩ (RLe.refl _) qS
      ·
       refine WS.callAt 3 rfl en25 rfl rfl qD (CallOp.mkT rfl rfl rfl rfl) rfl (Range_C (lo := 8) (hi := 20) w0 ha qO qO _) ?_
       rintro _ _ _ _ - ⟨rfl, rfl, rfl, rfl⟩
       refine ⟨RLe.refl _, qS, ?_⟩
       have hm9 := mod_range (nth xs cn) (show (1 : Int) ≤ 20 - 8 + 1 by omega)
       refine WA.br2 (i := 1) (j := 4) qK ?_ ?_
       ·
        refine sL (Rd.add (Rd.blk 1 rfl) _) ?_
        refine WA.eff 4 rfl qK rfl rfl qD (Ef.buildSliceD (enc := encI) (parts := [.tmp 80]) [_] tab_ok rfl rfl rfl rfl rfl rfl rfl rfl qD qD (fun a81 => ?_))
        refine ⟨qR, qS, ?_⟩
        refine WA.eff 5 rfl (by kernel_rfl) rfl rfl (by decide) (Ef.appendD 1 0 tab_ok rfl rfl rfl rfl rfl rfl rfl rfl rfl rfl rfl (fun _ _ => rfl) (by simp only [List.length_cons, List.length_nil]; omega) (by simp only [List.length_cons, List.length_nil]; omega) (fun a82 c82 ha82 => ?_))
        refine ⟨qR, qS, ?_⟩
        refine tP 6 ?_
        refine zCF 7 2 ?_
        refine WA.done qK ?_
        refine zL (zU (zG (zR 1 rfl ?_)))
        refine yA ?_
        refine zR 1 rfl (zN ?_)
        refine WE.again ((i + 1, ys ++ [8 + mod (nth xs cn) (20 - 8 + 1)], cn + 1, a82, c82)) (⟨by simp only [List.length_append, List.length_cons, List.length_nil]; omega, by omega, fun y hy => by rcases List.mem_append.1 hy with h | h; exact hy3 y h; have := List.mem_singleton.1 h; omega⟩) (by (try dsimp only); omega) ⟨rfl, rfl, rfl, rfl, rfl, rfl⟩ (RLe.refl _) qS
       ·
        refine WS.eff rfl rfl rfl qD (Ef.buildSliceD (enc := encI) (parts := [.tmp 80]) [_] tab_ok rfl rfl rfl rfl rfl rfl rfl rfl qD qD (fun a81 => ?_))
        refine ⟨qR, qS, ?_⟩
        refine lL 1 (Rd.add (Rd.blk 2 rfl) _) ?_
        refine WA.eff 5 rfl (by kernel_rfl) rfl rfl (by decide) (Ef.appendD 1 0 tab_ok rfl rfl rfl rfl rfl rfl rfl rfl rfl rfl rfl (fun _ _ => rfl) (by simp only [List.length_cons, List.length_nil]; omega) (by simp only [List.length_cons, List.length_nil]; omega) (fun a82 c82 ha82 => ?_))
        refine ⟨qR, qS, ?_⟩
        refine tP 6 ?_
        refine zCF 7 2 ?_
        refine WA.done qK ?_
        refine zL (zU (zG (zR 1 rfl ?_)))
        refine yA ?_
        refine zR 1 rfl (zN ?_)
        refine WE.again ((i + 1, ys ++ [8 + mod (nth xs cn) (20 - 8 + 1)], cn + 1, a82, c82)) (⟨by simp only [List.length_append, List.length_cons, List.length_nil]; omega, by omega, fun y hy => by rcases List.mem_append.1 hy with h | h; exact hy3 y h; have := List.mem_singleton.1 h; omega⟩) (by (try dsimp only); omega) ⟨rfl, rfl, rfl, rfl, rfl, rfl⟩ (RLe.refl _) qS
     ·try dsimp only at hc5
      refine W.freeze (enc := encI) (xs := ys) 0 rfl ?_
      intro R1 hR1 hwz
      refine zX ?_
      refine wx (wx (zY (zL (zU (zQ (zG ?_))))))
      refine yL (Rd.blk 0 rfl) ?_
      refine zE 1 ?_
      refine zN (zU (zT ?_))
      refine WE.retFS (E' := srcE b a cp xs (cn) :: F) qS tab_ok [_] rfl ⟨⟨_, _, _, rfl, rfl, rfl, qB, rfl⟩, trivial⟩ (by first | assumption | exact RLe.refl _) ?_
      exact ⟨_, [], rfl, ⟨4, (4 + mod (nth xs c) (24 - 4 + 1)), 2, ys, []⟩, _, none, _, 0, _, rfl, hwz, rs_nil, ⟨by dsimp only; omega, rfl, by dsimp only; omega, fun h => by dsimp only at h; omega, fun h => by dsimp only at h; omega, fun h => by dsimp only at h; omega, fun _ => ⟨by dsimp only; omega, hy3, rfl⟩, fun h => by dsimp only at h; omega⟩, rfl, rfl⟩
    ·try dsimp only at hc4
     refine zQ (zG (zR 1 rfl ?_))
     refine zF 0 ?_
     refine zN (zU (zQ ?_))
     refine W.nil 3 1 qD ?_
     refine zQ (zG (zR 1 rfl (zN (zU (zB ?_)))))
     refine W.loopK (β := Nat × List Int × Option Addr × Nat) (fun (i, ys, a9, c9) => ys.length = i ∧ i ≤ 2 ∧ ∀ y ∈ ys, -1 ≤ y ∧ y ≤ (2 : Int) - 1) (fun (i, ys, a9, c9) => [(8, true, .int .i64 (i : Int))]) [0, 1, 4, 5] [_, _, _, _] [] _ rfl (fun (i, ys, a9, c9) => [(0, .sl 3 1 a9 c9 (ys.map encI)), (1, .blk b5 [.int .i64 5, .int .i64 (4 + mod (nth xs c) (24 - 4 + 1)), .int .i64 2, .slice none 0 0, .slice a9 ys.length c9])]) (fun (i, ys, a9, c9) => 2 - i) ((0, [], none, 0)) (⟨rfl, Nat.zero_le _, fun y h => (by cases h)⟩) ⟨rfl, rfl, rfl, rfl, rfl, rfl⟩ qS ?_
     intro zz hst
     obtain ⟨i, ys, a9, c9⟩ := zz
     dsimp only [zipE, setAll, List.cons_append, List.nil_append, List.set_cons_zero, List.set_cons_succ] at hst ⊢
     obtain ⟨hy1, hy2, hy3⟩ := hst
     refine zQ (zQ (zG (zR 3 rfl (zN (zU ?_)))))
     refine W.condD rfl (fun hc6 => ?_) (fun hc6 => ?_)
     ·try dsimp only at hc6
      refine zK (zU (zQ (zB (zG (zR 1 rfl ?_)))))
      refine yL (Rd.add (Rd.blk 1 rfl) _) ?_
      refine zR 1 rfl ?_
      refine WL.ef rfl rfl qD (Ef.buildSliceD (enc := encI) (parts := [.tmp 32]) [_] tab_ok rfl rfl rfl rfl rfl rfl rfl rfl qD qD (fun a33 => ?_))
      refine WL.ef rfl rfl (by decide) (Ef.appendD 1 0 tab_ok rfl rfl rfl rfl rfl rfl rfl rfl rfl rfl rfl (fun _ _ => rfl) (by simp only [List.length_cons, List.length_nil]; omega) (by simp only [List.length_cons, List.length_nil]; omega) (fun a34 c34 ha34 => ?_))
      refine zR 1 rfl ?_
      refine zF 2 ?_
      refine zN (zL (zU (zG (zR 1 rfl ?_))))
      refine yA ?_
      refine zR 1 rfl (zN ?_)
      refine WE.again ((i + 1, ys ++ [(i : Int)], a34, c34)) (⟨by simp only [List.length_append, List.length_cons, List.length_nil]; omega, by omega, fun y hy => by rcases List.mem_append.1 hy with h | h; exact hy3 y h; have := List.mem_singleton.1 h; omega⟩) (by (try dsimp only); omega) ⟨rfl, rfl, rfl, rfl, rfl, rfl⟩ (RLe.refl _) qS
     ·try dsimp only at hc6
      refine zX ?_
      refine wx (wx (zY (zU (zQ (zG (zR 1 rfl ?_))))))
      refine WL.callAt 3 en17 rfl rfl qD (CallOp.mkT rfl rfl rfl rfl) rfl (N_C w0 ha (by constructor <;> decide) _) ?_
      rintro _ _ _ _ - ⟨rfl, rfl, rfl, rfl⟩
      have hm8 := mod_range (nth xs (c + 1 + 1)) (show (1 : Int) ≤ 3 by decide)
      obtain ⟨k8, hk8⟩ := Int.eq_ofNat_of_zero_le hm8.1
      rw [hk8]
      refine zR 1 rfl (zN (zU (zB ?_)))
      refine W.loopK (β := Nat × List Int × Nat × Option Addr × Nat) (fun (j, ys, cn, a9, c9) => 2 ≤ ys.length ∧ ys.length + j ≤ 4 ∧ ∀ y ∈ ys, -1 ≤ y ∧ y ≤ (2 : Int) - 1) (fun (j, ys, cn, a9, c9) => [(9, true, .int .i64 (j : Int))]) [0, 1, 4, 5] [_, _, _, _] [] _ rfl (fun (j, ys, cn, a9, c9) => [(0, .sl 3 1 a9 c9 (ys.map encI)), (1, .blk b5 [.int .i64 5, .int .i64 (4 + mod (nth xs c) (24 - 4 + 1)), .int .i64 2, .slice none 0 0, .slice a9 ys.length c9]), (3, srcE b a cp xs cn)]) (fun (j, ys, cn, a9, c9) => j) ((k8, ys, c + 1 + 1 + 1, a9, c9)) (⟨by (try dsimp only); omega, by (try dsimp only); omega, hy3⟩) ⟨rfl, rfl, rfl, rfl, rfl, rfl⟩ qS ?_
      intro zz hst
      obtain ⟨j, ys, cn, a9, c9⟩ := zz
      dsimp only [zipE, setAll, List.cons_append, List.nil_append, List.set_cons_zero, List.set_cons_succ] at hst ⊢
      obtain ⟨hy1, hy2, hy3⟩ := hst
      refine zQ (zQ (zG (zR 2 rfl (zN (zU ?_)))))
      refine W.condD rfl (fun hc7 => ?_) (fun hc7 => ?_)
      ·try dsimp only at hc7
       obtain ⟨j, rfl⟩ : ∃ m, j = m + 1 := ⟨j - 1, by omega⟩
       refine zK (zU (zQ (zB ?_)))
       refine W.regionH _ (ES := (.blk b4 [.int .i64 0, .int .i64 0, .int .i64 0, .slice none 0 0, .slice none 0 0] :: F)) mixed ?_
       refine tP 0 ?_
       refine tP 2 ?_
       refine tP 3 ?_
       refine tS 4 ?_
       refine WA.br2 (i := 1) (j := 5) qK ?_ ?_
       ·
        refine sL (Rd.add (Rd.blk 1 rfl) _) ?_
        refine WA.callAt 3 5 rfl qK en25 rfl rfl qD (CallOp.mkT rfl rfl rfl rfl) rfl (Range_C (lo := (-1)) (hi := (2 - 1)) w0 ha qO qO _) ?_
        rintro _ _ _ _ - ⟨rfl, rfl, rfl, rfl⟩
        refine ⟨RLe.refl _, qS, ?_⟩
        have hm9 := mod_range (nth xs cn) (show (1 : Int) ≤ (2 - 1) - (-1) + 1 by omega)
        refine WA.eff 6 rfl qK rfl rfl qD (Ef.buildSliceD (enc := encI) (parts := [.tmp 47]) [_] tab_ok rfl rfl rfl rfl rfl rfl rfl rfl qD qD (fun a48 => ?_))
        refine ⟨qR, qS, ?_⟩
        refine WA.eff 7 rfl (by kernel_rfl) rfl rfl (by decide) (Ef.appendD 1 0 tab_ok rfl rfl rfl rfl rfl rfl rfl rfl rfl rfl rfl (fun _ _ => rfl) (by simp only [List.length_cons, List.length_nil]; omega) (by simp only [List.length_cons, List.length_nil]; omega) (fun a49 c49 ha49 => ?_))
        refine ⟨qR, qS, ?_⟩
        refine tP 8 ?_
        refine zCF 9 2 ?_
        refine WA.done qK ?_
        refine zL (zU (zG (zR 1 rfl ?_)))
        refine yS ?_
        refine zR 1 rfl (zN ?_)
        refine WE.again ((j, ys ++ [-1 + mod (nth xs cn) ((2 - 1) - -1 + 1)], cn + 1, a49, c49)) (⟨by simp only [List.length_append, List.length_cons, List.length_nil]; omega, by simp only [List.length_append, List.length_cons, List.length_nil]; omega, fun y hy => by rcases List.mem_append.1 hy with h | h; exact hy3 y h; have := List.mem_singleton.1 h; omega⟩) (by (try dsimp only); omega) ⟨vint (by omega), rfl, rfl, rfl, rfl, rfl⟩ (RLe.refl _) qS
       ·
        refine WS.callAt 3 rfl en25 rfl rfl qD (CallOp.mkT rfl rfl rfl rfl) rfl (Range_C (lo := (-1)) (hi := (2 - 1)) w0 ha qO qO _) ?_
        rintro _ _ _ _ - ⟨rfl, rfl, rfl, rfl⟩
        refine ⟨RLe.refl _, qS, ?_⟩
        have hm9 := mod_range (nth xs cn) (show (1 : Int) ≤ (2 - 1) - (-1) + 1 by omega)
        refine WA.br2 (i := 1) (j := 6) qK ?_ ?_
        ·
         refine sL (Rd.add (Rd.blk 1 rfl) _) ?_
         refine WA.eff 6 rfl qK rfl rfl qD (Ef.buildSliceD (enc := encI) (parts := [.tmp 47]) [_] tab_ok rfl rfl rfl rfl rfl rfl rfl rfl qD qD (fun a48 => ?_))
         refine ⟨qR, qS, ?_⟩
         refine WA.eff 7 rfl (by kernel_rfl) rfl rfl (by decide) (Ef.appendD 1 0 tab_ok rfl rfl rfl rfl rfl rfl rfl rfl rfl rfl rfl (fun _ _ => rfl) (by simp only [List.length_cons, List.length_nil]; omega) (by simp only [List.length_cons, List.length_nil]; omega) (fun a49 c49 ha49 => ?_))
         refine ⟨qR, qS, ?_⟩
         refine tP 8 ?_
         refine zCF 9 2 ?_
         refine WA.done qK ?_
         refine zL (zU (zG (zR 1 rfl ?_)))
         refine yS ?_
         refine zR 1 rfl (zN ?_)
         refine WE.again ((j, ys ++ [-1 + mod (nth xs cn) ((2 - 1) - -1 + 1)], cn + 1, a49, c49)) (⟨by simp only [List.length_append, List.length_cons, List.length_nil]; omega, by simp only [List.length_append, List.length_cons, List.length_nil]; omega, fun y hy => by rcases List.mem_append.1 hy with h | h; exact hy3 y h; have := List.mem_singleton.1 h; omega⟩) (by (try dsimp only); omega) ⟨vint (by omega), rfl, rfl, rfl, rfl, rfl⟩ (RLe.refl _) qS
        ·
         refine WS.eff rfl rfl rfl qD (Ef.buildSliceD (enc := encI) (parts := [.tmp 47]) [_] tab_ok rfl rfl rfl rfl rfl rfl rfl rfl qD qD (fun a48 => ?_))
         refine ⟨qR, qS, ?_⟩
         refine lL 1 (Rd.add (Rd.blk 2 rfl) _) ?_
         refine WA.eff 7 rfl (by kernel_rfl) rfl rfl (by decide) (Ef.appendD 1 0 tab_ok rfl rfl rfl rfl rfl rfl rfl rfl rfl rfl rfl (fun _ _ => rfl) (by simp only [List.length_cons, List.length_nil]; omega) (by simp only [List.length_cons, List.length_nil]; omega) (fun a49 c49 ha49 => ?_))
         refine ⟨qR, qS, ?_⟩
         refine tP 8 ?_
         refine zCF 9 2 ?_
         refine WA.done qK ?_
         refine zL (zU (zG (zR 1 rfl ?_)))
         refine yS ?_
         refine zR 1 rfl (zN ?_)
         refine WE.again ((j, ys ++ [-1 + mod (nth xs cn) ((2 - 1) - -1 + 1)], cn + 1, a49, c49)) (⟨by simp only [List.length_append, List.length_cons, List.length_nil]; omega, by simp only [List.length_append, List.length_cons, List.length_nil]; omega, fun y hy => by rcases List.mem_append.1 hy with h | h; exact hy3 y h; have := List.mem_singleton.1 h; omega⟩) (by (try dsimp only); omega) ⟨vint (by omega), rfl, rfl, rfl, rfl, rfl⟩ (RLe.refl _) qS
      ·try dsimp only at hc7
       refine W.freeze (enc := encI) (xs := ys) 0 rfl ?_
       intro R1 hR1 hwz
       refine zX ?_
       refine wx (wx (zY (zL (zU (zQ (zG ?_))))))
       refine yL (Rd.blk 0 rfl) ?_
       refine zE 1 ?_
       refine zN (zU (zT ?_))
       refine WE.retFS (E' := srcE b a cp xs (cn) :: F) qS tab_ok [_] rfl ⟨⟨_, _, _, rfl, rfl, rfl, qB, rfl⟩, trivial⟩ (by first | assumption | exact RLe.refl _) ?_
       exact ⟨_, [], rfl, ⟨5, (4 + mod (nth xs c) (24 - 4 + 1)), 2, [], ys⟩, none, _, 0, _, _, rfl, rs_nil, hwz, ⟨by dsimp only; omega, rfl, by dsimp only; omega, fun h => by dsimp only at h; omega, fun h => by dsimp only at h; omega, fun h => by dsimp only at h; omega, fun h => by dsimp only at h; omega, fun _ => ⟨rfl, by dsimp only; omega, by dsimp only; omega, hy3⟩⟩, rfl, rfl⟩

set_option maxHeartbeats 4000000 in
theorem Port1_C {R : Ro} {b : Nat} {a : Option Addr} {cp : Nat} {xs : List Int} {c : Nat} (w0 : World) (ha : K.RS R 1 encI a xs) : FnAt Tryz.prog 26 [.pointer (some ⟨b, 0, none⟩), .int .i64 1] w0 R (srcE b a cp xs c) (fun v R' e' N => ∃ (L : Ln) (aw at_ : Option Addr) (cw ct cn : Nat), v = .agg #[.int .i64 L.kind, .int .i64 L.cap, .int .i64 L.n, .slice aw L.w.length cw, .slice at_ L.tb.length ct] ∧ K.RS R' 1 encI aw L.w ∧ K.RS R' 1 encI at_ L.tb ∧ DrawP 1 L ∧ e' = srcE b a cp xs cn ∧ N = []) := by
 intro F
 refine fE 85 Tryz.func26 ?_
 refine zQ (zG ?_)
 refine zA fun b4 => ?_
 refine zN (zU (zQ (zG (zR 1 rfl ?_))))
 refine WL.callAt 1 en25 rfl rfl qD (CallOp.mkT rfl rfl rfl rfl) rfl (Range_C (lo := 4) (hi := 24) w0 ha qO qO _) ?_
 rintro _ _ _ _ - ⟨rfl, rfl, rfl, rfl⟩
 have hm0 := mod_range (nth xs (c)) (show (1 : Int) ≤ 24 - 4 + 1 by omega)
 refine zR 1 rfl ?_
 -- build
 refine WG.y rfl rfl qD (Yl.build (parts := [(0, .const (.int .i64 1)), (1, .tmp 11), (2, .tmp 12)]) tab_ok rfl rfl rfl rfl (fun _ => rfl) rfl rfl) ?_
 refine zA fun b5 => ?_
 refine zE 0 ?_
 refine zN (zU (zQ (zQ (zG (zR 3 rfl ?_)))))
 refine yP ?_
 refine WL.callAtT 2 en17 rfl rfl (by rfl) qD (CallOp.mk' rfl rfl rfl rfl) rfl rfl (N_C (n := 3) w0 ha (by constructor <;> decide) _) ?_
 rintro _ _ _ _ - ⟨rfl, rfl, rfl, rfl⟩
 have hm2 := mod_range (nth xs (c + 1)) (show (1 : Int) ≤ 3 by decide)
 refine yP ?_
 refine yN ?_
 refine zN (zU ?_)
 refine W.cond rfl (fun hc0 => ?_) (fun hc0 => ?_)
 ·try simp only [zk] at hc0
  refine zQ (zG ?_)
  refine yL (Rd.blk 0 rfl) ?_
  refine zE 1 ?_
  refine zN (zU (zT (wt ?_)))
  refine WE.retFS (E' := srcE b a cp xs (c + 1 + 1) :: F) qS tab_ok [_] rfl ⟨⟨_, _, _, rfl, rfl, rfl, qB, rfl⟩, trivial⟩ (by first | assumption | exact RLe.refl _) ?_
  exact ⟨_, [], rfl, ⟨1, (4 + mod (nth xs c) (24 - 4 + 1)), 1, [], []⟩, none, none, 0, 0, _, rfl, rs_nil, rs_nil, ⟨by dsimp only; omega, rfl, by dsimp only; omega, fun _ => ⟨rfl, rfl⟩, fun _ => rfl, fun h => by dsimp only at h; omega, fun h => by dsimp only at h; omega, fun h => by dsimp only at h; omega⟩, rfl, rfl⟩
 ·try simp only [zk] at hc0
  refine zK (zU (zQ (zQ (zG (zR 1 rfl ?_)))))
  refine WL.callAt 2 en17 rfl rfl qD (CallOp.mkT rfl rfl rfl rfl) rfl (N_C w0 ha (by constructor <;> decide) _) ?_
  rintro _ _ _ _ - ⟨rfl, rfl, rfl, rfl⟩
  have hm1 := mod_range (nth xs (c + 1 + 1)) (show (1 : Int) ≤ 4 by decide)
  refine zN (zU (zB (zQ (zG (zR 2 rfl (zN (zU ?_)))))))
  refine W.condE rfl (fun hc1 => ?_) (fun hc1 => ?_)
  ·try dsimp only at hc1
   refine zG (zR 1 rfl ?_)
   refine zF 0 ?_
   refine zN (zL (zU (zQ (zG ?_))))
   refine yL (Rd.blk 0 rfl) ?_
   refine zE 1 ?_
   refine zN (zU (zT ?_))
   refine WE.retFS (E' := srcE b a cp xs (c + 1 + 1 + 1) :: F) qS tab_ok [_] rfl ⟨⟨_, _, _, rfl, rfl, rfl, qB, rfl⟩, trivial⟩ (by first | assumption | exact RLe.refl _) ?_
   exact ⟨_, [], rfl, ⟨2, (4 + mod (nth xs c) (24 - 4 + 1)), 1, [], []⟩, none, none, 0, 0, _, rfl, rs_nil, rs_nil, ⟨by dsimp only; omega, rfl, by dsimp only; omega, fun _ => ⟨rfl, rfl⟩, fun h => by dsimp only at h; omega, fun h => by dsimp only at h; omega, fun h => by dsimp only at h; omega, fun h => by dsimp only at h; omega⟩, rfl, rfl⟩
  ·try dsimp only at hc1
   refine zQ (zG (zR 2 rfl (zN (zU ?_))))
   refine W.condE rfl (fun hc2 => ?_) (fun hc2 => ?_)
   ·try dsimp only at hc2
    refine zQ (zG (zR 1 rfl ?_))
    refine zF 0 ?_
    refine zN (zU ?_)
    refine W.nil 3 1 qD ?_
    refine zQ (zG (zR 1 rfl (zN (zU (zB ?_)))))
    refine W.loopK (β := Nat × List Int × Nat × Option Addr × Nat) (fun (i, ys, cn, a9, c9) => ys.length = i ∧ i ≤ 1 ∧ ∀ y ∈ ys, 1 ≤ y ∧ y ≤ 3) (fun (i, ys, cn, a9, c9) => [(6, true, .int .i64 (i : Int))]) [0, 1, 4, 5] [_, _, _, _] [] _ rfl (fun (i, ys, cn, a9, c9) => [(0, .sl 3 1 a9 c9 (ys.map encI)), (1, .blk b5 [.int .i64 3, .int .i64 (4 + mod (nth xs c) (24 - 4 + 1)), .int .i64 1, .slice a9 ys.length c9, .slice none 0 0]), (3, srcE b a cp xs cn)]) (fun (i, ys, cn, a9, c9) => 1 - i) ((0, [], c + 1 + 1 + 1, none, 0)) (⟨rfl, Nat.zero_le _, fun y h => (by cases h)⟩) ⟨rfl, rfl, rfl, rfl, rfl, rfl⟩ qS ?_
    intro zz hst
    obtain ⟨i, ys, cn, a9, c9⟩ := zz
    dsimp only [zipE, setAll, List.cons_append, List.nil_append, List.set_cons_zero, List.set_cons_succ] at hst ⊢
    obtain ⟨hy1, hy2, hy3⟩ := hst
    refine zQ (zQ (zG (zR 3 rfl (zN (zU ?_)))))
    refine W.condD rfl (fun hc3 => ?_) (fun hc3 => ?_)
    ·try dsimp only at hc3
     refine zK (zU (zQ (zB ?_)))
     refine W.regionH _ (ES := (.blk b4 [.int .i64 0, .int .i64 0, .int .i64 0, .slice none 0 0, .slice none 0 0] :: F)) mixed ?_
     refine tP 0 ?_
     refine tP 2 ?_
     refine WA.br2 (i := 1) (j := 3) qK ?_ ?_
     ·
      refine sL (Rd.add (Rd.blk 1 rfl) _) ?_
      refine WA.callAt 3 3 rfl qK en25 rfl rfl qD (CallOp.mkT rfl rfl rfl rfl) rfl (Range_C (lo := 1) (hi := 3) w0 ha qO qO _) ?_
      rintro _ _ _ _ - ⟨rfl, rfl, rfl, rfl⟩
      refine ⟨RLe.refl _, qS, ?_⟩
      have hm9 := mod_range (nth xs cn) (show (1 : Int) ≤ 3 - 1 + 1 by omega)
      refine WA.eff 4 rfl qK rfl rfl qD (Ef.buildSliceD (enc := encI) (parts := [.tmp 65]) [_] tab_ok rfl rfl rfl rfl rfl rfl rfl rfl qD qD (fun a66 => ?_))
      refine ⟨qR, qS, ?_⟩
      refine WA.eff 5 rfl (by kernel_rfl) rfl rfl (by decide) (Ef.appendD 1 0 tab_ok rfl rfl rfl rfl rfl rfl rfl rfl rfl rfl rfl (fun _ _ => rfl) (by simp only [List.length_cons, List.length_nil]; omega) (by simp only [List.length_cons, List.length_nil]; omega) (fun a67 c67 ha67 => ?_))
      refine ⟨qR, qS, ?_⟩
      refine tP 6 ?_
      refine zCF 7 2 ?_
      refine WA.done qK ?_
      refine zL (zU (zG (zR 1 rfl ?_)))
      refine yA ?_
      refine zR 1 rfl (zN ?_)
      refine WE.again ((i + 1, ys ++ [1 + mod (nth xs cn) (3 - 1 + 1)], cn + 1, a67, c67)) (⟨by simp only [List.length_append, List.length_cons, List.length_nil]; omega, by omega, fun y hy => by rcases List.mem_append.1 hy with h | h; exact hy3 y h; have := List.mem_singleton.1 h; omega⟩) (by (try dsimp only); omega) ⟨rfl, rfl, rfl, rfl, rfl, rfl⟩ (RLe.refl _) qS
     ·
      refine WS.callAt 3 rfl en25 rfl rfl qD (CallOp.mkT rfl rfl rfl rfl) rfl (Range_C (lo := 1) (hi := 3) w0 ha qO qO _) ?_
      rintro _ _ _ _ - ⟨rfl, rfl, rfl, rfl⟩
      refine ⟨RLe.refl _, qS, ?_⟩
      have hm9 := mod_range (nth xs cn) (show (1 : Int) ≤ 3 - 1 + 1 by omega)
      refine WA.br2 (i := 1) (j := 4) qK ?_ ?_
      ·
       refine sL (Rd.add (Rd.blk 1 rfl) _) ?_
       refine WA.eff 4 rfl qK rfl rfl qD (Ef.buildSliceD (enc := encI) (parts := [.tmp 65]) [_] tab_ok rfl rfl rfl rfl rfl rfl rfl rfl qD qD (fun a66 => ?_))
       refine ⟨qR, qS, ?_⟩
       refine WA.eff 5 rfl (by kernel_rfl) rfl rfl (by decide) (Ef.appendD 1 0 tab_ok rfl rfl rfl rfl rfl rfl rfl rfl rfl rfl rfl (fun _ _ => rfl) (by simp only [List.length_cons, List.length_nil]; omega) (by simp only [List.length_cons, List.length_nil]; omega) (fun a67 c67 ha67 => ?_))
       refine ⟨qR, qS, ?_⟩
       refine tP 6 ?_
       refine zCF 7 2 ?_
       refine WA.done qK ?_
       refine zL (zU (zG (zR 1 rfl ?_)))
       refine yA ?_
       refine zR 1 rfl (zN ?_)
       refine WE.again ((i + 1, ys ++ [1 + mod (nth xs cn) (3 - 1 + 1)], cn + 1, a67, c67)) (⟨by simp only [List.length_append, List.length_cons, List.length_nil]; omega, by omega, fun y hy => by rcases List.mem_append.1 hy with h | h; exact hy3 y h; have := List.mem_singleton.1 h; omega⟩) (by (try dsimp only); omega) ⟨rfl, rfl, rfl, rfl, rfl, rfl⟩ (RLe.refl _) qS
      ·
       refine WS.eff rfl rfl rfl qD (Ef.buildSliceD (enc := encI) (parts := [.tmp 65]) [_] tab_ok rfl rfl rfl rfl rfl rfl rfl rfl qD qD (fun a66 => ?_))
       refine ⟨qR, qS, ?_⟩
       refine lL 1 (Rd.add (Rd.blk 2 rfl) _) ?_
       refine WA.eff 5 rfl (by kernel_rfl) rfl rfl (by decide) (Ef.appendD 1 0 tab_ok rfl rfl rfl rfl rfl rfl rfl rfl rfl rfl rfl (fun _ _ => rfl) (by simp only [List.length_cons, List.length_nil]; omega) (by simp only [List.length_cons, List.length_nil]; omega) (fun a67 c67 ha67 => ?_))
       refine ⟨qR, qS, ?_⟩
       refine tP 6 ?_
       refine zCF 7 2 ?_
       refine WA.done qK ?_
       refine zL (zU (zG (zR 1 rfl ?_)))
       refine yA ?_
       refine zR 1 rfl (zN ?_)
       refine WE.again ((i + 1, ys ++ [1 + mod (nth xs cn) (3 - 1 + 1)], cn + 1, a67, c67)) (⟨by simp only [List.length_append, List.length_cons, List.length_nil]; omega, by omega, fun y hy => by rcases List.mem_append.1 hy with h | h; exact hy3 y h; have := List.mem_singleton.1 h; omega⟩) (by (try dsimp only); omega) ⟨rfl, rfl, rfl, rfl, rfl, rfl⟩ (RLe.refl _) qS
    ·try dsimp only at hc3
     refine W.freeze (enc := encI) (xs := ys) 0 rfl ?_
     intro R1 hR1 hwz
     refine zX ?_
     refine wx (wx (zY (zL (zU (zQ (zG ?_))))))
     refine yL (Rd.blk 0 rfl) ?_
     refine zE 1 ?_
     refine zN (zU (zT ?_))
     refine WE.retFS (E' := srcE b a cp xs (cn) :: F) qS tab_ok [_] rfl ⟨⟨_, _, _, rfl, rfl, rfl, qB, rfl⟩, trivial⟩ (by first | assumption | exact RLe.refl _) ?_
     exact ⟨_, [], rfl, ⟨3, (4 + mod (nth xs c) (24 - 4 + 1)), 1, ys, []⟩, _, none, _, 0, _, rfl, hwz, rs_nil, ⟨by dsimp only; omega, rfl, by dsimp only; omega, fun h => by dsimp only at h; omega, fun h => by dsimp only at h; omega, fun _ => ⟨by dsimp only; omega, hy3, rfl⟩, fun h => by dsimp only at h; omega, fun h => by dsimp only at h; omega⟩, rfl, rfl⟩
   ·try dsimp only at hc2
    refine zQ (zG (zR 2 rfl (zN (zU ?_))))
    refine W.condE rfl (fun hc4 => ?_) (fun hc4 => ?_)
    ·try dsimp only at hc4
     refine zQ (zG (zR 1 rfl ?_))
     refine zF 0 ?_
     refine zN (zU ?_)
     refine W.nil 3 1 qD ?_
     refine zQ (zG (zR 1 rfl (zN (zU (zB ?_)))))
     refine W.loopK (β := Nat × List Int × Nat × Option Addr × Nat) (fun (i, ys, cn, a9, c9) => ys.length = i ∧ i ≤ 1 ∧ ∀ y ∈ ys, 8 ≤ y ∧ y ≤ 20) (fun (i, ys, cn, a9, c9) => [(7, true, .int .i64 (i : Int))]) [0, 1, 4, 5] [_, _, _, _] [] _ rfl (fun (i, ys, cn, a9, c9) => [(0, .sl 3 1 a9 c9 (ys.map encI)), (1, .blk b5 [.int .i64 4, .int .i64 (4 + mod (nth xs c) (24 - 4 + 1)), .int .i64 1, .slice a9 ys.length c9, .slice none 0 0]), (3, srcE b a cp xs cn)]) (fun (i, ys, cn, a9, c9) => 1 - i) ((0, [], c + 1 + 1 + 1, none, 0)) (⟨rfl, Nat.zero_le _, fun y h => (by cases h)⟩) ⟨rfl, rfl, rfl, rfl, rfl, rfl⟩ qS ?_
     intro zz hst
     obtain ⟨i, ys, cn, a9, c9⟩ := zz
     dsimp only [zipE, setAll, List.cons_append, List.nil_append, List.set_cons_zero, List.set_cons_succ] at hst ⊢
     obtain ⟨hy1, hy2, hy3⟩ := hst
     refine zQ (zQ (zG (zR 3 rfl (zN (zU ?_)))))
     refine W.condD rfl (fun hc5 => ?_) (fun hc5 => ?_)
     ·try dsimp only at hc5
      refine zK (zU (zQ (zB ?_)))
      refine W.regionH _ (ES := (.blk b4 [.int .i64 0, .int .i64 0, .int .i64 0, .slice none 0 0, .slice none 0 0] :: F)) mixed ?_
      refine tP 0 ?_
      refine tP 2 ?_
      refine WA.br2 (i := 1) (j := 3) qK ?_ ?_
      ·
       refine sL (Rd.add (Rd.blk 1 rfl) _) ?_
       refine WA.callAt 3 3 rfl qK en25 rfl rfl qD (CallOp.mkT rfl rfl rfl rfl) rfl (Range_C (lo := 8) (hi := 20) w0 ha qO qO _) ?_
       rintro _ _ _ _ - ⟨rfl, rfl, rfl, rfl⟩
       refine ⟨RLe.refl _, qS, ?_⟩
       have hm9 := mod_range (nth xs cn) (show (1 : Int) ≤ 20 - 8 + 1 by omega)
       refine WA.eff 4 rfl qK rfl rfl qD (Ef.buildSliceD (enc := encI) (parts := [.tmp 80]) [_] tab_ok rfl rfl rfl rfl rfl rfl rfl rfl qD qD (fun a81 => ?_))
       refine ⟨qR, qS, ?_⟩
       refine WA.eff 5 rfl (by kernel_rfl) rfl rfl (by decide) (Ef.appendD 1 0 tab_ok rfl rfl rfl rfl rfl rfl rfl rfl rfl rfl rfl (fun _ _ => rfl) (by simp only [List.length_cons, List.length_nil]; omega) (by simp only [List.length_cons, List.length_nil]; omega) (fun a82 c82 ha82 => ?_))
       refine ⟨qR, qS, ?_⟩
       refine tP 6 ?_
       refine zCF 7 2 ?_
       refine WA.done qK ?_
       refine zL (zU (zG (zR 1 rfl ?_)))
       refine yA ?_
       refine zR 1 rfl (zN ?_)
       refine WE.again ((i + 1, ys ++ [8 + mod (nth xs cn) (20 - 8 + 1)], cn + 1, a82, c82)) (⟨by simp only [List.length_append, List.length_cons, List.length_nil]; omega, by omega, fun y hy => by rcases List.mem_append.1 hy with h | h; exact hy3 y h; have := List.mem_singleton.1 h; omega⟩) (by (try dsimp only); omega) ⟨rfl, rfl, rfl, rfl, rfl, rfl⟩ (RLe.refl _) qS
      ·
       refine WS.callAt 3 rfl en25 rfl rfl qD (CallOp.mkT rfl rfl rfl rfl) rfl (Range_C (lo := 8) (hi := 20) w0 ha qO qO _) ?_
       rintro _ _ _ _ - ⟨rfl, rfl, rfl, rfl⟩
       refine ⟨RLe.refl _, qS, ?_⟩
       have hm9 := mod_range (nth xs cn) (show (1 : Int) ≤ 20 - 8 + 1 by omega)
       refine WA.br2 (i := 1) (j := 4) qK ?_ ?_
       ·
        refine sL (Rd.add (Rd.blk 1 rfl) _) ?_
        refine WA.eff 4 rfl qK rfl rfl qD (Ef.buildSliceD (enc := encI) (parts := [.tmp 80]) [_] tab_ok rfl rfl rfl rfl rfl rfl rfl rfl qD qD (fun a81 => ?_))
        refine ⟨qR, qS, ?_⟩
        refine WA.eff 5 rfl (by kernel_rfl) rfl rfl (by decide) (Ef.appendD 1 0 tab_ok rfl rfl rfl rfl rfl rfl rfl rfl rfl rfl rfl (fun _ _ => rfl) (by simp only [List.length_cons, List.length_nil]; omega) (by simp only [List.length_cons, List.length_nil]; omega) (fun a82 c82 ha82 => ?_))
        refine ⟨qR, qS, ?_⟩
        refine tP 6 ?_
        refine zCF 7 2 ?_
        refine WA.done qK ?_
        refine zL (zU (zG (zR 1 rfl ?_)))
        refine yA ?_
        refine zR 1 rfl (zN ?_)
        refine WE.again ((i + 1, ys ++ [8 + mod (nth xs cn) (20 - 8 + 1)], cn + 1, a82, c82)) (⟨by simp only [List.length_append, List.length_cons, List.length_nil]; omega, by omega, fun y hy => by rcases List.mem_append.1 hy with h | h; exact hy3 y h; have := List.mem_singleton.1 h; omega⟩) (by (try dsimp only); omega) ⟨rfl, rfl, rfl, rfl, rfl, rfl⟩ (RLe.refl _) qS
       ·
        refine WS.eff rfl rfl rfl qD (Ef.buildSliceD (enc := encI) (parts := [.tmp 80]) [_] tab_ok rfl rfl rfl rfl rfl rfl rfl rfl qD qD (fun a81 => ?_))
        refine ⟨qR, qS, ?_⟩
        refine lL 1 (Rd.add (Rd.blk 2 rfl) _) ?_
        refine WA.eff 5 rfl (by kernel_rfl) rfl rfl (by decide) (Ef.appendD 1 0 tab_ok rfl rfl rfl rfl rfl rfl rfl rfl rfl rfl rfl (fun _ _ => rfl) (by simp only [List.length_cons, List.length_nil]; omega) (by simp only [List.length_cons, List.length_nil]; omega) (fun a82 c82 ha82 => ?_))
        refine ⟨qR, qS, ?_⟩
        refine tP 6 ?_
        refine zCF 7 2 ?_
        refine WA.done qK ?_
        refine zL (zU (zG (zR 1 rfl ?_)))
        refine yA ?_
        refine zR 1 rfl (zN ?_)
        refine WE.again ((i + 1, ys ++ [8 + mod (nth xs cn) (20 - 8 + 1)], cn + 1, a82, c82)) (⟨by simp only [List.length_append, List.length_cons, List.length_nil]; omega, by omega, fun y hy => by rcases List.mem_append.1 hy with h | h; exact hy3 y h; have := List.mem_singleton.1 h; omega⟩) (by (try dsimp only); omega) ⟨rfl, rfl, rfl, rfl, rfl, rfl⟩ (RLe.refl _) qS
     ·try dsimp only at hc5
      refine W.freeze (enc := encI) (xs := ys) 0 rfl ?_
      intro R1 hR1 hwz
      refine zX ?_
      refine wx (wx (zY (zL (zU (zQ (zG ?_))))))
      refine yL (Rd.blk 0 rfl) ?_
      refine zE 1 ?_
      refine zN (zU (zT ?_))
      refine WE.retFS (E' := srcE b a cp xs (cn) :: F) qS tab_ok [_] rfl ⟨⟨_, _, _, rfl, rfl, rfl, qB, rfl⟩, trivial⟩ (by first | assumption | exact RLe.refl _) ?_
      exact ⟨_, [], rfl, ⟨4, (4 + mod (nth xs c) (24 - 4 + 1)), 1, ys, []⟩, _, none, _, 0, _, rfl, hwz, rs_nil, ⟨by dsimp only; omega, rfl, by dsimp only; omega, fun h => by dsimp only at h; omega, fun h => by dsimp only at h; omega, fun h => by dsimp only at h; omega, fun _ => ⟨by dsimp only; omega, hy3, rfl⟩, fun h => by dsimp only at h; omega⟩, rfl, rfl⟩
    ·try dsimp only at hc4
     refine zQ (zG (zR 1 rfl ?_))
     refine zF 0 ?_
     refine zN (zU (zQ ?_))
     refine W.nil 3 1 qD ?_
     refine zQ (zG (zR 1 rfl (zN (zU (zB ?_)))))
     refine W.loopK (β := Nat × List Int × Option Addr × Nat) (fun (i, ys, a9, c9) => ys.length = i ∧ i ≤ 1 ∧ ∀ y ∈ ys, -1 ≤ y ∧ y ≤ (1 : Int) - 1) (fun (i, ys, a9, c9) => [(8, true, .int .i64 (i : Int))]) [0, 1, 4, 5] [_, _, _, _] [] _ rfl (fun (i, ys, a9, c9) => [(0, .sl 3 1 a9 c9 (ys.map encI)), (1, .blk b5 [.int .i64 5, .int .i64 (4 + mod (nth xs c) (24 - 4 + 1)), .int .i64 1, .slice none 0 0, .slice a9 ys.length c9])]) (fun (i, ys, a9, c9) => 1 - i) ((0, [], none, 0)) (⟨rfl, Nat.zero_le _, fun y h => (by cases h)⟩) ⟨rfl, rfl, rfl, rfl, rfl, rfl⟩ qS ?_
     intro zz hst
     obtain ⟨i, ys, a9, c9⟩ := zz
     dsimp only [zipE, setAll, List.cons_append, List.nil_append, List.set_cons_zero, List.set_cons_succ] at hst ⊢
     obtain ⟨hy1, hy2, hy3⟩ := hst
     refine zQ (zQ (zG (zR 3 rfl (zN (zU ?_)))))
     refine W.condD rfl (fun hc6 => ?_) (fun hc6 => ?_)
     ·try dsimp only at hc6
      refine zK (zU (zQ (zB (zG (zR 1 rfl ?_)))))
      refine yL (Rd.add (Rd.blk 1 rfl) _) ?_
      refine zR 1 rfl ?_
      refine WL.ef rfl rfl qD (Ef.buildSliceD (enc := encI) (parts := [.tmp 32]) [_] tab_ok rfl rfl rfl rfl rfl rfl rfl rfl qD qD (fun a33 => ?_))
      refine WL.ef rfl rfl (by decide) (Ef.appendD 1 0 tab_ok rfl rfl rfl rfl rfl rfl rfl rfl rfl rfl rfl (fun _ _ => rfl) (by simp only [List.length_cons, List.length_nil]; omega) (by simp only [List.length_cons, List.length_nil]; omega) (fun a34 c34 ha34 => ?_))
      refine zR 1 rfl ?_
      refine zF 2 ?_
      refine zN (zL (zU (zG (zR 1 rfl ?_))))
      refine yA ?_
      refine zR 1 rfl (zN ?_)
      refine WE.again ((i + 1, ys ++ [(i : Int)], a34, c34)) (⟨by simp only [List.length_append, List.length_cons, List.length_nil]; omega, by omega, fun y hy => by rcases List.mem_append.1 hy with h | h; exact hy3 y h; have := List.mem_singleton.1 h; omega⟩) (by (try dsimp only); omega) ⟨rfl, rfl, rfl, rfl, rfl, rfl⟩ (RLe.refl _) qS
     ·try dsimp only at hc6
      refine zX ?_
      refine wx (wx (zY (zU (zQ (zG (zR 1 rfl ?_))))))
      refine WL.callAt 3 en17 rfl rfl qD (CallOp.mkT rfl rfl rfl rfl) rfl (N_C w0 ha (by constructor <;> decide) _) ?_
      rintro _ _ _ _ - ⟨rfl, rfl, rfl, rfl⟩
      have hm8 := mod_range (nth xs (c + 1 + 1 + 1)) (show (1 : Int) ≤ 3 by decide)
      obtain ⟨k8, hk8⟩ := Int.eq_ofNat_of_zero_le hm8.1
      rw [hk8]
      refine zR 1 rfl (zN (zU (zB ?_)))
      refine W.loopK (β := Nat × List Int × Nat × Option Addr × Nat) (fun (j, ys, cn, a9, c9) => 1 ≤ ys.length ∧ ys.length + j ≤ 3 ∧ ∀ y ∈ ys, -1 ≤ y ∧ y ≤ (1 : Int) - 1) (fun (j, ys, cn, a9, c9) => [(9, true, .int .i64 (j : Int))]) [0, 1, 4, 5] [_, _, _, _] [] _ rfl (fun (j, ys, cn, a9, c9) => [(0, .sl 3 1 a9 c9 (ys.map encI)), (1, .blk b5 [.int .i64 5, .int .i64 (4 + mod (nth xs c) (24 - 4 + 1)), .int .i64 1, .slice none 0 0, .slice a9 ys.length c9]), (3, srcE b a cp xs cn)]) (fun (j, ys, cn, a9, c9) => j) ((k8, ys, c + 1 + 1 + 1 + 1, a9, c9)) (⟨by (try dsimp only); omega, by (try dsimp only); omega, hy3⟩) ⟨rfl, rfl, rfl, rfl, rfl, rfl⟩ qS ?_
      intro zz hst
      obtain ⟨j, ys, cn, a9, c9⟩ := zz
      dsimp only [zipE, setAll, List.cons_append, List.nil_append, List.set_cons_zero, List.set_cons_succ] at hst ⊢
      obtain ⟨hy1, hy2, hy3⟩ := hst
      refine zQ (zQ (zG (zR 2 rfl (zN (zU ?_)))))
      refine W.condD rfl (fun hc7 => ?_) (fun hc7 => ?_)
      ·try dsimp only at hc7
       obtain ⟨j, rfl⟩ : ∃ m, j = m + 1 := ⟨j - 1, by omega⟩
       refine zK (zU (zQ (zB ?_)))
       refine W.regionH _ (ES := (.blk b4 [.int .i64 0, .int .i64 0, .int .i64 0, .slice none 0 0, .slice none 0 0] :: F)) mixed ?_
       refine tP 0 ?_
       refine tP 2 ?_
       refine tP 3 ?_
       refine tS 4 ?_
       refine WA.br2 (i := 1) (j := 5) qK ?_ ?_
       ·
        refine sL (Rd.add (Rd.blk 1 rfl) _) ?_
        refine WA.callAt 3 5 rfl qK en25 rfl rfl qD (CallOp.mkT rfl rfl rfl rfl) rfl (Range_C (lo := (-1)) (hi := (1 - 1)) w0 ha qO qO _) ?_
        rintro _ _ _ _ - ⟨rfl, rfl, rfl, rfl⟩
        refine ⟨RLe.refl _, qS, ?_⟩
        have hm9 := mod_range (nth xs cn) (show (1 : Int) ≤ (1 - 1) - (-1) + 1 by omega)
        refine WA.eff 6 rfl qK rfl rfl qD (Ef.buildSliceD (enc := encI) (parts := [.tmp 47]) [_] tab_ok rfl rfl rfl rfl rfl rfl rfl rfl qD qD (fun a48 => ?_))
        refine ⟨qR, qS, ?_⟩
        refine WA.eff 7 rfl (by kernel_rfl) rfl rfl (by decide) (Ef.appendD 1 0 tab_ok rfl rfl rfl rfl rfl rfl rfl rfl rfl rfl rfl (fun _ _ => rfl) (by simp only [List.length_cons, List.length_nil]; omega) (by simp only [List.length_cons, List.length_nil]; omega) (fun a49 c49 ha49 => ?_))
        refine ⟨qR, qS, ?_⟩
        refine tP 8 ?_
        refine zCF 9 2 ?_
        refine WA.done qK ?_
        refine zL (zU (zG (zR 1 rfl ?_)))
        refine yS ?_
        refine zR 1 rfl (zN ?_)
        refine WE.again ((j, ys ++ [-1 + mod (nth xs cn) ((1 - 1) - -1 + 1)], cn + 1, a49, c49)) (⟨by simp only [List.length_append, List.length_cons, List.length_nil]; omega, by simp only [List.length_append, List.length_cons, List.length_nil]; omega, fun y hy => by rcases List.mem_append.1 hy with h | h; exact hy3 y h; have := List.mem_singleton.1 h; omega⟩) (by (try dsimp only); omega) ⟨vint (by omega), rfl, rfl, rfl, rfl, rfl⟩ (RLe.refl _) qS
       ·
        refine WS.callAt 3 rfl en25 rfl rfl qD (CallOp.mkT rfl rfl rfl rfl) rfl (Range_C (lo := (-1)) (hi := (1 - 1)) w0 ha qO qO _) ?_
        rintro _ _ _ _ - ⟨rfl, rfl, rfl, rfl⟩
        refine ⟨RLe.refl _, qS, ?_⟩
        have hm9 := mod_range (nth xs cn) (show (1 : Int) ≤ (1 - 1) - (-1) + 1 by omega)
        refine WA.br2 (i := 1) (j := 6) qK ?_ ?_
        ·
         refine sL (Rd.add (Rd.blk 1 rfl) _) ?_
         refine WA.eff 6 rfl qK rfl rfl qD (Ef.buildSliceD (enc := encI) (parts := [.tmp 47]) [_] tab_ok rfl rfl rfl rfl rfl rfl rfl rfl qD qD (fun a48 => ?_))
         refine ⟨qR, qS, ?_⟩
         refine WA.eff 7 rfl (by kernel_rfl) rfl rfl (by decide) (Ef.appendD 1 0 tab_ok rfl rfl rfl rfl rfl rfl rfl rfl rfl rfl rfl (fun _ _ => rfl) (by simp only [List.length_cons, List.length_nil]; omega) (by simp only [List.length_cons, List.length_nil]; omega) (fun a49 c49 ha49 => ?_))
         refine ⟨qR, qS, ?_⟩
         refine tP 8 ?_
         refine zCF 9 2 ?_
         refine WA.done qK ?_
         refine zL (zU (zG (zR 1 rfl ?_)))
         refine yS ?_
         refine zR 1 rfl (zN ?_)
         refine WE.again ((j, ys ++ [-1 + mod (nth xs cn) ((1 - 1) - -1 + 1)], cn + 1, a49, c49)) (⟨by simp only [List.length_append, List.length_cons, List.length_nil]; omega, by simp only [List.length_append, List.length_cons, List.length_nil]; omega, fun y hy => by rcases List.mem_append.1 hy with h | h; exact hy3 y h; have := List.mem_singleton.1 h; omega⟩) (by (try dsimp only); omega) ⟨vint (by omega), rfl, rfl, rfl, rfl, rfl⟩ (RLe.refl _) qS
        ·
         refine WS.eff rfl rfl rfl qD (Ef.buildSliceD (enc := encI) (parts := [.tmp 47]) [_] tab_ok rfl rfl rfl rfl rfl rfl rfl rfl qD qD (fun a48 => ?_))
         refine ⟨qR, qS, ?_⟩
         refine lL 1 (Rd.add (Rd.blk 2 rfl) _) ?_
         refine WA.eff 7 rfl (by kernel_rfl) rfl rfl (by decide) (Ef.appendD 1 0 tab_ok rfl rfl rfl rfl rfl rfl rfl rfl rfl rfl rfl (fun _ _ => rfl) (by simp only [List.length_cons, List.length_nil]; omega) (by simp only [List.length_cons, List.length_nil]; omega) (fun a49 c49 ha49 => ?_))
         refine ⟨qR, qS, ?_⟩
         refine tP 8 ?_
         refine zCF 9 2 ?_
         refine WA.done qK ?_
         refine zL (zU (zG (zR 1 rfl ?_)))
         refine yS ?_
         refine zR 1 rfl (zN ?_)
         refine WE.again ((j, ys ++ [-1 + mod (nth xs cn) ((1 - 1) - -1 + 1)], cn + 1, a49, c49)) (⟨by simp only [List.length_append, List.length_cons, List.length_nil]; omega, by simp only [List.length_append, List.length_cons, List.length_nil]; omega, fun y hy => by rcases List.mem_append.1 hy with h | h; exact hy3 y h; have := List.mem_singleton.1 h; omega⟩) (by (try dsimp only); omega) ⟨vint (by omega), rfl, rfl, rfl, rfl, rfl⟩ (RLe.refl _) qS
      ·try dsimp only at hc7
       refine W.freeze (enc := encI) (xs := ys) 0 rfl ?_
       intro R1 hR1 hwz
       refine zX ?_
       refine wx (wx (zY (zL (zU (zQ (zG ?_))))))
       refine yL (Rd.blk 0 rfl) ?_
       refine zE 1 ?_
       refine zN (zU (zT ?_))
       refine WE.retFS (E' := srcE b a cp xs (cn) :: F) qS tab_ok [_] rfl ⟨⟨_, _, _, rfl, rfl, rfl, qB, rfl⟩, trivial⟩ (by first | assumption | exact RLe.refl _) ?_
       exact ⟨_, [], rfl, ⟨5, (4 + mod (nth xs c) (24 - 4 + 1)), 1, [], ys⟩, none, _, 0, _, _, rfl, rs_nil, hwz, ⟨by dsimp only; omega, rfl, by dsimp only; omega, fun h => by dsimp only at h; omega, fun h => by dsimp only at h; omega, fun h => by dsimp only at h; omega, fun h => by dsimp only at h; omega, fun _ => ⟨rfl, by dsimp only; omega, by dsimp only; omega, hy3⟩⟩, rfl, rfl⟩



theorem PickF_C {R : Ro} {b : Nat} {a : Option Addr} {cp : Nat} {xs : List Int} {c : Nat} (w0 : World) {n : Nat} {a2 : Option Addr} {c2 : Nat} {j : Nat} {F : List Ent} (ys : List Int) (hn : ys.length = n) (hn0 : 0 < n) (hn1 : n ≤ 1000000) (ha : RS R 1 encI a xs) (hy : F[j]? = some (.sl 3 1 a2 c2 (ys.map encI))) :
  K.Fn Tryz.prog 29 [.pointer (some ⟨b, 0, none⟩), .slice a2 n c2] w0 R (srcE b a cp xs c :: F) (fun v R' E' => ∃ e' N, E' = N ++ e' :: F ∧ RdPost (.int .i64 (nth ys (mod (nth xs c) n).toNat)) R (srcE b a cp xs (c + 1)) v R' e' N) := by
 subst hn; exact Pick_C w0 ha hy hn0 hn1

theorem Stair_C {R : Ro} {burst more : Int} {p : Nat} (hp : p ≤ 1000) (w0 : World) (E : List Ent) : K.Fn Tryz.prog 81 [.int .i64 burst, .int .i64 (p : Int), .int .i64 more] w0 R E (fun v R' E' => ∃ (f : Option Addr) (fc : Nat), v = .agg #[.slice f (stairC burst p more).vals.length fc, .int .i64 (p : Int), .int .i64 more] ∧ RS R' 1 encI f (stairC burst p more).vals ∧ (stairC burst p more).vals.length ≤ fc ∧ E' = E) := by
 refine fE 25 Tryz.func81 ?_
 refine zQ (zG ?_)
 refine zA fun b6 => ?_
 refine zN (zU (zQ (zG ?_)))
 refine WL.ef rfl rfl qD (Ef.buildSliceD (enc := encI) (parts := [.const (.int .i64 0)]) [0] tab_ok rfl rfl rfl rfl rfl rfl rfl rfl qD qD (fun a9 => ?_))
 refine zR 2 rfl ?_
 -- build
 refine WG.y rfl rfl qD (Yl.build (parts := [(0, .tmp 9), (1, .tmp 10), (2, .tmp 11)]) tab_ok rfl rfl rfl rfl (fun _ => rfl) rfl rfl) ?_
 refine zA fun b7 => ?_
 refine zE 0 ?_
 refine zN (zU (zQ (zQ (zG (zR 1 rfl (zN (zU (zB ?_))))))))
 refine W.loopK (β := Nat × Option Addr × Nat) (fun (i, a1, c1) => i ≤ p) (fun (i, a1, c1) => [(8, true, .int .i64 (i : Int))]) [0, 1, 6, 7] [_, _, _, _] [] _ rfl (fun (i, a1, c1) => [(0, .blk b7 [.slice a1 (0 :: List.replicate i burst).length c1, .int .i64 (p : Int), .int .i64 more]), (1, .sl 3 1 a1 c1 ((0 :: List.replicate i burst).map encI))]) (fun (i, a1, c1) => p - i) ((0, some ⟨a9, 0, none⟩, 1)) (Nat.zero_le _) ⟨rfl, rfl, rfl, rfl, rfl, rfl⟩ qS ?_
 intro zz hst
 obtain ⟨i, a1, c1⟩ := zz
 dsimp only [zipE, setAll, List.cons_append, List.nil_append, List.set_cons_zero, List.set_cons_succ] at hst ⊢
 have hi := hst
 have hrl : (0 :: List.replicate i burst).length = i + 1 := by rw [List.length_cons, List.length_replicate]
 have hrl2 : (List.replicate i burst).length = i := List.length_replicate ..
 refine zQ (zQ (zG (zR 3 rfl (zN (zU ?_)))))
 refine W.condD rfl (fun hc0 => ?_) (fun hc0 => ?_)
 ·try dsimp only at hc0
  have hip : i < p := by omega
  have hrs : (0 :: List.replicate (i + 1) burst) = (0 :: List.replicate i burst) ++ [burst] := by rw [List.replicate_succ', List.cons_append]
  refine zK (zU (zQ (zB (zG (zR 1 rfl ?_)))))
  refine yL (Rd.add (Rd.blk 0 rfl) _) ?_
  refine zR 1 rfl ?_
  refine WL.ef rfl rfl qD (Ef.buildSliceD (enc := encI) (parts := [.tmp 20]) [_] tab_ok rfl rfl rfl rfl rfl rfl rfl rfl qD qD (fun a21 => ?_))
  refine WL.ef rfl rfl (by decide) (Ef.appendD 2 0 tab_ok rfl rfl rfl rfl rfl rfl rfl rfl rfl rfl rfl (fun _ _ => rfl) (by simp only [List.length_cons, List.length_nil]; omega) (by simp only [List.length_cons, List.length_nil]; omega) (fun a22 c22 ha22 => ?_))
  refine zR 1 rfl ?_
  refine zF 1 ?_
  refine zN (zL (zU (zG (zR 1 rfl ?_))))
  refine yA ?_
  refine zR 1 rfl (zN ?_)
  refine WE.again ((i + 1, a22, c22)) (by show i + 1 ≤ p; omega) (by (try dsimp only); omega) ⟨rfl, rfl, rfl, rfl, rfl, rfl⟩ (RLe.refl _) (by dsimp only [setAll, List.set_cons_zero, List.set_cons_succ]; rw [hrs]; exact qS)
 ·try dsimp only at hc0
  obtain rfl : i = p := by omega
  refine W.cap 1 rfl ?_
  intro hcap
  rw [List.length_map] at hcap
  refine W.freeze (enc := encI) (xs := (0 :: List.replicate i burst)) 1 rfl ?_
  intro R1 hR1 hf1
  refine zX ?_
  refine wx (wx (zY (zU (zQ (zG ?_)))))
  refine yL (Rd.blk 0 rfl) ?_
  refine zE 1 ?_
  refine zN (zU (zT ?_))
  refine WE.retFS (E' := E) qS tab_ok [_] rfl ⟨⟨_, _, _, rfl, rfl, rfl, qB, rfl⟩, trivial⟩ qR ?_
  exact ⟨a1, c1, rfl, hf1, hcap, rfl⟩

theorem Contr24_C {R : Ro} {b : Nat} {a : Option Addr} {cp : Nat} {xs : List Int} {c : Nat} (w0 : World) (ha : K.RS R 1 encI a xs) : FnAt Tryz.prog 60 [.pointer (some ⟨b, 0, none⟩)] w0 R (srcE b a cp xs c) (fun v R' e' N => ∃ (f : Option Addr) (fc cn : Nat) (cv : Cv), v = .agg #[.slice f cv.vals.length fc, .int .i64 cv.per, .int .i64 cv.inc] ∧ RS R' 1 encI f cv.vals ∧ cv.vals.length ≤ fc ∧ StairP cv ∧ e' = srcE b a cp xs cn ∧ N = []) := by
 intro F
 refine fE 11 Tryz.func60 ?_
 refine zQ (zG ?_)
 refine zA fun b2 => ?_
 refine zN (zU (zQ (zG (zR 1 rfl ?_))))
 refine WL.callAt 1 en25 rfl rfl qD (CallOp.mkT rfl rfl rfl rfl) rfl (Range_C (lo := 4) (hi := 16) w0 ha qO qO _) ?_
 rintro _ _ _ _ - ⟨rfl, rfl, rfl, rfl⟩
 have hm0 := mod_range (nth xs (c)) (show (1 : Int) ≤ 16 - 4 + 1 by omega)
 refine zR 1 rfl ?_
 refine WL.ef rfl rfl qD (Ef.buildSliceD (enc := encI) (parts := [.const (.int .i64 1), .const (.int .i64 2), .const (.int .i64 3), .const (.int .i64 4), .const (.int .i64 6), .const (.int .i64 12)]) [1, 2, 3, 4, 6, 12] tab_ok rfl rfl rfl rfl rfl rfl rfl rfl qD qD (fun a6 => ?_))
 refine WL.callAt 2 en29 rfl rfl qD (CallOp.mkT rfl rfl rfl rfl) rfl (PickF_C (j := 0) w0 ([1, 2, 3, 4, 6, 12] : List Int) rfl qD qD ha rfl) ?_
 rintro _ _ _ _ - ⟨rfl, rfl, rfl, rfl⟩
 have hm1 := mod_range (nth xs (c + 1)) (show (1 : Int) ≤ ((6 : Nat) : Int) by decide)
 have hp6 := pick6 (mod (nth xs (c + 1)) ((6 : Nat) : Int)).toNat (by omega)
 obtain ⟨p, hp⟩ := Int.eq_ofNat_of_zero_le (show 0 ≤ nth ([1, 2, 3, 4, 6, 12] : List Int) (mod (nth xs (c + 1)) ((6 : Nat) : Int)).toNat by omega)
 rw [hp] at hp6 ⊢
 refine zR 1 rfl ?_
 refine WL.callAt 2 en17 rfl rfl qD (CallOp.mkT rfl rfl rfl rfl) rfl (N_C (n := 4) w0 ha (by constructor <;> decide) _) ?_
 rintro _ _ _ _ - ⟨rfl, rfl, rfl, rfl⟩
 have hm2 := mod_range (nth xs (c + 1 + 1)) (show (1 : Int) ≤ 4 by decide)
 refine WL.call en81 rfl rfl qD (CallOp.mkT rfl rfl rfl rfl) (Stair_C (p := p) qO w0 _) ?_
 rintro _ R1 _ hR1 ⟨f1, k1, rfl, hf1, hk1, rfl⟩
 refine zE 1 ?_
 refine zN (zU (zT ?_))
 refine WE.retFS (E' := (srcE b a cp xs (c + 1 + 1 + 1) :: F)) qS tab_ok [_] rfl ⟨⟨_, _, _, rfl, rfl, rfl, qB, rfl⟩, trivial⟩ qR ?_
 exact ⟨_, [], rfl, f1, k1, _, stairC (4 + mod (nth xs c) (16 - 4 + 1)) p (mod (nth xs (c + 1 + 1)) 4), rfl, hf1, hk1, ⟨_, p, _, rfl, by omega, by omega, by omega⟩, rfl, rfl⟩



set_option maxHeartbeats 4000000 in
theorem Flow24_C {R : Ro} {b : Nat} {a : Option Addr} {cp : Nat} {xs : List Int} {c : Nat} (w0 : World) (ha : K.RS R 1 encI a xs) {na la fa : Option Addr} {nn nc lc nf fc m k : Nat} {name : List UInt8} (hk : k = 1 ∨ k = 2) (hm : 1 ≤ m ∧ m ≤ 4) (hnm : name.length ≤ 100) : FnAt Tryz.prog 27 [.pointer (some ⟨b, 0, none⟩), .agg #[.slice na nn nc, .slice la m lc, .slice fa nf fc], .string (str name), .int .i64 (k : Int)] w0 R (srcE b a cp xs c) (fun v R' e' N => ∃ (x : FlM) (cn : Nat), v = .agg #[.string (str x.f.name), .slice x.a1 x.f.route.length x.c1, .int .i64 x.f.cls, .int .i64 x.f.lo, .int .i64 x.f.hi, .slice x.a2 x.f.cv.vals.length x.c2, .int .i64 x.f.cv.per, .int .i64 x.f.cv.inc] ∧ OkFl R' x ∧ x.f.route.length ≤ x.c1 ∧ x.f.cv.vals.length ≤ x.c2 ∧ x.f.name = name ∧ DrawF k m x.f ∧ e' = srcE b a cp xs cn ∧ N = []) := by
 intro F
 refine fE 87 Tryz.func27 ?_
 refine zQ (zG ?_)
 refine zO fun b5 => ?_
 refine zA fun b8 => ?_
 refine zN (zU (zQ (zG (zR 3 rfl ?_))))
 refine WL.callAt 2 en17 rfl rfl qD (CallOp.mkT rfl rfl rfl rfl) rfl (N_C (n := (k : Int)) w0 ha (by constructor <;> omega) _) ?_
 rintro _ _ _ _ - ⟨rfl, rfl, rfl, rfl⟩
 have hmk := mod_range (nth xs c) (show (1 : Int) ≤ (k : Int) by omega)
 refine zR 1 rfl ?_
 refine WL.callAt 2 en60 rfl rfl qD (CallOp.mkT rfl rfl rfl rfl) rfl (Contr24_C w0 ha _) ?_
 rintro _ R1 _ _ hR1 ⟨f1, fc1, c4, cv, rfl, hf1, hcf1, hstp, rfl, rfl⟩
 have ha := ha.mono hR1
 -- build
 refine WG.y rfl rfl qD (Yl.build (parts := [(0, .tmp 13), (2, .tmp 16), (4, .tmp 18)]) tab_ok rfl rfl rfl rfl (fun _ => rfl) rfl rfl) ?_
 refine zA fun b9 => ?_
 refine zE 0 ?_
 refine zN (zU (zQ (zG (zR 1 rfl ?_))))
 refine WL.callAt 3 en25 rfl rfl qD (CallOp.mkT rfl rfl rfl rfl) rfl (Range_C (lo := 1) (hi := 3) w0 ha qO qO _) ?_
 rintro _ _ _ _ - ⟨rfl, rfl, rfl, rfl⟩
 have hml := mod_range (nth xs c4) (show (1 : Int) ≤ 3 - 1 + 1 by omega)
 refine zR 2 rfl ?_
 refine WL.efN rfl rfl (Ef.store2 0 tab_ok rfl rfl rfl rfl rfl rfl rfl rfl ?_)
 refine zN (zU ?_)
 refine W.seqCut (β := Unit) (fun _u => True) (fun _u => [(0, true, .pointer (some ⟨b, 0, none⟩)), (5, true, .pointer (some ⟨b5, 0, none⟩)), (8, true, .pointer (some ⟨b8, 0, none⟩)), (9, true, .pointer (some ⟨b9, 0, none⟩))]) (fun _ => R1) (fun _ => .blk b9 [.string (str name), .slice none 0 0, .int .i64 (mod (nth xs c) (k : Int)), .int .i64 (1 + mod (nth xs c4) (3 - 1 + 1)), .int .i64 ((1 + mod (nth xs c4) (3 - 1 + 1)) + mod (nth xs (c4 + 1)) 5), .slice f1 cv.vals.length fc1, .int .i64 cv.per, .int .i64 cv.inc] :: .blk b8 [.string (str []), .slice none 0 0, .int .i64 0, .int .i64 0, .int .i64 0, .slice none 0 0, .int .i64 0, .int .i64 0] :: .blk b5 [.slice na nn nc, .slice la m lc, .slice fa nf fc] :: srcE b a cp xs (c4 + 1 + 1) :: F) ?_ ?_
 ·
  intro _u hst
  have hm5 := mod_range (nth xs (c4 + 1)) (show (1 : Int) ≤ 5 by decide)
  refine zQ (zG (zR 2 rfl ?_))
  refine yL (Rd.add (Rd.blk 2 rfl) _) ?_
  refine zR 1 rfl ?_
  refine WL.callAt 3 en17 rfl rfl qD (CallOp.mkT rfl rfl rfl rfl) rfl (N_C (n := (m : Int)) w0 ha (by constructor <;> omega) _) ?_
  rintro _ _ _ _ - ⟨rfl, rfl, rfl, rfl⟩
  obtain ⟨a0, ha0, ha0m⟩ : ∃ a0 : Nat, mod (nth xs (c4 + 1 + 1)) (m : Int) = (a0 : Int) ∧ a0 < m := by
   have := mod_range (nth xs (c4 + 1 + 1)) (show (1 : Int) ≤ (m : Int) by omega)
   exact ⟨(mod (nth xs (c4 + 1 + 1)) (m : Int)).toNat, by omega, by omega⟩
  rw [ha0]
  refine zR 1 rfl (zN (zU (zQ (zG (zR 2 rfl ?_)))))
  refine yL (Rd.add (Rd.blk 2 rfl) _) ?_
  refine zR 1 rfl ?_
  refine yS ?_
  refine WL.ef rfl rfl qD (Ef.buildSliceD (enc := encI) (parts := [.const (.int .i64 1), .tmp 41]) [1, (m : Int) - 1] tab_ok rfl rfl rfl rfl rfl rfl rfl rfl qD qD (fun a42 => ?_))
  refine WL.callAt 4 en29 rfl rfl qD (CallOp.mkT rfl rfl rfl rfl) rfl (PickF_C (j := 0) w0 ([1, (m : Int) - 1] : List Int) rfl qD qD ha rfl) ?_
  rintro _ _ _ _ - ⟨rfl, rfl, rfl, rfl⟩
  obtain ⟨s, hs, hs1⟩ : ∃ s : Int, nth ([1, (m : Int) - 1] : List Int) (mod (nth xs (c4 + 1 + 1 + 1)) ((2 : Nat) : Int)).toNat = s ∧ (s = 1 ∨ s = (m : Int) - 1) := by
   have := mod_range (nth xs (c4 + 1 + 1 + 1)) (show (1 : Int) ≤ ((2 : Nat) : Int) by decide)
   refine ⟨_, rfl, ?_⟩
   rcases (show (mod (nth xs (c4 + 1 + 1 + 1)) ((2 : Nat) : Int)).toNat = 0 ∨ (mod (nth xs (c4 + 1 + 1 + 1)) ((2 : Nat) : Int)).toNat = 1 by omega) with h | h <;> rw [h]
   ·exact .inl rfl
   ·exact .inr rfl
  rw [hs]
  refine zR 1 rfl (zN (zU (zQ ?_)))
  refine W.nil 3 1 qD ?_
  refine zQ (zG (zR 2 rfl ?_))
  refine yL (Rd.add (Rd.blk 4 rfl) _) ?_
  refine zR 2 rfl ?_
  refine WL.callAt 5 en25 rfl rfl qD (CallOp.mkT rfl rfl rfl rfl) rfl (Range_C (lo := 1) (hi := (if (m : Int) < (3 : Int) then (m : Int) else 3)) w0 ha (by split <;> omega) (by split <;> omega) _) ?_
  rintro _ _ _ _ - ⟨rfl, rfl, rfl, rfl⟩
  obtain ⟨q, hq, hq1, hq3, hqm⟩ : ∃ q : Nat, 1 + mod (nth xs (c4 + 1 + 1 + 1 + 1)) ((if (m : Int) < (3 : Int) then (m : Int) else 3) - 1 + 1) = (q : Int) ∧ 1 ≤ q ∧ q < 4 ∧ q ≤ m := by
   have := mod_range (nth xs (c4 + 1 + 1 + 1 + 1)) (show (1 : Int) ≤ (if (m : Int) < (3 : Int) then (m : Int) else 3) - 1 + 1 by split <;> omega)
   refine ⟨(1 + mod (nth xs (c4 + 1 + 1 + 1 + 1)) ((if (m : Int) < (3 : Int) then (m : Int) else 3) - 1 + 1)).toNat, ?_⟩
   split at this <;> rename_i h <;> simp only [h, if_true, if_false] <;> omega
  rw [hq]
  have hwn : (wayR (a0 : Int) s m q).Nodup := by
   obtain ⟨n1, n2⟩ := way_nodup m (by omega) a0 ha0m q hq3 hqm
   rcases hs1 with rfl | rfl
   ·exact n1
   ·exact n2
  refine zR 1 rfl (zN (zU (zB ?_)))
  refine W.loopK (β := Nat × Nat × Option Addr × Nat) (fun (i, j, a1, c1) => i + j = q) (fun (i, j, a1, c1) => [(10, true, .int .i64 (mod ((a0 : Int) + (i : Int) * s) (m : Int))), (12, true, .int .i64 (j : Int))]) [5, 8, 9, 11] [_, _, _, _] [] _ rfl (fun (i, j, a1, c1) => [(0, .sl 3 1 a1 c1 ((wayR (a0 : Int) s m i).map encI)), (2, .blk b9 [.string (str name), .slice a1 (wayR (a0 : Int) s m i).length c1, .int .i64 (mod (nth xs c) (k : Int)), .int .i64 (1 + mod (nth xs c4) (3 - 1 + 1)), .int .i64 ((1 + mod (nth xs c4) (3 - 1 + 1)) + mod (nth xs (c4 + 1)) 5), .slice f1 cv.vals.length fc1, .int .i64 cv.per, .int .i64 cv.inc])]) (fun (i, j, a1, c1) => j) ((0, q, none, 0)) (by show 0 + q = q; omega) ⟨vint (by show (a0 : Int) = mod ((a0 : Int) + ((0 : Nat) : Int) * s) (m : Int); rw [Int.natCast_zero, Int.zero_mul, Int.add_zero]; unfold mod; rw [if_neg (by omega), Int.emod_eq_of_lt (by omega) (by omega)]), rfl, rfl, rfl, rfl, rfl, rfl⟩ qS ?_
  intro zz hst
  obtain ⟨i, j, a1, c1⟩ := zz
  dsimp only [zipE, setAll, List.cons_append, List.nil_append, List.set_cons_zero, List.set_cons_succ] at hst ⊢
  have hij := hst
  have hwl := wayR_len (a0 : Int) s m i
  have hmm := mod_range ((a0 : Int) + (i : Int) * s) (show (1 : Int) ≤ (m : Int) by omega)
  refine zQ (zQ (zG (zR 2 rfl (zN (zU ?_)))))
  refine W.condD rfl (fun hc0 => ?_) (fun hc0 => ?_)
  ·try dsimp only at hc0
   refine zK (zU (zQ (zB (zQ (zG (zR 1 rfl ?_))))))
   refine yL (Rd.add (Rd.blk 2 rfl) _) ?_
   refine zR 1 rfl ?_
   refine WL.ef rfl rfl qD (Ef.buildSliceD (enc := encI) (parts := [.tmp 56]) [_] tab_ok rfl rfl rfl rfl rfl rfl rfl rfl qD qD (fun a57 => ?_))
   refine WL.ef rfl rfl (by decide) (Ef.appendD 1 0 tab_ok rfl rfl rfl rfl rfl rfl rfl rfl rfl rfl rfl (fun _ _ => rfl) (by simp only [List.length_cons, List.length_nil]; omega) (by simp only [List.length_cons, List.length_nil]; omega) (fun a58 c58 ha58 => ?_))
   refine zR 1 rfl ?_
   refine zF 3 ?_
   refine zN (zU (zG (zR 2 rfl ?_)))
   refine yA ?_
   refine zR 1 rfl ?_
   refine yL (Rd.add (Rd.blk 5 rfl) _) ?_
   refine zR 1 rfl ?_
   refine WG.callV (v := .int .i64 (mod (mod ((a0 : Int) + (i : Int) * s) (m : Int) + s) (m : Int))) en49 rfl rfl qD (CallOp.mk' rfl rfl rfl rfl) (fun _ => rfl) (fun hg => Mod_V (by constructor <;> omega)) ?_
   refine zR 1 rfl (zN (zL (zU (zG (zR 1 rfl ?_)))))
   refine yS ?_
   refine zR 1 rfl (zN ?_)
   rw [way_step _ _ _ _ hm.1]
   refine WE.again ((i + 1, j - 1, a58, c58)) (by show i + 1 + (j - 1) = q; omega) (by show j - 1 < j; omega) ⟨rfl, vint (by show (j : Int) - 1 = ((j - 1 : Nat) : Int); omega), rfl, rfl, rfl, rfl, rfl⟩ (RLe.refl _) (by dsimp only [setAll, List.set_cons_zero, List.set_cons_succ]; rw [wayR_snoc]; exact qS)
  ·try dsimp only at hc0
   obtain rfl : j = 0 := by omega
   obtain rfl : i = q := by omega
   refine zX ?_
   refine wx (wx (zY (zU (zQ (zQ ?_)))))
   refine W.regionQ _ mixed qK ?_
   refine zR 1 rfl ?_
   refine yL (Rd.add (Rd.blk 2 rfl) _) ?_
   refine zR 3 rfl ?_
   refine yP ?_
   refine yG (Rd.addC (Rd.blkC 2 rfl) _) ?_
   refine WG.y rfl rfl (by decide) (Yl.indexN tab_ok rfl rfl rfl rfl rfl rfl qE (by intro hg; (try simp only [zk] at hg); (try dsimp only) <;> omega) (by intro hg; (try simp only [zk] at hg); first | exact qI)) ?_
   refine' WG.y rfl rfl qD (Yl.loadG tab_ok rfl rfl rfl qE ?r8 rfl ?h8 ?g8) ?_
   case r8 => (exact Rd.slC 0 rfl)
   case h8 => rfl
   case g8 => (intro hg; (try simp only [zk] at hg); (try dsimp only); omega)
   refine yP ?_
   refine yG (Rd.addC (Rd.blkC 2 rfl) _) ?_
   refine WG.y rfl rfl (by decide) (Yl.indexN tab_ok rfl rfl rfl rfl rfl rfl qE (by intro hg; (try simp only [zk] at hg); (try dsimp only) <;> omega) (by intro hg; (try simp only [zk] at hg); first | exact qI)) ?_
   refine' WG.y rfl rfl qD (Yl.loadG tab_ok rfl rfl rfl qE ?r10 rfl ?h10 ?g10) ?_
   case r10 => (exact Rd.slC 0 rfl)
   case h10 => rfl
   case g10 => (intro hg; (try simp only [zk] at hg); (try dsimp only); omega)
   refine yP ?_
   refine yN ?_
   refine zN (zU ?_)
   refine W.cond rfl (fun hc1 => ?_) (fun hc1 => ?_)
   ·try simp only [zk] at hc1
    exfalso
    obtain ⟨h1, h2⟩ := hc1
    have hl : 1 < (wayR (a0 : Int) s m i).length := by omega
    have h3 : nth (wayR (a0 : Int) s m i) 0 = nth (wayR (a0 : Int) s m i) 1 := h2
    rw [nth_eq (by omega), nth_eq hl] at h3
    exact (List.pairwise_iff_getElem.1 hwn 0 1 qO hl qD) h3
   ·try simp only [zk] at hc1
    refine zK (zU ?_)
    refine W.cap 0 rfl ?_
    intro hcap
    refine W.freeze (enc := encI) (xs := wayR (a0 : Int) s m i) 0 rfl ?_
    intro R2 hR2 hrt
    have hf1 := hf1.mono hR2
    refine zQ (zG ?_)
    refine yL (Rd.blk 1 rfl) ?_
    refine zE 2 ?_
    refine zN (zU (zT ?_))
    refine WE.retFS (E' := (srcE b a cp xs (c4 + 1 + 1 + 1 + 1 + 1) :: F)) qS tab_ok [_] rfl ⟨⟨_, _, _, rfl, rfl, rfl, qB, rfl⟩, trivial⟩ (by first | exact RLe.refl _ | assumption | exact hR1.trans hR2) ?_
    exact ⟨_, [], rfl, ⟨a1, c1, f1, fc1, ⟨name, wayR (a0 : Int) s m i, mod (nth xs c) (k : Int), (1 + mod (nth xs c4) (3 - 1 + 1)), (1 + mod (nth xs c4) (3 - 1 + 1)) + mod (nth xs (c4 + 1)) 5, cv⟩⟩, _, rfl, ⟨hrt, hf1, by have := (stair_valid hstp).2.2.2; show cv.vals.length ≤ _; omega, by show name.length ≤ _; omega⟩, by simpa using hcap, hcf1, rfl, ⟨by show 0 ≤ mod _ _ ∧ _; omega, by dsimp only; omega, by dsimp only; omega, way_in hm.1, hwn, hstp⟩, rfl, rfl⟩
 ·
  refine W.regionH _ (ES := (.blk b8 [.string (str []), .slice none 0 0, .int .i64 0, .int .i64 0, .int .i64 0, .slice none 0 0, .int .i64 0, .int .i64 0] :: .blk b5 [.slice na nn nc, .slice la m lc, .slice fa nf fc] :: F)) mixed ?_
  refine tP 0 ?_
  refine tP 1 ?_
  refine tP 3 ?_
  refine WA.br2 (i := 2) (j := 4) qK ?_ ?_
  ·
   refine sL (Rd.add (Rd.add (Rd.blk 0 rfl) _) _) ?_
   refine WA.callAt 3 4 rfl qK en17 rfl rfl qD (CallOp.mkT rfl rfl rfl rfl) rfl (N_C (n := 5) w0 ha (by constructor <;> decide) _) ?_
   rintro _ _ _ _ - ⟨rfl, rfl, rfl, rfl⟩
   refine ⟨RLe.refl _, qS, ?_⟩
   have hm5 := mod_range (nth xs (c4 + 1)) (show (1 : Int) ≤ 5 by decide)
   refine tA 5 ?_
   refine tP 6 ?_
   refine tP 7 ?_
   refine WA.effN 8 rfl qK rfl rfl (Ef.store2 0 tab_ok rfl rfl rfl rfl rfl rfl rfl rfl ?_)
   refine ⟨qR, qS, ?_⟩
   refine WA.done qK ?_
   refine WE.cut () trivial ⟨rfl, rfl, rfl, rfl, rfl⟩ (RLe.refl _) qS
  ·
   refine WS.callAt 3 rfl en17 rfl rfl qD (CallOp.mkT rfl rfl rfl rfl) rfl (N_C (n := 5) w0 ha (by constructor <;> decide) _) ?_
   rintro _ _ _ _ - ⟨rfl, rfl, rfl, rfl⟩
   refine ⟨RLe.refl _, qS, ?_⟩
   have hm5 := mod_range (nth xs (c4 + 1)) (show (1 : Int) ≤ 5 by decide)
   refine lL 2 (Rd.add (Rd.add (Rd.blk 0 rfl) _) _) ?_
   refine tA 5 ?_
   refine tP 6 ?_
   refine tP 7 ?_
   refine WA.effN 8 rfl qK rfl rfl (Ef.store2 0 tab_ok rfl rfl rfl rfl rfl rfl rfl rfl ?_)
   refine ⟨qR, qS, ?_⟩
   refine WA.done qK ?_
   refine WE.cut () trivial ⟨rfl, rfl, rfl, rfl, rfl⟩ (RLe.refl _) qS



theorem PortK_C {k : Nat} (hk : k = 1 ∨ k = 2) {R : Ro} {b : Nat} {a : Option Addr} {cp : Nat} {xs : List Int} {c : Nat} (w0 : World) (ha : K.RS R 1 encI a xs) : FnAt Tryz.prog 26 [.pointer (some ⟨b, 0, none⟩), .int .i64 (k : Int)] w0 R (srcE b a cp xs c) (fun v R' e' N => ∃ (L : Ln) (aw at_ : Option Addr) (cw ct cn : Nat), v = .agg #[.int .i64 L.kind, .int .i64 L.cap, .int .i64 L.n, .slice aw L.w.length cw, .slice at_ L.tb.length ct] ∧ K.RS R' 1 encI aw L.w ∧ K.RS R' 1 encI at_ L.tb ∧ DrawP k L ∧ e' = srcE b a cp xs cn ∧ N = []) := by
 rcases hk with rfl | rfl
 ·exact Port1_C w0 ha
 ·exact Port2_C w0 ha

set_option maxHeartbeats 8000000 in
theorem Net24_C {R : Ro} {b : Nat} {a : Option Addr} {cp : Nat} {xs : List Int} {c : Nat} (w0 : World) (ha : K.RS R 1 encI a xs) {nl nf : Nat} (hnl4 : 1 ≤ nl ∧ nl ≤ 4) (hnf4 : nf ≤ 4) : FnAt Tryz.prog 9 [.pointer (some ⟨b, 0, none⟩), .int .i64 (nl : Int), .int .i64 (nf : Int)] w0 R (srcE b a cp xs c) (fun v R' e' N => ∃ (k : Nat) (ms : List LnM) (fs : List FlM) (na la fa : Option Addr) (nc lc fc cn : Nat), v = .agg #[.slice na (nm4.take ms.length).length nc, .slice la ms.length lc, .slice fa fs.length fc] ∧ (k = 1 ∨ k = 2) ∧ (1 ≤ ms.length ∧ ms.length ≤ nl) ∧ fs.length ≤ nf ∧ K.RS R' 1 encT na (nm4.take ms.length) ∧ K.RS R' 5 encLn la ms ∧ K.RS R' 8 encFl fa fs ∧ (∀ m ∈ ms, OkLn R' m ∧ DrawP k m.L) ∧ (∀ x ∈ fs, OkFl R' x ∧ (x.f.route.length ≤ x.c1 ∧ x.f.cv.vals.length ≤ x.c2) ∧ DrawF k ms.length x.f) ∧ fs.map FlM.nm = nf5.take fs.length ∧ ((nm4.take ms.length).length ≤ nc ∧ ms.length ≤ lc ∧ fs.length ≤ fc) ∧ e' = srcE b a cp xs cn ∧ N = []) := by
 intro F
 refine fE 64 Tryz.func9 ?_
 refine zQ (zG ?_)
 refine zA fun b6 => ?_
 refine zN (zU (zQ (zG ?_)))
 refine zA fun b7 => ?_
 refine zN (zU (zQ (zG (zR 1 rfl ?_))))
 refine WL.callAt 2 en25 rfl rfl qD (CallOp.mkT rfl rfl rfl rfl) rfl (Range_C (lo := 1) (hi := 2) w0 ha qO qO _) ?_
 rintro _ _ _ _ - ⟨rfl, rfl, rfl, rfl⟩
 obtain ⟨k, hkv, hk⟩ : ∃ k : Nat, 1 + mod (nth xs c) (2 - 1 + 1) = (k : Int) ∧ (k = 1 ∨ k = 2) := by
  have := mod_range (nth xs c) (show (1 : Int) ≤ 2 - 1 + 1 by omega)
  exact ⟨(1 + mod (nth xs c) (2 - 1 + 1)).toNat, by omega, by omega⟩
 rw [hkv]
 refine zR 1 rfl (zN (zU (zQ ?_)))
 refine W.nil 29 5 qD ?_
 refine W.nil 9 1 qD ?_
 refine zQ (zG (zR 2 rfl ?_))
 refine WL.callAt 4 en25 rfl rfl qD (CallOp.mkT rfl rfl rfl rfl) rfl (Range_C (lo := 1) (hi := (nl : Int)) w0 ha qO qO _) ?_
 rintro _ _ _ _ - ⟨rfl, rfl, rfl, rfl⟩
 obtain ⟨n, hnv, hn⟩ : ∃ n : Nat, 1 + mod (nth xs (c + 1)) ((nl : Int) - 1 + 1) = (n : Int) ∧ 1 ≤ n ∧ n ≤ nl := by
  have := mod_range (nth xs (c + 1)) (show (1 : Int) ≤ (nl : Int) - 1 + 1 by omega)
  exact ⟨(1 + mod (nth xs (c + 1)) ((nl : Int) - 1 + 1)).toNat, by omega, by omega⟩
 rw [hnv]
 refine zR 1 rfl (zN (zU (zB ?_)))
 refine W.loopR (β := Nat × List (List UInt8) × List LnM × Option Addr × Nat × Option Addr × Nat × Nat × Ro) (fun (j, ns, ms, a1, c1, a2, c2, cn, Rk) => j + ms.length = n ∧ ns = nm4.take ms.length ∧ RLe R Rk ∧ ∀ m ∈ ms, OkLn Rk m ∧ DrawP k m.L) (fun (j, ns, ms, a1, c1, a2, c2, cn, Rk) => [(9, true, .int .i64 (j : Int))]) [0, 2, 6, 7, 8] [_, _, _, _, _] [] _ rfl (fun (j, ns, ms, a1, c1, a2, c2, cn, Rk) => [(0, .sl 9 1 a1 c1 (ns.map encT)), (1, .sl 29 5 a2 c2 (ms.map encLn)), (2, .blk b7 [.slice a1 ns.length c1, .slice a2 ms.length c2, .slice none 0 0]), (4, srcE b a cp xs cn)]) (fun (j, ns, ms, a1, c1, a2, c2, cn, Rk) => Rk) (fun (j, ns, ms, a1, c1, a2, c2, cn, Rk) => j) ((n, [], [], none, 0, none, 0, c + 1 + 1, R)) (⟨by simp, rfl, RLe.refl _, fun m h => (by cases h)⟩) ⟨rfl, rfl, rfl, rfl, rfl, rfl, rfl⟩ (RLe.refl _) qS ?_
 intro zz hst
 obtain ⟨j, ns, ms, a1, c1, a2, c2, cn, Rk⟩ := zz
 dsimp only [zipE, setAll, List.cons_append, List.nil_append, List.set_cons_zero, List.set_cons_succ] at hst ⊢
 obtain ⟨hj, hns, hRk, hom⟩ := hst
 have ha := ha.mono hRk
 have hnl : ns.length = ms.length := by rw [hns, List.length_take]; show min _ 4 = _; omega
 refine zQ (zQ (zG (zR 2 rfl (zN (zU ?_)))))
 refine W.condD rfl (fun hc0 => ?_) (fun hc0 => ?_)
 ·try dsimp only at hc0
  have htk : ns ++ [nth nm4 (ns.length % 4)] = nm4.take (ms.length + 1) := by
   rw [hnl, Nat.mod_eq_of_lt (by omega), hns]
   exact (take_nth (show ms.length < nm4.length by show _ < 4; omega)).symm
  refine zK (zU (zQ (zB (zQ ?_))))
  refine W.regionD _ (.blk b6 [.slice none 0 0, .slice none 0 0, .slice none 0 0] :: F) (.blk b7 [.slice a1 ns.length c1, .slice a2 ms.length c2, .slice none 0 0] :: .blk b6 [.slice none 0 0, .slice none 0 0, .slice none 0 0] :: F) [12] mixed ?_
  refine VA.take2 0 rfl qK qK qK rfl qK qK rfl rfl qD (pureV_ok tab_ok rfl (fun _ => rfl)) qS qR qS ?_
  refine' VA.take2 1 rfl qK qK qK rfl qK qK rfl rfl qD (Yl.load1 tab_ok rfl rfl rfl (fun _ => rfl) ?r1 rfl ?h1) qS qR qS ?_
  case r1 => apply Rd.add; (exact Rd.blk 0 rfl)
  case h1 => rfl
  refine VA.take2 3 rfl qK qK qK rfl qK qK rfl rfl qD (pureV_ok tab_ok rfl (fun _ => rfl)) qS qR qS ?_
  refine' VA.take2 4 rfl qK qK qK rfl qK qK rfl rfl qD (Yl.load1 tab_ok rfl rfl rfl (fun _ => rfl) ?r2 rfl ?h2) qS qR qS ?_
  case r2 => apply Rd.add; (exact Rd.blk 0 rfl)
  case h2 => rfl
  refine VA.take2 5 rfl qK qK qK rfl qK qK rfl rfl qD (pureV_ok tab_ok rfl (fun _ => rfl)) qS qR qS ?_
  refine VA.take2 6 rfl qK qK qK rfl qK qK rfl rfl qD (Yl.rem rfl rfl rfl (fun _ => rfl) qN qN) qS qR qS ?_
  refine VA.one (i := 2) qK ?_
  refine VS.eff rfl rfl rfl qD (Ef.buildSliceD (enc := encT) (parts := [.const (.string ⟨#[97]⟩), .const (.string ⟨#[98]⟩), .const (.string ⟨#[99]⟩), .const (.string ⟨#[100]⟩)]) nm4 tab_ok rfl rfl rfl rfl rfl rfl rfl rfl qD qD (fun a22 => ?_))
  refine ⟨by first | exact RLe.refl _ | assumption, qS, (fun _ => qS), ?_⟩
  refine VA.take2 7 rfl qK qK qK rfl qK qK rfl rfl qD (Yl.indexN tab_ok rfl rfl rfl rfl rfl rfl (fun _ => rfl) (by intro _; (show _ < 4; exact Nat.mod_lt _ qD)) qH) qS qR qS ?_
  refine VA.one (i := 8) qK ?_
  refine' VS.yl rfl rfl rfl qD (Yl.load1 tab_ok rfl rfl rfl (fun _ => rfl) ?r3 rfl ?h3) qS qR (fun _ => qS) ?_
  case r3 => exact Rd.slD 0 rfl (by show _ < 4; exact Nat.mod_lt _ qD)
  case h3 => rfl
  refine VA.one (i := 9) qK ?_
  refine VS.eff rfl rfl rfl qD (Ef.buildSliceD (enc := encT) (parts := [.tmp 28]) [nth nm4 (ns.length % 4)] tab_ok rfl rfl rfl rfl rfl rfl rfl rfl qD qD (fun a29 => ?_))
  refine ⟨by first | exact RLe.refl _ | assumption, qS, (fun _ => qS), ?_⟩
  refine VA.one (i := 10) qK ?_
  refine VS.eff rfl rfl rfl (by decide) (Ef.appendD 2 0 tab_ok rfl rfl rfl rfl rfl rfl rfl rfl rfl rfl rfl (fun _ _ => rfl) (by simp only [List.length_cons, List.length_nil]; omega) (by simp only [List.length_cons, List.length_nil]; omega) (fun a30 c30 ha30 => ?_))
  refine ⟨by first | exact RLe.refl _ | assumption, qS, (fun _ => qS), ?_⟩
  refine VA.take2 11 rfl qK qK qK rfl qK qK rfl rfl qD (pureV_ok tab_ok rfl (fun _ => rfl)) qS qR qS ?_
  refine VA.one (i := 12) qK ?_
  refine VS.effN rfl rfl rfl (Ef.store 4 tab_ok rfl rfl rfl rfl rfl rfl rfl rfl ?_)
  refine ⟨by first | exact RLe.refl _ | assumption, qS, (noD qK), ?_⟩
  refine VA.done qK ?_
  refine zU ?_
  refine W.regionD _ (.blk b6 [.slice none 0 0, .slice none 0 0, .slice none 0 0] :: F) (.blk b7 [.slice a30 (ns ++ [nth nm4 (ns.length % 4)]).length c30, .slice a2 ms.length c2, .slice none 0 0] :: .blk b6 [.slice none 0 0, .slice none 0 0, .slice none 0 0] :: F) [8] mixed ?_
  refine VA.take2 0 rfl qK qK qK rfl qK qK rfl rfl qD (pureV_ok tab_ok rfl (fun _ => rfl)) qS qR qS ?_
  refine' VA.take2 1 rfl qK qK qK rfl qK qK rfl rfl qD (Yl.load1 tab_ok rfl rfl rfl (fun _ => rfl) ?r4 rfl ?h4) qS qR qS ?_
  case r4 => apply Rd.add; (exact Rd.blk 0 rfl)
  case h4 => rfl
  refine VA.take2 2 rfl qK qK qK rfl qK qK rfl rfl qD (pureV_ok tab_ok rfl (fun _ => rfl)) qS qR qS ?_
  refine VA.take2 3 rfl qK qK qK rfl qK qK rfl rfl qD (pureV_ok tab_ok rfl (fun _ => rfl)) qS qR qS ?_
  refine VA.one (i := 4) qK ?_
  refine VS.callAt 6 rfl en26 rfl rfl qD (CallOp.mkT rfl rfl rfl rfl) rfl (PortK_C hk w0 ha _) ?_
  rintro _ R2 _ _ hR2 ⟨L, aw, at_, cw, ct, cq, rfl, hf1, hf2, hdp, rfl, rfl⟩
  refine ⟨by first | exact hR2 | assumption, qS, (fun _ => qS), ?_⟩
  refine VA.one (i := 5) qK ?_
  refine VS.eff rfl rfl rfl qD (Ef.buildSliceD (enc := encLn) (parts := [.tmp 36]) [⟨aw, cw, at_, ct, L⟩] tab_ok rfl rfl rfl rfl rfl rfl rfl rfl qD qD (fun a37 => ?_))
  refine ⟨by first | exact RLe.refl _ | assumption, qS, (fun _ => qS), ?_⟩
  refine VA.one (i := 6) qK ?_
  refine VS.eff rfl rfl rfl (by decide) (Ef.appendD 4 0 tab_ok rfl rfl rfl rfl rfl rfl rfl rfl rfl rfl rfl (fun _ _ => rfl) (by simp only [List.length_cons, List.length_nil]; omega) (by simp only [List.length_cons, List.length_nil]; omega) (fun a38 c38 ha38 => ?_))
  refine ⟨by first | exact RLe.refl _ | assumption, qS, (fun _ => qS), ?_⟩
  refine VA.take2 7 rfl qK qK qK rfl qK qK rfl rfl qD (pureV_ok tab_ok rfl (fun _ => rfl)) qS qR qS ?_
  refine VA.one (i := 8) qK ?_
  refine VS.effN rfl rfl rfl (Ef.store 5 tab_ok rfl rfl rfl rfl rfl rfl rfl rfl ?_)
  refine ⟨by first | exact RLe.refl _ | assumption, qS, (noD qK), ?_⟩
  refine VA.done qK ?_
  refine zL (zU (zG (zR 1 rfl ?_)))
  refine yS ?_
  refine zR 1 rfl (zN ?_)
  refine WE.again ((j - 1, ns ++ [nth nm4 (ns.length % 4)], ms ++ [⟨aw, cw, at_, ct, L⟩], a30, c30, a38, c38, cq, R2)) (⟨by rw [List.length_append]; show j - 1 + (ms.length + 1) = n; omega, by rw [List.length_append]; exact htk, hRk.trans hR2, fun m hm => by
   rcases List.mem_append.1 hm with h | h
   ·exact ⟨(hom m h).1.mono hR2, (hom m h).2⟩
   ·rw [List.mem_singleton.1 h]; exact ⟨⟨hf1, hf2⟩, hdp⟩⟩) (by show j - 1 < j; omega) ⟨vint (by show (j : Int) - 1 = ((j - 1 : Nat) : Int); omega), rfl, rfl, rfl, rfl, rfl, rfl⟩ (RLe.refl _) qS
 ·try dsimp only at hc0
  obtain rfl : j = 0 := by omega
  subst hns
  refine zX ?_
  refine wx (wx (zY (zU (zQ ?_))))
  refine W.cap 0 rfl ?_
  intro hcl1
  refine W.cap 1 rfl ?_
  intro hcl2
  refine W.freeze (enc := encT) (xs := nm4.take ms.length) 0 rfl ?_
  intro R3 hR3 hna
  refine W.freeze (enc := encLn) (xs := ms) 0 rfl ?_
  intro R4 hR4 hla
  have hna := hna.mono hR4
  have ha := ha.mono (hR3.trans hR4)
  have hRR := (hRk.trans hR3).trans hR4
  refine W.nil 35 8 qD ?_
  refine zQ (zG (zR 2 rfl ?_))
  refine WL.callAt 3 en25 rfl rfl qD (CallOp.mkT rfl rfl rfl rfl) rfl (Range_C (lo := 0) (hi := (nf : Int)) w0 ha qO qO _) ?_
  rintro _ _ _ _ - ⟨rfl, rfl, rfl, rfl⟩
  obtain ⟨nq, hqv, hnq⟩ : ∃ n : Nat, 0 + mod (nth xs cn) ((nf : Int) - 0 + 1) = (n : Int) ∧ n ≤ nf := by
   have := mod_range (nth xs cn) (show (1 : Int) ≤ (nf : Int) - 0 + 1 by omega)
   exact ⟨(0 + mod (nth xs cn) ((nf : Int) - 0 + 1)).toNat, by omega, by omega⟩
  rw [hqv]
  refine zR 1 rfl (zN (zU (zB ?_)))
  refine W.loopR (β := Nat × List FlM × Option Addr × Nat × Nat × Ro) (fun (j, fs, a3, c3, cn, Rj) => j + fs.length = nq ∧ RLe R4 Rj ∧ fs.map FlM.nm = nf5.take fs.length ∧ ∀ x ∈ fs, OkFl Rj x ∧ (x.f.route.length ≤ x.c1 ∧ x.f.cv.vals.length ≤ x.c2) ∧ DrawF k ms.length x.f) (fun (j, fs, a3, c3, cn, Rj) => [(10, true, .int .i64 (j : Int))]) [0, 6, 7, 8] [_, _, _, _] [] _ rfl (fun (j, fs, a3, c3, cn, Rj) => [(0, .sl 35 8 a3 c3 (fs.map encFl)), (1, .blk b7 [.slice a1 (nm4.take ms.length).length c1, .slice a2 ms.length c2, .slice a3 fs.length c3]), (3, srcE b a cp xs cn)]) (fun (j, fs, a3, c3, cn, Rj) => Rj) (fun (j, fs, a3, c3, cn, Rj) => j) ((nq, [], none, 0, cn + 1, R4)) (⟨by simp, RLe.refl _, rfl, fun x h => (by cases h)⟩) ⟨rfl, rfl, rfl, rfl, rfl, rfl⟩ (RLe.refl _) qS ?_
  intro zz hst
  obtain ⟨j, fs, a3, c3, cn, Rj⟩ := zz
  dsimp only [zipE, setAll, List.cons_append, List.nil_append, List.set_cons_zero, List.set_cons_succ] at hst ⊢
  obtain ⟨hj, hRj, hfn, hof⟩ := hst
  have ha := ha.mono hRj
  have hfl5 : (fs.map FlM.nm).length = fs.length := List.length_map ..
  refine zQ (zQ (zG (zR 2 rfl (zN (zU ?_)))))
  refine W.condD rfl (fun hc1 => ?_) (fun hc1 => ?_)
  ·try dsimp only at hc1
   have htf : nf5.take fs.length ++ [nth nf5 (fs.length % 5)] = nf5.take (fs.length + 1) := by
    rw [Nat.mod_eq_of_lt (by omega)]
    exact (take_nth (show fs.length < nf5.length by show _ < 5; omega)).symm
   refine zK (zU (zQ (zB ?_)))
   refine W.regionD _ (.blk b6 [.slice none 0 0, .slice none 0 0, .slice none 0 0] :: F) (.blk b7 [.slice a1 (nm4.take ms.length).length c1, .slice a2 ms.length c2, .slice a3 fs.length c3] :: .blk b6 [.slice none 0 0, .slice none 0 0, .slice none 0 0] :: F) [16] mixed ?_
   refine VA.take2 0 rfl qK qK qK rfl qK qK rfl rfl qD (pureV_ok tab_ok rfl (fun _ => rfl)) qS qR qS ?_
   refine' VA.take2 1 rfl qK qK qK rfl qK qK rfl rfl qD (Yl.load1 tab_ok rfl rfl rfl (fun _ => rfl) ?r5 rfl ?h5) qS qR qS ?_
   case r5 => apply Rd.add; (exact Rd.blk 0 rfl)
   case h5 => rfl
   refine VA.take2 2 rfl qK qK qK rfl qK qK rfl rfl qD (pureV_ok tab_ok rfl (fun _ => rfl)) qS qR qS ?_
   refine' VA.take2 3 rfl qK qK qK rfl qK qK rfl rfl qD (Yl.load1 tab_ok rfl rfl rfl (fun _ => rfl) ?r6 rfl ?h6) qS qR qS ?_
   case r6 => (exact Rd.blk 0 rfl)
   case h6 => rfl
   refine VA.take2 5 rfl qK qK qK rfl qK qK rfl rfl qD (pureV_ok tab_ok rfl (fun _ => rfl)) qS qR qS ?_
   refine' VA.take2 6 rfl qK qK qK rfl qK qK rfl rfl qD (Yl.load1 tab_ok rfl rfl rfl (fun _ => rfl) ?r7 rfl ?h7) qS qR qS ?_
   case r7 => apply Rd.add; (exact Rd.blk 0 rfl)
   case h7 => rfl
   refine VA.take2 7 rfl qK qK qK rfl qK qK rfl rfl qD (pureV_ok tab_ok rfl (fun _ => rfl)) qS qR qS ?_
   refine VA.take2 8 rfl qK qK qK rfl qK qK rfl rfl qD (Yl.rem rfl rfl rfl (fun _ => rfl) qN qN) qS qR qS ?_
   refine VA.take2 11 rfl qK qK qK rfl qK qK rfl rfl qD (pureV_ok tab_ok rfl (fun _ => rfl)) qS qR qS ?_
   refine VA.one (i := 4) qK ?_
   refine VS.eff rfl rfl rfl qD (Ef.buildSliceD (enc := encT) (parts := [.const (.string ⟨#[102]⟩), .const (.string ⟨#[103]⟩), .const (.string ⟨#[104]⟩), .const (.string ⟨#[105]⟩), .const (.string ⟨#[106]⟩)]) nf5 tab_ok rfl rfl rfl rfl rfl rfl rfl rfl qD qD (fun a51 => ?_))
   refine ⟨by first | exact RLe.refl _ | assumption, qS, (fun _ => qS), ?_⟩
   refine VA.take2 9 rfl qK qK qK rfl qK qK rfl rfl qD (Yl.indexN tab_ok rfl rfl rfl rfl rfl rfl (fun _ => rfl) (by intro _; (show _ < 5; exact Nat.mod_lt _ qD)) qH) qS qR qS ?_
   refine VA.one (i := 10) qK ?_
   refine' VS.yl rfl rfl rfl qD (Yl.load1 tab_ok rfl rfl rfl (fun _ => rfl) ?r8 rfl ?h8) qS qR (fun _ => qS) ?_
   case r8 => exact Rd.slD 0 rfl (by show _ < 5; exact Nat.mod_lt _ qD)
   case h8 => rfl
   refine VA.one (i := 12) qK ?_
   refine VS.callAt 4 rfl en27 rfl rfl qD (CallOp.mkT rfl rfl rfl rfl) rfl (Flow24_C (m := ms.length) (k := k) w0 ha hk ⟨by omega, by omega⟩ (nf5_len (fs.length % 5)) _) ?_
   rintro _ R2 _ _ hR2 ⟨x, cq, rfl, hxo, hx1, hx2, hxn, hxd, rfl, rfl⟩
   refine ⟨by first | exact hR2 | assumption, qS, (fun _ => qS), ?_⟩
   refine VA.one (i := 13) qK ?_
   refine VS.eff rfl rfl rfl qD (Ef.buildSliceD (enc := encFl) (parts := [.tmp 59]) [x] tab_ok rfl rfl rfl rfl rfl rfl rfl rfl qD qD (fun a60 => ?_))
   refine ⟨by first | exact RLe.refl _ | assumption, qS, (fun _ => qS), ?_⟩
   refine VA.one (i := 14) qK ?_
   refine VS.eff rfl rfl rfl (by decide) (Ef.appendD 2 0 tab_ok rfl rfl rfl rfl rfl rfl rfl rfl rfl rfl rfl (fun _ _ => rfl) (by simp only [List.length_cons, List.length_nil]; omega) (by simp only [List.length_cons, List.length_nil]; omega) (fun a61 c61 ha61 => ?_))
   refine ⟨by first | exact RLe.refl _ | assumption, qS, (fun _ => qS), ?_⟩
   refine VA.take2 15 rfl qK qK qK rfl qK qK rfl rfl qD (pureV_ok tab_ok rfl (fun _ => rfl)) qS qR qS ?_
   refine VA.one (i := 16) qK ?_
   refine VS.effN rfl rfl rfl (Ef.store 3 tab_ok rfl rfl rfl rfl rfl rfl rfl rfl ?_)
   refine ⟨by first | exact RLe.refl _ | assumption, qS, (noD qK), ?_⟩
   refine VA.done qK ?_
   refine zL (zU (zG (zR 1 rfl ?_)))
   refine yS ?_
   refine zR 1 rfl (zN ?_)
   refine WE.again ((j - 1, fs ++ [x], a61, c61, cq, R2)) (⟨by rw [List.length_append]; show j - 1 + (fs.length + 1) = nq; omega, hRj.trans hR2, by rw [List.map_append, hfn, List.length_append, List.map_singleton, show FlM.nm x = nth nf5 (fs.length % 5) from hxn]; exact htf, fun y hy => by
    rcases List.mem_append.1 hy with h | h
    ·exact ⟨(hof y h).1.mono hR2, (hof y h).2⟩
    ·rw [List.mem_singleton.1 h]; exact ⟨hxo, ⟨hx1, hx2⟩, hxd⟩⟩) (by show j - 1 < j; omega) ⟨vint (by show (j : Int) - 1 = ((j - 1 : Nat) : Int); omega), rfl, rfl, rfl, rfl, rfl⟩ (RLe.refl _) qS
  ·try dsimp only at hc1
   obtain rfl : j = 0 := by omega
   refine zX ?_
   refine wx (wx (zY (zU ?_)))
   refine W.cap 0 rfl ?_
   intro hcl3
   refine W.freeze (enc := encFl) (xs := fs) 0 rfl ?_
   intro R5 hR5 hfa
   have hRR := hRR.trans (hRj.trans hR5)
   have hna := hna.mono (hRj.trans hR5)
   have hla := hla.mono (hRj.trans hR5)
   refine zQ (zG ?_)
   refine yL (Rd.blk 0 rfl) ?_
   refine zE 1 ?_
   refine zN (zU (zT ?_))
   refine WE.retFS (E' := srcE b a cp xs (cn) :: F) qS tab_ok [_] rfl ⟨⟨_, _, _, rfl, rfl, rfl, qB, rfl⟩, trivial⟩ (by first | assumption | exact RLe.refl _) ?_
   exact ⟨_, [], rfl, k, ms, fs, _, _, _, _, _, _, _, rfl, hk, ⟨by omega, by omega⟩, by omega, hna, hla, hfa, fun m hm => ⟨(hom m hm).1.mono (hR3.trans (hR4.trans (hRj.trans hR5))), (hom m hm).2⟩, fun x hx => ⟨(hof x hx).1.mono hR5, (hof x hx).2⟩, hfn, ⟨by simpa using hcl1, by simpa using hcl2, by simpa using hcl3⟩, rfl, rfl⟩



theorem par_A : parN (lineA ++ [10]) = (([[97]], [(⟨1, 100, 1, [], []⟩ : Ln)], []), 0, 0) := by kernel_rfl
theorem par_B : parN (lineA ++ [10] ++ (lineB ++ [10])) = (zNt, 2, 4) := by kernel_rfl
theorem nt_eq {s : List UInt8} {n n' : Nt} {l l' e e' : Int} (h : parN s = (n, l, e)) (h' : parN s = (n', l', e')) : n = n' ∧ l = l' ∧ e = e' := by
 have h2 := h.symm.trans h'
 obtain ⟨h3, h4⟩ := Prod.mk.inj h2
 obtain ⟨h5, h6⟩ := Prod.mk.inj h4
 exact ⟨h3, h5, h6⟩
theorem nt_ms {L : Ln} {ms : List LnM} (h : ms.map (·.L) = [L]) : ∃ m, ms = [m] ∧ m.L = L := by
 obtain ⟨m, r, rfl, h1, h2⟩ := List.map_eq_cons_iff.1 h
 obtain rfl := List.map_eq_nil_iff.1 h2
 exact ⟨m, rfl, h1⟩

set_option maxHeartbeats 4000000 in
theorem SaneG_C {R : Ro} (hG : GlobE R) (w0 : World) (E : List Ent) : K.Fn Tryz.prog 7 [] w0 R E (fun v R' E' => v = .bool true ∧ E.Sublist E') := by
 refine fE 60 Tryz.func7 ?_
 refine zQ (zG (zR 1 rfl (zN (zU (zQ (zG ?_))))))
 have hp1 := Parse_C hG (s := lineA ++ [10]) (by decide) w0
 refine WL.call en19 rfl rfl qD (CallOp.mkT rfl rfl rfl rfl) (hp1 _) ?_
 rintro _ R1 _ hR1 ⟨na1, la1, fa1, nc1, lc1, fc1, ns1, ms1, fs1, ln1, e1, rfl, hna1, hla1, hom1, hof1, hnn1, hnc1, hlc1, hfc1, hpn1, rfl⟩
 have hG := hG.mono hR1
 obtain ⟨hq1, rfl, rfl⟩ := nt_eq hpn1 par_A
 obtain ⟨rfl, hq2⟩ := Prod.mk.inj hq1
 obtain ⟨hms, hfs⟩ := Prod.mk.inj hq2
 obtain rfl := List.map_eq_nil_iff.1 hfs
 obtain ⟨⟨x1, y1, x2, y2, L⟩, rfl, hL⟩ := nt_ms hms
 dsimp only at hL
 subst hL
 refine zR 4 rfl ?_
 refine zA fun b1 => ?_
 refine zE 0 ?_
 refine zR 2 rfl (zN (zU (zQ (zG ?_))))
 refine yL (Rd.blk 0 rfl) ?_
 refine WG.callV (v := .tuple #[.string (str (lineA ++ [10])), .int .i64 0]) en12 rfl rfl qD (CallOp.mk' rfl rfl rfl rfl) (fun _ => rfl) (fun hg => by
  have h := FmtN_V (fs := []) (fa := fa1) (fc := fc1) (nc := nc1) (lc := lc1) hG hna1 hla1 ⟨by simp, .inl rfl, by simp⟩ hom1 (fun m h => by cases h) (by decide)
  rw [show ([(⟨x1, y1, x2, y2, (⟨1, 100, 1, [], []⟩ : Ln)⟩ : LnM)].map (·.L)) = [(⟨1, 100, 1, [], []⟩ : Ln)] from rfl, show (([] : List FlM).map (·.f)) = [] from rfl, fmtN_nil, fmt_A] at h
  exact h) ?_
 refine zR 5 rfl (zN (zU (zQ (zG ?_))))
 have hp2 := Parse_C hG (s := lineA ++ [10] ++ (lineB ++ [10])) (by decide) w0
 refine WL.call en19 rfl rfl qD (CallOp.mkT rfl rfl rfl rfl) (hp2 _) ?_
 rintro _ R2 _ hR2 ⟨na2, la2, fa2, nc2, lc2, fc2, ns2, ms2, fs2, ln2, e2, rfl, hna2, hla2, hom2, hof2, hnn2, hnc2, hlc2, hfc2, hpn2, rfl⟩
 have hG := hG.mono hR2
 have hla1 := hla1.mono hR2
 obtain ⟨_, rfl, rfl⟩ := nt_eq hpn2 par_B
 refine zR 4 rfl ?_
 refine zA fun b6 => ?_
 refine zE 0 ?_
 refine zR 2 rfl (zN (zU (zQ (zG (zR 3 rfl ?_)))))
 refine WL.guardT rfl (by rfl) ?_
 refine yP ?_
 refine WL.guardT rfl (by rfl) ?_
 refine yP ?_
 refine yN ?_
 refine zR 1 rfl ?_
 refine WL.guardT rfl (by rfl) ?_
 refine yP ?_
 refine WL.guardT rfl (by rfl) ?_
 refine yL (Rd.add (Rd.blk 2 rfl) _) ?_
 refine WL.guardT rfl (by rfl) ?_
 refine yP ?_
 refine WL.guardT rfl (by rfl) ?_
 refine yP ?_
 refine yN ?_
 refine zR 1 rfl ?_
 refine WL.guardT rfl (by rfl) ?_
 refine yP ?_
 refine WL.guardT rfl (by rfl) ?_
 refine yL (Rd.add (Rd.blk 2 rfl) _) ?_
 refine WL.guardT rfl (by rfl) ?_
 refine WG.y rfl rfl qD (Yl.indexN tab_ok rfl rfl rfl rfl rfl rfl (fun _ => rfl) (by intro _; (exact Nat.one_pos)) qH) ?_
 refine WL.guardT rfl (by rfl) ?_
 refine yP ?_
 refine WL.guardT rfl (by rfl) ?_
 refine' WG.y rfl rfl qD (Yl.load1 tab_ok rfl rfl rfl (fun _ => rfl) ?r4 rfl ?h4) ?_
 case r4 => apply Rd.add; exact RS.rdD hla1 Nat.one_pos
 case h4 => rfl
 refine WL.guardT rfl (by rfl) ?_
 refine yP ?_
 refine yN ?_
 refine zR 1 rfl ?_
 refine WL.guardT rfl (by rfl) ?_
 refine yP ?_
 refine WL.guardT rfl (by rfl) ?_
 refine yP ?_
 refine yN ?_
 refine zR 1 rfl ?_
 refine WL.guardT rfl (by rfl) ?_
 refine yP ?_
 refine WL.guardT rfl (by rfl) ?_
 refine WG.y rfl rfl qD (Yl.eqS rfl rfl rfl (fun _ => rfl)) ?_
 refine yN ?_
 refine zR 1 rfl ?_
 refine WL.guardT rfl (by rfl) ?_
 refine yP ?_
 refine WL.guardT rfl (by rfl) ?_
 refine yP ?_
 refine yN ?_
 refine zR 1 rfl ?_
 refine WL.guardT rfl (by rfl) ?_
 refine yP ?_
 refine WL.guardT rfl (by rfl) ?_
 refine yP ?_
 refine yN ?_
 refine zR 1 rfl (zN (zU (zT ?_)))
 refine WE.retF tab_ok [_] rfl ⟨rfl, trivial⟩ (hR1.trans hR2) ?_
 exact ⟨rfl, qS⟩



theorem ValidA_V {R : Ro} {a : Option Addr} {c : Nat} {v : List Int} {per inc : Int} (ha : RS R 1 encI a v) : FnV Tryz.prog 56 [.agg #[.slice a v.length c, .int .i64 per, .int .i64 inc]] R (.bool (validB ⟨v, per, inc⟩)) := by
 have hla := ha.len
 refine Fn.toV (fun w0 E => ?_)
 refine fE 118 Tryz.func56 ?_
 refine zQ (zG ?_)
 refine zO fun b1 => ?_
 refine zR 1 rfl (zN (zU (zQ (zG (zR 1 rfl ?_)))))
 refine yL (Rd.add (Rd.blk 0 rfl) _) ?_
 refine zR 2 rfl (zN (zU (zQ (zQ (zG (zR 3 rfl ?_))))))
 refine yP ?_
 refine yP ?_
 refine yO ?_
 refine zR 1 rfl ?_
 refine yP ?_
 refine yG (Rd.addC (Rd.blkC 0 rfl) _) ?_
 refine yP ?_
 refine yO ?_
 refine zR 1 rfl ?_
 refine yP ?_
 refine yG (Rd.addC (Rd.blkC 0 rfl) _) ?_
 refine yP ?_
 refine yO ?_
 refine zR 1 rfl ?_
 refine yP ?_
 refine yG (Rd.addC (Rd.blkC 0 rfl) _) ?_
 refine yP ?_
 refine yP ?_
 refine yO ?_
 refine zR 1 rfl ?_
 refine yP ?_
 refine yG (Rd.addC (Rd.blkC 0 rfl) _) ?_
 refine yP ?_
 refine yO ?_
 refine zR 1 rfl ?_
 refine yP ?_
 refine yG (Rd.addC (Rd.blkC 0 rfl) _) ?_
 refine yP ?_
 refine yO ?_
 refine zN (zU ?_)
 refine W.cond rfl (fun hc0 => ?_) (fun hc0 => ?_)
 ·try simp only [zk] at hc0
  have hno : validB ⟨v, per, inc⟩ = false := validB_false (fun h => by obtain ⟨⟨a1, a2, a3, a4, a5, a6, a7⟩, _⟩ := h; dsimp only at a1 a2 a3 a4 a5 a6 a7; unfold MAXV at a7; omega)
  refine zQ (zG (zR 1 rfl (zN (zU (zT (wt ?_))))))
  refine sE (E := E) ?_
  refine WE.retF tab_ok [_] rfl ⟨rfl, trivial⟩ (RLe.refl _) ?_
  exact ⟨by rw [hno]; rfl, rfl⟩
 ·try simp only [zk] at hc0
  have hall : 1 ≤ v.length ∧ v.length ≤ 400 ∧ 1 ≤ per ∧ per ≤ 120 ∧ per ≤ v.length ∧ 0 ≤ inc ∧ inc ≤ MAXV := by unfold MAXV; omega
  refine zK (zU (zQ (zQ (zG (zR 1 rfl (zN (zU (zB ?_))))))))
  refine W.loopK (β := Nat) (fun i => i ≤ v.length ∧ ∀ j, j < i → (nth v j = INF ∨ (0 ≤ nth v j ∧ nth v j ≤ MAXV)) ∧ (j = 0 ∨ nth v (j - 1) ≤ nth v j)) (fun i => [(4, true, .int .i64 (i : Int))]) [1, 3] [_, _] [] _ rfl (fun i => []) (fun i => v.length - i) (0) (⟨Nat.zero_le _, fun j hj => by omega⟩) ⟨rfl, rfl, rfl, rfl⟩ qS ?_
  intro i hst
  dsimp only [zipE, setAll, List.cons_append, List.nil_append, List.set_cons_zero, List.set_cons_succ] at hst ⊢
  
  refine zQ (zQ (zG (zR 3 rfl (zN (zU ?_)))))
  refine W.condD rfl (fun hc1 => ?_) (fun hc1 => ?_)
  ·try dsimp only at hc1
   have hil : i < v.length := by omega
   have e1 : 0 < i → ((i : Int) - 1).toNat = i - 1 := fun _ => by omega
   refine zK (zU (zQ (zB (zQ ?_))))
   refine W.regionQ _ mixed qK ?_
   refine zR 1 rfl ?_
   refine yL (Rd.add (Rd.blk 0 rfl) _) ?_
   refine zR 1 rfl ?_
   refine WG.y rfl rfl qD (Yl.indexN tab_ok rfl rfl rfl rfl rfl rfl (fun _ => rfl) qN qH) ?_
   refine yR ?_
   refine zR 2 rfl ?_
   refine yP ?_
   refine yG (Rd.addC (Rd.blkC 0 rfl) _) ?_
   refine yP ?_
   refine WG.y rfl rfl (by decide) (Yl.indexN tab_ok rfl rfl rfl rfl rfl rfl qE (by intro hg; (try simp only [zk] at hg); (try dsimp only) <;> omega) (by intro hg; (try simp only [zk] at hg); first | exact qI)) ?_
   refine' WG.y rfl rfl qD (Yl.loadG tab_ok rfl rfl rfl qE ?r10 rfl ?h10 ?g10) ?_
   case r10 => ((apply RS.rdC; assumption))
   case h10 => rfl
   case g10 => (intro hg; (try simp only [zk] at hg); (try dsimp only); omega)
   refine yP ?_
   refine yP ?_
   refine yP ?_
   refine yG (Rd.addC (Rd.blkC 0 rfl) _) ?_
   refine yP ?_
   refine WG.y rfl rfl (by decide) (Yl.indexN tab_ok rfl rfl rfl rfl rfl rfl qE (by intro hg; (try simp only [zk] at hg); (try dsimp only) <;> omega) (by intro hg; (try simp only [zk] at hg); first | exact qI)) ?_
   refine' WG.y rfl rfl qD (Yl.loadG tab_ok rfl rfl rfl qE ?r12 rfl ?h12 ?g12) ?_
   case r12 => ((apply RS.rdC; assumption))
   case h12 => rfl
   case g12 => (intro hg; (try simp only [zk] at hg); (try dsimp only); omega)
   refine yP ?_
   refine yO ?_
   refine yN ?_
   refine zR 1 rfl ?_
   refine yP ?_
   refine yP ?_
   refine yP ?_
   refine yP ?_
   refine yG (Rd.addC (Rd.blkC 0 rfl) _) ?_
   refine yP ?_
   refine WG.y rfl rfl (by decide) (Yl.indexN tab_ok rfl rfl rfl rfl rfl rfl qE (by intro hg; (try simp only [zk] at hg); (try dsimp only) <;> omega) (by intro hg; (try simp only [zk] at hg); first | exact qI)) ?_
   refine' WG.y rfl rfl qD (Yl.loadG tab_ok rfl rfl rfl qE ?r14 rfl ?h14 ?g14) ?_
   case r14 => ((apply RS.rdC; assumption))
   case h14 => rfl
   case g14 => (intro hg; (try simp only [zk] at hg); (try dsimp only); omega)
   refine yP ?_
   refine yG (Rd.addC (Rd.blkC 0 rfl) _) ?_
   refine yP ?_
   refine WG.y rfl rfl (by decide) (Yl.sub rfl rfl rfl qE (by intro hg; (try simp only [zk] at hg); constructor <;> (try dsimp only) <;> omega)) ?_
   refine WG.y rfl rfl (by decide) (Yl.index tab_ok rfl rfl rfl rfl rfl rfl qE (by intro hg; (try simp only [zk] at hg); constructor <;> (try dsimp only) <;> omega) (by intro hg; (try simp only [zk] at hg); first | exact qI)) ?_
   refine' WG.y rfl rfl qD (Yl.loadG tab_ok rfl rfl rfl qE ?r16 rfl ?h16 ?g16) ?_
   case r16 => ((apply RS.rdC; assumption))
   case h16 => rfl
   case g16 => (intro hg; (try simp only [zk] at hg); (try dsimp only); omega)
   refine yP ?_
   refine yN ?_
   refine yO ?_
   refine zN (zU ?_)
   refine W.cond rfl (fun hc2 => ?_) (fun hc2 => ?_)
   ·try simp only [zk] at hc2
    have hno : validB ⟨v, per, inc⟩ = false := validB_false (fun h => by
     obtain ⟨_, h2, _⟩ := h
     have h2 := h2 i hil
     dsimp only at h2
     unfold INF MAXV at h2
     rcases hc2 with ⟨x1, x2⟩ | ⟨x1, x2⟩
     ·omega
     ·rw [e1 (by omega)] at x2; omega)
    refine zQ (zG (zR 1 rfl (zN (zU (zT (wb (wt (wt (wb (wt ?_))))))))))
    refine sE (E := E) ?_
    refine WE.retF tab_ok [_] rfl ⟨rfl, trivial⟩ (RLe.refl _) ?_
    exact ⟨by rw [hno]; rfl, rfl⟩
   ·try simp only [zk] at hc2
    have hy : (nth v i = INF ∨ (0 ≤ nth v i ∧ nth v i ≤ MAXV)) ∧ (i = 0 ∨ nth v (i - 1) ≤ nth v i) := by
     obtain ⟨x1, x2⟩ := hc2
     unfold INF MAXV
     refine ⟨by omega, ?_⟩
     by_cases h : i = 0
     ·exact .inl h
     ·have := x2 (by omega)
      rw [e1 (by omega)] at this
      right; omega
    refine zK (zL (zU (zG (zR 1 rfl ?_))))
    refine yA ?_
    refine zR 1 rfl (zN ?_)
    refine WE.again (i + 1) (⟨by omega, fun j hj => by
     by_cases e : j = i
     ·subst e; exact hy
     ·exact hst.2 j (by omega)⟩) (by (try dsimp only); omega) ⟨rfl, rfl, rfl, rfl⟩ (RLe.refl _) qS
  ·try dsimp only at hc1
   obtain rfl : i = v.length := by omega
   have hvn : ∀ j, j < v.length → 0 ≤ nth v j ∧ nth v j ≤ 4611686018427387904 := fun j hj => by
    have := (hst.2 j hj).1
    unfold INF MAXV at this
    omega
   have e2 : ((v.length : Int) - 1).toNat = v.length - 1 := by omega
   have e3 : ((v.length : Int) - per).toNat = v.length - per.toNat := by omega
   have hx1 := hvn (((v.length : Int) - 1).toNat) (by omega)
   have hx2 := hvn (((v.length : Int) - per).toNat) (by omega)
   have hx2b : nth v ((v.length : Int) - 1).toNat ≠ 4611686018427387904 → nth v ((v.length : Int) - per).toNat + inc ≤ 4611686018427387904 + 1073741824 := fun _ => by unfold MAXV at hall; omega
   refine zX ?_
   refine wx (wx (zY (zU (zQ (zQ (zG (zR 1 rfl ?_)))))))
   refine yL (Rd.add (Rd.blk 0 rfl) _) ?_
   refine zR 1 rfl ?_
   refine yS ?_
   refine WG.y rfl rfl qD (Yl.index tab_ok rfl rfl rfl rfl rfl rfl (fun _ => rfl) qA qH) ?_
   refine' WG.y rfl rfl qD (Yl.load1 tab_ok rfl rfl rfl (fun _ => rfl) ?r18 rfl ?h18) ?_
   case r18 => exact RS.rdD ha qO
   case h18 => rfl
   refine zR 1 rfl (zN (zU ?_))
   refine W.condE rfl (fun hc3 => ?_) (fun hc3 => ?_)
   ·try dsimp only at hc3
    have hif : (if nth v (v.length - 1) = INF then per = 1 ∧ inc = 0 else nth v (v.length - 1) ≤ nth v (v.length - per.toNat) + inc) ↔ (per = 1 ∧ inc = 0) := by rw [if_pos (by rw [← e2]; exact hc3)]
    refine zQ (zG (zR 1 rfl ?_))
    refine yL (Rd.add (Rd.blk 0 rfl) _) ?_
    refine zR 2 rfl ?_
    refine yP ?_
    refine yG (Rd.addC (Rd.blkC 0 rfl) _) ?_
    refine yP ?_
    refine yN ?_
    refine zR 1 rfl (zN (zU (zT (wt ?_))))
    refine sE (E := E) ?_
    refine WE.retF tab_ok [_] rfl ⟨rfl, trivial⟩ (RLe.refl _) ?_
    refine ⟨congrArg Value.bool ?_, rfl⟩
    rw [Bool.eq_iff_iff, validB_iff]
    dsimp only
    rw [hif]
    simp only [Bool.and_eq_true, beq_iff_eq]
    exact ⟨fun h => ⟨hall, fun j hj => hst.2 j hj, h⟩, fun h => h.2.2⟩
   ·try dsimp only at hc3
    have hif : (if nth v (v.length - 1) = INF then per = 1 ∧ inc = 0 else nth v (v.length - 1) ≤ nth v (v.length - per.toNat) + inc) ↔ (nth v (v.length - 1) ≤ nth v (v.length - per.toNat) + inc) := by rw [if_neg (by rw [← e2]; exact hc3)]
    refine zK (zU (zQ ?_))
    refine W.regionQ _ mixed qK ?_
    refine zR 1 rfl ?_
    refine yL (Rd.add (Rd.blk 0 rfl) _) ?_
    refine zR 2 rfl ?_
    refine yL (Rd.add (Rd.blk 0 rfl) _) ?_
    refine yS ?_
    refine WG.y rfl rfl qD (Yl.index tab_ok rfl rfl rfl rfl rfl rfl (fun _ => rfl) qA qH) ?_
    refine' WG.y rfl rfl qD (Yl.load1 tab_ok rfl rfl rfl (fun _ => rfl) ?r23 rfl ?h23) ?_
    case r23 => exact RS.rdD ha qO
    case h23 => rfl
    refine zR 1 rfl ?_
    refine yL (Rd.add (Rd.blk 0 rfl) _) ?_
    refine yA ?_
    refine zR 1 rfl ?_
    refine yL (Rd.add (Rd.blk 0 rfl) _) ?_
    refine zR 1 rfl ?_
    refine yS ?_
    refine WG.y rfl rfl qD (Yl.index tab_ok rfl rfl rfl rfl rfl rfl (fun _ => rfl) qA qH) ?_
    refine' WG.y rfl rfl qD (Yl.load1 tab_ok rfl rfl rfl (fun _ => rfl) ?r26 rfl ?h26) ?_
    case r26 => exact RS.rdD ha qO
    case h26 => rfl
    refine zR 2 rfl (zN (zU (zT ?_)))
    refine sE (E := E) ?_
    refine WE.retF tab_ok [_] rfl ⟨rfl, trivial⟩ (RLe.refl _) ?_
    refine ⟨congrArg Value.bool ?_, rfl⟩
    rw [Bool.eq_iff_iff, validB_iff]
    dsimp only
    rw [hif, e2, e3]
    simp only [decide_eq_true_eq]
    exact ⟨fun h => ⟨hall, fun j hj => hst.2 j hj, h⟩, fun h => h.2.2⟩





theorem Ints23_V {R : Ro} {a b : Option Addr} {c d : Nat} {xs ys : List Int} (ha : K.RS R 1 encI a xs) (hb : K.RS R 1 encI b ys) : FnV Tryz.prog 59 [.slice a xs.length c, .slice b ys.length d] R (.bool (decide (xs = ys))) := by
 refine Fn.toV (fun w0 E => ?_)
 have hla := ha.len
 have hlb := hb.len
 refine fE 26 Tryz.func59 ?_
 refine zQ (zG (zR 1 rfl (zN (zU (zQ (zQ (zG (zR 5 rfl (zN (zU ?_))))))))))
 refine W.condN rfl (fun hc0 => ?_) (fun hc0 => ?_)
 ·try dsimp only at hc0
  have hno : ¬ xs = ys := fun h => by rw [h] at hc0; exact hc0 rfl
  refine zQ (zG (zR 1 rfl (zN (zU (zT (wt ?_))))))
  refine sE (E := E) ?_
  refine WE.retF tab_ok [_] rfl ⟨rfl, trivial⟩ (RLe.refl _) ?_
  exact ⟨by rw [decide_eq_false hno]; rfl, rfl⟩
 ·try dsimp only at hc0
  have hll : xs.length = ys.length := by omega
  refine zK (zU (zQ (zQ (zG (zR 1 rfl (zN (zU (zB ?_))))))))
  refine W.loopK (β := Nat) (fun i => i ≤ xs.length ∧ ∀ j, j < i → nth xs j = nth ys j) (fun i => [(5, true, .int .i64 (i : Int))]) [0, 1] [_, _] [] _ rfl (fun i => []) (fun i => xs.length - i) (0) (⟨Nat.zero_le _, fun j hj => by omega⟩) ⟨rfl, rfl, rfl, rfl⟩ qS ?_
  intro i hst
  dsimp only [zipE, setAll, List.cons_append, List.nil_append, List.set_cons_zero, List.set_cons_succ] at hst ⊢
  
  refine zQ (zQ (zG (zR 4 rfl (zN (zU ?_)))))
  refine W.condD rfl (fun hc1 => ?_) (fun hc1 => ?_)
  ·try dsimp only at hc1
   have hil : i < xs.length := by omega
   refine zK (zU (zQ (zB (zQ ?_))))
   refine W.regionQ _ mixed qK ?_
   refine zR 2 rfl ?_
   refine WG.y rfl rfl qD (Yl.indexN tab_ok rfl rfl rfl rfl rfl rfl (fun _ => rfl) qN qH) ?_
   refine' WG.y rfl rfl qD (Yl.load1 tab_ok rfl rfl rfl (fun _ => rfl) ?r1 rfl ?h1) ?_
   case r1 => exact RS.rdD ha qO
   case h1 => rfl
   refine zR 2 rfl ?_
   refine WG.y rfl rfl qD (Yl.indexN tab_ok rfl rfl rfl rfl rfl rfl (fun _ => rfl) qN qH) ?_
   refine' WG.y rfl rfl qD (Yl.load1 tab_ok rfl rfl rfl (fun _ => rfl) ?r2 rfl ?h2) ?_
   case r2 => exact RS.rdD hb qO
   case h2 => rfl
   refine zR 1 rfl (zN (zU ?_))
   refine W.condN rfl (fun hc2 => ?_) (fun hc2 => ?_)
   ·try dsimp only at hc2
    have hno : ¬ xs = ys := fun h => by rw [h] at hc2; exact hc2 rfl
    refine zQ (zG (zR 1 rfl (zN (zU (zT (wb (wt (wt (wb (wt ?_))))))))))
    refine sE (E := E) ?_
    refine WE.retF tab_ok [_] rfl ⟨rfl, trivial⟩ (RLe.refl _) ?_
    exact ⟨by rw [decide_eq_false hno]; rfl, rfl⟩
   ·try dsimp only at hc2
    have hee : nth xs i = nth ys i := by omega
    refine zK (zL (zU (zG (zR 1 rfl ?_))))
    refine yA ?_
    refine zR 1 rfl (zN ?_)
    refine WE.again (i + 1) (⟨by omega, fun j hj => by
     by_cases e : j = i
     ·subst e; exact hee
     ·exact hst.2 j (by omega)⟩) (by (try dsimp only); omega) ⟨rfl, rfl, rfl, rfl⟩ (RLe.refl _) qS
  ·try dsimp only at hc1
   obtain rfl : i = xs.length := by omega
   refine zX ?_
   refine wx (wx (zY (zU (zQ (zG (zR 1 rfl (zN (zU (zT ?_)))))))))
   refine sE (E := E) ?_
   refine WE.retF tab_ok [_] rfl ⟨rfl, trivial⟩ (RLe.refl _) ?_
   have hyes : xs = ys := nth_ext hll hst.2
   exact ⟨by rw [decide_eq_true hyes]; rfl, rfl⟩

def Ln.same (L M : Ln) : Bool := (((decide (L.kind = M.kind) && decide (L.cap = M.cap)) && decide (L.n = M.n)) && decide (L.w = M.w)) && decide (L.tb = M.tb)
theorem Ln.same_iff {L M : Ln} : Ln.same L M = true ↔ L = M := by
 unfold Ln.same
 simp only [Bool.and_eq_true, decide_eq_true_eq]
 constructor
 ·rintro ⟨⟨⟨⟨h1, h2⟩, h3⟩, h4⟩, h5⟩
  cases L; cases M
  simp_all
 ·rintro rfl
  exact ⟨⟨⟨⟨rfl, rfl⟩, rfl⟩, rfl⟩, rfl⟩
instance decLn : DecidableEq Ln := fun _ _ => decidable_of_iff _ Ln.same_iff

set_option maxHeartbeats 2000000 in
theorem SameLn_V {R : Ro} {a1 a2 b1 b2 : Option Addr} {c1 c2 d1 d2 : Nat} {L M : Ln} (h1 : K.RS R 1 encI a1 L.w) (h2 : K.RS R 1 encI a2 L.tb) (h3 : K.RS R 1 encI b1 M.w) (h4 : K.RS R 1 encI b2 M.tb) : FnV Tryz.prog 24 [.agg #[.int .i64 L.kind, .int .i64 L.cap, .int .i64 L.n, .slice a1 L.w.length c1, .slice a2 L.tb.length c2], .agg #[.int .i64 M.kind, .int .i64 M.cap, .int .i64 M.n, .slice b1 M.w.length d1, .slice b2 M.tb.length d2]] R (.bool (Ln.same L M)) := by
 refine FnV.ofOwn (fun w0 hb0 => ?_)
 refine fE 38 Tryz.func24 ?_
 refine zQ (zG ?_)
 refine zO fun b2 => ?_
 refine zO fun b3 => ?_
 refine zR 1 rfl (zN (zU (zQ (zG (zR 1 rfl ?_)))))
 refine yL (Rd.add (Rd.blk 1 rfl) _) ?_
 refine zR 1 rfl ?_
 refine yL (Rd.add (Rd.blk 0 rfl) _) ?_
 refine zR 2 rfl ?_
 refine yP ?_
 refine yG (Rd.addC (Rd.blkC 1 rfl) _) ?_
 refine yP ?_
 refine yG (Rd.addC (Rd.blkC 0 rfl) _) ?_
 refine yP ?_
 refine yN ?_
 refine zR 1 rfl ?_
 refine yP ?_
 refine yG (Rd.addC (Rd.blkC 1 rfl) _) ?_
 refine yP ?_
 refine yG (Rd.addC (Rd.blkC 0 rfl) _) ?_
 refine yP ?_
 refine yN ?_
 refine zR 1 rfl ?_
 refine yP ?_
 refine yG (Rd.addC (Rd.blkC 1 rfl) _) ?_
 refine yP ?_
 refine yG (Rd.addC (Rd.blkC 0 rfl) _) ?_
 refine WG.callV en59 rfl rfl qD (CallOp.mk' rfl rfl rfl rfl) qE (fun hg => Ints23_V h1 h3) ?_
 refine yN ?_
 refine zR 1 rfl ?_
 refine yP ?_
 refine yG (Rd.addC (Rd.blkC 1 rfl) _) ?_
 refine yP ?_
 refine yG (Rd.addC (Rd.blkC 0 rfl) _) ?_
 refine WG.callV en59 rfl rfl qD (CallOp.mk' rfl rfl rfl rfl) qE (fun hg => Ints23_V h2 h4) ?_
 refine yN ?_
 refine zR 1 rfl (zN (zU (zT ?_)))
 refine WE.subE (E' := []) qS ?_
 refine WE.retF tab_ok [_] rfl ⟨rfl, trivial⟩ (RLe.refl _) ?_
 exact rfl



theorem duo31 : Duo Tryz.prog 31 := ⟨_, _, Tryz.underlying31, by kernel_rfl, by kernel_rfl, by decide, by decide, rfl, rfl, ⟨_, Tryz.underlying3⟩, ⟨_, Tryz.underlying3⟩, fun xs w v h => run_part_plain w (by kernel_rfl) h, fun xs w v h => run_part_plain w (by kernel_rfl) h⟩

theorem SameC23_T {R : Ro} {fa ga : Option Addr} {fc gc : Nat} {c : Cv} (ha : K.RS R 1 encI fa c.vals) (hb : K.RS R 1 encI ga c.vals) : FnV Tryz.prog 78 [.agg #[.slice fa c.vals.length fc, .int .i64 c.per, .int .i64 c.inc], .agg #[.slice ga c.vals.length gc, .int .i64 c.per, .int .i64 c.inc]] R (.bool true) := by
 refine FnV.ofOwn (fun w0 hb0 => ?_)
 refine fE 24 Tryz.func78 ?_
 refine zQ (zG ?_)
 refine zO fun b2 => ?_
 refine zO fun b3 => ?_
 refine zR 1 rfl (zN (zU (zQ (zG (zR 1 rfl ?_)))))
 refine yL (Rd.add (Rd.blk 1 rfl) _) ?_
 refine zR 1 rfl ?_
 refine yL (Rd.add (Rd.blk 0 rfl) _) ?_
 refine WG.callV (v := .bool true) en59 rfl rfl (by decide) (CallOp.mk' rfl rfl rfl rfl) (fun _ => rfl) (fun hg => (by have h := Ints23_V (c := fc) (d := gc) ha hb; rw [decide_eq_true rfl] at h; exact h)) ?_
 refine zR 1 rfl ?_
 refine WL.guardT rfl (by first | rfl | simp) ?_
 refine yP ?_
 refine WL.guardT rfl (by first | rfl | simp) ?_
 refine yL (Rd.add (Rd.blk 1 rfl) _) ?_
 refine WL.guardT rfl (by first | rfl | simp) ?_
 refine yP ?_
 refine WL.guardT rfl (by first | rfl | simp) ?_
 refine yL (Rd.add (Rd.blk 0 rfl) _) ?_
 refine WL.guardT rfl (by first | rfl | simp) ?_
 refine yP ?_
 refine yN ?_
 refine zR 1 rfl ?_
 refine WL.guardT rfl (by first | rfl | simp) ?_
 refine yP ?_
 refine WL.guardT rfl (by first | rfl | simp) ?_
 refine yL (Rd.add (Rd.blk 1 rfl) _) ?_
 refine WL.guardT rfl (by first | rfl | simp) ?_
 refine yP ?_
 refine WL.guardT rfl (by first | rfl | simp) ?_
 refine yL (Rd.add (Rd.blk 0 rfl) _) ?_
 refine WL.guardT rfl (by first | rfl | simp) ?_
 refine yP ?_
 refine yN ?_
 refine zR 1 rfl (zN (zU (zT ?_)))
 refine WE.subE (E' := []) qS ?_
 refine WE.retF tab_ok [_] rfl ⟨rfl, trivial⟩ (RLe.refl _) ?_
 (show Value.bool _ = Value.bool true; simp)

set_option maxHeartbeats 1000000 in
theorem SameF23_T {R : Ro} {x1 x2 y1 y2 : Option Addr} {xc1 xc2 yc1 yc2 : Nat} {f : Fl} (h1 : K.RS R 1 encI x1 f.route) (h2 : K.RS R 1 encI y1 f.route) (h3 : K.RS R 1 encI x2 f.cv.vals) (h4 : K.RS R 1 encI y2 f.cv.vals) : FnV Tryz.prog 55 [.agg #[.string (str f.name), .slice x1 f.route.length xc1, .int .i64 f.cls, .int .i64 f.lo, .int .i64 f.hi, .slice x2 f.cv.vals.length xc2, .int .i64 f.cv.per, .int .i64 f.cv.inc], .agg #[.string (str f.name), .slice y1 f.route.length yc1, .int .i64 f.cls, .int .i64 f.lo, .int .i64 f.hi, .slice y2 f.cv.vals.length yc2, .int .i64 f.cv.per, .int .i64 f.cv.inc]] R (.bool true) := by
 refine FnV.ofOwn (fun w0 hb0 => ?_)
 refine fE 38 Tryz.func55 ?_
 refine zQ (zG ?_)
 refine zO fun b2 => ?_
 refine zO fun b3 => ?_
 refine zR 1 rfl (zN (zU (zQ (zG (zR 1 rfl ?_)))))
 refine yL (Rd.add (Rd.blk 1 rfl) _) ?_
 refine zR 1 rfl ?_
 refine yL (Rd.add (Rd.blk 0 rfl) _) ?_
 refine WG.y rfl rfl qD (Yl.eqS rfl rfl rfl (fun _ => rfl)) ?_
 refine zR 1 rfl ?_
 refine WL.guardT rfl (by first | rfl | simp) ?_
 refine yP ?_
 refine WL.guardT rfl (by first | rfl | simp) ?_
 refine yL (Rd.add (Rd.blk 1 rfl) _) ?_
 refine WL.guardT rfl (by first | rfl | simp) ?_
 refine yP ?_
 refine WL.guardT rfl (by first | rfl | simp) ?_
 refine yL (Rd.add (Rd.blk 0 rfl) _) ?_
 refine WL.guardT rfl (by first | rfl | simp) ?_
 refine WG.callV (v := .bool true) en59 rfl rfl (by decide) (CallOp.mk' rfl rfl rfl rfl) (fun _ => rfl) (fun hg => (by have h := Ints23_V (c := xc1) (d := yc1) h1 h2; rw [decide_eq_true rfl] at h; exact h)) ?_
 refine yN ?_
 refine zR 1 rfl ?_
 refine WL.guardT rfl (by first | rfl | simp) ?_
 refine yP ?_
 refine WL.guardT rfl (by first | rfl | simp) ?_
 refine yL (Rd.add (Rd.blk 1 rfl) _) ?_
 refine WL.guardT rfl (by first | rfl | simp) ?_
 refine yP ?_
 refine WL.guardT rfl (by first | rfl | simp) ?_
 refine yL (Rd.add (Rd.blk 0 rfl) _) ?_
 refine WL.guardT rfl (by first | rfl | simp) ?_
 refine yP ?_
 refine yN ?_
 refine zR 1 rfl ?_
 refine WL.guardT rfl (by first | rfl | simp) ?_
 refine yP ?_
 refine WL.guardT rfl (by first | rfl | simp) ?_
 refine yL (Rd.add (Rd.blk 1 rfl) _) ?_
 refine WL.guardT rfl (by first | rfl | simp) ?_
 refine yP ?_
 refine WL.guardT rfl (by first | rfl | simp) ?_
 refine yL (Rd.add (Rd.blk 0 rfl) _) ?_
 refine WL.guardT rfl (by first | rfl | simp) ?_
 refine WG.y rfl rfl qD (Yl.eqDuo duo31 rfl rfl rfl (fun _ => rfl)) ?_
 refine yN ?_
 refine zR 1 rfl ?_
 refine WL.guardT rfl (by first | rfl | simp) ?_
 refine yP ?_
 refine WL.guardT rfl (by first | rfl | simp) ?_
 refine yL (Rd.add (Rd.blk 1 rfl) _) ?_
 refine WL.guardT rfl (by first | rfl | simp) ?_
 refine yP ?_
 refine WL.guardT rfl (by first | rfl | simp) ?_
 refine yL (Rd.add (Rd.blk 0 rfl) _) ?_
 refine WL.guardT rfl (by first | rfl | simp) ?_
 refine WG.callV en78 rfl rfl qD (CallOp.mk' rfl rfl rfl rfl) (fun _ => rfl) (fun hg => SameC23_T h3 h4) ?_
 refine yN ?_
 refine zR 1 rfl (zN (zU (zT ?_)))
 refine WE.subE (E' := []) qS ?_
 refine WE.retF tab_ok [_] rfl ⟨rfl, trivial⟩ (RLe.refl _) ?_
 (show Value.bool _ = Value.bool true; simp)

set_option maxHeartbeats 4000000 in
theorem SameN23_T {R : Ro} {na la fa nb lb fb : Option Addr} {nc lc fc nd ld fd : Nat} {ns : List (List UInt8)} {ms qs : List LnM} {fs gs : List FlM} (h1 : K.RS R 1 encT na ns) (h2 : K.RS R 5 encLn la ms) (h3 : K.RS R 1 encT nb ns) (h4 : K.RS R 5 encLn lb qs) (h5 : K.RS R 8 encFl fa fs) (h6 : K.RS R 8 encFl fb gs) (hm : ∀ m ∈ ms, OkLn R m) (hq : ∀ m ∈ qs, OkLn R m) (hf : ∀ x ∈ fs, OkFl R x) (hgo : ∀ x ∈ gs, OkFl R x) (he : ms.map (·.L) = qs.map (·.L)) (hfe : fs.map (·.f) = gs.map (·.f)) : FnV Tryz.prog 21 [.agg #[.slice na ns.length nc, .slice la ms.length lc, .slice fa fs.length fc], .agg #[.slice nb ns.length nd, .slice lb qs.length ld, .slice fb gs.length fd]] R (.bool true) := by
 refine FnV.ofOwn (fun w0 hb0 => ?_)
 have l1 := h1.len
 have l2 := h2.len
 have l4 := h4.len
 have l5 := h5.len
 have l6 := h6.len
 have hml : ms.length = qs.length := by have := congrArg List.length he; rw [List.length_map, List.length_map] at this; exact this
 have hfl : fs.length = gs.length := by have := congrArg List.length hfe; rw [List.length_map, List.length_map] at this; exact this
 have hme : ∀ i, i < ms.length → (nth ms i).L = (nth qs i).L := fun i hi => by
  have e1 : (ms.map (·.L))[i]? = (qs.map (·.L))[i]? := by rw [he]
  rw [List.getElem?_map, List.getElem?_map, List.getElem?_eq_getElem hi, List.getElem?_eq_getElem (by omega)] at e1
  rw [nth_eq hi, nth_eq (by omega)]; exact Option.some.inj e1
 have hfx : ∀ i, i < fs.length → (nth fs i).f = (nth gs i).f := fun i hi => by
  have e1 : (fs.map (·.f))[i]? = (gs.map (·.f))[i]? := by rw [hfe]
  rw [List.getElem?_map, List.getElem?_map, List.getElem?_eq_getElem hi, List.getElem?_eq_getElem (by omega)] at e1
  rw [nth_eq hi, nth_eq (by omega)]; exact Option.some.inj e1
 refine fE 89 Tryz.func21 ?_
 refine zQ (zG ?_)
 refine zO fun b2 => ?_
 refine zO fun b3 => ?_
 refine zR 1 rfl (zN (zU (zQ (zQ (zG (zR 1 rfl ?_))))))
 refine yL (Rd.add (Rd.blk 1 rfl) _) ?_
 refine zR 2 rfl ?_
 refine yL (Rd.add (Rd.blk 0 rfl) _) ?_
 refine zR 3 rfl ?_
 refine yP ?_
 refine yG (Rd.addC (Rd.blkC 1 rfl) _) ?_
 refine yP ?_
 refine yP ?_
 refine yG (Rd.addC (Rd.blkC 0 rfl) _) ?_
 refine yP ?_
 refine yP ?_
 refine yO ?_
 refine zR 1 rfl ?_
 refine yP ?_
 refine yG (Rd.addC (Rd.blkC 1 rfl) _) ?_
 refine yP ?_
 refine yP ?_
 refine yG (Rd.addC (Rd.blkC 0 rfl) _) ?_
 refine yP ?_
 refine yP ?_
 refine yO ?_
 refine zN (zU ?_)
 refine W.cond rfl (fun hc0 => ?_) (fun hc0 => ?_)
 ·try simp only [zk] at hc0
  exfalso; rcases hc0 with (h | h) | h <;> first | exact h rfl | exact h trivial | omega
 ·try simp only [zk] at hc0
  refine zK (zU (zQ (zQ (zG (zR 1 rfl (zN (zU (zB ?_))))))))
  refine W.loopK (β := Nat) (fun i => i ≤ ns.length) (fun i => [(5, true, .int .i64 (i : Int))]) [2, 3] [_, _] [] _ rfl (fun i => []) (fun i => ns.length - i) (0) (Nat.zero_le _) ⟨rfl, rfl, rfl, rfl⟩ qS ?_
  intro i hst
  dsimp only [zipE, setAll, List.cons_append, List.nil_append, List.set_cons_zero, List.set_cons_succ] at hst ⊢
  
  refine zQ (zQ (zG (zR 2 rfl ?_)))
  refine yL (Rd.add (Rd.blk 1 rfl) _) ?_
  refine zR 2 rfl (zN (zU ?_))
  refine W.condD rfl (fun hc1 => ?_) (fun hc1 => ?_)
  ·try dsimp only at hc1
   have hil : i < ns.length := by omega
   refine zK (zU (zQ (zB (zQ ?_))))
   refine W.regionQ _ mixed qK ?_
   refine zR 1 rfl ?_
   refine yL (Rd.add (Rd.blk 1 rfl) _) ?_
   refine zR 1 rfl ?_
   refine WG.y rfl rfl qD (Yl.indexN tab_ok rfl rfl rfl rfl rfl rfl (fun _ => rfl) qN qH) ?_
   refine' WG.y rfl rfl qD (Yl.load1 tab_ok rfl rfl rfl (fun _ => rfl) ?r9 rfl ?h9) ?_
   case r9 => exact RS.rdD h1 qO
   case h9 => rfl
   refine zR 1 rfl ?_
   refine yL (Rd.add (Rd.blk 0 rfl) _) ?_
   refine zR 1 rfl ?_
   refine WG.y rfl rfl qD (Yl.indexN tab_ok rfl rfl rfl rfl rfl rfl (fun _ => rfl) qN qH) ?_
   refine' WG.y rfl rfl qD (Yl.load1 tab_ok rfl rfl rfl (fun _ => rfl) ?r11 rfl ?h11) ?_
   case r11 => exact RS.rdD h3 qO
   case h11 => rfl
   refine WG.y rfl rfl qD (Yl.neS rfl rfl rfl (fun _ => rfl)) ?_
   refine zN (zU ?_)
   refine W.cond rfl (fun hc2 => ?_) (fun hc2 => ?_)
   ·try simp only [zk] at hc2
    (simp at hc2)
   ·try simp only [zk] at hc2
    refine zK (zL (zU (zG (zR 1 rfl ?_))))
    refine yA ?_
    refine zR 1 rfl (zN ?_)
    refine WE.again (i + 1) (by (try dsimp only); omega) (by (try dsimp only); omega) ⟨rfl, rfl, rfl, rfl⟩ (RLe.refl _) qS
  ·try dsimp only at hc1
   obtain rfl : i = ns.length := by omega
   refine zX ?_
   refine wx (wx (zY (zU (zQ (zQ (zG (zR 1 rfl (zN (zU (zB ?_))))))))))
   refine W.loopK (β := Nat) (fun i => i ≤ ms.length) (fun i => [(6, true, .int .i64 (i : Int))]) [2, 3] [_, _] [] _ rfl (fun i => []) (fun i => ms.length - i) (0) (Nat.zero_le _) ⟨rfl, rfl, rfl, rfl⟩ qS ?_
   intro i hst
   dsimp only [zipE, setAll, List.cons_append, List.nil_append, List.set_cons_zero, List.set_cons_succ] at hst ⊢
   
   refine zQ (zQ (zG (zR 2 rfl ?_)))
   refine yL (Rd.add (Rd.blk 1 rfl) _) ?_
   refine zR 2 rfl (zN (zU ?_))
   refine W.condD rfl (fun hc3 => ?_) (fun hc3 => ?_)
   ·try dsimp only at hc3
    have hil : i < ms.length := by omega
    have hiq : i < qs.length := by omega
    refine zK (zU (zQ (zB (zQ ?_))))
    refine W.regionQ _ mixed qK ?_
    refine zR 1 rfl ?_
    refine yL (Rd.add (Rd.blk 1 rfl) _) ?_
    refine zR 1 rfl ?_
    refine WG.y rfl rfl qD (Yl.indexN tab_ok rfl rfl rfl rfl rfl rfl (fun _ => rfl) qN qH) ?_
    refine' WG.y rfl rfl qD (Yl.load1 tab_ok rfl rfl rfl (fun _ => rfl) ?r14 rfl ?h14) ?_
    case r14 => exact RS.rdD h2 hil
    case h14 => rfl
    refine zR 1 rfl ?_
    refine yL (Rd.add (Rd.blk 0 rfl) _) ?_
    refine zR 1 rfl ?_
    refine WG.y rfl rfl qD (Yl.indexN tab_ok rfl rfl rfl rfl rfl rfl (fun _ => rfl) qN qH) ?_
    refine' WG.y rfl rfl qD (Yl.load1 tab_ok rfl rfl rfl (fun _ => rfl) ?r16 rfl ?h16) ?_
    case r16 => exact RS.rdD h4 hiq
    case h16 => rfl
    refine WG.callV (v := .bool true) en24 rfl rfl (by decide) (CallOp.mk' rfl rfl rfl rfl) (fun _ => rfl) (fun hg => (by have h := SameLn_V (L := (nth ms i).L) (M := (nth qs i).L) (c1 := (nth ms i).c1) (c2 := (nth ms i).c2) (d1 := (nth qs i).c1) (d2 := (nth qs i).c2) (hm _ (nth_mem hil)).1 (hm _ (nth_mem hil)).2 (hq _ (nth_mem hiq)).1 (hq _ (nth_mem hiq)).2; rw [Ln.same_iff.2 (hme i hil)] at h; exact h)) ?_
    refine zR 1 rfl (zN (zU ?_))
    refine W.cond rfl (fun hc4 => ?_) (fun hc4 => ?_)
    ·try simp only [zk] at hc4
     simp at hc4
    ·try simp only [zk] at hc4
     refine zK (zL (zU (zG (zR 1 rfl ?_))))
     refine yA ?_
     refine zR 1 rfl (zN ?_)
     refine WE.again (i + 1) (by (try dsimp only); omega) (by (try dsimp only); omega) ⟨rfl, rfl, rfl, rfl⟩ (RLe.refl _) qS
   ·try dsimp only at hc3
    obtain rfl : i = ms.length := by omega
    refine zX ?_
    refine wx (wx (zY (zU (zQ (zQ (zG (zR 1 rfl (zN (zU (zB ?_))))))))))
    refine W.loopK (β := Nat) (fun i => i ≤ fs.length) (fun i => [(7, true, .int .i64 (i : Int))]) [2, 3] [_, _] [] _ rfl (fun i => []) (fun i => fs.length - i) (0) (Nat.zero_le _) ⟨rfl, rfl, rfl, rfl⟩ qS ?_
    intro i hst
    dsimp only [zipE, setAll, List.cons_append, List.nil_append, List.set_cons_zero, List.set_cons_succ] at hst ⊢
    
    refine zQ (zQ (zG (zR 2 rfl ?_)))
    refine yL (Rd.add (Rd.blk 1 rfl) _) ?_
    refine zR 2 rfl (zN (zU ?_))
    refine W.condD rfl (fun hc5 => ?_) (fun hc5 => ?_)
    ·try dsimp only at hc5
     have hif : i < fs.length := by omega
     have hig : i < gs.length := by omega
     have hfxi := hfx i hif
     refine zK (zU (zQ (zB (zQ ?_))))
     refine W.regionQ _ mixed qK ?_
     refine zR 1 rfl ?_
     refine yL (Rd.add (Rd.blk 1 rfl) _) ?_
     refine zR 1 rfl ?_
     refine WG.y rfl rfl qD (Yl.indexN tab_ok rfl rfl rfl rfl rfl rfl (fun _ => rfl) qN qH) ?_
     refine' WG.y rfl rfl qD (Yl.load1 tab_ok rfl rfl rfl (fun _ => rfl) ?r19 rfl ?h19) ?_
     case r19 => exact RS.rdD h5 hif
     case h19 => rfl
     refine zR 1 rfl ?_
     refine yL (Rd.add (Rd.blk 0 rfl) _) ?_
     refine zR 1 rfl ?_
     refine WG.y rfl rfl qD (Yl.indexN tab_ok rfl rfl rfl rfl rfl rfl (fun _ => rfl) qN qH) ?_
     refine' WG.y rfl rfl qD (Yl.load1 tab_ok rfl rfl rfl (fun _ => rfl) ?r21 rfl ?h21) ?_
     case r21 => exact RS.rdD h6 hig
     case h21 => rfl
     rw [show encFl (nth gs i) = [.string (str (nth fs i).f.name), .slice (nth gs i).a1 (nth fs i).f.route.length (nth gs i).c1, .int .i64 (nth fs i).f.cls, .int .i64 (nth fs i).f.lo, .int .i64 (nth fs i).f.hi, .slice (nth gs i).a2 (nth fs i).f.cv.vals.length (nth gs i).c2, .int .i64 (nth fs i).f.cv.per, .int .i64 (nth fs i).f.cv.inc] from by unfold encFl; rw [← hfxi]]
     refine WG.callV en55 rfl rfl (by decide) (CallOp.mk' rfl rfl rfl rfl) (fun _ => rfl) (fun hg => SameF23_T (f := (nth fs i).f) (hf _ (nth_mem hif)).route (by have h := (hgo _ (nth_mem hig)).route; rw [← hfx i hif] at h; exact h) (hf _ (nth_mem hif)).vals (by have h := (hgo _ (nth_mem hig)).vals; rw [← hfx i hif] at h; exact h)) ?_
     refine zR 1 rfl (zN (zU ?_))
     refine W.cond rfl (fun hc6 => ?_) (fun hc6 => ?_)
     ·try simp only [zk] at hc6
      simp at hc6
     ·try simp only [zk] at hc6
      refine zK (zL (zU (zG (zR 1 rfl ?_))))
      refine yA ?_
      refine zR 1 rfl (zN ?_)
      refine WE.again (i + 1) (by (try dsimp only); omega) (by (try dsimp only); omega) ⟨rfl, rfl, rfl, rfl⟩ (RLe.refl _) qS
    ·try dsimp only at hc5
     obtain rfl : i = fs.length := by omega
     refine zX ?_
     refine wx (wx (zY (zU (zQ (zG (zR 1 rfl (zN (zU (zT ?_)))))))))
     refine WE.subE (E' := []) qS ?_
     refine WE.retF tab_ok [_] rfl ⟨rfl, trivial⟩ (RLe.refl _) ?_
     exact rfl



end Go.Proofs.YtmidibkljoaoiaaGreatDoor
