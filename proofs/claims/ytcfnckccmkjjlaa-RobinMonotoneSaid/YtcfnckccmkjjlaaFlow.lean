/- The rules of the walks, over any program: control, calls, operations that make or write memory. No condition. -/
import Derived.Test.YtcfnckccmkjjlaaStep
namespace Go.Proofs.Ytcfnckccmkjjlaa.K
open Go Go.RowKit

/-! ### control -/
def W (P : Program) (c : Code) (Q : Exit → Act → World → Prop) (n : Nat) (env : Env) (w0 : World) (R : Ro) (E : List Ent) : Prop :=
  ∀ a w, Kn n env a → Mem w0 w R E → c.wp P Q a w

section
variable {P : Program} {T : Tab} {n : Nat} {env : Env} {w0 : World} {R : Ro} {E : List Ent} {Q : Exit → Act → World → Prop} {x y : Code} {K : Act → World → Prop}

theorem W.seq (h : W P x (Exit.then (y.wp P Q) Q) n env w0 R E) : W P (.seq x y) Q n env w0 R E := fun a w hk hm => wp_seq (h a w hk hm)
theorem W.skip (h : WE Q .normal n env w0 R E) : W P .skip Q n env w0 R E := fun a w hk hm => wp_skip (h a w hk hm)
theorem W.label {l : Nat} (h : WE Q .normal n env w0 R E) : W P (.label l) Q n env w0 R E := fun a w hk hm => wp_label (h a w hk hm)
theorem W.exit {id : Nat} (h : WE Q (.exit id) n env w0 R E) : W P (.exit id) Q n env w0 R E := fun a w hk hm => wp_exit (h a w hk hm)
theorem W.ret (h : WE Q .ret n env w0 R E) : W P .ret Q n env w0 R E := fun a w hk hm => wp_ret (h a w hk hm)
theorem W.block {id : Nat} (h : W P x (Exit.inBlock id Q) n env w0 R E) : W P (.block id x) Q n env w0 R E := fun a w hk hm => wp_block (h a w hk hm)
theorem W.scope (h : W P x (Exit.noGoto Q) n env w0 R E) : W P (.scope x) Q n env w0 R E := fun a w hk hm => wp_scope_straight (h a w hk hm)

theorem W.cond {c : Operand} {b : Bool} (hc : ev env c = some (true, .bool b)) (ht : b = true → W P x Q n env w0 R E) (hf : b = false → W P y Q n env w0 R E) :
    W P (.cond c x y) Q n env w0 R E := fun a w hk hm => wp_cond_split (hk.ev hc rfl) (fun hb => ht hb a w hk hm) (fun hb => hf hb a w hk hm)

theorem WE.nxt (h : W P y Q n env w0 R E) : WE (Exit.then (y.wp P Q) Q) .normal n env w0 R E := h
theorem WE.then_ret (h : WE Q .ret n env w0 R E) : WE (Exit.then K Q) .ret n env w0 R E := h
theorem WE.then_exit {id : Nat} (h : WE Q (.exit id) n env w0 R E) : WE (Exit.then K Q) (.exit id) n env w0 R E := h
theorem WE.blk (id : Nat) (h : WE Q .normal n env w0 R E) : WE (Exit.inBlock id Q) .normal n env w0 R E := h
theorem WE.blk_ret {id : Nat} (h : WE Q .ret n env w0 R E) : WE (Exit.inBlock id Q) .ret n env w0 R E := h
theorem WE.blk_exit {id : Nat} (h : WE Q .normal n env w0 R E) : WE (Exit.inBlock id Q) (.exit id) n env w0 R E := fun a w hk hm => by
  simp only [Exit.inBlock, if_true]; exact h a w hk hm
theorem WE.blk_other {id id' : Nat} (hne : Nat.beq id id' = false) (h : WE Q (.exit id) n env w0 R E) : WE (Exit.inBlock id' Q) (.exit id) n env w0 R E := fun a w hk hm => by
  simp only [Exit.inBlock, if_neg (beq_false hne)]; exact h a w hk hm
theorem WE.scope_ret (h : WE Q .ret n env w0 R E) : WE (Exit.noGoto Q) .ret n env w0 R E := h

theorem WE.sub {x : Exit} {env' : Env} (hs : Sub env' env) (h : WE Q x n env' w0 R E) : WE Q x n env w0 R E := fun a w hk hm => h a w (hk.sub hs) hm
theorem W.sub {env' : Env} {R' : Ro} {E' : List Ent} (hs : Sub env' env) (hR : RLe R' R) (hE : E'.Sublist E) (h : W P x Q n env' w0 R' E') : W P x Q n env w0 R E := fun a w hk hm => h a w (hk.sub hs) (hm.sub hR hE)

theorem W.region (id : Nat) {l : List Oper} (h : WG false P l Q l n env w0 R E) : W P (.region id l.toArray false) Q n env w0 R E := fun a w hk hm => wp_region_lit (h a w hk hm)
/-- a region that draws its order, whose operations only read -/
theorem W.regionQ (id : Nat) {l : List Oper} (hm : P.follows .mixedOrders = true) (hB : Region.lexB .any l.toArray = true) (h : WG true P l Q l n env w0 R E) : W P (.region id l.toArray true) Q n env w0 R E := by
  intro a w hk hw
  exact wp_region_quiet (C := fun w => Mem w0 w R E) hm hB hw.drew (by simpa using h a hk)

theorem wp_loop_rank {c : Code} (I : Nat → Act → World → Prop) {k0 : Nat} {a0 : Act} {wd : World} (h₀ : I k0 a0 wd)
    (round : ∀ k a w, I k a w → c.wp P (Exit.then (fun a' w' => ∃ k', k' < k ∧ I k' a' w') Q) a w) : (Code.loop c).wp P Q a0 wd := by
  intro b k cs
  have key : ∀ m a w, I m a w → ∃ e a' w', Q e a' w' ∧ Arrives P (lone (b.at a (.code c :: .inLoop c :: k)) cs w) b k cs e a' w' := by
    intro m
    induction m using Nat.strongRecOn with
    | _ m ih =>
      intro a w hI
      obtain ⟨e, a₁, w₁, hq, harr⟩ := round m a w hI b (.inLoop c :: k) cs
      cases e with
      | normal =>
        obtain ⟨k', hlt, hI₁⟩ := hq
        obtain ⟨e₂, a₂, w₂, hq₂, harr₂⟩ := ih k' hlt a₁ w₁ hI₁
        exact ⟨e₂, a₂, w₂, hq₂, .of_steps (Steps.trans harr (.one step_inLoop)) harr₂⟩
      | exit id => exact ⟨_, a₁, w₁, hq, .pass (x := .inLoop c) rfl (fun _ _ => .inl (by simp)) harr⟩
      | goto l => exact ⟨_, a₁, w₁, hq, .pass (x := .inLoop c) rfl (fun _ _ => .inl (by simp)) harr⟩
      | ret => exact ⟨_, a₁, w₁, hq, .pass (x := .inLoop c) rfl (fun _ _ => .inl (by simp)) harr⟩
      | panic ch => exact ⟨_, a₁, w₁, hq, .pass (x := .inLoop c) rfl (fun _ _ => .inl (by simp)) harr⟩
      | outgrown => exact ⟨_, a₁, w₁, hq, .pass (x := .inLoop c) rfl (fun _ _ => .inl (by simp)) harr⟩
  obtain ⟨e, a', w', hq, harr⟩ := key _ a0 wd h₀
  exact ⟨e, a', w', hq, .of_steps (.one step_loop) harr⟩

/-- what a round's end must show -/
def Again {β : Type} (inv : β → Prop) (n : Nat) (en : β → Env) (w0 : World) (RR : β → Ro) (EE : β → List Ent) (μ : β → Nat) (m : Nat) : Act → World → Prop :=
  fun a w => ∃ s, inv s ∧ μ s < m ∧ Kn n (en s) a ∧ Mem w0 w (RR s) (EE s)

/-- a loop: its state is a value of a type of its own -/
theorem W.loop {β : Type} (inv : β → Prop) (en : β → Env) (RR : β → Ro) (EE : β → List Ent) (μ : β → Nat) (x0 : β)
    (h0 : inv x0) (hs : Sub (en x0) env) (hR : RLe (RR x0) R) (hE : (EE x0).Sublist E)
    (round : ∀ s, inv s → W P x (Exit.then (Again inv n en w0 RR EE μ (μ s)) Q) n (en s) w0 (RR s) (EE s)) :
    W P (.loop x) Q n env w0 R E := by
  intro a w hk hm
  refine wp_loop_rank (fun k a w => ∃ s, inv s ∧ μ s = k ∧ Kn n (en s) a ∧ Mem w0 w (RR s) (EE s)) (k0 := μ x0) ⟨x0, h0, rfl, hk.sub hs, hm.sub hR hE⟩ ?_
  rintro k a w ⟨s, hi, rfl, hk, hm⟩
  refine Code.wp_mono ?_ (round s hi a w hk hm)
  intro e a' w' hq
  cases e with
  | normal =>
    obtain ⟨s', h1, h2, h3, h4⟩ := hq
    exact ⟨μ s', h2, s', h1, rfl, h3, h4⟩
  | _ => exact hq

theorem WE.again {β : Type} {inv : β → Prop} {en : β → Env} {RR : β → Ro} {EE : β → List Ent} {μ : β → Nat} {m : Nat} (s : β)
    (hi : inv s) (hm : μ s < m) (hs : Sub (en s) env) (hR : RLe (RR s) R) (hE : (EE s).Sublist E) :
    WE (Exit.then (Again inv n en w0 RR EE μ m) Q) .normal n env w0 R E := fun _ _ hk hmm => ⟨s, hi, hm, hk.sub hs, hmm.sub hR hE⟩

/-! ### functions -/
def FnR (w0 : World) (R0 : Ro) (Post : Value → Ro → List Ent → Prop) : Ending → World → Prop :=
  fun e w' => ∃ v R' E', e = .returned v ∧ RLe R0 R' ∧ Mem w0 w' R' E' ∧ Post v R' E'
/-- a function's contract -/
def Fn (P : Program) (f : FuncId) (args : List Value) (w0 : World) (R : Ro) (E : List Ent) (Post : Value → Ro → List Ent → Prop) : Prop :=
  ∀ w, Mem w0 w R E → Calls P f args.toArray w (FnR w0 R Post)
/-- a contract: one value, memory as it was -/
def FnV (P : Program) (f : FuncId) (args : List Value) (R : Ro) (v : Value) : Prop :=
  ∀ w0 E w, Mem w0 w R E → Calls P f args.toArray w fun e w' => e = .returned v ∧ Mem w0 w' R E

theorem Fn.toV {f : FuncId} {args : List Value} {v : Value} (h : ∀ w0 E, Fn P f args w0 R E (fun v' _ E' => v' = v ∧ E' = E)) : FnV P f args R v := by
  intro w0 E w hm
  refine (h w0 E w hm).mono ?_
  rintro e w' ⟨v', R', E', rfl, hR, hm', rfl, rfl⟩
  exact ⟨rfl, hm'.sub hR (List.Sublist.refl _)⟩
theorem FnV.toFn {f : FuncId} {args : List Value} {v : Value} (h : FnV P f args R v) : Fn P f args w0 R E (fun v' R' E' => v' = v ∧ R' = R ∧ E' = E) := by
  intro w hm
  refine (h w0 E w hm).mono ?_
  rintro e w' ⟨rfl, hm'⟩
  exact ⟨v, R, E, rfl, RLe.refl R, hm', rfl, rfl, rfl⟩
theorem Fn.mono {f : FuncId} {args : List Value} {Post Post' : Value → Ro → List Ent → Prop} (h : Fn P f args w0 R E Post) (hp : ∀ v R' E', RLe R R' → Post v R' E' → Post' v R' E') : Fn P f args w0 R E Post' := by
  intro w hm
  refine (h w hm).mono ?_
  rintro e w' ⟨v', R', E', rfl, hR, hm', hpost⟩
  exact ⟨v', R', E', rfl, hR, hm', hp _ _ _ hR hpost⟩

def argEnv : Nat → List Value → Env
  | _, [] => []
  | k, v :: vs => (k, true, v) :: argEnv (k + 1) vs

theorem argEnv_mark : ∀ (k : Nat) (vs : List Value), k + vs.length ≤ 99999 → dsOf (argEnv k vs) = []
  | k, [], _ => rfl
  | k, v :: vs, h => by
    have h9 : Nat.beq k 99999 = false := by
      cases h9 : Nat.beq k 99999 with
      | false => rfl
      | true => have := beq_true h9; simp at h; omega
    have := argEnv_mark (k + 1) vs (by simp at h; omega)
    unfold dsOf at this ⊢
    simp only [argEnv, markOf, h9, cond_false]
    exact this
theorem argEnv_look : ∀ (k : Nat) (vs : List Value) (t : Nat) (p : Bool) (v : Value), look (argEnv k vs) t = some (p, v) → p = true ∧ k ≤ t ∧ vs[t - k]? = some v
  | k, [], t, p, v, h => by cases h
  | k, u :: vs, t, p, v, h => by
    simp only [argEnv, look] at h
    cases hb : Nat.beq k t with
    | true =>
      have h9 : Nat.beq t 99999 = false := by
        cases h9 : Nat.beq t 99999 with
        | false => rfl
        | true => simp [hb, h9] at h
      simp only [hb, h9, cond_true, cond_false, Option.some.injEq, Prod.mk.injEq] at h
      obtain ⟨rfl, rfl⟩ := h
      have := beq_true hb
      subst this
      simp
    | false =>
      simp only [hb, cond_false] at h
      obtain ⟨h1, h2, h3⟩ := argEnv_look (k + 1) vs t p v h
      refine ⟨h1, by omega, ?_⟩
      rw [show t - k = (t - (k + 1)) + 1 by omega]
      simpa using h3

theorem Fn.enter {f : FuncId} {fn : Func} {c : Code} {args : List Value} {Post : Value → Ro → List Ent → Prop} {n : Nat}
    (hf : P.funcs[f]? = some fn) (hb : fn.body = some c) (hn : fn.ntmps = n) (ha : args.length ≤ n) (hs : Nat.ble n 99999 = true)
    (h : W P c (bodyPost P fn (FnR w0 R Post)) n (argEnv 0 args) w0 R E) : Fn P f args w0 R E Post := by
  intro w hm
  have hs := Nat.le_of_ble_eq_true hs
  refine calls_of_wp hf hb (h _ w ⟨?_, hs, (argEnv_mark 0 args (by omega)).symm, fun t p v ht => ?_⟩ hm)
  · simp [hn]; omega
  · obtain ⟨hp, _, hv⟩ := argEnv_look 0 args t p v ht
    simp only [Nat.sub_zero] at hv
    subst hp
    have hlt : t < args.length := (List.getElem?_eq_some_iff.1 hv).1
    rw [Array.getElem?_append_left (by simpa using hlt)]
    simpa using hv

def ResOk (T : Tab) (env : Env) (R : Ro) (E : List Ent) : ResultVar → Value → Prop
  | .tmp t, v => look env t = some (true, v)
  | .cell a t, v => ∃ ad cs d, look env a = some (true, .pointer (some ad)) ∧ T.at t = some d ∧ d.k.known = true ∧ Rd R E ad cs ∧ loadV d cs = some v
def ResAll (T : Tab) (env : Env) (R : Ro) (E : List Ent) : List ResultVar → List Value → Prop
  | [], [] => True
  | r :: rs, v :: vs => ResOk T env R E r v ∧ ResAll T env R E rs vs
  | _, _ => False
def resVal : List Value → Value
  | [v] => v
  | vs => .tuple vs.toArray

theorem run_loadVar_rd (hT : TabOk P T) {ad : Addr} {cs : List Value} {t : Nat} {d : TD} {v : Value} {w : World} (hm : Mem w0 w R E) (hd : T.at t = some d) (hk : d.k ≠ .other) (hrd : Rd R E ad cs) (hv : loadV d cs = some v) :
    (loadVar t ad).run P w = .ok v w := by
  have hrd := hrd w0 w hm
  have hag := run_isAgg hT hd hk w
  have hsz := run_sizeOf hT hd w
  unfold loadV at hv
  cases hg : d.k.agg with
  | true =>
    rw [hg] at hag
    simp only [hg] at hv
    split at hv
    · rename_i hle
      simp only [Option.some.injEq] at hv
      subst hv
      have hl := run_loadCells_list (P := P) w ad (cs.take d.size) (fun j v hj => hrd j v (by
        rw [List.getElem?_take] at hj; split at hj
        · exact hj
        · cases hj))
      rw [List.length_take, Nat.min_eq_left hle] at hl
      simp [loadVar, hag, hsz, hl]
    · cases hv
  | false =>
    rw [hg] at hag
    simp only [hg] at hv
    have := hrd 0 v hv
    have ha0 : ad.add 0 = ad := by simp [Addr.add]
    rw [ha0] at this
    simp [loadVar, hag, this]

def resF (tmps : Array Value) : ResultVar → Sem Value
  | .tmp t => pure (tmps.getD t undef)
  | .cell x t => do loadVar t (← asAddr (tmps.getD x undef))

theorem ResAll.run (hT : TabOk P T) {a : Act} {w : World} (hk : Kn n env a) (hm : Mem w0 w R E) : ∀ {rs : List ResultVar} {vs : List Value}, ResAll T env R E rs vs →
    (rs.mapM (m := Sem) (resF a.tmps)).run P w = .ok vs w
  | [], [], _ => by simp
  | [], _ :: _, h => h.elim
  | _ :: _, [], h => h.elim
  | r :: rs, v :: vs, h => by
    have ih := ResAll.run hT hk hm h.2
    have h1 := h.1
    rw [List.mapM_cons]
    have h2 : (resF a.tmps r).run P w = .ok v w := by
      cases r with
      | tmp t =>
        have hv := hk.val _ _ _ h1
        simp only [if_true] at hv
        simp [resF, hv]
      | cell x t =>
        obtain ⟨ad, cs, d, hx, hd, hko, hrd, hlv⟩ := h1
        have hv := hk.val _ _ _ hx
        simp only [if_true] at hv
        have hl := run_loadVar_rd hT hm hd (TK.ne_other hko) hrd hlv
        simp [resF, hv, asAddr, hl]
    simp [h2, ih]

theorem results_ok (hT : TabOk P T) {fn : Func} {a : Act} {w : World} {rs : List ResultVar} {vs : List Value} (hr : fn.results = rs.toArray) (hk : Kn n env a) (hm : Mem w0 w R E) (h : ResAll T env R E rs vs) :
    (results fn a.tmps).run P w = .ok (resVal vs) w := by
  have hrun := ResAll.run hT hk hm h
  have e : results fn a.tmps = (do let vs ← fn.results.mapM (resF a.tmps); pure (if h : vs.size = 1 then vs[0] else .tuple vs)) := by
    unfold results
    congr 1
  rw [e, hr]
  simp only [List.mapM_toArray, Sem.run_bind, Sem.run_map, hrun, Result.andThen_ok, Sem.run_pure]
  cases vs with
  | nil => rfl
  | cons v vs =>
    cases vs with
    | nil => rfl
    | cons u us => rfl

theorem WE.retF (hT : TabOk P T) {fn : Func} {Post : Value → Ro → List Ent → Prop} {R0 : Ro} {rs : List ResultVar} (vs : List Value) (hr : fn.results = rs.toArray) (h : ResAll T env R E rs vs) (hR : RLe R0 R) (hp : Post (resVal vs) R E) (hds : markOf env = none := by rfl) :
    WE (bodyPost P fn (FnR w0 R0 Post)) .ret n env w0 R E := fun _ _ hk hm => ⟨by rw [hk.defers]; unfold dsOf; rw [hds], resVal vs, results_ok hT hr hk hm h, resVal vs, R, E, rfl, hR, hm, hp⟩
theorem WE.endF (hT : TabOk P T) {fn : Func} {Post : Value → Ro → List Ent → Prop} {R0 : Ro} {rs : List ResultVar} (vs : List Value) (hr : fn.results = rs.toArray) (h : ResAll T env R E rs vs) (hR : RLe R0 R) (hp : Post (resVal vs) R E) (hds : markOf env = none := by rfl) :
    WE (bodyPost P fn (FnR w0 R0 Post)) .normal n env w0 R E := fun _ _ hk hm => ⟨by rw [hk.defers]; unfold dsOf; rw [hds], resVal vs, results_ok hT hr hk hm h, resVal vs, R, E, rfl, hR, hm, hp⟩
end

/-! ### calls -/
section
variable {P : Program} {T : Tab} {n : Nat} {env : Env} {w0 : World} {R : Ro} {E : List Ent} {o : Oper} {pc p q : Bool} {draw : Bool} {ops rest : List Oper} {Q : Exit → Act → World → Prop}

def Enters (P : Program) (f : FuncId) : Prop := ∀ args w, (callFunc f args).run P w = .ok (.enter f args) w
theorem Enters.of {f : FuncId} {fn : Func} (hf : P.funcs[f]? = some fn) (hn : (fn.name == "runtime.NumGoroutine") = false) (hb : fn.body.isSome = true) : Enters P f := by
  intro args w
  have hb' : ¬ fn.body = none := by intro h; simp [h] at hb
  have hn' : ¬ fn.name = "runtime.NumGoroutine" := by simpa using hn
  simp [callFunc, hf, hb', hn']

def evs (env : Env) : List Operand → Option (Bool × List Value)
  | [] => some (true, [])
  | x :: xs => match ev env x, evs env xs with
    | some (p, v), some (q, vs) => some (p && q, v :: vs)
    | _, _ => none
theorem evs_ok {a : Act} (hk : Kn n env a) : ∀ {xs : List Operand} {vs : List Value} {q : Bool}, evs env xs = some (q, vs) → q = true → xs.map a.eval = vs
  | [], vs, q, h, hq => by simp only [evs, Option.some.injEq, Prod.mk.injEq] at h; rw [← h.2]; rfl
  | x :: xs, vs, q, h, hq => by
    simp only [evs] at h
    split at h
    · rename_i p v q' vs' hx hxs
      simp only [Option.some.injEq, Prod.mk.injEq] at h
      obtain ⟨rfl, rfl⟩ := h
      obtain ⟨h1, h2⟩ := and_both hq
      simp [hk.ev hx h1, evs_ok hk hxs h2]
    · cases h

/-- the callee and its arguments -/
def CallOp (env : Env) (op : Op) (q : Bool) (f : FuncId) (vs : List Value) : Prop :=
  ∃ c x first cap p q' us, op = .call c ∧ c.callee = .value x ∧ ev env x = some (p, .func (.func f) first cap) ∧ evs env c.args.toList = some (q', us) ∧ q = (p && q') ∧ vs = first.toList ++ us ++ cap.toList

theorem CallOp.mk' {op : Op} {args : List Operand} {ats : Array TypeId} {x : Operand} {f : FuncId} {first cap : Array Value} {us : List Value} (ho : op = .call { callee := .value x, args := args.toArray, argTypes := ats })
    {vs : List Value} (hx : ev env x = some (p, .func (.func f) first cap)) (ha : evs env args = some (q, us)) (hvs : first.toList ++ us ++ cap.toList = vs) : CallOp env op (p && q) f vs :=
  ⟨_, x, first, cap, p, q, us, ho, rfl, hx, by simpa using ha, rfl, hvs.symm⟩

theorem CallOp.mkT {op : Op} {args : List Operand} {ats : Array TypeId} {x : Operand} {f : FuncId} {first cap : Array Value} {us vs : List Value} (ho : op = .call { callee := .value x, args := args.toArray, argTypes := ats })
    (hx : ev env x = some (true, .func (.func f) first cap)) (ha : evs env args = some (true, us)) (hvs : first.toList ++ us ++ cap.toList = vs) : CallOp env op true f vs :=
  ⟨_, x, first, cap, true, true, us, ho, rfl, hx, by simpa using ha, rfl, hvs.symm⟩

theorem run_call {a : Act} {w : World} (hk : Kn n env a) {f : FuncId} {vs : List Value} (hc : CallOp env o.op q f vs) (hq : q = true) (hf : Enters P f) :
    (execOp a.eval o).run P w = .ok (.enter f vs.toArray) w := by
  obtain ⟨c, x, first, cap, p, q', us, ho, hcal, hx, ha, rfl, rfl⟩ := hc
  obtain ⟨h1, h2⟩ := and_both hq
  have e1 := hk.ev hx h1
  have e2 := evs_ok hk ha h2
  have e3 : c.args.map a.eval = us.toArray := by rw [← e2, ← Array.toList_map, Array.toArray_toList]
  have e4 : (first.toList ++ us ++ cap.toList).toArray = first ++ us.toArray ++ cap := by simp
  unfold execOp
  rw [ho]
  simp only [resolve, hcal, e1, e3, Deferred.ofValue, invoke, Sem.run_bind, Sem.run_pure, Result.andThen_ok]
  rw [e4]
  exact hf _ _

/-- a call that hands back this value and leaves memory -/
theorem WG.callV {v : Value} {d : Nat} {f : FuncId} {vs : List Value} (hf : Enters P f) (hg : gpc ops env o = some pc) (hd : o.dst = some d) (hdn : d < n)
    (hc : CallOp env o.op q f vs) (hq : pc = true → q = true) (hv : pc = true → FnV P f vs R v)
    (h : WG draw P ops Q rest n ((d, pc, v) :: env) w0 R E) : WG draw P ops Q (o :: rest) n env w0 R E := by
  cases draw with
  | false =>
    intro a w hk hm
    refine wpList_step fun K hK => ?_
    rw [hk.wanted hg]
    have hput := hk.put hdn pc v
    cases pc with
    | true =>
      simp only [if_true, Oper.wp, run_call hk hc (hq rfl) hf, Oper.upon, hd]
      refine (hv rfl w0 E w hm).mono ?_
      rintro e w' ⟨rfl, hm'⟩
      exact hK _ _ (h _ _ (by simpa using hput) hm')
    | false =>
      simp only [Bool.false_eq_true, if_false, hd]
      exact hK _ _ (h _ _ (by simpa using hput) hm)
  | true =>
    intro a hk
    refine wpQuiet_step fun K hK => ?_
    rw [hk.wanted hg]
    have hput := hk.put hdn pc v
    cases pc with
    | true =>
      simp only [if_true]
      refine ⟨v, fun w hm => ?_, ?_⟩
      · unfold Oper.quietAt
        rw [run_call hk hc (hq rfl) hf]
        exact ⟨rfl, hv rfl w0 E w hm⟩
      · rw [hd]; exact hK _ (h _ (by simpa using hput))
    | false =>
      simp only [Bool.false_eq_true, if_false, hd]
      exact hK _ (h _ (by simpa using hput))

/-- a call by its contract -/
theorem WL.call {d : Nat} {f : FuncId} {vs : List Value} {Post : Value → Ro → List Ent → Prop} (hf : Enters P f) (hg : o.guard = none) (hd : o.dst = some d) (hdn : d < n)
    (hc : CallOp env o.op true f vs) (hv : Fn P f vs w0 R E Post)
    (h : ∀ v R' E', RLe R R' → Post v R' E' → WG false P ops Q rest n ((d, true, v) :: env) w0 R' E') : WG false P ops Q (o :: rest) n env w0 R E := by
  intro a w hk hm
  refine wpList_plain hg fun K hK => ?_
  unfold Oper.wp
  rw [run_call hk hc rfl hf]
  refine (hv w hm).mono ?_
  rintro e w' ⟨v, R', E', rfl, hR, hm', hp⟩
  simp only [hd]
  exact hK _ _ (h v R' E' hR hp _ _ (hk.putT hdn v) hm')
/-- a call whose result is not kept -/
theorem WL.callN {f : FuncId} {vs : List Value} {Post : Value → Ro → List Ent → Prop} (hf : Enters P f) (hg : o.guard = none) (hd : o.dst = none)
    (hc : CallOp env o.op true f vs) (hv : Fn P f vs w0 R E Post)
    (h : ∀ v R' E', RLe R R' → Post v R' E' → WG false P ops Q rest n env w0 R' E') : WG false P ops Q (o :: rest) n env w0 R E := by
  intro a w hk hm
  refine wpList_plain hg fun K hK => ?_
  unfold Oper.wp
  rw [run_call hk hc rfl hf]
  refine (hv w hm).mono ?_
  rintro e w' ⟨v, R', E', rfl, hR, hm', hp⟩
  simp only [hd]
  exact hK _ _ (h v R' E' hR hp _ _ hk hm')

/-! ### operations that make or write memory -/
/-- what an operation does -/
def Ef (P : Program) (n : Nat) (env : Env) (w0 : World) (R : Ro) (E : List Ent) (o : Oper) (K : Value → Ro → List Ent → Prop) : Prop :=
  ∀ a w, Kn n env a → Mem w0 w R E → ∃ v w' R' E', ((execOp a.eval o).run P w = .ok (.value v) w' ∨ ((execOp a.eval o).run P w = .ok .skip w' ∧ v = undef)) ∧ Mem w0 w' R' E' ∧ K v R' E'

theorem WL.ef {d : Nat} (hg : o.guard = none) (hd : o.dst = some d) (hdn : d < n)
    (h : Ef P n env w0 R E o fun v R' E' => WG false P ops Q rest n ((d, true, v) :: env) w0 R' E') : WG false P ops Q (o :: rest) n env w0 R E := by
  intro a w hk hm
  refine wpList_plain hg fun K hK => ?_
  obtain ⟨v, w', R', E', hr, hm', hn⟩ := h a w hk hm
  unfold Oper.wp
  rcases hr with hr | ⟨hr, rfl⟩
  · rw [hr]; simp only [Oper.upon, hd]; exact hK _ _ (hn _ _ (hk.putT hdn v) hm')
  · rw [hr]; simp only [Oper.upon, hd]; exact hK _ _ (hn _ _ (hk.putT hdn _) hm')
theorem WL.efN (hg : o.guard = none) (hd : o.dst = none)
    (h : Ef P n env w0 R E o fun _ R' E' => WG false P ops Q rest n env w0 R' E') : WG false P ops Q (o :: rest) n env w0 R E := by
  intro a w hk hm
  refine wpList_plain hg fun K hK => ?_
  obtain ⟨v, w', R', E', hr, hm', hn⟩ := h a w hk hm
  unfold Oper.wp
  rcases hr with hr | ⟨hr, rfl⟩
  · rw [hr]; simp only [Oper.upon, hd]; exact hK _ _ (hn _ _ hk hm')
  · rw [hr]; simp only [Oper.upon, hd]; exact hK _ _ (hn _ _ hk hm')
end

section
variable {P : Program} {n : Nat} {env : Env} {w0 : World} {R : Ro} {E : List Ent} {Q : Exit → Act → World → Prop} {x y : Code}
theorem W.condD {c : Operand} {b : Prop} [Decidable b] (hc : ev env c = some (true, .bool (decide b))) (ht : b → W P x Q n env w0 R E) (hf : ¬ b → W P y Q n env w0 R E) :
    W P (.cond c x y) Q n env w0 R E := W.cond hc (fun h => ht (of_decide_eq_true h)) (fun h => hf (of_decide_eq_false h))
theorem W.condE {c : Operand} {a b : Int} (hc : ev env c = some (true, .bool (a == b))) (ht : a = b → W P x Q n env w0 R E) (hf : a ≠ b → W P y Q n env w0 R E) :
    W P (.cond c x y) Q n env w0 R E := W.cond hc (fun h => ht (by simpa using h)) (fun h => hf (by simpa using h))
theorem W.condN {c : Operand} {a b : Int} (hc : ev env c = some (true, .bool (a != b))) (ht : a ≠ b → W P x Q n env w0 R E) (hf : a = b → W P y Q n env w0 R E) :
    W P (.cond c x y) Q n env w0 R E := W.cond hc (fun h => ht (by simpa using h)) (fun h => hf (by simpa using h))
end

/-! ### encodings -/
def encI (x : Int) : List Value := [.int .i64 x]
def encB (x : Bool) : List Value := [.bool x]
