/- Loops over functions: rounds, the iterator's contract, the rule. No condition. -/
import Derived.Test.YtcfnckccmkjjlaaMach
import Derived.RangeFuncLeaves
import Derived.RangeFuncSeq
import Derived.RangeFuncOwn
import Derived.TacticsIn
namespace Go.Proofs.Ytcfnckccmkjjlaa.K
open Go Go.RowKit

section
variable {P : Program} {T : Tab} {n : Nat} {env : Env} {w0 : World} {R : Ro} {E : List Ent} {Q : Exit → Act → World → Prop} {x y : Code} {K : Act → World → Prop} {l m : Nat}

/-- the judgement in a round of the loop l -/
def WR (P : Program) (l m : Nat) (c : Code) (Q : Exit → Act → World → Prop) (n : Nat) (env : Env) (w0 : World) (R : Ro) (E : List Ent) : Prop :=
  ∀ a w, Kn n env a → Mem w0 w R E → c.wpIn (Fence.wide.inRound l) m P Q a w
theorem WR.seq (h : WR P l m x (Exit.then (y.wpIn (Fence.wide.inRound l) m P Q) Q) n env w0 R E) : WR P l m (.seq x y) Q n env w0 R E := fun a w hk hm => wpIn_seq (h a w hk hm)
theorem WR.skip (h : WE Q .normal n env w0 R E) : WR P l m .skip Q n env w0 R E := fun a w hk hm => wpIn_skip (h a w hk hm)
theorem WR.exit {id : Nat} (h : WE Q (.exit id) n env w0 R E) : WR P l m (.exit id) Q n env w0 R E := fun a w hk hm => wpIn_exit (h a w hk hm)
theorem WR.ret (h : WE Q .ret n env w0 R E) : WR P l m .ret Q n env w0 R E := fun a w hk hm => wpIn_ret (h a w hk hm)
theorem WR.block {id : Nat} (h : WR P l m x (Exit.inBlock id Q) n env w0 R E) : WR P l m (.block id x) Q n env w0 R E := fun a w hk hm => wpIn_block (h a w hk hm)
theorem WR.cond {c : Operand} {b : Bool} (hc : ev env c = some (true, .bool b)) (ht : b = true → WR P l m x Q n env w0 R E) (hf : b = false → WR P l m y Q n env w0 R E) :
    WR P l m (.cond c x y) Q n env w0 R E := fun a w hk hm => wpIn_cond_split (hk.ev hc rfl) (fun hb => ht hb a w hk hm) (fun hb => hf hb a w hk hm)
theorem WR.condD {c : Operand} {p : Prop} {_ : Decidable p} (hc : ev env c = some (true, .bool (decide p))) (ht : p → WR P l m x Q n env w0 R E) (hf : ¬ p → WR P l m y Q n env w0 R E) :
    WR P l m (.cond c x y) Q n env w0 R E := WR.cond hc (fun h => ht (of_decide_eq_true h)) (fun h => hf (of_decide_eq_false h))
theorem WE.nxtR (h : WR P l m y Q n env w0 R E) : WE (Exit.then (y.wpIn (Fence.wide.inRound l) m P Q) Q) .normal n env w0 R E := h

/-- the fence of a frame: in a round, or none -/
def FO (r : Option Nat) : Fence := { Fence.wide with round := r }
/-- a list of operations, in a round or none -/
def WQ (P : Program) (r : Option Nat) (ops : List Oper) (Q : Exit → Act → World → Prop) (rest : List Oper) (n : Nat) (env : Env) (w0 : World) (R : Ro) (E : List Ent) : Prop :=
  ∀ a w, Kn n env a → Mem w0 w R E → wpListIn (FO r) 0 P ops.toArray Q rest a w
theorem WR.region (id : Nat) {ops : List Oper} (h : WQ P (some l) ops Q ops n env w0 R E) : WR P l 0 (.region id ops.toArray false) Q n env w0 R E := fun a w hk hm => wpIn_region_lit (h a w hk hm)
theorem W.regionY (id : Nat) {ops : List Oper} (h : WQ P none ops Q ops n env w0 R E) : W P (.region id ops.toArray false) Q n env w0 R E :=
  fun a w hk hm => wpIn_wide.1 (wpIn_region_lit (F := Fence.wide) (n := 0) (h a w hk hm))
def isDefer : Op → Bool | .defer _ => true | _ => false
variable {ops rest : List Oper} {o : Oper} {r : Option Nat}
theorem WQ.nil (h : WE Q .normal n env w0 R E) : WQ P r ops Q [] n env w0 R E := fun a w hk hm => h a w hk hm
theorem semAt_plain {ρ : Operand → Value} (hd : isDefer o.op = false) : Oper.semAt (FO r).round ρ o = execOp ρ o :=
  Oper.semAt_eq _ _ _ (fun c hc => by rw [hc] at hd; cases hd)
theorem WQ.yv {v : Value} {d : Nat} {pc : Bool} (hg : gpc ops env o = some pc) (hd : o.dst = some d) (hdn : d < n) (hf : isDefer o.op = false) (hy : Yl P n env w0 R E o pc v) (h : WQ P r ops Q rest n ((d, pc, v) :: env) w0 R E) : WQ P r ops Q (o :: rest) n env w0 R E := by
  intro a w hk hm
  unfold wpListIn
  rw [hk.wanted hg]
  have hput := hk.put hdn pc v
  cases pc with
  | true =>
    simp only [if_true]
    refine ⟨fun _ _ => trivial, ?_⟩
    rw [semAt_plain hf, hy a w hk hm rfl]
    rw [Oper.uponIn_value, hd]
    exact h _ _ hput hm
  | false =>
    refine ⟨fun _ _ => trivial, ?_⟩
    rw [hd]
    exact h _ _ hput hm
theorem WQ.ef {d : Nat} (hg : o.guard = none) (hd : o.dst = some d) (hdn : d < n) (hf : isDefer o.op = false) (h : Ef P n env w0 R E o fun v R' E' => WQ P r ops Q rest n ((d, true, v) :: env) w0 R' E') : WQ P r ops Q (o :: rest) n env w0 R E := by
  intro a w hk hm
  unfold wpListIn
  rw [show Region.wanted o (yielded ops.toArray a.tmps) = true by simp [Region.wanted, hg]]
  simp only [if_true]
  refine ⟨fun _ _ => trivial, ?_⟩
  obtain ⟨v, w', R', E', hrun, hm', hn⟩ := h a w hk hm
  rw [semAt_plain hf]
  rcases hrun with hrun | ⟨hrun, rfl⟩
  · rw [hrun, Oper.uponIn_value, hd]; exact hn _ _ (hk.putT hdn v) hm'
  · rw [hrun, Oper.uponIn_skip, hd]; exact hn _ _ (hk.putT hdn _) hm'
theorem WQ.efN (hg : o.guard = none) (hd : o.dst = none) (hf : isDefer o.op = false) (h : Ef P n env w0 R E o fun _ R' E' => WQ P r ops Q rest n env w0 R' E') : WQ P r ops Q (o :: rest) n env w0 R E := by
  intro a w hk hm
  unfold wpListIn
  rw [show Region.wanted o (yielded ops.toArray a.tmps) = true by simp [Region.wanted, hg]]
  simp only [if_true]
  refine ⟨fun _ _ => trivial, ?_⟩
  obtain ⟨v, w', R', E', hrun, hm', hn⟩ := h a w hk hm
  rw [semAt_plain hf]
  rcases hrun with hrun | ⟨hrun, rfl⟩
  · rw [hrun, Oper.uponIn_value, hd]; exact hn _ _ hk hm'
  · rw [hrun, Oper.uponIn_skip, hd]; exact hn _ _ hk hm'

/-! ### more rules -/
/-- a field of an element -/
theorem Ef.storeF {α : Type} [Inhabited α] {enc : α → List Value} {t e : TypeId} {x y : Operand} {k j off cap : Nat} {a : Option Addr} {xs : List α} (u : α) {v : Value} {d : TD} {K : Value → Ro → List Ent → Prop} (i : Nat) (hT : TabOk P T) (ho : o.op = .store t x y) (hd : T.at t = some d)
    (hx : ev env x = some (true, .pointer (some ((eaddr a k j).add off)))) (hy : ev env y = some (true, v)) (hE : E[i]? = some (.sl e k a cap (xs.map enc))) (hj : j < xs.length)
    (hu : setSeg (enc (nth xs j)) off (vcells v) = enc u) (hl : (vcells v).length = d.size) (hfit : off + d.size ≤ k) (h1 : cells1 (vcells v) = true)
    (hK : K undef R (E.set i (.sl e k a cap ((xs.set j u).map enc)))) : Ef P n env w0 R E o K :=
  Ef.storeSl (row := enc (nth xs j)) i hT ho hd hx hy hE (by rw [List.getElem?_map, nth_get hj]; rfl) hl hfit h1 (by rw [hu, map_set' enc xs j u]; exact hK)
theorem WL.subE {E' : List Ent} (hE : E'.Sublist E) (h : WG false P ops Q rest n env w0 R E') : WG false P ops Q rest n env w0 R E := fun a w hk hm => h a w hk (hm.sub (RLe.refl R) hE)
/-- a guard that is known to hold -/
theorem WL.guardT {pc : Bool} (hg : gpc ops env o = some pc) (hpc : pc = true) (h : WG false P ops Q ({ o with guard := none } :: rest) n env w0 R E) : WG false P ops Q (o :: rest) n env w0 R E := by
  intro a w hk hm
  have h1 := h a w hk hm
  have hw := hk.wanted hg
  rw [hpc] at hw
  have hw2 : Region.wanted { o with guard := none } (yielded ops.toArray a.tmps) = true := by simp [Region.wanted]
  simp only [wpList, hw, hw2, if_true] at h1 ⊢
  exact h1

/-- rows become immutable -/
theorem Mem.freezeRows {e : TypeId} {G : List Ent} {w : World} : ∀ {rows : List M.Sl} {R : Ro}, Mem w0 w R (rows.map (M.rowE e) ++ G) → ∃ R', RLe R R' ∧ (∀ r ∈ rows, RS R' 1 encI r.a r.xs) ∧ Mem w0 w R' G
  | [], R, hm => ⟨R, RLe.refl R, by simp, hm⟩
  | r :: rows, R, hm => by
    obtain ⟨R1, h1, h2, h3⟩ := hm.freeze (i := 0) (enc := encI) (xs := r.xs) rfl
    obtain ⟨R2, g1, g2, g3⟩ := Mem.freezeRows (rows := rows) h3
    refine ⟨R2, h1.trans g1, fun q hq => ?_, g3⟩
    rcases List.mem_cons.1 hq with rfl | hq
    · exact h2.mono g1
    · exact g2 q hq
theorem WL.freezeRows {e : TypeId} {G : List Ent} {rows : List M.Sl} (hE : E = rows.map (M.rowE e) ++ G) (h : ∀ R', RLe R R' → (∀ r ∈ rows, RS R' 1 encI r.a r.xs) → WG false P ops Q rest n env w0 R' G) : WG false P ops Q rest n env w0 R E := by
  subst hE
  intro a w hk hm
  obtain ⟨R', h1, h2, h3⟩ := Mem.freezeRows hm
  exact h R' h1 h2 a w hk h3

/-! ### objects that are no cells -/
theorem Mem.newObj {w : World} (hm : Mem w0 w R E) (o : Obj) : Mem w0 (w.alloc o) R (.obj w.heap.size o :: E) :=
  hm.new (World.grownBy_alloc w o none) ⟨hm.below.size, World.alloc_heap_new w o⟩ (fun b hb => by simp [Ent.block] at hb; omega)
theorem Mem.putObj {w : World} {b : Nat} {o : Obj} (o' : Obj) (hm : Mem w0 w R (.obj b o :: E)) : Mem w0 (w.putObj b o') R (.obj b o' :: E) :=
  hm.change (E1 := []) (row := some b) (grownBy_putObj' w b o') (fun k hk => by cases hk; rfl)
    ⟨(hm.own _ (List.mem_cons_self)).1, World.putObj_heap_same (Array.getElem?_eq_some_iff.1 (hm.own _ (List.mem_cons_self)).2).1⟩ (fun k hk => .inl hk)
theorem Mem.getObj {w : World} {b : Nat} {o : Obj} (hm : Mem w0 w R (.obj b o :: E)) : w.heap[b]? = some o := (hm.own _ (List.mem_cons_self)).2

/-! ### what yield does -/
/-- a round keeps its word: what the caller owns goes from E1 to E2 -/
def YC (P : Program) (l : Nat) (vs : List Value) (w0 : World) (R : Ro) (E1 E2 : List Ent) : Prop :=
  ∀ w, Mem w0 w R E1 → YieldAt Fence.wide 0 P l vs.toArray w fun e w' => e = .returned (.bool true) ∧ Mem w0 w' R E2
/-- an iterator's contract: what comes is one of S; EB: what it owns -/
def Iter {α : Type} (P : Program) (g : FuncId) (lb : List Value) (encs : α → List Value) (S : List α → Prop) (R : Ro) (EB : List Ent) : Prop :=
  ∀ (w0 : World) (l : Nat) (EJ : List α → List Ent), (∀ pre x F, (∃ ys, S (pre ++ x :: ys)) → YC P l (encs x) w0 R (EJ pre ++ F) (EJ (pre ++ [x]) ++ F)) →
    ∀ F, Fn P g (.func (.yield l) #[] #[] :: lb) w0 R (EJ [] ++ (EB ++ F)) (fun _ R' E' => R = R' ∧ ∃ xs, S xs ∧ (EJ xs ++ F).Sublist E')

/-- the params of a round -/
def putEnv : List Nat → List Value → Env → Env
  | p :: ps, v :: vs, env => putEnv ps vs ((p, true, v) :: env)
  | _, _, env => env
theorem Kn.putAll : ∀ {ps : List Nat} {vs : List Value} {env : Env} {a : Act}, Kn n env a → (∀ p ∈ ps, p < n) → Kn n (putEnv ps vs env) { a with tmps := ((ps.zip vs)).foldl (fun t (p, v) => t.setIfInBounds p v) a.tmps }
  | [], vs, env, a, h, _ => by simpa [putEnv] using h
  | p :: ps, [], env, a, h, _ => by simpa [putEnv] using h
  | p :: ps, v :: vs, env, a, h, hp => by
    have h1 := h.putT (hp p (by simp)) v
    have := Kn.putAll (ps := ps) (vs := vs) h1 (fun q hq => hp q (by simp [hq]))
    simpa [putEnv, Act.put] using this

/-- the end of a round's body -/
def REnd (w0 : World) (R : Ro) (E : List Ent) : Exit → Act → World → Prop
  | .normal, _, w => Mem w0 w R E
  | _, _, _ => False
theorem WE.rend {E' : List Ent} (hE : ∃ E'', E.Perm E'' ∧ E'.Sublist E'') : WE (REnd w0 R E') .normal n env w0 R E := by
  intro a w hk hm
  obtain ⟨E'', h1, h2⟩ := hE
  exact (hm.perm h1).sub (RLe.refl R) h2

theorem WE.asg {β : Type} {inv : β → Prop} {en : β → Env} {E1 : β → List Ent} (s : β) (hi : inv s) (hs : Sub (en s) env) (hE : (E1 s).Sublist E) :
    WE (Exit.then (fun a w => ∃ s, inv s ∧ Kn n (en s) a ∧ Mem w0 w R (E1 s)) Q) .normal n env w0 R E := fun _ _ hk hm => ⟨s, hi, hk.sub hs, hm.sub (RLe.refl R) hE⟩
/-- yield is called -/
def CallY (env : Env) (op : Op) (q : Bool) (l : Nat) (vs : List Value) : Prop :=
  ∃ c x p q', op = .call c ∧ c.callee = .value x ∧ ev env x = some (p, .func (.yield l) #[] #[]) ∧ evs env c.args.toList = some (q', vs) ∧ q = (p && q')
theorem CallY.mk' {op : Op} {args : List Operand} {ats : Array TypeId} {x : Operand} {p q : Bool} {vs : List Value} (ho : op = .call { callee := .value x, args := args.toArray, argTypes := ats })
    (hx : ev env x = some (p, .func (.yield l) #[] #[])) (ha : evs env args = some (q, vs)) : CallY env op (p && q) l vs :=
  ⟨_, x, p, q, ho, rfl, hx, by simpa using ha, rfl⟩
theorem run_callY {a : Act} {w : World} (hk : Kn n env a) {q : Bool} {vs : List Value} (hc : CallY env o.op q l vs) (hq : q = true) {nx : Next} (hr : (Instr.yield l vs.toArray).run P w = .ok nx w) :
    (execOp a.eval o).run P w = .ok nx w := by
  obtain ⟨c, x, p, q', ho, hcal, hx, ha, rfl⟩ := hc
  obtain ⟨h1, h2⟩ := and_both hq
  have e1 := hk.ev hx h1
  have e2 := evs_ok hk ha h2
  have e3 : c.args.map a.eval = vs.toArray := by rw [← e2, ← Array.toList_map, Array.toArray_toList]
  unfold execOp
  rw [ho]
  simp only [resolve, hcal, e1, e3, Deferred.ofValue, invoke, Sem.run_bind, Sem.run_pure, Result.andThen_ok]
  simpa using hr
theorem WQ.yield {d : Nat} {pc q : Bool} {vs : List Value} {E1 E2 : List Ent} (hg : gpc ops env o = some pc) (hd : o.dst = some d) (hdn : d < n) (hc : CallY env o.op q l vs) (hpq : pc = true → q = true) (hf : isDefer o.op = false)
    (hE : E.Perm E1) (hy : pc = true → YC P l vs w0 R E1 E2) (ht : pc = true → WQ P none ops Q rest n ((d, pc, .bool true) :: env) w0 R E2) (hn : pc = false → WQ P none ops Q rest n ((d, pc, .bool true) :: env) w0 R E) :
    WQ P none ops Q (o :: rest) n env w0 R E := by
  intro a w hk hm
  unfold wpListIn
  rw [hk.wanted hg]
  have hput := hk.put hdn pc (.bool true)
  cases pc with
  | true =>
    simp only [if_true]
    refine ⟨fun _ _ => trivial, ?_⟩
    obtain ⟨fn, tmps, assign, body, hrun, hR⟩ := hy rfl w (hm.perm hE)
    rw [semAt_plain hf, run_callY hk hc (hpq rfl) hrun, Oper.uponIn_round]
    refine ⟨fun h => by simp [FO, Fence.wide] at h, RoundIn.mono hR ?_⟩
    rintro e w' ⟨rfl, hm'⟩
    simp only [hd]
    exact ht rfl _ _ hput hm'
  | false =>
    refine ⟨fun _ _ => trivial, ?_⟩
    rw [hd]
    exact hn rfl _ _ hput hm

/-! ### the loop -/
theorem W.rangeFunc {α β : Type} {g : Operand} {ps : List Nat} {assign body : Code} {gf : FuncId} {lb : List Value} {encs : α → List Value} {S : List α → Prop} {EB Rest : List Ent}
    (EE : List α → List Ent) (inv : List α → α → β → Prop) (en : List α → α → β → Env) (E1 : List α → α → β → List Ent)
    (hg : ev env g = some (true, .func (.func gf) #[] lb.toArray)) (eg : Enters P gf) (hit : Iter P gf lb encs S R EB) (hps : ∀ x, (encs x).length = ps.length) (hpn : ∀ p ∈ ps, p < n) (hmark : markOf env = none)
    (hE : E.Perm (EE [] ++ (EB ++ Rest)))
    (hass : ∀ l pre x ys F, S (pre ++ x :: ys) → WR P l 0 assign (Exit.then (fun a w => ∃ s, inv pre x s ∧ Kn n (en pre x s) a ∧ Mem w0 w R (E1 pre x s ++ F)) (fun _ _ _ => False)) n (putEnv ps (encs x) env) w0 R (EE pre ++ F))
    (hbody : ∀ l pre x ys s F, S (pre ++ x :: ys) → inv pre x s → WR P l 0 body (REnd w0 R (EE (pre ++ [x]) ++ F)) n (en pre x s) w0 R (E1 pre x s ++ F))
    (hdone : ∀ D xs, S xs → WE Q .normal n ((99999, true, .pointer (some ⟨D, 0, none⟩)) :: env) w0 R (.obj D (.deferred (some [])) :: (EE xs ++ Rest))) :
    W P (.rangeFunc g ps.toArray assign body) Q n env w0 R E := by
  intro a w hk hm
  have hdef : a.defers = [] := by rw [hk.defers]; unfold dsOf; rw [hmark]
  have ha0 : ({ tmps := a.tmps, defers := [] } : Act) = a := by cases a; simp only at hdef; subst hdef; rfl
  refine wpIn_wide.1 (wpIn_rangeFunc (F := Fence.wide) (n := 0) ?_)
  intro fn hfn
  obtain ⟨rec, hrec⟩ : ∃ rec : LoopState → Option Code → Loop, rec = fun st pe => { state := st, pending := pe, fn, tmps := a.tmps, params := ps.toArray, assign, body, defers := w.heap.size } := ⟨_, rfl⟩
  have hm1 := (hm.newObj (.deferred (some []))).newObj (.loop (rec .ready none))
  rw [World.size_alloc] at hm1
  obtain ⟨W1, hW1⟩ : ∃ W1, (w.alloc (.deferred (some []))).alloc (.loop (rec .ready none)) = W1 := ⟨_, rfl⟩
  rw [hW1] at hm1
  refine ⟨w.heap.size + 1, [{ target := .collected w.heap.size, args := #[] }], W1, { target := .fn (.func gf) lb.toArray, args := #[.func (.yield (w.heap.size + 1)) #[] #[]] }, W1, gf,
    #[.func (.yield (w.heap.size + 1)) #[] #[]] ++ lb.toArray, W1, by rw [← hW1, hrec]; exact run_enterLoop_outer _ _ _ _ _, ?_, fun _ _ => trivial, ?_, fun h => by simp [Fence.wide] at h, ?_⟩
  · simp only [resolve, hk.ev hg rfl]
    simp [go_sem]
  · have := eg
    simp [invoke, go_sem]
    exact eg _ _
  · rw [callsIn_wide]
    have hround : ∀ pre x F, (∃ ys, S (pre ++ x :: ys)) → YC P (w.heap.size + 1) (encs x) w0 R ((.obj (w.heap.size + 1) (.loop (rec .ready none)) :: .obj w.heap.size (.deferred (some [])) :: EE pre) ++ F) ((.obj (w.heap.size + 1) (.loop (rec .ready none)) :: .obj w.heap.size (.deferred (some [])) :: EE (pre ++ [x])) ++ F) := by
      rintro pre x F ⟨ys, hS⟩ W hW
      have hl := Mem.getObj hW
      have hy := run_yield (P := P) (args := (encs x).toArray) hl (by rw [hrec]; simp [hps x])
      refine ⟨fn, _, assign, body, by rw [hy, hrec], roundIn_of_wpIn hfn (wpIn_mono (hass (w.heap.size + 1) pre x ys (.obj (w.heap.size + 1) (.loop (rec .ready none)) :: .obj w.heap.size (.deferred (some [])) :: F) hS _ W ?_ ?_) ?_)⟩
      · have := hk.putAll (vs := encs x) hpn
        simp only [hdef] at this
        simpa using this
      · refine hW.perm ?_
        refine List.Perm.trans (l₂ := [.obj (w.heap.size + 1) (.loop (rec .ready none)), .obj w.heap.size (.deferred (some []))] ++ (EE pre ++ F)) (by simp) ?_
        exact (List.perm_append_comm_assoc _ _ _).trans (by simp)
      · rintro e a1 w1 hp
        cases e with
        | normal =>
          obtain ⟨s, hi, hk1, hm1⟩ := hp
          have hm2 := hm1.perm List.perm_middle
          have hl2 := Mem.getObj hm2
          refine ⟨_, run_beginRound hl2 (by rw [hrec]), wpIn_mono (hbody (w.heap.size + 1) pre x ys s (.obj (w.heap.size + 1) (.loop { rec .ready none with state := .busy }) :: .obj w.heap.size (.deferred (some [])) :: F) hS hi a1 _ hk1 ((hm2.putObj _).perm List.perm_middle.symm)) ?_⟩
          rintro e a3 w3 hp3
          cases e with
          | normal =>
            have hm3 : Mem w0 w3 R _ := hp3
            have hm4 := hm3.perm List.perm_middle
            have hl4 := Mem.getObj hm4
            refine ⟨_, _, run_endRound none hl4, rfl, ?_⟩
            have hm5 := hm4.putObj (.loop { { rec .ready none with state := .busy } with state := .ready, pending := none })
            have e5 : ({ { rec .ready none with state := .busy } with state := .ready, pending := none } : Loop) = rec .ready none := by rw [hrec]
            rw [e5] at hm5
            have e6 : ({ { rec .ready none with state := .busy } with state := if (none : Option Code).isNone then .ready else .done, pending := none } : Loop) = rec .ready none := by rw [hrec]; rfl
            rw [e6]
            refine hm5.perm ?_
            refine List.Perm.cons _ ?_
            exact List.perm_middle
          | _ => exact hp3.elim
        | _ => exact hp.elim
    have hcall := hit w0 (w.heap.size + 1) (fun pre => .obj (w.heap.size + 1) (.loop (rec .ready none)) :: .obj w.heap.size (.deferred (some [])) :: EE pre) hround Rest _ (hm1.perm ((hE.cons _).cons _))
    have eargs : (#[Value.func (.yield (w.heap.size + 1)) #[] #[]] ++ lb.toArray) = (Value.func (.yield (w.heap.size + 1)) #[] #[] :: lb).toArray := by simp
    rw [eargs]
    refine hcall.mono ?_
    rintro e w' ⟨v, R', E', rfl, hR, hm', rfl, xs, hS, hsub⟩
    have hm6 := hm'.sub (RLe.refl R) hsub
    have hl6 := Mem.getObj hm6
    have hend := run_endLoop (P := P) hl6 (by rw [hrec]; simp)
    have e7 : (rec .ready none).pending = none := by rw [hrec]
    have hm7 := (hm6.putObj (.loop { rec .ready none with state := .exhausted })).sub (RLe.refl R) (List.sublist_cons_self _ _)
    refine ⟨_, _, hend, ?_⟩
    split
    · rw [hdef]
      refine hdone w.heap.size xs hS _ _ ⟨hk.size, hk.small, rfl, fun t p v ht => ?_⟩ hm7
      have h9 : Nat.beq 99999 t = false := by
        cases h9 : Nat.beq 99999 t with
        | false => rfl
        | true => simp [look, ← beq_true h9] at ht
      simp only [look, h9, cond_false] at ht
      exact hk.val t p v ht
    · rename_i hc
      rw [e7] at hc; cases hc

/-! ### a function that holds such a loop -/
theorem Fn.enterM {f : FuncId} {fn : Func} {c : Code} {args : List Value} {Post : Value → Ro → List Ent → Prop} {n : Nat}
    (hf : P.funcs[f]? = some fn) (hb : fn.body = some c) (hn : fn.ntmps = n) (ha : args.length ≤ n) (hs : Nat.ble n 99999 = true)
    (h : W P c (bodyPostM Fence.wide 0 P fn (FnR w0 R Post)) n (argEnv 0 args) w0 R E) : Fn P f args w0 R E Post := by
  intro w hm
  have hs := Nat.le_of_ble_eq_true hs
  refine callsIn_wide.1 (callsIn_of_wp_marks hf hb trivial (n := 0) (wpIn_wide.2 (h _ w ⟨?_, hs, (argEnv_mark 0 args (by omega)).symm, fun t p v ht => ?_⟩ hm)))
  · simp [hn]; omega
  · obtain ⟨hp, _, hv⟩ := argEnv_look 0 args t p v ht
    simp only [Nat.sub_zero] at hv
    subst hp
    have hlt : t < args.length := (List.getElem?_eq_some_iff.1 hv).1
    rw [Array.getElem?_append_left (by simpa using hlt)]
    simpa using hv
theorem WE.retFM (hT : TabOk P T) {fn : Func} {Post : Value → Ro → List Ent → Prop} {R0 : Ro} {rs : List ResultVar} {D : Nat} (i : Nat) (vs : List Value) (hr : fn.results = rs.toArray) (hE : E[i]? = some (.obj D (.deferred (some [])))) (hds : markOf env = some (.pointer (some ⟨D, 0, none⟩)))
    (h : ResAll T env R (E.eraseIdx i) rs vs) (hR : RLe R0 R) (hp : Post (resVal vs) R (E.eraseIdx i)) :
    WE (bodyPostM Fence.wide 0 P fn (FnR w0 R0 Post)) .ret n env w0 R E := by
  intro a w hk hm
  have hm1 := hm.perm (perm_get hE)
  have hK := Mem.getObj hm1
  have hm2 := (hm1.putObj (.deferred none)).sub (RLe.refl R) (List.sublist_cons_self _ _)
  have hd : a.defers = [{ target := .collected D, args := #[] }] := by rw [hk.defers]; unfold dsOf; rw [hds]
  show LeavesInM Fence.wide 0 P fn a.tmps _ a.defers .returning w
  rw [hd]
  refine ⟨by simp, .inl ⟨_, _, rfl, run_takeDeferred hK, ?_⟩⟩
  exact ⟨_, results_ok hT hr hk hm2 h, resVal vs, R, _, rfl, hR, hm2, hp⟩
end
end Go.Proofs.Ytcfnckccmkjjlaa.K
namespace Go.Proofs.Ytcfnckccmkjjlaa.M
open Go Go.Proofs.Ytcfnckccmkjjlaa.K
/-- the packets of a flow, with their numbers -/
def hitF (flow : Int) (p : Pkt) : Prop := flow = -1 ∨ (p.flow = flow ∧ 0 ≤ flow)
instance (flow : Int) (p : Pkt) : Decidable (hitF flow p) := by unfold hitF; infer_instance
def ofGo (flow : Int) : Nat → List Pkt → List (Nat × Pkt)
  | _, [] => []
  | k, p :: ps => if hitF flow p then (k, p) :: ofGo flow (k + 1) ps else ofGo flow (k + 1) ps
def encIP (x : Nat × Pkt) : List Value := [.int .i64 (x.1 : Int), valP x.2]
theorem ofGo_length (flow : Int) : ∀ (k : Nat) (ps : List Pkt), (ofGo flow k ps).length ≤ ps.length
  | _, [] => by simp [ofGo]
  | k, p :: ps => by
    have := ofGo_length flow (k + 1) ps
    simp only [ofGo]; split <;> simp <;> omega
theorem ofGo_mem (flow : Int) : ∀ (k : Nat) (ps : List Pkt) (x : Nat × Pkt), x ∈ ofGo flow k ps → x.2 ∈ ps
  | _, [], x, h => by simp [ofGo] at h
  | k, p :: ps, x, h => by
    simp only [ofGo] at h
    split at h
    · rcases List.mem_cons.1 h with rfl | h
      · simp
      · exact List.mem_cons_of_mem _ (ofGo_mem flow _ ps x h)
    · exact List.mem_cons_of_mem _ (ofGo_mem flow _ ps x h)
def sumT (t : Int) : List (Nat × Pkt) → Int
  | [] => 0
  | x :: xs => (if x.2.time < t then x.2.size else 0) + sumT t xs
theorem sumT_append (t : Int) : ∀ (xs ys : List (Nat × Pkt)), sumT t (xs ++ ys) = sumT t xs + sumT t ys
  | [], ys => by simp [sumT]
  | x :: xs, ys => by simp only [List.cons_append, sumT, sumT_append t xs ys]; omega
theorem sumT_bound (t : Int) : ∀ (xs : List (Nat × Pkt)), (∀ x ∈ xs, 0 ≤ x.2.size ∧ x.2.size ≤ 1000000) → 0 ≤ sumT t xs ∧ sumT t xs ≤ 1000000 * xs.length
  | [], _ => by simp [sumT]
  | x :: xs, h => by
    have h1 := h x (by simp)
    have h2 := sumT_bound t xs (fun y hy => h y (by simp [hy]))
    simp only [sumT, List.length_cons]
    split <;> omega
theorem sumT_ofGo (flow t : Int) : ∀ (k : Nat) (ps : List Pkt), sumT t (ofGo flow k ps) = pbytes flow t ps
  | _, [] => by simp [ofGo, sumT, pbytes]
  | k, p :: ps => by
    have ih := sumT_ofGo flow t (k + 1) ps
    have hp : hit flow t p ↔ hitF flow p ∧ p.time < t := by unfold hit hitF; omega
    simp only [ofGo, pbytes]
    by_cases h1 : hitF flow p
    · rw [if_pos h1]
      simp only [sumT]
      by_cases h2 : p.time < t
      · rw [if_pos h2, if_pos (hp.2 ⟨h1, h2⟩)]; omega
      · rw [if_neg h2, if_neg (fun h => h2 (hp.1 h).2)]; omega
    · rw [if_neg h1, if_neg (fun h => h1 (hp.1 h).1)]; omega
end Go.Proofs.Ytcfnckccmkjjlaa.M
