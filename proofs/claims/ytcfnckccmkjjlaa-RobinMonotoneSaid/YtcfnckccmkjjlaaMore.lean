/- The rules of the walks, over any program: typed forms, what becomes immutable, calls that turn one resource, regions that draw their order and write. No condition. -/
import Derived.Test.YtcfnckccmkjjlaaApp
namespace Go.Proofs.Ytcfnckccmkjjlaa.K
open Go Go.RowKit

section
variable {P : Program} {T : Tab} {n : Nat} {env : Env} {w0 : World} {R : Ro} {E : List Ent} {o : Oper} {K : Value → Ro → List Ent → Prop} {Q : Exit → Act → World → Prop} {ops rest : List Oper} {c : Code} {x : Exit}

theorem Mem.perm {w : World} {E' : List Ent} (h : Mem w0 w R E) (hp : E.Perm E') : Mem w0 w R E' :=
  ⟨h.below, h.ro, fun e he => h.own e (hp.mem_iff.2 he), fun e he => h.disj e (hp.mem_iff.2 he), (hp.pairwise_iff (fun {_ _} hab b1 h1 h2 => hab b1 h2 h1)).1 h.nodup⟩

theorem perm_set {α : Type} : ∀ {l : List α} {i : Nat} {e : α} (e' : α), l[i]? = some e → (e' :: l.eraseIdx i).Perm (l.set i e')
  | [], i, e, e', h => by simp at h
  | a :: l, 0, e, e', h => by simp
  | a :: l, i + 1, e, e', h => by
    have := perm_set (l := l) (i := i) e' (by simpa using h)
    simp only [List.eraseIdx_cons_succ, List.set_cons_succ]
    exact (List.Perm.swap a e' _).trans (this.cons a)
theorem perm_get {α : Type} {l : List α} {i : Nat} {e : α} (h : l[i]? = some e) : l.Perm (e :: l.eraseIdx i) := by
  have h1 := perm_set e h
  have h2 : l.set i e = l := by
    apply List.ext_getElem?
    intro j
    rw [List.getElem?_set]
    split
    · rename_i hj; subst hj
      split
      · exact h.symm
      · rename_i h2; exact absurd (List.getElem?_eq_some_iff.1 h).1 h2
    · rfl
  rw [h2] at h1
  exact h1.symm

/-- a call that turns the resource number i (and makes others) -/
theorem WL.callAt {d : Nat} {f : FuncId} {vs : List Value} {e : Ent} {Post : Value → Ro → Ent → List Ent → Prop} (i : Nat) (hf : Enters P f) (hg : o.guard = none) (hd : o.dst = some d) (hdn : d < n)
    (hc : CallOp env o.op true f vs) (hE : E[i]? = some e)
    (hv : Fn P f vs w0 R (e :: E.eraseIdx i) (fun v R' E' => ∃ e' N, E' = N ++ e' :: E.eraseIdx i ∧ Post v R' e' N))
    (h : ∀ v R' e' N, RLe R R' → Post v R' e' N → WG false P ops Q rest n ((d, true, v) :: env) w0 R' (N ++ E.set i e')) : WG false P ops Q (o :: rest) n env w0 R E := by
  intro a w hk hm
  refine wpList_plain hg fun K hK => ?_
  unfold Oper.wp
  rw [run_call hk hc rfl hf]
  refine (hv w (hm.perm (perm_get hE))).mono ?_
  rintro e0 w' ⟨v, R', E', rfl, hR, hm', e', N, rfl, hp⟩
  simp only [hd]
  exact hK _ _ (h v R' e' N hR hp _ _ (hk.putT hdn v) (hm'.perm ((perm_set e' hE).append_left N)))

/-- what is one's own becomes immutable -/
theorem Mem.freeze {α : Type} {_i : Inhabited α} {enc : α → List Value} {w : World} {i : Nat} {e : TypeId} {k : Nat} {a : Option Addr} {cap : Nat} {xs : List α} (hm : Mem w0 w R E) (hE : E[i]? = some (.sl e k a cap (xs.map enc))) :
    ∃ R', RLe R R' ∧ RS (_i := _i) R' k enc a xs ∧ Mem w0 w R' (E.eraseIdx i) := by
  obtain ⟨h0, hk0, h2⟩ := own_sl hm (mem_of_get hE)
  have hp := hm.perm (perm_get hE)
  rcases h2 with ⟨rfl, hx, _⟩ | ⟨g, cur, rfl, hbase, hh, hn, hc, hs, ht⟩
  · exact ⟨R, RLe.refl R, ⟨h0, .inl hx, by rw [hx]; simp⟩, hm.sub (RLe.refl R) (List.eraseIdx_sublist E i)⟩
  · refine ⟨fun b => if b = g then some cur.toList else R b, ?_, ⟨h0, .inr ⟨g, 0, cur.toList, rfl, by simp, fun j v hj => ?_⟩, ?_⟩, ?_⟩
    · intro b cs hb
      have := hm.disj _ (mem_of_get hE) g rfl
      by_cases hbg : b = g
      · subst hbg; rw [this] at hb; cases hb
      · simp [hbg, hb]
    · rw [← ht, List.getElem?_take] at hj
      split at hj
      · simpa using hj
      · cases hj
    · have := hc; simp only [maxLen] at this; simp only [List.length_map] at hn ⊢; omega
    · have hsub := hm.sub (RLe.refl R) (List.eraseIdx_sublist E i)
      have hnd := List.pairwise_cons.1 hp.nodup
      refine ⟨hsub.below, fun b cs hb => ?_, hsub.own, fun e' he' b hb => ?_, hsub.nodup⟩
      · by_cases hbg : b = g
        · subst hbg; simp at hb; subst hb; exact ⟨e, _, by simpa using hh⟩
        · simp [hbg] at hb; exact hm.ro b cs hb
      · have := hnd.1 e' he' g rfl
        by_cases hbg : b = g
        · subst hbg; exact absurd hb this
        · simp [hbg]; exact hsub.disj e' he' b hb

theorem W.freeze {α : Type} [_i : Inhabited α] {enc : α → List Value} {e : TypeId} {k : Nat} {a : Option Addr} {cap : Nat} {xs : List α} (i : Nat) (hE : E[i]? = some (.sl e k a cap (xs.map enc)))
    (h : ∀ R', RLe R R' → RS (_i := _i) R' k enc a xs → W P c Q n env w0 R' (E.eraseIdx i)) : W P c Q n env w0 R E := by
  intro ac w hk hm
  obtain ⟨R', hR, hrs, hm'⟩ := hm.freeze (_i := _i) hE
  exact h R' hR hrs ac w hk hm'
theorem WE.freeze {α : Type} [_i : Inhabited α] {enc : α → List Value} {e : TypeId} {k : Nat} {a : Option Addr} {cap : Nat} {xs : List α} (i : Nat) (hE : E[i]? = some (.sl e k a cap (xs.map enc)))
    (h : ∀ R', RLe R R' → RS (_i := _i) R' k enc a xs → WE Q x n env w0 R' (E.eraseIdx i)) : WE Q x n env w0 R E := by
  intro ac w hk hm
  obtain ⟨R', hR, hrs, hm'⟩ := hm.freeze (_i := _i) hE
  exact h R' hR hrs ac w hk hm'
theorem WL.freeze {α : Type} [_i : Inhabited α] {enc : α → List Value} {e : TypeId} {k : Nat} {a : Option Addr} {cap : Nat} {xs : List α} (i : Nat) (hE : E[i]? = some (.sl e k a cap (xs.map enc)))
    (h : ∀ R', RLe R R' → RS (_i := _i) R' k enc a xs → WG false P ops Q rest n env w0 R' (E.eraseIdx i)) : WG false P ops Q rest n env w0 R E := by
  intro ac w hk hm
  obtain ⟨R', hR, hrs, hm'⟩ := hm.freeze (_i := _i) hE
  exact h R' hR hrs ac w hk hm'
theorem WL.sub {env' : Env} {R' : Ro} {E' : List Ent} (hs : Sub env' env) (hR : RLe R' R) (hE : E'.Sublist E) (h : WG false P ops Q rest n env' w0 R' E') : WG false P ops Q rest n env w0 R E :=
  fun a w hk hm => h a w (hk.sub hs) (hm.sub hR hE)
theorem WE.subE {E' : List Ent} (hE : E'.Sublist E) (h : WE Q x n env w0 R E') : WE Q x n env w0 R E := fun a w hk hm => h a w hk (hm.sub (RLe.refl R) hE)
theorem WE.perm {E' : List Ent} (hE : E.Perm E') (h : WE Q x n env w0 R E') : WE Q x n env w0 R E := fun a w hk hm => h a w hk (hm.perm hE)
theorem W.perm {E' : List Ent} (hE : E.Perm E') (h : W P c Q n env w0 R E') : W P c Q n env w0 R E := fun a w hk hm => h a w hk (hm.perm hE)
theorem W.nil (e : TypeId) (k : Nat) (hk0 : 0 < k) (h : W P c Q n env w0 R (.sl e k none 0 [] :: E)) : W P c Q n env w0 R E := fun a w hk hm => h a w hk (hm.nil e hk0)
theorem WL.nilE (e : TypeId) (k : Nat) (hk0 : 0 < k) (h : WG false P ops Q rest n env w0 R (.sl e k none 0 [] :: E)) : WG false P ops Q rest n env w0 R E := fun a w hk hm => h a w hk (hm.nil e hk0)

/-! ### parts of slices -/
def subA (a : Option Addr) (l cap k : Nat) : Option Addr := if cap = l then a else a.map (·.add (l * k))
variable {pc p q r : Bool}
theorem Yl.sliceH {t e : TypeId} {x h : Operand} {a : Option Addr} {m cap : Nat} {i : Int} {d : TD} (hT : TabOk P T) (ho : o.op = .slice t x none (some h) none) (hd : T.at t = some d) (hk : d.k = .slice e)
    (hx : ev env x = some (p, .slice a m cap)) (hh : ev env h = some (q, .int .i64 i)) (hpq : pc = true → (p && q) = true) (hi : pc = true → 0 ≤ i ∧ i ≤ cap) {d2 : TD} (hd2 : T.at e = some d2) : Yl P n env w0 R E o pc (.slice a i.toNat cap) := by
  intro ac w hkn hm hpc
  obtain ⟨h1, h2⟩ := and_both (hpq hpc)
  have hi := hi hpc
  have ha : a.map (·.add 0) = a := by cases a <;> simp [Addr.add]
  unfold execOp
  simp [ho, hkn.ev hx h1, hkn.ev hh h2, Instr.sliceAt, Instr.slice, Instr.sliceBounds, Instr.sliceBound, asIntOf, underlying, hT.slice hd hk, hi, run_sizeOf hT hd2, ha]
theorem Yl.sliceL {t e : TypeId} {x l : Operand} {a : Option Addr} {m cap : Nat} {i : Int} {d d2 : TD} (hT : TabOk P T) (ho : o.op = .slice t x (some l) none none) (hd : T.at t = some d) (hk : d.k = .slice e) (hd2 : T.at e = some d2)
    (hx : ev env x = some (p, .slice a m cap)) (hl : ev env l = some (q, .int .i64 i)) (hpq : pc = true → (p && q) = true) (hi : pc = true → 0 ≤ i ∧ i ≤ m) : Yl P n env w0 R E o pc (.slice (subA a i.toNat cap d2.size) (m - i.toNat) (cap - i.toNat)) := by
  intro ac w hkn hm hpc
  obtain ⟨h1, h2⟩ := and_both (hpq hpc)
  have hi := hi hpc
  unfold execOp
  simp [ho, hkn.ev hx h1, hkn.ev hl h2, Instr.sliceAt, Instr.slice, Instr.sliceBounds, Instr.sliceBound, asIntOf, underlying, hT.slice hd hk, hi, run_sizeOf hT hd2, subA]
theorem Yl.sliceLH {t e : TypeId} {x l h : Operand} {a : Option Addr} {m cap : Nat} {i j : Int} {d d2 : TD} (hT : TabOk P T) (ho : o.op = .slice t x (some l) (some h) none) (hd : T.at t = some d) (hk : d.k = .slice e) (hd2 : T.at e = some d2)
    (hx : ev env x = some (p, .slice a m cap)) (hl : ev env l = some (q, .int .i64 i)) (hh : ev env h = some (r, .int .i64 j)) (hpq : pc = true → (p && q && r) = true) (hi : pc = true → 0 ≤ i ∧ i ≤ j ∧ j ≤ cap) : Yl P n env w0 R E o pc (.slice (subA a i.toNat cap d2.size) (j.toNat - i.toNat) (cap - i.toNat)) := by
  intro ac w hkn hm hpc
  obtain ⟨h12, h3⟩ := and_both (hpq hpc)
  obtain ⟨h1, h2⟩ := and_both h12
  have hi := hi hpc
  have hj : 0 ≤ j := by omega
  have hij : i ≤ max j 0 := by omega
  unfold execOp
  simp [ho, hkn.ev hx h1, hkn.ev hl h2, hkn.ev hh h3, Instr.sliceAt, Instr.slice, Instr.sliceBounds, Instr.sliceBound, asIntOf, underlying, hT.slice hd hk, hi, hj, hij, run_sizeOf hT hd2, subA]

theorem flatten_drop {α : Type} {k : Nat} : ∀ {rows : List (List α)}, (∀ r ∈ rows, r.length = k) → ∀ l, (rows.drop l).flatten = rows.flatten.drop (l * k)
  | [], _, l => by simp
  | r :: rows, hk, 0 => by simp
  | r :: rows, hk, l + 1 => by
    have hrk := hk r (by simp)
    simp only [List.drop_succ_cons, List.flatten_cons]
    rw [flatten_drop (fun r hr => hk r (by simp [hr])) l, List.drop_append]
    rw [List.drop_eq_nil_of_le (as := r) (by rw [hrk, Nat.add_mul]; omega), List.nil_append, hrk]
    congr 1
    rw [Nat.add_mul]; omega

theorem RS.sub {α : Type} {_i : Inhabited α} {k : Nat} {enc : α → List Value} {a : Option Addr} {xs : List α} (h : RS (_i := _i) R k enc a xs) {l j cap : Nat} (hlj : l ≤ j) (hj : j ≤ cap) :
    RS (_i := _i) R k enc (subA a l cap k) ((xs.drop l).take (j - l)) := by
  obtain ⟨h1, h2, h3⟩ := h
  refine ⟨fun r hr => ?_, ?_, ?_⟩
  · obtain ⟨x, hx, rfl⟩ := List.mem_map.1 hr
    exact h1 _ (List.mem_map_of_mem (List.mem_of_mem_drop (List.mem_of_mem_take hx)))
  · by_cases hcl : cap = l
    · left
      have : j - l = 0 := by omega
      simp [this]
    · rcases h2 with h2 | ⟨b, off, cs, ha, hb, hc⟩
      · left
        have : xs = [] := by simpa using h2
        simp [this]
      · right
        refine ⟨b, off + l * k, cs, by simp [subA, hcl, ha, addr_add_mk], hb, fun m v hm => ?_⟩
        have e1 : (((xs.drop l).take (j - l)).map enc) = ((xs.map enc).drop l).take (j - l) := by rw [List.map_take, List.map_drop]
        rw [e1] at hm
        have e2 : (((xs.map enc).drop l).flatten)[m]? = some v := by
          have hpre : (((xs.map enc).drop l).take (j - l)).flatten <+: ((xs.map enc).drop l).flatten := by
            conv => rhs; rw [← List.take_append_drop (j - l) ((xs.map enc).drop l), List.flatten_append]
            exact List.prefix_append _ _
          obtain ⟨t, ht⟩ := hpre
          rw [← ht, List.getElem?_append_left (List.getElem?_eq_some_iff.1 hm).1]; exact hm
        rw [flatten_drop h1, List.getElem?_drop] at e2
        have := hc _ _ e2
        rw [Nat.add_assoc]; exact this
  · simp at h3 ⊢; omega
theorem RS.subL {α : Type} {_i : Inhabited α} {k : Nat} {enc : α → List Value} {a : Option Addr} {xs : List α} (h : RS (_i := _i) R k enc a xs) {l cap : Nat} (hl : l ≤ xs.length) (hj : xs.length ≤ cap) :
    RS (_i := _i) R k enc (subA a l cap k) (xs.drop l) := by
  have := h.sub (l := l) (j := xs.length) hl hj
  rwa [List.take_of_length_le (by simp)] at this
theorem RS.take {α : Type} {_i : Inhabited α} {k : Nat} {enc : α → List Value} {a : Option Addr} {xs : List α} (h : RS (_i := _i) R k enc a xs) (j : Nat) :
    RS (_i := _i) R k enc a (xs.take j) := by
  have := h.sub (l := 0) (j := j) (cap := j) (Nat.zero_le _) (Nat.le_refl _)
  simp only [List.drop_zero, Nat.sub_zero] at this
  unfold subA at this
  have ha : a.map (·.add (0 * k)) = a := by cases a <;> simp [Addr.add]
  rw [ha] at this
  simpa using this

theorem vint {k : IntKind} {a b : Int} (h : a = b) : some (true, Value.int k a) = some (true, Value.int k b) := by rw [h]

/-! ### typed forms -/
theorem Ef.buildSliceD {α : Type} {enc : α → List Value} {t e : TypeId} {len : Nat} {parts : List Operand} {d d2 : TD} {vs : List Value} (xs : List α) (hT : TabOk P T) (ho : o.op = .buildSlice t len ((parts.zipIdx 0).map fun x => (x.2, x.1)).toArray) (hd : T.at t = some d) (hk : d.k = .slice e) (hd2 : T.at e = some d2)
    (hv : evs env parts = some (true, vs)) (hlen : parts.length = len) (hx : vs.map vcells = xs.map enc) (hsz : vs.all (fun v => Nat.beq (vcells v).length d2.size) = true) (hpos : 0 < d2.size) (hsmall : len * d2.size ≤ 16777216)
    (hK : ∀ g : Nat, K (.slice (some ⟨g, 0, none⟩) len len) R (.sl e d2.size (some ⟨g, 0, none⟩) len (xs.map enc) :: E)) : Ef P n env w0 R E o K :=
  Ef.buildSlice hT ho hd hk hd2 hv hlen hsz hpos hsmall (fun g => by rw [hx]; exact hK g)

theorem RdAll.ownD {α : Type} {enc : α → List Value} {e : TypeId} {k : Nat} {a : Option Addr} {cap : Nat} {xs : List α} (i : Nat) (h : E[i]? = some (.sl e k a cap (xs.map enc))) : xs = [] ∨ Rd R E (a.getD default) (xs.map enc).flatten := by
  rcases Rd.allE (R := R) i h with h | h
  · left; simpa using h
  · right; exact h

/-- append(s, x...), typed; y's cells: one's own (number j) -/
theorem Ef.appendD {α : Type} {enc : α → List Value} {t e : TypeId} {x y : Operand} {k cap m c c2 : Nat} {a b : Option Addr} {xs ys : List α} {d d2 : TD} (i j : Nat) (hT : TabOk P T) (ho : o.op = .call { callee := .builtin .append, args := #[x, y], argTypes := #[t, t] }) (hd : T.at t = some d) (hk : d.k = .slice e) (hd2 : T.at e = some d2)
    (hx : ev env x = some (true, .slice a m cap)) (hm : m = xs.length) (hE : E[i]? = some (.sl e k a cap (xs.map enc))) (hks : d2.size = k) (hzl : d2.zero.length = k)
    (hy : ev env y = some (true, .slice b ys.length c)) (hj : E[j]? = some (.sl e k b c2 (ys.map enc))) (h1 : ∀ u ∈ ys, cells1 (enc u) = true)
    (hbytes : (xs.length + ys.length) * d2.bytes ≤ 140737488355328) (hmax : xs.length + ys.length ≤ 9223372036854775807)
    (hK : ∀ a' cap', (0 < ys.length → a'.isSome = true) → K (.slice a' (xs ++ ys).length cap') R (E.set i (.sl e k a' cap' ((xs ++ ys).map enc)))) : Ef P n env w0 R E o K := by
  intro ac w hkn hmm
  have h0 := (own_sl hmm (mem_of_get hj)).1
  have hrd : RdAll R E b (ys.map enc).flatten := by
    by_cases hb : b.isSome = true
    · exact RdAll.own j hj hb
    · left
      obtain ⟨_, _, h2⟩ := own_sl hmm (mem_of_get hj)
      rcases h2 with ⟨_, h2, _⟩ | ⟨g, cur, h2, _⟩
      · rw [h2]; rfl
      · rw [h2] at hb; simp at hb
  refine Ef.append (k := k) (rows := xs.map enc) (news := ys.map enc) (m := ys.length) i hT ho hd hk hd2 (by rw [hx, hm]; simp) hE hks hzl hy (by simp) hrd h0 ?_ (by simpa using hbytes) (by simpa using hmax) ?_ ac w hkn hmm
  · intro r hr
    obtain ⟨u, hu, rfl⟩ := List.mem_map.1 hr
    exact h1 u hu
  · intro a' cap' hsome
    have := hK a' cap' hsome
    simp only [List.map_append, List.length_append, List.length_map] at this ⊢
    exact this
/-- append(s, x...), typed; y's cells: immutable -/
theorem Ef.appendR {α : Type} {_i : Inhabited α} {enc : α → List Value} {t e : TypeId} {x y : Operand} {k cap m c : Nat} {a b : Option Addr} {xs ys : List α} {d d2 : TD} (i : Nat) (hT : TabOk P T) (ho : o.op = .call { callee := .builtin .append, args := #[x, y], argTypes := #[t, t] }) (hd : T.at t = some d) (hk : d.k = .slice e) (hd2 : T.at e = some d2)
    (hx : ev env x = some (true, .slice a m cap)) (hm : m = xs.length) (hE : E[i]? = some (.sl e k a cap (xs.map enc))) (hks : d2.size = k) (hzl : d2.zero.length = k)
    (hy : ev env y = some (true, .slice b ys.length c)) (hj : RS (_i := _i) R k enc b ys) (h1 : ∀ u ∈ ys, cells1 (enc u) = true)
    (hbytes : (xs.length + ys.length) * d2.bytes ≤ 140737488355328) (hmax : xs.length + ys.length ≤ 9223372036854775807)
    (hK : ∀ a' cap', (0 < ys.length → a'.isSome = true) → K (.slice a' (xs ++ ys).length cap') R (E.set i (.sl e k a' cap' ((xs ++ ys).map enc)))) : Ef P n env w0 R E o K := by
  intro ac w hkn hmm
  refine Ef.append (k := k) (rows := xs.map enc) (news := ys.map enc) (m := ys.length) i hT ho hd hk hd2 (by rw [hx, hm]; simp) hE hks hzl hy (by simp) (RSl.all hj) hj.1 ?_ (by simpa using hbytes) (by simpa using hmax) ?_ ac w hkn hmm
  · intro r hr
    obtain ⟨u, hu, rfl⟩ := List.mem_map.1 hr
    exact h1 u hu
  · intro a' cap' hsome
    have := hK a' cap' hsome
    simp only [List.map_append, List.length_append, List.length_map] at this ⊢
    exact this

theorem Ef.makeSliceD {α : Type} {enc : α → List Value} (z : α) {t e : TypeId} {x y : Operand} {l c : Int} {d d2 : TD} (hT : TabOk P T) (ho : o.op = .makeSlice t x y) (hd : T.at t = some d) (hk : d.k = .slice e) (hd2 : T.at e = some d2)
    (hx : ev env x = some (true, .int .i64 l)) (hy : ev env y = some (true, .int .i64 c)) (h0 : 0 ≤ l) (hlc : l ≤ c) (hb : (d2.bytes : Int) * c ≤ 281474976710656) (hmax : c ≤ 9223372036854775807) (hpos : 0 < d2.size) (hz1 : d2.zero.length = d2.size) (hz : d2.zero = enc z)
    (hK : ∀ g : Nat, K (.slice (some ⟨g, 0, none⟩) l.toNat c.toNat) R (.sl e d2.size (some ⟨g, 0, none⟩) c.toNat ((List.replicate l.toNat z).map enc) :: E)) : Ef P n env w0 R E o K :=
  Ef.makeSlice hT ho hd hk hd2 hx hy h0 hlc hb hmax hpos hz1 (fun g => by have := hK g; rw [List.map_replicate, ← hz] at this; exact this)

/-! ### regions that draw their order and write -/
def WA (P : Program) (ops : List Oper) (Q : Exit → Act → World → Prop) (ES : List Ent) (R0 : Ro) (w0 : World) (fuel : Nat) (listed : Array Bool) (n : Nat) (env : Env) (R : Ro) (E : List Ent) : Prop :=
  ∀ a w, Kn n env a → Mem w0 w R E → wpAnyH P .any ops.toArray (NoPanic Q) (fun w => Mem w0 w R0 ES) fuel listed a w

theorem W.regionH (id : Nat) {l : List Oper} {ES : List Ent} (hm : P.follows .mixedOrders = true)
    (h : WA P l Q ES R w0 l.toArray.size (Array.replicate l.toArray.size false) n env R E) : W P (.region id l.toArray true) Q n env w0 R E := by
  intro a w hk hw
  refine wp_region_noPanic (wp_region_held (S := fun w => Mem w0 w R ES) hm ?_)
  exact h a _ hk hw.drew

variable {ES : List Ent} {R0 : Ro} {fuel : Nat} {listed : Array Bool}
theorem WA.take {v : Value} {d : Nat} {pc : Bool} (i : Nat) (hi : ops.toArray[i]? = some o) (hs : Region.noSelect ops.toArray = true) (hf : Region.free .any ops.toArray listed i = true) (hr : (Region.ready .any ops.toArray listed).contains i = true)
    (hg : gpc ops env o = some pc) (hd : o.dst = some d) (hdn : d < n) (hy : Yl P n env w0 R0 ES o pc v) (hsub : ES.Sublist E) (hR : RLe R0 R)
    (h : WA P ops Q ES R0 w0 fuel (listed.setIfInBounds i true) n ((d, pc, v) :: env) R E) : WA P ops Q ES R0 w0 (fuel + 1) listed n env R E := by
  intro a w hk hm
  have hput := hk.put hdn pc v
  refine wpAnyH_take (v := if pc then v else undef) hi hs hf hr (fun _ _ _ h => h) ?_ (hm.sub hR hsub) ?_
  · cases pc with
    | true => exact .inl ⟨hk.wanted hg, fun w hm => by simpa using hy a w hk hm rfl⟩
    | false => exact .inr ⟨hk.wanted hg, rfl⟩
  · rw [hd]
    exact h _ _ hput hm

theorem WA.eff {d : Nat} (i : Nat) (hi : ops.toArray[i]? = some o) (hr : Region.ready .any ops.toArray listed = [i]) (hg : o.guard = none) (hd : o.dst = some d) (hdn : d < n)
    (h : Ef P n env w0 R E o fun v R' E' => RLe R0 R' ∧ ES.Sublist E' ∧ WA P ops Q ES R0 w0 fuel (listed.setIfInBounds i true) n ((d, true, v) :: env) R' E') : WA P ops Q ES R0 w0 (fuel + 1) listed n env R E := by
  intro a w hk hm
  refine wpAnyH_all hr (by simp) fun j hj => ?_
  obtain rfl : j = i := by simpa using hj
  unfold wpOp
  rw [hi]
  simp only [Region.wanted, hg, if_true]
  left
  obtain ⟨v, w', R', E', hrun, hm', hR', hsub', hn⟩ := h a w hk hm
  unfold Oper.wp
  rcases hrun with hrun | ⟨hrun, rfl⟩
  · rw [hrun]; simp only [Oper.upon, hd]; exact ⟨hm'.sub hR' hsub', hn _ _ (hk.putT hdn v) hm'⟩
  · rw [hrun]; simp only [Oper.upon, hd]; exact ⟨hm'.sub hR' hsub', hn _ _ (hk.putT hdn _) hm'⟩
theorem WA.effN (i : Nat) (hi : ops.toArray[i]? = some o) (hr : Region.ready .any ops.toArray listed = [i]) (hg : o.guard = none) (hd : o.dst = none)
    (h : Ef P n env w0 R E o fun _ R' E' => RLe R0 R' ∧ ES.Sublist E' ∧ WA P ops Q ES R0 w0 fuel (listed.setIfInBounds i true) n env R' E') : WA P ops Q ES R0 w0 (fuel + 1) listed n env R E := by
  intro a w hk hm
  refine wpAnyH_all hr (by simp) fun j hj => ?_
  obtain rfl : j = i := by simpa using hj
  unfold wpOp
  rw [hi]
  simp only [Region.wanted, hg, if_true]
  left
  obtain ⟨v, w', R', E', hrun, hm', hR', hsub', hn⟩ := h a w hk hm
  unfold Oper.wp
  rcases hrun with hrun | ⟨hrun, rfl⟩
  · rw [hrun]; simp only [Oper.upon, hd]; exact ⟨hm'.sub hR' hsub', hn _ _ hk hm'⟩
  · rw [hrun]; simp only [Oper.upon, hd]; exact ⟨hm'.sub hR' hsub', hn _ _ hk hm'⟩
/-- whichever of these comes up -/
theorem WA.two {i j : Nat} (hr : Region.ready .any ops.toArray listed = [i, j])
    (h1 : ∀ a w, Kn n env a → Mem w0 w R E → wpOp P ops.toArray (NoPanic Q) i (fun a' w' => Mem w0 w' R0 ES ∧ wpAnyH P .any ops.toArray (NoPanic Q) (fun w => Mem w0 w R0 ES) fuel (listed.setIfInBounds i true) a' w') a w)
    (h2 : ∀ a w, Kn n env a → Mem w0 w R E → wpOp P ops.toArray (NoPanic Q) j (fun a' w' => Mem w0 w' R0 ES ∧ wpAnyH P .any ops.toArray (NoPanic Q) (fun w => Mem w0 w R0 ES) fuel (listed.setIfInBounds j true) a' w') a w) : WA P ops Q ES R0 w0 (fuel + 1) listed n env R E := by
  intro a w hk hm
  refine wpAnyH_all hr (by simp) fun m hm' => ?_
  rcases List.mem_cons.1 hm' with rfl | hm'
  · exact h1 a w hk hm
  · obtain rfl : m = j := by simpa using hm'
    exact h2 a w hk hm

theorem WA.call {d : Nat} {f : FuncId} {vs : List Value} {Post : Value → Ro → List Ent → Prop} (i : Nat) (hi : ops.toArray[i]? = some o) (hr : Region.ready .any ops.toArray listed = [i]) (hf : Enters P f) (hg : o.guard = none) (hd : o.dst = some d) (hdn : d < n)
    (hc : CallOp env o.op true f vs) (hv : Fn P f vs w0 R E Post)
    (h : ∀ v R' E', RLe R R' → Post v R' E' → RLe R0 R' ∧ ES.Sublist E' ∧ WA P ops Q ES R0 w0 fuel (listed.setIfInBounds i true) n ((d, true, v) :: env) R' E') : WA P ops Q ES R0 w0 (fuel + 1) listed n env R E := by
  intro a w hk hm
  refine wpAnyH_all hr (by simp) fun j hj => ?_
  obtain rfl : j = i := by simpa using hj
  unfold wpOp
  rw [hi]
  simp only [Region.wanted, hg, if_true]
  left
  unfold Oper.wp
  rw [run_call hk hc rfl hf]
  refine (hv w hm).mono ?_
  rintro e w' ⟨v, R', E', rfl, hR, hm', hp⟩
  obtain ⟨g1, g2, g3⟩ := h v R' E' hR hp
  simp only [hd]
  exact ⟨hm'.sub g1 g2, g3 _ _ (hk.putT hdn v) hm'⟩
theorem WA.callAt {d : Nat} {f : FuncId} {vs : List Value} {e : Ent} {Post : Value → Ro → Ent → List Ent → Prop} (k i : Nat) (hi : ops.toArray[i]? = some o) (hr : Region.ready .any ops.toArray listed = [i]) (hf : Enters P f) (hg : o.guard = none) (hd : o.dst = some d) (hdn : d < n)
    (hc : CallOp env o.op true f vs) (hE : E[k]? = some e) (hv : Fn P f vs w0 R (e :: E.eraseIdx k) (fun v R' E' => ∃ e' N, E' = N ++ e' :: E.eraseIdx k ∧ Post v R' e' N))
    (h : ∀ v R' e' N, RLe R R' → Post v R' e' N → RLe R0 R' ∧ ES.Sublist (N ++ E.set k e') ∧ WA P ops Q ES R0 w0 fuel (listed.setIfInBounds i true) n ((d, true, v) :: env) R' (N ++ E.set k e')) : WA P ops Q ES R0 w0 (fuel + 1) listed n env R E := by
  intro a w hk hm
  refine wpAnyH_all hr (by simp) fun j hj => ?_
  obtain rfl : j = i := by simpa using hj
  unfold wpOp
  rw [hi]
  simp only [Region.wanted, hg, if_true]
  left
  unfold Oper.wp
  rw [run_call hk hc rfl hf]
  refine (hv w (hm.perm (perm_get hE))).mono ?_
  rintro e0 w' ⟨v, R', E', rfl, hR, hm', e', N, rfl, hp⟩
  obtain ⟨g1, g2, g3⟩ := h v R' e' N hR hp
  have hm2 := hm'.perm ((perm_set e' hE).append_left N)
  simp only [hd]
  exact ⟨hm2.sub g1 g2, g3 _ _ (hk.putT hdn v) hm2⟩
/-- an operation that yields, the only one that may come up -/
theorem WA.yl {v : Value} {d : Nat} (i : Nat) (hi : ops.toArray[i]? = some o) (hr : Region.ready .any ops.toArray listed = [i]) (hg : o.guard = none) (hd : o.dst = some d) (hdn : d < n) (hy : Yl P n env w0 R E o true v) (hsub : ES.Sublist E) (hR : RLe R0 R)
    (h : WA P ops Q ES R0 w0 fuel (listed.setIfInBounds i true) n ((d, true, v) :: env) R E) : WA P ops Q ES R0 w0 (fuel + 1) listed n env R E :=
  WA.eff i hi hr hg hd hdn (fun a w hk hm => ⟨v, w, R, E, .inl (hy a w hk hm rfl), hm, hR, hsub, h⟩)

/-- one of those that may come up -/
def WS (P : Program) (ops : List Oper) (Q : Exit → Act → World → Prop) (ES : List Ent) (R0 : Ro) (w0 : World) (fuel : Nat) (listed : Array Bool) (n : Nat) (env : Env) (R : Ro) (E : List Ent) (i : Nat) : Prop :=
  ∀ a w, Kn n env a → Mem w0 w R E → wpOp P ops.toArray (NoPanic Q) i (fun a' w' => Mem w0 w' R0 ES ∧ wpAnyH P .any ops.toArray (NoPanic Q) (fun w => Mem w0 w R0 ES) fuel (listed.setIfInBounds i true) a' w') a w
theorem WA.br2 {i j : Nat} (hr : Region.ready .any ops.toArray listed = [i, j]) (h1 : WS P ops Q ES R0 w0 fuel listed n env R E i) (h2 : WS P ops Q ES R0 w0 fuel listed n env R E j) : WA P ops Q ES R0 w0 (fuel + 1) listed n env R E := by
  intro a w hk hm
  refine wpAnyH_all hr (by simp) fun m hm' => ?_
  rcases List.mem_cons.1 hm' with rfl | hm'
  · exact h1 a w hk hm
  · obtain rfl : m = j := by simpa using hm'
    exact h2 a w hk hm
theorem WA.br3 {i j k : Nat} (hr : Region.ready .any ops.toArray listed = [i, j, k]) (h1 : WS P ops Q ES R0 w0 fuel listed n env R E i) (h2 : WS P ops Q ES R0 w0 fuel listed n env R E j) (h3 : WS P ops Q ES R0 w0 fuel listed n env R E k) : WA P ops Q ES R0 w0 (fuel + 1) listed n env R E := by
  intro a w hk hm
  refine wpAnyH_all hr (by simp) fun m hm' => ?_
  rcases List.mem_cons.1 hm' with rfl | hm'
  · exact h1 a w hk hm
  · rcases List.mem_cons.1 hm' with rfl | hm'
    · exact h2 a w hk hm
    · obtain rfl : m = k := by simpa using hm'
      exact h3 a w hk hm
theorem WS.eff {d : Nat} {i : Nat} (hi : ops.toArray[i]? = some o) (hg : o.guard = none) (hd : o.dst = some d) (hdn : d < n)
    (h : Ef P n env w0 R E o fun v R' E' => RLe R0 R' ∧ ES.Sublist E' ∧ WA P ops Q ES R0 w0 fuel (listed.setIfInBounds i true) n ((d, true, v) :: env) R' E') : WS P ops Q ES R0 w0 fuel listed n env R E i := by
  intro a w hk hm
  unfold wpOp
  rw [hi]
  simp only [Region.wanted, hg, if_true]
  left
  obtain ⟨v, w', R', E', hrun, hm', hR', hsub', hn⟩ := h a w hk hm
  unfold Oper.wp
  rcases hrun with hrun | ⟨hrun, rfl⟩
  · rw [hrun]; simp only [Oper.upon, hd]; exact ⟨hm'.sub hR' hsub', hn _ _ (hk.putT hdn v) hm'⟩
  · rw [hrun]; simp only [Oper.upon, hd]; exact ⟨hm'.sub hR' hsub', hn _ _ (hk.putT hdn _) hm'⟩
theorem WA.sub {env' : Env} {R' : Ro} {E' : List Ent} (hs : Sub env' env) (hR : RLe R' R) (hE : E'.Sublist E) (h : WA P ops Q ES R0 w0 fuel listed n env' R' E') : WA P ops Q ES R0 w0 fuel listed n env R E :=
  fun a w hk hm => h a w (hk.sub hs) (hm.sub hR hE)

theorem WS.yl {v : Value} {d : Nat} {i : Nat} (hi : ops.toArray[i]? = some o) (hg : o.guard = none) (hd : o.dst = some d) (hdn : d < n) (hy : Yl P n env w0 R E o true v) (hsub : ES.Sublist E) (hR : RLe R0 R)
    (h : WA P ops Q ES R0 w0 fuel (listed.setIfInBounds i true) n ((d, true, v) :: env) R E) : WS P ops Q ES R0 w0 fuel listed n env R E i :=
  WS.eff hi hg hd hdn (fun a w hk hm => ⟨v, w, R, E, .inl (hy a w hk hm rfl), hm, hR, hsub, h⟩)
theorem perm3a {α : Type} (a b c : α) (l : List α) : (a :: c :: b :: l).Perm (a :: b :: c :: l) := (List.Perm.swap b c l).cons a
theorem perm3b {α : Type} (a b c : α) (l : List α) : (b :: a :: c :: l).Perm (a :: b :: c :: l) := List.Perm.swap a b _
theorem perm3c {α : Type} (a b c : α) (l : List α) : (b :: c :: a :: l).Perm (a :: b :: c :: l) := ((List.Perm.swap a c l).cons b).trans (perm3b a b c l)
theorem perm3d {α : Type} (a b c : α) (l : List α) : (c :: a :: b :: l).Perm (a :: b :: c :: l) := (perm3b a c b l).trans (perm3a a b c l)
theorem perm3e {α : Type} (a b c : α) (l : List α) : (c :: b :: a :: l).Perm (a :: b :: c :: l) := (perm3c a c b l).trans (perm3a a b c l)

/-! ### where ways meet -/
def Cut {β : Type} (inv : β → Prop) (n : Nat) (en : β → Env) (w0 : World) (RR : β → Ro) (EE : β → List Ent) : Act → World → Prop :=
  fun a w => ∃ s, inv s ∧ Kn n (en s) a ∧ Mem w0 w (RR s) (EE s)
theorem W.seqCut {β : Type} {y : Code} (inv : β → Prop) (en : β → Env) (RR : β → Ro) (EE : β → List Ent) (h1 : ∀ s, inv s → W P y Q n (en s) w0 (RR s) (EE s))
    (h2 : W P c (Exit.then (Cut inv n en w0 RR EE) Q) n env w0 R E) : W P (.seq c y) Q n env w0 R E := by
  intro a w hk hm
  refine wp_seq (Code.wp_mono ?_ (h2 a w hk hm))
  intro e a' w' hq
  cases e with
  | normal => obtain ⟨s, hi, hk', hm'⟩ := hq; exact h1 s hi a' w' hk' hm'
  | _ => exact hq
theorem WE.cut {β : Type} {inv : β → Prop} {en : β → Env} {RR : β → Ro} {EE : β → List Ent} (s : β) (hi : inv s) (hs : Sub (en s) env) (hR : RLe (RR s) R) (hE : (EE s).Sublist E) :
    WE (Exit.then (Cut inv n en w0 RR EE) Q) .normal n env w0 R E := fun _ _ hk hm => ⟨s, hi, hk.sub hs, hm.sub hR hE⟩
theorem WE.cutP {β : Type} {inv : β → Prop} {en : β → Env} {RR : β → Ro} {EE : β → List Ent} (s : β) (hi : inv s) (hs : Sub (en s) env) (hR : RLe (RR s) R) (hE : E.Perm (EE s)) :
    WE (Exit.then (Cut inv n en w0 RR EE) Q) .normal n env w0 R E := fun _ _ hk hm => ⟨s, hi, hk.sub hs, (hm.perm hE).sub hR (List.Sublist.refl _)⟩
theorem WE.againP {β : Type} {inv : β → Prop} {en : β → Env} {RR : β → Ro} {EE : β → List Ent} {μ : β → Nat} {m : Nat} (s : β)
    (hi : inv s) (hm : μ s < m) (hs : Sub (en s) env) (hR : RLe (RR s) R) (hE : ∃ E', E.Perm E' ∧ (EE s).Sublist E') :
    WE (Exit.then (Again inv n en w0 RR EE μ m) Q) .normal n env w0 R E := by
  intro _ _ hk hmm
  obtain ⟨E', h1, h2⟩ := hE
  exact ⟨s, hi, hm, hk.sub hs, (hmm.perm h1).sub hR h2⟩
theorem WL.perm {E' : List Ent} (hE : E.Perm E') (h : WG false P ops Q rest n env w0 R E') : WG false P ops Q rest n env w0 R E := fun a w hk hm => h a w hk (hm.perm hE)
theorem WE.mem {E' : List Ent} (hE : ∀ w, Mem w0 w R E → Mem w0 w R E') (h : WE Q x n env w0 R E') : WE Q x n env w0 R E := fun a w hk hm => h a w hk (hE w hm)

theorem WA.done (hr : Region.ready .any ops.toArray listed = []) (h : WE Q .normal n env w0 R E) : WA P ops Q ES R0 w0 fuel listed n env R E :=
  fun a w hk hm => wpAnyH_done hr (NoPanic.normal (h a w hk hm)) fuel
end
