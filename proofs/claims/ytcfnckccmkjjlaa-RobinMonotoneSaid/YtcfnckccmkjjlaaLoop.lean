/- The rules of the walks, over any program: loops that name only what they change. No condition. -/
import Derived.Test.YtcfnckccmkjjlaaRange
namespace Go.Proofs.Ytcfnckccmkjjlaa.K
open Go Go.RowKit

theorem perm_out {α : Type} {a b o : α} {L F : List α} : (a :: b :: o :: (L ++ F)).Perm (o :: (L ++ (a :: b :: F))) :=
  ((List.Perm.swap o b _).cons a).trans ((List.Perm.swap o a _).trans ((List.perm_middle.trans (List.perm_middle.cons a)).symm.cons o))
theorem perm_out3 {α : Type} {a b c o : α} {L F : List α} : (a :: b :: c :: o :: (L ++ F)).Perm (o :: (L ++ (a :: b :: c :: F))) :=
  (perm_out.cons a).trans ((List.Perm.swap o a _).trans (List.perm_middle.symm.cons o))
theorem perm_out4 {α : Type} {a b c d o : α} {L F : List α} : (a :: b :: c :: d :: o :: (L ++ F)).Perm (o :: (L ++ (a :: b :: c :: d :: F))) :=
  (perm_out3.cons a).trans ((List.Perm.swap o a _).trans (List.perm_middle.symm.cons o))
theorem rs_nil {R : Ro} {α : Type} {_i : Inhabited α} {k : Nat} {enc : α → List Value} : RS (_i := _i) R k enc none [] := ⟨by simp, .inl rfl, by simp⟩
def zipE : List Nat → List Value → Env → Env
  | k :: ks, v :: vs, e => (k, true, v) :: zipE ks vs e
  | _, _, e => e
def setAll : List Ent → List (Nat × Ent) → List Ent
  | E, [] => E
  | E, (i, e) :: r => setAll (E.set i e) r
theorem fill_mono {pl pl' : Nat → Option (Nat × Nat)} (h : ∀ i x, pl i = some x → pl' i = some x) : ∀ (parts : List (Nat × Value)) (cs r : Array Value), Instr.fill pl cs parts = some r → Instr.fill pl' cs parts = some r
  | [], cs, r, e => e
  | (i, v) :: rest, cs, r, e => by
    unfold Instr.fill at e ⊢
    cases hp : pl i with
    | none => simp [hp] at e
    | some x =>
      obtain ⟨off, size⟩ := x
      rw [hp] at e
      rw [h i _ hp]
      simp only at e ⊢
      split at e
      · cases e
      · rename_i hc
        rw [if_neg hc]
        exact fill_mono h rest _ r e
section
variable {P : Program} {T : Tab} {n : Nat} {env : Env} {w0 : World} {R : Ro} {E : List Ent} {Q : Exit → Act → World → Prop} {x y : Code}
/-- a loop; ks, kv: places that it keeps; mk: the mark, if there is one -/
theorem W.loopK {β : Type} (inv : β → Prop) (vars : β → Env) (ks : List Nat) (kv : List Value) (mk : Env) (kE : List Ent) (hk : E = kE) (es : β → List (Nat × Ent)) (μ : β → Nat) (x0 : β)
    (h0 : inv x0) (hs : Sub (vars x0 ++ zipE ks kv mk) env) (hE : (setAll kE (es x0)).Sublist E)
    (round : ∀ s, inv s → W P x (Exit.then (Again inv n (fun s => vars s ++ zipE ks kv mk) w0 (fun _ => R) (fun s => setAll kE (es s)) μ (μ s)) Q) n (vars s ++ zipE ks kv mk) w0 R (setAll kE (es s))) :
    W P (.loop x) Q n env w0 R E :=
  W.loop inv (fun s => vars s ++ zipE ks kv mk) (fun _ => R) (fun s => setAll kE (es s)) μ x0 h0 hs (RLe.refl R) hE round
/-- the same, where what is read only grows -/
theorem W.loopR {β : Type} (inv : β → Prop) (vars : β → Env) (ks : List Nat) (kv : List Value) (mk : Env) (kE : List Ent) (hk : E = kE) (es : β → List (Nat × Ent)) (RR : β → Ro) (μ : β → Nat) (x0 : β)
    (h0 : inv x0) (hs : Sub (vars x0 ++ zipE ks kv mk) env) (hR : RLe (RR x0) R) (hE : (setAll kE (es x0)).Sublist E)
    (round : ∀ s, inv s → W P x (Exit.then (Again inv n (fun s => vars s ++ zipE ks kv mk) w0 RR (fun s => setAll kE (es s)) μ (μ s)) Q) n (vars s ++ zipE ks kv mk) w0 (RR s) (setAll kE (es s))) :
    W P (.loop x) Q n env w0 R E :=
  W.loop inv (fun s => vars s ++ zipE ks kv mk) RR (fun s => setAll kE (es s)) μ x0 h0 hs hR hE round
/-- a cell block becomes immutable -/
theorem Mem.freezeBlk {w : World} {i b : Nat} {cs : List Value} (hm : Mem w0 w R E) (hE : E[i]? = some (.blk b cs)) : ∃ R', RLe R R' ∧ R' b = some cs ∧ Mem w0 w R' (E.eraseIdx i) := by
  have hp := hm.perm (perm_get hE)
  obtain ⟨hbase, T, hh⟩ := hm.own _ (mem_of_get hE)
  refine ⟨fun c => if c = b then some cs else R c, ?_, by simp, ?_⟩
  · intro c cs' hc
    have := hm.disj _ (mem_of_get hE) b rfl
    by_cases hcb : c = b
    · subst hcb; rw [this] at hc; cases hc
    · simp [hcb, hc]
  · have hsub := hm.sub (RLe.refl R) (List.eraseIdx_sublist E i)
    have hnd := List.pairwise_cons.1 hp.nodup
    refine ⟨hsub.below, fun c cs' hc => ?_, hsub.own, fun e' he' c hc => ?_, hsub.nodup⟩
    · by_cases hcb : c = b
      · subst hcb; simp at hc; subst hc; exact ⟨T, _, hh⟩
      · simp [hcb] at hc; exact hm.ro c cs' hc
    · have := hnd.1 e' he' b rfl
      by_cases hcb : c = b
      · subst hcb; exact absurd hc this
      · simp [hcb]; exact hsub.disj e' he' c hc
theorem W.freezeBlk {b : Nat} {cs : List Value} (i : Nat) (hE : E[i]? = some (.blk b cs)) (h : ∀ R', RLe R R' → R' b = some cs → W P x Q n env w0 R' (E.eraseIdx i)) : W P x Q n env w0 R E := by
  intro ac w hk hm
  obtain ⟨R', hR, hb, hm'⟩ := hm.freezeBlk hE
  exact h R' hR hb ac w hk hm'
theorem WL.freezeBlk {ops rest : List Oper} {b : Nat} {cs : List Value} (i : Nat) (hE : E[i]? = some (.blk b cs)) (h : ∀ R', RLe R R' → R' b = some cs → WG false P ops Q rest n env w0 R' (E.eraseIdx i)) : WG false P ops Q rest n env w0 R E := by
  intro ac w hk hm
  obtain ⟨R', hR, hb, hm'⟩ := hm.freezeBlk hE
  exact h R' hR hb ac w hk hm'
theorem Rd.ro {b : Nat} {cs : List Value} (h : R b = some cs) : Rd R E ⟨b, 0, none⟩ cs := by
  intro w0 w hm j v hv
  obtain ⟨T, fz, hb⟩ := hm.ro _ _ h
  rw [addr_add_mk]
  simp [World.cell?, hb, hv]
theorem Fn.toVS {f : FuncId} {args : List Value} {v : Value} (h : ∀ w0 E, Fn P f args w0 R E (fun v' _ E' => v' = v ∧ E.Sublist E')) : FnV P f args R v := by
  intro w0 E w hm
  refine (h w0 E w hm).mono ?_
  rintro e w' ⟨v', R', E', rfl, hR, hm', rfl, hs⟩
  exact ⟨rfl, hm'.sub hR hs⟩
/-- an element of an array -/
theorem Yl.indexArr {o : Oper} {t : TypeId} {x y : Operand} {ad : Addr} {l : Nat} {i : Int} {d d2 : TD} {e : Nat} {pc p q : Bool} (hT : TabOk P T) (ho : o.op = .indexAddr t x y) (hd : T.at t = some d) (hk : d.k = .arr l e) (hd2 : T.at e = some d2)
    (hx : ev env x = some (p, .pointer (some ad))) (hy : ev env y = some (q, .int .i64 i)) (hpq : pc = true → (p && q) = true)
    (hi : pc = true → 0 ≤ i ∧ i < l) : Yl P n env w0 R E o pc (.pointer (some (ad.add (i.toNat * d2.size)))) := by
  intro ac w hkn hm hpc
  obtain ⟨h1, h2⟩ := and_both (hpq hpc)
  have hi := hi hpc
  unfold execOp
  simp [ho, hkn.ev hx h1, hkn.ev hy h2, Instr.indexAt, Instr.sureAddr, asIntOf, underlying, hT.arr hd hk, hi, run_sizeOf hT hd2]
/-- an array's literal -/
theorem Yl.buildArr {o : Oper} {t : TypeId} {parts : List (Nat × Operand)} {d d2 : TD} {l e : Nat} {vs : List (Nat × Value)} {cs : List Value} {pc q : Bool} (hT : TabOk P T) (ho : o.op = .build t parts.toArray) (hd : T.at t = some d) (hk : d.k = .arr l e) (hd2 : T.at e = some d2)
    (hv : evParts env parts = some (q, vs)) (hq : pc = true → q = true) (hb : buildCells ((List.range l).map fun i => (i * d2.size, d2.size)) d.zero (vs.map fun x => (x.1, vcells x.2)) = some cs) : Yl P n env w0 R E o pc (.agg cs.toArray) := by
  intro a w hkn hm hpc
  obtain ⟨z, hz, hzc⟩ := run_zeroValue hT hd w
  have hzc' : z.cells = d.zero.toArray := by rw [← hzc]
  have hp := evParts_ok hkn hv (hq hpc)
  have hpl := fill_mono (pl' := fun i => some (i * d2.size, d2.size)) (fun i x hx => by
    simp only [List.getElem?_toArray, List.getElem?_map] at hx
    cases hr : (List.range l)[i]? with
    | none => simp [hr] at hx
    | some j =>
      have hj : i = j := by
        have h2 := List.getElem?_eq_some_iff.1 hr
        obtain ⟨h3, h4⟩ := h2
        simpa using h4
      subst hj
      simp [hr] at hx
      rw [← hx]) vs d.zero.toArray cs.toArray (fill_build (fs := (List.range l).map fun i => (i * d2.size, d2.size)) (parts := vs) (cs := d.zero) (cs' := cs) hb)
  unfold execOp
  simp only [ho, Instr.build, Sem.run_bind, hz, Result.andThen_ok, underlying, run_program, hT.arr hd hk, hzc', Sem.run_pure, List.map_toArray, run_sizeOf hT hd2, hp, hpl]
/-- a field of a field -/
theorem Ef.store2 {o : Oper} {K : Value → Ro → List Ent → Prop} {t : TypeId} {x y : Operand} {b o1 o2 : Nat} {cs : List Value} {v : Value} {d : TD} (i : Nat) (hT : TabOk P T) (ho : o.op = .store t x y) (hd : T.at t = some d)
    (hx : ev env x = some (true, .pointer (some (((⟨b, 0, none⟩ : Addr).add o1).add o2)))) (hy : ev env y = some (true, v)) (hE : E[i]? = some (.blk b cs))
    (hl : Nat.beq (vcells v).length d.size = true) (hfit : Nat.ble (o1 + o2 + d.size) cs.length = true) (h1 : cells1 (vcells v) = true)
    (hK : K undef R (E.set i (.blk b (setSeg cs (o1 + o2) (vcells v))))) : Ef P n env w0 R E o K :=
  Ef.store (off := o1 + o2) i hT ho hd (by rw [hx, addr_add_add]) hy hE hl hfit h1 hK
/-- append([]T{}, y...): a copy -/
theorem Ef.cloneL {α : Type} [_i : Inhabited α] {enc : α → List Value} {o : Oper} {K : Value → Ro → List Ent → Prop} {t e : TypeId} {x y : Operand} {k m c cap : Nat} {a b : Option Addr} {ys : List α} {d d2 : TD} (i : Nat) (hT : TabOk P T) (ho : o.op = .call { callee := .builtin .append, args := #[x, y], argTypes := #[t, t] }) (hd : T.at t = some d) (hk : d.k = .slice e) (hd2 : T.at e = some d2)
    (hx : ev env x = some (true, .slice a 0 cap)) (hE : E[i]? = some (.sl e k a cap [])) (hks : d2.size = k) (hzl : d2.zero.length = k)
    (hy : ev env y = some (true, .slice b m c)) (hm : m = ys.length) (hj : RS (_i := _i) R k enc b ys) (h1 : ∀ u ∈ ys, cells1 (enc u) = true)
    (hbytes : ys.length * d2.bytes ≤ 140737488355328) (hmax : ys.length ≤ 9223372036854775807)
    (hK : ∀ a' cap', (0 < ys.length → a'.isSome = true) → K (.slice a' m cap') R (E.set i (.sl e k a' cap' (ys.map enc)))) : Ef P n env w0 R E o K := by
  subst hm
  exact Ef.appendR (enc := enc) (xs := []) i hT ho hd hk hd2 hx rfl hE hks hzl hy hj h1 (by simpa using hbytes) (by simpa using hmax) hK
/-- append(nil, y...): a copy -/
theorem Ef.cloneR {α : Type} [_i : Inhabited α] {enc : α → List Value} {o : Oper} {K : Value → Ro → List Ent → Prop} {t e : TypeId} {x y : Operand} {k m c : Nat} {b : Option Addr} {ys : List α} {d d2 : TD} (i : Nat) (hT : TabOk P T) (ho : o.op = .call { callee := .builtin .append, args := #[x, y], argTypes := #[t, t] }) (hd : T.at t = some d) (hk : d.k = .slice e) (hd2 : T.at e = some d2)
    (hx : ev env x = some (true, .slice none 0 0)) (hE : E[i]? = some (.sl e k none 0 [])) (hks : d2.size = k) (hzl : d2.zero.length = k)
    (hy : ev env y = some (true, .slice b m c)) (hm : m = ys.length) (hj : RS (_i := _i) R k enc b ys) (h1 : ∀ u ∈ ys, cells1 (enc u) = true)
    (hbytes : ys.length * d2.bytes ≤ 140737488355328) (hmax : ys.length ≤ 9223372036854775807)
    (hK : ∀ a' cap', (0 < ys.length → a'.isSome = true) → K (.slice a' m cap') R (E.set i (.sl e k a' cap' (ys.map enc)))) : Ef P n env w0 R E o K := by
  subst hm
  exact Ef.appendR (enc := enc) (xs := []) i hT ho hd hk hd2 hx rfl hE hks hzl hy hj h1 (by simpa using hbytes) (by simpa using hmax) hK
variable {ops : List Oper} {o : Oper} {ES : List Ent} {R0 : Ro} {fuel : Nat} {listed : Array Bool} {pc : Bool}
/-- a call, the only operation that may come up; its guard is known to hold -/
theorem WA.callG {d : Nat} {f : FuncId} {vs : List Value} {Post : Value → Ro → List Ent → Prop} (i : Nat) (hi : ops.toArray[i]? = some o) (hr : Region.ready .any ops.toArray listed = [i]) (hf : Enters P f) (hg : gpc ops env o = some pc) (hpc : pc = true) (hd : o.dst = some d) (hdn : d < n)
    (hc : CallOp env o.op true f vs) (hv : Fn P f vs w0 R E Post)
    (h : ∀ v R' E', RLe R R' → Post v R' E' → RLe R0 R' ∧ ES.Sublist E' ∧ WA P ops Q ES R0 w0 fuel (listed.setIfInBounds i true) n ((d, true, v) :: env) R' E') : WA P ops Q ES R0 w0 (fuel + 1) listed n env R E := by
  intro a w hk hm
  refine wpAnyH_all hr (by simp) fun j hj => ?_
  obtain rfl : j = i := by simpa using hj
  unfold wpOp
  rw [hi]
  have hw := hk.wanted hg
  rw [hpc] at hw
  simp only [hw, if_true]
  left
  unfold Oper.wp
  rw [run_call hk hc rfl hf]
  refine (hv w hm).mono ?_
  rintro e w' ⟨v, R', E', rfl, hR, hm', hp⟩
  obtain ⟨g1, g2, g3⟩ := h v R' E' hR hp
  simp only [hd]
  exact ⟨hm'.sub g1 g2, g3 _ _ (hk.putT hdn v) hm'⟩
theorem WS.callG {d : Nat} {f : FuncId} {vs : List Value} {Post : Value → Ro → List Ent → Prop} {i : Nat} (hi : ops.toArray[i]? = some o) (hf : Enters P f) (hg : gpc ops env o = some pc) (hpc : pc = true) (hd : o.dst = some d) (hdn : d < n)
    (hc : CallOp env o.op true f vs) (hv : Fn P f vs w0 R E Post)
    (h : ∀ v R' E', RLe R R' → Post v R' E' → RLe R0 R' ∧ ES.Sublist E' ∧ WA P ops Q ES R0 w0 fuel (listed.setIfInBounds i true) n ((d, true, v) :: env) R' E') : WS P ops Q ES R0 w0 fuel listed n env R E i := by
  intro a w hk hm
  unfold wpOp
  rw [hi]
  have hw := hk.wanted hg
  rw [hpc] at hw
  simp only [hw, if_true]
  left
  unfold Oper.wp
  rw [run_call hk hc rfl hf]
  refine (hv w hm).mono ?_
  rintro e w' ⟨v, R', E', rfl, hR, hm', hp⟩
  obtain ⟨g1, g2, g3⟩ := h v R' E' hR hp
  simp only [hd]
  exact ⟨hm'.sub g1 g2, g3 _ _ (hk.putT hdn v) hm'⟩
theorem WA.subE {E' : List Ent} (hE : E'.Sublist E) (h : WA P ops Q ES R0 w0 fuel listed n env R E') : WA P ops Q ES R0 w0 fuel listed n env R E := fun a w hk hm => h a w hk (hm.sub (RLe.refl R) hE)
theorem WA.freeze {α : Type} [_i : Inhabited α] {enc : α → List Value} {e : TypeId} {k : Nat} {a : Option Addr} {cap : Nat} {xs : List α} (i : Nat) (hE : E[i]? = some (.sl e k a cap (xs.map enc)))
    (h : ∀ R', RLe R R' → RS (_i := _i) R' k enc a xs → WA P ops Q ES R0 w0 fuel listed n env R' (E.eraseIdx i)) : WA P ops Q ES R0 w0 fuel listed n env R E := by
  intro ac w hk hm
  obtain ⟨R', hR, hrs, hm'⟩ := hm.freeze (_i := _i) hE
  exact h R' hR hrs ac w hk hm'
end
end Go.Proofs.Ytcfnckccmkjjlaa.K
