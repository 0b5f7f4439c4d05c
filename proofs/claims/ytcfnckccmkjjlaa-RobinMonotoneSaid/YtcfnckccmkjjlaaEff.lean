/- The rules of the walks, over any program: operations that make or write memory. No condition. -/
import Derived.Test.YtcfnckccmkjjlaaFlow
import Derived.Great.FillDense
namespace Go.Proofs.Ytcfnckccmkjjlaa.K
open Go Go.RowKit

section
variable {P : Program} {T : Tab} {n : Nat} {env : Env} {w0 : World} {R : Ro} {E : List Ent} {o : Oper} {K : Value → Ro → List Ent → Prop}

theorem split_at {α : Type} {l : List α} {i : Nat} {e : α} (h : l[i]? = some e) (e' : α) : l = l.take i ++ e :: l.drop (i + 1) ∧ l.set i e' = l.take i ++ e' :: l.drop (i + 1) := by
  have hlt : i < l.length := (List.getElem?_eq_some_iff.1 h).1
  constructor
  · have h2 : l.drop i = e :: l.drop (i + 1) := by
      rw [List.drop_eq_getElem_cons hlt]
      have := (List.getElem?_eq_some_iff.1 h).2
      rw [this]
    calc l = l.take i ++ l.drop i := (List.take_append_drop i l).symm
      _ = _ := by rw [h2]
  · exact List.set_eq_take_append_cons_drop (l := l) (i := i) (a := e') |>.trans (by rw [if_pos hlt])

theorem Mem.set {w w' : World} {i : Nat} {e e' : Ent} {row : Option Nat} (h : Mem w0 w R E) (hi : E[i]? = some e) (hg : w.grownBy w' row)
    (hrow : ∀ b, row = some b → e.block = some b) (hok : e'.ok w0.heap.size w') (hb : ∀ b, e'.block = some b → e.block = some b ∨ w.heap.size ≤ b) : Mem w0 w' R (E.set i e') := by
  obtain ⟨h1, h2⟩ := split_at hi e'
  rw [h2]
  rw [h1] at h
  exact h.change hg hrow hok hb

/-! ### new blocks -/
theorem Mem.alloc {w : World} {cs : List Value} {t : TypeId} (hm : Mem w0 w R E) : Mem w0 (w.alloc (.cells cs.toArray t)) R (.blk w.heap.size cs :: E) :=
  hm.new (World.grownBy_alloc w _ none) ⟨hm.below.size, t, heap_alloc_new w _⟩ (fun b hb => by simp [Ent.block] at hb; omega)

theorem Ef.alloc {t : TypeId} {d : TD} (hT : TabOk P T) (ho : o.op = .alloc t) (hd : T.at t = some d) (hK : ∀ b, K (.pointer (some ⟨b, 0, none⟩)) R (.blk b d.zero :: E)) : Ef P n env w0 R E o K := by
  intro a w hk hm
  obtain ⟨z, hz, hzc⟩ := run_zeroValue hT hd w
  refine ⟨_, w.alloc (.cells d.zero.toArray t), R, _, .inl ?_, hm.alloc, hK _⟩
  unfold execOp
  have hzc' : z.cells = d.zero.toArray := by rw [← hzc]
  simp [ho, Instr.alloc, hz, newVar, newRow, hzc']

theorem Ef.box {t : TypeId} {x : Operand} {v : Value} (ho : o.op = .box t x) (hx : ev env x = some (true, v)) (hK : ∀ b, K (.pointer (some ⟨b, 0, none⟩)) R (.blk b (vcells v) :: E)) : Ef P n env w0 R E o K := by
  intro a w hk hm
  refine ⟨_, w.alloc (.cells (vcells v).toArray t), R, _, .inl ?_, hm.alloc, hK _⟩
  unfold execOp
  have hzc' : v.cells = (vcells v).toArray := by rw [← vcells_eq]
  simp [ho, hk.ev hx rfl, Instr.box, newVar, newRow, hzc']

def cells1 (vs : List Value) : Bool := vs.all Value.oneCell'

/-! ### stores -/
theorem run_storeVar_at (hT : TabOk P T) {w : World} {g o : Nat} {e t : TypeId} {d : TD} {cur : Array Value} {v : Value} (hg : w.heap[g]? = some (.cells cur e (0, 0))) (hd : T.at t = some d)
    (hl : (vcells v).length = d.size) (hfit : o + d.size ≤ cur.size) (h1 : cells1 (vcells v) = true) :
    (storeVar t ⟨g, o, none⟩ v).run P w = .ok () (w.setRow g (setSeg cur.toList o (vcells v)).toArray) := by
  have hs := run_sizeOf hT hd w
  have hst := run_storeCells_at P g o e (vcells v) 0 cur w hg (by omega) (by simpa [cells1] using h1)
  simp only [Nat.add_zero] at hst
  have hc : v.cells.toList = vcells v := vcells_eq v
  have hsz : v.cells.size = d.size := by rw [← hl, ← hc, Array.length_toList]
  simp [storeVar, hs, hsz, hc, hst, setSeg]

theorem setSeg_length {cs : List Value} {off : Nat} {vs : List Value} (h : off + vs.length ≤ cs.length) : (setSeg cs off vs).length = cs.length := by
  simp [setSeg]; omega

theorem grownBy_setRow {w : World} (g : Nat) (cs : Array Value) : w.grownBy (w.setRow g cs) (some g) :=
  ⟨rfl, rfl, rfl, by simp, fun k _ hk => setRow_other w g k _ (fun e => hk (by rw [e]))⟩

/-- into a block -/
theorem Ef.store {t : TypeId} {x y : Operand} {b off : Nat} {cs : List Value} {v : Value} {d : TD} (i : Nat) (hT : TabOk P T) (ho : o.op = .store t x y) (hd : T.at t = some d)
    (hx : ev env x = some (true, .pointer (some ((⟨b, 0, none⟩ : Addr).add off)))) (hy : ev env y = some (true, v)) (hE : E[i]? = some (.blk b cs))
    (hl : Nat.beq (vcells v).length d.size = true) (hfit : Nat.ble (off + d.size) cs.length = true) (h1 : cells1 (vcells v) = true)
    (hK : K undef R (E.set i (.blk b (setSeg cs off (vcells v))))) : Ef P n env w0 R E o K := by
  intro a w hk hm
  have hl := beq_true hl
  have hfit := Nat.le_of_ble_eq_true hfit
  obtain ⟨hbase, e, hb⟩ := hm.own _ (mem_of_get hE)
  have hst := run_storeVar_at (P := P) hT (o := off) hb hd hl (by simpa using hfit) h1
  refine ⟨undef, w.setRow b (setSeg cs off (vcells v)).toArray, R, _, .inr ⟨?_, rfl⟩, hm.set (e' := .blk b (setSeg cs off (vcells v))) hE (grownBy_setRow b _) (fun _ h => h) ⟨hbase, e, ?_⟩ (fun _ h => .inl h), hK⟩
  · unfold execOp
    have ha : (⟨b, 0, none⟩ : Addr).add off = ⟨b, off, none⟩ := by rw [addr_add_mk]; simp
    simp [ho, hk.ev hx rfl, hk.ev hy rfl, Instr.storeAt, Instr.sureAddr, ha, hst]
  · exact setRow_heap w b _ _ e _ hb
/-- into a block, from its head on -/
theorem Ef.store0 {t : TypeId} {x y : Operand} {b : Nat} {cs : List Value} {v : Value} {d : TD} (i : Nat) (hT : TabOk P T) (ho : o.op = .store t x y) (hd : T.at t = some d)
    (hx : ev env x = some (true, .pointer (some ⟨b, 0, none⟩))) (hy : ev env y = some (true, v)) (hE : E[i]? = some (.blk b cs))
    (hl : Nat.beq (vcells v).length d.size = true) (hfit : Nat.ble d.size cs.length = true) (h1 : cells1 (vcells v) = true)
    (hK : K undef R (E.set i (.blk b (setSeg cs 0 (vcells v))))) : Ef P n env w0 R E o K :=
  Ef.store (off := 0) i hT ho hd (by simpa [Addr.add] using hx) hy hE hl (by simpa using hfit) h1 hK

theorem ok_sl {w : World} {base g : Nat} {e : TypeId} {k cap : Nat} {rows : List (List Value)} {cur : Array Value} (hr : ∀ r ∈ rows, r.length = k) (hk : 0 < k) (hb : base ≤ g) (hg : w.heap[g]? = some (.cells cur e (0, 0)))
    (hn : rows.length ≤ cap) (hc : cap ≤ maxLen) (hs : cur.size = cap * k) (ht : cur.toList.take (rows.length * k) = rows.flatten) : (Ent.sl e k (some ⟨g, 0, none⟩) cap rows).ok base w :=
  ⟨hr, hk, flatten_len hr, .inr ⟨g, cap, cur, rfl, hb, hg, hn, hc, hs, ht⟩⟩

theorem setSeg_rows {k : Nat} : ∀ {rows : List (List Value)}, (∀ r ∈ rows, r.length = k) → ∀ {j off : Nat} {row vs : List Value}, rows[j]? = some row → off + vs.length ≤ k →
    setSeg rows.flatten (j * k + off) vs = (rows.set j (setSeg row off vs)).flatten
  | r :: rows, hk, j, off, row, vs, hr, hv => by
    have hrk := hk r (by simp)
    cases j with
    | zero =>
      simp only [List.getElem?_cons_zero, Option.some.injEq] at hr
      subst hr
      simp only [List.flatten_cons, List.set_cons_zero, Nat.zero_mul, Nat.zero_add, setSeg]
      rw [List.take_append_of_le_length (by omega), List.drop_append_of_le_length (by omega)]
      simp
    | succ j =>
      simp only [List.getElem?_cons_succ] at hr
      have ih := setSeg_rows (fun r hr => hk r (by simp [hr])) hr hv
      simp only [List.flatten_cons, List.set_cons_succ]
      rw [← ih]
      unfold setSeg
      have e1 : (j + 1) * k + off = r.length + (j * k + off) := by rw [hrk, Nat.add_mul]; omega
      have e2 : (j + 1) * k + off + vs.length = r.length + (j * k + off + vs.length) := by rw [hrk, Nat.add_mul]; omega
      rw [e2, e1, List.take_length_add_append, List.drop_length_add_append]
      simp

/-- into an element of a slice of one's own -/
theorem Ef.storeSl {t e : TypeId} {x y : Operand} {k j off cap : Nat} {a : Option Addr} {rows : List (List Value)} {row : List Value} {v : Value} {d : TD} (i : Nat) (hT : TabOk P T) (ho : o.op = .store t x y) (hd : T.at t = some d)
    (hx : ev env x = some (true, .pointer (some ((eaddr a k j).add off)))) (hy : ev env y = some (true, v)) (hE : E[i]? = some (.sl e k a cap rows)) (hr : rows[j]? = some row)
    (hl : (vcells v).length = d.size) (hfit : off + d.size ≤ k) (h1 : cells1 (vcells v) = true)
    (hK : K undef R (E.set i (.sl e k a cap (rows.set j (setSeg row off (vcells v)))))) : Ef P n env w0 R E o K := by
  intro ac w hk hm
  obtain ⟨h0, hk0, h2⟩ := own_sl hm (mem_of_get hE)
  have hj : j < rows.length := (List.getElem?_eq_some_iff.1 hr).1
  rcases h2 with ⟨_, rfl, _⟩ | ⟨g, cur, rfl, hbase, hh, hn, hc, hs, ht⟩
  · simp at hr
  · have hjk : j * k + k ≤ rows.length * k := by
      have := Nat.mul_le_mul_right k (show j + 1 ≤ rows.length by omega)
      rw [Nat.add_mul] at this; omega
    have hck : rows.length * k ≤ cap * k := Nat.mul_le_mul_right k hn
    have hst := run_storeVar_at (P := P) hT (o := j * k + off) hh hd hl (by omega) h1
    have hrow : row.length = k := h0 row (List.mem_of_getElem? hr)
    refine ⟨undef, w.setRow g (setSeg cur.toList (j * k + off) (vcells v)).toArray, R, _, .inr ⟨?_, rfl⟩, hm.set hE (grownBy_setRow g _) (fun _ h => by simpa [Ent.block] using h) (ok_sl (rows := rows.set j (setSeg row off (vcells v))) ?_ hk0 hbase (setRow_heap w g cur _ e _ hh) (by simpa using hn) hc ?_ ?_) (fun _ h => .inl h), hK⟩
    · unfold execOp
      have ha : ((eaddr (some ⟨g, 0, none⟩) k j).add off) = ⟨g, j * k + off, none⟩ := by simp only [eaddr, Option.getD_some, addr_add_mk]; simp
      simp [ho, hk.ev hx rfl, hk.ev hy rfl, Instr.storeAt, Instr.sureAddr, ha, hst]
    · intro r hrr
      rcases List.mem_or_eq_of_mem_set hrr with h | rfl
      · exact h0 r h
      · rw [setSeg_length (by omega)]; exact hrow
    · simp only [List.size_toArray]; rw [setSeg_length (by simp; omega)]; simpa using hs
    · have hlen : (vcells v).length ≤ k := by omega
      rw [List.length_set, ← setSeg_rows h0 hr (by omega), ← ht]
      unfold setSeg
      apply List.ext_getElem?
      intro m
      simp only [List.getElem?_take, List.getElem?_append, List.getElem?_drop, List.length_take, List.length_append, Array.length_toList]
      have hcs : cur.size = cap * k := hs
      by_cases hm1 : m < rows.length * k
      · simp only [hm1, if_true]
        have e1 : min (j * k + off) cur.size = j * k + off := by omega
        have e2 : min (j * k + off) (min (rows.length * k) cur.size) = j * k + off := by omega
        rw [e1, e2]
        by_cases hm2 : m < j * k + off + (vcells v).length
        · simp only [hm2, if_true]
        · simp only [hm2, if_false]
          have e3 : j * k + off + (vcells v).length + (m - (j * k + off + (vcells v).length)) = m := by omega
          rw [e3]; simp [hm1]
      · simp only [hm1, if_false]
        have e2 : min (j * k + off) (min (rows.length * k) cur.size) = j * k + off := by omega
        rw [e2]
        have e4 : ¬ m < j * k + off + (vcells v).length := by omega
        simp only [e4, if_false]
        have e3 : j * k + off + (vcells v).length + (m - (j * k + off + (vcells v).length)) = m := by omega
        rw [e3]; simp [hm1]

theorem Ef.storeSl0 {t e : TypeId} {x y : Operand} {k j cap : Nat} {a : Option Addr} {rows : List (List Value)} {row : List Value} {v : Value} {d : TD} (i : Nat) (hT : TabOk P T) (ho : o.op = .store t x y) (hd : T.at t = some d)
    (hx : ev env x = some (true, .pointer (some (eaddr a k j)))) (hy : ev env y = some (true, v)) (hE : E[i]? = some (.sl e k a cap rows)) (hr : rows[j]? = some row)
    (hl : (vcells v).length = d.size) (hfit : d.size ≤ k) (h1 : cells1 (vcells v) = true)
    (hK : K undef R (E.set i (.sl e k a cap (rows.set j (setSeg row 0 (vcells v)))))) : Ef P n env w0 R E o K :=
  Ef.storeSl (off := 0) i hT ho hd (by simpa [Addr.add] using hx) hy hE hr hl (by omega) h1 hK

theorem map_set' {α β : Type} (f : α → β) (l : List α) (i : Nat) (x : α) : (l.map f).set i (f x) = (l.set i x).map f := by
  rw [List.map_set]

/-- an element of a slice of one's own is replaced whole -/
theorem Ef.storeD {α : Type} {enc : α → List Value} {t e : TypeId} {x y : Operand} {k j cap : Nat} {a : Option Addr} {xs : List α} (u : α) {v : Value} {d : TD} (i : Nat) (hT : TabOk P T) (ho : o.op = .store t x y) (hd : T.at t = some d)
    (hx : ev env x = some (true, .pointer (some (eaddr a k j)))) (hy : ev env y = some (true, v)) (hE : E[i]? = some (.sl e k a cap (xs.map enc))) (hj : j < xs.length)
    (hu : vcells v = enc u) (hl : (enc u).length = k) (hk : d.size = k) (h1 : cells1 (enc u) = true)
    (hK : K undef R (E.set i (.sl e k a cap ((xs.set j u).map enc)))) : Ef P n env w0 R E o K := by
  intro ac w hkn hm
  have h0 := (own_sl hm (mem_of_get hE)).1
  have hrow : (enc (xs[j])).length = k := h0 _ (List.mem_map.2 ⟨xs[j], List.getElem_mem hj, rfl⟩)
  refine Ef.storeSl0 (row := enc xs[j]) i hT ho hd hx hy hE (by simp [hj]) (by rw [hu]; omega) (by omega) (by rw [hu]; exact h1) ?_ ac w hkn hm
  have e1 : setSeg (enc xs[j]) 0 (vcells v) = enc u := by
    unfold setSeg
    rw [hu]
    simp only [List.take_zero, List.nil_append, Nat.zero_add]
    rw [List.drop_eq_nil_of_le (by omega)]
    simp
  rw [e1, map_set']
  exact hK

/-! ### literals -/
def buildCells (fs : List (Nat × Nat)) : List Value → List (Nat × List Value) → Option (List Value)
  | cs, [] => some cs
  | cs, (i, vs) :: r =>
    match fs[i]? with
    | some (off, sz) => bif Nat.beq vs.length sz && Nat.ble (off + sz) cs.length then buildCells fs (setSeg cs off vs) r else none
    | none => none

theorem setSeg_foldl (off : Nat) (vs : List Value) (cs : Array Value) (h : off + vs.length ≤ cs.size) :
    ((vs.zipIdx 0).foldl (fun cs (x : Value × Nat) => cs.setIfInBounds (off + x.2) x.1) cs) = (setSeg cs.toList off vs).toArray := by
  obtain ⟨h1, h2⟩ := Great.foldl_set off vs 0 cs
  apply Array.ext_getElem?
  intro k
  rw [h2 k]
  simp only [Nat.add_zero, setSeg, List.getElem?_toArray]
  simp only [List.getElem?_append, List.getElem?_take, List.getElem?_drop, List.length_append, List.length_take, Array.length_toList]
  have e1 : min off cs.size = off := by omega
  rw [e1]
  by_cases hk : k < off + vs.length
  · by_cases hk2 : k < off
    · rw [if_neg (by omega)]; simp [hk, hk2]
    · rw [if_pos (by omega)]; simp [hk, hk2]
  · rw [if_neg (by omega)]
    simp only [hk, if_false]
    rw [show off + vs.length + (k - (off + vs.length)) = k by omega]
    simp

theorem fill_build {fs : List (Nat × Nat)} : ∀ {parts : List (Nat × Value)} {cs cs' : List Value}, buildCells fs cs (parts.map fun x => (x.1, vcells x.2)) = some cs' →
    Instr.fill (fs.toArray[·]?) cs.toArray parts = some cs'.toArray
  | [], cs, cs', h => by simp [buildCells] at h; subst h; rfl
  | (i, v) :: r, cs, cs', h => by
    simp only [List.map_cons, buildCells] at h
    split at h
    · rename_i off sz hf
      cases hc : (Nat.beq (vcells v).length sz && Nat.ble (off + sz) cs.length) with
      | false => simp [hc] at h
      | true =>
        simp only [hc, cond_true] at h
        obtain ⟨c1, c2⟩ := and_both hc
        have c1 := beq_true c1
        have c2 : off + sz ≤ cs.length := Nat.le_of_ble_eq_true c2
        have hsz : v.cells.size = sz := by rw [← c1, ← vcells_eq, Array.length_toList]
        unfold Instr.fill
        simp only [List.getElem?_toArray, hf, hsz]
        rw [if_neg (by simp; omega)]
        have e1 : (v.cells.zipIdx.foldl (fun cs (x : Value × Nat) => cs.setIfInBounds (off + x.2) x.1) cs.toArray) = (setSeg cs off (vcells v)).toArray := by
          rw [← Array.foldl_toList, Array.toList_zipIdx, vcells_eq]
          exact setSeg_foldl off (vcells v) cs.toArray (by simp; omega)
        have e2 := fill_build h
        simp only [List.getElem?_toArray] at e2
        rw [← e2, ← e1]
    · cases h

def evParts (env : Env) : List (Nat × Operand) → Option (Bool × List (Nat × Value))
  | [] => some (true, [])
  | (i, x) :: xs => match ev env x, evParts env xs with
    | some (p, v), some (q, vs) => some (p && q, (i, v) :: vs)
    | _, _ => none
theorem evParts_ok {a : Act} (hk : Kn n env a) : ∀ {xs : List (Nat × Operand)} {vs : List (Nat × Value)} {q : Bool}, evParts env xs = some (q, vs) → q = true → xs.map (fun x => (x.1, a.eval x.2)) = vs
  | [], vs, q, h, hq => by simp only [evParts, Option.some.injEq, Prod.mk.injEq] at h; rw [← h.2]; rfl
  | (i, x) :: xs, vs, q, h, hq => by
    simp only [evParts] at h
    split at h
    · rename_i p v q' vs' hx hxs
      simp only [Option.some.injEq, Prod.mk.injEq] at h
      obtain ⟨rfl, rfl⟩ := h
      obtain ⟨h1, h2⟩ := and_both hq
      simp [hk.ev hx h1, evParts_ok hk hxs h2]
    · cases h

theorem mapM_fields {w : World} : ∀ (l : List Field), (∀ f ∈ l, ∃ i, P.info? f.type = some i) →
    (l.mapM (m := Sem) fun f => do pure (f.offset, ← sizeOf f.type)).run P w = .ok (l.map fun f => (f.offset, P.cellsOf f.type)) w
  | [], _ => by simp
  | f :: l, h => by
    obtain ⟨i, hi⟩ := h f (by simp)
    have ih := mapM_fields (w := w) l (fun g hg => h g (by simp [hg]))
    rw [List.mapM_cons]
    have : (sizeOf f.type).run P w = .ok (P.cellsOf f.type) w := by simp [sizeOf, typeInfo, hi, Program.cellsOf]
    simp only [Sem.run_bind, this, Result.andThen_ok, Sem.run_pure, ih, List.map_cons]

/-- a struct's literal; 'hin': the fields' types are there -/
theorem Yl.build {t : TypeId} {parts : List (Nat × Operand)} {d : TD} {fs : List (Nat × Nat)} {vs : List (Nat × Value)} {cs : List Value} {pc q : Bool} (hT : TabOk P T) (ho : o.op = .build t parts.toArray) (hd : T.at t = some d) (hk : d.k = .strct fs)
    (hv : evParts env parts = some (q, vs)) (hq : pc = true → q = true) (hin : fs.all (fun x => Nat.blt 0 x.2) = true) (hb : buildCells fs d.zero (vs.map fun x => (x.1, vcells x.2)) = some cs) : Yl P n env w0 R E o pc (.agg cs.toArray) := by
  intro a w hkn hm hpc
  obtain ⟨ff, hu, hmap⟩ := hT.strct hd hk
  obtain ⟨z, hz, hzc⟩ := run_zeroValue hT hd w
  have hzc' : z.cells = d.zero.toArray := by rw [← hzc]
  have hp := evParts_ok hkn hv (hq hpc)
  have hpl := fill_build (fs := fs) (parts := vs) (cs := d.zero) (cs' := cs) hb
  have hfields := mapM_fields (P := P) (w := w) ff.toList (fun f hf => by
    have hmem : (f.offset, P.cellsOf f.type) ∈ fs := by rw [← hmap]; exact List.mem_map_of_mem (f := fun f : Field => (f.offset, P.cellsOf f.type)) hf
    have := List.all_eq_true.1 hin _ hmem
    have hpos : 0 < P.cellsOf f.type := by simpa [Nat.blt_eq] using this
    unfold Program.cellsOf at hpos
    cases hi : P.info? f.type with
    | none => simp [hi] at hpos
    | some i => exact ⟨i, rfl⟩)
  rw [hmap] at hfields
  unfold execOp
  simp only [ho, Instr.build, Sem.run_bind, hz, Result.andThen_ok, underlying, run_program, hu, hzc', Sem.run_pure, List.map_toArray]
  rw [← Array.toArray_toList (xs := ff)]
  simp only [List.mapM_toArray, Sem.run_map, hfields, Result.andThen_ok]
  simp only [hp, hpl, Sem.run_pure, Result.andThen_ok]

/-- a slice's literal, all elements written -/
theorem Ef.buildSlice {t e : TypeId} {len : Nat} {parts : List Operand} {d d2 : TD} {vs : List Value} (hT : TabOk P T) (ho : o.op = .buildSlice t len ((parts.zipIdx 0).map fun x => (x.2, x.1)).toArray) (hd : T.at t = some d) (hk : d.k = .slice e) (hd2 : T.at e = some d2)
    (hv : evs env parts = some (true, vs)) (hlen : parts.length = len) (hsz : vs.all (fun v => Nat.beq (vcells v).length d2.size) = true) (hpos : 0 < d2.size) (hsmall : len * d2.size ≤ 16777216)
    (hK : ∀ g : Nat, K (.slice (some ⟨g, 0, none⟩) len len) R (.sl e d2.size (some ⟨g, 0, none⟩) len (vs.map vcells) :: E)) : Ef P n env w0 R E o K := by
  intro a w hkn hm
  have hp := evs_ok hkn hv rfl
  have hvl : vs.length = len := by rw [← hp]; simpa using hlen
  have hs : ∀ v ∈ vs, v.cells.size = d2.size := fun v hv => by
    have := beq_true (List.all_eq_true.1 hsz v hv)
    rw [← this, ← vcells_eq, Array.length_toList]
  have hrows : ∀ r ∈ vs.map vcells, r.length = d2.size := fun r hr => by
    obtain ⟨v, hv, rfl⟩ := List.mem_map.1 hr
    exact beq_true (List.all_eq_true.1 hsz v hv)
  have hflat : (vs.flatMap fun v => v.cells.toList) = (vs.map vcells).flatten := by
    rw [List.flatMap_def]; congr 1; apply List.map_congr_left; intro v _; exact vcells_eq v
  have hfl : (vs.map vcells).flatten.length = len * d2.size := by rw [flatten_len hrows]; simp [hvl]
  have hsize := run_sizeOf hT hd2 w
  obtain ⟨z, hz, hzc⟩ := run_zeroValue hT hd2 w
  have hparts : (((parts.zipIdx 0).map fun x => (x.2, x.1)).toArray.map fun x => (x.1, a.eval x.2)).toList = (vs.zipIdx 0).map fun x => (x.2, x.1) := by
    rw [← hp]
    simp [List.zipIdx_map, Function.comp_def]
  have hmaxlen : len ≤ maxLen := by
    have := Nat.le_mul_of_pos_right len hpos
    simp only [maxLen]; omega
  refine ⟨_, w.alloc (.cells (vs.map vcells).flatten.toArray e), R, _, .inl ?_, hm.new (World.grownBy_alloc w _ none) (ok_sl (g := w.heap.size) hrows hpos hm.below.size (heap_alloc_new w _) (by simp [hvl]) hmaxlen (by simpa using hfl) ?_) (fun b hb => by simp [Ent.block] at hb; omega), hK _⟩
  · unfold execOp
    have hnb : ¬ (16777216 < len * d2.size) := by omega
    by_cases h0 : len * d2.size = 0
    · have hl0 : len = 0 := by
        rcases Nat.mul_eq_zero.1 h0 with h | h
        · exact h
        · omega
      subst hl0
      have hvn : vs = [] := List.eq_nil_of_length_eq_zero hvl
      have hpn : parts = [] := List.eq_nil_of_length_eq_zero hlen
      subst hvn hpn
      simp [ho, Instr.buildSlice, underlying, hT.slice hd hk, hsize, Instr.fill, newRow, Array.range_zero']
    · have hfill := Great.fill_whole hpos vs ((Array.range (len * d2.size)).map (z.cells[· % z.cells.size]!)) hs (by simp [hvl])
      rw [hflat] at hfill
      simp only [ho, Instr.buildSlice, underlying, run_program, hT.slice hd hk, Sem.run_bind, Sem.run_pure, Result.andThen_ok, hsize, Sem.run_ite, gt_iff_lt, Nat.reducePow, hnb, h0, if_false, hz, hparts, hfill, newRow, run_newObj]
      rfl
  · simp only [List.length_map, hvl]
    exact List.take_of_length_le (Nat.le_of_eq hfl)

theorem madeCells_flat (z : Array Value) (hz : 0 < z.size) (m : Nat) : (madeCells z (m * z.size)).toList = (List.replicate m z.toList).flatten := by
  apply List.ext_getElem?
  intro j
  have hlen : (List.replicate m z.toList).flatten.length = m * z.size := by simp
  by_cases hj : j < m * z.size
  · have h1 : (madeCells z (m * z.size)).toList[j]? = some (z[j % z.size]!) := by
      simp [madeCells, hj]
    rw [h1]
    have hr : (List.replicate m z.toList)[j / z.size]? = some z.toList := by
      rw [List.getElem?_replicate, if_pos (Nat.div_lt_of_lt_mul (by rw [Nat.mul_comm]; exact hj))]
    have hmod : j % z.size < z.size := Nat.mod_lt _ hz
    have hv : z.toList[j % z.size]? = some (z[j % z.size]!) := by
      rw [Array.getElem?_toList, getElem!_pos z _ hmod]; simp [hmod]
    have := flatten_get (k := z.size) (rows := List.replicate m z.toList) (fun r hr => by rw [List.eq_of_mem_replicate hr]; simp) hr hv
    rw [show j / z.size * z.size + j % z.size = j by rw [Nat.mul_comm]; exact Nat.div_add_mod j z.size] at this
    exact this.symm
  · rw [List.getElem?_eq_none (by simp [madeCells]; omega), List.getElem?_eq_none (by omega)]

/-- make([]T, l, c) -/
theorem Ef.makeSlice {t e : TypeId} {x y : Operand} {l c : Int} {d d2 : TD} (hT : TabOk P T) (ho : o.op = .makeSlice t x y) (hd : T.at t = some d) (hk : d.k = .slice e) (hd2 : T.at e = some d2)
    (hx : ev env x = some (true, .int .i64 l)) (hy : ev env y = some (true, .int .i64 c)) (h0 : 0 ≤ l) (hlc : l ≤ c) (hb : (d2.bytes : Int) * c ≤ 281474976710656) (hmax : c ≤ 9223372036854775807) (hpos : 0 < d2.size) (hz1 : d2.zero.length = d2.size)
    (hK : ∀ g : Nat, K (.slice (some ⟨g, 0, none⟩) l.toNat c.toNat) R (.sl e d2.size (some ⟨g, 0, none⟩) c.toNat (List.replicate l.toNat d2.zero) :: E)) : Ef P n env w0 R E o K := by
  intro a w hkn hm
  obtain ⟨i, z, hi, hz, hzc, hsz, hby⟩ := hT.info hd2
  have hr := run_make (P := P) w t e i z (hT.slice hd hk) hi hz .i64 .i64 l c h0 hlc (by rw [hby]; exact hb) hmax
  have hzs : z.cells.size = d2.size := by rw [← hz1, ← hzc, Array.length_toList]
  have hflat := madeCells_flat z.cells (by omega) c.toNat
  rw [hzs, hzc] at hflat
  rw [hsz] at hr
  have hle : l.toNat ≤ c.toNat := by omega
  refine ⟨.slice (some ⟨w.heap.size, 0, none⟩) l.toNat c.toNat, w.alloc (.cells (madeCells z.cells (c.toNat * d2.size)) e), R, _, .inl ?_, hm.new (World.grownBy_alloc w _ none) (ok_sl (g := w.heap.size) (rows := List.replicate l.toNat d2.zero) (fun r hr => by rw [List.eq_of_mem_replicate hr]; exact hz1) hpos hm.below.size (heap_alloc_new w _) (cap := c.toNat) (by simpa using hle) (by simp only [maxLen]; omega) (size_madeCells _ _) ?_) (fun b hb => by simp [Ent.block] at hb; omega), ?_⟩
  · unfold execOp
    simp only [ho, hkn.ev hx rfl, hkn.ev hy rfl, Sem.run_bind, hr, Result.andThen_ok, Sem.run_pure]
  · rw [hflat]
    simp only [List.length_replicate]
    have e1 : c.toNat = l.toNat + (c.toNat - l.toNat) := by omega
    rw [e1, ← List.replicate_append_replicate, List.flatten_append, List.take_left' (by simp [hz1])]
  · simpa using hK w.heap.size

/-- a nil slice is one's own -/
theorem Mem.nil {w : World} (hm : Mem w0 w R E) (e : TypeId) {k : Nat} (hk : 0 < k) : Mem w0 w R (.sl e k none 0 [] :: E) :=
  hm.new ⟨rfl, rfl, rfl, Nat.le_refl _, fun _ _ _ => rfl⟩ ⟨by simp, hk, by simp, .inl ⟨rfl, rfl⟩⟩ (fun b hb => by simp [Ent.block] at hb)

end
