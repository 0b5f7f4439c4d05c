/- The rules of the walks, over any program: operations that only compute or read. No condition. -/
import Derived.Test.YtcfnckccmkjjlaaBase
namespace Go.Proofs.Ytcfnckccmkjjlaa.K
open Go Go.RowKit

section
variable {P : Program} {T : Tab}

/-- an operation that yields this value and leaves the world -/
def Yl (P : Program) (n : Nat) (env : Env) (w0 : World) (R : Ro) (E : List Ent) (o : Oper) (pc : Bool) (v : Value) : Prop :=
  ∀ a w, Kn n env a → Mem w0 w R E → pc = true → (execOp a.eval o).run P w = .ok (.value v) w

def cmpI (op : BinOp) (a b : Int) : Option Value :=
  match op with
  | .eql => some (.bool (a == b))
  | .neq => some (.bool (a != b))
  | .lss => some (.bool (decide (a < b)))
  | .leq => some (.bool (decide (a ≤ b)))
  | .gtr => some (.bool (decide (a > b)))
  | .geq => some (.bool (decide (a ≥ b)))
  | _ => none

def setSeg (cs : List Value) (off : Nat) (vs : List Value) : List Value := cs.take off ++ vs ++ cs.drop (off + vs.length)
def vcells : Value → List Value
  | .agg cs => cs.toList
  | v => [v]
theorem vcells_eq (v : Value) : v.cells.toList = vcells v := by cases v <;> rfl

/-- what the pure operations yield -/
def pureV (T : Tab) (env : Env) : Op → Option (Bool × Value)
  | .move x => ev env x
  | .assign x => ev env x
  | .binOp op _ x y _ =>
    match ev env x, ev env y with
    | some (p, .int k a), some (q, .int k' b) => if k = k' then (cmpI op a b).map (p && q, ·) else none
    | _, _ => none
  | .unOp op _ x =>
    match op, ev env x with
    | .not, some (p, .bool b) => some (p, .bool !b)
    | _, _ => none
  | .fieldAddr t x f =>
    match T.at t, ev env x with
    | some d, some (p, .pointer (some a)) =>
      match d.k with
      | .strct fs => match fs[f]? with
        | some (off, sz) => match sz with
          | 0 => none
          | _ + 1 => some (p, .pointer (some (a.add off)))
        | none => none
      | _ => none
    | _, _ => none
  | .nilCheck x =>
    match ev env x with
    | some (p, .pointer (some a)) => some (p, .pointer (some a))
    | _ => none
  | .extract x i =>
    match ev env x with
    | some (p, .tuple vs) => (vs.toList[i]?).map (p, ·)
    | _ => none
  | .makeFunc fn first captured =>
    match first.toList, captured.toList with
    | [], [] => some (true, .func fn #[] #[])
    | [x], [] => match ev env x with | some (p, v) => some (p, .func fn #[v] #[]) | none => none
    | [], [x] => match ev env x with | some (p, v) => some (p, .func fn #[] #[v]) | none => none
    | [], [x, y] => match ev env x, ev env y with | some (p, v), some (q, u) => some (p && q, .func fn #[] #[v, u]) | _, _ => none
    | [], [x, y, z] => match ev env x, ev env y, ev env z with | some (p, v), some (q, u), some (r, t) => some (p && q && r, .func fn #[] #[v, u, t]) | _, _, _ => none
    | _, _ => none
  | .call c =>
    match c.callee, c.args.toList, c.argTypes.toList with
    | .builtin .len, [x], [t] =>
      match T.at t, ev env x with
      | some d, some (p, .slice _ n _) => match d.k with | .slice _ => some (p, .int .i64 n) | _ => none
      | some d, some (p, .string s) => match d.k with | .str => some (p, .int .i64 s.size) | _ => none
      | _, _ => none
    | .builtin .min, [x, y], _ =>
      match ev env x, ev env y with
      | some (p, .int k a), some (q, .int _ b) => some (p && q, .int k (if b < a then b else a))
      | _, _ => none
    | .builtin .max, [x, y], _ =>
      match ev env x, ev env y with
      | some (p, .int k a), some (q, .int _ b) => some (p && q, .int k (if a < b then b else a))
      | _, _ => none
    | _, _, _ => none
  | _ => none

theorem run_fieldPlace {w : World} {a : Addr} {f : Field} {n : Nat} (h : P.cellsOf f.type = n + 1) : (fieldPlace a f).run P w = .ok (a.add f.offset) w := by
  unfold Program.cellsOf at h
  cases hi : P.info? f.type with
  | none => simp [hi] at h
  | some i =>
    simp [hi] at h
    simp [fieldPlace, sizeOf, typeInfo, hi, h]

theorem and_both {p q : Bool} (h : (p && q) = true) : p = true ∧ q = true := by cases p <;> cases q <;> simp_all

theorem pureV_ok (hT : TabOk P T) {n : Nat} {env : Env} {w0 : World} {R : Ro} {E : List Ent} {o : Oper} {pc q : Bool} {v : Value} (hv : pureV T env o.op = some (q, v)) (hq : pc = true → q = true) :
    Yl P n env w0 R E o pc v := by
  intro a w hk hm hp
  have hq := hq hp
  obtain ⟨dst, op, ty, pos, after, guard⟩ := o
  simp only at hv
  cases op with
  | move x => simp [execOp, hk.ev hv hq]
  | assign x => simp [execOp, hk.ev hv hq]
  | binOp op xt x y yt =>
    simp only [pureV] at hv
    split at hv
    · rename_i p k a' q' k' b hx hy
      split at hv
      · rename_i hkk
        subst hkk
        cases hc : cmpI op a' b with
        | none => simp [hc] at hv
        | some u =>
          simp only [hc, Option.map_some, Option.some.injEq, Prod.mk.injEq] at hv
          obtain ⟨rfl, rfl⟩ := hv
          obtain ⟨hp1, hp2⟩ := and_both hq
          have e1 := hk.ev hx hp1
          have e2 := hk.ev hy hp2
          unfold execOp
          simp only [e1, e2]
          cases op <;> simp [cmpI] at hc <;> subst hc <;> simp [eqGuard, binOp, Op.intCmp]
      · cases hv
    · cases hv
  | unOp op xt x =>
    simp only [pureV] at hv
    split at hv
    · rename_i p b hx
      simp only [Option.some.injEq, Prod.mk.injEq] at hv
      obtain ⟨rfl, rfl⟩ := hv
      simp [execOp, hk.ev hx hq, Op.unary]
    · cases hv
  | fieldAddr t x f =>
    simp only [pureV] at hv
    split at hv
    · rename_i d p ad hd hx
      split at hv
      · rename_i fs hfs
        split at hv
        · rename_i off sz hff
          split at hv
          · cases hv
          · rename_i m
            simp only [Option.some.injEq, Prod.mk.injEq] at hv
            obtain ⟨rfl, rfl⟩ := hv
            obtain ⟨ff, hu, hmap⟩ := hT.strct hd hfs
            rw [← hmap] at hff
            rw [List.getElem?_map, Array.getElem?_toList] at hff
            cases hfi : ff[f]? with
            | none => simp [hfi] at hff
            | some fl =>
              simp only [hfi, Option.map_some, Option.some.injEq, Prod.mk.injEq] at hff
              obtain ⟨rfl, hsz⟩ := hff
              have hpl := run_fieldPlace (P := P) (w := w) (a := ad) hsz
              simp [execOp, hk.ev hx hq, Instr.fieldAt, underlying, hu, hfi, Instr.sureAddr, hpl]
        · cases hv
      · cases hv
    · cases hv
  | nilCheck x =>
    simp only [pureV] at hv
    split at hv
    · rename_i p ad hx
      simp only [Option.some.injEq, Prod.mk.injEq] at hv
      obtain ⟨rfl, rfl⟩ := hv
      simp [execOp, hk.ev hx hq]
    · cases hv
  | extract x i =>
    simp only [pureV] at hv
    split at hv
    · rename_i p vs hx
      cases hvi : vs[i]? with
      | none => simp [hvi] at hv
      | some u =>
        simp [hvi] at hv
        obtain ⟨rfl, rfl⟩ := hv
        simp [execOp, hk.ev hx hq, Instr.extract, hvi]
    · cases hv
  | makeFunc fn first captured =>
    simp only [pureV] at hv
    split at hv
    · rename_i h1 h2
      have h1 : first = #[] := by simpa using h1
      have h2 : captured = #[] := by simpa using h2
      subst h1 h2
      simp only [Option.some.injEq, Prod.mk.injEq] at hv
      obtain ⟨rfl, rfl⟩ := hv
      simp [execOp, Instr.makeFunc]
    · rename_i x h1 h2
      have h1 : first = #[x] := by rw [← Array.toArray_toList (xs := first), h1]
      have h2 : captured = #[] := by simpa using h2
      subst h1 h2
      split at hv
      · rename_i p u hx
        simp only [Option.some.injEq, Prod.mk.injEq] at hv
        obtain ⟨rfl, rfl⟩ := hv
        simp [execOp, Instr.makeFunc, hk.ev hx hq]
      · cases hv
    · rename_i x h1 h2
      have h1 : first = #[] := by simpa using h1
      have h2 : captured = #[x] := by rw [← Array.toArray_toList (xs := captured), h2]
      subst h1 h2
      split at hv
      · rename_i p u hx
        simp only [Option.some.injEq, Prod.mk.injEq] at hv
        obtain ⟨rfl, rfl⟩ := hv
        simp [execOp, Instr.makeFunc, hk.ev hx hq]
      · cases hv
    · rename_i x y h1 h2
      have h1 : first = #[] := by simpa using h1
      have h2 : captured = #[x, y] := by rw [← Array.toArray_toList (xs := captured), h2]
      subst h1 h2
      split at hv
      · rename_i p u q' u' hx hy
        simp only [Option.some.injEq, Prod.mk.injEq] at hv
        obtain ⟨rfl, rfl⟩ := hv
        obtain ⟨hp1, hp2⟩ := and_both hq
        simp [execOp, Instr.makeFunc, hk.ev hx hp1, hk.ev hy hp2]
      · cases hv
    · rename_i x y z h1 h2
      have h1 : first = #[] := by simpa using h1
      have h2 : captured = #[x, y, z] := by rw [← Array.toArray_toList (xs := captured), h2]
      subst h1 h2
      split at hv
      · rename_i p u q' u' r' u'' hx hy hz
        simp only [Option.some.injEq, Prod.mk.injEq] at hv
        obtain ⟨rfl, rfl⟩ := hv
        obtain ⟨hp12, hp3⟩ := and_both hq
        obtain ⟨hp1, hp2⟩ := and_both hp12
        simp [execOp, Instr.makeFunc, hk.ev hx hp1, hk.ev hy hp2, hk.ev hz hp3]
      · cases hv
    · cases hv
  | call c =>
    obtain ⟨callee, args, argTypes⟩ := c
    simp only [pureV] at hv
    split at hv
    · rename_i x t ha ht
      have ha : args = #[x] := by rw [← Array.toArray_toList (xs := args), ha]
      have ht : argTypes = #[t] := by rw [← Array.toArray_toList (xs := argTypes), ht]
      subst ha ht
      split at hv
      · rename_i d p ba nn cc hd hx
        split at hv
        · rename_i e hke
          simp only [Option.some.injEq, Prod.mk.injEq] at hv
          obtain ⟨rfl, rfl⟩ := hv
          simp [execOp, resolve, invoke, builtin, hk.ev hx hq, Builtin.len_, underlying, hT.slice hd hke, goInt]
        · cases hv
      · rename_i d p s hd hx
        split at hv
        · rename_i hke
          simp only [Option.some.injEq, Prod.mk.injEq] at hv
          obtain ⟨rfl, rfl⟩ := hv
          simp [execOp, resolve, invoke, builtin, hk.ev hx hq, Builtin.len_, underlying, hT.str hd hke, goInt]
        · cases hv
      · cases hv
    · rename_i x y ha
      have ha : args = #[x, y] := by rw [← Array.toArray_toList (xs := args), ha]
      subst ha
      split at hv
      · rename_i p k a' q' k' b hx hy
        simp only [Option.some.injEq, Prod.mk.injEq] at hv
        obtain ⟨rfl, rfl⟩ := hv
        obtain ⟨hp1, hp2⟩ := and_both hq
        simp [execOp, resolve, invoke, builtin, hk.ev hx hp1, hk.ev hy hp2, Builtin.min_, Builtin.min2]
      · cases hv
    · rename_i x y ha
      have ha : args = #[x, y] := by rw [← Array.toArray_toList (xs := args), ha]
      subst ha
      split at hv
      · rename_i p k a' q' k' b hx hy
        simp only [Option.some.injEq, Prod.mk.injEq] at hv
        obtain ⟨rfl, rfl⟩ := hv
        obtain ⟨hp1, hp2⟩ := and_both hq
        simp [execOp, resolve, invoke, builtin, hk.ev hx hp1, hk.ev hy hp2, Builtin.max_, Builtin.max2]
      · cases hv
    · cases hv
  | _ => cases hv
end

section
variable {P : Program} {T : Tab} {n : Nat} {env : Env} {w0 : World} {R : Ro} {E : List Ent} {o : Oper} {pc p q : Bool}

/-! ### single operations -/
theorem i64_wrap {x : Int} (h : -9223372036854775808 ≤ x ∧ x ≤ 9223372036854775807) : IntKind.i64.wrap x = x := by rw [IntKind.wrap_i64]; omega

@[reducible] def InR (x : Int) : Prop := -9223372036854775808 ≤ x ∧ x ≤ 9223372036854775807

theorem Yl.add {t t' x y} {a b : Int} (ho : o.op = .binOp .add t x y t') (hx : ev env x = some (p, .int .i64 a)) (hy : ev env y = some (q, .int .i64 b))
    (hpq : pc = true → (p && q) = true) (hr : pc = true → InR (a + b)) : Yl P n env w0 R E o pc (.int .i64 (a + b)) := by
  intro ac w hk hm hp
  obtain ⟨h1, h2⟩ := and_both (hpq hp)
  unfold execOp
  simp [ho, hk.ev hx h1, hk.ev hy h2, eqGuard, binOp, Op.intArith, i64_wrap (hr hp)]
theorem Yl.sub {t t' x y} {a b : Int} (ho : o.op = .binOp .sub t x y t') (hx : ev env x = some (p, .int .i64 a)) (hy : ev env y = some (q, .int .i64 b))
    (hpq : pc = true → (p && q) = true) (hr : pc = true → InR (a - b)) : Yl P n env w0 R E o pc (.int .i64 (a - b)) := by
  intro ac w hk hm hp
  obtain ⟨h1, h2⟩ := and_both (hpq hp)
  unfold execOp
  simp [ho, hk.ev hx h1, hk.ev hy h2, eqGuard, binOp, Op.intArith, i64_wrap (hr hp)]
theorem Yl.mul {t t' x y} {a b : Int} (ho : o.op = .binOp .mul t x y t') (hx : ev env x = some (p, .int .i64 a)) (hy : ev env y = some (q, .int .i64 b))
    (hpq : pc = true → (p && q) = true) (hr : pc = true → InR (a * b)) : Yl P n env w0 R E o pc (.int .i64 (a * b)) := by
  intro ac w hk hm hp
  obtain ⟨h1, h2⟩ := and_both (hpq hp)
  unfold execOp
  simp [ho, hk.ev hx h1, hk.ev hy h2, eqGuard, binOp, Op.intArith, i64_wrap (hr hp)]
theorem Yl.neg {t x} {a : Int} (ho : o.op = .unOp .neg t x) (hx : ev env x = some (p, .int .i64 a))
    (hpq : pc = true → p = true) (hr : pc = true → InR (-a)) : Yl P n env w0 R E o pc (.int .i64 (-a)) := by
  intro ac w hk hm hp
  have := i64_wrap (hr hp)
  unfold execOp
  simp [ho, hk.ev hx (hpq hp), Op.unary, Op.intArith, this]
/-- division of what is not negative -/
theorem Yl.quo {t t' x y} {a b : Int} (ho : o.op = .binOp .quo t x y t') (hx : ev env x = some (p, .int .i64 a)) (hy : ev env y = some (q, .int .i64 b))
    (hpq : pc = true → (p && q) = true) (h0 : pc = true → 0 ≤ a ∧ a ≤ 9223372036854775807) (hb : pc = true → 0 < b) : Yl P n env w0 R E o pc (.int .i64 (a / b)) := by
  intro ac w hk hm hp
  obtain ⟨h1, h2⟩ := and_both (hpq hp)
  have hb := hb hp
  have h0 := h0 hp
  have e1 : a.tdiv b = a / b := Int.tdiv_eq_ediv_of_nonneg h0.1
  have e2 : 0 ≤ a / b := Int.ediv_nonneg h0.1 (by omega)
  have e3 : a / b ≤ a := Int.ediv_le_self b h0.1
  have e4 := i64_wrap (x := a / b) ⟨by omega, by omega⟩
  have hb0 : b ≠ 0 := by omega
  unfold execOp
  simp [ho, hk.ev hx h1, hk.ev hy h2, eqGuard, binOp, Op.intDiv, hb0, e1, e4]
theorem Yl.rem {t t' x y} {a b : Int} (ho : o.op = .binOp .rem t x y t') (hx : ev env x = some (p, .int .i64 a)) (hy : ev env y = some (q, .int .i64 b))
    (hpq : pc = true → (p && q) = true) (h0 : pc = true → 0 ≤ a) (hb : pc = true → 0 < b) : Yl P n env w0 R E o pc (.int .i64 (a % b)) := by
  intro ac w hk hm hp
  obtain ⟨h1, h2⟩ := and_both (hpq hp)
  have hb := hb hp
  have e1 : a.tmod b = a % b := Int.tmod_eq_emod_of_nonneg (h0 hp)
  have hb0 : b ≠ 0 := by omega
  unfold execOp
  simp [ho, hk.ev hx h1, hk.ev hy h2, eqGuard, binOp, Op.intDiv, hb0, e1]
/-- the remainder as Go has it -/
theorem Yl.tmod {t t' x y} {a b : Int} (ho : o.op = .binOp .rem t x y t') (hx : ev env x = some (p, .int .i64 a)) (hy : ev env y = some (q, .int .i64 b))
    (hpq : pc = true → (p && q) = true) (hb : pc = true → b ≠ 0) : Yl P n env w0 R E o pc (.int .i64 (a.tmod b)) := by
  intro ac w hk hm hp
  obtain ⟨h1, h2⟩ := and_both (hpq hp)
  have hb := hb hp
  unfold execOp
  simp [ho, hk.ev hx h1, hk.ev hy h2, eqGuard, binOp, Op.intDiv, hb]

/-- || -/
theorem Yl.por {x y} {b c : Bool} (ho : o.op = .pick x (.const (.bool true)) y) (hx : ev env x = some (p, .bool b)) (hy : ev env y = some (q, .bool c))
    (hp : pc = true → p = true) (hq : pc = true → b = false → q = true) : Yl P n env w0 R E o pc (.bool (b || c)) := by
  intro ac w hk hm hpc
  unfold execOp
  have e1 := hk.ev hx (hp hpc)
  cases b with
  | true =>
    have e2 : ac.eval (.const (.bool true)) = .bool true := rfl
    simp [ho, e1, asBool, e2]
  | false => simp [ho, e1, asBool, hk.ev hy (hq hpc rfl)]
/-- && -/
theorem Yl.pand {x y} {b c : Bool} (ho : o.op = .pick x y (.const (.bool false))) (hx : ev env x = some (p, .bool b)) (hy : ev env y = some (q, .bool c))
    (hp : pc = true → p = true) (hq : pc = true → b = true → q = true) : Yl P n env w0 R E o pc (.bool (b && c)) := by
  intro ac w hk hm hpc
  unfold execOp
  have e1 := hk.ev hx (hp hpc)
  cases b with
  | true => simp [ho, e1, asBool, hk.ev hy (hq hpc rfl)]
  | false =>
    have e2 : ac.eval (.const (.bool false)) = .bool false := rfl
    simp [ho, e1, asBool, e2]

theorem eaddr_lift {a : Option Addr} {k i : Nat} (h : a.isSome = true) : (some (eaddr a k i)) = a.map (·.add (i * k)) := by
  cases a with
  | none => cases h
  | some ad => rfl

/-- a slice that has elements has memory -/
def HasMem (R : Ro) (E : List Ent) (a : Option Addr) (len : Nat) : Prop := ∀ w0 w, Mem w0 w R E → 0 < len → a.isSome = true
theorem RSl.has {k : Nat} {a : Option Addr} {rows : List (List Value)} (h : RSl R k a rows) : HasMem R E a rows.length := by
  intro w0 w _ hl
  rcases h.2.1 with rfl | ⟨b, off, cs, ha, _⟩
  · simp at hl
  · simp [ha]
theorem RS.has {α : Type} {_i : Inhabited α} {k : Nat} {enc : α → List Value} {a : Option Addr} {xs : List α} (h : RS (_i := _i) R k enc a xs) : HasMem R E a xs.length := by
  have := RSl.has (E := E) h
  simpa using this
theorem HasMem.own {e : TypeId} {k : Nat} {a : Option Addr} {cap : Nat} {rows : List (List Value)} (i : Nat) (h : E[i]? = some (.sl e k a cap rows)) : HasMem R E a rows.length := by
  intro w0 w hm hl
  obtain ⟨_, _, h2⟩ := own_sl hm (mem_of_get h)
  rcases h2 with ⟨_, rfl, _⟩ | ⟨g, cur, ha, _⟩
  · simp at hl
  · simp [ha]
theorem HasMem.ownD {α : Type} {e : TypeId} {k : Nat} {enc : α → List Value} {a : Option Addr} {cap : Nat} {xs : List α} (i : Nat) (h : E[i]? = some (.sl e k a cap (xs.map enc))) : HasMem R E a xs.length := by
  have := HasMem.own (R := R) i h
  simpa using this

theorem Yl.index {t x y} {a : Option Addr} {l c : Nat} {i : Int} {d d2 : TD} {e : Nat} (hT : TabOk P T) (ho : o.op = .indexAddr t x y) (hd : T.at t = some d) (hk : d.k = .slice e) (hd2 : T.at e = some d2)
    (hx : ev env x = some (p, .slice a l c)) (hy : ev env y = some (q, .int .i64 i)) (hpq : pc = true → (p && q) = true)
    (hi : pc = true → 0 ≤ i ∧ i < l) (hh : pc = true → HasMem R E a l) : Yl P n env w0 R E o pc (.pointer (some (eaddr a d2.size i.toNat))) := by
  intro ac w hkn hm hpc
  obtain ⟨h1, h2⟩ := and_both (hpq hpc)
  have hi := hi hpc
  have hs := hh hpc w0 w hm (by omega)
  cases a with
  | none => cases hs
  | some ad =>
    unfold execOp
    simp [ho, hkn.ev hx h1, hkn.ev hy h2, Instr.indexAt, asIntOf, underlying, hT.slice hd hk, hi, run_sizeOf hT hd2, eaddr]

/-- the index is a number of Nat -/
theorem Yl.indexN {t x y} {a : Option Addr} {l c : Nat} {i : Nat} {d d2 : TD} {e : Nat} (hT : TabOk P T) (ho : o.op = .indexAddr t x y) (hd : T.at t = some d) (hk : d.k = .slice e) (hd2 : T.at e = some d2)
    (hx : ev env x = some (p, .slice a l c)) (hy : ev env y = some (q, .int .i64 (i : Int))) (hpq : pc = true → (p && q) = true)
    (hi : pc = true → i < l) (hh : pc = true → HasMem R E a l) : Yl P n env w0 R E o pc (.pointer (some (eaddr a d2.size i))) := by
  have := Yl.index (P := P) (n := n) (w0 := w0) (R := R) (E := E) (pc := pc) hT ho hd hk hd2 hx hy hpq (fun h => ⟨by omega, by have := hi h; omega⟩) hh
  simpa using this

theorem run_load_cell {w : World} {a : Addr} {v : Value} (h : w.cell? a = some v) : (load a).run P w = .ok v w := by
  simp [h]

theorem Yl.load {t x} {ad : Addr} {cs : List Value} {d : TD} {v : Value} (hT : TabOk P T) (ho : o.op = .load t x) (hd : T.at t = some d) (hx : ev env x = some (p, .pointer (some ad)))
    (hp : pc = true → p = true) (hrd : pc = true → Rd R E ad cs) (hk : d.k.known = true) (hv : loadV d cs = some v) : Yl P n env w0 R E o pc v := by
  intro ac w hkn hm hpc
  have hk := TK.ne_other hk
  have hrd := hrd hpc w0 w hm
  have hag := run_isAgg hT hd hk w
  have hsz := run_sizeOf hT hd w
  unfold execOp
  simp only [ho, hkn.ev hx (hp hpc)]
  unfold loadV at hv
  cases hg : d.k.agg with
  | true =>
    rw [hg] at hag
    simp only [hg] at hv
    split at hv
    · rename_i hle
      simp only [Option.some.injEq] at hv
      subst hv
      have hl := run_loadCells_list (P := P) w ad (cs.take d.size) (fun j v hj => hrd j v (by
        rw [List.getElem?_take] at hj; split at hj
        · exact hj
        · cases hj))
      rw [List.length_take, Nat.min_eq_left hle] at hl
      simp [Instr.loadAt, Instr.sureAddr, loadVar, hag, hsz, hl]
    · cases hv
  | false =>
    rw [hg] at hag
    simp only [hg] at hv
    have := hrd 0 v hv
    have ha0 : ad.add 0 = ad := by simp [Addr.add]
    rw [ha0] at this
    simp [Instr.loadAt, Instr.sureAddr, loadVar, hag, this]

theorem Yl.load1 {t x} {ad : Addr} {cs : List Value} {d : TD} {v : Value} (hT : TabOk P T) (ho : o.op = .load t x) (hd : T.at t = some d) (hx : ev env x = some (p, .pointer (some ad)))
    (hp : pc = true → p = true) (hrd : Rd R E ad cs) (hk : d.k.known = true) (hv : loadV d cs = some v) : Yl P n env w0 R E o pc v :=
  Yl.load hT ho hd hx hp (fun _ => hrd) hk hv
/-- under a guard: C is what the guard gives -/
theorem Yl.loadG {t x} {ad : Addr} {cs : List Value} {d : TD} {v : Value} {C : Prop} (hT : TabOk P T) (ho : o.op = .load t x) (hd : T.at t = some d) (hx : ev env x = some (p, .pointer (some ad)))
    (hp : pc = true → p = true) (hrd : C → Rd R E ad cs) (hk : d.k.known = true) (hv : loadV d cs = some v) (hC : pc = true → C) : Yl P n env w0 R E o pc v :=
  Yl.load hT ho hd hx hp (fun h => hrd (hC h)) hk hv

/-! ### lists of operations: in the order of the text, or quiet in any order -/
/-- draw = false: the operations as they come. draw = true: each quiet in the class of the worlds that meet R and E. -/
def WG (draw : Bool) (P : Program) (ops : List Oper) (Q : Exit → Act → World → Prop) (rest : List Oper) (n : Nat) (env : Env) (w0 : World) (R : Ro) (E : List Ent) : Prop :=
  match draw with
  | false => ∀ a w, Kn n env a → Mem w0 w R E → wpList P ops.toArray Q rest a w
  | true => ∀ a, Kn n env a → wpQuiet P ops.toArray (fun w => Mem w0 w R E) (fun a' => ∀ w', Mem w0 w' R E → Q .normal a' w') rest a

/-- behind a piece that ends so -/
def WE (Q : Exit → Act → World → Prop) (x : Exit) (n : Nat) (env : Env) (w0 : World) (R : Ro) (E : List Ent) : Prop :=
  ∀ a w, Kn n env a → Mem w0 w R E → Q x a w

variable {draw : Bool} {ops rest : List Oper} {Q : Exit → Act → World → Prop}

theorem WG.nil (h : WE Q .normal n env w0 R E) : WG draw P ops Q [] n env w0 R E := by
  cases draw with
  | false => exact fun a w hk hm => h a w hk hm
  | true => exact fun a hk => wpQuiet_nil fun w hm => h a w hk hm

/-- an operation that yields -/
theorem WG.y {v : Value} {d : Nat} (hg : gpc ops env o = some pc) (hd : o.dst = some d) (hdn : d < n) (hy : Yl P n env w0 R E o pc v)
    (h : WG draw P ops Q rest n ((d, pc, v) :: env) w0 R E) : WG draw P ops Q (o :: rest) n env w0 R E := by
  cases draw with
  | false =>
    intro a w hk hm
    refine wpList_step fun K hK => ?_
    rw [hk.wanted hg]
    have hput := hk.put hdn pc v
    cases pc with
    | true =>
      simp only [if_true, Oper.wp, hy a w hk hm rfl, Oper.upon, hd]
      exact hK _ _ (h _ _ (by simpa using hput) hm)
    | false =>
      simp only [Bool.false_eq_true, if_false, hd]
      exact hK _ _ (h _ _ (by simpa using hput) hm)
  | true =>
    intro a hk
    refine wpQuiet_step fun K hK => ?_
    rw [hk.wanted hg]
    have hput := hk.put hdn pc v
    cases pc with
    | true =>
      simp only [if_true]
      refine ⟨v, fun w hm => ?_, ?_⟩
      · unfold Oper.quietAt
        rw [hy a w hk hm rfl]
        exact ⟨rfl, rfl⟩
      · rw [hd]; exact hK _ (h _ (by simpa using hput))
    | false =>
      simp only [Bool.false_eq_true, if_false, hd]
      exact hK _ (h _ (by simpa using hput))

theorem WG.pure (hT : TabOk P T) {v : Value} {d : Nat} (hg : gpc ops env o = some pc) (hd : o.dst = some d) (hdn : d < n) (hv : pureV T env o.op = some (q, v)) (hq : pc = true → q = true)
    (h : WG draw P ops Q rest n ((d, pc, v) :: env) w0 R E) : WG draw P ops Q (o :: rest) n env w0 R E :=
  WG.y hg hd hdn (pureV_ok hT hv hq) h

/-- as many unguarded pure operations as there are, at most so many -/
def runPure (T : Tab) (n : Nat) : Nat → List Oper → Env → List Oper × Env
  | 0, l, env => (l, env)
  | _, [], env => ([], env)
  | m + 1, o :: l, env =>
    match o.guard, o.dst, pureV T env o.op with
    | none, some d, some (true, v) => bif Nat.blt d n then runPure T n m l ((d, true, v) :: env) else (o :: l, env)
    | _, _, _ => (o :: l, env)

theorem WG.run (hT : TabOk P T) : ∀ (m : Nat) {l l' : List Oper} {env env' : Env}, runPure T n m l env = (l', env') → WG draw P ops Q l' n env' w0 R E → WG draw P ops Q l n env w0 R E
  | 0, l, l', env, env', h, k => by simp only [runPure, Prod.mk.injEq] at h; obtain ⟨rfl, rfl⟩ := h; exact k
  | m + 1, [], l', env, env', h, k => by simp only [runPure, Prod.mk.injEq] at h; obtain ⟨rfl, rfl⟩ := h; exact k
  | m + 1, o :: l, l', env, env', h, k => by
    simp only [runPure] at h
    split at h
    · rename_i d v hgd hdst hv
      cases hb : Nat.blt d n with
      | true =>
        simp only [hb, cond_true] at h
        exact WG.pure (pc := true) hT (by simp [gpc, hgd]) hdst (by simpa [Nat.blt_eq] using hb) hv (fun _ => rfl) (WG.run hT m h k)
      | false =>
        simp only [hb, cond_false, Prod.mk.injEq] at h
        obtain ⟨rfl, rfl⟩ := h; exact k
    · simp only [Prod.mk.injEq] at h; obtain ⟨rfl, rfl⟩ := h; exact k
end
