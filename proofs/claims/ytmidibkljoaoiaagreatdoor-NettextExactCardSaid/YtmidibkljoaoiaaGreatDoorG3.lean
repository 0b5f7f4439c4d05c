/- Rules and walks, joined from 62 texts: the first of them says: Rules: an object whose type is known (a strings.Builder), pointers against nil and themselves, unsafe.Pointer there and back, append of a string, texts of bytes, shifts. No condition. -/
import Derived.Test.YtmidibkljoaoiaaGreatDoorG2
import Derived.Lib.Builder
import Derived.Lib.AppendStr
import Derived.Laws.Externs
import Derived.Laws.Pointers
import Derived.Laws.BytesString
import Derived.Laws.IdiomStrings
import Derived.Laws.Runes
import Derived.Lib.CutLaws
import Derived.Laws.IdiomCopy
import Derived.Laws.BitsAllLaws
/- Rules: an object whose type is known (a strings.Builder), pointers against nil and themselves, unsafe.Pointer there and back, append of a string, texts of bytes, shifts. No condition. -/
namespace Go.Proofs.YtmidibkljoaoiaaGreatDoor.K
open Go Go.RowKit

def encY (c : UInt8) : List Value := [.int .u8 c.toNat]
section
variable {P : Program} {T : Tab} {n : Nat} {env : Env} {w0 : World} {R : Ro} {E : List Ent} {o : Oper} {pc p q r : Bool}
theorem Rd.obj {b : Nat} {cs : Array Value} {t : TypeId} {fz : Nat × Nat} (i : Nat) (h : E[i]? = some (.obj b (.cells cs t fz))) : Rd R E ⟨b, 0, none⟩ cs.toList := by
 intro w0 w hm j v hv
 obtain ⟨_, hb⟩ := hm.own _ (mem_of_get h)
 rw [addr_add_mk]
 have : cs[j]? = some v := by simpa using hv
 simp [World.cell?, hb, this]
theorem Ef.allocObj {K : Value → Ro → List Ent → Prop} {t : TypeId} {d : TD} (hT : TabOk P T) (ho : o.op = .alloc t) (hd : T.at t = some d) (hK : ∀ b, K (.pointer (some ⟨b, 0, none⟩)) R (.obj b (.cells d.zero.toArray t (0, 0)) :: E)) : Ef P n env w0 R E o K := by
 intro a w hk hm
 obtain ⟨z, hz, hzc⟩ := run_zeroValue hT hd w
 refine ⟨_, w.alloc (.cells d.zero.toArray t), R, _, .inl ?_, hm.newObj _, hK _⟩
 unfold execOp
 have hzc' : z.cells = d.zero.toArray := by rw [← hzc]
 simp [ho, Instr.alloc, hz, newVar, newRow, hzc']
/-- into an object -/
theorem Ef.storeObj {K : Value → Ro → List Ent → Prop} {t e : TypeId} {x y : Operand} {b off : Nat} {cs : Array Value} {v : Value} {d : TD} (i : Nat) (hT : TabOk P T) (ho : o.op = .store t x y) (hd : T.at t = some d)
  (hx : ev env x = some (true, .pointer (some ((⟨b, 0, none⟩ : Addr).add off)))) (hy : ev env y = some (true, v)) (hE : E[i]? = some (.obj b (.cells cs e (0, 0))))
  (hl : Nat.beq (vcells v).length d.size = true) (hfit : Nat.ble (off + d.size) cs.size = true) (h1 : cells1 (vcells v) = true)
  (hK : K undef R (E.set i (.obj b (.cells (setSeg cs.toList off (vcells v)).toArray e (0, 0))))) : Ef P n env w0 R E o K := by
 intro a w hk hm
 have hl := beq_true hl
 have hfit := Nat.le_of_ble_eq_true hfit
 obtain ⟨hbase, hb⟩ := hm.own _ (mem_of_get hE)
 have hst := run_storeVar_at (P := P) hT (o := off) hb hd hl hfit h1
 refine ⟨undef, w.setRow b (setSeg cs.toList off (vcells v)).toArray, R, _, .inr ⟨?_, rfl⟩, hm.set (e' := .obj b (.cells (setSeg cs.toList off (vcells v)).toArray e (0, 0))) hE (grownBy_setRow b _) (fun _ h => h) ⟨hbase, ?_⟩ (fun _ h => .inl h), hK⟩
 ·unfold execOp
  have ha : (⟨b, 0, none⟩ : Addr).add off = ⟨b, off, none⟩ := by rw [addr_add_mk]; simp
  simp [ho, hk.ev hx rfl, hk.ev hy rfl, Instr.storeAt, Instr.sureAddr, ha, hst]
 ·exact setRow_heap w b _ _ e _ hb
theorem Yl.ptrSame {t e : TypeId} {t' x y} {a : Addr} {d d2 : TD} (hT : TabOk P T) (ho : o.op = .binOp .neq t x y t') (hd : T.at t = some d) (hk : d.k = .ptr e) (hd2 : T.at e = some d2) (hx : ev env x = some (p, .pointer (some a))) (hy : ev env y = some (q, .pointer (some a))) (hpq : pc = true → (p && q) = true) : Yl P n env w0 R E o pc (.bool false) := by
 intro ac w hkn hm hpc
 obtain ⟨h1, h2⟩ := and_both (hpq hpc)
 have hu : P.underlying t = some (.pointer e) := by
  have := hT.kind hd
  rw [hk] at this
  unfold kindOf at this
  split at this <;> simp_all
 obtain ⟨j, z, hj, _⟩ := hT.info hd2
 have e1 := Lib.run_neq_ptr_same (P := P) w a hu hj
 unfold execOp
 simp [ho, hkn.ev hx h1, hkn.ev hy h2, eqGuard, e1]
theorem Yl.toUnsafe {src dst t u : TypeId} {x : Operand} {b : Nat} {cs : Array Value} {fz : Nat × Nat} {d d2 : TD} (i : Nat) (hT : TabOk P T) (ho : o.op = .convert src dst x) (hd : T.at src = some d) (hk : d.k = .ptr t) (hd2 : T.at t = some d2) (hsz : Nat.beq d2.size 0 = false) (hu : P.underlying dst = some .unsafePointer)
  (hE : E[i]? = some (.obj b (.cells cs u fz))) (hcs : Nat.blt 0 cs.size = true) (hx : ev env x = some (p, .pointer (some ⟨b, 0, none⟩))) (hp : pc = true → p = true) : Yl P n env w0 R E o pc (.pointer (some ⟨b, 0, none⟩)) := by
 intro ac w hkn hm hpc
 obtain ⟨_, hb⟩ := hm.own _ (mem_of_get hE)
 have hs : P.underlying src = some (.pointer t) := by
  have := hT.kind hd
  rw [hk] at this
  unfold kindOf at this
  split at this <;> simp_all
 obtain ⟨j, z, hj, _, _, hjs, _⟩ := hT.info hd2
 have hsh : w.shape? b = some (u, cs.size) := by simp [World.shape?, hb]
 have e1 := Lib.run_to_unsafe (P := P) w ⟨b, 0, none⟩ hs hu hj (by rw [hjs]; exact beq_false hsz) hsh (Nat.lt_of_lt_of_le (Nat.lt_of_lt_of_le Nat.zero_lt_one (Nat.le_of_ble_eq_true hcs)) (Nat.le_refl _))
 unfold execOp
 simp [ho, hkn.ev hx (hp hpc), e1]
theorem Yl.fromUnsafe {src dst t u : TypeId} {x : Operand} {b : Nat} {cs : Array Value} {fz : Nat × Nat} {d d2 : TD} (i : Nat) (hT : TabOk P T) (ho : o.op = .convert src dst x) (hd : T.at dst = some d) (hk : d.k = .ptr t) (hd2 : T.at t = some d2) (hu : P.underlying src = some .unsafePointer)
  (hE : E[i]? = some (.obj b (.cells cs u fz))) (hl : liesAt P P.depth u (cs.size / P.cellsOf u) 0 t 1 = true) (hx : ev env x = some (p, .pointer (some ⟨b, 0, none⟩))) (hp : pc = true → p = true) : Yl P n env w0 R E o pc (.pointer (some ⟨b, 0, none⟩)) := by
 intro ac w hkn hm hpc
 obtain ⟨_, hb⟩ := hm.own _ (mem_of_get hE)
 have hs : P.underlying dst = some (.pointer t) := by
  have := hT.kind hd
  rw [hk] at this
  unfold kindOf at this
  split at this <;> simp_all
 obtain ⟨j, z, hj, _, _, hjs, _⟩ := hT.info hd2
 have hsh : w.shape? b = some (u, cs.size) := by simp [World.shape?, hb]
 have e1 := Lib.run_from_unsafe (P := P) w ⟨b, 0, none⟩ hu hs hj hsh hl
 unfold execOp
 simp [ho, hkn.ev hx (hp hpc), e1]
/-- internal/abi.NoEscape -/
theorem Yl.noEscape {f : FuncId} {fn : Func} {x : Operand} {v : Value} {ats : Array TypeId} (ho : o.op = .call { callee := .value (.func f), args := #[x], argTypes := ats }) (hf : P.funcs[f]? = some fn) (hname : (fn.name == "runtime.NumGoroutine") = false) (hb : fn.body.isNone = true) (hn : Extern.findNext fn = none) (he : Extern.find fn = some Extern.AbiNoEscape.same)
  (hx : ev env x = some (p, v)) (hp : pc = true → p = true) : Yl P n env w0 R E o pc v := by
 intro ac w hkn hm hpc
 have e1 := run_callFunc_extern (P := P) (f := f) hf hname hb hn he #[v] w
 rw [Lib.run_noEscape] at e1
 have hfv : ac.eval (.func f) = .func (.func f) #[] #[] := rfl
 unfold execOp
 simp [ho, hkn.ev hx (hp hpc), resolve, invoke, hfv, Deferred.ofValue, e1]
/-- append(b, s...) -/
theorem encY_flat : ∀ ys : List UInt8, (ys.map encY).flatten = ys.map fun c => Value.int .u8 c.toNat
 | [] => rfl
 | c :: ys => by simp [encY, encY_flat ys]
theorem Ef.appendStr {K : Value → Ro → List Ent → Prop} {t u e : TypeId} {x y : Operand} {m cap : Nat} {a : Option Addr} {xs l : List UInt8} {d d2 d3 : TD} (i : Nat) (hT : TabOk P T) (ho : o.op = .call { callee := .builtin .append, args := #[x, y], argTypes := #[t, u] }) (hd : T.at t = some d) (hk : d.k = .slice e) (hd2 : T.at e = some d2) (hs2 : d2.size = 1) (hb2 : d2.bytes = 1) (hz2 : (P.info? e).bind (·.zero) = some (.int .u8 0)) (hd3 : T.at u = some d3) (hk3 : d3.k = .str)
  (hx : ev env x = some (true, .slice a m cap)) (hm : m = xs.length) (hE : E[i]? = some (.sl e 1 a cap (xs.map encY))) (hy : ev env y = some (true, .string (str l))) (hbytes : xs.length + l.length ≤ 140737488355328)
  (hK : ∀ a' cap', K (.slice a' (xs ++ l).length cap') R (E.set i (.sl e 1 a' cap' ((xs ++ l).map encY)))) : Ef P n env w0 R E o K := by
 intro ac w hkn hmm
 have hsl := own_sl hmm (mem_of_get hE)
 obtain ⟨inf, z, hi, hz, hzc, hsz, hby⟩ := hT.info hd2
 have hz' : inf.zero = some (.int .u8 0) := by rw [hi] at hz2; exact hz2
 rw [hs2] at hsz
 rw [hb2] at hby
 have hsc : Lib.strCells (str l) = l.map fun c => Value.int .u8 c.toNat := by unfold Lib.strCells; rw [show (str l).data.toList = l by simp [str]]
 have hss := str_size l
 have hlen : (xs ++ l).length = xs.length + l.length := by simp
 have hml : (xs.map encY).length = xs.length := by simp
 have hrows : ∀ r ∈ (xs ++ l).map encY, r.length = 1 := fun r hr => by obtain ⟨c, _, rfl⟩ := List.mem_map.1 hr; rfl
 have hfl : ((xs ++ l).map encY).flatten = (xs.map fun c => Value.int .u8 c.toNat) ++ (l.map fun c => Value.int .u8 c.toNat) := by rw [encY_flat, List.map_append]
 have exec : ∀ v' w', (Builtin.append_ #[t, u] o.type #[.slice a m cap, .string (str l)]).run P w = .ok v' w' → (execOp ac.eval o).run P w = .ok (.value v') w' := fun v' w' hr => by
  unfold execOp
  simp only [ho, resolve, invoke, builtin, Sem.run_bind, Sem.run_pure, Result.andThen_ok, List.map_toArray, List.map_cons, List.map_nil, hkn.ev hx rfl, hkn.ev hy rfl, hr]
 have mkNew : ∀ nc, xs.length + l.length ≤ nc → nc ≤ maxLen → ∀ cur : Array Value, cur.toList = (xs.map fun c => Value.int .u8 c.toNat) ++ (l.map fun c => Value.int .u8 c.toNat) ++ (Builtin.zeroCells (Value.int .u8 0).cells (nc - (xs.length + l.length))).toList →
   Mem w0 (w.drew.alloc (.cells cur e)) R (E.set i (.sl e 1 (some ⟨w.heap.size, 0, none⟩) nc ((xs ++ l).map encY))) := fun nc hge hcm cur hcur => by
  have hz1 : (Value.int IntKind.u8 0).cells.size = 1 := rfl
  refine hmm.set (row := none) hE ⟨rfl, rfl, rfl, by simp, fun j hj _ => heap_alloc_old w.drew _ hj⟩ (fun _ h => by cases h) (ok_sl (g := w.heap.size) hrows (by decide) hmm.below.size (heap_alloc_new w.drew _) (by rw [List.length_map, hlen]; exact hge) hcm ?_ ?_) (fun b hb => by simp [Ent.block] at hb; right; omega)
  ·rw [← Array.length_toList, hcur]
   simp only [List.length_append, List.length_map, Array.length_toList, size_zeroCells, hz1]
   omega
  ·rw [hcur, hfl, List.length_map, hlen]
   exact List.take_left' (by simp)
 by_cases hl0 : l = []
 ·subst hl0
  refine ⟨_, w, R, _, .inl (exec (.slice a m cap) w ?_), ?_, by have := hK a cap; rw [List.append_nil] at this; rw [hm]; exact this⟩
  ·have hle : m ≤ cap := by
    obtain ⟨_, _, h2⟩ := hsl
    rw [hml] at h2
    rcases h2 with ⟨_, h3, _⟩ | ⟨g, cur, _, _, _, hn, _⟩
    ·have : xs = [] := by simpa using h3
     subst this; simp at hm; omega
    ·omega
   have hf := Lib.run_firstCells_string (P := P) w 1 (str [])
   have h0 : (str []).size = 0 := rfl
   have hd0 : (str []).data.toList = [] := rfl
   rw [h0] at hf
   cases a with
   | none => simp [Builtin.append_, run_underlying (hT.slice hd hk), run_underlying (hT.str hd3 hk3), sizeOf, typeInfo, hi, hsz, Builtin.lenOf, h0, hle, hf, Lib.strCells]
   | some ad => simp [Builtin.append_, run_underlying (hT.slice hd hk), run_underlying (hT.str hd3 hk3), sizeOf, typeInfo, hi, hsz, Builtin.lenOf, h0, hle, hf, Lib.strCells, hd0, storeCells]
  ·have e1 : E.set i (.sl e 1 a cap ((xs ++ []).map encY)) = E := by
    rw [List.append_nil]
    apply List.ext_getElem?
    intro j
    by_cases hj : i = j
    ·subst hj
     rw [hE, List.getElem?_set_self (List.getElem?_eq_some_iff.1 hE).1]
    ·rw [List.getElem?_set_ne hj]
   rw [List.append_nil] at e1
   rw [e1]; exact hmm
 ·have hlp : 0 < l.length := List.length_pos_iff.2 hl0
  obtain ⟨_, _, h2⟩ := hsl
  rw [hml] at h2
  rcases h2 with ⟨ha, h3, hc0⟩ | ⟨g, cur, ha, hbase, hh, hn, hc, hs, ht⟩
  ·have hx0 : xs = [] := by simpa using h3
   subst ha; subst hx0; subst hc0
   simp only [List.length_nil] at hm
   subst hm
   have hr := run_append_nil_string (P := P) w t u o.type e inf (.int .u8 0) (hT.slice hd hk) (hT.str hd3 hk3) hi hz' (str l) (by omega) (by omega) (by rw [hby, hss]; simp at hbytes; omega)
   have hcm := grownCap_le_maxLen w (str l).size 0 e (by rw [hss]; simp only [maxLen]; simp at hbytes; omega)
   have hge := grownCap_ge w (str l).size 0 e
   have hnew := mkNew (grownCap w (str l).size 0 e) (by simp; omega) hcm ((str l).data.map (fun b => Value.int .u8 b.toNat) ++ Builtin.zeroCells (Value.int .u8 0).cells (grownCap w (str l).size 0 e - (str l).size)) (by rw [hss]; simp [str])
   refine ⟨_, _, R, _, .inl (exec _ _ hr), hnew, ?_⟩
   rw [hss]
   exact hK _ _
  ·subst ha
   rw [hm] at exec
   by_cases hroom : xs.length + (str l).size ≤ cap
   ·have hr := Lib.run_append_room_string (P := P) w t u o.type e inf (hT.slice hd hk) (hT.str hd3 hk3) hi hsz g xs.length cap cur hh (str l) hroom (by omega)
    rw [hsc, hss] at hr
    refine ⟨_, _, R, _, .inl (exec _ _ hr), hmm.set hE (grownBy_setRow g _) (fun _ h => by simpa [Ent.block] using h) (ok_sl (g := g) (rows := (xs ++ l).map encY) (cap := cap) hrows (by decide) hbase (setRow_heap w g cur _ e _ hh) (by rw [List.length_map, hlen]; omega) hc ?_ ?_) (fun _ h => .inl h), ?_⟩
    ·simp only [List.size_toArray, List.length_append, List.length_take, List.length_drop, Array.length_toList, List.length_map]
     omega
    ·have ht' : cur.toList.take xs.length = xs.map fun c => Value.int .u8 c.toNat := by rw [← encY_flat, ← ht]; simp
     rw [hfl, List.length_map, hlen]
     simp only [Nat.mul_one]
     rw [ht']
     exact List.take_left' (by simp)
    ·have := hK (some ⟨g, 0, none⟩) cap
     rw [hlen] at this
     exact this
   ·have holds : ∀ j v, (xs.map fun c => Value.int .u8 c.toNat)[j]? = some v → w.cell? ((⟨g, 0, none⟩ : Addr).add j) = some v := fun j v hv => by
     rw [← encY_flat, ← ht, List.getElem?_take] at hv
     rw [addr_add_mk]
     split at hv
     ·simpa [World.cell?, hh] using hv
     ·cases hv
    have hr := Lib.run_append_grow_string (P := P) w t u o.type e inf (.int .u8 0) (hT.slice hd hk) (hT.str hd3 hk3) hi hz' ⟨g, 0, none⟩ xs.length cap (xs.map fun c => Value.int .u8 c.toNat) (by rw [hsz]; simp) holds (str l) (by omega) (by omega) (by rw [hby]; exact growslice_fits (by omega) (by omega))
    have hcm := grownCap_le_maxLen w (xs.length + (str l).size) cap e (by simp only [maxLen]; omega)
    have hge := grownCap_ge w (xs.length + (str l).size) cap e
    have hnew := mkNew (grownCap w (xs.length + (str l).size) cap e) (by omega) hcm ((xs.map fun c => Value.int .u8 c.toNat).toArray ++ (Lib.strCells (str l)).toArray ++ Builtin.zeroCells (Value.int .u8 0).cells (grownCap w (xs.length + (str l).size) cap e - (xs.length + (str l).size))) (by simp [hsc, hss])
    refine ⟨_, _, R, _, .inl (exec _ _ hr), hnew, ?_⟩
    have := hK (some ⟨w.heap.size, 0, none⟩) (grownCap w (xs.length + (str l).size) cap e)
    rw [hlen] at this
    rw [hss] at this ⊢
    exact this
end
end Go.Proofs.YtmidibkljoaoiaaGreatDoor.K

/- Digits, plain: what the reference reads. No condition. -/
namespace Go.Proofs.YtmidibkljoaoiaaGreatDoor.M
open Go Go.Proofs.YtmidibkljoaoiaaGreatDoor.K

theorem dig_slice {d : Nat} (h : d < 10) : (([48, 49, 50, 51, 52, 53, 54, 55, 56, 57] : List UInt8).take (d + 1)).drop d = [UInt8.ofNat (48 + d)] := by
 have key : ∀ x : Fin 10, (([48, 49, 50, 51, 52, 53, 54, 55, 56, 57] : List UInt8).take (x.val + 1)).drop x.val = [UInt8.ofNat (48 + x.val)] := by decide
 exact key ⟨d, h⟩
end Go.Proofs.YtmidibkljoaoiaaGreatDoor.M

/- Rules of shifts and texts of bytes. No condition. -/
namespace Go.Proofs.YtmidibkljoaoiaaGreatDoor.K
open Go Go.RowKit
section
variable {P : Program} {T : Tab} {n : Nat} {env : Env} {w0 : World} {R : Ro} {E : List Ent} {o : Oper} {pc p q r : Bool}
/-- string(b) of bytes of one's own -/
theorem Yl.bytesStr {src dst e : TypeId} {x : Operand} {m cap : Nat} {a : Option Addr} {l : List UInt8} {d d2 d3 : TD} (i : Nat) (hT : TabOk P T) (ho : o.op = .convert src dst x) (hd : T.at src = some d) (hk : d.k = .slice e) (hd2 : T.at e = some d2) (hk2 : d2.k = .int .u8) (hd3 : T.at dst = some d3) (hk3 : d3.k = .str)
  (hE : E[i]? = some (.sl e 1 a cap (l.map encY))) (hx : ev env x = some (p, .slice a m cap)) (hm : m = l.length) (hl : 0 < l.length) (hp : pc = true → p = true) : Yl P n env w0 R E o pc (.string (str l)) := by
 intro ac w hkn hmm hpc
 subst hm
 obtain ⟨_, _, h2⟩ := own_sl hmm (mem_of_get hE)
 rcases h2 with ⟨_, h3, _⟩ | ⟨g, cur, rfl, hbase, hh, hn, hc, hs, ht⟩
 ·have : l = [] := by simpa using h3
  subst this; simp at hl
 ·have hcells : ∀ (j : Nat) (b : UInt8), l[j]? = some b → w.cell? ((⟨g, 0, none⟩ : Addr).add j) = some (.int .u8 b.toNat) := fun j b hj => by
   have h4 : ((l.map encY).flatten)[j]? = some (.int .u8 b.toNat) := by rw [encY_flat, List.getElem?_map, hj]; rfl
   rw [← ht, List.getElem?_take] at h4
   rw [addr_add_mk]
   split at h4
   ·simpa [World.cell?, hh] using h4
   ·cases h4
  have e1 := run_convert_bytes_back w src dst e ⟨g, 0, none⟩ cap l (hT.slice hd hk) (hT.int hd2 hk2) (hT.str hd3 hk3) (fun j hj => hcells j _ (List.getElem?_eq_getElem hj))
  unfold execOp
  simp [ho, hkn.ev hx (hp hpc), e1, str]
end
def RBelow (w0 : World) (R : Ro) : Prop := ∀ b cs, R b = some cs → b < w0.heap.size
theorem FnV.ofOwn {P : Program} {f : FuncId} {args : List Value} {R : Ro} {v : Value} (h : ∀ w0, RBelow w0 R → Fn P f args w0 R [] (fun v' _ _ => v' = v)) : FnV P f args R v := by
 intro w0 E w hm
 have hm0 : Mem w w R [] := ⟨Below.refl _ w, hm.ro, fun e he => (by cases he), fun e he => (by cases he), List.Pairwise.nil⟩
 refine (h w (fun b cs hb => hm.ro_lt hb) w hm0).mono ?_
 rintro e w' ⟨v', R', E', rfl, _, hm', rfl⟩
 exact ⟨rfl, hm.belowAll hm'.below⟩
end Go.Proofs.YtmidibkljoaoiaaGreatDoor.K

/- Rules: remainders of numbers of any kind. No condition. -/
namespace Go.Proofs.YtmidibkljoaoiaaGreatDoor.K
open Go Go.RowKit
section
variable {P : Program} {T : Tab} {n : Nat} {env : Env} {w0 : World} {R : Ro} {E : List Ent} {o : Oper} {pc p q r : Bool}
/-- a part of an array's value -/
theorem Yl.idxArr {t e : TypeId} {x y : Operand} {cs : Array Value} {l : Nat} {i : Int} (v : Value) {d d2 : TD} (hT : TabOk P T) (ho : o.op = .index t x y) (hd : T.at t = some d) (hk : d.k = .arr l e) (hd2 : T.at e = some d2) (hs : d2.size = 1) (hne : d2.k ≠ .other) (hag : d2.k.agg = false)
  (hx : ev env x = some (p, .agg cs)) (hy : ev env y = some (q, .int .i64 i)) (hpq : pc = true → (p && q) = true) (hi : pc = true → (0 ≤ i ∧ i < l) ∧ cs[i.toNat]? = some v) : Yl P n env w0 R E o pc v := by
 intro ac w hkn hm hp
 obtain ⟨h1, h2⟩ := and_both (hpq hp)
 obtain ⟨h3, h4⟩ := hi hp
 have e1 := run_isAgg hT hd2 hne w
 rw [hag] at e1
 unfold execOp
 simp [ho, hkn.ev hx h1, hkn.ev hy h2, Instr.index, asIntOf, underlying, hT.arr hd hk, h3, part, e1, run_sizeOf hT hd2, hs, h4]
end
end Go.Proofs.YtmidibkljoaoiaaGreatDoor.K

/- A part of an array's value that is itself made of several cells. No condition. -/
namespace Go.Proofs.YtmidibkljoaoiaaGreatDoor.K
open Go Go.RowKit
section
variable {P : Program} {T : Tab} {n : Nat} {env : Env} {w0 : World} {R : Ro} {E : List Ent} {o : Oper} {pc p q : Bool}
theorem Yl.idxArrS {t e : TypeId} {x y : Operand} {cs : Array Value} {l : Nat} {i : Int} (us : List Value) {d d2 : TD} (hT : TabOk P T) (ho : o.op = .index t x y) (hd : T.at t = some d) (hk : d.k = .arr l e) (hd2 : T.at e = some d2) (hne : d2.k ≠ .other) (hag : d2.k.agg = true)
  (hx : ev env x = some (p, .agg cs)) (hy : ev env y = some (q, .int .i64 i)) (hpq : pc = true → (p && q) = true) (hi : pc = true → (0 ≤ i ∧ i < l) ∧ cs.extract (i.toNat * d2.size) (i.toNat * d2.size + d2.size) = us.toArray) : Yl P n env w0 R E o pc (.agg us.toArray) := by
 intro ac w hkn hm hp
 obtain ⟨h1, h2⟩ := and_both (hpq hp)
 obtain ⟨h3, h4⟩ := hi hp
 have e1 := run_isAgg hT hd2 hne w
 rw [hag] at e1
 unfold execOp
 simp [ho, hkn.ev hx h1, hkn.ev hy h2, Instr.index, asIntOf, underlying, hT.arr hd hk, h3, part, e1, run_sizeOf hT hd2, h4]
end
end Go.Proofs.YtmidibkljoaoiaaGreatDoor.K

/- A trial. No condition. -/
set_option maxRecDepth 4000
set_option linter.unusedSimpArgs false
set_option linter.unusedVariables false
namespace Go.Proofs.YtmidibkljoaoiaaGreatDoor
open Go Go.RowKit Go.Proofs.YtmidibkljoaoiaaGreatDoor.K Go.Proofs.YtmidibkljoaoiaaGreatDoor.M

theorem tmod_gt (x : Int) {n : Int} (h : 0 < n) : -n < x.tmod n := by
 rcases Int.le_total 0 x with h0 | h0
 ·have := Int.tmod_nonneg n h0; omega
 ·have h1 := Int.neg_tmod (a := x) (b := n)
  have h2 := Int.tmod_lt_of_pos (-x) h
  omega
theorem mod_pos {x n : Int} (h : 1 ≤ n) (hc : ¬ x.tmod n < 0) : x.tmod n = x % n := by
 rw [Int.tmod_eq_emod] at hc ⊢
 split at hc
 ·rename_i h1; rw [if_pos h1]; omega
 ·rename_i h1
  rw [if_neg h1]
  have := Int.emod_lt_of_pos x (show 0 < n by omega)
  have h2 : (n.natAbs : Int) = n := by omega
  omega
theorem mod_neg {x n : Int} (h : 1 ≤ n) (hc : x.tmod n < 0) : x.tmod n + n = x % n := by
 rw [Int.tmod_eq_emod] at hc ⊢
 split at hc
 ·rename_i h1
  have := Int.emod_nonneg x (show n ≠ 0 by omega)
  omega
 ·rename_i h1; rw [if_neg h1]
  have h2 : (n.natAbs : Int) = n := by omega
  omega
theorem src_end {b : Nat} {a : Option Addr} {cp : Nat} {xs : List Int} {c : Nat} (h : xs.length ≤ c) : srcE b a cp xs c = srcE b a cp xs (c + 1) := by
 unfold srcE
 rw [show min c xs.length = min (c + 1) xs.length by omega]
theorem src_next {b : Nat} {a : Option Addr} {cp : Nat} {xs : List Int} {c : Nat} (h : c < xs.length) : Ent.blk b [.slice a xs.length cp, .int .i64 (((min c xs.length : Nat) : Int) + 1)] = srcE b a cp xs (c + 1) := by
 unfold srcE
 rw [show ((min c xs.length : Nat) : Int) + 1 = ((min (c + 1) xs.length : Nat) : Int) by omega]

theorem Mod_V {R : Ro} {x n : Int} (hn : InR n) : FnV Tryz.prog 49 [.int .i64 x, .int .i64 n] R (.int .i64 (mod x n)) := by
 refine Fn.toV (fun w0 E => ?_)
 refine fE 16 Tryz.func49 ?_
 refine zQ (zG (zR 1 rfl (zN (zU (zQ (zQ (zG (zR 2 rfl (zN (zU ?_))))))))))
 refine W.condD rfl (fun hc0 => ?_) (fun hc0 => ?_)
 ·try dsimp only at hc0
  refine zQ (zG (zR 1 rfl (zN (zU (zT (wt ?_))))))
  refine WE.retF tab_ok [_] rfl ⟨rfl, trivial⟩ (RLe.refl _) ?_
  exact ⟨by unfold mod; rw [if_pos hc0]; rfl, rfl⟩
 ·try dsimp only at hc0
  refine zK (zU (zQ (zG (zR 2 rfl ?_))))
  refine WG.y rfl rfl qD (Yl.tmod rfl rfl rfl (fun _ => rfl) (by intro _; omega)) ?_
  refine zR 1 rfl (zN (zU (zQ (zQ (zG (zR 2 rfl (zN (zU ?_))))))))
  refine W.condD rfl (fun hc1 => ?_) (fun hc1 => ?_)
  ·try dsimp only at hc1
   refine zG (zR 2 rfl ?_)
   refine WG.y rfl rfl qD (Yl.add rfl rfl rfl (fun _ => rfl) (by intro _; have h9 := tmod_gt x (show (0 : Int) < n by omega); constructor <;> omega)) ?_
   refine zR 1 rfl (zN (zU (zQ (zG (zR 2 rfl (zN (zU (zT ?_))))))))
   refine WE.retF tab_ok [_] rfl ⟨rfl, trivial⟩ (RLe.refl _) ?_
   refine ⟨congrArg (Value.int .i64) ?_, rfl⟩
   unfold mod; rw [if_neg hc0]; exact mod_neg (by omega) hc1
  ·try dsimp only at hc1
   refine zK (zU (zQ (zG (zR 2 rfl (zN (zU (zT ?_)))))))
   refine WE.retF tab_ok [_] rfl ⟨rfl, trivial⟩ (RLe.refl _) ?_
   refine ⟨congrArg (Value.int .i64) ?_, rfl⟩
   unfold mod; rw [if_neg hc0]; exact mod_pos (by omega) hc1

theorem Raw_C {R : Ro} {b : Nat} {a : Option Addr} {cp : Nat} {xs : List Int} {c : Nat} (w0 : World) (ha : RS R 1 encI a xs) : FnAt Tryz.prog 50 [.pointer (some ⟨b, 0, none⟩)] w0 R (srcE b a cp xs c) (RdPost (.int .i64 (nth xs c)) R (srcE b a cp xs (c + 1))) := by
 intro F
 have hla := ha.len
 refine fE 31 Tryz.func50 ?_
 refine zQ (zG (zR 1 rfl (zN (zU (zQ (zQ ?_))))))
 refine W.regionQ _ mixed qK ?_
 refine zR 3 rfl ?_
 refine yL (Rd.add (Rd.blk 0 rfl) _) ?_
 refine zR 3 rfl ?_
 refine yL (Rd.add (Rd.blk 0 rfl) _) ?_
 refine zR 2 rfl (zN (zU ?_))
 refine W.condD rfl (fun hc0 => ?_) (fun hc0 => ?_)
 ·try dsimp only at hc0
  refine zQ (zG (zR 1 rfl (zN (zU (zT (wt ?_))))))
  refine WE.retF tab_ok [_] rfl ⟨rfl, trivial⟩ (RLe.refl _) ?_
  exact ⟨_, [], rfl, by rw [nth_out (by omega)]; rfl, rfl, src_end (by omega), rfl⟩
 ·try dsimp only at hc0
  refine zK (zU (zQ (zG (zR 3 rfl ?_))))
  refine yL (Rd.add (Rd.blk 0 rfl) _) ?_
  refine yA ?_
  refine zR 2 rfl ?_
  refine zF 0 ?_
  refine zN (zU (zQ ?_))
  refine W.regionQ _ mixed qK ?_
  refine zR 3 rfl ?_
  refine yL (Rd.add (Rd.blk 0 rfl) _) ?_
  refine zR 3 rfl ?_
  refine yL (Rd.add (Rd.blk 0 rfl) _) ?_
  refine yS ?_
  refine WG.y rfl rfl qD (Yl.index tab_ok rfl rfl rfl rfl rfl rfl (fun _ => rfl) qA qH) ?_
  refine yR ?_
  refine zR 1 rfl (zN (zU (zT ?_)))
  refine WE.retF tab_ok [_] rfl ⟨rfl, trivial⟩ (RLe.refl _) ?_
  exact ⟨_, [], rfl, congrArg (fun i => Value.int .i64 (nth xs i)) (show _ = c by omega), rfl, src_next qO, rfl⟩

theorem N_C {R : Ro} {b : Nat} {a : Option Addr} {cp : Nat} {xs : List Int} {c : Nat} (w0 : World) {n : Int} (ha : RS R 1 encI a xs) (hn : InR n) : FnAt Tryz.prog 17 [.pointer (some ⟨b, 0, none⟩), .int .i64 n] w0 R (srcE b a cp xs c) (RdPost (.int .i64 (mod (nth xs c) n)) R (srcE b a cp xs (c + 1))) := by
 intro F
 refine fE 9 Tryz.func17 ?_
 refine zQ (zG (zR 1 rfl (zN (zU (zQ (zG (zR 1 rfl ?_)))))))
 refine WL.callAt 0 en50 rfl rfl qD (CallOp.mkT rfl rfl rfl rfl) rfl (Raw_C w0 ha _) ?_
 rintro _ _ _ _ - ⟨rfl, rfl, rfl, rfl⟩
 refine zR 1 rfl ?_
 refine WG.callV en49 rfl rfl qD (CallOp.mk' rfl rfl rfl rfl) (fun _ => rfl) (fun hg => Mod_V hn) ?_
 refine zR 1 rfl (zN (zU (zT ?_)))
 refine WE.retF tab_ok [_] rfl ⟨rfl, trivial⟩ (RLe.refl _) ?_
 exact ⟨_, [], rfl, rfl, rfl, rfl, rfl⟩

theorem Pick_C {R : Ro} {b : Nat} {a : Option Addr} {cp : Nat} {xs : List Int} {c : Nat} (w0 : World) {a2 : Option Addr} {c2 : Nat} {ys : List Int} {j : Nat} {F : List Ent} (ha : RS R 1 encI a xs) (hy : F[j]? = some (.sl 3 1 a2 c2 (ys.map encI))) (hne : 0 < ys.length) (hl : ys.length ≤ 1000000) :
  K.Fn Tryz.prog 29 [.pointer (some ⟨b, 0, none⟩), .slice a2 ys.length c2] w0 R (srcE b a cp xs c :: F) (fun v R' E' => ∃ e' N, E' = N ++ e' :: F ∧ RdPost (.int .i64 (nth ys (mod (nth xs c) ys.length).toNat)) R (srcE b a cp xs (c + 1)) v R' e' N) := by
 have hr := mod_range (nth xs c) (show (1 : Int) ≤ ys.length by omega)
 refine fE 12 Tryz.func29 ?_
 refine zQ (zG (zR 1 rfl (zN (zU (zQ (zG (zR 4 rfl ?_)))))))
 refine WL.callAt 0 en17 rfl rfl qD (CallOp.mkT rfl rfl rfl rfl) rfl (N_C w0 ha (by constructor <;> omega) _) ?_
 rintro _ _ _ _ - ⟨rfl, rfl, rfl, rfl⟩
 refine WG.y rfl rfl qD (Yl.index tab_ok rfl rfl rfl rfl rfl rfl (fun _ => rfl) qA (by intro _; first | exact HasMem.ownD (j + 1) hy | exact qI)) ?_
 refine' WG.y rfl rfl qD (Yl.load1 tab_ok rfl rfl rfl (fun _ => rfl) ?r1 rfl ?h1) ?_
 case r1 => (exact Rd.slD (j + 1) hy qO)
 case h1 => rfl
 refine zR 1 rfl (zN (zU (zT ?_)))
 refine WE.retF tab_ok [_] rfl ⟨rfl, trivial⟩ (RLe.refl _) ?_
 exact ⟨_, [], rfl, rfl, rfl, rfl, rfl⟩

theorem New_C {R : Ro} {a : Option Addr} {cp : Nat} {l : List Int} (w0 : World) (E : List Ent) (hc : l.length ≤ cp) :
  K.Fn Tryz.prog 8 [.slice a l.length cp] w0 R E (fun v R' E' => ∃ b, v = .pointer (some ⟨b, 0, none⟩) ∧ R = R' ∧ E' = srcE b a cp (l.take 2000) 0 :: E) := by
 refine fE 10 Tryz.func8 ?_
 refine zQ (zG (zR 1 rfl (zN (zU (zQ (zG (zR 4 rfl ?_)))))))
 refine WG.y rfl rfl qD (Yl.sliceH tab_ok rfl rfl rfl rfl rfl (fun _ => rfl) (by intro _; split <;> constructor <;> omega) rfl) ?_
 -- build
 refine WG.y rfl rfl qD (Yl.build (parts := [(0, .tmp 7)]) tab_ok rfl rfl rfl rfl (fun _ => rfl) rfl rfl) ?_
 refine zO fun b9 => ?_
 refine zR 1 rfl (zN (zU (zT ?_)))
 refine WE.retF tab_ok [_] rfl ⟨rfl, trivial⟩ (RLe.refl _) ?_
 refine ⟨_, rfl, rfl, ?_⟩
 unfold srcE
 rw [List.length_take, Nat.min_comm 0, Nat.min_zero]
 have e1 : ((if (2000 : Int) < (l.length : Int) then 2000 else (l.length : Int))).toNat = min 2000 l.length := by split <;> omega
 exact congrArg (fun n => Ent.blk _ [Value.slice a n cp, .int .i64 0] :: E) e1



theorem Text_C {R : Ro} {b : Nat} {a : Option Addr} {cp : Nat} {xs : List Int} {c : Nat} (w0 : World) {a2 : Option Addr} {c2 : Nat} {ys : List (List UInt8)} {j : Nat} {F : List Ent} (ha : RS R 1 encI a xs) (hy : F[j]? = some (.sl 9 1 a2 c2 (ys.map encT))) (hne : 0 < ys.length) (hl : ys.length ≤ 1000000) :
  K.Fn Tryz.prog 18 [.pointer (some ⟨b, 0, none⟩), .slice a2 ys.length c2] w0 R (srcE b a cp xs c :: F) (fun v R' E' => ∃ e' N, E' = N ++ e' :: F ∧ RdPost (.string (str (nth ys (mod (nth xs c) ys.length).toNat))) R (srcE b a cp xs (c + 1)) v R' e' N) := by
 have hr := mod_range (nth xs c) (show (1 : Int) ≤ ys.length by omega)
 refine fE 12 Tryz.func18 ?_
 refine zQ (zG (zR 1 rfl (zN (zU (zQ (zG (zR 4 rfl ?_)))))))
 refine WL.callAt 0 en17 rfl rfl qD (CallOp.mkT rfl rfl rfl rfl) rfl (N_C w0 ha (by constructor <;> omega) _) ?_
 rintro _ _ _ _ - ⟨rfl, rfl, rfl, rfl⟩
 refine WG.y rfl rfl qD (Yl.index tab_ok rfl rfl rfl rfl rfl rfl (fun _ => rfl) qA (by intro _; first | exact HasMem.ownD (j + 1) hy | exact qI)) ?_
 refine' WG.y rfl rfl qD (Yl.load1 tab_ok rfl rfl rfl (fun _ => rfl) ?r1 rfl ?h1) ?_
 case r1 => (exact Rd.slD (j + 1) hy qO)
 case h1 => rfl
 refine zR 1 rfl (zN (zU (zT ?_)))
 refine WE.retF tab_ok [_] rfl ⟨rfl, trivial⟩ (RLe.refl _) ?_
 exact ⟨_, [], rfl, rfl, rfl, rfl, rfl⟩

theorem Text2_C {R : Ro} {b : Nat} {a : Option Addr} {cp : Nat} {xs : List Int} {c : Nat} (w0 : World) {a2 : Option Addr} {c2 : Nat} {ys : List CvS} {j : Nat} {F : List Ent} (ha : RS R 1 encI a xs) (hy : F[j]? = some (.sl 33 3 a2 c2 (ys.map encC))) (hne : 0 < ys.length) (hl : ys.length ≤ 1000000) :
  K.Fn Tryz.prog 31 [.pointer (some ⟨b, 0, none⟩), .slice a2 ys.length c2] w0 R (srcE b a cp xs c :: F) (fun v R' E' => ∃ e' N, E' = N ++ e' :: F ∧ RdPost (.agg #[.slice (nth ys (mod (nth xs c) ys.length).toNat).a (nth ys (mod (nth xs c) ys.length).toNat).cv.vals.length (nth ys (mod (nth xs c) ys.length).toNat).cap, .int .i64 (nth ys (mod (nth xs c) ys.length).toNat).cv.per, .int .i64 (nth ys (mod (nth xs c) ys.length).toNat).cv.inc]) R (srcE b a cp xs (c + 1)) v R' e' N) := by
 have hr := mod_range (nth xs c) (show (1 : Int) ≤ ys.length by omega)
 refine fE 12 Tryz.func31 ?_
 refine zQ (zG ?_)
 refine zA fun b4 => ?_
 refine zN (zU (zQ (zG (zR 4 rfl ?_))))
 refine WL.callAt 1 en17 rfl rfl qD (CallOp.mkT rfl rfl rfl rfl) rfl (N_C w0 ha (by constructor <;> omega) _) ?_
 rintro _ _ _ _ - ⟨rfl, rfl, rfl, rfl⟩
 refine WG.y rfl rfl qD (Yl.index tab_ok rfl rfl rfl rfl rfl rfl (fun _ => rfl) qA (by intro _; first | exact HasMem.ownD (j + 1) hy | exact HasMem.ownD (j + 2) hy | exact qI)) ?_
 refine' WG.y rfl rfl qD (Yl.load1 tab_ok rfl rfl rfl (fun _ => rfl) ?r1 rfl ?h1) ?_
 case r1 => (exact Rd.slD (j + 2) hy qO)
 case h1 => rfl
 refine zE 0 ?_
 refine zN (zU (zT ?_))
 refine WE.retFS (E' := (srcE b a cp xs (c + 1) :: F)) qS tab_ok [_] rfl ⟨⟨_, _, _, rfl, rfl, rfl, qB, rfl⟩, trivial⟩ (RLe.refl _) ?_
 exact ⟨_, [], rfl, rfl, rfl, rfl, rfl⟩

end Go.Proofs.YtmidibkljoaoiaaGreatDoor

/- What a class is sent while it is backlogged, plain, whatever the choice: an invariant of the rounds is carried from tick to tick. No condition. -/
namespace Go.Proofs.YtmidibkljoaoiaaGreatDoor.M
open Go Go.Proofs.YtmidibkljoaoiaaGreatDoor.K

section
variable {σ : Type} {ps : List Pkt} {ch : MS → σ → Int × Nat × σ} {good : MS → σ → Prop} {rel : Nat → Nat → Prop} {classes col k : Nat} {s : RS σ} {J : σ → Int → Int → Int → Int → Prop}
/-- the state at the beginning of a tick -/
def opened (cap : Int) (t : Nat) (s : RS σ) : RS σ := { s with ms := { s.ms with now := t, left := cap }, sent := s.sent.map fun l => l ++ [nth l t] }
end
end Go.Proofs.YtmidibkljoaoiaaGreatDoor.M

/- Weighted round robin while a class is backlogged, plain: what the others take. No condition. -/
namespace Go.Proofs.YtmidibkljoaoiaaGreatDoor.M
open Go Go.Proofs.YtmidibkljoaoiaaGreatDoor.K

section
variable {w : List Int} {z : List Sz} {k : Nat}
/-- what the others may still take, from the beginning of class c on until class k -/
def restR (w : List Int) (z : List Sz) (k c : Nat) : Int := if c ≤ k then qSum k w z k - qSum k w z c else qSum k w z w.length - qSum k w z c + qSum k w z k
def mosts (w : List Int) (z : List Sz) (c : Nat) : Int := nth w c * (nth z c).most
theorem qSum_succ (i : Nat) : qSum k w z (i + 1) = qSum k w z i + (if i ≠ k then mosts w z i else 0) := by
 simp only [qSum, mosts]
 by_cases h : i = k
 ·rw [if_neg (by omega), if_neg (by omega)]
 ·rw [if_pos (by omega), if_pos h]
theorem restR_self : restR w z k k = 0 := by unfold restR; rw [if_pos (Nat.le_refl _)]; omega
theorem restR_next {c : Nat} (hc : c < w.length) (hk : k < w.length) (hne : c ≠ k) : restR w z k ((c + 1) % w.length) = restR w z k c - mosts w z c := by
 have hs := qSum_succ (w := w) (z := z) (k := k) c
 rw [if_pos hne] at hs
 by_cases hl : c + 1 < w.length
 ·rw [Nat.mod_eq_of_lt hl]
  unfold restR
  by_cases h : c ≤ k
  ·rw [if_pos h, if_pos (by omega), hs]; omega
  ·rw [if_neg h, if_neg (by omega), hs]; omega
 ·have e : c + 1 = w.length := by omega
  rw [e, Nat.mod_self]
  unfold restR
  rw [if_pos (Nat.zero_le _), if_neg (by omega), ← e, hs]
  have h0 : qSum k w z 0 = 0 := rfl
  omega
theorem restR_first (hk : k < w.length) : restR w z k ((k + 1) % w.length) = qSum k w z w.length := by
 have hs := qSum_succ (w := w) (z := z) (k := k) k
 rw [if_neg (by omega)] at hs
 by_cases hl : k + 1 < w.length
 ·rw [Nat.mod_eq_of_lt hl]
  unfold restR
  rw [if_neg (by omega), hs]; omega
 ·have e : k + 1 = w.length := by omega
  rw [e, Nat.mod_self]
  unfold restR
  rw [if_pos (Nat.zero_le _), ← e, hs]
  have h0 : qSum k w z 0 = 0 := rfl
  omega
/-- in class c, l packets of whose visit are to come and op bytes of the open one -/
def JR (w : List Int) (z : List Sz) (k c : Nat) (l op own oth : Int) : Prop :=
  c < w.length ∧ 0 ≤ l ∧
  if c = k then ∃ f : Nat, oth ≤ qSum k w z w.length * f ∧ nth w k * (nth z k).least * f ≤ own + op + l * (nth z k).least ∧ nth w k * (nth z k).least * ((f : Int) - 1) ≤ own
  else ∃ f : Nat, oth + op + l * (nth z c).most + (restR w z k c - mosts w z c) ≤ qSum k w z w.length * ((f : Int) + 1) ∧ nth w k * (nth z k).least * f ≤ own
theorem JR.next (hw : ∀ x ∈ w, 1 ≤ x) (hz : ∀ c, c < w.length → 0 ≤ (nth z c).least ∧ (nth z c).least ≤ (nth z c).most) (hk : k < w.length) (hn : 2 ≤ w.length) {c : Nat} {l own oth : Int} (h : JR w z k c l 0 own oth) (hl : c = k → l ≤ 0) :
  JR w z k ((c + 1) % w.length) (nth w ((c + 1) % w.length)) 0 own oth := by
 obtain ⟨h1, h2, h3⟩ := h
 have hlt : (c + 1) % w.length < w.length := Nat.mod_lt _ (by omega)
 have hwc := hw _ (nth_mem hlt)
 refine ⟨hlt, by omega, ?_⟩
 by_cases hck : c = k
 ·subst hck
  rw [if_pos rfl] at h3
  obtain ⟨f, f1, f2, f3⟩ := h3
  have hne : (c + 1) % w.length ≠ c := by
   by_cases hh : c + 1 < w.length
   ·rw [Nat.mod_eq_of_lt hh]; omega
   ·rw [show c + 1 = w.length by omega, Nat.mod_self]; omega
  rw [if_neg hne]
  refine ⟨f, ?_, ?_⟩
  ·rw [restR_first hk]
   show oth + 0 + mosts w z ((c + 1) % w.length) + (_ - mosts w z ((c + 1) % w.length)) ≤ _
   rw [Int.mul_add, Int.mul_one]; omega
  ·have : l = 0 := by have := hl rfl; omega
   rw [this] at f2
   simpa using f2
 ·rw [if_neg hck] at h3
  obtain ⟨f, f1, f2⟩ := h3
  have hr := restR_next (z := z) h1 hk hck
  have hl0 : 0 ≤ l * (nth z c).most := Int.mul_nonneg h2 (by have := hz c h1; omega)
  by_cases hnk : (c + 1) % w.length = k
  ·rw [if_pos hnk, hnk]
   rw [hnk, restR_self] at hr
   refine ⟨f + 1, ?_, ?_, ?_⟩
   ·have : ((f + 1 : Nat) : Int) = (f : Int) + 1 := by omega
    rw [this]; omega
   ·have : ((f + 1 : Nat) : Int) = (f : Int) + 1 := by omega
    rw [this, Int.mul_add, Int.mul_one]; omega
   ·have : ((f + 1 : Nat) : Int) - 1 = (f : Int) := by omega
    rw [this]; exact f2
  ·rw [if_neg hnk]
   refine ⟨f, ?_, f2⟩
   show oth + 0 + mosts w z ((c + 1) % w.length) + (_ - mosts w z ((c + 1) % w.length)) ≤ _
   omega
end
end Go.Proofs.YtmidibkljoaoiaaGreatDoor.M

/- Weighted round robin: the invariant of the rounds while a class is backlogged, plain. No condition. -/
namespace Go.Proofs.YtmidibkljoaoiaaGreatDoor.M
open Go Go.Proofs.YtmidibkljoaoiaaGreatDoor.K

section
variable {σ : Type} {ps : List Pkt} {ch : MS → σ → Int × Nat × σ} {good : MS → σ → Prop} {rel : Nat → Nat → Prop} {classes k : Nat} {V : σ → Int → Int → Prop}
end
/-! ### round robin -/
section
variable {ps : List Pkt} {w : List Int} {z : List Sz} {k : Nat}
end
end Go.Proofs.YtmidibkljoaoiaaGreatDoor.M

/- Shares over one run: what the others are sent while a class is backlogged, plain. No condition. -/
namespace Go.Proofs.YtmidibkljoaoiaaGreatDoor.M
open Go Go.Proofs.YtmidibkljoaoiaaGreatDoor.K

section
variable {σ : Type} {ps : List Pkt} {ch : MS → σ → Int × Nat × σ} {good : MS → σ → Prop} {rel : Nat → Nat → Prop} {classes k : Nat}
end
end Go.Proofs.YtmidibkljoaoiaaGreatDoor.M

/- What a flow keeps: the least curve of a trace, plain. No condition. -/
namespace Go.Proofs.YtmidibkljoaoiaaGreatDoor.M
open Go Go.Proofs.YtmidibkljoaoiaaGreatDoor.K

theorem pbytes_congr {flow t t' : Int} : ∀ (ps : List Pkt), (∀ p ∈ ps, p.time < t ↔ p.time < t') → pbytes flow t ps = pbytes flow t' ps
 | [], _ => rfl
 | p :: ps, h => by
  have h1 := h p (by simp)
  have ih := pbytes_congr (flow := flow) ps (fun q hq => h q (by simp [hq]))
  simp only [pbytes]
  rw [ih]
  congr 1
  have e : hit flow t p ↔ hit flow t' p := by unfold hit; rw [h1]
  by_cases hh : hit flow t p
  ·rw [if_pos hh, if_pos (e.1 hh)]
  ·rw [if_neg hh, if_neg (fun h2 => hh (e.2 h2))]
theorem nth_up {vs : List Int} {en : Nat} (hm : ∀ j, j < en → nth vs j ≤ nth vs (j + 1)) {a b : Nat} (hab : a ≤ b) (hb : b ≤ en) : nth vs a ≤ nth vs b := by
  induction b with
  | zero => obtain rfl : a = 0 := by omega
            exact Int.le_refl _
  | succ b ih =>
    by_cases e : a = b + 1
    · subst e; exact Int.le_refl _
    · have h1 := ih (by omega) (by omega)
      have h2 := hm b (by omega)
      omega
theorem keeps {ps : List Pkt} {flow : Int} (hsort : ps.Pairwise fun a b => a.time ≤ b.time) {en : Nat} (hen : ∀ p ∈ ps, 0 ≤ p.time ∧ p.time < en) {vs : List Int} (h0 : ∀ j, j ≤ en → 0 ≤ nth vs j) (hm : ∀ j, j < en → nth vs j ≤ nth vs (j + 1))
  (hP : ∀ i, i < ps.length → ∀ T t : Nat, (nth ps i).time = T → T ≤ t → t ≤ en → pbytes flow (t : Int) ps - pbytes flow (T : Int) ps ≤ nth vs (t - T)) {x t : Nat} (hxt : x ≤ t) : pbytes flow (t : Int) ps - pbytes flow (x : Int) ps ≤ nth vs (min (t - x) en) := by
 have hnn := h0 (min (t - x) en) (by omega)
 by_cases hex : ∃ i, i < ps.length ∧ (x : Int) ≤ (nth ps i).time ∧ (nth ps i).time < t
 ·obtain ⟨i0, i1, i2, i3⟩ := hex
  rcases findFrom_cases (fun i => decide ((x : Int) ≤ (nth ps i).time)) ps.length 0 with ⟨j, j1, j2, _, j4, j5⟩ | ⟨_, h2⟩
  ·have j4 := of_decide_eq_true j4
   have hji : j ≤ i0 := by
    apply Classical.byContradiction
    intro hn
    have := of_decide_eq_false (j5 i0 (Nat.zero_le _) (by omega))
    exact this i2
   have hle : ∀ i, j ≤ i → i < ps.length → (nth ps j).time ≤ (nth ps i).time := fun i h1 h2 => by
    by_cases e : j = i
    ·subst e; exact Int.le_refl _
    ·have := List.pairwise_iff_getElem.1 hsort j i (by omega) h2 (by omega)
     rwa [← nth_eq (show j < ps.length by omega), ← nth_eq h2] at this
   have hj := hen _ (nth_mem (xs := ps) (k := j) (by omega))
   obtain ⟨T, hT⟩ := Int.eq_ofNat_of_zero_le hj.1
   have hTi := hle i0 hji i1
   have e1 : pbytes flow (x : Int) ps = pbytes flow (T : Int) ps := by
    refine pbytes_congr ps (all_of_nth (fun i hi => ?_))
    constructor
    ·intro h; omega
    ·intro h
     apply Classical.byContradiction
     intro hn
     by_cases hij : i < j
     ·have := of_decide_eq_false (j5 i (Nat.zero_le _) hij)
      omega
     ·have := hle i (by omega) hi
      omega
   have e2 : pbytes flow (t : Int) ps = pbytes flow ((min t en : Nat) : Int) ps := by
    refine pbytes_congr ps (fun p hp => ?_)
    have := hen p hp
    omega
   have h3 := hP j (by omega) T (min t en) hT (by omega) (by omega)
   have h4 := nth_up hm (a := min t en - T) (b := min (t - x) en) (by omega) (by omega)
   omega
  ·exact absurd i2 (of_decide_eq_false (h2 i0 (Nat.zero_le _) (by omega)))
 ·have e : pbytes flow (t : Int) ps = pbytes flow (x : Int) ps := by
   refine pbytes_congr ps (all_of_nth (fun i hi => ?_))
   constructor
   ·intro h
    apply Classical.byContradiction
    intro hn
    exact hex ⟨i, hi, by omega, h⟩
   ·intro h; omega
  omega
end Go.Proofs.YtmidibkljoaoiaaGreatDoor.M

/- Any line that is never idle and keeps the order within a class: service and waits of a class, plain. No condition. -/
namespace Go.Proofs.YtmidibkljoaoiaaGreatDoor.M
open Go Go.Proofs.YtmidibkljoaoiaaGreatDoor.K

section
variable {σ : Type} {ps : List Pkt} {ch : MS → σ → Int × Nat × σ} {good : MS → σ → Prop} {rel : Nat → Nat → Prop} {classes col k : Nat} {s : RS σ}
end
end Go.Proofs.YtmidibkljoaoiaaGreatDoor.M
namespace Go.Proofs.YtmidibkljoaoiaaGreatDoor.M
open Go Go.Proofs.YtmidibkljoaoiaaGreatDoor.K
end Go.Proofs.YtmidibkljoaoiaaGreatDoor.M

/- The curve of deficit round robin, plain: it repeats itself from some tick on, so that the program's and the references' forms are one. No condition. -/
namespace Go.Proofs.YtmidibkljoaoiaaGreatDoor.M
open Go Go.Proofs.YtmidibkljoaoiaaGreatDoor.K

/-- the quanta of the other classes that have packets, and what they may have saved -/
def xSum (k : Int) (w : List Int) (z : List Sz) : Nat → Int
  | 0 => 0
  | n + 1 => xSum k w z n + (if (n : Int) ≠ k ∧ 1 ≤ (nth z n).most then nth w n else 0)
def zSum (k : Int) (z : List Sz) : Nat → Int
  | 0 => 0
  | n + 1 => zSum k z n + (if (n : Int) ≠ k ∧ 1 ≤ (nth z n).most then (nth z n).most - 1 else 0)
section
variable {cap s q l z : Int}
end
end Go.Proofs.YtmidibkljoaoiaaGreatDoor.M

/- Deficit round robin while a class is backlogged, plain: what the others take. No condition. -/
namespace Go.Proofs.YtmidibkljoaoiaaGreatDoor.M
open Go Go.Proofs.YtmidibkljoaoiaaGreatDoor.K

def sumF (f : Nat → Int) : Nat → Int
  | 0 => 0
  | n + 1 => sumF f n + f n
theorem sumF_congr {f g : Nat → Int} : ∀ {n : Nat}, (∀ i, i < n → f i = g i) → sumF f n = sumF g n
 | 0, _ => rfl
 | n + 1, h => by simp only [sumF]; rw [sumF_congr (fun i hi => h i (by omega)), h n (by omega)]
theorem sumF_le {f g : Nat → Int} : ∀ {n : Nat}, (∀ i, i < n → f i ≤ g i) → sumF f n ≤ sumF g n
 | 0, _ => Int.le_refl _
 | n + 1, h => by have a := sumF_le (fun i hi => h i (by omega) : ∀ i, i < n → f i ≤ g i); have b := h n (by omega); simp only [sumF]; omega
theorem sumF_change {f g : Nat → Int} {c : Nat} : ∀ {n : Nat}, c < n → (∀ i, i < n → i ≠ c → g i = f i) → sumF g n = sumF f n + (g c - f c)
 | 0, h, _ => by omega
 | n + 1, hc, h => by
  simp only [sumF]
  by_cases e : c = n
  ·subst e
   rw [sumF_congr (fun i hi => h i (by omega) (by omega) : ∀ i, i < c → g i = f i)]; omega
  ·rw [sumF_change (by omega) (fun i hi hne => h i (by omega) hne : ∀ i, i < n → i ≠ c → g i = f i), h n (by omega) (by omega)]; omega
theorem sumF_add {f g : Nat → Int} : ∀ {n : Nat}, sumF (fun i => f i + g i) n = sumF f n + sumF g n
 | 0 => rfl
 | n + 1 => by simp only [sumF]; rw [sumF_add]; omega
def xF (k : Nat) (w : List Int) (z : List Sz) (i : Nat) : Int := if i ≠ k ∧ 1 ≤ (nth z i).most then nth w i else 0
theorem xSum_eq {k : Nat} {w : List Int} {z : List Sz} : ∀ n : Nat, xSum k w z n = sumF (xF k w z) n
 | 0 => rfl
 | n + 1 => by
  simp only [xSum, sumF, xSum_eq n]
  congr 1
  unfold xF
  by_cases h : n ≠ k ∧ 1 ≤ (nth z n).most
  ·rw [if_pos h, if_pos ⟨by omega, h.2⟩]
  ·rw [if_neg h, if_neg (fun hh => h ⟨by omega, hh.2⟩)]
/-- the quantum of class i is still to be given before class k's next one -/
def pend (k c : Nat) (b : Bool) (i : Nat) : Bool := if c = k then b else (decide (i ≠ c) || !b) && (if c ≤ k then decide (c ≤ i ∧ i < k) else decide (c ≤ i ∨ i < k))
theorem pend_iff {k c i : Nat} {b : Bool} : pend k c b i = true ↔ (c = k ∧ b = true) ∨ (c ≠ k ∧ (i ≠ c ∨ b = false) ∧ ((c ≤ k ∧ c ≤ i ∧ i < k) ∨ (¬ c ≤ k ∧ (c ≤ i ∨ i < k)))) := by
 unfold pend
 by_cases h1 : c = k
 ·rw [if_pos h1]; simp [h1]
 ·rw [if_neg h1]
  by_cases h2 : c ≤ k
  ·rw [if_pos h2]; cases b <;> simp [h1, h2]
  ·rw [if_neg h2]; cases b <;> simp [h1, h2]
theorem pend_next {k c n i : Nat} (hc : c < n) (hk : k < n) (hn : 2 ≤ n) (hi : i < n) (hik : i ≠ k) : pend k ((c + 1) % n) false i = pend k c true i := by
 rw [mod_succ hc, Bool.eq_iff_iff, pend_iff, pend_iff]
 have e1 : (false = true) = False := by simp
 have e2 : (true = false) = False := by simp
 by_cases hl : c + 1 < n
 ·rw [if_pos hl, e1, e2]
  simp only [and_false, or_false, and_true, or_true, true_and, false_or]
  omega
 ·rw [if_neg hl, e1, e2]
  simp only [and_false, or_false, and_true, or_true, true_and, false_or]
  omega
theorem pend_self {k c : Nat} (h : c ≠ k) : pend k c true c = false := by unfold pend; rw [if_neg h]; simp
theorem pend_self' {k c : Nat} (h : c ≠ k) : pend k c false c = true := by unfold pend; rw [if_neg h]; split <;> simp <;> omega
theorem pend_other {k c i : Nat} {b : Bool} (h : c ≠ k) (hi : i ≠ c) : pend k c b i = pend k c true i := by unfold pend; rw [if_neg h, if_neg h]; simp [hi]
theorem pend_k {k i : Nat} {b : Bool} : pend k k b i = b := by unfold pend; rw [if_pos rfl]
/-- deficits saved, and quanta to come -/
def potF (w : List Int) (z : List Sz) (k c : Nat) (b : Bool) (d : List Int) (i : Nat) : Int := if i ≠ k ∧ 1 ≤ (nth z i).most then nth d i + (if pend k c b i = true then nth w i else 0) else 0
/-- the deficits: what is saved is less than a packet, but of the class that is visited -/
def DD (n : Nat) (z : List Sz) (c : Nat) (b : Bool) (d : List Int) : Prop := c < n ∧ d.length = n ∧ ∀ i, i < n → 0 ≤ nth d i ∧ (¬ (i = c ∧ b = true) → 1 ≤ (nth z i).most → nth d i ≤ (nth z i).most - 1)
def JD (w : List Int) (z : List Sz) (k c : Nat) (b : Bool) (d : List Int) (op own oth : Int) : Prop :=
  DD w.length z c b d ∧ ∃ v : Nat, oth + (if c = k then 0 else op) + sumF (potF w z k c b d) w.length ≤ ((v : Int) + 1) * xSum k w z w.length + zSum k z w.length ∧
    (v : Int) * nth w k ≤ own + (if c = k then op else 0) + nth d k ∧ (c = k → b = true → ((v : Int) - 1) * nth w k - ((nth z k).most - 1) ≤ own)
section
variable {nx sz : Int → Int} {w : List Int} {z : List Sz} {k : Nat}
theorem DD.grant (hw : ∀ x ∈ w, 1 ≤ x) {c : Nat} {b : Bool} {d : List Int} (h : DD w.length z c b d) (h0 : 0 ≤ nx c) : DD w.length z c true (M.grant nx w c b d) := by
 obtain ⟨h1, h2, h3⟩ := h
 refine ⟨h1, by rw [grant_len]; exact h2, fun i hi => ?_⟩
 have a := h3 i hi
 by_cases e : i = c
 ·subst e
  refine ⟨?_, fun hn => absurd ⟨rfl, rfl⟩ hn⟩
  rw [grant_self (by omega)]
  have := hw _ (nth_mem hi)
  split <;> omega
 ·rw [grant_ne e]
  exact ⟨a.1, fun _ hm => a.2 (fun hh => e hh.1) hm⟩
theorem DD.pick {c : Nat} {d : List Int} (h : DD w.length z c true d) {s : Int} (hs : s ≤ nth d c) : DD w.length z c true (d.set c (nth d c - s)) := by
 obtain ⟨h1, h2, h3⟩ := h
 refine ⟨h1, by rw [List.length_set]; exact h2, fun i hi => ?_⟩
 have a := h3 i hi
 by_cases e : i = c
 ·subst e
  rw [nth_set_self (by omega)]
  exact ⟨by omega, fun hn => absurd ⟨rfl, rfl⟩ hn⟩
 ·rw [nth_set_ne (Ne.symm e)]
  exact ⟨a.1, fun _ hm => a.2 (fun hh => e hh.1) hm⟩
theorem DD.next {c : Nat} {b : Bool} {d : List Int} (h : DD w.length z c b d) (hlt : 1 ≤ (nth z c).most → nth d c ≤ (nth z c).most - 1) : DD w.length z ((c + 1) % w.length) false d := by
 obtain ⟨h1, h2, h3⟩ := h
 refine ⟨Nat.mod_lt _ (by omega), h2, fun i hi => ?_⟩
 have a := h3 i hi
 refine ⟨a.1, fun _ hm => ?_⟩
 by_cases e : i = c
 ·subst e; exact hlt hm
 ·exact a.2 (fun hh => e hh.1) hm
theorem JD.grant (hw : ∀ x ∈ w, 1 ≤ x) (hk : k < w.length) (hL : 1 ≤ (nth z k).most) {c : Nat} {b : Bool} {d : List Int} {own oth : Int} (h : JD w z k c b d 0 own oth) (h0 : 0 ≤ nx c) : JD w z k c true (M.grant nx w c b d) 0 own oth := by
 obtain ⟨hd, v, a1, a2, a3⟩ := h
 refine ⟨hd.grant hw h0, ?_⟩
 have hcl : c < d.length := by rw [hd.2.1]; exact hd.1
 cases b with
 | true =>
  have e : M.grant nx w c true d = d := by unfold M.grant; rw [if_neg (by simp)]
  rw [e]; exact ⟨v, a1, a2, a3⟩
 | false =>
  have eg : nth (M.grant nx w c false d) c = nth d c + nth w c := by rw [grant_self hcl, if_pos ⟨h0, rfl⟩]
  by_cases hck : c = k
  ·subst hck
   rw [if_pos rfl] at a1 a2
   refine ⟨v + 1, ?_, ?_, fun _ _ => ?_⟩
   ·rw [if_pos rfl]
    have e : sumF (potF w z c c true (M.grant nx w c false d)) w.length = sumF (potF w z c c false d) w.length + xSum c w z w.length := by
     rw [xSum_eq, ← sumF_add]
     refine sumF_congr (fun i hi => ?_)
     unfold potF xF
     by_cases hh : i ≠ c ∧ 1 ≤ (nth z i).most
     ·rw [if_pos hh, if_pos hh, if_pos hh, grant_ne hh.1, pend_k, pend_k, if_pos rfl, if_neg (by simp)]; omega
     ·rw [if_neg hh, if_neg hh, if_neg hh]; omega
    rw [e]
    have e2 : (((v + 1 : Nat) : Int) + 1) * xSum c w z w.length = ((v : Int) + 1) * xSum c w z w.length + xSum c w z w.length := by rw [show (((v + 1 : Nat) : Int) + 1) = ((v : Int) + 1) + 1 by omega, Int.add_mul, Int.one_mul]
    rw [e2]; omega
   ·rw [if_pos rfl, eg]
    have e2 : (((v + 1 : Nat) : Int)) * nth w c = (v : Int) * nth w c + nth w c := by rw [show ((v + 1 : Nat) : Int) = (v : Int) + 1 by omega, Int.add_mul, Int.one_mul]
    rw [e2]; omega
   ·have hdk := (hd.2.2 c hk).2 (by simp) hL
    rw [show (((v + 1 : Nat) : Int) - 1) = (v : Int) by omega]
    omega
  ·rw [if_neg hck] at a1 a2
   refine ⟨v, ?_, ?_, fun h => absurd h hck⟩
   ·rw [if_neg hck]
    have e : sumF (potF w z k c true (M.grant nx w c false d)) w.length = sumF (potF w z k c false d) w.length := by
     refine sumF_congr (fun i hi => ?_)
     unfold potF
     by_cases hh : i ≠ k ∧ 1 ≤ (nth z i).most
     ·rw [if_pos hh, if_pos hh]
      by_cases e : i = c
      ·subst e
       rw [eg, pend_self hck, pend_self' hck, if_neg (by simp), if_pos rfl]; omega
      ·rw [grant_ne e, pend_other (b := false) hck e]
     ·rw [if_neg hh, if_neg hh]
    rw [e]; exact a1
   ·rw [if_neg hck, grant_ne (Ne.symm hck)]; exact a2
theorem JD.pick {c : Nat} {d : List Int} {own oth : Int} (h : JD w z k c true d 0 own oth) {s : Int} (hs : s ≤ nth d c) (hm : 1 ≤ (nth z c).most) : JD w z k c true (d.set c (nth d c - s)) s own oth := by
 obtain ⟨hd, v, a1, a2, a3⟩ := h
 have hcl : c < d.length := by rw [hd.2.1]; exact hd.1
 refine ⟨hd.pick hs, v, ?_, ?_, a3⟩
 ·by_cases hck : c = k
  ·subst hck
   rw [if_pos rfl] at a1 ⊢
   have e : sumF (potF w z c c true (d.set c (nth d c - s))) w.length = sumF (potF w z c c true d) w.length := by
    refine sumF_congr (fun i hi => ?_)
    unfold potF
    by_cases hh : i ≠ c ∧ 1 ≤ (nth z i).most
    ·rw [if_pos hh, if_pos hh, nth_set_ne (Ne.symm hh.1)]
    ·rw [if_neg hh, if_neg hh]
   rw [e]; exact a1
  ·rw [if_neg hck] at a1 ⊢
   have e : sumF (potF w z k c true (d.set c (nth d c - s))) w.length = sumF (potF w z k c true d) w.length + (potF w z k c true (d.set c (nth d c - s)) c - potF w z k c true d c) := by
    refine sumF_change hd.1 (fun i hi hne => ?_)
    unfold potF
    rw [nth_set_ne (Ne.symm hne)]
   have e2 : potF w z k c true (d.set c (nth d c - s)) c - potF w z k c true d c = - s := by
    unfold potF
    have hcm : c ≠ k ∧ 1 ≤ (nth z c).most := ⟨hck, hm⟩
    rw [if_pos hcm, if_pos hcm, nth_set_self hcl]; omega
   rw [e, e2]; omega
 ·by_cases hck : c = k
  ·subst hck
   rw [if_pos rfl] at a2 ⊢
   rw [nth_set_self hcl]; omega
  ·rw [if_neg hck] at a2 ⊢
   rw [nth_set_ne hck]; exact a2
theorem JD.next (hw : ∀ x ∈ w, 1 ≤ x) (hk : k < w.length) (hn : 2 ≤ w.length) {c : Nat} {d : List Int} {own oth : Int} (h : JD w z k c true d 0 own oth) (hlt : 1 ≤ (nth z c).most → nth d c ≤ (nth z c).most - 1) : JD w z k ((c + 1) % w.length) false d 0 own oth := by
 obtain ⟨hd, v, a1, a2, a3⟩ := h
 refine ⟨hd.next hlt, v, ?_, ?_, fun _ h => by cases h⟩
 ·have e : sumF (potF w z k ((c + 1) % w.length) false d) w.length = sumF (potF w z k c true d) w.length := by
   refine sumF_congr (fun i hi => ?_)
   unfold potF
   by_cases hh : i ≠ k ∧ 1 ≤ (nth z i).most
   ·rw [if_pos hh, if_pos hh, pend_next hd.1 hk hn hi hh.1]
   ·rw [if_neg hh, if_neg hh]
  rw [e]
  split <;> split at a1 <;> omega
 ·split <;> split at a2 <;> omega
/-- a class without a waiting packet loses its deficit -/
theorem JD.skip (hw : ∀ x ∈ w, 1 ≤ x) (hk : k < w.length) (hn : 2 ≤ w.length) {c : Nat} {b : Bool} {d : List Int} {own oth : Int} (h : JD w z k c b d 0 own oth) (hck : c ≠ k) : JD w z k ((c + 1) % w.length) false (d.set c 0) 0 own oth := by
 obtain ⟨hd, v, a1, a2, a3⟩ := h
 have hcl : c < d.length := by rw [hd.2.1]; exact hd.1
 have hd2 : DD w.length z c b (d.set c 0) := by
  refine ⟨hd.1, by rw [List.length_set]; exact hd.2.1, fun i hi => ?_⟩
  by_cases e : i = c
  ·subst e
   rw [nth_set_self hcl]
   exact ⟨Int.le_refl _, fun _ hm => by omega⟩
  ·rw [nth_set_ne (Ne.symm e)]; exact hd.2.2 i hi
 refine ⟨hd2.next (fun hm => by rw [nth_set_self hcl]; omega), v, ?_, ?_, fun _ h => by cases h⟩
 ·have e : sumF (potF w z k ((c + 1) % w.length) false (d.set c 0)) w.length ≤ sumF (potF w z k c b d) w.length := by
   refine sumF_le (fun i hi => ?_)
   unfold potF
   by_cases hh : i ≠ k ∧ 1 ≤ (nth z i).most
   ·rw [if_pos hh, if_pos hh, pend_next hd.1 hk hn hi hh.1]
    by_cases e : i = c
    ·subst e
     rw [nth_set_self hcl, pend_self hck, if_neg (by simp)]
     have := (hd.2.2 i hi).1
     have := hw _ (nth_mem hi)
     split <;> omega
    ·rw [nth_set_ne (Ne.symm e), pend_other (b := b) hck e]; exact Int.le_refl _
   ·rw [if_neg hh, if_neg hh]; exact Int.le_refl _
  rw [if_neg hck] at a1
  split <;> omega
 ·rw [nth_set_ne hck]
  rw [if_neg hck] at a2
  split <;> omega
end
section
variable {ps : List Pkt} {w : List Int} {z : List Sz} {k : Nat}
/-- where every run stands -/
def V0 (w : List Int) (z : List Sz) (c : Nat) (b : Bool) (d : List Int) (op : Int) : Prop := DD w.length z c b d ∧ (b = true → 1 ≤ (nth z c).most → nth d c + op ≤ (nth z c).most - 1 + nth w c)
theorem V0.grant (hw : ∀ x ∈ w, 1 ≤ x) {nx : Int → Int} {c : Nat} {b : Bool} {d : List Int} (h : V0 w z c b d 0) (h0 : 0 ≤ nx c) : V0 w z c true (M.grant nx w c b d) 0 := by
 obtain ⟨hd, h1⟩ := h
 have hcl : c < d.length := by rw [hd.2.1]; exact hd.1
 refine ⟨hd.grant hw h0, fun _ hm => ?_⟩
 rw [grant_self hcl]
 cases b with
 | true => rw [if_neg (by simp)]; exact h1 rfl hm
 | false =>
  rw [if_pos ⟨h0, rfl⟩]
  have := (hd.2.2 c hd.1).2 (by simp) hm
  omega
end
end Go.Proofs.YtmidibkljoaoiaaGreatDoor.M

/- Weighted and deficit round robin: the curve of a class is what it is served while it is backlogged, plain. No condition. -/
namespace Go.Proofs.YtmidibkljoaoiaaGreatDoor.M
open Go Go.Proofs.YtmidibkljoaoiaaGreatDoor.K

section
variable {σ : Type} {ps : List Pkt} {ch : MS → σ → Int × Nat × σ} {good : MS → σ → Prop} {classes k : Nat}
end
end Go.Proofs.YtmidibkljoaoiaaGreatDoor.M

/- Time slots, plain: what every run of such a line keeps. No condition. -/
namespace Go.Proofs.YtmidibkljoaoiaaGreatDoor.M
open Go Go.Proofs.YtmidibkljoaoiaaGreatDoor.K

/-- the rest of a packet has room in the ticks in a row from t on -/
def Fits (tb : List Int) (cap : Int) (t : Nat) (left rest : Int) : Prop := (∀ i, slotT tb i = slotT tb t) ∨ ∃ n : Nat, (∀ j, j ≤ n → slotT tb (t + j) = slotT tb t) ∧ rest ≤ left + cap * n
theorem Fits.next {tb : List Int} {cap : Int} {t : Nat} {rest : Int} (h : Fits tb cap t 0 rest) (hr : 1 ≤ rest) : slotT tb (t + 1) = slotT tb t ∧ Fits tb cap (t + 1) cap rest := by
 rcases h with h | ⟨n, h1, h2⟩
 ·exact ⟨h _, .inl (fun i => by rw [h i, h (t + 1)])⟩
 ·cases n with
  | zero => simp at h2; omega
  | succ n =>
   have e := h1 1 (by omega)
   refine ⟨e, .inr ⟨n, fun j hj => ?_, ?_⟩⟩
   ·rw [show t + 1 + j = t + (j + 1) by omega, h1 (j + 1) (by omega), e]
   ·rw [Int.natCast_add, Int.mul_add] at h2
    simp at h2; omega
section
variable {ps : List Pkt} {cap : Int} {tb : List Int} {classes : Nat}
end
end Go.Proofs.YtmidibkljoaoiaaGreatDoor.M

/- Time slots, plain: a class is sent what it is sent alone. No condition. -/
namespace Go.Proofs.YtmidibkljoaoiaaGreatDoor.M
open Go Go.Proofs.YtmidibkljoaoiaaGreatDoor.K

structure Sel (ps : List Pkt) (k : Int) (qs : List Pkt) (ix : Nat → Nat) : Prop where
  at_ : ∀ j, j < qs.length → ix j < ps.length ∧ (nth ps (ix j)).flow = k ∧ nth qs j = nth ps (ix j)
  mono : ∀ j j', j < j' → j' < qs.length → ix j < ix j'
  onto : ∀ i, i < ps.length → (nth ps i).flow = k → ∃ j, j < qs.length ∧ ix j = i
section
variable {ps qs : List Pkt} {cap : Int} {tb : List Int} {classes k : Nat} {ix : Nat → Nat}
theorem Sel.inj (h : Sel ps k qs ix) {j j' : Nat} (hj : j < qs.length) (hj' : j' < qs.length) (e : ix j = ix j') : j = j' := by
 rcases Nat.lt_trichotomy j j' with h1 | h1 | h1
 ·have := h.mono _ _ h1 hj'; omega
 ·exact h1
 ·have := h.mono _ _ h1 hj; omega
/-- the first packet of the class that waits, here and there -/
theorem Sel.next (h : Sel ps k qs ix) {ms ms' : MS} (hnow : ms'.now = ms.now) (hb : ∀ j, j < qs.length → nth ms'.begun j = nth ms.begun (ix j)) :
  (nextW qs ms' k < 0 ∧ nextW ps ms k < 0) ∨ (0 ≤ nextW qs ms' k ∧ (nextW qs ms' k).toNat < qs.length ∧ nextW ps ms k = ix (nextW qs ms' k).toNat) := by
 have hP : ∀ j, j < qs.length → nextP qs ms' k j = nextP ps ms k (ix j) := fun j hj => by
  obtain ⟨_, h2, h3⟩ := h.at_ j hj
  unfold nextP
  rw [hnow, hb j hj, h3]
 unfold nextW
 rcases findN_cases (nextP qs ms' k) qs.length with ⟨j, j1, j2, j3, j4⟩ | ⟨j1, j2⟩
 ·right
  rw [j2, Int.toNat_natCast]
  refine ⟨by omega, j1, ?_⟩
  refine findN_some (h.at_ j j1).1 (by rw [← hP j j1]; exact j3) (fun i hi => ?_)
  by_cases hf : (nth ps i).flow = k
  ·obtain ⟨j', e1, e2⟩ := h.onto i (by have := (h.at_ j j1).1; omega) hf
   have hlt : j' < j := by
    apply Classical.byContradiction
    intro hn
    by_cases e : j' = j
    ·subst e; omega
    ·have := h.mono j j' (by omega) e1; omega
   have := j4 j' hlt
   rw [hP j' e1, e2] at this; exact this
  ·unfold nextP
   have : ((nth ps i).flow == (k : Int)) = false := by simpa using hf
   rw [this]; simp
 ·left
  refine ⟨by rw [j1]; omega, ?_⟩
  rw [findN_none (fun i hi => ?_)]
  ·omega
  ·by_cases hf : (nth ps i).flow = k
   ·obtain ⟨j', e1, e2⟩ := h.onto i hi hf
    have := j2 j' e1
    rw [hP j' e1, e2] at this; exact this
   ·unfold nextP
    have : ((nth ps i).flow == (k : Int)) = false := by simpa using hf
    rw [this]; simp
end
end Go.Proofs.YtmidibkljoaoiaaGreatDoor.M

/- Time slots, plain: the curve of a class, and that it is what the class is served. No condition. -/
namespace Go.Proofs.YtmidibkljoaoiaaGreatDoor.M
open Go Go.Proofs.YtmidibkljoaoiaaGreatDoor.K

section
variable {cap lost : Int} {mine : Nat → Bool} {a : Nat}
end
section
variable {ps : List Pkt} {cap : Int} {tb : List Int} {classes k : Nat}
end
end Go.Proofs.YtmidibkljoaoiaaGreatDoor.M

/- Time slots, plain: packets are sent within ticks in a row that belong to their class; a class that has all ticks is sent what a line in order of arrival sends it. No condition. -/
namespace Go.Proofs.YtmidibkljoaoiaaGreatDoor.M
open Go Go.Proofs.YtmidibkljoaoiaaGreatDoor.K

section
variable {σ : Type} {ps : List Pkt} {ch : MS → σ → Int × Nat × σ} {good : MS → σ → Prop} {rel : Nat → Nat → Prop} {classes col k : Nat} {s : RS σ}
end
section
variable {ps : List Pkt} {cap : Int} {tb : List Int} {classes : Nat}
/-! ### a class that has all ticks -/
end
end Go.Proofs.YtmidibkljoaoiaaGreatDoor.M

/- Priorities, plain: what a class is served. No condition. -/
namespace Go.Proofs.YtmidibkljoaoiaaGreatDoor.M
open Go Go.Proofs.YtmidibkljoaoiaaGreatDoor.K

section
variable {ps : List Pkt} {n k : Nat}
end
end Go.Proofs.YtmidibkljoaoiaaGreatDoor.M

/- What a curve leaves of a line, plain: the program and the reference make the same. No condition. -/
namespace Go.Proofs.YtmidibkljoaoiaaGreatDoor.M
open Go Go.Proofs.YtmidibkljoaoiaaGreatDoor.K

section
variable {f : Nat → Int} {s P : Nat} {D : Int}
end
section
variable {cap : Int} {b : Cv}
end
/-! ### the line itself; what the walk of Rest keeps -/
end Go.Proofs.YtmidibkljoaoiaaGreatDoor.M

/- Deficit round robin, plain: greater quanta and packets of others leave less. No condition. -/
namespace Go.Proofs.YtmidibkljoaoiaaGreatDoor.M
open Go Go.Proofs.YtmidibkljoaoiaaGreatDoor.K

end Go.Proofs.YtmidibkljoaoiaaGreatDoor.M

/- Priorities, plain: the curve of a class. No condition. -/
namespace Go.Proofs.YtmidibkljoaoiaaGreatDoor.M
open Go Go.Proofs.YtmidibkljoaoiaaGreatDoor.K

end Go.Proofs.YtmidibkljoaoiaaGreatDoor.M

/- Priorities, plain: the curve of a class is what it is served. No condition. -/
namespace Go.Proofs.YtmidibkljoaoiaaGreatDoor.M
open Go Go.Proofs.YtmidibkljoaoiaaGreatDoor.K

instance instCv : Inhabited Cv := ⟨zcv⟩
end Go.Proofs.YtmidibkljoaoiaaGreatDoor.M

/- Small curves that the statements make, plain. No condition. -/
namespace Go.Proofs.YtmidibkljoaoiaaGreatDoor.M
open Go Go.Proofs.YtmidibkljoaoiaaGreatDoor.K

/-- small -/
structure SmallC (c : Cv) : Prop where
  valid : validB c = true
  len : c.vals.length ≤ 40
  per : c.per ≤ 8
  inc : c.inc ≤ 1000
  vals : ∀ x ∈ c.vals, x = INF ∨ x ≤ 1000
end Go.Proofs.YtmidibkljoaoiaaGreatDoor.M

/- A trial. No condition. -/
set_option maxRecDepth 4000
set_option linter.unusedSimpArgs false
set_option linter.unusedVariables false
namespace Go.Proofs.YtmidibkljoaoiaaGreatDoor
open Go Go.RowKit Go.Proofs.YtmidibkljoaoiaaGreatDoor.K Go.Proofs.YtmidibkljoaoiaaGreatDoor.M

































theorem Valid_V {R : Ro} {a : Option Addr} {c : Nat} {v : List Int} {per inc : Int} (ha : RS R 1 encI a v) (hper : InR per) (hinc : InR inc) (hv : ∀ x ∈ v, -2305843009213693952 ≤ x ∧ x ≤ 4611686018427387904) : FnV Tryz.prog 56 [.agg #[.slice a v.length c, .int .i64 per, .int .i64 inc]] R (.bool (validB ⟨v, per, inc⟩)) := by
 have hla := ha.len
 refine Fn.toV (fun w0 E => ?_)
 have hvn : ∀ j, j < v.length → -2305843009213693952 ≤ nth v j ∧ nth v j ≤ 4611686018427387904 := fun j hj => hv _ (nth_mem hj)
 refine fE 118 Tryz.func56 ?_
 refine zQ (zG ?_)
 refine zO fun b1 => ?_
 refine zR 1 rfl (zN (zU (zQ (zG (zR 1 rfl ?_)))))
 refine yL (Rd.add (Rd.blk 0 rfl) _) ?_
 refine zR 2 rfl (zN (zU (zQ (zQ (zG (zR 3 rfl ?_))))))
 refine yP ?_
 refine yP ?_
 refine yO ?_
 refine zR 1 rfl ?_
 refine yP ?_
 refine yG (Rd.addC (Rd.blkC 0 rfl) _) ?_
 refine yP ?_
 refine yO ?_
 refine zR 1 rfl ?_
 refine yP ?_
 refine yG (Rd.addC (Rd.blkC 0 rfl) _) ?_
 refine yP ?_
 refine yO ?_
 refine zR 1 rfl ?_
 refine yP ?_
 refine yG (Rd.addC (Rd.blkC 0 rfl) _) ?_
 refine yP ?_
 refine yP ?_
 refine yO ?_
 refine zR 1 rfl ?_
 refine yP ?_
 refine yG (Rd.addC (Rd.blkC 0 rfl) _) ?_
 refine yP ?_
 refine yO ?_
 refine zR 1 rfl ?_
 refine yP ?_
 refine yG (Rd.addC (Rd.blkC 0 rfl) _) ?_
 refine yP ?_
 refine yO ?_
 refine zN (zU ?_)
 refine W.cond rfl (fun hc0 => ?_) (fun hc0 => ?_)
 ·try simp only [zk] at hc0
  have hno : validB ⟨v, per, inc⟩ = false := validB_false (fun h => by obtain ⟨⟨a1, a2, a3, a4, a5, a6, a7⟩, _⟩ := h; dsimp only at a1 a2 a3 a4 a5 a6 a7; unfold MAXV at a7; omega)
  refine zQ (zG (zR 1 rfl (zN (zU (zT (wt ?_))))))
  refine sE (E := E) ?_
  refine WE.retF tab_ok [_] rfl ⟨rfl, trivial⟩ (RLe.refl _) ?_
  exact ⟨by rw [hno]; rfl, rfl⟩
 ·try simp only [zk] at hc0
  have hall : 1 ≤ v.length ∧ v.length ≤ 400 ∧ 1 ≤ per ∧ per ≤ 120 ∧ per ≤ v.length ∧ 0 ≤ inc ∧ inc ≤ MAXV := by unfold MAXV; omega
  refine zK (zU (zQ (zQ (zG (zR 1 rfl (zN (zU (zB ?_))))))))
  refine W.loopK (β := Nat) (fun i => i ≤ v.length ∧ ∀ j, j < i → (nth v j = INF ∨ (0 ≤ nth v j ∧ nth v j ≤ MAXV)) ∧ (j = 0 ∨ nth v (j - 1) ≤ nth v j)) (fun i => [(4, true, .int .i64 (i : Int))]) [1, 3] [_, _] [] _ rfl (fun i => []) (fun i => v.length - i) (0) (⟨Nat.zero_le _, fun j hj => by omega⟩) ⟨rfl, rfl, rfl, rfl⟩ qS ?_
  intro i hst
  dsimp only [zipE, setAll, List.cons_append, List.nil_append, List.set_cons_zero, List.set_cons_succ] at hst ⊢
  
  refine zQ (zQ (zG (zR 3 rfl (zN (zU ?_)))))
  refine W.condD rfl (fun hc1 => ?_) (fun hc1 => ?_)
  ·try dsimp only at hc1
   have hil : i < v.length := by omega
   have hvi := hvn i hil
   have e1 : 0 < i → ((i : Int) - 1).toNat = i - 1 := fun _ => by omega
   have hv1 : 0 < i → -2305843009213693952 ≤ nth v ((i : Int) - 1).toNat ∧ nth v ((i : Int) - 1).toNat ≤ 4611686018427387904 := fun h => hvn _ (by omega)
   refine zK (zU (zQ (zB (zQ ?_))))
   refine W.regionQ _ mixed qK ?_
   refine zR 1 rfl ?_
   refine yL (Rd.add (Rd.blk 0 rfl) _) ?_
   refine zR 1 rfl ?_
   refine WG.y rfl rfl qD (Yl.indexN tab_ok rfl rfl rfl rfl rfl rfl (fun _ => rfl) qN qH) ?_
   refine yR ?_
   refine zR 2 rfl ?_
   refine yP ?_
   refine yG (Rd.addC (Rd.blkC 0 rfl) _) ?_
   refine yP ?_
   refine WG.y rfl rfl (by decide) (Yl.indexN tab_ok rfl rfl rfl rfl rfl rfl qE (by intro hg; (try simp only [zk] at hg); (try dsimp only) <;> omega) (by intro hg; (try simp only [zk] at hg); first | exact qI)) ?_
   refine' WG.y rfl rfl qD (Yl.loadG tab_ok rfl rfl rfl qE ?r10 rfl ?h10 ?g10) ?_
   case r10 => ((apply RS.rdC; assumption))
   case h10 => rfl
   case g10 => (intro hg; (try simp only [zk] at hg); (try dsimp only); omega)
   refine yP ?_
   refine yP ?_
   refine yP ?_
   refine yG (Rd.addC (Rd.blkC 0 rfl) _) ?_
   refine yP ?_
   refine WG.y rfl rfl (by decide) (Yl.indexN tab_ok rfl rfl rfl rfl rfl rfl qE (by intro hg; (try simp only [zk] at hg); (try dsimp only) <;> omega) (by intro hg; (try simp only [zk] at hg); first | exact qI)) ?_
   refine' WG.y rfl rfl qD (Yl.loadG tab_ok rfl rfl rfl qE ?r12 rfl ?h12 ?g12) ?_
   case r12 => ((apply RS.rdC; assumption))
   case h12 => rfl
   case g12 => (intro hg; (try simp only [zk] at hg); (try dsimp only); omega)
   refine yP ?_
   refine yO ?_
   refine yN ?_
   refine zR 1 rfl ?_
   refine yP ?_
   refine yP ?_
   refine yP ?_
   refine yP ?_
   refine yG (Rd.addC (Rd.blkC 0 rfl) _) ?_
   refine yP ?_
   refine WG.y rfl rfl (by decide) (Yl.indexN tab_ok rfl rfl rfl rfl rfl rfl qE (by intro hg; (try simp only [zk] at hg); (try dsimp only) <;> omega) (by intro hg; (try simp only [zk] at hg); first | exact qI)) ?_
   refine' WG.y rfl rfl qD (Yl.loadG tab_ok rfl rfl rfl qE ?r14 rfl ?h14 ?g14) ?_
   case r14 => ((apply RS.rdC; assumption))
   case h14 => rfl
   case g14 => (intro hg; (try simp only [zk] at hg); (try dsimp only); omega)
   refine yP ?_
   refine yG (Rd.addC (Rd.blkC 0 rfl) _) ?_
   refine yP ?_
   refine WG.y rfl rfl (by decide) (Yl.sub rfl rfl rfl qE (by intro hg; (try simp only [zk] at hg); constructor <;> (try dsimp only) <;> omega)) ?_
   refine WG.y rfl rfl (by decide) (Yl.index tab_ok rfl rfl rfl rfl rfl rfl qE (by intro hg; (try simp only [zk] at hg); constructor <;> (try dsimp only) <;> omega) (by intro hg; (try simp only [zk] at hg); first | exact qI)) ?_
   refine' WG.y rfl rfl qD (Yl.loadG tab_ok rfl rfl rfl qE ?r16 rfl ?h16 ?g16) ?_
   case r16 => ((apply RS.rdC; assumption))
   case h16 => rfl
   case g16 => (intro hg; (try simp only [zk] at hg); (try dsimp only); omega)
   refine yP ?_
   refine yN ?_
   refine yO ?_
   refine zN (zU ?_)
   refine W.cond rfl (fun hc2 => ?_) (fun hc2 => ?_)
   ·try simp only [zk] at hc2
    have hno : validB ⟨v, per, inc⟩ = false := validB_false (fun h => by
     obtain ⟨_, h2, _⟩ := h
     have h2 := h2 i hil
     dsimp only at h2
     unfold INF MAXV at h2
     rcases hc2 with ⟨x1, x2⟩ | ⟨x1, x2⟩
     ·omega
     ·rw [e1 (by omega)] at x2; omega)
    refine zQ (zG (zR 1 rfl (zN (zU (zT (wb (wt (wt (wb (wt ?_))))))))))
    refine sE (E := E) ?_
    refine WE.retF tab_ok [_] rfl ⟨rfl, trivial⟩ (RLe.refl _) ?_
    exact ⟨by rw [hno]; rfl, rfl⟩
   ·try simp only [zk] at hc2
    have hy : (nth v i = INF ∨ (0 ≤ nth v i ∧ nth v i ≤ MAXV)) ∧ (i = 0 ∨ nth v (i - 1) ≤ nth v i) := by
     obtain ⟨x1, x2⟩ := hc2
     unfold INF MAXV
     refine ⟨by omega, ?_⟩
     by_cases h : i = 0
     ·exact .inl h
     ·have := x2 (by omega)
      rw [e1 (by omega)] at this
      right; omega
    refine zK (zL (zU (zG (zR 1 rfl ?_))))
    refine yA ?_
    refine zR 1 rfl (zN ?_)
    refine WE.again (i + 1) (⟨by omega, fun j hj => by
     by_cases e : j = i
     ·subst e; exact hy
     ·exact hst.2 j (by omega)⟩) (by (try dsimp only); omega) ⟨rfl, rfl, rfl, rfl⟩ (RLe.refl _) qS
  ·try dsimp only at hc1
   obtain rfl : i = v.length := by omega
   have e2 : ((v.length : Int) - 1).toNat = v.length - 1 := by omega
   have e3 : ((v.length : Int) - per).toNat = v.length - per.toNat := by omega
   have hx1 := hvn (((v.length : Int) - 1).toNat) (by omega)
   have hx2 := hvn (((v.length : Int) - per).toNat) (by omega)
   refine zX ?_
   refine wx (wx (zY (zU (zQ (zQ (zG (zR 1 rfl ?_)))))))
   refine yL (Rd.add (Rd.blk 0 rfl) _) ?_
   refine zR 1 rfl ?_
   refine yS ?_
   refine WG.y rfl rfl qD (Yl.index tab_ok rfl rfl rfl rfl rfl rfl (fun _ => rfl) qA qH) ?_
   refine' WG.y rfl rfl qD (Yl.load1 tab_ok rfl rfl rfl (fun _ => rfl) ?r18 rfl ?h18) ?_
   case r18 => exact RS.rdD ha qO
   case h18 => rfl
   refine zR 1 rfl (zN (zU ?_))
   refine W.condE rfl (fun hc3 => ?_) (fun hc3 => ?_)
   ·try dsimp only at hc3
    have hif : (if nth v (v.length - 1) = INF then per = 1 ∧ inc = 0 else nth v (v.length - 1) ≤ nth v (v.length - per.toNat) + inc) ↔ (per = 1 ∧ inc = 0) := by rw [if_pos (by rw [← e2]; exact hc3)]
    refine zQ (zG (zR 1 rfl ?_))
    refine yL (Rd.add (Rd.blk 0 rfl) _) ?_
    refine zR 2 rfl ?_
    refine yP ?_
    refine yG (Rd.addC (Rd.blkC 0 rfl) _) ?_
    refine yP ?_
    refine yN ?_
    refine zR 1 rfl (zN (zU (zT (wt ?_))))
    refine sE (E := E) ?_
    refine WE.retF tab_ok [_] rfl ⟨rfl, trivial⟩ (RLe.refl _) ?_
    refine ⟨congrArg Value.bool ?_, rfl⟩
    rw [Bool.eq_iff_iff, validB_iff]
    dsimp only
    rw [hif]
    simp only [Bool.and_eq_true, beq_iff_eq]
    exact ⟨fun h => ⟨hall, fun j hj => hst.2 j hj, h⟩, fun h => h.2.2⟩
   ·try dsimp only at hc3
    have hif : (if nth v (v.length - 1) = INF then per = 1 ∧ inc = 0 else nth v (v.length - 1) ≤ nth v (v.length - per.toNat) + inc) ↔ (nth v (v.length - 1) ≤ nth v (v.length - per.toNat) + inc) := by rw [if_neg (by rw [← e2]; exact hc3)]
    refine zK (zU (zQ ?_))
    refine W.regionQ _ mixed qK ?_
    refine zR 1 rfl ?_
    refine yL (Rd.add (Rd.blk 0 rfl) _) ?_
    refine zR 2 rfl ?_
    refine yL (Rd.add (Rd.blk 0 rfl) _) ?_
    refine yS ?_
    refine WG.y rfl rfl qD (Yl.index tab_ok rfl rfl rfl rfl rfl rfl (fun _ => rfl) qA qH) ?_
    refine' WG.y rfl rfl qD (Yl.load1 tab_ok rfl rfl rfl (fun _ => rfl) ?r23 rfl ?h23) ?_
    case r23 => exact RS.rdD ha qO
    case h23 => rfl
    refine zR 1 rfl ?_
    refine yL (Rd.add (Rd.blk 0 rfl) _) ?_
    refine yA ?_
    refine zR 1 rfl ?_
    refine yL (Rd.add (Rd.blk 0 rfl) _) ?_
    refine zR 1 rfl ?_
    refine yS ?_
    refine WG.y rfl rfl qD (Yl.index tab_ok rfl rfl rfl rfl rfl rfl (fun _ => rfl) qA qH) ?_
    refine' WG.y rfl rfl qD (Yl.load1 tab_ok rfl rfl rfl (fun _ => rfl) ?r26 rfl ?h26) ?_
    case r26 => exact RS.rdD ha qO
    case h26 => rfl
    refine zR 2 rfl (zN (zU (zT ?_)))
    refine sE (E := E) ?_
    refine WE.retF tab_ok [_] rfl ⟨rfl, trivial⟩ (RLe.refl _) ?_
    refine ⟨congrArg Value.bool ?_, rfl⟩
    rw [Bool.eq_iff_iff, validB_iff]
    dsimp only
    rw [hif, e2, e3]
    simp only [decide_eq_true_eq]
    exact ⟨fun h => ⟨hall, fun j hj => hst.2 j hj, h⟩, fun h => h.2.2⟩







theorem PickM_C {R : Ro} {b : Nat} {a : Option Addr} {cp : Nat} {xs : List Int} {c : Nat} (w0 : World) {n : Nat} {a2 : Option Addr} {c2 : Nat} {j : Nat} {F : List Ent} (ys : List Int) (hn : ys.length = n) (hn0 : 0 < n) (hn1 : n ≤ 1000000) (ha : RS R 1 encI a xs) (hy : F[j]? = some (.sl 3 1 a2 c2 (ys.map encI))) :
  K.Fn Tryz.prog 29 [.pointer (some ⟨b, 0, none⟩), .slice a2 n c2] w0 R (srcE b a cp xs c :: F) (fun v R' E' => ∃ e' N, E' = N ++ e' :: F ∧ RdPost (.int .i64 (nth ys (mod (nth xs c) n).toNat)) R (srcE b a cp xs (c + 1)) v R' e' N) := by
 subst hn; exact Pick_C w0 ha hy hn0 hn1



theorem Bent_C {R : Ro} {b : Nat} {a : Option Addr} {cp : Nat} {xs : List Int} {c : Nat} {fa : Option Addr} {fc : Nat} {c1 : Cv} (w0 : World) (ha : RS R 1 encI a xs) (hv : validB c1 = true) (hx : RS R 1 encI fa c1.vals) : FnAt Tryz.prog 30 [.pointer (some ⟨b, 0, none⟩), .agg #[.slice fa c1.vals.length fc, .int .i64 c1.per, .int .i64 c1.inc]] w0 R (srcE b a cp xs c) (fun v R' e' N => ∃ (f : Option Addr) (fc cn : Nat) (cv : Cv), v = .agg #[.slice f cv.vals.length fc, .int .i64 cv.per, .int .i64 cv.inc] ∧ RS R' 1 encI f cv.vals ∧ cv.vals.length ≤ 500 ∧ cv.vals.length ≤ fc ∧ e' = srcE b a cp xs cn ∧ N = []) := by
 intro F
 obtain ⟨hvr, hl1, hl4, hp1, hp2, hp3, hi1, hi2⟩ := valid_range hv
 refine fE 96 Tryz.func30 ?_
 refine zQ (zG ?_)
 refine zO fun b3 => ?_
 refine zA fun b4 => ?_
 refine zN (zU ?_)
 refine W.seqCut (β := Nat × Option Addr × Nat) (fun (b5, a10, c10) => True) (fun (b5, a10, c10) => [(0, true, .pointer (some ⟨b, 0, none⟩)), (4, true, .pointer (some ⟨b4, 0, none⟩)), (5, true, .pointer (some ⟨b5, 0, none⟩))]) (fun _ => R) (fun (b5, a10, c10) => .blk b5 [.slice a10 c1.vals.length c10, .int .i64 c1.per, .int .i64 c1.inc] :: .sl 3 1 a10 c10 ((c1.vals).map encI) :: .blk b4 [.slice none 0 0, .int .i64 0, .int .i64 0] :: .blk b3 [.slice fa c1.vals.length fc, .int .i64 c1.per, .int .i64 c1.inc] :: srcE b a cp xs c :: F) ?_ ?_
 ·
  intro st hst
  obtain ⟨b5, a10, c10⟩ := st
  dsimp only
  refine zQ (zQ (zG (zR 1 rfl ?_)))
  refine yL (Rd.add (Rd.blk 0 rfl) _) ?_
  refine zR 2 rfl (zN (zU ?_))
  refine W.condE rfl (fun hc0 => ?_) (fun hc0 => ?_)
  ·try dsimp only at hc0
   omega
  ·try dsimp only at hc0
   refine zK (zU (zQ (zG (zR 2 rfl ?_))))
   refine yL (Rd.add (Rd.blk 0 rfl) _) ?_
   refine zR 1 rfl ?_
   refine WL.callAt 4 en17 rfl rfl qD (CallOp.mkT rfl rfl rfl rfl) rfl (N_C w0 ha (by constructor <;> omega) _) ?_
   rintro _ _ _ _ - ⟨rfl, rfl, rfl, rfl⟩
   have hm1 := mod_range (nth xs c) (show (1 : Int) ≤ (c1.vals.length : Int) by omega)
   obtain ⟨i, hi⟩ := Int.eq_ofNat_of_zero_le (show 0 ≤ mod (nth xs c) (c1.vals.length : Int) by omega)
   rw [hi] at hm1 ⊢
   have hbi := hvr _ (nth_mem (xs := c1.vals) (k := i) (by omega))
   have hbj : -2305843009213693952 ≤ nth c1.vals ((i : Int)).toNat ∧ nth c1.vals ((i : Int)).toNat ≤ 4611686018427387904 := hbi
   have hin : ((i : Int)).toNat = i := rfl
   refine zR 1 rfl (zN (zU (zQ (zQ (zG (zR 1 rfl ?_))))))
   refine WL.callAt 4 en17 rfl rfl qD (CallOp.mkT rfl rfl rfl rfl) rfl (N_C w0 ha (by constructor <;> decide) _) ?_
   rintro _ _ _ _ - ⟨rfl, rfl, rfl, rfl⟩
   refine zN (zU (zB (zQ (zG (zR 2 rfl (zN (zU ?_)))))))
   refine W.condE rfl (fun hc1 => ?_) (fun hc1 => ?_)
   ·try dsimp only at hc1
    refine W.regionH _ (ES := [.blk b5 [.slice a10 c1.vals.length c10, .int .i64 c1.per, .int .i64 c1.inc]]) mixed ?_
    refine tP 0 ?_
    refine tL 1 (Rd.add (Rd.blk 0 rfl) _) ?_
    refine tP 2 ?_
    refine tP 3 ?_
    refine WA.eff 4 rfl qK rfl rfl qD (Ef.buildSliceD (enc := encI) (parts := [.const (.int .i64 (-1)), .const (.int .i64 0), .const (.int .i64 1073741824), .const (.int .i64 1073741825), .const (.int .i64 4611686018427387904), .const (.int .i64 4611686018427387905)]) [_, _, _, _, _, _] tab_ok rfl rfl rfl rfl rfl rfl rfl rfl qD qD (fun a54 => ?_))
    refine ⟨qR, qS, ?_⟩
    refine WA.callAt 5 5 rfl qK en29 rfl rfl qD (CallOp.mkT rfl rfl rfl rfl) rfl (PickM_C (j := 0) w0 ([-1, 0, 1073741824, 1073741825, 4611686018427387904, 4611686018427387905] : List Int) rfl qD qD ha rfl) ?_
    rintro _ _ _ _ - ⟨rfl, rfl, rfl, rfl⟩
    refine ⟨RLe.refl _, qS, ?_⟩
    refine WA.yl 6 rfl qK rfl rfl qD (Yl.index tab_ok rfl rfl rfl rfl rfl rfl (fun _ => rfl) qA (by intro _; first | exact fun _ _ _ _ => ha10 qO | exact qI)) qS qR ?_
    refine WA.effN 7 rfl qK rfl rfl (Ef.storeD _ 2 tab_ok rfl rfl rfl rfl rfl qX rfl rfl rfl rfl ?_)
    refine ⟨qR, qS, ?_⟩
    refine WA.done qK ?_
    refine zL (zU ?_)
    (refine W.cap 2 rfl ?_; intro hcp; rw [List.length_map] at hcp; (try rw [List.length_set] at hcp); refine W.freeze (enc := encI) 2 rfl ?_; intro R1 hR1 hfz)
    refine zQ (zG ?_)
    refine yL (Rd.blk 1 rfl) ?_
    refine zE 2 ?_
    refine zN (zU (zT ?_))
    refine WE.retFS (E' := srcE b a cp xs (c + 1 + 1 + 1) :: F) qS tab_ok [_] rfl ⟨⟨_, _, _, rfl, rfl, rfl, qB, rfl⟩, trivial⟩ (hR1) ?_
    exact ⟨_, [], rfl, a10, c10, _, ⟨c1.vals.set ((i : Int)).toNat (_), c1.per, c1.inc⟩, by (try dsimp only); rw [List.length_set]; rfl, hfz, by (try dsimp only); (try rw [List.length_set]); omega, by (try dsimp only); (try rw [List.length_set]); omega, rfl, rfl⟩
   ·try dsimp only at hc1
    refine zQ (zG (zR 2 rfl (zN (zU ?_))))
    refine W.condE rfl (fun hc2 => ?_) (fun hc2 => ?_)
    ·try dsimp only at hc2
     refine zG (zR 2 rfl ?_)
     refine yL (Rd.add (Rd.blk 0 rfl) _) ?_
     refine zR 2 rfl ?_
     refine yL (Rd.add (Rd.blk 0 rfl) _) ?_
     refine zR 1 rfl ?_
     refine yA ?_
     refine WL.ef rfl rfl qD (Ef.buildSliceD (enc := encI) (parts := [.const (.int .i64 (-1)), .const (.int .i64 0), .const (.int .i64 1), .tmp 62, .tmp 66, .const (.int .i64 121)]) [_, _, _, _, _, _] tab_ok rfl rfl rfl rfl rfl rfl rfl rfl qD qD (fun a67 => ?_))
     refine WL.callAt 5 en29 rfl rfl qD (CallOp.mkT rfl rfl rfl rfl) rfl (PickM_C (j := 0) w0 ([-1, 0, 1, (c1.vals.length : Int), (c1.vals.length : Int) + 1, 121] : List Int) rfl qD qD ha rfl) ?_
     rintro _ _ _ _ - ⟨rfl, rfl, rfl, rfl⟩
     refine zR 1 rfl ?_
     refine zF 1 ?_
     refine zN (zL (zU ?_))
     (refine W.cap 2 rfl ?_; intro hcp; rw [List.length_map] at hcp; (try rw [List.length_set] at hcp); refine W.freeze (enc := encI) 2 rfl ?_; intro R1 hR1 hfz)
     refine zQ (zG ?_)
     refine yL (Rd.blk 1 rfl) ?_
     refine zE 2 ?_
     refine zN (zU (zT ?_))
     refine WE.retFS (E' := srcE b a cp xs (c + 1 + 1 + 1) :: F) qS tab_ok [_] rfl ⟨⟨_, _, _, rfl, rfl, rfl, qB, rfl⟩, trivial⟩ (hR1) ?_
     exact ⟨_, [], rfl, a10, c10, _, ⟨c1.vals, nth ([-1, 0, 1, (c1.vals.length : Int), (c1.vals.length : Int) + 1, 121] : List Int) (mod (nth xs (c + 1 + 1)) ((6 : Nat) : Int)).toNat, c1.inc⟩, rfl, hfz, by (try dsimp only); (try rw [List.length_set]); omega, by (try dsimp only); (try rw [List.length_set]); omega, rfl, rfl⟩
    ·try dsimp only at hc2
     refine zQ (zG (zR 2 rfl (zN (zU ?_))))
     refine W.condE rfl (fun hc3 => ?_) (fun hc3 => ?_)
     ·try dsimp only at hc3
      refine zG (zR 1 rfl ?_)
      refine WL.ef rfl rfl qD (Ef.buildSliceD (enc := encI) (parts := [.const (.int .i64 (-1)), .const (.int .i64 0), .const (.int .i64 1073741824), .const (.int .i64 1073741825)]) [_, _, _, _] tab_ok rfl rfl rfl rfl rfl rfl rfl rfl qD qD (fun a73 => ?_))
      refine WL.callAt 5 en29 rfl rfl qD (CallOp.mkT rfl rfl rfl rfl) rfl (PickM_C (j := 0) w0 ([-1, 0, 1073741824, 1073741825] : List Int) rfl qD qD ha rfl) ?_
      rintro _ _ _ _ - ⟨rfl, rfl, rfl, rfl⟩
      refine zR 1 rfl ?_
      refine zF 1 ?_
      refine zN (zL (zU ?_))
      (refine W.cap 2 rfl ?_; intro hcp; rw [List.length_map] at hcp; (try rw [List.length_set] at hcp); refine W.freeze (enc := encI) 2 rfl ?_; intro R1 hR1 hfz)
      refine zQ (zG ?_)
      refine yL (Rd.blk 1 rfl) ?_
      refine zE 2 ?_
      refine zN (zU (zT ?_))
      refine WE.retFS (E' := srcE b a cp xs (c + 1 + 1 + 1) :: F) qS tab_ok [_] rfl ⟨⟨_, _, _, rfl, rfl, rfl, qB, rfl⟩, trivial⟩ (hR1) ?_
      exact ⟨_, [], rfl, a10, c10, _, ⟨c1.vals, c1.per, nth ([-1, 0, 1073741824, 1073741825] : List Int) (mod (nth xs (c + 1 + 1)) ((4 : Nat) : Int)).toNat⟩, rfl, hfz, by (try dsimp only); (try rw [List.length_set]); omega, by (try dsimp only); (try rw [List.length_set]); omega, rfl, rfl⟩
     ·try dsimp only at hc3
      refine zQ (zG (zR 2 rfl (zN (zU ?_))))
      refine W.condE rfl (fun hc4 => ?_) (fun hc4 => ?_)
      ·try dsimp only at hc4
       refine W.cap 1 rfl ?_
       intro hcp
       rw [List.length_map] at hcp
       (try rw [List.length_set] at hcp)
       refine W.freeze (enc := encI) 1 rfl ?_
       intro R1 hR1 hfz
       refine zG (zR 1 rfl ?_)
       refine yL (Rd.add (Rd.blk 0 rfl) _) ?_
       refine zR 1 rfl ?_
       refine WG.y rfl rfl qD (Yl.sliceH tab_ok rfl rfl rfl rfl rfl (fun _ => rfl) (by intro _; omega) rfl) ?_
       refine zR 1 rfl ?_
       refine zF 0 ?_
       refine zN (zL (zU ?_))
       skip
       refine zQ (zG ?_)
       refine yL (Rd.blk 0 rfl) ?_
       refine zE 1 ?_
       refine zN (zU (zT ?_))
       refine WE.retFS (E' := srcE b a cp xs (c + 1 + 1) :: F) qS tab_ok [_] rfl ⟨⟨_, _, _, rfl, rfl, rfl, qB, rfl⟩, trivial⟩ (hR1) ?_
       exact ⟨_, [], rfl, a10, c10, _, ⟨c1.vals.take ((i : Int)).toNat, c1.per, c1.inc⟩, by (try dsimp only); rw [List.length_take, Nat.min_eq_left (by omega)]; rfl, hfz.take _, by (try dsimp only); rw [List.length_take]; omega, by (try dsimp only); rw [List.length_take]; omega, rfl, rfl⟩
      ·try dsimp only at hc4
       refine zQ (zG (zR 2 rfl (zN (zU ?_))))
       refine W.condE rfl (fun hc5 => ?_) (fun hc5 => ?_)
       ·try dsimp only at hc5
        have hm2 := mod_range (nth xs (c + 1 + 1)) (show (1 : Int) ≤ 5 by decide)
        refine W.regionH _ (ES := [.blk b5 [.slice a10 c1.vals.length c10, .int .i64 c1.per, .int .i64 c1.inc]]) mixed ?_
        refine tP 0 ?_
        refine tL 1 (Rd.add (Rd.blk 0 rfl) _) ?_
        refine tP 2 ?_
        refine tP 5 ?_
        refine WA.br2 (i := 3) (j := 6) qK ?_ ?_
        ·
         refine WS.yl rfl rfl rfl qD (Yl.index tab_ok rfl rfl rfl rfl rfl rfl (fun _ => rfl) qA (by intro _; first | exact fun _ _ _ _ => ha10 qO | exact qI)) qS qR ?_
         refine WA.br2 (i := 4) (j := 6) qK ?_ ?_
         ·
          refine' WS.yl rfl rfl rfl qD (Yl.load1 tab_ok rfl rfl rfl (fun _ => rfl) ?r12 rfl ?h12) qS qR ?_
          case r12 => (exact Rd.slD 1 rfl qX)
          case h12 => rfl
          refine WA.callAt 4 6 rfl qK en17 rfl rfl qD (CallOp.mkT rfl rfl rfl rfl) rfl (N_C w0 ha (by constructor <;> decide) _) ?_
          rintro _ _ _ _ - ⟨rfl, rfl, rfl, rfl⟩
          refine ⟨RLe.refl _, qS, ?_⟩
          refine tS 7 ?_
          refine WA.yl 8 rfl qK rfl rfl qD (Yl.add rfl rfl rfl (fun _ => rfl) qA) qS qR ?_
          refine WA.yl 9 rfl qK rfl rfl qD (Yl.index tab_ok rfl rfl rfl rfl rfl rfl (fun _ => rfl) qA (by intro _; first | exact fun _ _ _ _ => ha10 qO | exact qI)) qS qR ?_
          refine WA.effN 10 rfl qK rfl rfl (Ef.storeD _ 1 tab_ok rfl rfl rfl rfl rfl qX rfl rfl rfl rfl ?_)
          refine ⟨qR, qS, ?_⟩
          refine WA.done qK ?_
          refine zL (zU ?_)
          (refine W.cap 1 rfl ?_; intro hcp; rw [List.length_map] at hcp; (try rw [List.length_set] at hcp); refine W.freeze (enc := encI) 1 rfl ?_; intro R1 hR1 hfz)
          refine zQ (zG ?_)
          refine yL (Rd.blk 0 rfl) ?_
          refine zE 1 ?_
          refine zN (zU (zT ?_))
          refine WE.retFS (E' := srcE b a cp xs (c + 1 + 1 + 1) :: F) qS tab_ok [_] rfl ⟨⟨_, _, _, rfl, rfl, rfl, qB, rfl⟩, trivial⟩ (hR1) ?_
          exact ⟨_, [], rfl, a10, c10, _, ⟨c1.vals.set ((i : Int)).toNat (_), c1.per, c1.inc⟩, by (try dsimp only); rw [List.length_set]; rfl, hfz, by (try dsimp only); (try rw [List.length_set]); omega, by (try dsimp only); (try rw [List.length_set]); omega, rfl, rfl⟩
         ·
          refine WS.callAt 4 rfl en17 rfl rfl qD (CallOp.mkT rfl rfl rfl rfl) rfl (N_C w0 ha (by constructor <;> decide) _) ?_
          rintro _ _ _ _ - ⟨rfl, rfl, rfl, rfl⟩
          refine ⟨qR, qS, ?_⟩
          refine tS 7 ?_
          refine' WA.yl 4 rfl qK rfl rfl qD (Yl.load1 tab_ok rfl rfl rfl (fun _ => rfl) ?r14 rfl ?h14) qS qR ?_
          case r14 => (exact Rd.slD 1 rfl qX)
          case h14 => rfl
          refine WA.yl 8 rfl qK rfl rfl qD (Yl.add rfl rfl rfl (fun _ => rfl) qA) qS qR ?_
          refine WA.yl 9 rfl qK rfl rfl qD (Yl.index tab_ok rfl rfl rfl rfl rfl rfl (fun _ => rfl) qA (by intro _; first | exact fun _ _ _ _ => ha10 qO | exact qI)) qS qR ?_
          refine WA.effN 10 rfl qK rfl rfl (Ef.storeD _ 1 tab_ok rfl rfl rfl rfl rfl qX rfl rfl rfl rfl ?_)
          refine ⟨qR, qS, ?_⟩
          refine WA.done qK ?_
          refine zL (zU ?_)
          (refine W.cap 1 rfl ?_; intro hcp; rw [List.length_map] at hcp; (try rw [List.length_set] at hcp); refine W.freeze (enc := encI) 1 rfl ?_; intro R1 hR1 hfz)
          refine zQ (zG ?_)
          refine yL (Rd.blk 0 rfl) ?_
          refine zE 1 ?_
          refine zN (zU (zT ?_))
          refine WE.retFS (E' := srcE b a cp xs (c + 1 + 1 + 1) :: F) qS tab_ok [_] rfl ⟨⟨_, _, _, rfl, rfl, rfl, qB, rfl⟩, trivial⟩ (hR1) ?_
          exact ⟨_, [], rfl, a10, c10, _, ⟨c1.vals.set ((i : Int)).toNat (_), c1.per, c1.inc⟩, by (try dsimp only); rw [List.length_set]; rfl, hfz, by (try dsimp only); (try rw [List.length_set]); omega, by (try dsimp only); (try rw [List.length_set]); omega, rfl, rfl⟩
        ·
         refine WS.callAt 4 rfl en17 rfl rfl qD (CallOp.mkT rfl rfl rfl rfl) rfl (N_C w0 ha (by constructor <;> decide) _) ?_
         rintro _ _ _ _ - ⟨rfl, rfl, rfl, rfl⟩
         refine ⟨qR, qS, ?_⟩
         refine tS 7 ?_
         refine WA.yl 3 rfl qK rfl rfl qD (Yl.index tab_ok rfl rfl rfl rfl rfl rfl (fun _ => rfl) qA (by intro _; first | exact fun _ _ _ _ => ha10 qO | exact qI)) qS qR ?_
         refine' WA.yl 4 rfl qK rfl rfl qD (Yl.load1 tab_ok rfl rfl rfl (fun _ => rfl) ?r16 rfl ?h16) qS qR ?_
         case r16 => (exact Rd.slD 1 rfl qX)
         case h16 => rfl
         refine WA.yl 8 rfl qK rfl rfl qD (Yl.add rfl rfl rfl (fun _ => rfl) qA) qS qR ?_
         refine WA.yl 9 rfl qK rfl rfl qD (Yl.index tab_ok rfl rfl rfl rfl rfl rfl (fun _ => rfl) qA (by intro _; first | exact fun _ _ _ _ => ha10 qO | exact qI)) qS qR ?_
         refine WA.effN 10 rfl qK rfl rfl (Ef.storeD _ 1 tab_ok rfl rfl rfl rfl rfl qX rfl rfl rfl rfl ?_)
         refine ⟨qR, qS, ?_⟩
         refine WA.done qK ?_
         refine zL (zU ?_)
         (refine W.cap 1 rfl ?_; intro hcp; rw [List.length_map] at hcp; (try rw [List.length_set] at hcp); refine W.freeze (enc := encI) 1 rfl ?_; intro R1 hR1 hfz)
         refine zQ (zG ?_)
         refine yL (Rd.blk 0 rfl) ?_
         refine zE 1 ?_
         refine zN (zU (zT ?_))
         refine WE.retFS (E' := srcE b a cp xs (c + 1 + 1 + 1) :: F) qS tab_ok [_] rfl ⟨⟨_, _, _, rfl, rfl, rfl, qB, rfl⟩, trivial⟩ (hR1) ?_
         exact ⟨_, [], rfl, a10, c10, _, ⟨c1.vals.set ((i : Int)).toNat (_), c1.per, c1.inc⟩, by (try dsimp only); rw [List.length_set]; rfl, hfz, by (try dsimp only); (try rw [List.length_set]); omega, by (try dsimp only); (try rw [List.length_set]); omega, rfl, rfl⟩
       ·try dsimp only at hc5
        refine zB ?_
        refine W.loopK (β := List Int × Option Addr × Nat × Nat) (fun (qs, aq, cq, cn) => 0 < qs.length ∧ qs.length ≤ 401) (fun (qs, aq, cq, cn) => []) [0, 4, 5] [_, _, _] [] _ rfl (fun (qs, aq, cq, cn) => [(0, .blk b5 [.slice aq qs.length cq, .int .i64 c1.per, .int .i64 c1.inc]), (1, .sl 3 1 aq cq ((qs).map encI)), (4, srcE b a cp xs cn)]) (fun (qs, aq, cq, cn) => 401 - qs.length) ((c1.vals, a10, c10, c + 1 + 1)) (⟨by (try dsimp only); omega, by (try dsimp only); omega⟩) ⟨rfl, rfl, rfl, rfl⟩ qS ?_
        intro zz hst
        obtain ⟨qs, aq, cq, cn⟩ := zz
        dsimp only [zipE, setAll, List.cons_append, List.nil_append, List.set_cons_zero, List.set_cons_succ] at hst ⊢
        obtain ⟨hq0, hq1⟩ := hst
        have hm3 := mod_range (nth xs cn) (show (1 : Int) ≤ 2 by decide)
        refine zQ (zQ ?_)
        refine W.regionH _ (ES := [.blk b5 [.slice aq qs.length cq, .int .i64 c1.per, .int .i64 c1.inc]]) mixed ?_
        refine tP 0 ?_
        refine tL 1 (Rd.add (Rd.blk 0 rfl) _) ?_
        refine tP 2 ?_
        refine tP 3 ?_
        refine WA.callAt 4 4 rfl qK en17 rfl rfl qD (CallOp.mkT rfl rfl rfl rfl) rfl (N_C w0 ha (by constructor <;> decide) _) ?_
        rintro _ _ _ _ - ⟨rfl, rfl, rfl, rfl⟩
        refine ⟨RLe.refl _, qS, ?_⟩
        refine tA 5 ?_
        refine tP 6 ?_
        refine WA.done qK ?_
        refine zU ?_
        refine W.condD rfl (fun hc6 => ?_) (fun hc6 => ?_)
        ·try dsimp only at hc6
         refine zK (zU (zB ?_))
         refine W.regionH _ (ES := []) mixed ?_
         refine tP 0 ?_
         refine tP 2 ?_
         refine tP 4 ?_
         refine WA.br3 (i := 1) (j := 3) (k := 5) qK ?_ ?_ ?_
         ·
          refine sL (Rd.add (Rd.blk 0 rfl) _) ?_
          refine WA.br2 (i := 3) (j := 5) qK ?_ ?_
          ·
           refine sL (Rd.add (Rd.blk 0 rfl) _) ?_
           refine lL 5 (Rd.add (Rd.blk 0 rfl) _) ?_
           refine tP 6 ?_
           refine tS 7 ?_
           refine WA.yl 8 rfl qK rfl rfl qD (Yl.index tab_ok rfl rfl rfl rfl rfl rfl (fun _ => rfl) qA (by intro _; first | exact fun _ _ _ _ => ha10 qO | exact qI)) qS qR ?_
           refine' WA.yl 9 rfl qK rfl rfl qD (Yl.load1 tab_ok rfl rfl rfl (fun _ => rfl) ?r22 rfl ?h22) qS qR ?_
           case r22 => (exact Rd.slD 1 rfl qX)
           case h22 => rfl
           refine WA.eff 10 rfl qK rfl rfl qD (Ef.buildSliceD (enc := encI) (parts := [.tmp 44]) [_] tab_ok rfl rfl rfl rfl rfl rfl rfl rfl qD qD (fun a45 => ?_))
           refine ⟨qR, qS, ?_⟩
           refine WA.eff 11 rfl (by kernel_rfl) rfl rfl (by decide) (Ef.appendD 2 0 tab_ok rfl rfl rfl rfl rfl rfl rfl rfl rfl rfl rfl (fun _ _ => rfl) (by simp only [List.length_cons, List.length_nil]; omega) (by simp only [List.length_cons, List.length_nil]; omega) (fun a46 c46 ha46 => ?_))
           refine ⟨qR, qS, ?_⟩
           refine tP 12 ?_
           refine zCF 13 1 ?_
           refine WA.done qK ?_
           refine zL ?_
           refine WE.again ((qs ++ [nth qs ((qs.length : Int) - 1).toNat], a46, c46, cn + 1)) (⟨by simp, by simp only [List.length_append, List.length_cons, List.length_nil]; omega⟩) (by simp only [List.length_append, List.length_cons, List.length_nil]; omega) ⟨rfl, rfl, rfl, rfl⟩ (RLe.refl _) qS
          ·
           refine sL (Rd.add (Rd.blk 0 rfl) _) ?_
           refine tP 6 ?_
           refine tS 7 ?_
           refine lL 3 (Rd.add (Rd.blk 0 rfl) _) ?_
           refine WA.yl 8 rfl qK rfl rfl qD (Yl.index tab_ok rfl rfl rfl rfl rfl rfl (fun _ => rfl) qA (by intro _; first | exact fun _ _ _ _ => ha10 qO | exact qI)) qS qR ?_
           refine' WA.yl 9 rfl qK rfl rfl qD (Yl.load1 tab_ok rfl rfl rfl (fun _ => rfl) ?r25 rfl ?h25) qS qR ?_
           case r25 => (exact Rd.slD 1 rfl qX)
           case h25 => rfl
           refine WA.eff 10 rfl qK rfl rfl qD (Ef.buildSliceD (enc := encI) (parts := [.tmp 44]) [_] tab_ok rfl rfl rfl rfl rfl rfl rfl rfl qD qD (fun a45 => ?_))
           refine ⟨qR, qS, ?_⟩
           refine WA.eff 11 rfl (by kernel_rfl) rfl rfl (by decide) (Ef.appendD 2 0 tab_ok rfl rfl rfl rfl rfl rfl rfl rfl rfl rfl rfl (fun _ _ => rfl) (by simp only [List.length_cons, List.length_nil]; omega) (by simp only [List.length_cons, List.length_nil]; omega) (fun a46 c46 ha46 => ?_))
           refine ⟨qR, qS, ?_⟩
           refine tP 12 ?_
           refine zCF 13 1 ?_
           refine WA.done qK ?_
           refine zL ?_
           refine WE.again ((qs ++ [nth qs ((qs.length : Int) - 1).toNat], a46, c46, cn + 1)) (⟨by simp, by simp only [List.length_append, List.length_cons, List.length_nil]; omega⟩) (by simp only [List.length_append, List.length_cons, List.length_nil]; omega) ⟨rfl, rfl, rfl, rfl⟩ (RLe.refl _) qS
         ·
          refine sL (Rd.add (Rd.blk 0 rfl) _) ?_
          refine WA.br2 (i := 1) (j := 5) qK ?_ ?_
          ·
           refine sL (Rd.add (Rd.blk 0 rfl) _) ?_
           refine lL 5 (Rd.add (Rd.blk 0 rfl) _) ?_
           refine tP 6 ?_
           refine tS 7 ?_
           refine WA.yl 8 rfl qK rfl rfl qD (Yl.index tab_ok rfl rfl rfl rfl rfl rfl (fun _ => rfl) qA (by intro _; first | exact fun _ _ _ _ => ha10 qO | exact qI)) qS qR ?_
           refine' WA.yl 9 rfl qK rfl rfl qD (Yl.load1 tab_ok rfl rfl rfl (fun _ => rfl) ?r29 rfl ?h29) qS qR ?_
           case r29 => (exact Rd.slD 1 rfl qX)
           case h29 => rfl
           refine WA.eff 10 rfl qK rfl rfl qD (Ef.buildSliceD (enc := encI) (parts := [.tmp 44]) [_] tab_ok rfl rfl rfl rfl rfl rfl rfl rfl qD qD (fun a45 => ?_))
           refine ⟨qR, qS, ?_⟩
           refine WA.eff 11 rfl (by kernel_rfl) rfl rfl (by decide) (Ef.appendD 2 0 tab_ok rfl rfl rfl rfl rfl rfl rfl rfl rfl rfl rfl (fun _ _ => rfl) (by simp only [List.length_cons, List.length_nil]; omega) (by simp only [List.length_cons, List.length_nil]; omega) (fun a46 c46 ha46 => ?_))
           refine ⟨qR, qS, ?_⟩
           refine tP 12 ?_
           refine zCF 13 1 ?_
           refine WA.done qK ?_
           refine zL ?_
           refine WE.again ((qs ++ [nth qs ((qs.length : Int) - 1).toNat], a46, c46, cn + 1)) (⟨by simp, by simp only [List.length_append, List.length_cons, List.length_nil]; omega⟩) (by simp only [List.length_append, List.length_cons, List.length_nil]; omega) ⟨rfl, rfl, rfl, rfl⟩ (RLe.refl _) qS
          ·
           refine sL (Rd.add (Rd.blk 0 rfl) _) ?_
           refine tP 6 ?_
           refine tS 7 ?_
           refine WA.br2 (i := 1) (j := 8) qK ?_ ?_
           ·
            refine sL (Rd.add (Rd.blk 0 rfl) _) ?_
            refine WA.yl 8 rfl qK rfl rfl qD (Yl.index tab_ok rfl rfl rfl rfl rfl rfl (fun _ => rfl) qA (by intro _; first | exact fun _ _ _ _ => ha10 qO | exact qI)) qS qR ?_
            refine' WA.yl 9 rfl qK rfl rfl qD (Yl.load1 tab_ok rfl rfl rfl (fun _ => rfl) ?r32 rfl ?h32) qS qR ?_
            case r32 => (exact Rd.slD 1 rfl qX)
            case h32 => rfl
            refine WA.eff 10 rfl qK rfl rfl qD (Ef.buildSliceD (enc := encI) (parts := [.tmp 44]) [_] tab_ok rfl rfl rfl rfl rfl rfl rfl rfl qD qD (fun a45 => ?_))
            refine ⟨qR, qS, ?_⟩
            refine WA.eff 11 rfl (by kernel_rfl) rfl rfl (by decide) (Ef.appendD 2 0 tab_ok rfl rfl rfl rfl rfl rfl rfl rfl rfl rfl rfl (fun _ _ => rfl) (by simp only [List.length_cons, List.length_nil]; omega) (by simp only [List.length_cons, List.length_nil]; omega) (fun a46 c46 ha46 => ?_))
            refine ⟨qR, qS, ?_⟩
            refine tP 12 ?_
            refine zCF 13 1 ?_
            refine WA.done qK ?_
            refine zL ?_
            refine WE.again ((qs ++ [nth qs ((qs.length : Int) - 1).toNat], a46, c46, cn + 1)) (⟨by simp, by simp only [List.length_append, List.length_cons, List.length_nil]; omega⟩) (by simp only [List.length_append, List.length_cons, List.length_nil]; omega) ⟨rfl, rfl, rfl, rfl⟩ (RLe.refl _) qS
           ·
            refine WS.yl rfl rfl rfl qD (Yl.index tab_ok rfl rfl rfl rfl rfl rfl (fun _ => rfl) qA (by intro _; first | exact fun _ _ _ _ => ha10 qO | exact qI)) qS qR ?_
            refine WA.br2 (i := 1) (j := 9) qK ?_ ?_
            ·
             refine sL (Rd.add (Rd.blk 0 rfl) _) ?_
             refine' WA.yl 9 rfl qK rfl rfl qD (Yl.load1 tab_ok rfl rfl rfl (fun _ => rfl) ?r34 rfl ?h34) qS qR ?_
             case r34 => (exact Rd.slD 1 rfl qX)
             case h34 => rfl
             refine WA.eff 10 rfl qK rfl rfl qD (Ef.buildSliceD (enc := encI) (parts := [.tmp 44]) [_] tab_ok rfl rfl rfl rfl rfl rfl rfl rfl qD qD (fun a45 => ?_))
             refine ⟨qR, qS, ?_⟩
             refine WA.eff 11 rfl (by kernel_rfl) rfl rfl (by decide) (Ef.appendD 2 0 tab_ok rfl rfl rfl rfl rfl rfl rfl rfl rfl rfl rfl (fun _ _ => rfl) (by simp only [List.length_cons, List.length_nil]; omega) (by simp only [List.length_cons, List.length_nil]; omega) (fun a46 c46 ha46 => ?_))
             refine ⟨qR, qS, ?_⟩
             refine tP 12 ?_
             refine zCF 13 1 ?_
             refine WA.done qK ?_
             refine zL ?_
             refine WE.again ((qs ++ [nth qs ((qs.length : Int) - 1).toNat], a46, c46, cn + 1)) (⟨by simp, by simp only [List.length_append, List.length_cons, List.length_nil]; omega⟩) (by simp only [List.length_append, List.length_cons, List.length_nil]; omega) ⟨rfl, rfl, rfl, rfl⟩ (RLe.refl _) qS
            ·
             refine' WS.yl rfl rfl rfl qD (Yl.load1 tab_ok rfl rfl rfl (fun _ => rfl) ?r35 rfl ?h35) qS qR ?_
             case r35 => (exact Rd.slD 1 rfl qX)
             case h35 => rfl
             refine WA.br2 (i := 1) (j := 10) qK ?_ ?_
             ·
              refine sL (Rd.add (Rd.blk 0 rfl) _) ?_
              refine WA.eff 10 rfl qK rfl rfl qD (Ef.buildSliceD (enc := encI) (parts := [.tmp 44]) [_] tab_ok rfl rfl rfl rfl rfl rfl rfl rfl qD qD (fun a45 => ?_))
              refine ⟨qR, qS, ?_⟩
              refine WA.eff 11 rfl (by kernel_rfl) rfl rfl (by decide) (Ef.appendD 2 0 tab_ok rfl rfl rfl rfl rfl rfl rfl rfl rfl rfl rfl (fun _ _ => rfl) (by simp only [List.length_cons, List.length_nil]; omega) (by simp only [List.length_cons, List.length_nil]; omega) (fun a46 c46 ha46 => ?_))
              refine ⟨qR, qS, ?_⟩
              refine tP 12 ?_
              refine zCF 13 1 ?_
              refine WA.done qK ?_
              refine zL ?_
              refine WE.again ((qs ++ [nth qs ((qs.length : Int) - 1).toNat], a46, c46, cn + 1)) (⟨by simp, by simp only [List.length_append, List.length_cons, List.length_nil]; omega⟩) (by simp only [List.length_append, List.length_cons, List.length_nil]; omega) ⟨rfl, rfl, rfl, rfl⟩ (RLe.refl _) qS
             ·
              refine WS.eff rfl rfl rfl qD (Ef.buildSliceD (enc := encI) (parts := [.tmp 44]) [_] tab_ok rfl rfl rfl rfl rfl rfl rfl rfl qD qD (fun a45 => ?_))
              refine ⟨qR, qS, ?_⟩
              refine lL 1 (Rd.add (Rd.blk 1 rfl) _) ?_
              refine WA.eff 11 rfl (by kernel_rfl) rfl rfl (by decide) (Ef.appendD 2 0 tab_ok rfl rfl rfl rfl rfl rfl rfl rfl rfl rfl rfl (fun _ _ => rfl) (by simp only [List.length_cons, List.length_nil]; omega) (by simp only [List.length_cons, List.length_nil]; omega) (fun a46 c46 ha46 => ?_))
              refine ⟨qR, qS, ?_⟩
              refine tP 12 ?_
              refine zCF 13 1 ?_
              refine WA.done qK ?_
              refine zL ?_
              refine WE.again ((qs ++ [nth qs ((qs.length : Int) - 1).toNat], a46, c46, cn + 1)) (⟨by simp, by simp only [List.length_append, List.length_cons, List.length_nil]; omega⟩) (by simp only [List.length_append, List.length_cons, List.length_nil]; omega) ⟨rfl, rfl, rfl, rfl⟩ (RLe.refl _) qS
         ·
          refine sL (Rd.add (Rd.blk 0 rfl) _) ?_
          refine tP 6 ?_
          refine tS 7 ?_
          refine WA.br2 (i := 1) (j := 3) qK ?_ ?_
          ·
           refine sL (Rd.add (Rd.blk 0 rfl) _) ?_
           refine lL 3 (Rd.add (Rd.blk 0 rfl) _) ?_
           refine WA.yl 8 rfl qK rfl rfl qD (Yl.index tab_ok rfl rfl rfl rfl rfl rfl (fun _ => rfl) qA (by intro _; first | exact fun _ _ _ _ => ha10 qO | exact qI)) qS qR ?_
           refine' WA.yl 9 rfl qK rfl rfl qD (Yl.load1 tab_ok rfl rfl rfl (fun _ => rfl) ?r41 rfl ?h41) qS qR ?_
           case r41 => (exact Rd.slD 1 rfl qX)
           case h41 => rfl
           refine WA.eff 10 rfl qK rfl rfl qD (Ef.buildSliceD (enc := encI) (parts := [.tmp 44]) [_] tab_ok rfl rfl rfl rfl rfl rfl rfl rfl qD qD (fun a45 => ?_))
           refine ⟨qR, qS, ?_⟩
           refine WA.eff 11 rfl (by kernel_rfl) rfl rfl (by decide) (Ef.appendD 2 0 tab_ok rfl rfl rfl rfl rfl rfl rfl rfl rfl rfl rfl (fun _ _ => rfl) (by simp only [List.length_cons, List.length_nil]; omega) (by simp only [List.length_cons, List.length_nil]; omega) (fun a46 c46 ha46 => ?_))
           refine ⟨qR, qS, ?_⟩
           refine tP 12 ?_
           refine zCF 13 1 ?_
           refine WA.done qK ?_
           refine zL ?_
           refine WE.again ((qs ++ [nth qs ((qs.length : Int) - 1).toNat], a46, c46, cn + 1)) (⟨by simp, by simp only [List.length_append, List.length_cons, List.length_nil]; omega⟩) (by simp only [List.length_append, List.length_cons, List.length_nil]; omega) ⟨rfl, rfl, rfl, rfl⟩ (RLe.refl _) qS
          ·
           refine sL (Rd.add (Rd.blk 0 rfl) _) ?_
           refine WA.br2 (i := 1) (j := 8) qK ?_ ?_
           ·
            refine sL (Rd.add (Rd.blk 0 rfl) _) ?_
            refine WA.yl 8 rfl qK rfl rfl qD (Yl.index tab_ok rfl rfl rfl rfl rfl rfl (fun _ => rfl) qA (by intro _; first | exact fun _ _ _ _ => ha10 qO | exact qI)) qS qR ?_
            refine' WA.yl 9 rfl qK rfl rfl qD (Yl.load1 tab_ok rfl rfl rfl (fun _ => rfl) ?r44 rfl ?h44) qS qR ?_
            case r44 => (exact Rd.slD 1 rfl qX)
            case h44 => rfl
            refine WA.eff 10 rfl qK rfl rfl qD (Ef.buildSliceD (enc := encI) (parts := [.tmp 44]) [_] tab_ok rfl rfl rfl rfl rfl rfl rfl rfl qD qD (fun a45 => ?_))
            refine ⟨qR, qS, ?_⟩
            refine WA.eff 11 rfl (by kernel_rfl) rfl rfl (by decide) (Ef.appendD 2 0 tab_ok rfl rfl rfl rfl rfl rfl rfl rfl rfl rfl rfl (fun _ _ => rfl) (by simp only [List.length_cons, List.length_nil]; omega) (by simp only [List.length_cons, List.length_nil]; omega) (fun a46 c46 ha46 => ?_))
            refine ⟨qR, qS, ?_⟩
            refine tP 12 ?_
            refine zCF 13 1 ?_
            refine WA.done qK ?_
            refine zL ?_
            refine WE.again ((qs ++ [nth qs ((qs.length : Int) - 1).toNat], a46, c46, cn + 1)) (⟨by simp, by simp only [List.length_append, List.length_cons, List.length_nil]; omega⟩) (by simp only [List.length_append, List.length_cons, List.length_nil]; omega) ⟨rfl, rfl, rfl, rfl⟩ (RLe.refl _) qS
           ·
            refine WS.yl rfl rfl rfl qD (Yl.index tab_ok rfl rfl rfl rfl rfl rfl (fun _ => rfl) qA (by intro _; first | exact fun _ _ _ _ => ha10 qO | exact qI)) qS qR ?_
            refine WA.br2 (i := 1) (j := 9) qK ?_ ?_
            ·
             refine sL (Rd.add (Rd.blk 0 rfl) _) ?_
             refine' WA.yl 9 rfl qK rfl rfl qD (Yl.load1 tab_ok rfl rfl rfl (fun _ => rfl) ?r46 rfl ?h46) qS qR ?_
             case r46 => (exact Rd.slD 1 rfl qX)
             case h46 => rfl
             refine WA.eff 10 rfl qK rfl rfl qD (Ef.buildSliceD (enc := encI) (parts := [.tmp 44]) [_] tab_ok rfl rfl rfl rfl rfl rfl rfl rfl qD qD (fun a45 => ?_))
             refine ⟨qR, qS, ?_⟩
             refine WA.eff 11 rfl (by kernel_rfl) rfl rfl (by decide) (Ef.appendD 2 0 tab_ok rfl rfl rfl rfl rfl rfl rfl rfl rfl rfl rfl (fun _ _ => rfl) (by simp only [List.length_cons, List.length_nil]; omega) (by simp only [List.length_cons, List.length_nil]; omega) (fun a46 c46 ha46 => ?_))
             refine ⟨qR, qS, ?_⟩
             refine tP 12 ?_
             refine zCF 13 1 ?_
             refine WA.done qK ?_
             refine zL ?_
             refine WE.again ((qs ++ [nth qs ((qs.length : Int) - 1).toNat], a46, c46, cn + 1)) (⟨by simp, by simp only [List.length_append, List.length_cons, List.length_nil]; omega⟩) (by simp only [List.length_append, List.length_cons, List.length_nil]; omega) ⟨rfl, rfl, rfl, rfl⟩ (RLe.refl _) qS
            ·
             refine' WS.yl rfl rfl rfl qD (Yl.load1 tab_ok rfl rfl rfl (fun _ => rfl) ?r47 rfl ?h47) qS qR ?_
             case r47 => (exact Rd.slD 1 rfl qX)
             case h47 => rfl
             refine WA.br2 (i := 1) (j := 10) qK ?_ ?_
             ·
              refine sL (Rd.add (Rd.blk 0 rfl) _) ?_
              refine WA.eff 10 rfl qK rfl rfl qD (Ef.buildSliceD (enc := encI) (parts := [.tmp 44]) [_] tab_ok rfl rfl rfl rfl rfl rfl rfl rfl qD qD (fun a45 => ?_))
              refine ⟨qR, qS, ?_⟩
              refine WA.eff 11 rfl (by kernel_rfl) rfl rfl (by decide) (Ef.appendD 2 0 tab_ok rfl rfl rfl rfl rfl rfl rfl rfl rfl rfl rfl (fun _ _ => rfl) (by simp only [List.length_cons, List.length_nil]; omega) (by simp only [List.length_cons, List.length_nil]; omega) (fun a46 c46 ha46 => ?_))
              refine ⟨qR, qS, ?_⟩
              refine tP 12 ?_
              refine zCF 13 1 ?_
              refine WA.done qK ?_
              refine zL ?_
              refine WE.again ((qs ++ [nth qs ((qs.length : Int) - 1).toNat], a46, c46, cn + 1)) (⟨by simp, by simp only [List.length_append, List.length_cons, List.length_nil]; omega⟩) (by simp only [List.length_append, List.length_cons, List.length_nil]; omega) ⟨rfl, rfl, rfl, rfl⟩ (RLe.refl _) qS
             ·
              refine WS.eff rfl rfl rfl qD (Ef.buildSliceD (enc := encI) (parts := [.tmp 44]) [_] tab_ok rfl rfl rfl rfl rfl rfl rfl rfl qD qD (fun a45 => ?_))
              refine ⟨qR, qS, ?_⟩
              refine lL 1 (Rd.add (Rd.blk 1 rfl) _) ?_
              refine WA.eff 11 rfl (by kernel_rfl) rfl rfl (by decide) (Ef.appendD 2 0 tab_ok rfl rfl rfl rfl rfl rfl rfl rfl rfl rfl rfl (fun _ _ => rfl) (by simp only [List.length_cons, List.length_nil]; omega) (by simp only [List.length_cons, List.length_nil]; omega) (fun a46 c46 ha46 => ?_))
              refine ⟨qR, qS, ?_⟩
              refine tP 12 ?_
              refine zCF 13 1 ?_
              refine WA.done qK ?_
              refine zL ?_
              refine WE.again ((qs ++ [nth qs ((qs.length : Int) - 1).toNat], a46, c46, cn + 1)) (⟨by simp, by simp only [List.length_append, List.length_cons, List.length_nil]; omega⟩) (by simp only [List.length_append, List.length_cons, List.length_nil]; omega) ⟨rfl, rfl, rfl, rfl⟩ (RLe.refl _) qS
        ·try dsimp only at hc6
         refine zX ?_
         refine wx (wx (zY (zL (zU ?_))))
         (refine W.cap 1 rfl ?_; intro hcp; rw [List.length_map] at hcp; (try rw [List.length_set] at hcp); refine W.freeze (enc := encI) 1 rfl ?_; intro R1 hR1 hfz)
         refine zQ (zG ?_)
         refine yL (Rd.blk 0 rfl) ?_
         refine zE 1 ?_
         refine zN (zU (zT ?_))
         refine WE.retFS (E' := srcE b a cp xs (cn + 1) :: F) qS tab_ok [_] rfl ⟨⟨_, _, _, rfl, rfl, rfl, qB, rfl⟩, trivial⟩ (hR1) ?_
         exact ⟨_, [], rfl, aq, cq, _, ⟨qs, c1.per, c1.inc⟩, rfl, hfz, by (try dsimp only); (try rw [List.length_set]); omega, by (try dsimp only); (try rw [List.length_set]); omega, rfl, rfl⟩
 ·
  refine W.regionH _ (ES := [.blk b3 [.slice fa c1.vals.length fc, .int .i64 c1.per, .int .i64 c1.inc]]) mixed ?_
  refine tP 1 ?_
  refine tL 2 (Rd.add (Rd.blk 0 rfl) _) ?_
  refine tP 4 ?_
  refine tL 5 (Rd.add (Rd.blk 0 rfl) _) ?_
  refine tP 6 ?_
  refine tL 7 (Rd.add (Rd.blk 0 rfl) _) ?_
  refine WA.br2 (i := 0) (j := 9) qK ?_ ?_
  ·
   refine WS.eff rfl rfl rfl qD (Ef.buildSliceD (enc := encI) (parts := []) [] tab_ok rfl rfl rfl rfl rfl rfl rfl rfl qD qD (fun a7 => ?_))
   refine ⟨qR, qS, ?_⟩
   refine WA.br2 (i := 3) (j := 9) qK ?_ ?_
   ·
    refine WS.eff rfl rfl rfl qD (Ef.cloneL (enc := encI) 0 tab_ok rfl rfl rfl rfl rfl rfl rfl rfl rfl rfl hx (fun _ _ => rfl) (by dsimp only; omega) qO (fun a10 c10 ha10 => ?_))
    refine ⟨qR, qS, ?_⟩
    -- build
    refine WA.take 8 rfl qK qK qK rfl rfl qD (Yl.build (parts := [(0, .tmp 10), (1, .tmp 12), (2, .tmp 14)]) tab_ok rfl rfl rfl rfl (fun _ => rfl) rfl rfl) qS qR ?_
    refine WA.eff 9 rfl qK rfl rfl qD (Ef.alloc tab_ok rfl rfl (fun b5 => ?_))
    refine ⟨qR, qS, ?_⟩
    refine zCE 10 0 ?_
    refine WA.done qK ?_
    refine WE.cutP (b5, a10, c10) trivial ⟨rfl, rfl, rfl, rfl⟩ (RLe.refl _) (by dsimp only; first | exact List.Perm.refl _ | exact List.Perm.swap _ _ _)
   ·
    refine WS.eff rfl rfl rfl qD (Ef.alloc tab_ok rfl rfl (fun b5 => ?_))
    refine ⟨qR, qS, ?_⟩
    refine WA.eff 3 rfl qK rfl rfl qD (Ef.cloneL (enc := encI) 1 tab_ok rfl rfl rfl rfl rfl rfl rfl rfl rfl rfl hx (fun _ _ => rfl) (by dsimp only; omega) qO (fun a10 c10 ha10 => ?_))
    refine ⟨qR, qS, ?_⟩
    -- build
    refine WA.take 8 rfl qK qK qK rfl rfl qD (Yl.build (parts := [(0, .tmp 10), (1, .tmp 12), (2, .tmp 14)]) tab_ok rfl rfl rfl rfl (fun _ => rfl) rfl rfl) qS qR ?_
    refine zCE 10 0 ?_
    refine WA.done qK ?_
    refine WE.cutP (b5, a10, c10) trivial ⟨rfl, rfl, rfl, rfl⟩ (RLe.refl _) (by dsimp only; first | exact List.Perm.refl _ | exact List.Perm.swap _ _ _)
  ·
   refine WS.eff rfl rfl rfl qD (Ef.alloc tab_ok rfl rfl (fun b5 => ?_))
   refine ⟨qR, qS, ?_⟩
   refine WA.eff 0 rfl qK rfl rfl qD (Ef.buildSliceD (enc := encI) (parts := []) [] tab_ok rfl rfl rfl rfl rfl rfl rfl rfl qD qD (fun a7 => ?_))
   refine ⟨qR, qS, ?_⟩
   refine WA.eff 3 rfl qK rfl rfl qD (Ef.cloneL (enc := encI) 0 tab_ok rfl rfl rfl rfl rfl rfl rfl rfl rfl rfl hx (fun _ _ => rfl) (by dsimp only; omega) qO (fun a10 c10 ha10 => ?_))
   refine ⟨qR, qS, ?_⟩
   -- build
   refine WA.take 8 rfl qK qK qK rfl rfl qD (Yl.build (parts := [(0, .tmp 10), (1, .tmp 12), (2, .tmp 14)]) tab_ok rfl rfl rfl rfl (fun _ => rfl) rfl rfl) qS qR ?_
   refine zCE 10 1 ?_
   refine WA.done qK ?_
   refine WE.cutP (b5, a10, c10) trivial ⟨rfl, rfl, rfl, rfl⟩ (RLe.refl _) (by dsimp only; first | exact List.Perm.refl _ | exact List.Perm.swap _ _ _)



theorem Range_C {R : Ro} {b : Nat} {a : Option Addr} {cp : Nat} {xs : List Int} {c : Nat} (w0 : World) {lo hi : Int} (ha : K.RS R 1 encI a xs) (hlo : -1000000 ≤ lo ∧ lo ≤ hi) (hhi : hi ≤ 1000000) : FnAt Tryz.prog 25 [.pointer (some ⟨b, 0, none⟩), .int .i64 lo, .int .i64 hi] w0 R (srcE b a cp xs c) (RdPost (.int .i64 (lo + mod (nth xs c) (hi - lo + 1))) R (srcE b a cp xs (c + 1))) := by
 intro F
 have hmr := mod_range (nth xs c) (show (1 : Int) ≤ hi - lo + 1 by omega)
 refine fE 15 Tryz.func25 ?_
 refine zQ (zG (zR 1 rfl (zN (zU (zQ (zG (zR 4 rfl ?_)))))))
 refine yS ?_
 refine yA ?_
 refine WL.callAt 0 en17 rfl rfl qD (CallOp.mkT rfl rfl rfl rfl) rfl (N_C w0 ha (by constructor <;> omega) _) ?_
 rintro _ _ _ _ - ⟨rfl, rfl, rfl, rfl⟩
 refine yA ?_
 refine zR 1 rfl (zN (zU (zT ?_)))
 refine WE.retF tab_ok [_] rfl ⟨rfl, trivial⟩ (RLe.refl _) ?_
 exact ⟨_, [], rfl, rfl, rfl, rfl, rfl⟩



theorem all_set {α : Type} {p : α → Prop} {xs : List α} {j : Nat} {u : α} (h : ∀ x ∈ xs, p x) (hu : p u) : ∀ x ∈ xs.set j u, p x := fun x hx => by
 rcases List.mem_or_eq_of_mem_set hx with g | g
 ·exact h x g
 ·rw [g]; exact hu
theorem all_app {α : Type} {p : α → Prop} {xs : List α} {u : α} (h : ∀ x ∈ xs, p x) (hu : p u) : ∀ x ∈ xs ++ [u], p x := fun x hx => by
 rcases List.mem_append.1 hx with g | g
 ·exact h x g
 ·rw [List.mem_singleton.1 g]; exact hu
theorem all_nth {α : Type} [Inhabited α] {p : α → Prop} {xs : List α} {i : Nat} (hi : i < xs.length) (h : ∀ x ∈ xs, p x) : p (nth xs i) := h _ (nth_mem hi)
theorem all_4 {α : Type} {p : α → Prop} {a b c d : α} (h1 : p a) (h2 : p b) (h3 : p c) (h4 : p d) : ∀ x ∈ [a, b, c, d], p x := fun x hx => by
 rcases List.mem_cons.1 hx with rfl | hx
 ·exact h1
 rcases List.mem_cons.1 hx with rfl | hx
 ·exact h2
 rcases List.mem_cons.1 hx with rfl | hx
 ·exact h3
 rw [List.mem_singleton.1 hx]; exact h4
theorem pick_lt (x : Int) {n : Nat} (hn : 0 < n) : (mod x (n : Int)).toNat < n := by
 have := mod_range x (show (1 : Int) ≤ (n : Int) by omega)
 omega

set_option maxHeartbeats 4000000 in
theorem BentNet_C {R : Ro} {b : Nat} {a : Option Addr} {cp : Nat} {xs : List Int} {c : Nat} {na la fa : Option Addr} {nc lc fc : Nat} {ns : List (List UInt8)} {ms : List LnM} {fs : List FlM} (w0 : World) (ha : RS R 1 encI a xs) (hna : K.RS R 1 encT na ns) (hla : K.RS R 5 encLn la ms) (hfa : K.RS R 8 encFl fa fs) (hom : ∀ m ∈ ms, OkLn R m) (hof : ∀ x ∈ fs, OkFl R x ∧ x.f.route.length ≤ 100 ∧ validB x.f.cv = true) (hnn : ∀ x ∈ ns, x.length ≤ 1000) (hml : 1 ≤ ms.length ∧ ms.length ≤ 4) (hnl : ns.length = ms.length) (hfl : fs.length ≤ 4) : FnAt Tryz.prog 11 [.pointer (some ⟨b, 0, none⟩), .agg #[.slice na ns.length nc, .slice la ms.length lc, .slice fa fs.length fc]] w0 R (srcE b a cp xs c) (fun v R' e' N => ∃ (z : NtS) (cn : Nat), v = .agg (encNt z).toArray ∧ OkNt R' z ∧ e' = srcE b a cp xs cn ∧ N = []) := by
 intro F
 have hlns := hna.len
 have hlms := hla.len
 have hlfs := hfa.len
 have hofk := fun x hx => (hof x hx).1
 refine fE 169 Tryz.func11 ?_
 refine zQ (zG ?_)
 refine zO fun b3 => ?_
 refine zA fun b4 => ?_
 refine zN (zU ?_)
 refine W.nil 35 8 qD ?_
 refine W.nil 29 5 qD ?_
 refine W.nil 9 1 qD ?_
 refine zQ (zG (zR 1 rfl ?_))
 refine yL (Rd.add (Rd.blk 4 rfl) _) ?_
 refine WL.ef rfl rfl qD (Ef.cloneR (enc := encT) 0 tab_ok rfl rfl rfl rfl rfl rfl rfl rfl rfl rfl hna (fun _ _ => rfl) (by (try dsimp only); omega) qO (fun a9 c9 ha9 => ?_))
 refine zR 1 rfl ?_
 refine zF 4 ?_
 refine zN (zU (zQ (zG (zR 1 rfl ?_))))
 refine yL (Rd.add (Rd.blk 4 rfl) _) ?_
 refine WL.ef rfl rfl qD (Ef.cloneR (enc := encLn) 1 tab_ok rfl rfl rfl rfl rfl rfl rfl rfl rfl rfl hla (fun _ _ => rfl) (by (try dsimp only); omega) qO (fun a13 c13 ha13 => ?_))
 refine zR 1 rfl ?_
 refine zF 4 ?_
 refine zN (zU (zQ (zG (zR 1 rfl ?_))))
 refine yL (Rd.add (Rd.blk 4 rfl) _) ?_
 refine WL.ef rfl rfl qD (Ef.cloneR (enc := encFl) 2 tab_ok rfl rfl rfl rfl rfl rfl rfl rfl rfl rfl hfa (fun _ _ => rfl) (by (try dsimp only); omega) qO (fun a17 c17 ha17 => ?_))
 refine zR 1 rfl ?_
 refine zF 4 ?_
 refine zN (zU (zQ ?_))
 refine W.seqCut (β := Bool × Nat) (fun (e, cn) => e = false → 0 < fs.length) (fun (e, cn) => [(0, true, .pointer (some ⟨b, 0, none⟩)), (3, true, .pointer (some ⟨b3, 0, none⟩)), (4, true, .pointer (some ⟨b4, 0, none⟩)), (27, true, .bool e)]) (fun _ => R) (fun (e, cn) => .sl 9 1 a9 c9 (ns.map encT) :: .sl 29 5 a13 c13 (ms.map encLn) :: .sl 35 8 a17 c17 (fs.map encFl) :: .blk b4 [.slice none 0 0, .slice none 0 0, .slice none 0 0] :: .blk b3 [.slice a9 ns.length c9, .slice a13 ms.length c13, .slice a17 fs.length c17] :: srcE b a cp xs cn :: F) ?_ ?_
 ·
  intro st hst
  obtain ⟨e, cn⟩ := st
  dsimp only at hst ⊢
  refine W.cond rfl (fun hc0 => ?_) (fun hc0 => ?_)
  ·try simp only [zk] at hc0
   refine W.seqCut (β := Option Addr × Nat × Nat × List (List UInt8) × List LnM × Nat) (fun (a9, c9, m, qs, ls, cn) => m = qs.length ∧ ls.length = ms.length ∧ (∀ x ∈ qs, x.length ≤ 1000) ∧ ∀ m ∈ ls, OkLn R m) (fun (a9, c9, m, qs, ls, cn) => [(0, true, .pointer (some ⟨b, 0, none⟩)), (3, true, .pointer (some ⟨b3, 0, none⟩)), (4, true, .pointer (some ⟨b4, 0, none⟩))]) (fun _ => R) (fun (a9, c9, m, qs, ls, cn) => .sl 9 1 a9 c9 (qs.map encT) :: .sl 29 5 a13 c13 (ls.map encLn) :: .sl 35 8 a17 c17 (fs.map encFl) :: .blk b4 [.slice none 0 0, .slice none 0 0, .slice none 0 0] :: .blk b3 [.slice a9 m c9, .slice a13 ms.length c13, .slice a17 fs.length c17] :: srcE b a cp xs cn :: F) ?_ ?_
   ·
    intro st hst
    obtain ⟨a9, c9, m, qs, ls, cn⟩ := st
    obtain ⟨hmq, hlsl, hqn, hlo⟩ := hst
    dsimp only at hmq hlsl hqn hlo ⊢
    subst hmq
    refine W.freeze (enc := encT) (xs := qs) 0 rfl ?_
    intro R1 hR1 hz1
    refine W.freeze (enc := encLn) (xs := ls) 0 rfl ?_
    intro R2 hR2 hz2
    refine W.freeze (enc := encFl) (xs := fs) 0 rfl ?_
    intro R3 hR3 hz3
    refine zQ (zG ?_)
    refine yL (Rd.blk 1 rfl) ?_
    refine zE 0 ?_
    refine zN (zU (zT (wt ?_)))
    refine WE.retFS (E' := srcE b a cp xs (cn) :: F) qS tab_ok [_] rfl ⟨⟨_, _, _, rfl, rfl, rfl, qB, rfl⟩, trivial⟩ (by first | exact hR1.trans (hR2.trans hR3) | exact hRa.trans (hR1.trans (hR2.trans hR3))) ?_
    exact ⟨_, [], rfl, ⟨a9, c9, qs, a13, c13, ls, a17, c17, fs⟩, cn, (by unfold encNt; rw [hlsl]; rfl), ⟨hz1.mono (hR2.trans hR3), hz2.mono hR3, hz3, fun m hm => (hlo m hm).mono (hR1.trans (hR2.trans hR3)), fun x hx => (hofk x hx).mono (hR1.trans (hR2.trans hR3)), fun x hx => by have := hqn x hx; omega⟩, rfl, rfl⟩
   ·
    refine zQ (zG (zR 2 rfl ?_))
    refine yL (Rd.add (Rd.blk 4 rfl) _) ?_
    refine zR 1 rfl ?_
    refine WL.callAt 5 en17 rfl rfl qD (CallOp.mkT rfl rfl rfl rfl) rfl (N_C (n := (ms.length : Int)) w0 ha (by constructor <;> omega) _) ?_
    rintro _ _ _ _ - ⟨rfl, rfl, rfl, rfl⟩
    have hm1 := mod_range (nth xs cn) (show (1 : Int) ≤ (ms.length : Int) by omega)
    obtain ⟨i, hi⟩ := Int.eq_ofNat_of_zero_le (show 0 ≤ mod (nth xs cn) (ms.length : Int) by omega)
    rw [hi] at hm1 ⊢
    have hil : i < ms.length := by omega
    have hin : i < ns.length := by omega
    refine zR 1 rfl (zN (zU (zQ (zG (zR 1 rfl ?_)))))
    refine WL.callAt 5 en17 rfl rfl qD (CallOp.mkT rfl rfl rfl rfl) rfl (N_C (n := 5) w0 ha (by constructor <;> omega) _) ?_
    rintro _ _ _ _ - ⟨rfl, rfl, rfl, rfl⟩
    refine zN (zU (zB (zQ (zG (zR 2 rfl (zN (zU ?_)))))))
    refine W.condE rfl (fun hc1 => ?_) (fun hc1 => ?_)
    ·try dsimp only at hc1
     refine W.regionH _ (ES := [.blk b3 [.slice a9 ns.length c9, .slice a13 ms.length c13, .slice a17 fs.length c17]]) mixed ?_
     refine tP 0 ?_
     refine tL 1 (Rd.add (Rd.blk 0 rfl) _) ?_
     refine tP 2 ?_
     refine tP 3 ?_
     refine WA.eff 4 rfl qK rfl rfl qD (Ef.buildSliceD (enc := encT) (parts := [.const (.string ⟨#[]⟩), .const (.string ⟨#[65]⟩), .const (.string ⟨#[97]⟩), .const (.string ⟨#[49, 97]⟩), .const (.string ⟨#[97, 45, 49]⟩), .const (.string ⟨#[97, 98, 99, 100, 101, 102, 103, 104, 105, 106, 107, 108, 109]⟩)]) [_, _, _, _, _, _] tab_ok rfl rfl rfl rfl rfl rfl rfl rfl qD qD (fun a49 => ?_))
     refine ⟨qR, qS, ?_⟩
     refine WA.callAt 6 5 rfl qK en18 rfl rfl qD (CallOp.mkT rfl rfl rfl rfl) rfl (Text_C (j := 0) (ys := [[], [65], [97], [49, 97], [97, 45, 49], [97, 98, 99, 100, 101, 102, 103, 104, 105, 106, 107, 108, 109]]) w0 ha rfl qD qD) ?_
     rintro _ _ _ _ - ⟨rfl, rfl, rfl, rfl⟩
     refine ⟨RLe.refl _, qS, ?_⟩
     refine WA.yl 6 rfl qK rfl rfl qD (Yl.indexN tab_ok rfl rfl rfl rfl rfl rfl (fun _ => rfl) qN qH) qS qR ?_
     refine WA.effN 7 rfl qK rfl rfl (Ef.storeD _ 1 tab_ok rfl rfl rfl rfl rfl qX rfl rfl rfl rfl ?_)
     refine ⟨qR, qS, ?_⟩
     refine WA.done qK ?_
     refine zL ?_
     refine WE.cut (a9, c9, ns.length, ns.set i (nth ([[], [65], [97], [49, 97], [97, 45, 49], [97, 98, 99, 100, 101, 102, 103, 104, 105, 106, 107, 108, 109]] : List (List UInt8)) (mod (nth xs (cn + 1 + 1)) ((6 : Nat) : Int)).toNat), ms, cn + 1 + 1 + 1) ⟨by rw [List.length_set], rfl, all_set hnn (all_nth (p := fun x : List UInt8 => x.length ≤ 1000) (pick_lt _ (by decide)) (by decide)), hom⟩ ⟨rfl, rfl, rfl, rfl⟩ (RLe.refl _) qS
    ·try dsimp only at hc1
     refine zQ (zG (zR 2 rfl (zN (zU ?_))))
     refine W.condE rfl (fun hc2 => ?_) (fun hc2 => ?_)
     ·try dsimp only at hc2
      refine zG (zR 1 rfl ?_)
      refine yL (Rd.add (Rd.blk 4 rfl) _) ?_
      refine WL.ef rfl rfl qD (Ef.buildSliceD (enc := encT) (parts := [.const (.string ⟨#[122, 122]⟩)]) [_] tab_ok rfl rfl rfl rfl rfl rfl rfl rfl qD qD (fun a56 => ?_))
      refine WL.ef rfl rfl (by decide) (Ef.appendD 1 0 tab_ok rfl rfl rfl rfl rfl rfl rfl rfl rfl rfl rfl (fun _ _ => rfl) (by simp only [List.length_cons, List.length_nil]; omega) (by simp only [List.length_cons, List.length_nil]; omega) (fun a57 c57 ha57 => ?_))
      refine zR 1 rfl ?_
      refine zF 5 ?_
      refine zN (zL ?_)
      refine WE.cut (a57, c57, (ns ++ [[122, 122]]).length, (ns ++ [[122, 122]]), ms, cn + 1 + 1) ⟨rfl, rfl, all_app hnn qD, hom⟩ ⟨rfl, rfl, rfl, rfl⟩ (RLe.refl _) qS
     ·try dsimp only at hc2
      refine zQ (zG (zR 2 rfl (zN (zU ?_))))
      refine W.condE rfl (fun hc3 => ?_) (fun hc3 => ?_)
      ·try dsimp only at hc3
       refine W.regionH _ (ES := [.blk b3 [.slice a9 ns.length c9, .slice a13 ms.length c13, .slice a17 fs.length c17]]) mixed ?_
       refine tP 0 ?_
       refine tL 1 (Rd.add (Rd.blk 0 rfl) _) ?_
       refine tP 2 ?_
       refine tP 3 ?_
       refine WA.eff 4 rfl qK rfl rfl qD (Ef.buildSliceD (enc := encI) (parts := [.const (.int .i64 0), .const (.int .i64 1), .const (.int .i64 4000), .const (.int .i64 4001)]) [_, _, _, _] tab_ok rfl rfl rfl rfl rfl rfl rfl rfl qD qD (fun a65 => ?_))
       refine ⟨qR, qS, ?_⟩
       refine WA.callAt 6 5 rfl qK en29 rfl rfl qD (CallOp.mkT rfl rfl rfl rfl) rfl (PickM_C (j := 0) w0 ([0, 1, 4000, 4001] : List Int) rfl qD qD ha rfl) ?_
       rintro _ _ _ _ - ⟨rfl, rfl, rfl, rfl⟩
       refine ⟨RLe.refl _, qS, ?_⟩
       refine WA.yl 6 rfl qK rfl rfl qD (Yl.indexN tab_ok rfl rfl rfl rfl rfl rfl (fun _ => rfl) qN qH) qS qR ?_
       refine tP 7 ?_
       refine WA.effN 8 rfl qK rfl rfl (Ef.storeF (enc := encLn) (xs := ms) (⟨(nth ms i).a1, (nth ms i).c1, (nth ms i).a2, (nth ms i).c2, ⟨(nth ms i).L.kind, nth ([0, 1, 4000, 4001] : List Int) (mod (nth xs (cn + 1 + 1)) ((4 : Nat) : Int)).toNat, (nth ms i).L.n, (nth ms i).L.w, (nth ms i).L.tb⟩⟩ : LnM) 2 tab_ok rfl rfl rfl rfl rfl qO rfl rfl qD rfl ?_)
       refine ⟨qR, qS, ?_⟩
       refine WA.done qK ?_
       refine zL ?_
       refine WE.cut (a9, c9, ns.length, ns, ms.set i (⟨(nth ms i).a1, (nth ms i).c1, (nth ms i).a2, (nth ms i).c2, ⟨(nth ms i).L.kind, nth ([0, 1, 4000, 4001] : List Int) (mod (nth xs (cn + 1 + 1)) ((4 : Nat) : Int)).toNat, (nth ms i).L.n, (nth ms i).L.w, (nth ms i).L.tb⟩⟩ : LnM), cn + 1 + 1 + 1) ⟨rfl, by rw [List.length_set], hnn, all_set hom (show OkLn R _ from ⟨(hom _ (nth_mem hil)).1, (hom _ (nth_mem hil)).2⟩)⟩ ⟨rfl, rfl, rfl, rfl⟩ (RLe.refl _) qS
      ·try dsimp only at hc3
       refine zQ (zG (zR 2 rfl (zN (zU ?_))))
       refine W.condE rfl (fun hc4 => ?_) (fun hc4 => ?_)
       ·try dsimp only at hc4
        refine W.regionH _ (ES := [.blk b3 [.slice a9 ns.length c9, .slice a13 ms.length c13, .slice a17 fs.length c17]]) mixed ?_
        refine tP 0 ?_
        refine tL 1 (Rd.add (Rd.blk 0 rfl) _) ?_
        refine tP 2 ?_
        refine tP 3 ?_
        refine WA.callAt 5 4 rfl qK en25 rfl rfl qD (CallOp.mkT rfl rfl rfl rfl) rfl (Range_C (lo := 0) (hi := 6) w0 ha (by constructor <;> omega) qO _) ?_
        rintro _ _ _ _ - ⟨rfl, rfl, rfl, rfl⟩
        refine ⟨RLe.refl _, qS, ?_⟩
        refine WA.yl 5 rfl qK rfl rfl qD (Yl.indexN tab_ok rfl rfl rfl rfl rfl rfl (fun _ => rfl) qN qH) qS qR ?_
        refine tP 6 ?_
        refine WA.effN 7 rfl qK rfl rfl (Ef.storeF (enc := encLn) (xs := ms) (⟨(nth ms i).a1, (nth ms i).c1, (nth ms i).a2, (nth ms i).c2, ⟨(0 + mod (nth xs (cn + 1 + 1)) (6 - 0 + 1)), (nth ms i).L.cap, (nth ms i).L.n, (nth ms i).L.w, (nth ms i).L.tb⟩⟩ : LnM) 1 tab_ok rfl rfl rfl rfl rfl qO rfl rfl qD rfl ?_)
        refine ⟨qR, qS, ?_⟩
        refine WA.done qK ?_
        refine zL ?_
        refine WE.cut (a9, c9, ns.length, ns, ms.set i (⟨(nth ms i).a1, (nth ms i).c1, (nth ms i).a2, (nth ms i).c2, ⟨(0 + mod (nth xs (cn + 1 + 1)) (6 - 0 + 1)), (nth ms i).L.cap, (nth ms i).L.n, (nth ms i).L.w, (nth ms i).L.tb⟩⟩ : LnM), cn + 1 + 1 + 1) ⟨rfl, by rw [List.length_set], hnn, all_set hom (show OkLn R _ from ⟨(hom _ (nth_mem hil)).1, (hom _ (nth_mem hil)).2⟩)⟩ ⟨rfl, rfl, rfl, rfl⟩ (RLe.refl _) qS
       ·try dsimp only at hc4
        refine W.regionH _ (ES := [.blk b3 [.slice a9 ns.length c9, .slice a13 ms.length c13, .slice a17 fs.length c17]]) mixed ?_
        refine tP 0 ?_
        refine tL 1 (Rd.add (Rd.blk 0 rfl) _) ?_
        refine tP 2 ?_
        refine tP 3 ?_
        refine WA.eff 4 rfl qK rfl rfl qD (Ef.buildSliceD (enc := encI) (parts := [.const (.int .i64 0), .const (.int .i64 1), .const (.int .i64 2), .const (.int .i64 6), .const (.int .i64 7)]) [_, _, _, _, _] tab_ok rfl rfl rfl rfl rfl rfl rfl rfl qD qD (fun a39 => ?_))
        refine ⟨qR, qS, ?_⟩
        refine WA.callAt 6 5 rfl qK en29 rfl rfl qD (CallOp.mkT rfl rfl rfl rfl) rfl (PickM_C (j := 0) w0 ([0, 1, 2, 6, 7] : List Int) rfl qD qD ha rfl) ?_
        rintro _ _ _ _ - ⟨rfl, rfl, rfl, rfl⟩
        refine ⟨RLe.refl _, qS, ?_⟩
        refine WA.yl 6 rfl qK rfl rfl qD (Yl.indexN tab_ok rfl rfl rfl rfl rfl rfl (fun _ => rfl) qN qH) qS qR ?_
        refine tP 7 ?_
        refine WA.effN 8 rfl qK rfl rfl (Ef.storeF (enc := encLn) (xs := ms) (⟨(nth ms i).a1, (nth ms i).c1, (nth ms i).a2, (nth ms i).c2, ⟨(nth ms i).L.kind, (nth ms i).L.cap, nth ([0, 1, 2, 6, 7] : List Int) (mod (nth xs (cn + 1 + 1)) ((5 : Nat) : Int)).toNat, (nth ms i).L.w, (nth ms i).L.tb⟩⟩ : LnM) 2 tab_ok rfl rfl rfl rfl rfl qO rfl rfl qD rfl ?_)
        refine ⟨qR, qS, ?_⟩
        refine WA.done qK ?_
        refine zL ?_
        refine WE.cut (a9, c9, ns.length, ns, ms.set i (⟨(nth ms i).a1, (nth ms i).c1, (nth ms i).a2, (nth ms i).c2, ⟨(nth ms i).L.kind, (nth ms i).L.cap, nth ([0, 1, 2, 6, 7] : List Int) (mod (nth xs (cn + 1 + 1)) ((5 : Nat) : Int)).toNat, (nth ms i).L.w, (nth ms i).L.tb⟩⟩ : LnM), cn + 1 + 1 + 1) ⟨rfl, by rw [List.length_set], hnn, all_set hom (show OkLn R _ from ⟨(hom _ (nth_mem hil)).1, (hom _ (nth_mem hil)).2⟩)⟩ ⟨rfl, rfl, rfl, rfl⟩ (RLe.refl _) qS
  ·try simp only [zk] at hc0
   have hf0 : 0 < fs.length := hst (by first | exact hc0 | simpa using hc0)
   refine zK (zU (zQ ?_))
   refine W.regionH _ (ES := [.blk b3 [.slice a9 ns.length c9, .slice a13 ms.length c13, .slice a17 fs.length c17]]) mixed ?_
   refine tP 0 ?_
   refine tL 1 (Rd.add (Rd.blk 0 rfl) _) ?_
   refine tP 2 ?_
   refine tP 3 ?_
   refine tL 4 (Rd.add (Rd.blk 0 rfl) _) ?_
   refine tP 5 ?_
   refine WA.callAt 5 6 rfl qK en17 rfl rfl qD (CallOp.mkT rfl rfl rfl rfl) rfl (N_C (n := (fs.length : Int)) w0 ha (by constructor <;> omega) _) ?_
   rintro _ _ _ _ - ⟨rfl, rfl, rfl, rfl⟩
   refine ⟨RLe.refl _, qS, ?_⟩
   have hm1 := mod_range (nth xs cn) (show (1 : Int) ≤ (fs.length : Int) by omega)
   obtain ⟨j, hj⟩ := Int.eq_ofNat_of_zero_le (show 0 ≤ mod (nth xs cn) (fs.length : Int) by omega)
   rw [hj] at hm1 ⊢
   have hjl : j < fs.length := by omega
   have hfj := hof _ (nth_mem hjl)
   refine WA.yl 7 rfl qK rfl rfl qD (Yl.indexN tab_ok rfl rfl rfl rfl rfl rfl (fun _ => rfl) qN qH) qS qR ?_
   refine tP 8 ?_
   refine WA.done qK ?_
   refine zU ?_
   refine W.seqCut (β := Ro × List FlM × Nat) (fun (Ra, gs, cn) => RLe R Ra ∧ gs.length = fs.length ∧ ∀ x ∈ gs, OkFl Ra x) (fun (Ra, gs, cn) => [(0, true, .pointer (some ⟨b, 0, none⟩)), (3, true, .pointer (some ⟨b3, 0, none⟩)), (4, true, .pointer (some ⟨b4, 0, none⟩))]) (fun (Ra, gs, cn) => Ra) (fun (Ra, gs, cn) => .sl 9 1 a9 c9 (ns.map encT) :: .sl 29 5 a13 c13 (ms.map encLn) :: .sl 35 8 a17 c17 (gs.map encFl) :: .blk b4 [.slice none 0 0, .slice none 0 0, .slice none 0 0] :: .blk b3 [.slice a9 ns.length c9, .slice a13 ms.length c13, .slice a17 fs.length c17] :: srcE b a cp xs cn :: F) ?_ ?_
   ·
    intro st hst
    obtain ⟨Ra, gs, cn⟩ := st
    obtain ⟨hRa, hgl, hgo⟩ := hst
    dsimp only at hRa hgl hgo ⊢
    refine W.freeze (enc := encT) (xs := ns) 0 rfl ?_
    intro R1 hR1 hz1
    refine W.freeze (enc := encLn) (xs := ms) 0 rfl ?_
    intro R2 hR2 hz2
    refine W.freeze (enc := encFl) (xs := gs) 0 rfl ?_
    intro R3 hR3 hz3
    refine zQ (zG ?_)
    refine yL (Rd.blk 1 rfl) ?_
    refine zE 0 ?_
    refine zN (zU (zT ?_))
    refine WE.retFS (E' := srcE b a cp xs (cn) :: F) qS tab_ok [_] rfl ⟨⟨_, _, _, rfl, rfl, rfl, qB, rfl⟩, trivial⟩ (by first | exact hR1.trans (hR2.trans hR3) | exact hRa.trans (hR1.trans (hR2.trans hR3))) ?_
    exact ⟨_, [], rfl, ⟨a9, c9, ns, a13, c13, ms, a17, c17, gs⟩, cn, (by unfold encNt; rw [hgl]; rfl), ⟨hz1.mono (hR2.trans hR3), hz2.mono hR3, hz3, fun m hm => (hom m hm).mono (hRa.trans (hR1.trans (hR2.trans hR3))), fun x hx => (hgo x hx).mono (hR1.trans (hR2.trans hR3)), fun x hx => by have := hnn x hx; omega⟩, rfl, rfl⟩
   ·
    refine zQ (zG (zR 1 rfl ?_))
    refine WL.callAt 5 en17 rfl rfl qD (CallOp.mkT rfl rfl rfl rfl) rfl (N_C (n := 8) w0 ha (by constructor <;> omega) _) ?_
    rintro _ _ _ _ - ⟨rfl, rfl, rfl, rfl⟩
    refine zN (zU (zB (zQ (zG (zR 2 rfl (zN (zU ?_)))))))
    refine W.condE rfl (fun hc5 => ?_) (fun hc5 => ?_)
    ·try dsimp only at hc5
     refine zG (zR 2 rfl ?_)
     refine WL.ef rfl rfl qD (Ef.buildSliceD (enc := encT) (parts := [.const (.string ⟨#[]⟩), .const (.string ⟨#[102]⟩), .const (.string ⟨#[70]⟩), .const (.string ⟨#[120, 32, 121]⟩), .const (.string ⟨#[102, 45, 50]⟩)]) [_, _, _, _, _] tab_ok rfl rfl rfl rfl rfl rfl rfl rfl qD qD (fun a106 => ?_))
     refine WL.callAt 6 en18 rfl rfl qD (CallOp.mkT rfl rfl rfl rfl) rfl (Text_C (j := 0) (ys := [[], [102], [70], [120, 32, 121], [102, 45, 50]]) w0 ha rfl qD qD) ?_
     rintro _ _ _ _ - ⟨rfl, rfl, rfl, rfl⟩
     refine zR 2 rfl ?_
     refine WL.efN rfl rfl (Ef.storeF (enc := encFl) (xs := fs) (⟨(nth fs j).a1, (nth fs j).c1, (nth fs j).a2, (nth fs j).c2, ⟨nth ([[], [102], [70], [120, 32, 121], [102, 45, 50]] : List (List UInt8)) (mod (nth xs (cn + 1 + 1)) ((5 : Nat) : Int)).toNat, (nth fs j).f.route, (nth fs j).f.cls, (nth fs j).f.lo, (nth fs j).f.hi, (nth fs j).f.cv⟩⟩ : FlM) 3 tab_ok rfl rfl rfl rfl rfl qO rfl rfl qD rfl ?_)
     refine zN (zL ?_)
     refine WE.cut (R, fs.set j (⟨(nth fs j).a1, (nth fs j).c1, (nth fs j).a2, (nth fs j).c2, ⟨nth ([[], [102], [70], [120, 32, 121], [102, 45, 50]] : List (List UInt8)) (mod (nth xs (cn + 1 + 1)) ((5 : Nat) : Int)).toNat, (nth fs j).f.route, (nth fs j).f.cls, (nth fs j).f.lo, (nth fs j).f.hi, (nth fs j).f.cv⟩⟩ : FlM), cn + 1 + 1 + 1) ⟨RLe.refl _, by rw [List.length_set], all_set hofk ⟨hfj.1.route, hfj.1.vals, hfj.1.len, all_nth (p := fun x : List UInt8 => x.length ≤ 9223372036854775807) (pick_lt _ (by decide)) (by decide)⟩⟩ ⟨rfl, rfl, rfl, rfl⟩ (RLe.refl _) qS
    ·try dsimp only at hc5
     refine zQ (zG (zR 2 rfl (zN (zU ?_))))
     refine W.condE rfl (fun hc6 => ?_) (fun hc6 => ?_)
     ·try dsimp only at hc6
      refine W.nil 3 1 qD ?_
      refine W.regionD _ [.blk b3 [.slice a9 ns.length c9, .slice a13 ms.length c13, .slice a17 fs.length c17]] [.sl 35 8 a17 c17 (fs.map encFl), .blk b3 [.slice a9 ns.length c9, .slice a13 ms.length c13, .slice a17 fs.length c17]] [15] mixed ?_
      refine VA.take2 0 rfl qK qK qK rfl qK qK rfl rfl qD (pureV_ok tab_ok rfl (fun _ => rfl)) qS qR qS ?_
      refine VA.take2 1 rfl qK qK qK rfl qK qK rfl rfl qD (pureV_ok tab_ok rfl (fun _ => rfl)) qS qR qS ?_
      refine VA.take2 2 rfl qK qK qK rfl qK qK rfl rfl qD (pureV_ok tab_ok rfl (fun _ => rfl)) qS qR qS ?_
      refine VA.take2 3 rfl qK qK qK rfl qK qK rfl rfl qD (pureV_ok tab_ok rfl (fun _ => rfl)) qS qR qS ?_
      refine' VA.take2 4 rfl qK qK qK rfl qK qK rfl rfl qD (Yl.load1 tab_ok rfl rfl rfl (fun _ => rfl) ?r14 rfl ?h14) qS qR qS ?_
      case r14 => apply Rd.add; (exact Rd.slD 0 rfl qX)
      case h14 => rfl
      refine VA.take2 6 rfl qK qK qK rfl qK qK rfl rfl qD (pureV_ok tab_ok rfl (fun _ => rfl)) qS qR qS ?_
      refine VA.take2 7 rfl qK qK qK rfl qK qK rfl rfl qD (pureV_ok tab_ok rfl (fun _ => rfl)) qS qR qS ?_
      refine' VA.take2 8 rfl qK qK qK rfl qK qK rfl rfl qD (Yl.load1 tab_ok rfl rfl rfl (fun _ => rfl) ?r15 rfl ?h15) qS qR qS ?_
      case r15 => apply Rd.add; (exact Rd.blk 1 rfl)
      case h15 => rfl
      refine VA.take2 9 rfl qK qK qK rfl qK qK rfl rfl qD (pureV_ok tab_ok rfl (fun _ => rfl)) qS qR qS ?_
      refine VA.one (i := 5) qK ?_
      refine VS.eff rfl rfl rfl qD (Ef.cloneR (enc := encI) 0 tab_ok rfl rfl rfl rfl rfl rfl rfl rfl rfl rfl hfj.1.route (fun _ _ => rfl) (by (try dsimp only); omega) qO (fun a117 c117 ha117 => ?_))
      refine ⟨by first | exact RLe.refl _ | assumption, qS, (fun _ => qS), ?_⟩
      refine VA.one (i := 10) qK ?_
      refine VS.callAt 6 rfl en25 rfl rfl qD (CallOp.mkT rfl rfl rfl rfl) rfl (Range_C (lo := (-1)) (hi := (ms.length : Int)) w0 ha (by constructor <;> omega) qO _) ?_
      rintro _ _ _ _ - ⟨rfl, rfl, rfl, rfl⟩
      refine ⟨RLe.refl _, qS, (fun _ => qS), ?_⟩
      refine VA.one (i := 11) qK ?_
      refine VS.eff rfl rfl rfl qD (Ef.buildSliceD (enc := encI) (parts := [.tmp 122]) [_] tab_ok rfl rfl rfl rfl rfl rfl rfl rfl qD qD (fun a123 => ?_))
      refine ⟨by first | exact RLe.refl _ | assumption, qS, (fun _ => qS), ?_⟩
      refine VA.one (i := 12) qK ?_
      refine VS.eff rfl rfl rfl (by decide) (Ef.appendD 1 0 tab_ok rfl rfl rfl rfl rfl rfl rfl rfl rfl rfl rfl (fun _ _ => rfl) (by simp only [List.length_cons, List.length_nil]; omega) (by simp only [List.length_cons, List.length_nil]; omega) (fun a124 c124 ha124 => ?_))
      refine ⟨by first | exact RLe.refl _ | assumption, qS, (fun _ => qS), ?_⟩
      refine VA.take 13 rfl qK qK qK rfl rfl rfl qD (pureV_ok tab_ok rfl (fun _ => rfl)) qS qR (fun _ => qS) ?_
      refine VA.take2 14 rfl qK qK qK rfl qK qK rfl rfl qD (pureV_ok tab_ok rfl (fun _ => rfl)) qS qR qS ?_
      refine VA.one (i := 15) qK ?_
      refine VS.effN rfl rfl rfl (Ef.storeF (enc := encFl) (xs := fs) (⟨a124, c124, (nth fs j).a2, (nth fs j).c2, ⟨(nth fs j).f.name, ((nth fs j).f.route ++ [(-1) + mod (nth xs (cn + 1 + 1)) ((ms.length : Int) - (-1) + 1)]), (nth fs j).f.cls, (nth fs j).f.lo, (nth fs j).f.hi, (nth fs j).f.cv⟩⟩ : FlM) 4 tab_ok rfl rfl rfl rfl rfl qO rfl rfl qD rfl ?_)
      refine ⟨by first | exact RLe.refl _ | assumption, qS, (noD qK), ?_⟩
      refine VA.done qK ?_
      refine zL ?_
      refine WE.freeze (enc := encI) (xs := ((nth fs j).f.route ++ [(-1) + mod (nth xs (cn + 1 + 1)) ((ms.length : Int) - (-1) + 1)])) 1 rfl ?_
      intro Ra hRa hza
      refine WE.cut (Ra, fs.set j (⟨a124, c124, (nth fs j).a2, (nth fs j).c2, ⟨(nth fs j).f.name, ((nth fs j).f.route ++ [(-1) + mod (nth xs (cn + 1 + 1)) ((ms.length : Int) - (-1) + 1)]), (nth fs j).f.cls, (nth fs j).f.lo, (nth fs j).f.hi, (nth fs j).f.cv⟩⟩ : FlM), cn + 1 + 1 + 1) ⟨hRa, by rw [List.length_set], all_set (fun x hx => (hofk x hx).mono hRa) ⟨hza, hfj.1.vals.mono hRa, hfj.1.len, hfj.1.name⟩⟩ ⟨rfl, rfl, rfl, rfl⟩ (RLe.refl _) qS
     ·try dsimp only at hc6
      refine zQ (zG (zR 2 rfl (zN (zU ?_))))
      refine W.condE rfl (fun hc7 => ?_) (fun hc7 => ?_)
      ·try dsimp only at hc7
       refine zG (zR 3 rfl ?_)
       refine WL.efN rfl rfl (Ef.storeF (enc := encFl) (xs := fs) (⟨none, 0, (nth fs j).a2, (nth fs j).c2, ⟨(nth fs j).f.name, [], (nth fs j).f.cls, (nth fs j).f.lo, (nth fs j).f.hi, (nth fs j).f.cv⟩⟩ : FlM) 2 tab_ok rfl rfl rfl rfl rfl qO rfl rfl qD rfl ?_)
       refine zN (zL ?_)
       refine WE.cut (R, fs.set j (⟨none, 0, (nth fs j).a2, (nth fs j).c2, ⟨(nth fs j).f.name, [], (nth fs j).f.cls, (nth fs j).f.lo, (nth fs j).f.hi, (nth fs j).f.cv⟩⟩ : FlM), cn + 1 + 1) ⟨RLe.refl _, by rw [List.length_set], all_set hofk ⟨rs_nil, hfj.1.vals, hfj.1.len, hfj.1.name⟩⟩ ⟨rfl, rfl, rfl, rfl⟩ (RLe.refl _) qS
      ·try dsimp only at hc7
       refine zQ (zG (zR 2 rfl (zN (zU ?_))))
       refine W.condE rfl (fun hc8 => ?_) (fun hc8 => ?_)
       ·try dsimp only at hc8
        refine zG (zR 2 rfl ?_)
        refine WL.callAt 5 en25 rfl rfl qD (CallOp.mkT rfl rfl rfl rfl) rfl (Range_C (lo := (-1)) (hi := 2) w0 ha (by constructor <;> omega) qO _) ?_
        rintro _ _ _ _ - ⟨rfl, rfl, rfl, rfl⟩
        refine zR 2 rfl ?_
        refine WL.efN rfl rfl (Ef.storeF (enc := encFl) (xs := fs) (⟨(nth fs j).a1, (nth fs j).c1, (nth fs j).a2, (nth fs j).c2, ⟨(nth fs j).f.name, (nth fs j).f.route, (-1) + mod (nth xs (cn + 1 + 1)) (2 - (-1) + 1), (nth fs j).f.lo, (nth fs j).f.hi, (nth fs j).f.cv⟩⟩ : FlM) 2 tab_ok rfl rfl rfl rfl rfl qO rfl rfl qD rfl ?_)
        refine zN (zL ?_)
        refine WE.cut (R, fs.set j (⟨(nth fs j).a1, (nth fs j).c1, (nth fs j).a2, (nth fs j).c2, ⟨(nth fs j).f.name, (nth fs j).f.route, (-1) + mod (nth xs (cn + 1 + 1)) (2 - (-1) + 1), (nth fs j).f.lo, (nth fs j).f.hi, (nth fs j).f.cv⟩⟩ : FlM), cn + 1 + 1 + 1) ⟨RLe.refl _, by rw [List.length_set], all_set hofk ⟨hfj.1.route, hfj.1.vals, hfj.1.len, hfj.1.name⟩⟩ ⟨rfl, rfl, rfl, rfl⟩ (RLe.refl _) qS
       ·try dsimp only at hc8
        refine zQ (zG (zR 2 rfl (zN (zU ?_))))
        refine W.condE rfl (fun hc9 => ?_) (fun hc9 => ?_)
        ·try dsimp only at hc9
         refine zG (zR 2 rfl ?_)
         refine WL.ef rfl rfl qD (Ef.buildSliceD (enc := encI) (parts := [.const (.int .i64 0), .const (.int .i64 1), .const (.int .i64 9), .const (.int .i64 1501)]) [_, _, _, _] tab_ok rfl rfl rfl rfl rfl rfl rfl rfl qD qD (fun a143 => ?_))
         refine WL.callAt 6 en29 rfl rfl qD (CallOp.mkT rfl rfl rfl rfl) rfl (PickM_C (j := 0) w0 ([0, 1, 9, 1501] : List Int) rfl qD qD ha rfl) ?_
         rintro _ _ _ _ - ⟨rfl, rfl, rfl, rfl⟩
         refine zR 3 rfl ?_
         refine WL.efN rfl rfl (Ef.storeF (off := 3) (enc := encFl) (xs := fs) (⟨(nth fs j).a1, (nth fs j).c1, (nth fs j).a2, (nth fs j).c2, ⟨(nth fs j).f.name, (nth fs j).f.route, (nth fs j).f.cls, nth ([0, 1, 9, 1501] : List Int) (mod (nth xs (cn + 1 + 1)) ((4 : Nat) : Int)).toNat, (nth fs j).f.hi, (nth fs j).f.cv⟩⟩ : FlM) 3 tab_ok rfl rfl rfl rfl rfl qO rfl rfl qD rfl ?_)
         refine zN (zL ?_)
         refine WE.cut (R, fs.set j (⟨(nth fs j).a1, (nth fs j).c1, (nth fs j).a2, (nth fs j).c2, ⟨(nth fs j).f.name, (nth fs j).f.route, (nth fs j).f.cls, nth ([0, 1, 9, 1501] : List Int) (mod (nth xs (cn + 1 + 1)) ((4 : Nat) : Int)).toNat, (nth fs j).f.hi, (nth fs j).f.cv⟩⟩ : FlM), cn + 1 + 1 + 1) ⟨RLe.refl _, by rw [List.length_set], all_set hofk ⟨hfj.1.route, hfj.1.vals, hfj.1.len, hfj.1.name⟩⟩ ⟨rfl, rfl, rfl, rfl⟩ (RLe.refl _) qS
        ·try dsimp only at hc9
         refine zQ (zG (zR 2 rfl (zN (zU ?_))))
         refine W.condE rfl (fun hc10 => ?_) (fun hc10 => ?_)
         ·try dsimp only at hc10
          refine zG (zR 2 rfl ?_)
          refine WL.ef rfl rfl qD (Ef.buildSliceD (enc := encI) (parts := [.const (.int .i64 0), .const (.int .i64 1), .const (.int .i64 1500), .const (.int .i64 1501)]) [_, _, _, _] tab_ok rfl rfl rfl rfl rfl rfl rfl rfl qD qD (fun a152 => ?_))
          refine WL.callAt 6 en29 rfl rfl qD (CallOp.mkT rfl rfl rfl rfl) rfl (PickM_C (j := 0) w0 ([0, 1, 1500, 1501] : List Int) rfl qD qD ha rfl) ?_
          rintro _ _ _ _ - ⟨rfl, rfl, rfl, rfl⟩
          refine zR 3 rfl ?_
          refine WL.efN rfl rfl (Ef.storeF (off := 4) (enc := encFl) (xs := fs) (⟨(nth fs j).a1, (nth fs j).c1, (nth fs j).a2, (nth fs j).c2, ⟨(nth fs j).f.name, (nth fs j).f.route, (nth fs j).f.cls, (nth fs j).f.lo, nth ([0, 1, 1500, 1501] : List Int) (mod (nth xs (cn + 1 + 1)) ((4 : Nat) : Int)).toNat, (nth fs j).f.cv⟩⟩ : FlM) 3 tab_ok rfl rfl rfl rfl rfl qO rfl rfl qD rfl ?_)
          refine zN (zL ?_)
          refine WE.cut (R, fs.set j (⟨(nth fs j).a1, (nth fs j).c1, (nth fs j).a2, (nth fs j).c2, ⟨(nth fs j).f.name, (nth fs j).f.route, (nth fs j).f.cls, (nth fs j).f.lo, nth ([0, 1, 1500, 1501] : List Int) (mod (nth xs (cn + 1 + 1)) ((4 : Nat) : Int)).toNat, (nth fs j).f.cv⟩⟩ : FlM), cn + 1 + 1 + 1) ⟨RLe.refl _, by rw [List.length_set], all_set hofk ⟨hfj.1.route, hfj.1.vals, hfj.1.len, hfj.1.name⟩⟩ ⟨rfl, rfl, rfl, rfl⟩ (RLe.refl _) qS
         ·try dsimp only at hc10
          refine zQ (zG (zR 2 rfl (zN (zU ?_))))
          refine W.condE rfl (fun hc11 => ?_) (fun hc11 => ?_)
          ·try dsimp only at hc11
           refine zG (zR 5 rfl ?_)
           refine' WG.y rfl rfl qD (Yl.load1 tab_ok rfl rfl rfl (fun _ => rfl) ?r16 rfl ?h16) ?_
           case r16 => apply Rd.add; (exact Rd.slD 2 rfl qX)
           case h16 => rfl
           refine WL.callAt 5 en30 rfl rfl qD (CallOp.mkT rfl rfl rfl rfl) rfl (Bent_C (c1 := (nth fs j).f.cv) w0 ha hfj.2.2 hfj.1.vals _) ?_
           rintro _ Rb _ _ hRb ⟨f1, fc1, cn1, cv1, rfl, hfv, hcl, hcc, rfl, rfl⟩
           refine zR 2 rfl ?_
           refine WL.efN rfl rfl (Ef.storeF (enc := encFl) (xs := fs) (⟨(nth fs j).a1, (nth fs j).c1, f1, fc1, ⟨(nth fs j).f.name, (nth fs j).f.route, (nth fs j).f.cls, (nth fs j).f.lo, (nth fs j).f.hi, cv1⟩⟩ : FlM) 2 tab_ok rfl rfl rfl rfl rfl qO rfl rfl qD rfl ?_)
           refine zN (zL ?_)
           refine WE.cut (Rb, fs.set j (⟨(nth fs j).a1, (nth fs j).c1, f1, fc1, ⟨(nth fs j).f.name, (nth fs j).f.route, (nth fs j).f.cls, (nth fs j).f.lo, (nth fs j).f.hi, cv1⟩⟩ : FlM), cn1) ⟨hRb, by rw [List.length_set], all_set (fun x hx => (hofk x hx).mono hRb) ⟨hfj.1.route.mono hRb, hfv, (by show cv1.vals.length ≤ 9223372036854775807; omega), hfj.1.name⟩⟩ ⟨rfl, rfl, rfl, rfl⟩ (RLe.refl _) qS
          ·try dsimp only at hc11
           refine zG (zR 2 rfl ?_)
           -- build
           refine WG.y rfl rfl qD (Yl.build (parts := []) tab_ok rfl rfl rfl rfl (fun _ => rfl) rfl rfl) ?_
           refine WL.ef rfl rfl qD (Ef.buildSliceD (enc := encI) (parts := [.const (.int .i64 1)]) [_] tab_ok rfl rfl rfl rfl rfl rfl rfl rfl qD qD (fun a92 => ?_))
           -- build
           refine WG.y rfl rfl qD (Yl.build (parts := [(0, .tmp 92), (1, .const (.int .i64 1))]) tab_ok rfl rfl rfl rfl (fun _ => rfl) rfl rfl) ?_
           refine WL.ef rfl rfl qD (Ef.buildSliceD (enc := encI) (parts := [.const (.int .i64 0), .const (.int .i64 4611686018427387904)]) [_, _] tab_ok rfl rfl rfl rfl rfl rfl rfl rfl qD qD (fun a94 => ?_))
           -- build
           refine WG.y rfl rfl qD (Yl.build (parts := [(0, .tmp 94), (1, .const (.int .i64 1))]) tab_ok rfl rfl rfl rfl (fun _ => rfl) rfl rfl) ?_
           refine WL.ef rfl rfl qD (Ef.buildSliceD (enc := encI) (parts := [.const (.int .i64 0)]) [_] tab_ok rfl rfl rfl rfl rfl rfl rfl rfl qD qD (fun a96 => ?_))
           -- build
           refine WG.y rfl rfl qD (Yl.build (parts := [(0, .tmp 96), (1, .const (.int .i64 1))]) tab_ok rfl rfl rfl rfl (fun _ => rfl) rfl rfl) ?_
           refine WL.ef rfl rfl qD (Ef.buildSlice (parts := [.tmp 91, .tmp 93, .tmp 95, .tmp 97]) tab_ok rfl rfl rfl rfl rfl rfl rfl qD qD (fun a98 => ?_))
           refine WL.callAt 9 en31 rfl rfl qD (CallOp.mkT rfl rfl rfl rfl) rfl (Text2_C (j := 0) (ys := ([⟨none, 0, ⟨[], 0, 0⟩⟩, ⟨some ⟨a92, 0, none⟩, 1, ⟨[1], 1, 0⟩⟩, ⟨some ⟨a94, 0, none⟩, 2, ⟨[0, 4611686018427387904], 1, 0⟩⟩, ⟨some ⟨a96, 0, none⟩, 1, ⟨[0], 1, 0⟩⟩] : List CvS)) w0 ha rfl (show 0 < 4 by decide) (show 4 ≤ 1000000 by decide)) ?_
           rintro _ _ _ _ - ⟨rfl, rfl, rfl, rfl⟩
           refine zR 2 rfl ?_
           refine WL.efN rfl rfl (Ef.storeF (enc := encFl) (xs := fs) (⟨(nth fs j).a1, (nth fs j).c1, (nth ([⟨none, 0, ⟨[], 0, 0⟩⟩, ⟨some ⟨a92, 0, none⟩, 1, ⟨[1], 1, 0⟩⟩, ⟨some ⟨a94, 0, none⟩, 2, ⟨[0, 4611686018427387904], 1, 0⟩⟩, ⟨some ⟨a96, 0, none⟩, 1, ⟨[0], 1, 0⟩⟩] : List CvS) (mod (nth xs (cn + 1 + 1)) ((4 : Nat) : Int)).toNat).a, (nth ([⟨none, 0, ⟨[], 0, 0⟩⟩, ⟨some ⟨a92, 0, none⟩, 1, ⟨[1], 1, 0⟩⟩, ⟨some ⟨a94, 0, none⟩, 2, ⟨[0, 4611686018427387904], 1, 0⟩⟩, ⟨some ⟨a96, 0, none⟩, 1, ⟨[0], 1, 0⟩⟩] : List CvS) (mod (nth xs (cn + 1 + 1)) ((4 : Nat) : Int)).toNat).cap, ⟨(nth fs j).f.name, (nth fs j).f.route, (nth fs j).f.cls, (nth fs j).f.lo, (nth fs j).f.hi, (nth ([⟨none, 0, ⟨[], 0, 0⟩⟩, ⟨some ⟨a92, 0, none⟩, 1, ⟨[1], 1, 0⟩⟩, ⟨some ⟨a94, 0, none⟩, 2, ⟨[0, 4611686018427387904], 1, 0⟩⟩, ⟨some ⟨a96, 0, none⟩, 1, ⟨[0], 1, 0⟩⟩] : List CvS) (mod (nth xs (cn + 1 + 1)) ((4 : Nat) : Int)).toNat).cv⟩⟩ : FlM) 6 tab_ok rfl rfl rfl rfl rfl qO rfl rfl qD rfl ?_)
           refine zN (zL ?_)
           refine WE.freeze (enc := encI) (xs := [0]) 1 rfl ?_
           intro R1 hR1 hz1
           refine WE.freeze (enc := encI) (xs := [0, 4611686018427387904]) 1 rfl ?_
           intro R2 hR2 hz2
           refine WE.freeze (enc := encI) (xs := [1]) 1 rfl ?_
           intro R3 hR3 hz3
           have hR123 := hR1.trans (hR2.trans hR3)
           have h19 := all_nth (p := fun y : CvS => K.RS R3 1 encI y.a y.cv.vals ∧ y.cv.vals.length ≤ 9223372036854775807) (xs := ([⟨none, 0, ⟨[], 0, 0⟩⟩, ⟨some ⟨a92, 0, none⟩, 1, ⟨[1], 1, 0⟩⟩, ⟨some ⟨a94, 0, none⟩, 2, ⟨[0, 4611686018427387904], 1, 0⟩⟩, ⟨some ⟨a96, 0, none⟩, 1, ⟨[0], 1, 0⟩⟩] : List CvS)) (i := (mod (nth xs (cn + 1 + 1)) ((4 : Nat) : Int)).toNat) (pick_lt _ (by decide)) (all_4 ⟨rs_nil, by decide⟩ ⟨hz3, show 1 ≤ 9223372036854775807 by decide⟩ ⟨hz2.mono hR3, show 2 ≤ 9223372036854775807 by decide⟩ ⟨hz1.mono (hR2.trans hR3), show 1 ≤ 9223372036854775807 by decide⟩)
           refine WE.cut (R3, fs.set j (⟨(nth fs j).a1, (nth fs j).c1, (nth ([⟨none, 0, ⟨[], 0, 0⟩⟩, ⟨some ⟨a92, 0, none⟩, 1, ⟨[1], 1, 0⟩⟩, ⟨some ⟨a94, 0, none⟩, 2, ⟨[0, 4611686018427387904], 1, 0⟩⟩, ⟨some ⟨a96, 0, none⟩, 1, ⟨[0], 1, 0⟩⟩] : List CvS) (mod (nth xs (cn + 1 + 1)) ((4 : Nat) : Int)).toNat).a, (nth ([⟨none, 0, ⟨[], 0, 0⟩⟩, ⟨some ⟨a92, 0, none⟩, 1, ⟨[1], 1, 0⟩⟩, ⟨some ⟨a94, 0, none⟩, 2, ⟨[0, 4611686018427387904], 1, 0⟩⟩, ⟨some ⟨a96, 0, none⟩, 1, ⟨[0], 1, 0⟩⟩] : List CvS) (mod (nth xs (cn + 1 + 1)) ((4 : Nat) : Int)).toNat).cap, ⟨(nth fs j).f.name, (nth fs j).f.route, (nth fs j).f.cls, (nth fs j).f.lo, (nth fs j).f.hi, (nth ([⟨none, 0, ⟨[], 0, 0⟩⟩, ⟨some ⟨a92, 0, none⟩, 1, ⟨[1], 1, 0⟩⟩, ⟨some ⟨a94, 0, none⟩, 2, ⟨[0, 4611686018427387904], 1, 0⟩⟩, ⟨some ⟨a96, 0, none⟩, 1, ⟨[0], 1, 0⟩⟩] : List CvS) (mod (nth xs (cn + 1 + 1)) ((4 : Nat) : Int)).toNat).cv⟩⟩ : FlM), cn + 1 + 1 + 1) ⟨hR123, by rw [List.length_set], all_set (fun x hx => (hofk x hx).mono hR123) ⟨hfj.1.route.mono hR123, h19.1, h19.2, hfj.1.name⟩⟩ ⟨rfl, rfl, rfl, rfl⟩ (RLe.refl _) qS
 ·
  rcases Nat.eq_zero_or_pos fs.length with hf0 | hf0
  ·
   obtain rfl : fs = [] := List.length_eq_zero_iff.1 hf0
   refine zG (zR 1 rfl ?_)
   refine yL (Rd.add (Rd.blk 4 rfl) _) ?_
   refine zR 3 rfl ?_
   refine yP ?_
   refine WG.callV (v := .int .i64 0) (vs := [.pointer (some ⟨b, 0, none⟩), .int .i64 4]) en17 rfl rfl qD (CallOp.mk' rfl rfl rfl rfl) (by intro h; cases h) (fun h => by cases h) ?_
   refine yP ?_
   refine yO ?_
   refine zN ?_
   (refine WE.cut (true, c) (by intro h; cases h) ⟨rfl, rfl, rfl, rfl, rfl⟩ (RLe.refl _) qS; done)
  ·
   have hne : fs ≠ [] := by rintro rfl; simp at hf0
   refine zG (zR 1 rfl ?_)
   refine yL (Rd.add (Rd.blk 4 rfl) _) ?_
   refine zR 3 rfl ?_
   refine yP ?_
   refine WL.callAtT 5 en17 rfl (by simp [hne]) rfl (by decide) (CallOp.mk' rfl rfl rfl rfl) (by simp [hne]) rfl (N_C (n := 4) w0 ha (by constructor <;> decide) _) ?_
   rintro _ _ _ _ - ⟨rfl, rfl, rfl, rfl⟩
   refine yP ?_
   refine yO ?_
   refine zN ?_
   (refine WE.cut (decide ((fs.length : Int) = 0) || decide (mod (nth xs c) 4 = 0), c + 1) (fun _ => hf0) ⟨rfl, rfl, rfl, rfl, rfl⟩ (RLe.refl _) qS; done)

end Go.Proofs.YtmidibkljoaoiaaGreatDoor

/- The flows that keep draws. Plain. No condition. -/
namespace Go.Proofs.YtmidibkljoaoiaaGreatDoor.M
open Go Go.Proofs.YtmidibkljoaoiaaGreatDoor.K
def stairC (burst : Int) (p : Nat) (more : Int) : Cv := ⟨0 :: List.replicate p burst, p, more⟩
structure StairP (c : Cv) : Prop where
  ex : ∃ (burst : Int) (p : Nat) (more : Int), c = stairC burst p more ∧ (4 ≤ burst ∧ burst ≤ 16) ∧ (1 ≤ p ∧ p ≤ 12) ∧ 0 ≤ more ∧ more ≤ 3
structure DrawF (k m : Nat) (f : Fl) : Prop where
  cls : 0 ≤ f.cls ∧ f.cls < k
  sizes : 1 ≤ f.lo ∧ f.lo ≤ f.hi ∧ f.hi ≤ 7
  len : 1 ≤ f.route.length ∧ f.route.length ≤ 3
  route : ∀ l ∈ f.route, 0 ≤ l ∧ l < m
  nodup : f.route.Nodup
  cv : StairP f.cv
def nf5 : List (List UInt8) := [[102], [103], [104], [105], [106]]
theorem nf5_len (i : Nat) : (nth nf5 i).length ≤ 100 := by
 by_cases h : i < nf5.length
 ·have : ∀ x ∈ nf5, x.length ≤ 100 := by decide
  exact this _ (nth_mem h)
 ·rw [nth_out (by omega)]; decide
def wayR (a s : Int) (m j : Nat) : List Int := (List.range j).map fun (i : Nat) => mod (a + (i : Int) * s) (m : Int)
theorem way_nodup : ∀ m : Nat, m < 5 → ∀ a : Nat, a < m → ∀ j : Nat, j < 4 → j ≤ m → (wayR (a : Int) 1 m j).Nodup ∧ (wayR (a : Int) ((m : Int) - 1) m j).Nodup := by decide
theorem pick6 : ∀ i, i < 6 → 1 ≤ nth ([1, 2, 3, 4, 6, 12] : List Int) i ∧ nth ([1, 2, 3, 4, 6, 12] : List Int) i ≤ 12 := by decide
theorem wayR_snoc (a s : Int) (m j : Nat) : wayR a s m (j + 1) = wayR a s m j ++ [mod (a + j * s) m] := by
 unfold wayR
 rw [List.range_succ, List.map_append, List.map_singleton]
theorem wayR_len (a s : Int) (m j : Nat) : (wayR a s m j).length = j := by unfold wayR; rw [List.length_map, List.length_range]
theorem way_step (a s : Int) (m j : Nat) (hm : 1 ≤ m) : mod (mod (a + j * s) m + s) m = mod (a + (j + 1 : Nat) * s) m := by
 unfold mod
 rw [if_neg (by omega), if_neg (by omega), if_neg (by omega), Int.emod_add_emod, show a + (j : Int) * s + s = a + ((j + 1 : Nat) : Int) * s by rw [Int.natCast_add, Int.add_mul]; omega]
theorem way_in {a s : Int} {m j : Nat} (hm : 1 ≤ m) : ∀ l ∈ wayR a s m j, 0 ≤ l ∧ l < m := fun l hl => by
 unfold wayR at hl
 obtain ⟨i, _, rfl⟩ := List.mem_map.1 hl
 have := mod_range (a + i * s) (show (1 : Int) ≤ (m : Int) by omega)
 exact this
theorem stair_nth {b : Int} {p i : Nat} (h1 : 1 ≤ i) (h2 : i ≤ p) : nth (0 :: List.replicate p b) i = b := by
 obtain ⟨j, rfl⟩ : ∃ j, i = j + 1 := ⟨i - 1, by omega⟩
 rw [nth_eq (by rw [List.length_cons, List.length_replicate]; omega), List.getElem_cons_succ, List.getElem_replicate]
theorem stair_valid {c : Cv} (h : StairP c) : validB c = true ∧ nth c.vals 0 = 0 ∧ finB c = true ∧ c.vals.length ≤ 13 := by
 obtain ⟨b, p, q, rfl, hb, hp, hq⟩ := h.ex
 have hl : (stairC b p q).vals.length = p + 1 := by show (0 :: List.replicate p b).length = _; rw [List.length_cons, List.length_replicate]
 have h0 : nth (stairC b p q).vals 0 = 0 := rfl
 have hlast : nth (stairC b p q).vals ((stairC b p q).vals.length - 1) = b := by rw [hl]; exact stair_nth (by omega) (by omega)
 have hI : INF = 4611686018427387904 := rfl
 have hM : MAXV = 1073741824 := rfl
 refine ⟨?_, h0, ?_, by omega⟩
 ·refine validB_iff.2 ⟨⟨by omega, by omega, by show (1 : Int) ≤ (p : Int); omega, by show (p : Int) ≤ 120; omega, by rw [hl]; show (p : Int) ≤ ((p + 1 : Nat) : Int); omega, hq.1, by show q ≤ _; omega⟩, fun i hi => ?_, ?_⟩
  ·rw [hl] at hi
   rcases Nat.eq_zero_or_pos i with rfl | h1
   ·rw [h0]; exact ⟨.inr ⟨Int.le_refl 0, by omega⟩, .inl rfl⟩
   ·have e : nth (stairC b p q).vals i = b := stair_nth h1 (by omega)
    rw [e]
    refine ⟨.inr ⟨by omega, by omega⟩, .inr ?_⟩
    rcases Nat.eq_zero_or_pos (i - 1) with h2 | h2
    ·rw [h2, h0]; omega
    ·rw [show nth (stairC b p q).vals (i - 1) = b from stair_nth h2 (by omega)]; exact Int.le_refl b
  ·rw [hlast, if_neg (by omega)]
   have e : nth (stairC b p q).vals ((stairC b p q).vals.length - (stairC b p q).per.toNat) = b := by
    rw [hl]; show nth _ (p + 1 - (p : Int).toNat) = b; rw [show p + 1 - (p : Int).toNat = 1 by omega]; exact stair_nth (by omega) (by omega)
   rw [e]
   show b ≤ b + q
   omega
 ·unfold finB
  rw [hlast]
  exact bne_iff_ne.2 (by omega)
end Go.Proofs.YtmidibkljoaoiaaGreatDoor.M

/- Lists of named curves: what is written and what is read. Plain. No condition. -/
namespace Go.Proofs.YtmidibkljoaoiaaGreatDoor.M
open Go Go.Proofs.YtmidibkljoaoiaaGreatDoor.K
def isNameB (s : List UInt8) : Bool := decide (1 ≤ s.length ∧ s.length ≤ 12 ∧ ∀ i, i < s.length → (97 ≤ byteAt s i ∧ byteAt s i ≤ 122) ∨ (0 < i ∧ 48 ≤ byteAt s i ∧ byteAt s i ≤ 57))
theorem name_mem {s : List UInt8} (h : isNameB s = true) : 1 ≤ s.length ∧ s.length ≤ 12 ∧ ∀ c ∈ s, 48 ≤ c.toNat := by
 obtain ⟨h1, h2, h3⟩ := of_decide_eq_true h
 refine ⟨h1, h2, fun c hc => ?_⟩
 obtain ⟨i, hi, rfl⟩ := List.getElem_of_mem hc
 have h4 := h3 i hi
 rw [byte_get hi] at h4
 omega
/-- up to the first instance of a byte, and what is behind it -/
def brk (d : UInt8) : List UInt8 → List UInt8 × Option (List UInt8)
  | [] => ([], none)
  | c :: s => if c = d then ([], some s) else (c :: (brk d s).1, (brk d s).2)
theorem brk_some {d : UInt8} : ∀ {w : List UInt8} (s : List UInt8), (∀ c ∈ w, c ≠ d) → brk d (w ++ d :: s) = (w, some s)
 | [], s, _ => by simp [brk]
 | c :: w, s, h => by
  have hc := h c (by simp)
  rw [List.cons_append, brk, if_neg hc, brk_some s (fun x hx => h x (by simp [hx]))]
theorem brk_none {d : UInt8} : ∀ {w : List UInt8}, (∀ c ∈ w, c ≠ d) → brk d w = (w, none)
 | [], _ => rfl
 | c :: w, h => by
  have hc := h c (by simp)
  rw [brk, if_neg hc, brk_none (fun x hx => h x (by simp [hx]))]
theorem brk_spec (d : UInt8) : ∀ s : List UInt8, (∀ c ∈ (brk d s).1, c ≠ d) ∧ (((brk d s).2 = none ∧ s = (brk d s).1) ∨ ∃ r, (brk d s).2 = some r ∧ s = (brk d s).1 ++ d :: r)
 | [] => ⟨by simp [brk], .inl ⟨rfl, rfl⟩⟩
 | c :: s => by
  unfold brk
  by_cases hc : c = d
  ·rw [if_pos hc]; exact ⟨by simp, .inr ⟨s, rfl, by rw [hc]; rfl⟩⟩
  ·rw [if_neg hc]
   obtain ⟨h1, h2⟩ := brk_spec d s
   refine ⟨fun x hx => ?_, ?_⟩
   ·rcases List.mem_cons.1 hx with rfl | hx
    ·exact hc
    ·exact h1 x hx
   ·rcases h2 with ⟨h3, h4⟩ | ⟨r, h3, h4⟩
    ·exact .inl ⟨h3, congrArg (c :: ·) h4⟩
    ·exact .inr ⟨r, h3, congrArg (c :: ·) h4⟩
theorem cut_brk (d : UInt8) (s : List UInt8) : Lib.cut s [d] = ((brk d s).1, (brk d s).2.getD [], (brk d s).2.isSome) := by
 obtain ⟨h1, ⟨h2, h3⟩ | ⟨r, h2, h3⟩⟩ := brk_spec d s
 ·rw [h2]
  have hi := idx_none h1
  rw [← h3] at hi ⊢
  unfold Lib.cut
  rw [hi, if_neg (by decide)]
  rfl
 ·rw [h2]
  generalize (brk d s).1 = w at h1 h3
  subst h3
  have hi := idx_word (s' := r) h1
  unfold Lib.cut
  rw [hi, if_pos (by omega), Int.toNat_natCast, List.take_left]
  refine Prod.ext rfl (Prod.ext ?_ rfl)
  show (w ++ d :: r).drop (w.length + 1) = r
  rw [← List.drop_drop, List.drop_left]; rfl
/-- a row: a name, and the text behind it -/
def cutN (row : List UInt8) : Option (List UInt8 × List UInt8) :=
  match (brk 32 row).2 with
  | some (61 :: 32 :: t) => if isNameB (brk 32 row).1 = true then some ((brk 32 row).1, t) else none
  | _ => none
/-! ### lists -/
abbrev Nmd := List UInt8 × Cv
def hasN (l : List Nmd) (n : List UInt8) : Bool := l.any (fun x => decide (x.1 = n))
def findNm : List Nmd → List UInt8 → Cv × Int
  | [], _ => (zcv, 5)
  | x :: l, n => if x.1 = n then (x.2, 0) else findNm l n
theorem find_has : ∀ (l : List Nmd) (n : List UInt8), (findNm l n).2 = 0 ↔ hasN l n = true
 | [], n => by simp [findNm, hasN]
 | x :: l, n => by
  unfold findNm
  by_cases h : x.1 = n
  ·rw [if_pos h]; simp [hasN, h]
  ·rw [if_neg h, find_has l n]; simp [hasN, h]
theorem find_err (l : List Nmd) (n : List UInt8) : (findNm l n).2 = 0 ∨ findNm l n = (zcv, 5) := by
 induction l with
 | nil => exact .inr rfl
 | cons x l ih =>
  unfold findNm
  split
  ·exact .inl rfl
  ·exact ih
def rowF (x : Nmd) : List UInt8 := ((x.1 ++ [32, 61, 32]) ++ (formatR x.2).1) ++ [10]
def pallGo : Nat → Int → List Nmd → List UInt8 → List Nmd × Int × Int × Int
  | 0, _, acc, _ => (acc, 0, 0, 0)
  | f + 1, n, acc, s => if s = [] then (acc, 0, 0, 0) else
    match cutN (brk 10 s).1, (brk 10 s).2 with
    | some (nm, t), some s' =>
      if (parseR t).2.2 ≠ 0 then ([], n, ((parseR t).2.1 : Int), (parseR t).2.2)
      else if hasN acc nm = true then ([], n, 0, 7)
      else if 40 < n then ([], n, 0, 3)
      else pallGo f (n + 1) (acc ++ [(nm, (parseR t).1)]) s'
    | _, _ => ([], n, 0, 4)
/-- what is left to be read -/
def PSt (s0 : List UInt8) (n : Int) (acc : List Nmd) (s : List UInt8) : Prop := ∃ f, s.length < f ∧ pallGo (s0.length + 1) 1 [] s0 = pallGo f n acc s
theorem PSt.start (s : List UInt8) : PSt s 1 [] s := ⟨_, Nat.lt_succ_self _, rfl⟩
theorem PSt.fin {s0 : List UInt8} {n : Int} {acc : List Nmd} (h : PSt s0 n acc []) : pallGo (s0.length + 1) 1 [] s0 = (acc, 0, 0, 0) := by
 obtain ⟨f, hf, e⟩ := h
 obtain ⟨f, rfl⟩ : ∃ g, f = g + 1 := ⟨f - 1, by have := hf; omega⟩
 rw [e, pallGo, if_pos rfl]
section
variable {s0 : List UInt8} {n : Int} {acc : List Nmd} {s : List UInt8}
end
end Go.Proofs.YtmidibkljoaoiaaGreatDoor.M

/- The text of a network, read row for row. Plain. No condition. -/
namespace Go.Proofs.YtmidibkljoaoiaaGreatDoor.M
open Go Go.Proofs.YtmidibkljoaoiaaGreatDoor.K
/-- names, lines, flows -/
abbrev Nt : Type := List (List UInt8) × List Ln × List Fl
def zNt : Nt := ([], [], [])
def takeS (n : Nt) (s : List UInt8) : Option Nt :=
  if lineO s = true ∧ n.2.2 = [] then some (n.1 ++ [nmR s], n.2.1 ++ [vlR s], n.2.2) else if flO n.1 s = true then some (n.1, n.2.1, n.2.2 ++ [flV n.1 s]) else none
/-- row for row: what is read, in which line it fails, and why -/
def parGo : Nt → Nat → List (List UInt8) → Nt × Int × Int
  | n, _, [] => (n, 0, 0)
  | n, k, [x] => if x = [] then (n, 0, 0) else (zNt, (k : Int) + 1, 4)
  | n, k, x :: y :: r => match takeS n x with
    | none => (zNt, (k : Int) + 1, 4)
    | some n' => parGo n' (k + 1) (y :: r)
def chkN (n : Nt) : Int := chkNet n.1 n.2.1 n.2.2
def parN (s : List UInt8) : Nt × Int × Int :=
  if 4000 < s.length then (zNt, 0, 3) else if (parGo zNt 0 (splC 10 s)).2.2 ≠ 0 then parGo zNt 0 (splC 10 s)
  else if chkN (parGo zNt 0 (splC 10 s)).1 ≠ 0 then (zNt, 0, chkN (parGo zNt 0 (splC 10 s)).1) else ((parGo zNt 0 (splC 10 s)).1, 0, 0)
/-- what Cut gives, and the rows -/
theorem cut_rows (s : List UInt8) (hs : s ≠ []) : ∃ x more en, Lib.cut s [10] = (x, more, en) ∧ ((en = true ∧ s = x ++ 10 :: more ∧ splC 10 s = x :: splC 10 more) ∨ (en = false ∧ x = s ∧ splC 10 s = [x])) := by
 cases h : splC 10 s with
 | nil => exact absurd h (splC_ne 10 s)
 | cons w ws =>
  obtain ⟨h1, ⟨rfl, rfl⟩ | ⟨s', rfl, rfl⟩⟩ := splC_cons h
  ·exact ⟨s, [], false, by rw [cut_brk, brk_none h1]; rfl, .inr ⟨rfl, rfl, rfl⟩⟩
  ·exact ⟨w, s', true, by rw [cut_brk, brk_some _ h1]; rfl, .inl ⟨rfl, rfl, rfl⟩⟩
theorem splC_two (s : List UInt8) : ∃ y r, splC 10 s = y :: r := by
 cases h : splC 10 s with
 | nil => exact absurd h (splC_ne 10 s)
 | cons y r => exact ⟨y, r, rfl⟩
theorem par_none {n : Nt} {k : Nat} {x more : List UInt8} (h : takeS n x = none) : parGo n k (x :: splC 10 more) = (zNt, (k : Int) + 1, 4) := by
 obtain ⟨y, r, e⟩ := splC_two more
 rw [e, parGo, h]
theorem par_some {n n' : Nt} {k : Nat} {x more : List UInt8} (h : takeS n x = some n') : parGo n k (x :: splC 10 more) = parGo n' (k + 1) (splC 10 more) := by
 obtain ⟨y, r, e⟩ := splC_two more
 rw [e, parGo, h]
end Go.Proofs.YtmidibkljoaoiaaGreatDoor.M

/- The law of the kinds of lines, in plain terms: what is drawn is read back. No condition. -/
namespace Go.Proofs.YtmidibkljoaoiaaGreatDoor.M
open Go Go.Proofs.YtmidibkljoaoiaaGreatDoor.K
def lineA : List UInt8 := [108, 105, 110, 101, 32, 97, 32, 102, 105, 102, 111, 32, 49, 48, 48]
def lineB : List UInt8 := [108, 105, 110, 101, 32, 98, 32, 102, 105, 102, 111]
theorem dec100 : Lib.decDigits 100 = [49, 48, 48] := by
 rw [dec_step (by decide), dec_step (by decide), dec_one (by decide)]
 rfl
theorem fmtE_A : fmtE [97] ⟨1, 100, 1, [], []⟩ = 0 := by kernel_rfl
theorem chk_A : chkNet0 [[97]] [⟨1, 100, 1, [], []⟩] = 0 := by kernel_rfl
theorem fmt_A : fmtN0 [[97]] [⟨1, 100, 1, [], []⟩] = (lineA ++ [10], 0) := by
 have e : fmtL [97] ⟨1, 100, 1, [], []⟩ = lineA := by
  unfold fmtL
  rw [if_pos fmtE_A]
  unfold fmtWords fmtRest
  rw [show ((100 : Int).toNat) = 100 from rfl, dec100]
  rfl
 unfold fmtN0
 rw [if_neg (fun h => h chk_A), if_neg (fun h => h (show fmtErr [([97], ⟨1, 100, 1, [], []⟩)] = 0 by rw [fmtErr, if_neg (fun h => h fmtE_A)]; rfl))]
 rw [show ([[97]] : List (List UInt8)).zip [(⟨1, 100, 1, [], []⟩ : Ln)] = [([97], ⟨1, 100, 1, [], []⟩)] from rfl, List.map_singleton, show rowX ([97], ⟨1, 100, 1, [], []⟩) = lineA from e]
 rfl
theorem draw_le {k : Nat} {L : Ln} {name : List UInt8} (hk : k = 1 ∨ k = 2) (h : DrawP k L) (hn : name.length ≤ 1) : (fmtL name L).length ≤ 300 := by
 have hcp := h.cap
 have hnn := h.n
 unfold fmtL
 split
 ·have hd1 : (Lib.decDigits L.cap.toNat).length ≤ 2 := decD_le 2 _ (by decide) (by omega)
  have hd2 : (Lib.decDigits L.n.toNat).length ≤ 2 := decD_le 2 _ (by decide) (by omega)
  have hk8 : (kwS L.kind).length ≤ 8 := by unfold kwS; (repeat' split) <;> decide
  have hws : ∀ x ∈ fmtWords name L, x.length ≤ 40 := by
   intro x hx
   unfold fmtWords at hx
   rcases List.mem_append.1 hx with hx | hx
   ·simp only [List.mem_cons, List.not_mem_nil, or_false] at hx
    rcases hx with rfl | rfl | rfl | rfl
    ·decide
    ·omega
    ·omega
    ·omega
   ·unfold fmtRest at hx
    split at hx
    ·simp at hx
    ·split at hx
     ·rw [List.mem_singleton.1 hx]; omega
     ·split at hx
      ·rename_i h3
       rw [List.mem_singleton.1 hx]
       have hr : L.w.length = k ∧ ∀ x ∈ L.w, x ≤ 999999 := by
        rcases h3 with h3 | h3
        ·obtain ⟨h4, h5, _⟩ := h.rob h3
         exact ⟨h4, fun x hx => by have := h5 x hx; omega⟩
        ·obtain ⟨h4, h5, _⟩ := h.defi h3
         exact ⟨h4, fun x hx => by have := h5 x hx; omega⟩
       have := lstS_le hr.2
       omega
      ·have hkk := h.kind
       obtain ⟨_, h6, h7, h8⟩ := h.slots (by omega)
       have := lstS_le (fun x hx => by have := h8 x hx; omega : ∀ x ∈ L.tb, x ≤ 999999)
       simp only [List.mem_cons, List.not_mem_nil, or_false] at hx
       rcases hx with rfl | rfl
       ·omega
       ·omega
  have hl : (fmtWords name L).length ≤ 6 := by
   unfold fmtWords fmtRest
   (repeat' split) <;> exact Nat.le_of_ble_eq_true rfl
  have h8 := join_le (k := 40) _ 32 hws
  have h9 : 41 * (fmtWords name L).length ≤ 41 * 6 := Nat.mul_le_mul_left _ hl
  omega
 ·exact Nat.zero_le _
theorem nm4_len {x : List UInt8} {n : Nat} (h : x ∈ nm4.take n) : x.length ≤ 1 ∧ wordB x = true := by
 have h2 := List.mem_of_mem_take h
 simp only [nm4, List.mem_cons, List.not_mem_nil, or_false] at h2
 rcases h2 with rfl | rfl | rfl | rfl <;> exact ⟨by decide, by kernel_rfl⟩
/-- what one drawn line is -/
theorem draw_row {k n : Nat} {L : Ln} {x : List UInt8} (hk : k = 1 ∨ k = 2) (h : DrawP k L) (hx : x ∈ nm4.take n) : fmtE x L = 0 ∧ (∀ c ∈ fmtL x L, c ≠ 10) ∧ lineO (fmtL x L) = true ∧ (fmtL x L).length ≤ 300 ∧ nmR (fmtL x L) = x ∧ vlR (fmtL x L) = L := by
 obtain ⟨h1, h2⟩ := nm4_len hx
 obtain ⟨h3, h4⟩ := h.chk hk
 have he := fmtE_zero h2 h3 h4
 obtain ⟨h5, h6, h7⟩ := line_read h2 h3 h4
 exact ⟨he, fmt_no10 h2 he, h5, draw_le hk h h1, h7, h6⟩
theorem rowsT_len {k : Nat} : ∀ {rows : List (List UInt8)}, (∀ x ∈ rows, x.length ≤ k) → (rowsT rows).length ≤ (k + 1) * rows.length
 | [], _ => Nat.le_refl 0
 | x :: r, h => by
  have h1 := h x (by simp)
  have h2 := rowsT_len (rows := r) (fun y hy => h y (by simp [hy]))
  have e : rowsT (x :: r) = x ++ 10 :: rowsT r := by unfold rowsT; rw [List.map_cons, List.flatten_cons, List.append_assoc]; rfl
  rw [e, List.length_append, List.length_cons, List.length_cons, Nat.mul_succ]
  omega
end Go.Proofs.YtmidibkljoaoiaaGreatDoor.M

/- Named curves in memory. No condition. -/
namespace Go.Proofs.YtmidibkljoaoiaaGreatDoor.M
open Go Go.Proofs.YtmidibkljoaoiaaGreatDoor.K
structure NmS where
  nm : List UInt8
  c : CvS
instance : Inhabited NmS := ⟨⟨[], ⟨none, 0, zcv⟩⟩⟩
instance : Inhabited Nmd := ⟨([], zcv)⟩
def NmS.p (x : NmS) : Nmd := (x.nm, x.c.cv)
def encNm (x : NmS) : List Value := .string (str x.nm) :: encC x.c
def OkNm (R : Ro) (x : NmS) : Prop := K.RS R 1 encI x.c.a x.c.cv.vals ∧ x.c.cv.vals.length ≤ x.c.cap ∧ x.nm.length ≤ 9223372036854775807
theorem OkNm.mono {R R' : Ro} {x : NmS} (h : OkNm R x) (hR : RLe R R') : OkNm R' x := ⟨h.1.mono hR, h.2⟩
/-- a list of named curves that may be read: immutable or one's own -/
structure LsN (R : Ro) (E : List Ent) (la : Option Addr) (l : List NmS) : Prop where
  rd : ∀ i, i < l.length → Rd R E (eaddr la 4 i) (encNm (nth l i))
  has : HasMem R E la l.length
  len : l.length ≤ 9223372036854775807
theorem LsN.sub {R R' : Ro} {E E' : List Ent} {la : Option Addr} {l : List NmS} (h : LsN R E la l) (hR : RLe R R') (hE : E.Sublist E') : LsN R' E' la l :=
 ⟨fun i hi w0 w hm => h.rd i hi w0 w (hm.sub hR hE), fun w0 w hm => h.has w0 w (hm.sub hR hE), h.len⟩
theorem LsN.ro {R : Ro} {E : List Ent} {la : Option Addr} {l : List NmS} (h : K.RS R 4 encNm la l) : LsN R E la l := ⟨fun _ hi => RS.rdD h hi, RS.has h, h.len⟩
theorem LsN.own {R : Ro} {E : List Ent} {la : Option Addr} {l : List NmS} {e cap : Nat} (i : Nat) (h : E[i]? = some (.sl e 4 la cap (l.map encNm))) (hl : l.length ≤ 1000000) : LsN R E la l := ⟨fun _ hj => Rd.slD i h hj, HasMem.ownD i h, by omega⟩
theorem LsN.take {R : Ro} {E : List Ent} {la : Option Addr} {l : List NmS} (h : LsN R E la l) (k : Nat) : LsN R E la (l.take k) := by
 refine ⟨fun i hi => ?_, fun w0 w hm h2 => ?_, by rw [List.length_take]; have := h.len; omega⟩
 ·rw [List.length_take] at hi
  have e : nth (l.take k) i = nth l i := by rw [nth_eq (by rw [List.length_take]; omega), nth_eq (by omega), List.getElem_take]
  rw [e]
  exact h.rd i (by omega)
 ·rw [List.length_take] at h2
  exact h.has w0 w hm (by omega)
theorem has_false {l : List NmS} {n : List UInt8} (h : ∀ j, j < l.length → (nth l j).nm ≠ n) : hasN (l.map NmS.p) n = false := by
 unfold hasN
 rw [List.any_eq_false]
 intro x hx
 obtain ⟨y, hy, rfl⟩ := List.mem_map.1 hx
 obtain ⟨j, hj, rfl⟩ := List.getElem_of_mem hy
 have := h j hj
 rw [nth_eq hj] at this
 exact fun hh => this (of_decide_eq_true hh)
theorem find_no {l : List NmS} {n : List UInt8} (h : ∀ j, j < l.length → (nth l j).nm ≠ n) : findNm (l.map NmS.p) n = (zcv, 5) := by
 rcases find_err (l.map NmS.p) n with e | e
 ·rw [find_has, has_false h] at e; cases e
 ·exact e
end Go.Proofs.YtmidibkljoaoiaaGreatDoor.M

/- Lists of named curves: what is written is read back, and what is read is written again. Plain. No condition. -/
namespace Go.Proofs.YtmidibkljoaoiaaGreatDoor.M
open Go Go.Proofs.YtmidibkljoaoiaaGreatDoor.K
def rowsF : List Nmd → List UInt8
  | [] => []
  | x :: r => rowF x ++ rowsF r
def GoodFrom : List Nmd → List Nmd → Prop
  | _, [] => True
  | pre, x :: r => isNameB x.1 = true ∧ (formatR x.2).2 = 0 ∧ hasN pre x.1 = false ∧ GoodFrom (pre ++ [x]) r
theorem wordV_len2 {v : Int} (h : v = INF ∨ (0 ≤ v ∧ v ≤ 1073741824)) : (wordV v).length ≤ 11 := by
 unfold wordV
 split
 ·decide
 ·rename_i e; have := h.resolve_left e; exact itoa_len (by omega)
theorem fmtVals_len2 : ∀ (xs : List Int), (∀ v ∈ xs, v = INF ∨ (0 ≤ v ∧ v ≤ 1073741824)) → (fmtVals xs).length ≤ 12 * xs.length
 | [], _ => Nat.le_refl 0
 | x :: xs, h => by
  have h1 := wordV_len2 (h x (by simp))
  have h2 := fmtVals_len2 xs (fun v hv => h v (by simp [hv]))
  rw [fmtVals, List.length_append, List.length_cons, List.length_cons]
  omega
theorem valid_vals2 {c : Cv} (hv : validB c = true) : ∀ v ∈ c.vals, v = INF ∨ (0 ≤ v ∧ v ≤ 1073741824) := fun v hv' => by
 obtain ⟨i, hi, rfl⟩ := List.getElem_of_mem hv'
 have := valid_each hv i hi
 rw [nth_eq hi] at this
 exact this
theorem fmt_ok {c : Cv} (h : (formatR c).2 = 0) : validB c = true ∧ (fmtC c).length ≤ 4000 ∧ (formatR c).1 = fmtC c := by
 unfold formatR at h ⊢
 by_cases h1 : validB c = false
 ·rw [if_pos h1] at h; cases h
 ·rw [if_neg h1] at h ⊢
  by_cases h2 : 4000 < (fmtC c).length
  ·rw [if_pos h2] at h; cases h
  ·rw [if_neg h2]
   exact ⟨by simpa using h1, by omega, rfl⟩
theorem wordV_ten {v : Int} (h : v = INF ∨ 0 ≤ v) : ∀ c ∈ wordV v, c ≠ 10 := by
 intro c hc e
 subst e
 unfold wordV at hc
 split at hc
 ·revert hc; decide
 ·rename_i e
  rw [itoa_pos (h.resolve_left e)] at hc
  have := dec_mem _ _ hc
  exact absurd this.1 (by decide)
theorem itoa_ten {v : Int} (h : 0 ≤ v) : ∀ c ∈ Lib.itoa v, c ≠ 10 := by
 intro c hc e
 subst e
 rw [itoa_pos h] at hc
 have := dec_mem _ _ hc
 exact absurd this.1 (by decide)
theorem vals_ten : ∀ (vs : List Int), (∀ v ∈ vs, v = INF ∨ 0 ≤ v) → ∀ c ∈ fmtVals vs, c ≠ 10
 | [], _, c, hc => by cases hc
 | v :: vs, h, c, hc => by
  unfold fmtVals at hc
  rcases List.mem_append.1 hc with hc | hc
  ·exact wordV_ten (h v (by simp)) c hc
  ·rcases List.mem_cons.1 hc with rfl | hc
   ·decide
   ·exact vals_ten vs (fun x hx => h x (by simp [hx])) c hc
theorem fmt_ten {c : Cv} (hv : validB c = true) : ∀ x ∈ fmtC c, x ≠ 10 := by
 obtain ⟨h1, h2, h3, h4, h5, h6, h7, h8⟩ := valid_range hv
 have hb : ∀ v ∈ c.vals, v = INF ∨ 0 ≤ v := fun v hv' => by
  obtain ⟨i, hi, rfl⟩ := List.getElem_of_mem hv'
  have := valid_each hv i hi
  rw [nth_eq hi] at this
  exact this.imp id And.left
 intro x hx
 unfold fmtC at hx
 simp only [List.mem_append, List.mem_cons] at hx
 rcases hx with hx | hx | rfl | hx | rfl | hx | rfl | hx
 ·exact vals_ten _ hb x hx
 ·intro e; subst e; revert hx; decide
 ·decide
 ·exact itoa_ten (by omega) x hx
 ·decide
 ·intro e; subst e; revert hx; decide
 ·decide
 ·exact itoa_ten (by omega) x hx
/-! ### the lists that the statements make -/
def nmK : List (List UInt8) := [[97], [98, 55], [114, 97, 116, 101], [97, 98, 99, 100, 101, 102, 103, 104, 105, 106, 107, 108], [122]]
theorem small_fmt {c : Cv} (h : SmallC c) : (formatR c).2 = 0 ∧ (formatR c).1.length ≤ 600 := by
 have hv := h.valid
 obtain ⟨_, _, _, h4, h5, h6, h7, h8⟩ := valid_range hv
 have h1 := fmtVals_len2 _ (valid_vals2 hv)
 have h2 := itoa_len (n := c.per) (by omega)
 have h9 := itoa_len (n := c.inc) (by omega)
 have hl := h.len
 have e : (fmtC c).length ≤ 600 := by
  unfold fmtC
  simp only [List.length_append, List.length_cons, show wPer.length = 3 from rfl, show wInc.length = 3 from rfl]
  omega
 unfold formatR
 rw [if_neg (by rw [hv]; decide), if_neg (by omega)]
 exact ⟨rfl, e⟩
/-- a list with the first names -/
structure KList (l : List Nmd) : Prop where
  len : l.length ≤ 4
  nm : ∀ i, i < l.length → (nth l i).1 = nth nmK i
  cv : ∀ x ∈ l, SmallC x.2
theorem KList.nil : KList [] := ⟨by decide, fun i h => absurd h (Nat.not_lt_zero i), fun x h => (by cases h)⟩
theorem nmK_ok : ∀ i, i < 4 → isNameB (nth nmK i) = true ∧ ∀ j, j < i → nth nmK j ≠ nth nmK i := by decide
theorem KList.good {l : List Nmd} (h : KList l) : GoodFrom [] l := by
 have key : ∀ (r pre : List Nmd), pre ++ r = l → GoodFrom pre r := by
  intro r
  induction r with
  | nil => intro pre _; trivial
  | cons x r ih =>
   intro pre e
   have hll : l.length = pre.length + (r.length + 1) := by rw [← e, List.length_append]; rfl
   have hx : nth l pre.length = x := by
    rw [nth_eq (by omega)]
    simp only [← e, List.getElem_append_right (Nat.le_refl _), Nat.sub_self, List.getElem_cons_zero]
   have hn := h.nm pre.length (by omega)
   rw [hx] at hn
   have hk := nmK_ok pre.length (by have := h.len; omega)
   refine ⟨by rw [hn]; exact hk.1, (small_fmt (h.cv x (by rw [← e]; simp))).1, ?_, ih (pre ++ [x]) (by rw [← e, List.append_assoc]; rfl)⟩
   unfold hasN
   rw [List.any_eq_false]
   intro y hy hh
   obtain ⟨j, hj, rfl⟩ := List.getElem_of_mem hy
   have h1 := h.nm j (by omega)
   have h2 : nth l j = pre[j] := by
    rw [nth_eq (by omega)]
    simp only [← e, List.getElem_append_left hj]
   rw [h2] at h1
   exact hk.2 j hj (by rw [← h1, ← hn]; exact of_decide_eq_true hh)
 exact key l [] rfl
theorem KList.rows {l : List Nmd} (h : KList l) : (rowsF l).length ≤ 4000 := by
 have key : ∀ r : List Nmd, (∀ x ∈ r, isNameB x.1 = true ∧ SmallC x.2) → (rowsF r).length ≤ 700 * r.length := by
  intro r
  induction r with
  | nil => intro _; exact Nat.le_refl 0
  | cons x r ih =>
   intro hx
   have h1 := ih (fun y hy => hx y (by simp [hy]))
   obtain ⟨h2, h3⟩ := hx x (by simp)
   have h4 := (name_mem h2).2.1
   have h5 := (small_fmt h3).2
   rw [rowsF, List.length_append, List.length_cons]
   unfold rowF
   simp only [List.length_append, List.length_cons, List.length_nil]
   omega
 have := key l (fun x hx => ⟨by
  obtain ⟨i, hi, rfl⟩ := List.getElem_of_mem hx
  have h1 := h.nm i hi
  rw [nth_eq hi] at h1
  rw [h1]
  exact (nmK_ok i (by have := h.len; omega)).1, h.cv x hx⟩)
 have := h.len
 omega
end Go.Proofs.YtmidibkljoaoiaaGreatDoor.M

/- What keep draws as a network is right, and is read back from its text. Plain. No condition. -/
namespace Go.Proofs.YtmidibkljoaoiaaGreatDoor.M
open Go Go.Proofs.YtmidibkljoaoiaaGreatDoor.K
theorem splC_rest (d : UInt8) (r : List UInt8) : ∀ ws : List (List UInt8), (∀ x ∈ ws, ∀ c ∈ x, c ≠ d) → splC d (Lib.join (ws ++ [r]) [d]) = ws ++ splC d r
 | [], _ => by rw [List.nil_append, List.nil_append, show Lib.join [r] [d] = r by simp [Lib.join, List.intercalate]]
 | [x], h => by
  rw [show ([x] ++ [r] : List (List UInt8)) = x :: r :: [] from rfl, join_cons, show Lib.join [r] [d] = r by simp [Lib.join, List.intercalate], List.append_assoc]
  exact (splC_word x r (h x (by simp))).1
 | x :: y :: ws, h => by
  have ih := splC_rest d r (y :: ws) (fun z hz => h z (by simp [hz]))
  rw [show (x :: y :: ws) ++ [r] = x :: y :: (ws ++ [r]) from rfl, join_cons, List.append_assoc]
  show splC d (x ++ d :: Lib.join (y :: (ws ++ [r])) [d]) = _
  rw [(splC_word x _ (h x (by simp))).1]
  rw [show (y :: (ws ++ [r])) = (y :: ws) ++ [r] from rfl, ih]
  rfl
theorem word_no62 {s : List UInt8} (h : wordB s = true) : ∀ c ∈ s, c ≠ 62 := fun c hc => by
 obtain ⟨i, hi, rfl⟩ := List.getElem_of_mem hc
 have h4 := (of_decide_eq_true h).2.2.2 i hi
 have eb : byteAt s i = ((s[i]).toNat : Int) := by unfold byteAt List.getD; rw [List.getElem?_eq_getElem hi]; rfl
 unfold wordOk at h4
 rw [eb] at h4
 intro e; rw [e] at h4; exact absurd h4 (by decide)
section
variable {names : List (List UInt8)} {Ls : List Ln} {f : Fl}
theorem way_mem (hr : FlRight Ls f) (hnl : names.length = Ls.length) : ∀ x ∈ wayL names f.route, x ∈ names := fun x hx => by
 obtain ⟨l, hl, rfl⟩ := List.mem_map.1 hx
 have := (hr.route l hl).1
 exact nth_mem (by omega)
theorem six_no (hr : FlRight Ls f) (hnl : names.length = Ls.length) (hw : ∀ x ∈ names, wordB x = true) : ∀ x ∈ [wFlow, f.name, Lib.decDigits f.cls.toNat, Lib.decDigits f.lo.toNat, Lib.decDigits f.hi.toNat, Lib.join (wayL names f.route) [62]], ∀ c ∈ x, c ≠ 32 ∧ c ≠ 10 := by
 intro x hx
 simp only [List.mem_cons, List.not_mem_nil, or_false] at hx
 rcases hx with rfl | rfl | rfl | rfl | rfl | rfl
 ·decide
 ·exact word_no hr.word
 ·exact dec_no2 _
 ·exact dec_no2 _
 ·exact dec_no2 _
 ·exact join_no (by decide) _ (fun x hx => word_no (hw x (way_mem hr hnl x hx)))
theorem fl_words (hr : FlRight Ls f) (hnl : names.length = Ls.length) (hw : ∀ x ∈ names, wordB x = true) : w7 (Lib.join (flWords names f) [32]) = flWords names f ∧ lineO (Lib.join (flWords names f) [32]) = false := by
 have hs := splC_rest 32 (formatR f.cv).1 _ (fun x hx c hc => (six_no hr hnl hw x hx c hc).1)
 have e : splC 32 (Lib.join (flWords names f) [32]) = [wFlow, f.name, Lib.decDigits f.cls.toNat, Lib.decDigits f.lo.toNat, Lib.decDigits f.hi.toNat, Lib.join (wayL names f.route) [62]] ++ splC 32 (formatR f.cv).1 := hs
 refine ⟨?_, ?_⟩
 ·unfold w7
  rw [e]
  unfold spN
  have hne : 1 ≤ (splC 32 (formatR f.cv).1).length := by
   cases h : splC 32 (formatR f.cv).1 with
   | nil => exact absurd h (splC_ne 32 _)
   | cons x xs => rw [List.length_cons]; omega
  rw [if_pos (by rw [List.length_append]; show 7 ≤ 6 + _; omega), List.take_left' (by rfl), List.drop_left' (by rfl), join_splC 32 _ _ (Nat.le_refl _)]
  rfl
 ·unfold lineO
  rw [e]
  rfl
theorem idx_nth (hd : names.Nodup) {i : Nat} (hi : i < names.length) : idxN names (nth names i) = i := (idx_at (fun j hj he => by
 have hjl : j < names.length := Nat.lt_trans hj hi
 rw [nth_eq hjl, nth_eq hi] at he
 exact (List.pairwise_iff_getElem.1 hd j i hjl hi hj) he) hi rfl).1
theorem way_read (hr : FlRight Ls f) (hnl : names.length = Ls.length) (hw : ∀ x ∈ names, wordB x = true) (hd : names.Nodup) : wayO names (Lib.join (wayL names f.route) [62]) = true ∧ wayV names (Lib.join (wayL names f.route) [62]) = f.route := by
 have hl := hr.len
 have e : splC 62 (Lib.join (wayL names f.route) [62]) = wayL names f.route := splC_join 62 _ (fun h => by have := List.map_eq_nil_iff.1 h; rw [this] at hl; simp at hl) (fun x hx => word_no62 (hw x (way_mem hr hnl x hx)))
 unfold wayO wayV
 rw [e]
 refine ⟨List.all_eq_true.2 fun x hx => decide_eq_true (way_mem hr hnl x hx), ?_⟩
 unfold wayL
 rw [List.map_map]
 refine (List.map_congr_left (fun l hl => ?_)).trans (List.map_id' f.route)
 have h1 := (hr.route l hl).1
 show ((idxN names (nth names l.toNat) : Nat) : Int) = l
 rw [idx_nth hd (by omega)]
 omega
/-- a flow is read back from its text -/
theorem flow_read (hr : FlRight Ls f) (hnl : names.length = Ls.length) (hw : ∀ x ∈ names, wordB x = true) (hd : names.Nodup) (hc : f.cls < 1000000000) (hf : (formatR f.cv).2 = 0) :
  flO names (Lib.join (flWords names f) [32]) = true ∧ flV names (Lib.join (flWords names f) [32]) = f := by
 obtain ⟨h1, _⟩ := fl_words hr hnl hw
 obtain ⟨g1, g2⟩ := way_read hr hnl hw hd
 have hs := hr.sizes
 have hcl := hr.cls
 obtain ⟨a1, a2⟩ := num9_dec (u := f.cls.toNat) (by omega)
 obtain ⟨b1, b2⟩ := num9_dec (u := f.lo.toNat) (by omega)
 obtain ⟨c1, c2⟩ := num9_dec (u := f.hi.toNat) (by omega)
 obtain ⟨k1, k2, k3⟩ := fmt_ok hf
 have hp := parse_fmt k1 k2
 rw [← k3] at hp
 have e1 : nth (flWords names f) 1 = f.name := rfl
 have e2 : nth (flWords names f) 2 = Lib.decDigits f.cls.toNat := rfl
 have e3 : nth (flWords names f) 3 = Lib.decDigits f.lo.toNat := rfl
 have e4 : nth (flWords names f) 4 = Lib.decDigits f.hi.toNat := rfl
 have e5 : nth (flWords names f) 5 = Lib.join (wayL names f.route) [62] := rfl
 have e6 : nth (flWords names f) 6 = (formatR f.cv).1 := rfl
 refine ⟨?_, ?_⟩
 ·unfold flO
  rw [h1, e1, e2, e3, e4, e5, e6, hr.word, a1, b1, c1, g1, hp]
  rfl
 ·unfold flV
  rw [h1, e1, e2, e3, e4, e5, e6, g2, a2, b2, c2, hp]
  have q1 : ((f.cls.toNat : Nat) : Int) = f.cls := by omega
  have q2 : ((f.lo.toNat : Nat) : Int) = f.lo := by omega
  have q3 : ((f.hi.toNat : Nat) : Int) = f.hi := by omega
  rw [q1, q2, q3]
theorem fl_no10 (hr : FlRight Ls f) (hnl : names.length = Ls.length) (hw : ∀ x ∈ names, wordB x = true) (hf : (formatR f.cv).2 = 0) : ∀ c ∈ Lib.join (flWords names f) [32], c ≠ 10 := by
 obtain ⟨k1, k2, k3⟩ := fmt_ok hf
 refine join_no (by decide) _ (fun x hx c hc => ?_)
 have hx' : x ∈ [wFlow, f.name, Lib.decDigits f.cls.toNat, Lib.decDigits f.lo.toNat, Lib.decDigits f.hi.toNat, Lib.join (wayL names f.route) [62]] ++ [(formatR f.cv).1] := hx
 rcases List.mem_append.1 hx' with h | h
 ·exact (six_no hr hnl hw x h c hc).2
 ·rw [List.mem_singleton.1 h, k3] at hc
  exact fmt_ten k1 c hc
end
theorem fmtVals_len {k : Nat} : ∀ vs : List Int, (∀ v ∈ vs, (wordV v).length ≤ k) → (fmtVals vs).length ≤ (k + 1) * vs.length
 | [], _ => Nat.le_refl 0
 | v :: r, h => by
  have h1 := h v (by simp)
  have h2 := fmtVals_len r (fun x hx => h x (by simp [hx]))
  rw [fmtVals, List.length_append, List.length_cons, List.length_cons, Nat.mul_succ]
  omega
theorem stair_fmt {c : Cv} (h : StairP c) : (formatR c).2 = 0 ∧ (formatR c).1.length ≤ 250 := by
 obtain ⟨hv, _, _, hl⟩ := stair_valid h
 have h1 := fmtVals_len (k := 11) c.vals (fun v hv' => wordV_len2 (valid_vals2 hv v hv'))
 have hf := (validB_iff.1 hv).1
 have hM : MAXV = 1073741824 := rfl
 have d1 : (Lib.itoa c.per).length ≤ 9 := by rw [itoa_pos (by omega)]; exact decD_le 9 _ (by decide) (by omega)
 have d2 : (Lib.itoa c.inc).length ≤ 10 := by rw [itoa_pos (by omega)]; exact decD_le 10 _ (by decide) (by omega)
 have hlen : (fmtC c).length ≤ 250 := by
  have e : (fmtC c).length = (fmtVals c.vals).length + (3 + (1 + ((Lib.itoa c.per).length + (1 + (3 + (1 + (Lib.itoa c.inc).length)))))) := by
   unfold fmtC
   simp only [List.length_append, List.length_cons]
   show _ + (3 + (_ + (3 + _ + 1) + 1)) = _
   omega
  omega
 unfold formatR
 rw [if_neg (by rw [hv]; decide), if_neg (by omega)]
 exact ⟨rfl, hlen⟩
theorem routeGo_ok {ls : List Ln} {cl : Int} : ∀ (r met : List Int), (∀ l ∈ r, (0 ≤ l ∧ l < ls.length) ∧ l ∉ met ∧ 0 ≤ cl ∧ cl < (nth ls l.toNat).n) → r.Nodup → routeGo ls cl met r = 0
 | [], _, _, _ => rfl
 | x :: r, met, h, hd => by
  obtain ⟨h1, h2, h3⟩ := h x (by simp)
  rw [routeGo, if_neg (by omega), if_neg h2, if_neg (by omega)]
  refine routeGo_ok r _ (fun l hl => ?_) (List.nodup_cons.1 hd).2
  obtain ⟨g1, g2, g3⟩ := h l (by simp [hl])
  refine ⟨g1, fun hm => ?_, g3⟩
  rcases List.mem_append.1 hm with hm | hm
  ·exact g2 hm
  ·rw [List.mem_singleton.1 hm] at hl; exact (List.nodup_cons.1 hd).1 hl
/-- a flow that is drawn is right -/
theorem DrawF.flE {k m : Nat} {f : Fl} {Ls : List Ln} {met : List (List UInt8)} (h : DrawF k m f) (hm : Ls.length = m) (hk : ∀ L ∈ Ls, L.n = (k : Int)) (hw : wordB f.name = true) (hn : f.name ∉ met) : flE met Ls f = 0 ∧ FlRight Ls f := by
 have hl := h.len
 have hs := h.sizes
 have hc := h.cls
 obtain ⟨v1, v2, v3, _⟩ := stair_valid h.cv
 have hf : frE met f.name = 0 := by unfold frE; rw [if_neg (by rw [hw]; decide), if_neg hn]
 have hr : routeE Ls f = 0 := by
  unfold routeE
  rw [if_neg (by omega), if_neg (by omega)]
  refine routeGo_ok _ _ (fun l hl => ?_) h.nodup
  have hlr := h.route l hl
  have hll : l.toNat < Ls.length := by omega
  exact ⟨by omega, by simp, hc.1, by rw [hk _ (nth_mem hll)]; exact hc.2⟩
 have ht : trafE f = 0 := by unfold trafE; rw [if_neg (by omega), if_neg (by rw [v1]; decide), if_neg (fun hh => hh v2), if_neg (by rw [v3]; decide)]
 have he : M.flE met Ls f = 0 := by unfold M.flE; rw [if_neg (fun hh => hh hf), if_neg (fun hh => hh hr), ht]
 exact ⟨he, (flE_zero he).1⟩
end Go.Proofs.YtmidibkljoaoiaaGreatDoor.M

/- The text of a network that keep draws: it is read back; a row that is none is told by its number. Plain. No condition. -/
namespace Go.Proofs.YtmidibkljoaoiaaGreatDoor.M
open Go Go.Proofs.YtmidibkljoaoiaaGreatDoor.K
structure DrawN (k : Nat) (ms : List LnM) (fs : List FlM) : Prop where
  hk : k = 1 ∨ k = 2
  hm : 1 ≤ ms.length ∧ ms.length ≤ 4
  hf4 : fs.length ≤ 4
  hl : ∀ m ∈ ms, DrawP k m.L
  hf : ∀ x ∈ fs, DrawF k ms.length x.f
  hn : fs.map FlM.nm = nf5.take fs.length
def nmsN (ms : List LnM) : List (List UInt8) := nm4.take ms.length
def rwN (ms : List LnM) (fs : List FlM) : List (List UInt8) := ((nmsN ms).zip (ms.map (·.L))).map rowX ++ (fs.map (·.f)).map (fmtF (nmsN ms) (ms.map (·.L)))
def stW (ms : List LnM) (fs : List FlM) (j : Nat) : Nt := ((nmsN ms).take j, (ms.map (·.L)).take j, (fs.map (·.f)).take (j - ms.length))
theorem nf5_word : ∀ x ∈ nf5, wordB x = true := by
 intro x hx
 simp only [nf5, List.mem_cons, List.not_mem_nil, or_false] at hx
 rcases hx with rfl | rfl | rfl | rfl | rfl <;> kernel_rfl
theorem chkFs_ok {ls : List Ln} : ∀ (Fs : List Fl) (met : List (List UInt8)), (∀ f ∈ Fs, ∀ met', f.name ∉ met' → flE met' ls f = 0) → (met ++ Fs.map (·.name)).Nodup → chkFs ls met Fs = 0
 | [], _, _, _ => rfl
 | f :: r, met, h, hd => by
  have hn : f.name ∉ met := fun hm => by
   rw [List.nodup_append] at hd
   exact hd.2.2 _ hm _ (by simp) rfl
  have h0 := h f (by simp) met hn
  rw [chkFs, if_neg (fun e => e h0)]
  exact chkFs_ok r _ (fun g hg => h g (by simp [hg])) (by rw [List.append_assoc]; exact hd)
section
variable {k : Nat} {ms : List LnM} {fs : List FlM}
theorem DrawN.facts (h : DrawN k ms fs) : (nmsN ms).length = ms.length ∧ (ms.map (·.L)).length = ms.length ∧ (fs.map (·.f)).length = fs.length ∧ (∀ x ∈ nmsN ms, wordB x = true ∧ x.length ≤ 1) ∧ (nmsN ms).Nodup ∧ (∀ L ∈ ms.map (·.L), L.n = (k : Int) ∧ DrawP k L) ∧ (∀ f ∈ fs.map (·.f), DrawF k ms.length f ∧ wordB f.name = true) ∧ ((fs.map (·.f)).map (·.name)).Nodup := by
 have hm := h.hm
 have e : (fs.map (·.f)).map (·.name) = nf5.take fs.length := by rw [List.map_map]; exact h.hn
 refine ⟨by unfold nmsN; rw [List.length_take]; show min _ 4 = _; omega, List.length_map .., List.length_map .., fun x hx => ⟨(nm4_len hx).2, (nm4_len hx).1⟩, (show nm4.Nodup by decide).sublist (List.take_sublist _ _), fun L hL => ?_, fun f hf => ?_, by rw [e]; exact (show nf5.Nodup by decide).sublist (List.take_sublist _ _)⟩
 ·obtain ⟨m, hm, rfl⟩ := List.mem_map.1 hL
  exact ⟨(h.hl m hm).n, h.hl m hm⟩
 ·obtain ⟨x, hx, rfl⟩ := List.mem_map.1 hf
  refine ⟨h.hf x hx, nf5_word _ (List.mem_of_mem_take (i := fs.length) ?_)⟩
  rw [← e]
  exact List.mem_map_of_mem (List.mem_map_of_mem hx)
theorem DrawN.right (h : DrawN k ms fs) : ∀ f ∈ fs.map (·.f), FlRight (ms.map (·.L)) f ∧ (∀ met, f.name ∉ met → flE met (ms.map (·.L)) f = 0) := fun f hf => by
 obtain ⟨_, h2, _, _, _, h6, h7, _⟩ := h.facts
 obtain ⟨g1, g2⟩ := h7 f hf
 exact ⟨(g1.flE (met := []) h2 (fun L hL => (h6 L hL).1) g2 (by simp)).2, fun met hn => (g1.flE h2 (fun L hL => (h6 L hL).1) g2 hn).1⟩
theorem DrawN.lines (h : DrawN k ms fs) : chkLs [] ((nmsN ms).zip (ms.map (·.L))) = 0 ∧ ∀ x ∈ (nmsN ms).zip (ms.map (·.L)), fmtE x.1 x.2 = 0 ∧ (∀ c ∈ rowX x, c ≠ 10) ∧ lineO (rowX x) = true ∧ (rowX x).length ≤ 300 ∧ nmR (rowX x) = x.1 ∧ vlR (rowX x) = x.2 := by
 obtain ⟨h1, h2, _, h4, h5, h6, _, _⟩ := h.facts
 have hz : ∀ x ∈ (nmsN ms).zip (ms.map (·.L)), x.1 ∈ nmsN ms ∧ DrawP k x.2 := fun x hx => by
  have h1 := List.of_mem_zip (a := x.1) (b := x.2) hx
  exact ⟨h1.1, (h6 _ h1.2).2⟩
 refine ⟨chkLs_ok _ _ (fun x hx => ⟨(h4 _ (hz x hx).1).1, ((hz x hx).2.chk h.hk).1⟩) ?_, fun x hx => draw_row h.hk (hz x hx).2 (hz x hx).1⟩
 rw [List.nil_append, List.map_fst_zip (by omega)]
 exact h5
theorem DrawN.chk (h : DrawN k ms fs) : chkNet (nmsN ms) (ms.map (·.L)) (fs.map (·.f)) = 0 := by
 obtain ⟨h1, h2, h3, _, _, _, _, h8⟩ := h.facts
 have hm := h.hm
 have hf := h.hf4
 unfold chkNet
 rw [h2, h3, h1, if_neg (by omega), if_neg (fun hh => hh rfl), if_neg (fun hh => hh h.lines.1)]
 exact chkFs_ok _ _ (fun f hf met hn => (h.right f hf).2 met hn) h8
theorem DrawN.flow (h : DrawN k ms fs) : ∀ f ∈ fs.map (·.f), fmtFE (nmsN ms) (ms.map (·.L)) f = 0 ∧ fmtF (nmsN ms) (ms.map (·.L)) f = Lib.join (flWords (nmsN ms) f) [32] ∧ (fmtF (nmsN ms) (ms.map (·.L)) f).length ≤ 400 := fun f hf => by
 obtain ⟨h1, h2, _, h4, _, h6, h7, _⟩ := h.facts
 have hm := h.hm
 obtain ⟨hr, hfe⟩ := h.right f hf
 obtain ⟨g1, g2⟩ := h7 f hf
 obtain ⟨s1, s2⟩ := stair_fmt g1.cv
 have hc : chkNet (nmsN ms) (ms.map (·.L)) [f] = 0 := by
  unfold chkNet
  rw [h2, h1, if_neg (by show ¬ (_ ∨ _ ∨ 10 < 1); omega), if_neg (fun hh => hh rfl), if_neg (fun hh => hh h.lines.1)]
  rw [chkFs, if_neg (fun hh => hh (hfe [] (by simp)))]; rfl
 have he : fmtFE (nmsN ms) (ms.map (·.L)) f = 0 := by unfold fmtFE; rw [if_neg (fun hh => hh hc)]; exact s1
 refine ⟨he, by unfold fmtF; rw [if_pos he], ?_⟩
 unfold fmtF
 rw [if_pos he]
 have hn12 : f.name.length ≤ 12 := (of_decide_eq_true g2).2.1
 have hwy := way_le (names := nmsN ms) (fun x hx => ⟨by have := (h4 x hx).2; omega, (h4 x hx).1⟩) hr
 have hsz := g1.sizes
 have hcl := g1.cls
 have hk := h.hk
 have d1 : (Lib.decDigits f.cls.toNat).length ≤ 1 := decD_le 1 _ (by decide) (by omega)
 have d2 : (Lib.decDigits f.lo.toNat).length ≤ 1 := decD_le 1 _ (by decide) (by omega)
 have d3 : (Lib.decDigits f.hi.toNat).length ≤ 1 := decD_le 1 _ (by decide) (by omega)
 have e : Lib.join (flWords (nmsN ms) f) [32] = wFlow ++ [32] ++ (f.name ++ [32] ++ (Lib.decDigits f.cls.toNat ++ [32] ++ (Lib.decDigits f.lo.toNat ++ [32] ++ (Lib.decDigits f.hi.toNat ++ [32] ++ (Lib.join (wayL (nmsN ms) f.route) [62] ++ [32] ++ (formatR f.cv).1))))) := by
  unfold flWords
  rw [join_cons, join_cons, join_cons, join_cons, join_cons, join_cons, show Lib.join [(formatR f.cv).1] [32] = (formatR f.cv).1 by simp [Lib.join, List.intercalate]]
 rw [e]
 simp only [List.length_append, List.length_cons, List.length_nil]
 have : wFlow.length = 4 := rfl
 omega
theorem DrawN.rows (h : DrawN k ms fs) : (rwN ms fs).length = ms.length + fs.length ∧ (∀ x ∈ rwN ms fs, (∀ c ∈ x, c ≠ 10) ∧ x ≠ [] ∧ x.length ≤ 400) ∧ (rowsT (rwN ms fs)).length ≤ 3300 ∧ textN (nmsN ms) (ms.map (·.L)) (fs.map (·.f)) = rowsT (rwN ms fs) := by
 obtain ⟨h1, h2, h3, h4, _, _, h7, _⟩ := h.facts
 have hm := h.hm
 have hf4 := h.hf4
 have hlen : (rwN ms fs).length = ms.length + fs.length := by unfold rwN; rw [List.length_append, List.length_map, List.length_zip, h1, h2, List.length_map, h3]; omega
 have hw : ∀ x ∈ nmsN ms, wordB x = true := fun x hx => (h4 x hx).1
 have hr : ∀ x ∈ rwN ms fs, (∀ c ∈ x, c ≠ 10) ∧ x ≠ [] ∧ x.length ≤ 400 := fun x hx => by
  unfold rwN at hx
  rcases List.mem_append.1 hx with hx | hx
  ·obtain ⟨y, hy, rfl⟩ := List.mem_map.1 hx
   obtain ⟨_, g2, g3, g4, _⟩ := h.lines.2 y hy
   exact ⟨g2, fun e => (by rw [e] at g3; exact absurd g3 (by decide)), by omega⟩
  ·obtain ⟨f, hf, rfl⟩ := List.mem_map.1 hx
   obtain ⟨g1, g2, g3⟩ := h.flow f hf
   obtain ⟨hrt, _⟩ := h.right f hf
   obtain ⟨s1, _⟩ := stair_fmt (h7 f hf).1.cv
   refine ⟨?_, ?_, g3⟩
   ·rw [g2]; exact fl_no10 hrt (by omega) hw s1
   ·rw [g2]; unfold flWords; rw [join_cons]; intro e; have := congrArg List.length e; simp only [List.length_append, List.length_cons, List.length_nil] at this; omega
 refine ⟨hlen, hr, ?_, ?_⟩
 ·have := rowsT_len (k := 400) (fun x hx => (hr x hx).2.2)
  rw [hlen] at this
  omega
 ·unfold textN rwN rowsT
  rw [List.map_append, List.flatten_append]
theorem DrawN.fmt (h : DrawN k ms fs) : fmtN (nmsN ms) (ms.map (·.L)) (fs.map (·.f)) = (rowsT (rwN ms fs), 0) := by
 obtain ⟨_, _, hl, ht⟩ := h.rows
 have he : ∀ xs : List (List UInt8 × Ln), (∀ x ∈ xs, fmtE x.1 x.2 = 0) → fmtErr xs = 0 := by
  intro xs
  induction xs with
  | nil => intro _; rfl
  | cons x r ih => intro hx; rw [fmtErr, if_neg (fun hh => hh (hx x (by simp)))]; exact ih (fun y hy => hx y (by simp [hy]))
 have hf : ∀ Fs : List Fl, (∀ f ∈ Fs, fmtFE (nmsN ms) (ms.map (·.L)) f = 0) → flErr (nmsN ms) (ms.map (·.L)) Fs = 0 := by
  intro Fs
  induction Fs with
  | nil => intro _; rfl
  | cons x r ih => intro hx; rw [flErr, if_neg (fun hh => hh (hx x (by simp)))]; exact ih (fun y hy => hx y (by simp [hy]))
 unfold fmtN
 rw [if_neg (fun hh => hh h.chk), if_neg (fun hh => hh (he _ (fun x hx => (h.lines.2 x hx).1))), if_neg (fun hh => hh (hf _ (fun f hf => (h.flow f hf).1))), ht, if_neg (by omega)]
/-- row for row -/
theorem DrawN.step (h : DrawN k ms fs) : ∀ j, j < (rwN ms fs).length → takeS (stW ms fs j) (nth (rwN ms fs) j) = some (stW ms fs (j + 1)) := fun j hj => by
 obtain ⟨h1, h2, h3, h4, h5, h6, h7, _⟩ := h.facts
 obtain ⟨hlen, _⟩ := h.rows
 have hw : ∀ x ∈ nmsN ms, wordB x = true := fun x hx => (h4 x hx).1
 have hzl : (((nmsN ms).zip (ms.map (·.L))).map rowX).length = ms.length := by rw [List.length_map, List.length_zip, h1, h2]; omega
 rw [hlen] at hj
 by_cases hjm : j < ms.length
 ·have hz : j < ((nmsN ms).zip (ms.map (·.L))).length := by rw [List.length_zip]; omega
  have en : nth (rwN ms fs) j = rowX (nth (nmsN ms) j, nth (ms.map (·.L)) j) := by
   unfold rwN
   rw [nth_eq (by rw [List.length_append]; omega), List.getElem_append_left (by omega), List.getElem_map, List.getElem_zip, nth_eq (by omega), nth_eq (by omega)]
  have hx : (nth (nmsN ms) j, nth (ms.map (·.L)) j) ∈ (nmsN ms).zip (ms.map (·.L)) := by
   have := List.getElem_mem hz
   rw [List.getElem_zip] at this
   rw [nth_eq (by omega), nth_eq (by omega)]; exact this
  obtain ⟨_, _, g3, _, g5, g6⟩ := h.lines.2 _ hx
  rw [en]
  unfold takeS stW
  rw [show j - ms.length = 0 by omega, show j + 1 - ms.length = 0 by omega, List.take_zero, if_pos ⟨g3, rfl⟩, g5, g6]
  rw [take_nth (by omega), take_nth (by omega)]
 ·obtain ⟨q, rfl⟩ : ∃ q, j = ms.length + q := ⟨j - ms.length, by omega⟩
  have hq : q < (fs.map (·.f)).length := by omega
  have en : nth (rwN ms fs) (ms.length + q) = fmtF (nmsN ms) (ms.map (·.L)) (nth (fs.map (·.f)) q) := by
   unfold rwN
   rw [nth_eq (by rw [List.length_append, hzl, List.length_map]; omega), List.getElem_append_right (by omega), List.getElem_map, nth_eq hq]
   congr 2
   omega
  have hf := nth_mem hq
  obtain ⟨_, g2, _⟩ := h.flow _ hf
  obtain ⟨hrt, _⟩ := h.right _ hf
  obtain ⟨g7, _⟩ := h7 _ hf
  obtain ⟨s1, _⟩ := stair_fmt g7.cv
  obtain ⟨r1, r2⟩ := flow_read hrt (by omega) hw h5 (by have := g7.cls; have := h.hk; omega) s1
  obtain ⟨_, w2⟩ := fl_words hrt (by omega) hw
  rw [en, g2]
  unfold takeS stW
  have t1 : (nmsN ms).take (ms.length + q) = nmsN ms := List.take_of_length_le (by omega)
  have t2 : (ms.map (·.L)).take (ms.length + q) = ms.map (·.L) := List.take_of_length_le (by omega)
  have t3 : (nmsN ms).take (ms.length + q + 1) = nmsN ms := List.take_of_length_le (by omega)
  have t4 : (ms.map (·.L)).take (ms.length + q + 1) = ms.map (·.L) := List.take_of_length_le (by omega)
  rw [t1, t2, t3, t4, show ms.length + q - ms.length = q by omega, show ms.length + q + 1 - ms.length = q + 1 by omega, if_neg (fun hh => by rw [w2] at hh; exact absurd hh.1 (by decide)), if_pos r1, r2, take_nth hq]
end
end Go.Proofs.YtmidibkljoaoiaaGreatDoor.M

/- A row that is put between the rows of a text. Plain. No condition. -/
namespace Go.Proofs.YtmidibkljoaoiaaGreatDoor.M
open Go Go.Proofs.YtmidibkljoaoiaaGreatDoor.K
theorem fmtN_nil (names : List (List UInt8)) (Ls : List Ln) : fmtN names Ls [] = fmtN0 names Ls := by
 unfold fmtN fmtN0 textN
 rw [chkNet_nil, show flErr names Ls [] = 0 from rfl, if_neg (c := (0 : Int) ≠ 0) (fun h => h rfl), show rowsT (([] : List Fl).map (fmtF names Ls)) = [] from rfl, List.append_nil]
end Go.Proofs.YtmidibkljoaoiaaGreatDoor.M

/- Chapter 24: names and numbers. No condition. -/
set_option maxRecDepth 4000
set_option linter.unusedSimpArgs false
set_option linter.unusedVariables false
namespace Go.Proofs.YtmidibkljoaoiaaGreatDoor
open Go Go.RowKit Go.Proofs.YtmidibkljoaoiaaGreatDoor.K Go.Proofs.YtmidibkljoaoiaaGreatDoor.M

set_option maxHeartbeats 1000000 in
theorem Word_V {R : Ro} {s : List UInt8} (hs : s.length ≤ 9223372036854775807) : FnV Tryz.prog 41 [.string (str s)] R (.bool (wordB s)) := by
 refine Fn.toV (fun w0 E => ?_)
 have hss := str_size s
 have hse : str s = ⟨#[]⟩ ↔ s = [] := ⟨fun h => str_inj (b := []) h, fun h => by rw [h]; rfl⟩
 have h0l : s ≠ [] → 0 < s.length := List.length_pos_iff.2
 refine fE 49 Tryz.func41 ?_
 refine zQ (zG (zR 1 rfl (zN (zU (zQ (zQ (zG (zR 1 rfl ?_))))))))
 refine WG.y rfl rfl qD (Yl.eqS rfl rfl rfl (fun _ => rfl)) ?_
 refine zR 1 rfl ?_
 refine yP ?_
 refine yP ?_
 refine yP ?_
 refine yO ?_
 refine zR 1 rfl ?_
 refine yP ?_
 refine WG.y rfl rfl (by decide) (Yl.sidx tab_ok rfl rfl rfl rfl rfl qE (by intro hg; (try simp only [zk] at hg); (have h1 := hg; have h2 : s ≠ [] := (fun h => by subst h; simp [str] at h1); have h3 := h0l h2; constructor <;> omega))) ?_
 refine yP ?_
 refine yO ?_
 refine zR 1 rfl ?_
 refine yP ?_
 refine WG.y rfl rfl (by decide) (Yl.sidx tab_ok rfl rfl rfl rfl rfl qE (by intro hg; (try simp only [zk] at hg); (have h1 := hg; have h2 : s ≠ [] := (fun h => by subst h; simp [str] at h1); have h3 := h0l h2; constructor <;> omega))) ?_
 refine yP ?_
 refine yO ?_
 refine zN (zU ?_)
 refine W.cond rfl (fun hc0 => ?_) (fun hc0 => ?_)
 ·try simp only [zk] at hc0
  have h00 : byteAt s ((0 : Int)).toNat = byteAt s 0 := rfl
  try rw [h00] at hc0
  have hno : wordB s = false := by
   unfold wordB
   rw [decide_eq_false_iff_not]
   rintro ⟨h1, h2, h3, h4⟩
   rcases hc0 with ((h | h) | h) | h
   ·rw [hse.1 h] at h1; simp at h1
   all_goals omega
  refine zQ (zG (zR 1 rfl (zN (zU (zT (wt ?_))))))
  refine sE (E := E) ?_
  refine WE.retF tab_ok [_] rfl ⟨rfl, trivial⟩ (RLe.refl _) ?_
  exact ⟨by rw [hno]; rfl, rfl⟩
 ·try simp only [zk] at hc0
  have h00 : byteAt s ((0 : Int)).toNat = byteAt s 0 := rfl
  try rw [h00] at hc0
  have hne : s ≠ [] := fun h => by rw [h] at hc0; simp [str] at hc0
  have hl1 := h0l hne
  have hok : 1 ≤ s.length ∧ s.length ≤ 12 ∧ 97 ≤ byteAt s 0 ∧ byteAt s 0 ≤ 122 := by omega
  refine zK (zU (zQ (zQ (zG (zR 1 rfl (zN (zU (zB ?_))))))))
  refine W.loopK (β := Nat) (fun i => (1 ≤ i ∧ i ≤ s.length) ∧ ∀ j, j < i → wordOk s j) (fun i => [(3, true, .int .i64 (i : Int))]) [0] [_] [] _ rfl (fun i => []) (fun i => s.length - i) (1) (⟨⟨Nat.le_refl _, hok.1⟩, fun j hj => by
   obtain rfl : j = 0 := by omega
   exact .inr (.inr hok.2.2)⟩) ⟨rfl, rfl, rfl⟩ qS ?_
  intro i hst
  dsimp only [zipE, setAll, List.cons_append, List.nil_append, List.set_cons_zero, List.set_cons_succ] at hst ⊢
  
  refine zQ (zQ (zG (zR 4 rfl (zN (zU ?_)))))
  refine W.condD rfl (fun hc1 => ?_) (fun hc1 => ?_)
  ·try dsimp only at hc1
   have hil : i < s.length := by omega
   have hbt : byteAt s ((i : Int)).toNat = byteAt s i := rfl
   refine zK (zU (zQ (zB (zQ (zG (zR 2 rfl ?_))))))
   refine WG.y rfl rfl qD (Yl.sidx tab_ok rfl rfl rfl rfl rfl (fun _ => rfl) qA) ?_
   refine zR 1 rfl (zN (zU (zQ (zG (zR 3 rfl ?_)))))
   refine yP ?_
   refine yP ?_
   refine yP ?_
   refine yP ?_
   refine yP ?_
   refine yO ?_
   refine yN ?_
   refine zR 1 rfl ?_
   refine yP ?_
   refine yP ?_
   refine yP ?_
   refine yP ?_
   refine yP ?_
   refine yO ?_
   refine yN ?_
   refine zN (zU ?_)
   refine W.cond rfl (fun hc2 => ?_) (fun hc2 => ?_)
   ·try simp only [zk] at hc2
    have hno : wordB s = false := by
     unfold wordB
     rw [decide_eq_false_iff_not]
     rintro ⟨h1, h2, h3, h4⟩
     have := h4 i hil
     unfold wordOk at this
     rw [hbt] at hc2
     omega
    refine zQ (zG (zR 1 rfl (zN (zU (zT (wb (wt (wt (wb (wt ?_))))))))))
    refine sE (E := E) ?_
    refine WE.retF tab_ok [_] rfl ⟨rfl, trivial⟩ (RLe.refl _) ?_
    exact ⟨by rw [hno]; rfl, rfl⟩
   ·try simp only [zk] at hc2
    rw [hbt] at hc2
    have hy : wordOk s i := by unfold wordOk; omega
    refine zK (zL (zU (zG (zR 1 rfl ?_))))
    refine yA ?_
    refine zR 1 rfl (zN ?_)
    refine WE.again (i + 1) (⟨by omega, fun j hj => by
     by_cases e : j = i
     ·subst e; exact hy
     ·exact hst.2 j (by omega)⟩) (by (try dsimp only); omega) ⟨rfl, rfl, rfl⟩ (RLe.refl _) qS
  ·try dsimp only at hc1
   obtain rfl : i = s.length := by omega
   refine zX ?_
   refine wx (wx (zY (zU (zQ (zG (zR 1 rfl (zN (zU (zT ?_)))))))))
   refine sE (E := E) ?_
   refine WE.retF tab_ok [_] rfl ⟨rfl, trivial⟩ (RLe.refl _) ?_
   exact ⟨by rw [show wordB s = true from decide_eq_true ⟨hok.1, hok.2.1, hok.2.2, hst.2⟩]; rfl, rfl⟩

set_option maxHeartbeats 1000000 in
theorem Number9_V {R : Ro} {w : List UInt8} (hw : w.length ≤ 9223372036854775807) : FnV Tryz.prog 89 [.string (str w)] R (.tuple #[.int .i64 (num9V w : Int), .bool (num9 w)]) := by
 refine Fn.toV (fun w0 E => ?_)
 have hss := str_size w
 have hse : str w = ⟨#[]⟩ ↔ w = [] := ⟨fun h => str_inj (b := []) h, fun h => by rw [h]; rfl⟩
 have h0l : w ≠ [] → 0 < w.length := List.length_pos_iff.2
 refine fE 48 Tryz.func89 ?_
 refine zQ (zG (zR 2 rfl (zN (zU (zQ (zQ (zG (zR 1 rfl ?_))))))))
 refine WG.y rfl rfl qD (Yl.eqS rfl rfl rfl (fun _ => rfl)) ?_
 refine zR 1 rfl ?_
 refine yP ?_
 refine yP ?_
 refine yP ?_
 refine yO ?_
 refine zR 1 rfl ?_
 refine yP ?_
 refine yP ?_
 refine yP ?_
 refine yP ?_
 refine yP ?_
 refine WG.y rfl rfl (by decide) (Yl.sidx tab_ok rfl rfl rfl rfl rfl qE (by intro hg; (try simp only [zk] at hg); (have h1 := hg.2; constructor <;> omega))) ?_
 refine yP ?_
 refine yN ?_
 refine yO ?_
 refine zN (zU ?_)
 refine W.cond rfl (fun hc0 => ?_) (fun hc0 => ?_)
 ·try simp only [zk] at hc0
  have hno : num9 w = false := by
   unfold num9
   rw [Bool.and_eq_false_iff, decide_eq_false_iff_not]
   rcases hc0 with (h | h) | h
   ·left; rw [hse.1 h]; rfl
   ·right; omega
   ·left
    unfold digs
    rw [decide_eq_false_iff_not]
    rintro ⟨_, h2, _⟩
    exact h2 ⟨by omega, h.2⟩
  refine zQ (zG (zR 2 rfl (zN (zU (zT (wt ?_))))))
  refine sE (E := E) ?_
  refine WE.retF tab_ok [_, _] rfl ⟨rfl, rfl, trivial⟩ (RLe.refl _) ?_
  exact ⟨by unfold num9V; rw [hno]; rfl, rfl⟩
 ·try simp only [zk] at hc0
  have hy : w ≠ [] ∧ ¬ (1 < w.length ∧ byteAt w 0 = 48) ∧ w.length ≤ 9 := by
   have q1 : w ≠ [] := fun h => by rw [h] at hc0; simp [str] at hc0
   obtain ⟨⟨_, q2⟩, q3⟩ := hc0
   exact ⟨q1, fun h => by first | exact q3 qO h.2 | (have := q3 qO; omega) | (rcases q3 with q3 | q3; omega; exact q3 h.2), by omega⟩
  refine zK (zU (zQ (zG (zR 1 rfl (zN (zU (zQ (zQ (zG (zR 1 rfl (zN (zU (zB ?_)))))))))))))
  refine W.loopK (β := Nat) (fun i => i ≤ w.length ∧ ∀ j, j < i → 48 ≤ byteAt w j ∧ byteAt w j ≤ 57) (fun i => [(4, true, .int .i64 (numV (w.take i) : Int)), (5, true, .int .i64 (i : Int))]) [0] [_] [] _ rfl (fun i => []) (fun i => w.length - i) (0) (⟨Nat.zero_le _, fun j hj => by omega⟩) ⟨rfl, rfl, rfl, rfl⟩ qS ?_
  intro i hst
  dsimp only [zipE, setAll, List.cons_append, List.nil_append, List.set_cons_zero, List.set_cons_succ] at hst ⊢
  
  refine zQ (zQ (zG (zR 4 rfl (zN (zU ?_)))))
  refine W.condD rfl (fun hc1 => ?_) (fun hc1 => ?_)
  ·try dsimp only at hc1
   have hil : i < w.length := by omega
   have hbt : byteAt w ((i : Int)).toNat = byteAt w i := rfl
   have hnl := numV_lt (by omega) hst.2
   have hp9 := pow9 (show i ≤ 9 by omega)
   refine zK (zU (zQ (zB (zQ (zQ (zG (zR 2 rfl ?_)))))))
   refine WG.y rfl rfl qD (Yl.sidx tab_ok rfl rfl rfl rfl rfl (fun _ => rfl) qA) ?_
   refine zR 2 rfl ?_
   refine yP ?_
   refine yP ?_
   refine WG.y rfl rfl (by decide) (Yl.sidx tab_ok rfl rfl rfl rfl rfl qE (by intro hg; (try simp only [zk] at hg); constructor <;> (try dsimp only) <;> omega)) ?_
   refine yP ?_
   refine yO ?_
   refine zN (zU ?_)
   refine W.cond rfl (fun hc2 => ?_) (fun hc2 => ?_)
   ·try simp only [zk] at hc2
    have hno : num9 w = false := by
     unfold num9
     rw [Bool.and_eq_false_iff, decide_eq_false_iff_not]
     left
     unfold digs
     rw [decide_eq_false_iff_not]
     rintro ⟨_, _, h3⟩
     have := h3 i hil
     rw [hbt] at hc2
     omega
    refine zQ (zG (zR 2 rfl (zN (zU (zT (wt (wb (wt (wt (wb (wt ?_)))))))))))
    refine sE (E := E) ?_
    refine WE.retF tab_ok [_, _] rfl ⟨rfl, rfl, trivial⟩ (RLe.refl _) ?_
    exact ⟨by unfold num9V; rw [hno]; rfl, rfl⟩
   ·try simp only [zk] at hc2
    rw [hbt] at hc2
    have hyd : 48 ≤ byteAt w i ∧ byteAt w i ≤ 57 := by omega
    refine zK (zU (zG (zR 1 rfl ?_)))
    refine WG.y rfl rfl qD (Yl.mul rfl rfl rfl (fun _ => rfl) qA) ?_
    refine zR 2 rfl ?_
    refine WG.y rfl rfl qD (Yl.sidx tab_ok rfl rfl rfl rfl rfl (fun _ => rfl) qA) ?_
    refine WG.y rfl rfl qD (Yl.subB rfl rfl rfl (fun _ => rfl) qA) ?_
    refine WG.y rfl rfl qD (Yl.convId tab_ok rfl rfl rfl rfl rfl rfl (fun _ => rfl) (by intro _; (try dsimp only); first | exact u64_id ⟨by omega, by omega⟩ | exact i64_wrap ⟨by omega, by omega⟩ | exact u8_id ⟨by omega, by omega⟩)) ?_
    refine yA ?_
    refine zR 1 rfl (zN (zL (zU (zG (zR 1 rfl ?_)))))
    refine yA ?_
    refine zR 1 rfl (zN ?_)
    refine WE.again (i + 1) (⟨by omega, fun j hj => by
     by_cases e : j = i
     ·subst e; exact hyd
     ·exact hst.2 j (by omega)⟩) (by (try dsimp only); omega) ⟨vint (by rw [numV_next hil hyd]; rw [hbt]), rfl, rfl, rfl⟩ (RLe.refl _) qS
  ·try dsimp only at hc1
   obtain rfl : i = w.length := by omega
   refine zX ?_
   refine wx (wx (zY (zU (zQ (zG (zR 3 rfl (zN (zU (zT ?_)))))))))
   refine sE (E := E) ?_
   refine WE.retF tab_ok [_, _] rfl ⟨rfl, rfl, trivial⟩ (RLe.refl _) ?_
   have hyes : num9 w = true := by unfold num9; rw [show digs w = true from decide_eq_true ⟨hy.1, hy.2.1, hst.2⟩, decide_eq_true hy.2.2]; rfl
   exact ⟨by unfold num9V; rw [hyes, if_pos rfl, List.take_length]; rfl, rfl⟩

end Go.Proofs.YtmidibkljoaoiaaGreatDoor

/- Rules: the bytes of a string as a slice of one's own (a place behind the last is marked), xor of bytes. No condition. -/
namespace Go.Proofs.YtmidibkljoaoiaaGreatDoor.K
open Go Go.RowKit
section
variable {P : Program} {T : Tab} {n : Nat} {env : Env} {w0 : World} {R : Ro} {E : List Ent} {o : Oper} {pc p q r : Bool}
end
end Go.Proofs.YtmidibkljoaoiaaGreatDoor.K

/- Rules: what is behind a place of an array, and its bytes as a string. No condition. -/
namespace Go.Proofs.YtmidibkljoaoiaaGreatDoor.K
open Go Go.RowKit Go.Proofs.YtmidibkljoaoiaaGreatDoor.M
section
variable {P : Program} {T : Tab} {n : Nat} {env : Env} {w0 : World} {R : Ro} {E : List Ent} {o : Oper} {pc p q : Bool}
theorem Yl.sliceArrL {t e : TypeId} {x l : Operand} {b m : Nat} {i : Int} {d d2 : TD} (hT : TabOk P T) (ho : o.op = .slice t x (some l) none none) (hd : T.at t = some d) (hk : d.k = .arr m e) (hd2 : T.at e = some d2) (hs : d2.size = 1)
  (hx : ev env x = some (p, .pointer (some ⟨b, 0, none⟩))) (hl : ev env l = some (q, .int .i64 i)) (hpq : pc = true → (p && q) = true) (hi : pc = true → 0 ≤ i ∧ i < m) : Yl P n env w0 R E o pc (.slice (some ⟨b, i.toNat, none⟩) (m - i.toNat) (m - i.toNat)) := by
 intro ac w hkn hm hpc
 obtain ⟨h1, h2⟩ := and_both (hpq hpc)
 have hi := hi hpc
 have hne : ¬ m = i.toNat := by omega
 unfold execOp
 simp [ho, hkn.ev hx h1, hkn.ev hl h2, Instr.sliceAt, Instr.sureAddr, Instr.sliceBounds, Instr.sliceBound, asIntOf, underlying, hT.arr hd hk, hi, run_sizeOf hT hd2, hs, Addr.add, hne, show i ≤ (m : Int) by omega]
 intro _; omega
theorem Yl.blkStr {src dst e : TypeId} {x : Operand} {m b k cap : Nat} {cs : List Value} {l : List UInt8} {d d2 d3 : TD} (i : Nat) (hT : TabOk P T) (ho : o.op = .convert src dst x) (hd : T.at src = some d) (hk : d.k = .slice e) (hd2 : T.at e = some d2) (hk2 : d2.k = .int .u8) (hd3 : T.at dst = some d3) (hk3 : d3.k = .str)
  (hE : E[i]? = some (.blk b cs)) (hx : ev env x = some (p, .slice (some ⟨b, k, none⟩) m cap)) (hm : m = l.length) (hc : cs.drop k = l.map fun c => Value.int .u8 c.toNat) (hp : pc = true → p = true) : Yl P n env w0 R E o pc (.string (str l)) := by
 intro ac w hkn hmm hpc
 subst hm
 obtain ⟨hb, t, hh⟩ := hmm.own _ (mem_of_get hE)
 have e1 := run_convert_bytes_back w src dst e ⟨b, k, none⟩ cap l (hT.slice hd hk) (hT.int hd2 hk2) (hT.str hd3 hk3) (fun j hj => by
  rw [addr_add_mk]
  have h4 : (cs.drop k)[j]? = some (.int .u8 (l[j]).toNat) := by rw [hc, List.getElem?_map, List.getElem?_eq_getElem hj]; rfl
  rw [List.getElem?_drop] at h4
  simp [World.cell?, hh, h4])
 unfold execOp
 simp [ho, hkn.ev hx (hp hpc), e1, str]
end
end Go.Proofs.YtmidibkljoaoiaaGreatDoor.K

/- Chapter 24: decimals. No condition. -/
set_option maxRecDepth 4000
set_option linter.unusedSimpArgs false
set_option linter.unusedVariables false
namespace Go.Proofs.YtmidibkljoaoiaaGreatDoor
open Go Go.RowKit Go.Proofs.YtmidibkljoaoiaaGreatDoor.K Go.Proofs.YtmidibkljoaoiaaGreatDoor.M

set_option maxHeartbeats 1000000 in
theorem Dec24_V {R : Ro} {n : Nat} (hn : n ≤ 9223372036854775807) : FnV Tryz.prog 38 [.int .i64 (n : Int)] R (.string (str (Lib.decDigits n))) := by
 refine FnV.ofOwn (fun w0 hb0 => ?_)
 refine fE 20 Tryz.func38 ?_
 refine zQ (zG (zR 1 rfl (zN (zU (zQ (zG ?_))))))
 refine zA fun b3 => ?_
 refine zN (zU (zQ (zG (zR 1 rfl (zN (zU (zB ?_)))))))
 refine W.loopK (β := Nat × Nat × List Value × List UInt8) (fun (x, k, cs, suf) => x ≤ 9223372036854775807 ∧ cs.length = 20 ∧ k + suf.length = 20 ∧ 1 ≤ k ∧ x < 10 ^ (k - 1) ∧ cs.drop k = suf.map (fun c => Value.int .u8 c.toNat) ∧ Lib.decDigits x ++ suf = Lib.decDigits n) (fun (x, k, cs, suf) => [(0, true, .int .i64 (x : Int)), (4, true, .int .i64 (k : Int))]) [3] [_] [] _ rfl (fun (x, k, cs, suf) => [(0, .blk b3 cs)]) (fun (x, k, cs, suf) => k) ((n, 20, List.replicate 20 (.int .u8 0), [])) (⟨hn, rfl, rfl, by decide, by show n < 10 ^ 19; omega, rfl, List.append_nil _⟩) ⟨rfl, rfl, rfl, rfl⟩ qS ?_
 intro zz hst
 obtain ⟨x, k, cs, suf⟩ := zz
 dsimp only [zipE, setAll, List.cons_append, List.nil_append, List.set_cons_zero, List.set_cons_succ] at hst ⊢
 obtain ⟨hxm, hcl, hks, hk1, hxk, hdr, hde⟩ := hst
 refine zB (zQ (zG (zR 1 rfl ?_)))
 refine yS ?_
 rw [show (k : Int) - 1 = ((k - 1 : Nat) : Int) by omega]
 have hk11 : k - 1 < cs.length := by omega
 have hseg := seg_snoc (v := Value.int .u8 (UInt8.ofNat (48 + x % 10)).toNat) hk11
 rw [show k - 1 + 1 = k by omega, hdr] at hseg
 have hsl := setSeg_length (cs := cs) (off := k - 1) (vs := [Value.int .u8 (UInt8.ofNat (48 + x % 10)).toNat]) (by show k - 1 + 1 ≤ _; omega)
 refine zR 1 rfl (zN (zU (zQ (zG (zR 2 rfl ?_)))))
 refine WG.y rfl rfl qD (Yl.rem rfl rfl rfl (fun _ => rfl) qN qN) ?_
 refine yA ?_
 rw [show (48 : Int) + (x : Int) % 10 = ((UInt8.ofNat (48 + x % 10)).toNat : Int) from by rw [← u8_dig (show x % 10 ≤ 9 by omega)]; omega]
 have hu8 := UInt8.toNat_lt (UInt8.ofNat (48 + x % 10))
 refine WG.y rfl rfl qD (Yl.convId tab_ok rfl rfl rfl rfl rfl rfl (fun _ => rfl) (by intro _; (try dsimp only); first | exact u64_id ⟨by omega, by omega⟩ | exact i64_wrap ⟨by omega, by omega⟩ | exact u8_id ⟨by omega, by omega⟩)) ?_
 refine WG.y rfl rfl qD (Yl.indexArr tab_ok rfl rfl rfl rfl rfl rfl (fun _ => rfl) qA) ?_
 refine WL.efN rfl rfl (Ef.store (off := k - 1) 0 tab_ok rfl rfl (by show some (true, Value.pointer (some ((⟨b3, 0, none⟩ : Addr).add ((((k - 1 : Nat) : Int)).toNat * 1)))) = _; rw [Int.toNat_natCast, Nat.mul_one]) rfl rfl rfl (Nat.ble_eq_true_of_le (by show k - 1 + 1 ≤ cs.length; omega)) rfl ?_)
 refine zN (zU (zQ (zG (zR 1 rfl ?_))))
 refine WG.y rfl rfl qD (Yl.quo rfl rfl rfl (fun _ => rfl) qA (by intro _; omega)) ?_
 rw [show (x : Int) / 10 = ((x / 10 : Nat) : Int) by omega]
 refine zR 1 rfl (zN (zU (zQ (zG (zR 2 rfl (zN (zU ?_)))))))
 refine W.condE rfl (fun hc0 => ?_) (fun hc0 => ?_)
 ·try dsimp only at hc0
  have hx10 : x < 10 := by omega
  rw [dec_one hx10] at hde
  refine zQ (zG (zR 1 rfl ?_))
  refine WG.y rfl rfl qD (Yl.sliceArrL tab_ok rfl rfl rfl rfl rfl rfl rfl (fun _ => rfl) qN) ?_
  refine WG.y rfl rfl qD (Yl.blkStr (l := UInt8.ofNat (48 + x % 10) :: suf) 0 tab_ok rfl rfl rfl rfl rfl rfl rfl rfl rfl (by show _ = suf.length + 1; omega) hseg (fun _ => rfl)) ?_
  refine zR 1 rfl (zN (zU (zT (wb (wt (wb ?_))))))
  refine WE.subE (E' := []) qS ?_
  refine WE.retF tab_ok [_] rfl ⟨rfl, trivial⟩ (RLe.refl _) ?_
  show Value.string _ = Value.string _
  rw [← hde, Nat.mod_eq_of_lt hx10]; rfl
 ·try dsimp only at hc0
  have hx10 : ¬ x < 10 := by omega
  rw [dec_step hx10, List.append_assoc] at hde
  refine zK (zL ?_)
  refine WE.again ((x / 10, k - 1, setSeg cs (k - 1) [.int .u8 (UInt8.ofNat (48 + x % 10)).toNat], UInt8.ofNat (48 + x % 10) :: suf)) (⟨by omega, by rw [hsl]; exact hcl, by show k - 1 + (suf.length + 1) = 20; omega, by show 1 ≤ k - 1; rcases Nat.eq_or_lt_of_le hk1 with h | h; (rw [← h] at hxk; simp at hxk; omega); omega, by
   have e : 10 ^ (k - 1) = 10 ^ (k - 1 - 1) * 10 := by
    cases hk2 : k - 1 with
    | zero => rw [hk2] at hxk; omega
    | succ m => rw [Nat.pow_succ]; rfl
   show x / 10 < 10 ^ (k - 1 - 1)
   omega, hseg, hde⟩) (by show k - 1 < k; omega) ⟨rfl, rfl, rfl, rfl⟩ (RLe.refl _) qS

end Go.Proofs.YtmidibkljoaoiaaGreatDoor
