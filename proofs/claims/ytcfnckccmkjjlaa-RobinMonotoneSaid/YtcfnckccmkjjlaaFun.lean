/- A function made with any captured values. No condition. -/
import Derived.Test.YtcfnckccmkjjlaaLoop
namespace Go.Proofs.Ytcfnckccmkjjlaa.K
open Go Go.RowKit
variable {P : Program} {T : Tab} {n : Nat} {env : Env} {w0 : World} {R : Ro} {E : List Ent} {o : Oper} {pc p q : Bool}
theorem Yl.makeFunc {fn : Go.Fn} {fi ca : List Operand} {us vs : List Value} (ho : o.op = .makeFunc fn fi.toArray ca.toArray) (hf : evs env fi = some (p, us)) (hc : evs env ca = some (q, vs)) (hpq : pc = true → (p && q) = true) : Yl P n env w0 R E o pc (.func fn us.toArray vs.toArray) := by
  intro a w hk hm hpc
  obtain ⟨h1, h2⟩ := and_both (hpq hpc)
  have e1 := evs_ok hk hf h1
  have e2 := evs_ok hk hc h2
  have e3 : fi.toArray.map a.eval = us.toArray := by rw [← e1]; simp
  have e4 : ca.toArray.map a.eval = vs.toArray := by rw [← e2]; simp
  unfold execOp
  rw [ho]
  simp only [Instr.makeFunc]
  rw [e3, e4]
  rfl
/-- a field of a value, of one cell -/
theorem Yl.field {t : TypeId} {x : Operand} {f : Nat} {ff : Array Field} {fl : Field} {cs : Array Value} {v : Value} {d : TD} (hT : TabOk P T) (ho : o.op = .field t x f) (hu : P.underlying t = some (.struct ff)) (hfl : ff[f]? = some fl) (hd : T.at fl.type = some d) (hk : d.k.known = true) (hka : d.k.agg = false)
    (hx : ev env x = some (p, .agg cs)) (hpq : pc = true → p = true) (hv : cs[fl.offset]? = some v) : Yl P n env w0 R E o pc v := by
  intro a w hk2 hm hpc
  have h1 := hk2.ev hx (hpq hpc)
  have h2 := run_isAgg hT hd (TK.ne_other hk) w
  unfold execOp
  rw [ho]
  simp [Instr.field, underlying, hu, hfl, h1, asAgg, part, h2, hka, hv]
/-- an owned slice lies within its room -/
theorem WL.cap {ops rest : List Oper} {Q : Exit → Act → World → Prop} {e : TypeId} {k : Nat} {a : Option Addr} {cap : Nat} {rows : List (List Value)} (i : Nat) (hE : E[i]? = some (.sl e k a cap rows)) (h : rows.length ≤ cap → WG false P ops Q rest n env w0 R E) : WG false P ops Q rest n env w0 R E := by
  intro ac w hk hm
  refine h ?_ ac w hk hm
  obtain ⟨g1, g2, h⟩ := own_sl hm (List.mem_of_getElem? hE)
  rcases h with ⟨_, h2, _⟩ | ⟨g, cur, _, _, _, hn, _⟩
  · subst h2; exact Nat.zero_le _
  · simpa using hn
theorem W.cap {c : Code} {Q : Exit → Act → World → Prop} {e : TypeId} {k : Nat} {a : Option Addr} {cap : Nat} {rows : List (List Value)} (i : Nat) (hE : E[i]? = some (.sl e k a cap rows)) (h : rows.length ≤ cap → W P c Q n env w0 R E) : W P c Q n env w0 R E := by
  intro ac w hk hm
  refine h ?_ ac w hk hm
  obtain ⟨g1, g2, h⟩ := own_sl hm (List.mem_of_getElem? hE)
  rcases h with ⟨_, h2, _⟩ | ⟨g, cur, _, _, _, hn, _⟩
  · subst h2; exact Nat.zero_le _
  · simpa using hn
theorem WA.ylG {ops : List Oper} {Q : Exit → Act → World → Prop} {ES : List Ent} {R0 : Ro} {fuel : Nat} {listed : Array Bool} {v : Value} {d : Nat} (i : Nat) (hi : ops.toArray[i]? = some o) (hr : Region.ready .any ops.toArray listed = [i]) (hg : gpc ops env o = some pc) (hpc : pc = true) (hd : o.dst = some d) (hdn : d < n) (hy : Yl P n env w0 R E o true v) (hsub : ES.Sublist E) (hR : RLe R0 R)
    (h : WA P ops Q ES R0 w0 fuel (listed.setIfInBounds i true) n ((d, true, v) :: env) R E) : WA P ops Q ES R0 w0 (fuel + 1) listed n env R E := by
  intro a w hk hm
  refine wpAnyH_all hr (by simp) fun j hj => ?_
  obtain rfl : j = i := by simpa using hj
  unfold wpOp
  rw [hi]
  have hw := hk.wanted hg
  rw [hpc] at hw
  simp only [hw, if_true]
  left
  unfold Oper.wp
  rw [hy a w hk hm rfl]
  simp only [Oper.upon, hd]
  exact ⟨hm.sub hR hsub, h _ _ (hk.putT hdn v) hm⟩
theorem WS.ylG {ops : List Oper} {Q : Exit → Act → World → Prop} {ES : List Ent} {R0 : Ro} {fuel : Nat} {listed : Array Bool} {v : Value} {d i : Nat} (hi : ops.toArray[i]? = some o) (hg : gpc ops env o = some pc) (hpc : pc = true) (hd : o.dst = some d) (hdn : d < n) (hy : Yl P n env w0 R E o true v) (hsub : ES.Sublist E) (hR : RLe R0 R)
    (h : WA P ops Q ES R0 w0 fuel (listed.setIfInBounds i true) n ((d, true, v) :: env) R E) : WS P ops Q ES R0 w0 fuel listed n env R E i := by
  intro a w hk hm
  unfold wpOp
  rw [hi]
  have hw := hk.wanted hg
  rw [hpc] at hw
  simp only [hw, if_true]
  left
  unfold Oper.wp
  rw [hy a w hk hm rfl]
  simp only [Oper.upon, hd]
  exact ⟨hm.sub hR hsub, h _ _ (hk.putT hdn v) hm⟩
theorem WS.callAt {ops : List Oper} {Q : Exit → Act → World → Prop} {ES : List Ent} {R0 : Ro} {fuel : Nat} {listed : Array Bool} {d : Nat} {f : FuncId} {vs : List Value} {e : Ent} {Post : Value → Ro → Ent → List Ent → Prop} (k : Nat) {i : Nat} (hi : ops.toArray[i]? = some o) (hf : Enters P f) (hg : o.guard = none) (hd : o.dst = some d) (hdn : d < n)
    (hc : CallOp env o.op true f vs) (hE : E[k]? = some e) (hv : Fn P f vs w0 R (e :: E.eraseIdx k) (fun v R' E' => ∃ e' N, E' = N ++ e' :: E.eraseIdx k ∧ Post v R' e' N))
    (h : ∀ v R' e' N, RLe R R' → Post v R' e' N → RLe R0 R' ∧ ES.Sublist (N ++ E.set k e') ∧ WA P ops Q ES R0 w0 fuel (listed.setIfInBounds i true) n ((d, true, v) :: env) R' (N ++ E.set k e')) : WS P ops Q ES R0 w0 fuel listed n env R E i := by
  intro a w hk hm
  unfold wpOp
  rw [hi]
  simp only [Region.wanted, hg, if_true]
  left
  unfold Oper.wp
  rw [run_call hk hc rfl hf]
  refine (hv w (hm.perm (perm_get hE))).mono ?_
  rintro e0 w' ⟨v, R', E', rfl, hR, hm', e', N, rfl, hp⟩
  obtain ⟨g1, g2, g3⟩ := h v R' e' N hR hp
  have hm2 := hm'.perm ((perm_set e' hE).append_left N)
  simp only [hd]
  exact ⟨hm2.sub g1 g2, g3 _ _ (hk.putT hdn v) hm2⟩
end Go.Proofs.Ytcfnckccmkjjlaa.K
