/- A function made with any captured values. No condition. -/
import Derived.Test.YtcfnckccmkjjlaaLoop
namespace Go.Proofs.Ytcfnckccmkjjlaa.K
open Go Go.RowKit
variable {P : Program} {T : Tab} {n : Nat} {env : Env} {w0 : World} {R : Ro} {E : List Ent} {o : Oper} {pc p q : Bool}
theorem Yl.makeFunc {fn : Go.Fn} {fi ca : List Operand} {us vs : List Value} (ho : o.op = .makeFunc fn fi.toArray ca.toArray) (hf : evs env fi = some (p, us)) (hc : evs env ca = some (q, vs)) (hpq : pc = true → (p && q) = true) : Yl P n env w0 R E o pc (.func fn us.toArray vs.toArray) := by
  intro a w hk hm hpc
  obtain ⟨h1, h2⟩ := and_both (hpq hpc)
  have e1 := evs_ok hk hf h1
  have e2 := evs_ok hk hc h2
  have e3 : fi.toArray.map a.eval = us.toArray := by rw [← e1]; simp
  have e4 : ca.toArray.map a.eval = vs.toArray := by rw [← e2]; simp
  unfold execOp
  rw [ho]
  simp only [Instr.makeFunc]
  rw [e3, e4]
  rfl
/-- an owned slice lies within its room -/
theorem WL.cap {ops rest : List Oper} {Q : Exit → Act → World → Prop} {e : TypeId} {k : Nat} {a : Option Addr} {cap : Nat} {rows : List (List Value)} (i : Nat) (hE : E[i]? = some (.sl e k a cap rows)) (h : rows.length ≤ cap → WG false P ops Q rest n env w0 R E) : WG false P ops Q rest n env w0 R E := by
  intro ac w hk hm
  refine h ?_ ac w hk hm
  obtain ⟨g1, g2, h⟩ := own_sl hm (List.mem_of_getElem? hE)
  rcases h with ⟨_, h2, _⟩ | ⟨g, cur, _, _, _, hn, _⟩
  · subst h2; exact Nat.zero_le _
  · simpa using hn
theorem W.cap {c : Code} {Q : Exit → Act → World → Prop} {e : TypeId} {k : Nat} {a : Option Addr} {cap : Nat} {rows : List (List Value)} (i : Nat) (hE : E[i]? = some (.sl e k a cap rows)) (h : rows.length ≤ cap → W P c Q n env w0 R E) : W P c Q n env w0 R E := by
  intro ac w hk hm
  refine h ?_ ac w hk hm
  obtain ⟨g1, g2, h⟩ := own_sl hm (List.mem_of_getElem? hE)
  rcases h with ⟨_, h2, _⟩ | ⟨g, cur, _, _, _, hn, _⟩
  · subst h2; exact Nat.zero_le _
  · simpa using hn
end Go.Proofs.Ytcfnckccmkjjlaa.K
