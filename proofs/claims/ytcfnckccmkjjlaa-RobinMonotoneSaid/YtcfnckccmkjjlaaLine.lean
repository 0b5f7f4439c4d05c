/- Chapter 16, plain: what the line's functions compute. No condition. -/
import Derived.Test.YtcfnckccmkjjlaaRange
namespace Go.Proofs.Ytcfnckccmkjjlaa.M
open Go Go.Proofs.Ytcfnckccmkjjlaa.K

def BadC (cap classes ticks : Int) : Prop := cap < 1 ∨ 4000 < cap ∨ classes < 1 ∨ 6 < classes ∨ ticks < 0 ∨ 2000 < ticks
instance (cap classes ticks : Int) : Decidable (BadC cap classes ticks) := by unfold BadC; infer_instance
def flowGo (classes : Int) : List Pkt → Int
  | [] => 0
  | p :: ps => if classes ≤ p.flow then 2 else flowGo classes ps
def checkE (cap classes ticks : Int) (ps : List Pkt) : Int := if BadC cap classes ticks then 2 else flowGo classes ps
theorem flowGo_ok (classes : Int) : ∀ (ps : List Pkt), flowGo classes ps = 0 ↔ ∀ p ∈ ps, p.flow < classes
  | [] => by simp [flowGo]
  | p :: ps => by
    have ih := flowGo_ok classes ps
    simp only [flowGo, List.mem_cons, forall_eq_or_imp]
    by_cases h : classes ≤ p.flow
    · rw [if_pos h]; constructor
      · intro h'; omega
      · intro h'; have := h'.1; omega
    · rw [if_neg h, ih]; constructor
      · intro h'; exact ⟨by omega, h'⟩
      · intro h'; exact h'.2
theorem checkE_ok {cap classes ticks : Int} {ps : List Pkt} (h : checkE cap classes ticks ps = 0) : ¬ BadC cap classes ticks ∧ ∀ p ∈ ps, p.flow < classes := by
  unfold checkE at h
  split at h
  · omega
  · rename_i hb; exact ⟨hb, (flowGo_ok _ _).1 h⟩
theorem Ok.at {ps : List Pkt} (h : Ok ps) {p : Pkt} (hp : p ∈ ps) : 0 ≤ p.flow ∧ p.flow < 60 ∧ 0 ≤ p.time ∧ p.time ≤ 2000 ∧ 1 ≤ p.size ∧ p.size ≤ 1500 := by
  have := h.each p hp; unfold BadP at this; omega
theorem Ok.fit {ps : List Pkt} (h : Ok ps) {classes : Nat} (hc : ∀ p ∈ ps, p.flow < classes) : Fit ps classes :=
  ⟨by have := h.len; omega, fun p hp => by have := h.at hp; have := hc p hp; omega⟩

def goodF (ps : List Pkt) (ms : MS) (_ : Unit) : Prop := ms.before ≤ ps.length
theorem firstR_lt (ps : List Pkt) (ms : MS) : firstR ps ms < ps.length ∧ -1 ≤ firstR ps ms := by
  unfold firstR
  dsimp only
  split <;> omega
theorem goodF_good (ps : List Pkt) : Good ps (fifo ps) (goodF ps) where
  free := fun _ _ _ _ h => h
  idx := fun ms _ _ _ _ => (firstR_lt ps ms).1
  some := fun ms _ h hb _ => by unfold goodF fifo at *; dsimp only at *; rw [← hb]; exact skipTo_le (by omega)
  none := fun ms _ h hb _ => by unfold goodF fifo at *; dsimp only at *; rw [← hb]; exact skipTo_le (by omega)

/-- the bytes of a class that have been sent -/
def qGo (cls t : Int) : Int → Nat → List (List Int) → Option Int
  | acc, _, [] => some acc
  | acc, c, l :: ls => if (c : Int) ≠ cls ∧ cls ≠ -1 then qGo cls t acc (c + 1) ls else if (l.length : Int) ≤ t then none else qGo cls t (acc + nth l t.toNat) (c + 1) ls
def queueR (ps : List Pkt) (sent : List (List Int)) (cls t : Int) : Int × Int :=
  if cls < -1 ∨ (sent.length : Int) ≤ cls ∨ t < 0 then (0, 0) else
    match qGo cls t 0 0 sent with
    | none => (0, 0)
    | some s => (pbytes cls t ps - s, pbytes cls (t + 1) ps - s)
end Go.Proofs.Ytcfnckccmkjjlaa.M
