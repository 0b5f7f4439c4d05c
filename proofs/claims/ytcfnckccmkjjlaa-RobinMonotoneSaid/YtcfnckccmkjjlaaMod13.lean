/- Chapter 13, plain: valid traces, pbytes before a tick. No condition. -/
import Derived.Test.YtcfnckccmkjjlaaMod
namespace Go.Proofs.Ytcfnckccmkjjlaa.M
open Go Go.Proofs.Ytcfnckccmkjjlaa.K

theorem drop_nth {α : Type} [Inhabited α] {xs : List α} {k : Nat} (h : k < xs.length) : xs.drop k = nth xs k :: xs.drop (k + 1) := by
  rw [List.drop_eq_getElem_cons h, nth_eq h]

def BadP (p : Pkt) : Prop := p.flow < 0 ∨ 60 ≤ p.flow ∨ p.time < 0 ∨ 2000 < p.time ∨ p.size < 1 ∨ 1500 < p.size
instance (p : Pkt) : Decidable (BadP p) := by unfold BadP; infer_instance
def valGo : Int → List Pkt → Int
  | _, [] => 0
  | last, p :: ps => if BadP p then 2 else if p.time < last then 7 else valGo p.time ps
def validate (ps : List Pkt) : Int := if 60 < ps.length then 3 else valGo 0 ps
theorem valGo_vals : ∀ (ps : List Pkt) (last : Int), valGo last ps = 0 ∨ valGo last ps = 2 ∨ valGo last ps = 7
  | [], _ => .inl rfl
  | p :: ps, last => by
    simp only [valGo]
    split
    · simp
    · split
      · simp
      · exact valGo_vals ps p.time
/-- what a valid trace is -/
structure Ok (ps : List Pkt) : Prop where
  len : ps.length ≤ 60
  each : ∀ p ∈ ps, ¬ BadP p
  sorted : ps.Pairwise fun a b => a.time ≤ b.time
theorem valGo_ok : ∀ (ps : List Pkt) (last : Int), valGo last ps = 0 ↔ (∀ p ∈ ps, ¬ BadP p) ∧ ps.Pairwise (fun a b => a.time ≤ b.time) ∧ ∀ p ∈ ps, last ≤ p.time
  | [], last => by simp [valGo]
  | p :: ps, last => by
    simp only [valGo]
    by_cases hb : BadP p
    · simp [hb]
    · by_cases ht : p.time < last
      · rw [if_neg hb, if_pos ht]
        exact ⟨fun h => absurd h (by decide), fun h => (by have := h.2.2 p (by simp); omega)⟩
      · rw [if_neg hb, if_neg ht, valGo_ok ps p.time]
        simp only [List.mem_cons, forall_eq_or_imp, List.pairwise_cons]
        constructor
        · rintro ⟨h1, h2, h3⟩
          exact ⟨⟨hb, h1⟩, ⟨h3, h2⟩, by omega, fun q hq => by have := h3 q hq; omega⟩
        · rintro ⟨⟨_, h1⟩, ⟨h3, h2⟩, _, _⟩
          exact ⟨h1, h2, h3⟩
theorem validate_ok (ps : List Pkt) : validate ps = 0 ↔ Ok ps := by
  unfold validate
  split
  · constructor
    · intro h; simp at h
    · intro h; have := h.len; omega
  · rename_i hl
    rw [valGo_ok]
    constructor
    · rintro ⟨h1, h2, _⟩; exact ⟨by omega, h1, h2⟩
    · rintro ⟨_, h1, h2⟩
      exact ⟨h1, h2, fun p hp => by have := h1 p hp; unfold BadP at this; omega⟩

def hit (flow t : Int) (p : Pkt) : Prop := p.time < t ∧ -1 ≤ flow ∧ (flow = -1 ∨ p.flow = flow)
instance (flow t : Int) (p : Pkt) : Decidable (hit flow t p) := by unfold hit; infer_instance
/-- the pbytes of a flow before a tick -/
def pbytes (flow t : Int) : List Pkt → Int
  | [] => 0
  | p :: ps => (if hit flow t p then p.size else 0) + pbytes flow t ps
theorem pbytes_snoc (flow t : Int) : ∀ (ps : List Pkt) (p : Pkt), pbytes flow t (ps ++ [p]) = pbytes flow t ps + (if hit flow t p then p.size else 0)
  | [], p => by simp [pbytes]
  | q :: ps, p => by simp only [List.cons_append, pbytes, pbytes_snoc flow t ps p]; omega
theorem pbytes_bound (flow t : Int) : ∀ (ps : List Pkt), (∀ p ∈ ps, 0 ≤ p.size ∧ p.size ≤ 1000000) → 0 ≤ pbytes flow t ps ∧ pbytes flow t ps ≤ 1000000 * ps.length
  | [], _ => by simp [pbytes]
  | p :: ps, h => by
    have h1 := h p (by simp)
    have h2 := pbytes_bound flow t ps (fun q hq => h q (by simp [hq]))
    simp only [pbytes, List.length_cons]
    split <;> omega
theorem take_nth {α : Type} [Inhabited α] {xs : List α} {k : Nat} (h : k < xs.length) : xs.take (k + 1) = xs.take k ++ [nth xs k] := by
  rw [List.take_succ_eq_append_getElem h, nth_eq h]
theorem nth_mem {α : Type} [Inhabited α] {xs : List α} {k : Nat} (h : k < xs.length) : nth xs k ∈ xs := by
  rw [nth_eq h]; exact List.getElem_mem h
end Go.Proofs.Ytcfnckccmkjjlaa.M
