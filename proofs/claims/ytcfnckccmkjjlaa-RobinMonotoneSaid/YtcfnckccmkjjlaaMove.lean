/- Everything later by some ticks: the law of a run, plain. No condition. -/
import Derived.Test.YtcfnckccmkjjlaaTraf
namespace Go.Proofs.Ytcfnckccmkjjlaa.M
open Go Go.Proofs.Ytcfnckccmkjjlaa.K

def shP (n : Nat) (p : Pkt) : Pkt := { p with time := p.time + n }
def shD (n : Nat) (d : Int) : Int := if d < 0 then -1 else d + n
structure Sh (n : Nat) (s s' : RS Unit) : Prop where
  cur : s'.cur = s.cur
  rest : s'.rest = s.rest
  done : s'.done = s.done.map (shD n)
  sent : s'.sent = s.sent.map (fun l => List.replicate n 0 ++ l)
  begun : s'.ms.begun = s.ms.begun
  before : s'.ms.before = s.ms.before
  neg : s.cur < 0 → s.cur = -1
/-- within a tick -/
structure ShT (n : Nat) (s s' : RS Unit) : Prop extends Sh n s s' where
  now : s'.ms.now = s.ms.now + n
  left : s'.ms.left = s.ms.left
section
variable {ps : List Pkt} {n : Nat} {s s' : RS Unit}
theorem firstR_shift {ms ms' : MS} (h1 : ms'.begun = ms.begun) (h2 : ms'.before = ms.before) (h3 : ms'.now = ms.now + n) : firstR (ps.map (shP n)) ms' = firstR ps ms := by
  unfold firstR
  rw [h1, h2, h3]
  dsimp only
  rw [List.length_map]
  by_cases h : skipTo ms.begun ms.before < ps.length
  · rw [nth_map_lt _ h]
    have : ((shP n (nth ps (skipTo ms.begun ms.before))).time ≤ ms.now + n) ↔ ((nth ps (skipTo ms.begun ms.before)).time ≤ ms.now) := by unfold shP; dsimp only; omega
    simp only [this]
  · rw [if_neg (by omega), if_neg (by omega)]
theorem ShT.pickup (h : ShT n s s') : ShT n (pickup ps (fifo ps) s) (pickup (ps.map (shP n)) (fifo (ps.map (shP n))) s') := by
  unfold M.pickup
  rw [h.cur]
  by_cases hc : 0 ≤ s.cur
  · rw [if_pos hc, if_pos hc]; exact h
  · rw [if_neg hc, if_neg hc]
    have hf : (fifo (ps.map (shP n)) s'.ms s'.sg) = (firstR ps s.ms, skipTo s.ms.begun s.ms.before, ()) := by
      unfold fifo; rw [firstR_shift h.begun h.before h.now, h.begun, h.before]
    have hf2 : fifo ps s.ms s.sg = (firstR ps s.ms, skipTo s.ms.begun s.ms.before, ()) := rfl
    rw [hf, hf2]
    dsimp only
    have hlt := firstR_lt ps s.ms
    by_cases hr : firstR ps s.ms < 0
    · rw [if_pos hr, if_pos hr]
      exact ⟨⟨rfl, h.rest, h.done, h.sent, h.begun, rfl, fun h0 => by dsimp only at h0 ⊢; omega⟩, h.now, h.left⟩
    · rw [if_neg hr, if_neg hr]
      have hi : (firstR ps s.ms).toNat < ps.length := by omega
      exact ⟨⟨rfl, by dsimp only; rw [nth_map_lt _ hi]; rfl, h.done, h.sent, by dsimp only; rw [h.begun], rfl, fun h0 => by dsimp only at h0 ⊢; omega⟩, h.now, h.left⟩
theorem nth_rep {l : List Int} {j : Nat} : nth (List.replicate n 0 ++ l) (j + n) = nth l j := by
  unfold nth List.getD
  rw [List.getElem?_append_right (by simp)]
  simp
theorem set_rep {l : List Int} {j : Nat} {x : Int} : (List.replicate n 0 ++ l).set (j + n) x = List.replicate n 0 ++ l.set j x := by
  rw [List.set_append_right _ _ (by simp)]
  simp
theorem ShT.send {t : Nat} (h : ShT n s s') (hc : 0 ≤ s.cur) (hi : s.cur.toNat < ps.length) : ShT n (send ps t s) (send (ps.map (shP n)) (t + n) s') := by
  unfold M.send
  rw [h.left, h.rest, h.cur, nth_map_lt _ hi]
  have hfl : (shP n (nth ps s.cur.toNat)).flow = (nth ps s.cur.toNat).flow := rfl
  rw [hfl, h.done, h.sent]
  generalize (if s.ms.left < s.rest then s.ms.left else s.rest) = k
  generalize (nth ps s.cur.toNat).flow.toNat = f
  refine ⟨⟨rfl, rfl, ?_, ?_, h.begun, h.before, ?_⟩, h.now, rfl⟩
  · dsimp only
    split
    · have e : shD n (t : Int) = ((t + n : Nat) : Int) := by unfold shD; rw [if_neg (by omega)]; omega
      rw [List.map_set, e]
    · rfl
  · dsimp only
    by_cases hf : f < s.sent.length
    · rw [nth_map_lt _ hf, List.map_set, show t + n + 1 = (t + 1) + n by omega, nth_rep, set_rep]
    · rw [List.set_eq_of_length_le (by simpa using hf), List.set_eq_of_length_le (by omega)]
  · dsimp only
    split
    · intro _; rfl
    · exact h.neg
theorem ShT.inner (hs : ∀ p ∈ ps, 1 ≤ p.size) {t : Nat} : ∀ (j : Nat) (s s' : RS Unit), ShT n s s' → (0 ≤ s.cur → s.cur.toNat < ps.length) →
    ShT n (inner ps (fifo ps) t j s) (inner (ps.map (shP n)) (fifo (ps.map (shP n))) (t + n) j s') ∧ (0 ≤ (inner ps (fifo ps) t j s).cur → (inner ps (fifo ps) t j s).cur.toNat < ps.length)
  | 0, s, s', h, hi => ⟨h, hi⟩
  | j + 1, s, s', h, hi => by
    simp only [M.inner]
    rw [h.left]
    by_cases h0 : s.ms.left ≤ 0
    · rw [if_pos h0, if_pos h0]; exact ⟨h, hi⟩
    · rw [if_neg h0, if_neg h0]
      have hp := h.pickup (ps := ps)
      have hpi : 0 ≤ (M.pickup ps (fifo ps) s).cur → (M.pickup ps (fifo ps) s).cur.toNat < ps.length := by
        unfold M.pickup
        split
        · exact hi
        · dsimp only
          have := (firstR_lt ps s.ms).1
          split
          · intro h9; dsimp only [fifo] at h9 ⊢; omega
          · intro h9; dsimp only [fifo] at h9 ⊢; omega
      rw [hp.cur]
      by_cases hc : (M.pickup ps (fifo ps) s).cur < 0
      · rw [if_pos hc, if_pos hc]; exact ⟨hp, hpi⟩
      · rw [if_neg hc, if_neg hc]
        refine ShT.inner hs j _ _ (hp.send (by omega) (hpi (by omega))) ?_
        unfold M.send
        generalize (if (M.pickup ps (fifo ps) s).ms.left < (M.pickup ps (fifo ps) s).rest then (M.pickup ps (fifo ps) s).ms.left else (M.pickup ps (fifo ps) s).rest) = kk
        dsimp only
        split
        · intro h9; omega
        · exact hpi
theorem Sh.ticks (hs : ∀ p ∈ ps, 1 ≤ p.size) {c : Int} : ∀ (m t : Nat) (s s' : RS Unit), Sh n s s' → (0 ≤ s.cur → s.cur.toNat < ps.length) →
    Sh n (ticksFrom ps (fifo ps) c t m s) (ticksFrom (ps.map (shP n)) (fifo (ps.map (shP n))) c (t + n) m s')
  | 0, t, s, s', h, hi => h
  | m + 1, t, s, s', h, hi => by
    have h1 : ShT n { s with ms := { s.ms with now := t, left := c }, sent := s.sent.map fun l => l ++ [nth l t] } { s' with ms := { s'.ms with now := ((t + n : Nat) : Int), left := c }, sent := s'.sent.map fun l => l ++ [nth l (t + n)] } := by
      refine ⟨⟨h.cur, h.rest, h.done, ?_, h.begun, h.before, h.neg⟩, by dsimp only; omega, rfl⟩
      dsimp only
      rw [h.sent, List.map_map, List.map_map]
      apply List.map_congr_left
      intro l _
      simp only [Function.comp_apply, nth_rep, List.append_assoc]
    obtain ⟨h2, h3⟩ := ShT.inner hs (t := t) c.toNat _ _ h1 hi
    have := Sh.ticks hs (c := c) m (t + 1) _ _ h2.toSh h3
    rw [show t + 1 + n = t + n + 1 by omega] at this
    exact this
end

/-- nothing has come -/
structure Idle (len classes j : Nat) (s : RS Unit) : Prop where
  cur : s.cur = -1
  rest : s.rest = 0
  done : s.done = List.replicate len (-1)
  sent : s.sent = List.replicate classes (List.replicate (j + 1) 0)
  begun : s.ms.begun = List.replicate len false
  before : s.ms.before = 0
theorem skip_idle (len : Nat) : skipTo (List.replicate len false) 0 = 0 := by
  cases len with
  | zero => rfl
  | succ k => exact skipTo_false (by simp) (by rw [nth_replicate (by omega)])
theorem idle_tick {qs : List Pkt} {classes j : Nat} {c : Int} {s : RS Unit} (hc : 1 ≤ c) (hq : ∀ q ∈ qs, (j : Int) < q.time) (h : Idle qs.length classes j s) : Idle qs.length classes (j + 1) (tick qs (fifo qs) c j s) := by
  unfold tick
  obtain ⟨k, hk⟩ : ∃ k, c.toNat = k + 1 := ⟨c.toNat - 1, by omega⟩
  rw [hk]
  simp only [inner]
  rw [if_neg (by omega)]
  have hf : firstR qs { s.ms with now := (j : Int), left := c } = -1 := by
    unfold firstR
    dsimp only
    rw [h.begun, h.before, skip_idle]
    rw [if_neg]
    rintro ⟨h1, h2⟩
    have := hq _ (nth_mem h1)
    omega
  have hp : pickup qs (fifo qs) { s with ms := { s.ms with now := (j : Int), left := c }, sent := s.sent.map fun l => l ++ [nth l j] } = { s with cur := -1, ms := { s.ms with now := (j : Int), left := c, before := skipTo s.ms.begun s.ms.before }, sent := s.sent.map fun l => l ++ [nth l j], sg := () } := by
    unfold pickup
    rw [if_neg (by rw [h.cur]; omega)]
    simp only [fifo, hf]
    rfl
  rw [hp, if_pos (by dsimp only; omega)]
  refine ⟨rfl, h.rest, h.done, ?_, h.begun, ?_⟩
  · dsimp only
    rw [h.sent, List.map_replicate]
    congr 1
    rw [nth_replicate (by omega), ← List.replicate_succ']
  · dsimp only
    rw [h.begun, h.before, skip_idle]
theorem idle_ticks {qs : List Pkt} {classes : Nat} {c : Int} (hc : 1 ≤ c) : ∀ (j : Nat), (∀ q ∈ qs, (j : Int) ≤ q.time) → Idle qs.length classes j (ticksFrom qs (fifo qs) c 0 j (start qs classes ()))
  | 0, _ => ⟨rfl, rfl, rfl, by simp [ticksFrom, start], rfl, rfl⟩
  | j + 1, hq => by
    rw [ticksFrom_snoc, Nat.zero_add]
    exact idle_tick hc (fun q h => by have := hq q h; omega) (idle_ticks hc j (fun q h => by have := hq q h; omega))
theorem ticksFrom_add {σ : Type} (ps : List Pkt) (ch : MS → σ → Int × Nat × σ) (cap : Int) : ∀ (a b t : Nat) (s : RS σ), ticksFrom ps ch cap t (a + b) s = ticksFrom ps ch cap (t + a) b (ticksFrom ps ch cap t a s)
  | 0, b, t, s => by simp [ticksFrom]
  | a + 1, b, t, s => by
    rw [show a + 1 + b = (a + b) + 1 by omega]
    simp only [ticksFrom]
    rw [ticksFrom_add ps ch cap a b (t + 1), show t + 1 + a = t + (a + 1) by omega]
theorem inner_range {σ : Type} (ps : List Pkt) (ch : MS → σ → Int × Nat × σ) {t : Nat} : ∀ (j : Nat) (s : RS σ), (∀ d ∈ s.done, -1 ≤ d ∧ d < (t : Int) + 1) → ∀ d ∈ (inner ps ch t j s).done, -1 ≤ d ∧ d < (t : Int) + 1
  | 0, s, h => h
  | j + 1, s, h => by
    simp only [inner]
    split
    · exact h
    · have hp : ∀ d ∈ (pickup ps ch s).done, -1 ≤ d ∧ d < (t : Int) + 1 := by rw [(pickup_same ps ch s).2.2.2]; exact h
      split
      · exact hp
      · refine inner_range ps ch j _ ?_
        unfold send
        generalize (if (pickup ps ch s).ms.left < (pickup ps ch s).rest then (pickup ps ch s).ms.left else (pickup ps ch s).rest) = kk
        dsimp only
        split
        · exact all_set (p := fun d => -1 ≤ d ∧ d < (t : Int) + 1) hp ⟨by omega, by omega⟩
        · exact hp
theorem ticks_range {σ : Type} (ps : List Pkt) (ch : MS → σ → Int × Nat × σ) (c : Int) : ∀ (m t : Nat) (s : RS σ), (∀ d ∈ s.done, -1 ≤ d ∧ d < (t : Int)) → ∀ d ∈ (ticksFrom ps ch c t m s).done, -1 ≤ d ∧ d < ((t + m : Nat) : Int)
  | 0, t, s, h => h
  | m + 1, t, s, h => by
    have := ticks_range ps ch c m (t + 1) (tick ps ch c t s) (by
      have := inner_range ps ch (t := t) c.toNat { s with ms := { s.ms with now := t, left := c }, sent := s.sent.map fun l => l ++ [nth l t] } (fun d hd => by have := h d hd; omega)
      intro d hd
      have := this d hd
      omega)
    intro d hd
    have := this d hd
    omega
theorem done_range {σ : Type} (ps : List Pkt) (ch : MS → σ → Int × Nat × σ) (c : Int) (classes m : Nat) (sg : σ) : ∀ d ∈ (mrun ps ch c classes m sg).done, -1 ≤ d ∧ d < (m : Int) := by
  have := ticks_range ps ch c m 0 (start ps classes sg) (fun d hd => by
    have := List.eq_of_mem_replicate hd
    subst this; omega)
  rw [Nat.zero_add] at this
  exact this
theorem shift_ok {ps : List Pkt} (hp : Ok ps) {n : Nat} (ht : ∀ p ∈ ps, p.time + n ≤ 2000) : Ok (ps.map (shP n)) := by
  refine ⟨by simpa using hp.len, fun p hq => ?_, ?_⟩
  · obtain ⟨q, h1, rfl⟩ := List.mem_map.1 hq
    have h2 := hp.at h1
    have h3 := ht q h1
    unfold BadP shP; dsimp only; omega
  · rw [List.pairwise_map]
    exact hp.sorted.imp (fun {a b} h => by unfold shP; dsimp only; omega)
theorem move_run {ps : List Pkt} (hs : ∀ p ∈ ps, 1 ≤ p.size ∧ 0 ≤ p.time) {c : Int} (hc : 1 ≤ c) (classes m n : Nat) :
    Sh n (mrun ps (fifo ps) c classes m ()) (mrun (ps.map (shP n)) (fifo (ps.map (shP n))) c classes (n + m) ()) := by
  have hi := idle_ticks (qs := ps.map (shP n)) (classes := classes) hc n (fun q hq => by
    obtain ⟨p, h1, rfl⟩ := List.mem_map.1 hq
    have := (hs p h1).2
    unfold shP; dsimp only; omega)
  unfold mrun
  rw [ticksFrom_add, Nat.zero_add]
  have := Sh.ticks (ps := ps) (n := n) (fun p hp => (hs p hp).1) (c := c) m 0 (start ps classes ()) _ ⟨hi.cur, hi.rest, by rw [hi.done]; simp [start, shD], by rw [hi.sent]; simp [start, List.replicate_succ'], by rw [hi.begun]; simp [start], hi.before, fun _ => rfl⟩ (fun h => by simp [start] at h)
  rwa [Nat.zero_add] at this
end Go.Proofs.Ytcfnckccmkjjlaa.M
namespace Go.Proofs.Ytcfnckccmkjjlaa.K
open Go Go.RowKit
/-- rows become immutable; they lie within their room -/
theorem Mem.rowsCap {w0 w : World} {R : Ro} {e : TypeId} {G : List Ent} {rows : List M.Sl} (hm : Mem w0 w R (rows.map (M.rowE e) ++ G)) : ∀ r ∈ rows, r.xs.length ≤ r.cap := by
  intro r hr
  obtain ⟨_, _, h⟩ := own_sl hm (List.mem_append_left _ (List.mem_map_of_mem hr) : M.rowE e r ∈ _)
  rcases h with ⟨_, h2, _⟩ | ⟨g, cur, _, _, _, hn, _⟩
  · have : r.xs.length = 0 := by simpa using congrArg List.length h2
    omega
  · simpa using hn
theorem WL.freezeRowsC {P : Program} {ops rest : List Oper} {Q : Exit → Act → World → Prop} {n : Nat} {env : Env} {w0 : World} {R : Ro} {E : List Ent} {e : TypeId} {G : List Ent} {rows : List M.Sl} (hE : E = rows.map (M.rowE e) ++ G)
    (h : ∀ R', RLe R R' → (∀ r ∈ rows, RS R' 1 encI r.a r.xs) → (∀ r ∈ rows, r.xs.length ≤ r.cap) → WG false P ops Q rest n env w0 R' G) : WG false P ops Q rest n env w0 R E := by
  subst hE
  intro a w hk hm
  obtain ⟨R', h1, h2, h3⟩ := Mem.freezeRows hm
  exact h R' h1 h2 (Mem.rowsCap hm) a w hk h3
end Go.Proofs.Ytcfnckccmkjjlaa.K
