/- Rules and walks, joined from 29 texts: the first of them says: A machine that is never idle, plain: what all classes together are sent, and in which order packets end, whatever the choice. No condition. -/
import Derived.Test.YthpblaoehlgpfaaGreatG1
/- A machine that is never idle, plain: what all classes together are sent, and in which order packets end, whatever the choice. No condition. -/
namespace Go.Proofs.YthpblaoehlgpfaaGreat.M
open Go Go.Proofs.YthpblaoehlgpfaaGreat.K

/-- all classes together -/
def colSum : List (List Int) → Nat → Int
  | [], _ => 0
  | l :: ls, t => nth l t + colSum ls t
/-- the bytes of the packets that have been begun -/
def begB : List Pkt → List Bool → Int
  | p :: ps, b :: bs => (if b then p.size else 0) + begB ps bs
  | _, _ => 0
theorem colSum_set : ∀ (sent : List (List Int)) (f : Nat) (l : List Int) (t : Nat), f < sent.length → colSum (sent.set f l) t = colSum sent t - nth (nth sent f) t + nth l t
 | [], f, l, t, h => by simp at h
 | x :: xs, 0, l, t, h => by simp [colSum, nth]; omega
 | x :: xs, f + 1, l, t, h => by
  have := colSum_set xs f l t (by simpa using h)
  simp only [List.set_cons_succ, colSum, this]
  rw [show nth (x :: xs) (f + 1) = nth xs f from rfl]; omega
theorem colSum_map {g : List Int → List Int} {t u : Nat} : ∀ (sent : List (List Int)), (∀ l ∈ sent, nth (g l) t = nth l u) → colSum (sent.map g) t = colSum sent u
 | [], _ => rfl
 | x :: xs, h => by
  simp only [List.map_cons, colSum]
  rw [h x (by simp), colSum_map xs (fun l hl => h l (by simp [hl]))]
theorem begB_set : ∀ (ps : List Pkt) (bs : List Bool) (i : Nat), i < ps.length → i < bs.length → nth bs i = false → begB ps (bs.set i true) = begB ps bs + (nth ps i).size
 | [], _, i, h, _, _ => by simp at h
 | _ :: _, [], i, _, h, _ => by simp at h
 | p :: ps, b :: bs, 0, _, _, hb => by
  have : b = false := hb
  subst this
  simp [begB, nth]; omega
 | p :: ps, b :: bs, i + 1, h1, h2, hb => by
  have := begB_set ps bs i (by simpa using h1) (by simpa using h2) hb
  simp only [List.set_cons_succ, begB, this]
  rw [show nth (p :: ps) (i + 1) = nth ps i from rfl]; omega
theorem begB_le {t : Int} : ∀ (ps : List Pkt) (bs : List Bool), bs.length = ps.length → (∀ p ∈ ps, 0 ≤ p.size) → (∀ i, i < ps.length → nth bs i = true → (nth ps i).time ≤ t) → begB ps bs ≤ pbytes (-1) (t + 1) ps
 | [], [], _, _, _ => by simp [begB, pbytes]
 | [], _ :: _, h, _, _ => by simp at h
 | _ :: _, [], h, _, _ => by simp at h
 | p :: ps, b :: bs, hl, hs, h => by
  have ih := begB_le ps bs (by simpa using hl) (fun q hq => hs q (by simp [hq])) (fun i hi hb => h (i + 1) (by simpa using hi) hb)
  have hp := hs p (by simp)
  simp only [begB, pbytes]
  have h0 : b = true → hit (-1) (t + 1) p := fun hb => by have := h 0 (by simp) hb; simp [nth] at this; unfold hit; omega
  cases b with
  | true => rw [if_pos rfl, if_pos (h0 rfl)]; omega
  | false => simp only [Bool.false_eq_true, if_false]; split <;> omega
theorem begB_eq {t : Int} : ∀ (ps : List Pkt) (bs : List Bool), bs.length = ps.length → (∀ i, i < ps.length → (nth bs i = true ↔ (nth ps i).time ≤ t)) → begB ps bs = pbytes (-1) (t + 1) ps
 | [], [], _, _ => by simp [begB, pbytes]
 | [], _ :: _, h, _ => by simp at h
 | _ :: _, [], h, _ => by simp at h
 | p :: ps, b :: bs, hl, h => by
  have ih := begB_eq ps bs (by simpa using hl) (fun i hi => h (i + 1) (by simpa using hi))
  simp only [begB, pbytes]
  have h0 := h 0 (by simp)
  simp [nth] at h0
  have h1 : b = true ↔ hit (-1) (t + 1) p := by rw [h0]; unfold hit; omega
  by_cases hb : b = true
  ·rw [if_pos hb, if_pos (h1.1 hb)]; omega
  ·rw [if_neg hb, if_neg (fun h => hb (h1.2 h))]; omega
theorem begB_none : ∀ (ps : List Pkt) (n : Nat), begB ps (List.replicate n false) = 0
 | [], _ => by simp [begB]
 | _ :: _, 0 => by simp [begB]
 | p :: ps, n + 1 => by simp [List.replicate_succ, begB, begB_none ps n]

/-- a choice of what waits; within rel the first -/
structure Fair {σ : Type} (ps : List Pkt) (ch : MS → σ → Int × Nat × σ) (good : MS → σ → Prop) (rel : Nat → Nat → Prop) : Prop extends Good ps ch good where
  waits : ∀ ms sg, good ms sg → ms.begun.length = ps.length → 0 ≤ (ch ms sg).1 → nth ms.begun (ch ms sg).1.toNat = false ∧ (nth ps (ch ms sg).1.toNat).time ≤ ms.now
  ord : ∀ ms sg, good ms sg → ms.begun.length = ps.length → 0 ≤ (ch ms sg).1 → ∀ i, i < (ch ms sg).1.toNat → rel i (ch ms sg).1.toNat → nth ms.begun i = true
/-- never idle while something waits -/
def Busy {σ : Type} (ps : List Pkt) (ch : MS → σ → Int × Nat × σ) (good : MS → σ → Prop) : Prop :=
  ∀ ms sg, good ms sg → ms.begun.length = ps.length → (ch ms sg).1 < 0 → ∀ i, i < ps.length → (nth ps i).time ≤ ms.now → nth ms.begun i = true

/-- what stays true: col is the column of the sums that is open -/
structure Wk {σ : Type} (ps : List Pkt) (classes : Nat) (good : MS → σ → Prop) (rel : Nat → Nat → Prop) (col : Nat) (s : RS σ) : Prop where
  good : good s.ms s.sg
  dlen : s.done.length = ps.length
  blen : s.ms.begun.length = ps.length
  slen : s.sent.length = classes
  rlen : ∀ l ∈ s.sent, l.length = col + 1
  cur : 0 ≤ s.cur → s.cur < ps.length ∧ nth s.ms.begun s.cur.toNat = true ∧ 1 ≤ s.rest
  open_ : ∀ i, i < ps.length → (nth s.ms.begun i = false ∨ s.cur = i) → nth s.done i = -1
  shut : ∀ i, i < ps.length → nth s.ms.begun i = true → s.cur ≠ i → 0 ≤ nth s.done i ∧ nth s.done i ≤ s.ms.now ∧ (nth ps i).time ≤ nth s.done i
  time : ∀ i, i < ps.length → nth s.ms.begun i = true → (nth ps i).time ≤ s.ms.now
  ord : ∀ k, k < ps.length → nth s.ms.begun k = true → ∀ i, i < k → rel i k → nth s.ms.begun i = true
  dord : ∀ k, k < ps.length → 0 ≤ nth s.done k → ∀ i, i < k → rel i k → 0 ≤ nth s.done i ∧ nth s.done i ≤ nth s.done k
  sum : colSum s.sent col = begB ps s.ms.begun - (if 0 ≤ s.cur then s.rest else 0)
section
variable {σ : Type} {ps : List Pkt} {ch : MS → σ → Int × Nat × σ} {good : MS → σ → Prop} {rel : Nat → Nat → Prop} {classes col : Nat} {s : RS σ}
theorem Wk.pickup (hg : Fair ps ch good rel) (hs : ∀ p ∈ ps, 1 ≤ p.size) (h : Wk ps classes good rel col s) : Wk ps classes good rel col (pickup ps ch s) := by
 unfold M.pickup
 by_cases hc : 0 ≤ s.cur
 ·rw [if_pos hc]; exact h
 ·rw [if_neg hc]
  by_cases hr : (ch s.ms s.sg).1 < 0
  ·simp only [hr, if_true]
   exact ⟨hg.none _ _ h.good h.blen hr, h.dlen, h.blen, h.slen, h.rlen, fun h0 => by dsimp only at h0; omega, fun i hi ho => h.open_ i hi (by rcases ho with ho | ho; exact .inl ho; dsimp only at ho; omega),
    fun i hi hb hne => h.shut i hi hb (by omega), h.time, h.ord, h.dord, by dsimp only; rw [h.sum, if_neg hc, if_neg (by omega)]⟩
  ·simp only [hr, if_false]
   have hi := hg.idx _ _ h.good h.blen (by omega)
   obtain ⟨w1, w2⟩ := hg.waits _ _ h.good h.blen (by omega)
   have w3 := hg.ord _ _ h.good h.blen (by omega)
   have hgs := hg.some _ _ h.good h.blen (by omega)
   generalize hj : (ch s.ms s.sg).1 = j at hr hi w1 w2 w3 hgs ⊢
   have hjn : j.toNat < ps.length := by omega
   have hbs : ∀ i, nth (s.ms.begun.set j.toNat true) i = true ↔ i = j.toNat ∨ nth s.ms.begun i = true := fun i => by
    by_cases e : j.toNat = i
    ·subst e; rw [nth_set_self (by rw [h.blen]; exact hjn)]; simp
    ·rw [nth_set_ne e]; constructor
     ·exact .inr
     ·rintro (e2 | h2)
      ·exact absurd e2.symm e
      ·exact h2
   refine ⟨hgs, h.dlen, by simp [h.blen], h.slen, h.rlen, fun _ => ⟨hi, (hbs _).2 (.inl rfl), hs _ (nth_mem hjn)⟩, fun i hi' ho => ?_, fun i hi' hb hne => ?_, fun i hi' hb => ?_, fun k hk hb i hik hr' => ?_, h.dord, ?_⟩
   ·dsimp only at ho ⊢
    apply h.open_ i hi'
    left
    rcases ho with ho | ho
    ·cases hb : nth s.ms.begun i with
     | false => rfl
     | true => rw [(hbs i).2 (.inr hb)] at ho; cases ho
    ·rw [show i = j.toNat by omega]; exact w1
   ·dsimp only at hb hne ⊢
    rcases (hbs i).1 hb with e | hb
    ·omega
    ·exact h.shut i hi' hb (by omega)
   ·dsimp only at hb ⊢
    rcases (hbs i).1 hb with e | hb
    ·subst e; exact w2
    ·exact h.time i hi' hb
   ·dsimp only at hb ⊢
    refine (hbs i).2 (.inr ?_)
    rcases (hbs k).1 hb with e | hb
    ·subst e; exact w3 i hik hr'
    ·exact h.ord k hk hb i hik hr'
   ·dsimp only
    rw [h.sum, begB_set _ _ _ hjn (by rw [h.blen]; exact hjn) w1, if_neg hc, if_pos (by omega)]; omega
theorem Wk.send (hfl : ∀ p ∈ ps, 0 ≤ p.flow ∧ p.flow < classes) (hfree : ∀ ms sg n l, good ms sg → good { ms with now := n, left := l } sg) {t : Nat} (h : Wk ps classes good rel (t + 1) s) (hnow : s.ms.now = t) (hc : 0 ≤ s.cur) (hl : 0 < s.ms.left) :
  Wk ps classes good rel (t + 1) (send ps t s) ∧ colSum (send ps t s).sent (t + 1) = colSum s.sent (t + 1) + (s.ms.left - (send ps t s).ms.left) ∧ 0 ≤ (send ps t s).ms.left ∧ (send ps t s).ms.left < s.ms.left ∧ (send ps t s).ms.now = s.ms.now ∧
   ∀ c u, c < classes → u < t + 1 → nth (nth (send ps t s).sent c) u = nth (nth s.sent c) u := by
 obtain ⟨c1, c2, c3⟩ := h.cur hc
 have hfl' := hfl _ (nth_mem (show s.cur.toNat < ps.length by omega))
 have hn : 1 ≤ (if s.ms.left < s.rest then s.ms.left else s.rest) ∧ (if s.ms.left < s.rest then s.ms.left else s.rest) ≤ s.rest ∧ (if s.ms.left < s.rest then s.ms.left else s.rest) ≤ s.ms.left := by split <;> omega
 unfold M.send
 generalize (if s.ms.left < s.rest then s.ms.left else s.rest) = n at hn ⊢
 have hf : (nth ps s.cur.toNat).flow.toNat < s.sent.length := by rw [h.slen]; omega
 generalize (nth ps s.cur.toNat).flow.toNat = f at hf ⊢
 have hrow := h.rlen _ (nth_mem hf)
 have hcol : colSum (s.sent.set f ((nth s.sent f).set (t + 1) (nth (nth s.sent f) (t + 1) + n))) (t + 1) = colSum s.sent (t + 1) + n := by
  rw [colSum_set _ _ _ _ hf, nth_set_self (by omega)]; omega
 have hsum := h.sum
 rw [if_pos hc] at hsum
 dsimp only
 refine ⟨⟨hfree _ _ s.ms.now _ h.good, ?_, h.blen, by simp [h.slen], ?_, ?_, ?_, ?_, h.time, h.ord, ?_, ?_⟩, by rw [hcol]; omega, by omega, by omega, rfl, ?_⟩
 ·dsimp only; split <;> simp [h.dlen]
 ·dsimp only
  intro l hl'
  rcases List.mem_or_eq_of_mem_set hl' with h1 | rfl
  ·exact h.rlen l h1
  ·simp [hrow]
 ·dsimp only
  intro h0
  by_cases hz : s.rest - n = 0
  ·rw [if_pos hz] at h0; omega
  ·rw [if_neg hz]; exact ⟨c1, c2, by omega⟩
 ·dsimp only
  intro i hi ho
  by_cases hz : s.rest - n = 0
  ·rw [if_pos hz] at ho ⊢
   rcases ho with ho | ho
   ·by_cases e : s.cur.toNat = i
    ·rw [e, ho] at c2; cases c2
    ·rw [nth_set_ne e]; exact h.open_ i hi (.inl ho)
   ·omega
  ·rw [if_neg hz] at ho ⊢; exact h.open_ i hi ho
 ·dsimp only
  intro i hi hb hne
  by_cases hz : s.rest - n = 0
  ·rw [if_pos hz] at hne ⊢
   by_cases e : s.cur.toNat = i
   ·subst e
    rw [nth_set_self (by rw [h.dlen]; omega)]
    have := h.time _ hi hb
    omega
   ·rw [nth_set_ne e]; exact h.shut i hi hb (by omega)
  ·rw [if_neg hz] at hne ⊢; exact h.shut i hi hb hne
 ·dsimp only
  by_cases hz : s.rest - n = 0
  ·rw [if_pos hz]
   intro k hk hd i hik hr
   by_cases e : s.cur.toNat = k
   ·subst e
    rw [nth_set_self (by rw [h.dlen]; omega), nth_set_ne (by omega)]
    have := h.shut i (by omega) (h.ord _ hk c2 i hik hr) (by omega)
    omega
   ·rw [nth_set_ne e] at hd ⊢
    have h1 := h.dord k hk hd i hik hr
    by_cases e2 : s.cur.toNat = i
    ·have := h.open_ i (by omega) (.inr (by omega))
     omega
    ·rw [nth_set_ne e2]; exact h1
  ·rw [if_neg hz]; exact h.dord
 ·dsimp only
  rw [hcol, hsum]
  by_cases hz : s.rest - n = 0
  ·rw [if_pos hz, if_neg (by omega)]; omega
  ·rw [if_neg hz, if_pos hc]; omega
 ·intro c u hc' hu
  by_cases e : f = c
  ·subst e; rw [nth_set_self hf, nth_set_ne (by omega)]
  ·rw [nth_set_ne e]

/-- the end of a tick: all bytes are gone, or nothing waits -/
theorem Wk.inner (hg : Fair ps ch good rel) (hs : ∀ p ∈ ps, 1 ≤ p.size) (hfl : ∀ p ∈ ps, 0 ≤ p.flow ∧ p.flow < classes) {t : Nat} : ∀ (j : Nat) (s : RS σ), Wk ps classes good rel (t + 1) s → s.ms.now = t → 0 ≤ s.ms.left → s.ms.left ≤ j →
  ∃ s', inner ps ch t j s = s' ∧ Wk ps classes good rel (t + 1) s' ∧ s'.ms.now = t ∧ 0 ≤ s'.ms.left ∧ colSum s'.sent (t + 1) = colSum s.sent (t + 1) + (s.ms.left - s'.ms.left) ∧
   (s'.ms.left = 0 ∨ s'.cur < 0 ∧ (Busy ps ch good → ∀ i, i < ps.length → (nth ps i).time ≤ (t : Int) → nth s'.ms.begun i = true)) ∧ ∀ c u, c < classes → u < t + 1 → nth (nth s'.sent c) u = nth (nth s.sent c) u
 | 0, s, h, hn, h0, hj => ⟨s, rfl, h, hn, h0, by omega, .inl (by omega), fun _ _ _ _ => rfl⟩
 | j + 1, s, h, hn, h0, hj => by
  simp only [M.inner]
  by_cases hl : s.ms.left ≤ 0
  ·rw [if_pos hl]
   exact ⟨s, rfl, h, hn, h0, by omega, .inl (by omega), fun _ _ _ _ => rfl⟩
  ·rw [if_neg hl]
   have hp := h.pickup hg hs
   obtain ⟨e1, e2, e3, e4⟩ := pickup_same ps ch s
   by_cases hc : (M.pickup ps ch s).cur < 0
   ·rw [if_pos hc]
    refine ⟨_, rfl, hp, by rw [e2]; exact hn, by rw [e1]; exact h0, by rw [e1, e3]; omega, .inr ⟨hc, fun hb => ?_⟩, fun c u _ _ => by rw [e3]⟩
    intro i hi ht
    unfold M.pickup at hc ⊢
    by_cases hc0 : 0 ≤ s.cur
    ·rw [if_pos hc0] at hc; omega
    ·rw [if_neg hc0] at hc ⊢
     by_cases hr : (ch s.ms s.sg).1 < 0
     ·simp only [hr, if_true]
      exact hb _ _ h.good h.blen hr i hi (by omega)
     ·simp only [hr, if_false] at hc
   ·rw [if_neg hc]
    obtain ⟨g1, g2, g3, g4, g5, g6⟩ := hp.send hfl hg.free (by rw [e2]; exact hn) (by omega) (by rw [e1]; omega)
    obtain ⟨s', k1, k2, k3, k4, k5, k6, k7⟩ := Wk.inner hg hs hfl j _ g1 (by rw [g5, e2]; exact hn) g3 (by omega)
    refine ⟨s', k1, k2, k3, k4, ?_, k6, fun c u hc' hu => by rw [k7 c u hc' hu, g6 c u hc' hu, e3]⟩
    rw [k5, g2, e1, e3]; omega
theorem Wk.tick (hg : Fair ps ch good rel) (hs : ∀ p ∈ ps, 1 ≤ p.size) (hfl : ∀ p ∈ ps, 0 ≤ p.flow ∧ p.flow < classes) {t : Nat} {cap : Int} (hcap : 0 ≤ cap) (h : Wk ps classes good rel t s) (hnow : s.ms.now ≤ t) :
  Wk ps classes good rel (t + 1) (tick ps ch cap t s) ∧ (tick ps ch cap t s).ms.now = t ∧ (∀ c u, c < classes → u < t + 1 → nth (nth (tick ps ch cap t s).sent c) u = nth (nth s.sent c) u) ∧
   (Busy ps ch good → colSum (tick ps ch cap t s).sent (t + 1) = min (colSum s.sent t + cap) (pbytes (-1) ((t : Int) + 1) ps)) := by
 have hrow : ∀ l ∈ s.sent, nth (l ++ [nth l t]) (t + 1) = nth l t := fun l hl => by
  have := h.rlen l hl
  unfold nth List.getD
  rw [List.getElem?_append_right (by omega), this]; simp
 have hcol : colSum (s.sent.map fun l => l ++ [nth l t]) (t + 1) = colSum s.sent t := colSum_map _ hrow
 have h1 : Wk ps classes good rel (t + 1) { s with ms := { s.ms with now := t, left := cap }, sent := s.sent.map fun l => l ++ [nth l t] } := by
  refine ⟨hg.free _ _ _ _ h.good, h.dlen, h.blen, by simp [h.slen], fun l hl => ?_, h.cur, h.open_, fun i hi hb hne => ?_, fun i hi hb => ?_, h.ord, h.dord, by dsimp only; rw [hcol]; exact h.sum⟩
  ·obtain ⟨l', h2, rfl⟩ := List.mem_map.1 hl
   simp [h.rlen l' h2]
  ·have := h.shut i hi hb hne
   dsimp only; omega
  ·have := h.time i hi hb
   dsimp only; omega
 obtain ⟨s', k1, k2, k3, k4, k5, k6, k7⟩ := Wk.inner hg hs hfl (t := t) cap.toNat _ h1 rfl hcap (by dsimp only; omega)
 unfold M.tick
 rw [k1]
 refine ⟨k2, k3, fun c u hc hu => ?_, fun hb => ?_⟩
 ·rw [k7 c u hc hu]
  dsimp only
  rw [nth_map_lt _ (by rw [h.slen]; exact hc)]
  unfold nth List.getD
  rw [List.getElem?_append_left]
  have := h.rlen _ (nth_mem (xs := s.sent) (k := c) (by rw [h.slen]; exact hc))
  unfold nth List.getD at this
  rw [this]; exact hu
 ·dsimp only at k5
  rw [hcol] at k5
  have hle := begB_le (t := (t : Int)) ps s'.ms.begun k2.blen (fun p hp => by have := hs p hp; omega) (fun i hi hb' => by have := k2.time i hi hb'; omega)
  have hsum := k2.sum
  rcases k6 with h0 | ⟨hc, hall⟩
  ·have hrest : 0 ≤ (if 0 ≤ s'.cur then s'.rest else 0) := by
    split
    ·rename_i hc; have := (k2.cur hc).2.2; omega
    ·omega
   rw [k5, h0]; omega
  ·rw [if_neg (by omega)] at hsum
   have heq := begB_eq (t := (t : Int)) ps s'.ms.begun k2.blen (fun i hi => ⟨fun hb' => by have := k2.time i hi hb'; omega, hall hb i hi⟩)
   rw [hsum, heq] at k5 ⊢
   omega
theorem Wk.start {sg : σ} (hg : good (start ps classes sg).ms sg) : Wk ps classes good rel 0 (start ps classes sg) := by
 refine ⟨hg, by simp [M.start], by simp [M.start], by simp [M.start], fun l hl => ?_, fun h => by simp [M.start] at h, fun i hi _ => by simp only [M.start]; rw [nth_replicate hi], fun i hi hb => ?_, fun i hi hb => ?_, fun k hk hb => ?_, fun k hk hd => ?_, ?_⟩
 ·have : l = [0] := List.eq_of_mem_replicate hl
  simp [this]
 ·simp only [M.start] at hb; rw [nth_replicate hi] at hb; cases hb
 ·simp only [M.start] at hb; rw [nth_replicate hi] at hb; cases hb
 ·simp only [M.start] at hb; rw [nth_replicate hk] at hb; cases hb
 ·simp only [M.start] at hd; rw [nth_replicate hk] at hd; omega
 ·show colSum (List.replicate classes [0]) 0 = begB ps (List.replicate ps.length false) - 0
  rw [begB_none]
  clear hg
  induction classes with
  | zero => rfl
  | succ n ih => rw [List.replicate_succ, colSum, ih]; rfl
/-- the sums of all classes, by ticks -/
def wsum (cap : Int) (ps : List Pkt) : Nat → Int
  | 0 => 0
  | t + 1 => min (wsum cap ps t + cap) (pbytes (-1) ((t : Int) + 1) ps)
end
/-! ### first in, first out -/
/-- all before 'before' have been begun -/
def goodB (ps : List Pkt) (ms : MS) : Prop := ms.before ≤ ps.length ∧ ∀ i, i < ms.before → nth ms.begun i = true
theorem skipTo_begun {l : List Bool} : ∀ {b i : Nat}, b ≤ i → i < skipTo l b → nth l i = true := by
 intro b i hb hi
 unfold skipTo at hi
 have key : ∀ (r : List Bool) (j : Nat), j < (r.takeWhile id).length → nth r j = true := by
  intro r
  induction r with
  | nil => intro j h; simp at h
  | cons x r ih =>
   intro j h
   cases x with
   | false => simp at h
   | true =>
    cases j with
    | zero => rfl
    | succ j => exact ih j (by simpa using h)
 have := key (l.drop b) (i - b) (by omega)
 unfold nth List.getD at this ⊢
 rw [List.getElem?_drop, show b + (i - b) = i by omega] at this
 exact this
theorem takeWhile_stop' : ∀ (l : List Bool), (l.takeWhile id).length < l.length → nth l (l.takeWhile id).length = false
 | [], h => by simp at h
 | false :: l, h => by simp [nth]
 | true :: l, h => by
  simp only [List.takeWhile_cons, id, if_true, List.length_cons] at h ⊢
  have := takeWhile_stop' l (by omega)
  simpa [nth, List.getD] using this
theorem skipTo_stop' {l : List Bool} {b : Nat} (h : skipTo l b < l.length) : nth l (skipTo l b) = false := by
 unfold skipTo at h ⊢
 have := takeWhile_stop' (l.drop b) (by rw [List.length_drop]; omega)
 unfold nth List.getD at this ⊢
 rw [List.getElem?_drop] at this
 exact this
theorem goodB.skip {ps : List Pkt} {ms : MS} (h : goodB ps ms) (hl : ms.begun.length = ps.length) : skipTo ms.begun ms.before ≤ ps.length ∧ ∀ i, i < skipTo ms.begun ms.before → nth ms.begun i = true := by
 refine ⟨by rw [← hl]; exact skipTo_le (by rw [hl]; exact h.1), fun i hi => ?_⟩
 by_cases h1 : i < ms.before
 ·exact h.2 i h1
 ·exact skipTo_begun (by omega) hi
/-- First: what it says -/
theorem firstR_some {ps : List Pkt} {ms : MS} (h : goodB ps ms) (hl : ms.begun.length = ps.length) (h0 : 0 ≤ firstR ps ms) :
  (firstR ps ms).toNat < ps.length ∧ nth ms.begun (firstR ps ms).toNat = false ∧ (nth ps (firstR ps ms).toNat).time ≤ ms.now ∧ ∀ i, i < (firstR ps ms).toNat → nth ms.begun i = true := by
 have hs := h.skip hl
 unfold firstR at h0 ⊢
 dsimp only at h0 ⊢
 split at h0
 ·rename_i hh
  rw [if_pos hh]
  simp only [Int.toNat_natCast]
  exact ⟨hh.1, skipTo_stop' (by rw [hl]; exact hh.1), hh.2, hs.2⟩
 ·omega
def goodFB (ps : List Pkt) (ms : MS) (_ : Unit) : Prop := goodB ps ms
/-! ### what a line guarantees -/
/-- bytes that have arrived, tick by tick -/
def cumL (flow : Int) (ps : List Pkt) (n : Nat) : List Int := (List.range n).map fun (t : Nat) => pbytes flow (t : Int) ps
/-- the sums of all classes -/
def totL (sent : List (List Int)) (n : Nat) : List Int := (List.range n).map fun (t : Nat) => colSum sent t
theorem range_map_snoc {α : Type} (f : Nat → α) (n : Nat) : (List.range (n + 1)).map f = (List.range n).map f ++ [f n] := by rw [List.range_succ]; simp
theorem range_map_nth {α : Type} [Inhabited α] (f : Nat → α) {n i : Nat} (h : i < n) : nth ((List.range n).map f) i = f i := by
 rw [nth_eq (by simpa using h)]; simp
def oneP (p : Pkt) : Pkt := { p with flow := 0 }
/-- a curve's value, as the references have it -/
def atR (xs : List Int) (per inc t : Int) : Int :=
  if t < 0 ∨ ((xs.length : Int) ≤ t ∧ (per < 1 ∨ (xs.length : Int) < per)) then -1
  else if t < xs.length then nth xs t.toNat
  else if nth xs (t - ((t - xs.length) / per + 1) * per).toNat = 4611686018427387904 then 4611686018427387904
  else nth xs (t - ((t - xs.length) / per + 1) * per).toNat + ((t - xs.length) / per + 1) * inc
def dval (d : Int) : Int := if d < 0 then 1000 else d
end Go.Proofs.YthpblaoehlgpfaaGreat.M

/- The references' line, plain; and that it does what the machine does, whatever the choice. No condition. -/
namespace Go.Proofs.YthpblaoehlgpfaaGreat.M
open Go Go.Proofs.YthpblaoehlgpfaaGreat.K

/-- the first number from a place on of which something is said -/
def findFrom (P : Nat → Bool) : Nat → Nat → Int
  | 0, _ => -1
  | k + 1, i => if P i then i else findFrom P k (i + 1)
def findN (P : Nat → Bool) (n : Nat) : Int := findFrom P n 0
theorem findFrom_cases (P : Nat → Bool) : ∀ (k a : Nat), (∃ i, a ≤ i ∧ i < a + k ∧ findFrom P k a = i ∧ P i = true ∧ ∀ j, a ≤ j → j < i → P j = false) ∨ (findFrom P k a = -1 ∧ ∀ j, a ≤ j → j < a + k → P j = false)
 | 0, a => .inr ⟨rfl, fun j h1 h2 => by omega⟩
 | k + 1, a => by
  simp only [findFrom]
  cases hp : P a with
  | true =>
   left
   exact ⟨a, Nat.le_refl _, by omega, by simp, hp, fun j h1 h2 => by omega⟩
  | false =>
   rcases findFrom_cases P k (a + 1) with ⟨i, h1, h2, h3, h4, h5⟩ | ⟨h1, h2⟩
   ·left
    refine ⟨i, by omega, by omega, by simpa using h3, h4, fun j h6 h7 => ?_⟩
    by_cases e : j = a
    ·subst e; exact hp
    ·exact h5 j (by omega) h7
   ·right
    refine ⟨by simpa using h1, fun j h6 h7 => ?_⟩
    by_cases e : j = a
    ·subst e; exact hp
    ·exact h2 j (by omega) (by omega)
theorem findN_cases (P : Nat → Bool) (n : Nat) : (∃ i, i < n ∧ findN P n = i ∧ P i = true ∧ ∀ j, j < i → P j = false) ∨ (findN P n = -1 ∧ ∀ j, j < n → P j = false) := by
 rcases findFrom_cases P n 0 with ⟨i, h1, h2, h3, h4, h5⟩ | ⟨h1, h2⟩
 ·exact .inl ⟨i, by omega, h3, h4, fun j hj => h5 j (by omega) hj⟩
 ·exact .inr ⟨h1, fun j hj => h2 j (by omega) (by omega)⟩
theorem findN_some {P : Nat → Bool} {n i : Nat} (hi : i < n) (hP : P i = true) (h : ∀ j, j < i → P j = false) : findN P n = i := by
 rcases findN_cases P n with ⟨k, h1, h2, h3, h4⟩ | ⟨h1, h2⟩
 ·rcases Nat.lt_trichotomy i k with h5 | h5 | h5
  ·rw [h4 i h5] at hP; cases hP
  ·subst h5; exact h2
  ·rw [h k h5] at h3; cases h3
 ·rw [h2 i hi] at hP; cases hP
theorem findN_none {P : Nat → Bool} {n : Nat} (h : ∀ j, j < n → P j = false) : findN P n = -1 := by
 rcases findN_cases P n with ⟨k, h1, h2, h3, h4⟩ | ⟨h1, h2⟩
 ·rw [h k h1] at h3; cases h3
 ·exact h1

/-- the state of a reference's line -/
structure St where
  time : Nat
  given : List Int
  now : Int
  done : List Int
  sent : List (List Int)
def waits (ps : List Pkt) (st : St) (i : Nat) : Bool := decide ((nth ps i).time ≤ (st.time : Int)) && (nth st.given i == 0) && (st.now != (i : Int))
def firstW (ps : List Pkt) (st : St) (cls : Int) : Int := findN (fun i => (cls == -1 || (nth ps i).flow == cls) && waits ps st i) ps.length
def rbegin (st : St) : St := { st with sent := st.sent.map fun l => l ++ [nth l (l.length - 1)] }
def rsendN (ps : List Pkt) (most : Int) (st : St) : Int :=
  if (nth ps st.now.toNat).size - nth st.given st.now.toNat < most then (nth ps st.now.toNat).size - nth st.given st.now.toNat else most
def rsend (ps : List Pkt) (most : Int) (st : St) : St :=
  let i := st.now.toNat
  let n := rsendN ps most st
  let f := (nth ps i).flow.toNat
  let l := nth st.sent f
  let g := nth st.given i + n
  { st with given := st.given.set i g, sent := st.sent.set f (l.set (l.length - 1) (nth l (l.length - 1) + n)),
            done := if g = (nth ps i).size then st.done.set i st.time else st.done, now := if g = (nth ps i).size then -1 else st.now }
section
variable {τ : Type} (ps : List Pkt) (rc : St → τ → Int × τ)
def rpick (st : St) (g : τ) : Int × τ := if st.now = -1 then rc st g else (st.now, g)
def rinner : Nat → Int → St → τ → St × τ
  | 0, _, st, g => (st, g)
  | k + 1, left, st, g =>
    if left ≤ 0 then (st, g) else
      let r := rpick rc st g
      let st1 := { st with now := r.1 }
      if r.1 = -1 then (st1, r.2) else rinner k (left - rsendN ps left st1) (rsend ps left st1) r.2
def rtick (cap : Int) (st : St) (g : τ) : St × τ :=
  let x := rinner ps rc cap.toNat cap (rbegin st) g
  ({ x.1 with time := x.1.time + 1 }, x.2)
def rticks (cap : Int) : Nat → St → τ → St × τ
  | 0, st, g => (st, g)
  | k + 1, st, g => rticks cap k (rtick ps rc cap st g).1 (rtick ps rc cap st g).2
def rstart (classes : Nat) : St := { time := 0, given := List.replicate ps.length 0, now := -1, done := List.replicate ps.length (-1), sent := List.replicate classes [0] }
def rrun (cap : Int) (classes ticks : Nat) (g : τ) : St := (rticks ps rc cap ticks (rstart ps classes) g).1
end

structure Sm {σ : Type} (ps : List Pkt) (s : RS σ) (st : St) : Prop where
  glen : st.given.length = ps.length
  now : st.now = if s.cur < 0 then -1 else s.cur
  giv : ∀ i, i < ps.length → nth st.given i = if s.cur = i then (nth ps i).size - s.rest else if nth s.ms.begun i = true then (nth ps i).size else 0
  done : st.done = s.done
  sent : st.sent = s.sent
section
variable {σ τ : Type} {ps : List Pkt} {ch : MS → σ → Int × Nat × σ} {good : MS → σ → Prop} {rel : Nat → Nat → Prop} {classes col : Nat} {s : RS σ} {st : St} {g : τ} {rc : St → τ → Int × τ} {ρ : σ → τ → Prop}
theorem Sm.waits (h : Sm ps s st) (hw : Wk ps classes good rel col s) (hs : ∀ p ∈ ps, 1 ≤ p.size) (ht : (st.time : Int) = s.ms.now) {i : Nat} (hi : i < ps.length) : waits ps st i = (decide ((nth ps i).time ≤ s.ms.now) && !nth s.ms.begun i) := by
 have hz := hs _ (nth_mem hi)
 unfold M.waits
 rw [ht, h.giv i hi, h.now]
 by_cases hc : s.cur = i
 ·have := (hw.cur (by omega)).2.1
  rw [hc] at this
  simp only [Int.toNat_natCast] at this
  have e : ((if s.cur < 0 then -1 else s.cur) != (i : Int)) = false := by rw [if_neg (show ¬ s.cur < 0 by omega)]; simp [hc]
  rw [e, this]
  simp
 ·rw [if_neg hc]
  have hne : ((if s.cur < 0 then -1 else s.cur) != (i : Int)) = true := by
   split
   ·simp
   ·simpa using hc
  rw [hne]
  cases hb : nth s.ms.begun i with
  | true =>
   have : ((nth ps i).size == 0) = false := by simp; omega
   simp [this]
  | false => simp
/-- what a reference's choice must do beside that of the program -/
def Alike {σ τ : Type} (ps : List Pkt) (ch : MS → σ → Int × Nat × σ) (good : MS → σ → Prop) (rc : St → τ → Int × τ) (ρ : σ → τ → Prop) : Prop :=
  ∀ (ms : MS) (sg : σ) (st : St) (g : τ), good ms sg → ms.begun.length = ps.length → ρ sg g → (st.time : Int) = ms.now → st.now = -1 → (∀ i, i < ps.length → waits ps st i = (decide ((nth ps i).time ≤ ms.now) && !nth ms.begun i)) →
    (rc st g).1 = (if (ch ms sg).1 < 0 then -1 else (ch ms sg).1) ∧ ρ (ch ms sg).2.2 (rc st g).2
theorem Sm.pickup (hg : Fair ps ch good rel) (hs : ∀ p ∈ ps, 1 ≤ p.size) (hal : Alike ps ch good rc ρ) (h : Sm ps s st) (hw : Wk ps classes good rel col s) (hr : ρ s.sg g) (ht : (st.time : Int) = s.ms.now) :
  Sm ps (pickup ps ch s) { st with now := (rpick rc st g).1 } ∧ ρ (pickup ps ch s).sg (rpick rc st g).2 ∧ (rpick rc st g).1 = (if (pickup ps ch s).cur < 0 then -1 else (pickup ps ch s).cur) := by
 unfold M.pickup rpick
 have hnow := h.now
 by_cases hc : 0 ≤ s.cur
 ·rw [if_pos hc]
  rw [if_neg (show ¬ s.cur < 0 by omega)] at hnow
  rw [if_neg (by omega)]
  refine ⟨⟨h.glen, ?_, h.giv, h.done, h.sent⟩, hr, ?_⟩
  ·dsimp only; rw [if_neg (by omega)]; exact hnow
  ·dsimp only; rw [if_neg (by omega)]; exact hnow
 ·rw [if_neg hc]
  rw [if_pos (show s.cur < 0 by omega)] at hnow
  rw [if_pos hnow]
  obtain ⟨a1, a2⟩ := hal s.ms s.sg st g hw.good hw.blen hr ht hnow (fun i hi => h.waits hw hs ht hi)
  by_cases hr' : (ch s.ms s.sg).1 < 0
  ·simp only [hr', if_true] at a1 ⊢
   refine ⟨⟨h.glen, by dsimp only; rw [if_pos hr', a1], fun i hi => ?_, h.done, h.sent⟩, a2, a1⟩
   dsimp only
   rw [h.giv i hi, if_neg (show ¬ s.cur = (i : Int) by omega), if_neg (show ¬ (ch s.ms s.sg).1 = (i : Int) by omega)]
  ·simp only [hr', if_false] at a1 ⊢
   have hi' := hg.idx _ _ hw.good hw.blen (by omega)
   have hwt := hg.waits _ _ hw.good hw.blen (by omega)
   refine ⟨⟨h.glen, by dsimp only; rw [if_neg hr', a1], fun i hi => ?_, h.done, h.sent⟩, a2, a1⟩
   dsimp only
   rw [h.giv i hi, if_neg (show ¬ s.cur = i by omega)]
   by_cases e : (ch s.ms s.sg).1 = i
   ·rw [if_pos e]
    rw [e] at hwt ⊢
    simp only [Int.toNat_natCast] at hwt ⊢
    rw [hwt.1]; simp
   ·rw [if_neg e, nth_set_ne (by omega)]
theorem Sm.send {t : Nat} (h : Sm ps s st) (hw : Wk ps classes good rel (t + 1) s) (hfl : ∀ p ∈ ps, 0 ≤ p.flow ∧ p.flow < classes) (ht : (st.time : Int) = (t : Int)) (hc : 0 ≤ s.cur) :
  Sm ps (send ps t s) (rsend ps s.ms.left st) ∧ s.ms.left - rsendN ps s.ms.left st = (send ps t s).ms.left := by
 obtain ⟨c1, c2, c3⟩ := hw.cur hc
 have hi : s.cur.toNat < ps.length := by omega
 have hnow : st.now = s.cur := by rw [h.now, if_neg (by omega)]
 have hgiv : nth st.given s.cur.toNat = (nth ps s.cur.toNat).size - s.rest := by rw [h.giv _ hi, if_pos (by omega)]
 have hf : (nth ps s.cur.toNat).flow.toNat < s.sent.length := by rw [hw.slen]; have := hfl _ (nth_mem hi); omega
 have hrow := hw.rlen _ (nth_mem hf)
 have hn : rsendN ps s.ms.left st = if s.ms.left < s.rest then s.ms.left else s.rest := by
  unfold rsendN
  rw [hnow, hgiv]
  split <;> split <;> omega
 unfold rsend M.send
 rw [hn]
 generalize (if s.ms.left < s.rest then s.ms.left else s.rest) = n
 dsimp only
 rw [hnow, hgiv, h.sent]
 have hl : (nth s.sent (nth ps s.cur.toNat).flow.toNat).length - 1 = t + 1 := by omega
 rw [hl]
 have hz : ((nth ps s.cur.toNat).size - s.rest + n = (nth ps s.cur.toNat).size) ↔ s.rest - n = 0 := by omega
 refine ⟨⟨by simp [h.glen], ?_, fun i hi2 => ?_, ?_, rfl⟩, rfl⟩
 ·dsimp only
  by_cases e : s.rest - n = 0
  ·rw [if_pos (hz.2 e), if_pos e]; rfl
  ·rw [if_neg (fun h => e (hz.1 h)), if_neg e, if_neg (by omega)]
 ·dsimp only
  by_cases e2 : s.cur.toNat = i
  ·subst e2
   rw [nth_set_self (by rw [h.glen]; exact hi), c2]
   by_cases e : s.rest - n = 0
   ·rw [if_pos e, if_neg (by omega), if_pos rfl]; omega
   ·rw [if_neg e, if_pos (by omega)]; omega
  ·rw [nth_set_ne e2, h.giv i hi2, if_neg (show ¬ s.cur = (i : Int) by omega)]
   by_cases e : s.rest - n = 0
   ·rw [if_pos e, if_neg (show ¬ (-1 : Int) = (i : Int) by omega)]
   ·rw [if_neg e, if_neg (show ¬ s.cur = (i : Int) by omega)]
 ·dsimp only
  rw [h.done, ht]
  by_cases e : s.rest - n = 0
  ·rw [if_pos (hz.2 e), if_pos e]
  ·rw [if_neg (fun h => e (hz.1 h)), if_neg e]
theorem Sm.inner (hg : Fair ps ch good rel) (hs : ∀ p ∈ ps, 1 ≤ p.size) (hfl : ∀ p ∈ ps, 0 ≤ p.flow ∧ p.flow < classes) (hal : Alike ps ch good rc ρ) {t : Nat} : ∀ (j : Nat) (s : RS σ) (st : St) (g : τ), Sm ps s st → Wk ps classes good rel (t + 1) s → ρ s.sg g → st.time = t → s.ms.now = t →
  Sm ps (inner ps ch t j s) (rinner ps rc j s.ms.left st g).1 ∧ ρ (inner ps ch t j s).sg (rinner ps rc j s.ms.left st g).2 ∧ (rinner ps rc j s.ms.left st g).1.time = t
 | 0, s, st, g, h, hw, hr, ht, hn => ⟨h, hr, ht⟩
 | j + 1, s, st, g, h, hw, hr, ht, hn => by
  simp only [M.inner, rinner]
  by_cases hl : s.ms.left ≤ 0
  ·rw [if_pos hl, if_pos hl]; exact ⟨h, hr, ht⟩
  ·rw [if_neg hl, if_neg hl]
   obtain ⟨p1, p2, p3⟩ := h.pickup hg hs hal hw hr (by omega)
   have hp := hw.pickup hg hs
   obtain ⟨e1, e2, e3, e4⟩ := pickup_same ps ch s
   by_cases hc : (M.pickup ps ch s).cur < 0
   ·rw [if_pos hc] at p3 ⊢
    rw [if_pos p3]
    exact ⟨p1, p2, ht⟩
   ·rw [if_neg hc] at p3 ⊢
    rw [if_neg (by omega)]
    obtain ⟨q1, q2⟩ := p1.send hp hfl (t := t) (by dsimp only; omega) (by omega)
    obtain ⟨g1, g2, g3, g4, g5, g6⟩ := hp.send hfl hg.free (by rw [e2]; exact hn) (by omega) (by rw [e1]; omega)
    rw [e1] at q1 q2
    rw [q2]
    exact Sm.inner hg hs hfl hal j _ _ _ q1 g1 p2 ht (by rw [g5, e2]; exact hn)
theorem Sm.tick (hg : Fair ps ch good rel) (hs : ∀ p ∈ ps, 1 ≤ p.size) (hfl : ∀ p ∈ ps, 0 ≤ p.flow ∧ p.flow < classes) (hal : Alike ps ch good rc ρ) {t : Nat} {cap : Int} (h : Sm ps s st) (hw : Wk ps classes good rel t s) (hr : ρ s.sg g) (ht : st.time = t) (hnow : s.ms.now ≤ t) :
  Sm ps (tick ps ch cap t s) (rtick ps rc cap st g).1 ∧ ρ (tick ps ch cap t s).sg (rtick ps rc cap st g).2 ∧ (rtick ps rc cap st g).1.time = t + 1 := by
 have h1 : Sm ps { s with ms := { s.ms with now := t, left := cap }, sent := s.sent.map fun l => l ++ [nth l t] } (rbegin st) := by
  refine ⟨h.glen, h.now, h.giv, h.done, ?_⟩
  unfold rbegin
  dsimp only
  rw [h.sent]
  apply List.map_congr_left
  intro l hl
  have := hw.rlen l hl
  rw [show l.length - 1 = t by omega]
 have hrow : ∀ l ∈ s.sent, nth (l ++ [nth l t]) (t + 1) = nth l t := fun l hl => by
  have := hw.rlen l hl
  unfold nth List.getD
  rw [List.getElem?_append_right (by omega), this]; simp
 have h2 : Wk ps classes good rel (t + 1) { s with ms := { s.ms with now := t, left := cap }, sent := s.sent.map fun l => l ++ [nth l t] } := by
  refine ⟨hg.free _ _ _ _ hw.good, hw.dlen, hw.blen, by simp [hw.slen], fun l hl => ?_, hw.cur, hw.open_, fun i hi hb hne => ?_, fun i hi hb => ?_, hw.ord, hw.dord, by dsimp only; rw [colSum_map _ hrow]; exact hw.sum⟩
  ·obtain ⟨l', h2, rfl⟩ := List.mem_map.1 hl
   simp [hw.rlen l' h2]
  ·have := hw.shut i hi hb hne
   dsimp only; omega
  ·have := hw.time i hi hb
   dsimp only; omega
 obtain ⟨k1, k2, k3⟩ := Sm.inner hg hs hfl hal (t := t) cap.toNat _ (rbegin st) g h1 h2 hr ht rfl
 unfold M.tick rtick
 dsimp only at k1 k2 k3 ⊢
 exact ⟨⟨k1.glen, k1.now, k1.giv, k1.done, k1.sent⟩, k2, by omega⟩
end
/-! ### first in, first out -/
def fifoR (ps : List Pkt) (st : St) (_ : Unit) : Int × Unit := (firstW ps st (-1), ())
end Go.Proofs.YthpblaoehlgpfaaGreat.M

/- What stays true in a reference's run, plain. No condition. -/
namespace Go.Proofs.YthpblaoehlgpfaaGreat.M
open Go Go.Proofs.YthpblaoehlgpfaaGreat.K

structure RInv (ps : List Pkt) (classes len : Nat) (B : Int) (st : St) : Prop where
  glen : st.given.length = ps.length
  dlen : st.done.length = ps.length
  slen : st.sent.length = classes
  rows : ∀ l ∈ st.sent, l.length = len ∧ ∀ x ∈ l, 0 ≤ x ∧ x ≤ B
  now : st.now = -1 ∨ (0 ≤ st.now ∧ st.now < ps.length ∧ nth st.given st.now.toNat < (nth ps st.now.toNat).size)
  giv : ∀ i, i < ps.length → 0 ≤ nth st.given i ∧ nth st.given i ≤ (nth ps i).size
section
variable {ps : List Pkt} {classes len : Nat} {B : Int} {st : St}
theorem RInv.mono {B' : Int} (h : RInv ps classes len B st) (hb : B ≤ B') : RInv ps classes len B' st :=
 ⟨h.glen, h.dlen, h.slen, fun l hl => ⟨(h.rows l hl).1, fun x hx => by have := (h.rows l hl).2 x hx; omega⟩, h.now, h.giv⟩
theorem RInv.start (hs : ∀ p ∈ ps, 1 ≤ p.size) : RInv ps classes 1 0 (rstart ps classes) := by
 refine ⟨by simp [rstart], by simp [rstart], by simp [rstart], fun l hl => ?_, .inl rfl, fun i hi => ?_⟩
 ·have : l = [0] := List.eq_of_mem_replicate hl
  subst this
  exact ⟨rfl, fun x hx => by simp at hx; omega⟩
 ·have := hs _ (nth_mem hi)
  simp only [rstart]
  rw [nth_replicate hi]; omega
theorem RInv.begin (h : RInv ps classes len B st) (hl : 0 < len) : RInv ps classes (len + 1) B (rbegin st) := by
 refine ⟨h.glen, h.dlen, by simp [rbegin, h.slen], fun l hl' => ?_, h.now, h.giv⟩
 obtain ⟨l', h1, rfl⟩ := List.mem_map.1 hl'
 have h2 := h.rows l' h1
 refine ⟨by simp [h2.1], fun x hx => ?_⟩
 rcases List.mem_append.1 hx with hx | hx
 ·exact h2.2 x hx
 ·obtain rfl : x = nth l' (l'.length - 1) := by simpa using hx
  exact h2.2 _ (nth_mem (by omega))
theorem RInv.tick (h : RInv ps classes len B st) : RInv ps classes len B { st with time := st.time + 1 } := ⟨h.glen, h.dlen, h.slen, h.rows, h.now, h.giv⟩
/-- a choice of what waits -/
def Waiting {τ : Type} (ps : List Pkt) (rc : St → τ → Int × τ) : Prop := ∀ st g, (rc st g).1 = -1 ∨ (0 ≤ (rc st g).1 ∧ (rc st g).1 < ps.length ∧ waits ps st (rc st g).1.toNat = true)
theorem RInv.pick {τ : Type} {rc : St → τ → Int × τ} {g : τ} (h : RInv ps classes len B st) (hs : ∀ p ∈ ps, 1 ≤ p.size) (hrc : Waiting ps rc) : RInv ps classes len B { st with now := (rpick rc st g).1 } := by
 refine ⟨h.glen, h.dlen, h.slen, h.rows, ?_, h.giv⟩
 unfold rpick
 split
 ·rcases hrc st g with h1 | ⟨h1, h2, h3⟩
  ·exact .inl h1
  ·refine .inr ⟨h1, h2, ?_⟩
   unfold waits at h3
   simp only [Bool.and_eq_true, beq_iff_eq] at h3
   have := hs _ (nth_mem (xs := ps) (k := (rc st g).1.toNat) (by omega))
   dsimp only
   omega
 ·exact h.now
theorem RInv.send (h : RInv ps classes len B st) (hfl : ∀ p ∈ ps, 0 ≤ p.flow ∧ p.flow < classes) (hl : 0 < len) (hn : st.now ≠ -1) {most : Int} (hm : 0 < most) :
  RInv ps classes len (B + rsendN ps most st) (rsend ps most st) ∧ 1 ≤ rsendN ps most st ∧ rsendN ps most st ≤ most := by
 obtain ⟨n1, n2, n3⟩ := h.now.resolve_left hn
 have hi : st.now.toNat < ps.length := by omega
 have hf : (nth ps st.now.toNat).flow.toNat < st.sent.length := by rw [h.slen]; have := hfl _ (nth_mem hi); omega
 have hrow := h.rows _ (nth_mem hf)
 have hg := h.giv _ hi
 have hb : 1 ≤ rsendN ps most st ∧ rsendN ps most st ≤ most ∧ nth st.given st.now.toNat + rsendN ps most st ≤ (nth ps st.now.toNat).size := by unfold rsendN; split <;> omega
 have hlast : 0 ≤ nth (nth st.sent (nth ps st.now.toNat).flow.toNat) ((nth st.sent (nth ps st.now.toNat).flow.toNat).length - 1) ∧ nth (nth st.sent (nth ps st.now.toNat).flow.toNat) ((nth st.sent (nth ps st.now.toNat).flow.toNat).length - 1) ≤ B := hrow.2 _ (nth_mem (by omega))
 refine ⟨?_, hb.1, hb.2.1⟩
 unfold rsend
 generalize rsendN ps most st = n at hb ⊢
 dsimp only
 refine ⟨by simp [h.glen], ?_, by simp [h.slen], fun l hl' => ?_, ?_, fun i hi2 => ?_⟩
 ·dsimp only; split <;> simp [h.dlen]
 ·rcases List.mem_or_eq_of_mem_set hl' with h1 | rfl
  ·have := h.rows l h1
   exact ⟨this.1, fun x hx => by have := this.2 x hx; omega⟩
  ·refine ⟨by simp [hrow.1], fun x hx => ?_⟩
   rcases List.mem_or_eq_of_mem_set hx with h2 | rfl
   ·have := hrow.2 x h2; omega
   ·omega
 ·dsimp only
  by_cases e : nth st.given st.now.toNat + n = (nth ps st.now.toNat).size
  ·rw [if_pos e]; exact .inl rfl
  ·rw [if_neg e]
   refine .inr ⟨n1, n2, ?_⟩
   rw [nth_set_self (by rw [h.glen]; exact hi)]; omega
 ·dsimp only
  by_cases e : st.now.toNat = i
  ·subst e; rw [nth_set_self (by rw [h.glen]; exact hi)]; omega
  ·rw [nth_set_ne e]; exact h.giv i hi2
end
end Go.Proofs.YthpblaoehlgpfaaGreat.M

/- What a reference's line does where its choice looks at what is left of a tick, plain. No condition. -/
namespace Go.Proofs.YthpblaoehlgpfaaGreat.M
open Go Go.Proofs.YthpblaoehlgpfaaGreat.K

section
variable {τ : Type} (ps : List Pkt) (rc : Int → St → τ → Int × τ)
def rpickL (left : Int) (st : St) (g : τ) : Int × τ := if st.now = -1 then rc left st g else (st.now, g)
def rinnerL : Nat → Int → St → τ → St × τ
  | 0, _, st, g => (st, g)
  | k + 1, left, st, g =>
    if left ≤ 0 then (st, g) else
      let r := rpickL rc left st g
      let st1 := { st with now := r.1 }
      if r.1 = -1 then (st1, r.2) else rinnerL k (left - rsendN ps left st1) (rsend ps left st1) r.2
def rtickL (cap : Int) (st : St) (g : τ) : St × τ :=
  let x := rinnerL ps rc cap.toNat cap (rbegin st) g
  ({ x.1 with time := x.1.time + 1 }, x.2)
def rticksL (cap : Int) : Nat → St → τ → St × τ
  | 0, st, g => (st, g)
  | k + 1, st, g => rticksL cap k (rtickL ps rc cap st g).1 (rtickL ps rc cap st g).2
def rrunL (cap : Int) (classes ticks : Nat) (g : τ) : St := (rticksL ps rc cap ticks (rstart ps classes) g).1
end

section
variable {σ τ : Type} {ps : List Pkt} {ch : MS → σ → Int × Nat × σ} {good : MS → σ → Prop} {rel : Nat → Nat → Prop} {classes col : Nat} {s : RS σ} {st : St} {g : τ} {rc : Int → St → τ → Int × τ} {ρ : σ → τ → Prop}
/-- what a reference's choice must do beside that of the program -/
def AlikeL {σ τ : Type} (ps : List Pkt) (ch : MS → σ → Int × Nat × σ) (good : MS → σ → Prop) (rc : Int → St → τ → Int × τ) (ρ : σ → τ → Prop) : Prop :=
  ∀ (ms : MS) (sg : σ) (st : St) (g : τ), good ms sg → ms.begun.length = ps.length → ρ sg g → (st.time : Int) = ms.now → st.now = -1 → (∀ i, i < ps.length → M.waits ps st i = (decide ((nth ps i).time ≤ ms.now) && !nth ms.begun i)) →
    (rc ms.left st g).1 = (if (ch ms sg).1 < 0 then -1 else (ch ms sg).1) ∧ ρ (ch ms sg).2.2 (rc ms.left st g).2
theorem Sm.pickupL (hg : Fair ps ch good rel) (hs : ∀ p ∈ ps, 1 ≤ p.size) (hal : AlikeL ps ch good rc ρ) (h : Sm ps s st) (hw : Wk ps classes good rel col s) (hr : ρ s.sg g) (ht : (st.time : Int) = s.ms.now) :
  Sm ps (M.pickup ps ch s) { st with now := (rpickL rc s.ms.left st g).1 } ∧ ρ (M.pickup ps ch s).sg (rpickL rc s.ms.left st g).2 ∧ (rpickL rc s.ms.left st g).1 = (if (M.pickup ps ch s).cur < 0 then -1 else (M.pickup ps ch s).cur) := by
 unfold M.pickup rpickL
 have hnow := h.now
 by_cases hc : 0 ≤ s.cur
 ·rw [if_pos hc]
  rw [if_neg (show ¬ s.cur < 0 by omega)] at hnow
  rw [if_neg (by omega)]
  refine ⟨⟨h.glen, ?_, h.giv, h.done, h.sent⟩, hr, ?_⟩
  ·dsimp only; rw [if_neg (by omega)]; exact hnow
  ·dsimp only; rw [if_neg (by omega)]; exact hnow
 ·rw [if_neg hc]
  rw [if_pos (show s.cur < 0 by omega)] at hnow
  rw [if_pos hnow]
  obtain ⟨a1, a2⟩ := hal s.ms s.sg st g hw.good hw.blen hr ht hnow (fun i hi => h.waits hw hs ht hi)
  by_cases hr' : (ch s.ms s.sg).1 < 0
  ·simp only [hr', if_true] at a1 ⊢
   refine ⟨⟨h.glen, by dsimp only; rw [if_pos hr', a1], fun i hi => ?_, h.done, h.sent⟩, a2, a1⟩
   dsimp only
   rw [h.giv i hi, if_neg (show ¬ s.cur = (i : Int) by omega), if_neg (show ¬ (ch s.ms s.sg).1 = (i : Int) by omega)]
  ·simp only [hr', if_false] at a1 ⊢
   have hi' := hg.idx _ _ hw.good hw.blen (by omega)
   have hwt := hg.waits _ _ hw.good hw.blen (by omega)
   refine ⟨⟨h.glen, by dsimp only; rw [if_neg hr', a1], fun i hi => ?_, h.done, h.sent⟩, a2, a1⟩
   dsimp only
   rw [h.giv i hi, if_neg (show ¬ s.cur = i by omega)]
   by_cases e : (ch s.ms s.sg).1 = i
   ·rw [if_pos e]
    rw [e] at hwt ⊢
    simp only [Int.toNat_natCast] at hwt ⊢
    rw [hwt.1]; simp
   ·rw [if_neg e, nth_set_ne (by omega)]
theorem Sm.innerL (hg : Fair ps ch good rel) (hs : ∀ p ∈ ps, 1 ≤ p.size) (hfl : ∀ p ∈ ps, 0 ≤ p.flow ∧ p.flow < classes) (hal : AlikeL ps ch good rc ρ) {t : Nat} : ∀ (j : Nat) (s : RS σ) (st : St) (g : τ), Sm ps s st → Wk ps classes good rel (t + 1) s → ρ s.sg g → st.time = t → s.ms.now = t →
  Sm ps (M.inner ps ch t j s) (rinnerL ps rc j s.ms.left st g).1 ∧ ρ (M.inner ps ch t j s).sg (rinnerL ps rc j s.ms.left st g).2 ∧ (rinnerL ps rc j s.ms.left st g).1.time = t
 | 0, s, st, g, h, hw, hr, ht, hn => ⟨h, hr, ht⟩
 | j + 1, s, st, g, h, hw, hr, ht, hn => by
  simp only [M.inner, rinnerL]
  by_cases hl : s.ms.left ≤ 0
  ·rw [if_pos hl, if_pos hl]; exact ⟨h, hr, ht⟩
  ·rw [if_neg hl, if_neg hl]
   obtain ⟨p1, p2, p3⟩ := h.pickupL hg hs hal hw hr (by omega)
   have hp := hw.pickup hg hs
   obtain ⟨e1, e2, e3, e4⟩ := pickup_same ps ch s
   by_cases hc : (M.pickup ps ch s).cur < 0
   ·rw [if_pos hc] at p3 ⊢
    rw [if_pos p3]
    exact ⟨p1, p2, ht⟩
   ·rw [if_neg hc] at p3 ⊢
    rw [if_neg (by omega)]
    obtain ⟨q1, q2⟩ := p1.send hp hfl (t := t) (by dsimp only; omega) (by omega)
    obtain ⟨g1, g2, g3, g4, g5, g6⟩ := hp.send hfl hg.free (by rw [e2]; exact hn) (by omega) (by rw [e1]; omega)
    rw [e1] at q1 q2
    rw [q2]
    exact Sm.innerL hg hs hfl hal j _ _ _ q1 g1 p2 ht (by rw [g5, e2]; exact hn)
theorem Sm.tickL (hg : Fair ps ch good rel) (hs : ∀ p ∈ ps, 1 ≤ p.size) (hfl : ∀ p ∈ ps, 0 ≤ p.flow ∧ p.flow < classes) (hal : AlikeL ps ch good rc ρ) {t : Nat} {cap : Int} (h : Sm ps s st) (hw : Wk ps classes good rel t s) (hr : ρ s.sg g) (ht : st.time = t) (hnow : s.ms.now ≤ t) :
  Sm ps (M.tick ps ch cap t s) (rtickL ps rc cap st g).1 ∧ ρ (M.tick ps ch cap t s).sg (rtickL ps rc cap st g).2 ∧ (rtickL ps rc cap st g).1.time = t + 1 := by
 have h1 : Sm ps { s with ms := { s.ms with now := t, left := cap }, sent := s.sent.map fun l => l ++ [nth l t] } (rbegin st) := by
  refine ⟨h.glen, h.now, h.giv, h.done, ?_⟩
  unfold rbegin
  dsimp only
  rw [h.sent]
  apply List.map_congr_left
  intro l hl
  have := hw.rlen l hl
  rw [show l.length - 1 = t by omega]
 have hrow : ∀ l ∈ s.sent, nth (l ++ [nth l t]) (t + 1) = nth l t := fun l hl => by
  have := hw.rlen l hl
  unfold nth List.getD
  rw [List.getElem?_append_right (by omega), this]; simp
 have h2 : Wk ps classes good rel (t + 1) { s with ms := { s.ms with now := t, left := cap }, sent := s.sent.map fun l => l ++ [nth l t] } := by
  refine ⟨hg.free _ _ _ _ hw.good, hw.dlen, hw.blen, by simp [hw.slen], fun l hl => ?_, hw.cur, hw.open_, fun i hi hb hne => ?_, fun i hi hb => ?_, hw.ord, hw.dord, by dsimp only; rw [colSum_map _ hrow]; exact hw.sum⟩
  ·obtain ⟨l', h2, rfl⟩ := List.mem_map.1 hl
   simp [hw.rlen l' h2]
  ·have := hw.shut i hi hb hne
   dsimp only; omega
  ·have := hw.time i hi hb
   dsimp only; omega
 obtain ⟨k1, k2, k3⟩ := Sm.innerL hg hs hfl hal (t := t) cap.toNat _ (rbegin st) g h1 h2 hr ht rfl
 unfold M.tick rtickL
 dsimp only at k1 k2 k3 ⊢
 exact ⟨⟨k1.glen, k1.now, k1.giv, k1.done, k1.sent⟩, k2, by omega⟩
end
section
variable {ps : List Pkt} {classes len : Nat} {B : Int} {st : St}
/-- a choice of what waits -/
def WaitingL {τ : Type} (ps : List Pkt) (rc : Int → St → τ → Int × τ) : Prop := ∀ l st g, (rc l st g).1 = -1 ∨ (0 ≤ (rc l st g).1 ∧ (rc l st g).1 < ps.length ∧ M.waits ps st (rc l st g).1.toNat = true)
end
end Go.Proofs.YthpblaoehlgpfaaGreat.M

/- What the line answers, plain: errors and runs; queues. No condition. -/
namespace Go.Proofs.YthpblaoehlgpfaaGreat.M
open Go Go.Proofs.YthpblaoehlgpfaaGreat.K

/-- slices of packets, and three numbers, in a slice -/
structure SlP where
  a : Option Addr
  cap : Nat
  xs : List Pkt
instance instSlP : Inhabited SlP := ⟨⟨none, 0, []⟩⟩
def encL (s : SlP) : List Value := [.slice s.a s.xs.length s.cap]
def enc3 (x : Int × Int × Int) : List Value := [.int .i64 x.1, .int .i64 x.2.1, .int .i64 x.2.2]
def enc2 (x : Int × Int) : List Value := [.int .i64 x.1, .int .i64 x.2]
def lrunE (cap classes ticks : Int) (ps : List Pkt) : Int := if validate ps ≠ 0 then validate ps else checkE cap classes ticks ps
def lineOut (cap classes ticks : Int) (ps : List Pkt) : List Int × List (List Int) :=
  if lrunE cap classes ticks ps ≠ 0 then ([], []) else ((mrun ps (fifo ps) cap classes.toNat ticks.toNat ()).done, (mrun ps (fifo ps) cap classes.toNat ticks.toNat ()).sent)
theorem lrunE_ok {cap classes ticks : Int} {ps : List Pkt} (h : lrunE cap classes ticks ps = 0) : Ok ps ∧ validate ps = 0 ∧ checkE cap classes ticks ps = 0 ∧ 1 ≤ cap ∧ cap ≤ 4000 ∧ 1 ≤ classes ∧ classes ≤ 6 ∧ 0 ≤ ticks ∧ ticks ≤ 2000 ∧ (∀ p ∈ ps, 1 ≤ p.size ∧ p.size ≤ 1500) ∧ ∀ p ∈ ps, 0 ≤ p.flow ∧ p.flow < classes := by
 unfold lrunE at h
 split at h
 ·rename_i hv; exact absurd h hv
 ·rename_i hv
  have hv : validate ps = 0 := by omega
  have hok := (validate_ok ps).1 hv
  obtain ⟨h1, h2⟩ := checkE_ok h
  unfold BadC at h1
  refine ⟨hok, hv, h, by omega, by omega, by omega, by omega, by omega, by omega, fun p hp => by have := hok.at hp; omega, fun p hp => by have := hok.at hp; have := h2 p hp; omega⟩
/-! ### queues -/
def selSum (cls t : Int) : Nat → List (List Int) → Int
  | _, [] => 0
  | c, l :: ls => (if (c : Int) ≠ cls ∧ cls ≠ -1 then 0 else nth l t.toNat) + selSum cls t (c + 1) ls
end Go.Proofs.YthpblaoehlgpfaaGreat.M

/- Choices by classes, plain: the first packet of a class that waits; weighted round robin. No condition. -/
namespace Go.Proofs.YthpblaoehlgpfaaGreat.M
open Go Go.Proofs.YthpblaoehlgpfaaGreat.K

/-- the first packet of a class that waits -/
def nextP (ps : List Pkt) (ms : MS) (cls : Int) (i : Nat) : Bool := decide ((nth ps i).time ≤ ms.now) && !nth ms.begun i && (nth ps i).flow == cls
def nextW (ps : List Pkt) (ms : MS) (cls : Int) : Int := findN (nextP ps ms cls) ps.length
theorem nextP_iff {ps : List Pkt} {ms : MS} {cls : Int} {i : Nat} : nextP ps ms cls i = true ↔ (nth ps i).time ≤ ms.now ∧ nth ms.begun i = false ∧ (nth ps i).flow = cls := by
 unfold nextP
 simp only [Bool.and_eq_true, decide_eq_true_eq, Bool.not_eq_true', beq_iff_eq, and_assoc]
theorem nextW_some {ps : List Pkt} {ms : MS} {cls : Int} (hsort : ps.Pairwise fun a b => a.time ≤ b.time) (h0 : 0 ≤ nextW ps ms cls) :
  (nextW ps ms cls).toNat < ps.length ∧ nth ms.begun (nextW ps ms cls).toNat = false ∧ (nth ps (nextW ps ms cls).toNat).time ≤ ms.now ∧ (nth ps (nextW ps ms cls).toNat).flow = cls ∧
   ∀ j, j < (nextW ps ms cls).toNat → (nth ps j).flow = cls → nth ms.begun j = true := by
 unfold nextW at h0 ⊢
 rcases findN_cases (nextP ps ms cls) ps.length with ⟨i, h1, h2, h3, h4⟩ | ⟨h1, _⟩
 ·rw [h2, Int.toNat_natCast]
  obtain ⟨a1, a2, a3⟩ := nextP_iff.1 h3
  refine ⟨h1, a2, a1, a3, fun j hj hf => ?_⟩
  have h5 := h4 j hj
  cases hb : nth ms.begun j with
  | true => rfl
  | false =>
   have ht := List.pairwise_iff_getElem.1 hsort j i (by omega) h1 hj
   rw [← nth_eq (by omega), ← nth_eq h1] at ht
   rw [nextP_iff.2 ⟨by omega, hb, hf⟩] at h5; cases h5
 ·omega
theorem nextW_lt (ps : List Pkt) (ms : MS) (cls : Int) : nextW ps ms cls < ps.length ∧ -1 ≤ nextW ps ms cls := by
 unfold nextW
 rcases findN_cases (nextP ps ms cls) ps.length with ⟨i, h1, h2, _, _⟩ | ⟨h1, _⟩
 ·omega
 ·omega
theorem nextW_none {ps : List Pkt} {ms : MS} {cls : Int} (h0 : nextW ps ms cls < 0) {j : Nat} (hj : j < ps.length) (ht : (nth ps j).time ≤ ms.now) (hf : (nth ps j).flow = cls) : nth ms.begun j = true := by
 unfold nextW at h0
 rcases findN_cases (nextP ps ms cls) ps.length with ⟨i, h1, h2, _, _⟩ | ⟨_, h2⟩
 ·omega
 ·have := h2 j hj
  cases hb : nth ms.begun j with
  | true => rfl
  | false => rw [nextP_iff.2 ⟨ht, hb, hf⟩] at this; cases this
/-- if something waits, something of some class waits -/
theorem next_of_first {ps : List Pkt} {ms : MS} (hgd : goodB ps ms) (hbl : ms.begun.length = ps.length) (h0 : 0 ≤ firstR ps ms) : 0 ≤ nextW ps ms (nth ps (firstR ps ms).toNat).flow ∧ (firstR ps ms).toNat < ps.length := by
 obtain ⟨h1, h2, h3, h4⟩ := firstR_some hgd hbl h0
 refine ⟨?_, h1⟩
 apply Classical.byContradiction
 intro h
 have := nextW_none (ps := ps) (ms := ms) (cls := (nth ps (firstR ps ms).toNat).flow) (by omega) h1 h3 rfl
 rw [h2] at this; cases this

/-! ### weighted round robin -/
def robinGo (nx : Int → Int) (w : List Int) : Nat → Nat → Int → Int × (Nat × Int)
  | 0, c, l => (-1, (c, l))
  | k + 1, c, l => if 0 ≤ nx c ∧ 0 < l then (nx c, (c, l - 1)) else robinGo nx w k ((c + 1) % w.length) (nth w ((c + 1) % w.length))
def robinCh (ps : List Pkt) (w : List Int) (ms : MS) (s : Nat × Int) : Int × Nat × (Nat × Int) :=
  if firstR ps ms < 0 then (-1, skipTo ms.begun ms.before, s)
  else ((robinGo (nextW ps ms) w (w.length + 1) s.1 s.2).1, skipTo ms.begun ms.before, (robinGo (nextW ps ms) w (w.length + 1) s.1 s.2).2)
def robinRc (ps : List Pkt) (w : List Int) (st : St) (g : Nat × Int) : Int × (Nat × Int) :=
  if 0 ≤ firstW ps st (-1) then robinGo (firstW ps st) w (w.length + 1) g.1 g.2 else (-1, g)
/-- within so many steps something is found -/
def Soon (nx : Int → Int) (n k c : Nat) (l : Int) : Prop := ∃ j, j < k ∧ 0 ≤ nx (((c + j) % n : Nat) : Int) ∧ (0 < j ∨ 0 < l)
theorem Soon.step {nx : Int → Int} {w : List Int} {k c : Nat} {l : Int} (hw : ∀ x ∈ w, 1 ≤ x) (hn : 0 < w.length) (hc : c < w.length) (h : Soon nx w.length (k + 1) c l) (hno : ¬ (0 ≤ nx c ∧ 0 < l)) : Soon nx w.length k ((c + 1) % w.length) (nth w ((c + 1) % w.length)) := by
 obtain ⟨j, h1, h2, h3⟩ := h
 have hj : 0 < j := by
  rcases Nat.eq_zero_or_pos j with hj | hj
  ·subst hj
   rw [Nat.add_zero, Nat.mod_eq_of_lt hc] at h2
   exact absurd ⟨h2, by omega⟩ hno
  ·exact hj
 refine ⟨j - 1, by omega, ?_, .inr ?_⟩
 ·rw [Nat.mod_add_mod, show c + 1 + (j - 1) = c + j by omega]; exact h2
 ·have := hw _ (nth_mem (xs := w) (k := (c + 1) % w.length) (Nat.mod_lt _ hn)); omega
theorem robinGo_is {nx : Int → Int} {w : List Int} (hw : ∀ x ∈ w, 1 ≤ x ∧ x ≤ 20) (hn : 0 < w.length) : ∀ (k c : Nat) (l : Int), c < w.length → l ≤ 20 → Soon nx w.length k c l →
  0 ≤ (robinGo nx w k c l).1 ∧ (robinGo nx w k c l).1 = nx (robinGo nx w k c l).2.1 ∧ (robinGo nx w k c l).2.1 < w.length ∧ 0 ≤ (robinGo nx w k c l).2.2 ∧ (robinGo nx w k c l).2.2 ≤ 20
 | 0, c, l, _, _, h => by obtain ⟨j, h1, _⟩ := h; omega
 | k + 1, c, l, hc, hl, h => by
  simp only [robinGo]
  by_cases hy : 0 ≤ nx c ∧ 0 < l
  ·rw [if_pos hy]; exact ⟨hy.1, rfl, hc, by dsimp only; omega, by dsimp only; omega⟩
  ·rw [if_neg hy]
   exact robinGo_is hw hn k _ _ (Nat.mod_lt _ hn) (hw _ (nth_mem (Nat.mod_lt _ hn))).2 (h.step (fun x hx => (hw x hx).1) hn hc hy)
theorem soon_of {nx : Int → Int} {n c d : Nat} {l : Int} (hn : 0 < n) (hc : c < n) (hd : d < n) (h : 0 ≤ nx (d : Int)) : Soon nx n (n + 1) c l := by
 by_cases e : d ≤ c
 ·refine ⟨n - c + d, by omega, ?_, .inl (by omega)⟩
  rw [show c + (n - c + d) = d + n by omega, Nat.add_mod_right, Nat.mod_eq_of_lt hd]; exact h
 ·refine ⟨d - c, by omega, ?_, .inl (by omega)⟩
  rw [show c + (d - c) = d by omega, Nat.mod_eq_of_lt hd]; exact h
def goodRb (ps : List Pkt) (n : Nat) (ms : MS) (s : Nat × Int) : Prop := goodB ps ms ∧ s.1 < n ∧ 0 ≤ s.2 ∧ s.2 ≤ 20
theorem robin_soon {ps : List Pkt} {w : List Int} {ms : MS} {s : Nat × Int} (hn : 0 < w.length) (hfl : ∀ p ∈ ps, 0 ≤ p.flow ∧ p.flow < w.length) (hg : goodRb ps w.length ms s) (hb : ms.begun.length = ps.length) (h0 : ¬ firstR ps ms < 0) :
  Soon (nextW ps ms) w.length (w.length + 1) s.1 s.2 := by
 obtain ⟨h1, h2⟩ := next_of_first hg.1 hb (by omega)
 have hf := hfl _ (nth_mem h2)
 obtain ⟨d, hd⟩ := Int.eq_ofNat_of_zero_le hf.1
 rw [hd] at h1
 exact soon_of hn hg.2.1 (by omega) h1
theorem goodB_skip {ps : List Pkt} {ms : MS} (h : goodB ps ms) (hb : ms.begun.length = ps.length) : goodB ps { ms with before := skipTo ms.begun ms.before } := h.skip hb
theorem goodB_begin {ps : List Pkt} {ms : MS} (h : goodB ps ms) (hb : ms.begun.length = ps.length) (i : Nat) : goodB ps { ms with before := skipTo ms.begun ms.before, begun := ms.begun.set i true } := by
 have hs := h.skip hb
 refine ⟨hs.1, fun j hj => ?_⟩
 dsimp only at hj ⊢
 by_cases e : i = j
 ·subst e; rw [nth_set_self (by omega)]
 ·rw [nth_set_ne e]; exact hs.2 j hj
def sameFlow (ps : List Pkt) (i k : Nat) : Prop := (nth ps i).flow = (nth ps k).flow
theorem robin_fair {ps : List Pkt} {w : List Int} (hw : ∀ x ∈ w, 1 ≤ x ∧ x ≤ 20) (hn : 0 < w.length) (hfl : ∀ p ∈ ps, 0 ≤ p.flow ∧ p.flow < w.length) (hsort : ps.Pairwise fun a b => a.time ≤ b.time) :
  Fair ps (robinCh ps w) (goodRb ps w.length) (sameFlow ps) where
 free := fun _ _ _ _ h => h
 idx := fun ms s hg hb h0 => by
  unfold robinCh at h0 ⊢
  split at h0
  ·dsimp only at h0; omega
  ·rename_i hf
   rw [if_neg hf]
   obtain ⟨h1, h2, _⟩ := robinGo_is hw hn _ _ _ hg.2.1 hg.2.2.2 (robin_soon hn hfl hg hb hf)
   dsimp only
   rw [h2]; exact (nextW_lt _ _ _).1
 some := fun ms s hg hb h0 => by
  unfold robinCh at h0 ⊢
  split at h0
  ·dsimp only at h0; omega
  ·rename_i hf
   rw [if_neg hf]
   obtain ⟨h1, h2, h3, h4, h5⟩ := robinGo_is hw hn _ _ _ hg.2.1 hg.2.2.2 (robin_soon hn hfl hg hb hf)
   exact ⟨goodB_begin hg.1 hb _, h3, h4, h5⟩
 none := fun ms s hg hb h0 => by
  unfold robinCh at h0 ⊢
  split at h0
  ·rename_i hf
   rw [if_pos hf]; exact ⟨goodB_skip hg.1 hb, hg.2⟩
  ·rename_i hf
   obtain ⟨h1, _⟩ := robinGo_is hw hn _ _ _ hg.2.1 hg.2.2.2 (robin_soon hn hfl hg hb hf)
   dsimp only at h0; omega
 waits := fun ms s hg hb h0 => by
  unfold robinCh at h0 ⊢
  split at h0
  ·dsimp only at h0; omega
  ·rename_i hf
   rw [if_neg hf]
   obtain ⟨h1, h2, _⟩ := robinGo_is hw hn _ _ _ hg.2.1 hg.2.2.2 (robin_soon hn hfl hg hb hf)
   dsimp only
   rw [h2] at h1 ⊢
   have := nextW_some hsort h1
   exact ⟨this.2.1, this.2.2.1⟩
 ord := fun ms s hg hb h0 i hi hr => by
  unfold robinCh at h0 hi hr
  split at h0
  ·dsimp only at h0; omega
  ·rename_i hf
   rw [if_neg hf] at hi hr
   obtain ⟨h1, h2, _⟩ := robinGo_is hw hn _ _ _ hg.2.1 hg.2.2.2 (robin_soon hn hfl hg hb hf)
   dsimp only at hi hr
   rw [h2] at h1 hi hr
   have := nextW_some hsort h1
   exact this.2.2.2.2 i hi (by unfold sameFlow at hr; rw [hr]; exact this.2.2.2.1)
theorem robin_start {ps : List Pkt} {w : List Int} (hw : ∀ x ∈ w, 1 ≤ x ∧ x ≤ 20) (hn : 0 < w.length) (classes : Nat) : goodRb ps w.length (start ps classes ((0, nth w 0) : Nat × Int)).ms (0, nth w 0) :=
 ⟨⟨Nat.zero_le _, fun i hi => by simp [start] at hi⟩, hn, by have := hw _ (nth_mem hn); omega, (hw _ (nth_mem hn)).2⟩
/-- weights that are in their range -/
def okW (hi : Int) (w : List Int) : Bool := w.all fun x => decide (1 ≤ x) && decide (x ≤ hi)
theorem okW_iff {hi : Int} {w : List Int} : okW hi w = true ↔ ∀ x ∈ w, 1 ≤ x ∧ x ≤ hi := by
 unfold okW
 simp only [List.all_eq_true, Bool.and_eq_true, decide_eq_true_eq]
def wrunE (hi cap ticks : Int) (w : List Int) (ps : List Pkt) : Int := if lrunE cap w.length ticks ps ≠ 0 then lrunE cap w.length ticks ps else if okW hi w = true then 0 else 2
def outOf {σ : Type} (e : Int) (s : RS σ) : List Int × List (List Int) := if e ≠ 0 then ([], []) else (s.done, s.sent)
theorem wrunE_ok {hi cap ticks : Int} {w : List Int} {ps : List Pkt} (h : wrunE hi cap ticks w ps = 0) : lrunE cap w.length ticks ps = 0 ∧ okW hi w = true := by
 unfold wrunE at h
 split at h
 ·rename_i h1; exact absurd h h1
 ·rename_i h1
  split at h
  ·rename_i h2; exact ⟨by omega, h2⟩
  ·omega
end Go.Proofs.YthpblaoehlgpfaaGreat.M

/- Priorities, plain: the choice of the program and of the reference. No condition. -/
namespace Go.Proofs.YthpblaoehlgpfaaGreat.M
open Go Go.Proofs.YthpblaoehlgpfaaGreat.K

/-- the first class from c on in which something waits -/
def prioFrom (nx : Int → Int) : Nat → Nat → Int
  | 0, _ => -1
  | k + 1, c => if 0 ≤ nx c then nx c else prioFrom nx k (c + 1)
def prioCh (ps : List Pkt) (n : Nat) (ms : MS) (_ : Unit) : Int × Nat × Unit := (prioFrom (nextW ps ms) n 0, skipTo ms.begun ms.before, ())
def prioRc (ps : List Pkt) (n : Nat) (_ : Int) (st : St) (_ : Unit) : Int × Unit := (prioFrom (firstW ps st) n 0, ())
theorem prioFrom_some {nx : Int → Int} : ∀ {k c : Nat}, 0 ≤ prioFrom nx k c → ∃ d : Nat, c ≤ d ∧ d < c + k ∧ prioFrom nx k c = nx d ∧ ∀ j : Nat, c ≤ j → j < d → nx j < 0
 | 0, c, h => by simp [prioFrom] at h
 | k + 1, c, h => by
  simp only [prioFrom] at h ⊢
  by_cases h0 : 0 ≤ nx c
  ·rw [if_pos h0]
   exact ⟨c, Nat.le_refl _, by omega, rfl, fun j h1 h2 => by omega⟩
  ·rw [if_neg h0] at h ⊢
   obtain ⟨d, h1, h2, h3, h4⟩ := prioFrom_some h
   refine ⟨d, by omega, by omega, h3, fun j h5 h6 => ?_⟩
   by_cases e : j = c
   ·subst e; omega
   ·exact h4 j (by omega) h6
section
variable {ps : List Pkt} {n : Nat}
theorem prio_fair (hsort : ps.Pairwise fun a b => a.time ≤ b.time) : Fair ps (prioCh ps n) (fun ms _ => goodB ps ms) (sameFlow ps) where
 free := fun _ _ _ _ h => h
 idx := fun ms s hg hb h0 => by
  obtain ⟨d, _, _, h, _⟩ := prioFrom_some (show 0 ≤ prioFrom (nextW ps ms) n 0 from h0)
  show prioFrom (nextW ps ms) n 0 < _
  rw [h]; exact (nextW_lt _ _ _).1
 some := fun ms s hg hb h0 => goodB_begin hg hb _
 none := fun ms s hg hb h0 => goodB_skip hg hb
 waits := fun ms s hg hb h0 => by
  obtain ⟨d, _, _, h, _⟩ := prioFrom_some (show 0 ≤ prioFrom (nextW ps ms) n 0 from h0)
  have h0 : 0 ≤ prioFrom (nextW ps ms) n 0 := h0
  show nth ms.begun (prioFrom (nextW ps ms) n 0).toNat = false ∧ (nth ps (prioFrom (nextW ps ms) n 0).toNat).time ≤ ms.now
  rw [h] at h0 ⊢
  have := nextW_some hsort h0
  exact ⟨this.2.1, this.2.2.1⟩
 ord := fun ms s hg hb h0 i hi hr => by
  obtain ⟨d, _, _, h, _⟩ := prioFrom_some (show 0 ≤ prioFrom (nextW ps ms) n 0 from h0)
  have h0 : 0 ≤ prioFrom (nextW ps ms) n 0 := h0
  have hi : i < (prioFrom (nextW ps ms) n 0).toNat := hi
  have hr : sameFlow ps i (prioFrom (nextW ps ms) n 0).toNat := hr
  rw [h] at h0 hi hr
  have := nextW_some hsort h0
  exact this.2.2.2.2 i hi (by unfold sameFlow at hr; rw [hr]; exact this.2.2.2.1)
theorem prio_start (classes : Nat) : goodB ps (start ps classes ()).ms := ⟨Nat.zero_le _, fun i hi => by simp [start] at hi⟩
/-- before which packet all have been begun, when so many classes have been looked at -/
def bfN (ms : MS) (c : Nat) : Nat := if c = 0 then ms.before else skipTo ms.begun ms.before
theorem bfN_skip {ms : MS} (hg : goodB ps ms) (hb : ms.begun.length = ps.length) (c : Nat) : skipTo ms.begun (bfN ms c) = skipTo ms.begun ms.before := by
 unfold bfN
 split
 ·rfl
 ·by_cases h : skipTo ms.begun ms.before < ms.begun.length
  ·exact skipTo_false h (skipTo_stop' h)
  ·exact skipTo_end (by omega)
theorem bfN_good {ms : MS} (hg : goodB ps ms) (hb : ms.begun.length = ps.length) (c : Nat) : goodB ps { ms with before := bfN ms c } := by
 unfold bfN
 split
 ·exact hg
 ·exact goodB_skip hg hb
end
end Go.Proofs.YthpblaoehlgpfaaGreat.M

/- Time slots, plain: the choice of the program and of the reference. No condition. -/
namespace Go.Proofs.YthpblaoehlgpfaaGreat.M
open Go Go.Proofs.YthpblaoehlgpfaaGreat.K

/-- how many ticks in a row from t on belong to a class; -1 if all do -/
def aheadN (tb : List Int) (cls : Int) (t : Nat) : Int := findFrom (fun n => decide (cls < 0) || nth tb ((t + n) % tb.length) != cls) tb.length 0
def afterN (tb : List Int) (t : Nat) : Nat := if findFrom (fun n => nth tb ((t + 1 + n) % tb.length) != nth tb (t % tb.length)) tb.length 0 = -1 then tb.length else (findFrom (fun n => nth tb ((t + 1 + n) % tb.length) != nth tb (t % tb.length)) tb.length 0).toNat
def roomN (cap : Int) (tb : List Int) (t : Nat) (left : Int) : Int := if afterN tb t = tb.length then 1073741824 else left + cap * (afterN tb t : Int)
def slotT (tb : List Int) (t : Nat) : Int := nth tb (t % tb.length)
def slotCh (ps : List Pkt) (cap : Int) (tb : List Int) (ms : MS) (_ : Unit) : Int × Nat × Unit :=
  if slotT tb ms.now.toNat < 0 then (-1, ms.before, ())
  else if nextW ps ms (slotT tb ms.now.toNat) < 0 then (-1, skipTo ms.begun ms.before, ())
  else if aheadN tb (slotT tb ms.now.toNat) ms.now.toNat ≠ -1 ∧ (nth ps (nextW ps ms (slotT tb ms.now.toNat)).toNat).size > ms.left + (aheadN tb (slotT tb ms.now.toNat) ms.now.toNat - 1) * cap then (-1, skipTo ms.begun ms.before, ())
  else (nextW ps ms (slotT tb ms.now.toNat), skipTo ms.begun ms.before, ())
def slotRc (ps : List Pkt) (cap : Int) (tb : List Int) (left : Int) (st : St) (_ : Unit) : Int × Unit :=
  if 0 ≤ slotT tb st.time ∧ 0 ≤ firstW ps st (slotT tb st.time) ∧ (nth ps (firstW ps st (slotT tb st.time)).toNat).size ≤ roomN cap tb st.time left then (firstW ps st (slotT tb st.time), ()) else (-1, ())
theorem mod_off {n t i : Nat} (hn : 0 < n) : ∃ j, j < n ∧ (t + j) % n = i % n := by
 refine ⟨(i % n + n - t % n) % n, Nat.mod_lt _ hn, ?_⟩
 have h1 := Nat.mod_lt t hn
 have h2 := Nat.mod_lt i hn
 have h3 := Nat.div_add_mod t n
 rw [Nat.add_mod_mod, show t + (i % n + n - t % n) = i % n + n + n * (t / n) by omega, Nat.add_mul_mod_self_left, Nat.add_mod_right, Nat.mod_mod]
section
variable {ps : List Pkt} {cap : Int} {tb : List Int} {ms : MS} {st : St}
theorem slot_pick (h : 0 ≤ (slotCh ps cap tb ms ()).1) : 0 ≤ slotT tb ms.now.toNat ∧ 0 ≤ nextW ps ms (slotT tb ms.now.toNat) ∧ (slotCh ps cap tb ms ()) = (nextW ps ms (slotT tb ms.now.toNat), skipTo ms.begun ms.before, ()) ∧
  ¬ (aheadN tb (slotT tb ms.now.toNat) ms.now.toNat ≠ -1 ∧ (nth ps (nextW ps ms (slotT tb ms.now.toNat)).toNat).size > ms.left + (aheadN tb (slotT tb ms.now.toNat) ms.now.toNat - 1) * cap) := by
 unfold slotCh at h ⊢
 split at h
 ·simp at h
 ·rename_i h1
  split at h
  ·simp at h
  ·rename_i h2
   split at h
   ·simp at h
   ·rename_i h3
    rw [if_neg h1, if_neg h2, if_neg h3]
    exact ⟨by omega, by omega, rfl, h3⟩
theorem slot_before (ps : List Pkt) (cap : Int) (tb : List Int) (ms : MS) : (slotCh ps cap tb ms ()).2.1 = ms.before ∨ (slotCh ps cap tb ms ()).2.1 = skipTo ms.begun ms.before := by
 unfold slotCh
 split
 ·exact .inl rfl
 ·split
  ·exact .inr rfl
  ·split
   ·exact .inr rfl
   ·exact .inr rfl
theorem slot_fair (hsort : ps.Pairwise fun a b => a.time ≤ b.time) : Fair ps (slotCh ps cap tb) (fun ms _ => goodB ps ms) (sameFlow ps) where
 free := fun _ _ _ _ h => h
 idx := fun ms s hg hb h0 => by
  obtain ⟨h1, h2, h3, _⟩ := slot_pick h0
  cases s
  rw [h3]; exact (nextW_lt _ _ _).1
 some := fun ms s hg hb h0 => by
  obtain ⟨h1, h2, h3, _⟩ := slot_pick h0
  cases s
  rw [h3]; exact goodB_begin hg hb _
 none := fun ms s hg hb h0 => by
  cases s
  rcases slot_before ps cap tb ms with h | h
  ·rw [h]; exact hg
  ·rw [h]; exact goodB_skip hg hb
 waits := fun ms s hg hb h0 => by
  obtain ⟨h1, h2, h3, _⟩ := slot_pick h0
  cases s
  rw [h3]
  have := nextW_some hsort h2
  exact ⟨this.2.1, this.2.2.1⟩
 ord := fun ms s hg hb h0 i hi hr => by
  obtain ⟨h1, h2, h3, _⟩ := slot_pick h0
  cases s
  rw [h3] at hi hr
  have := nextW_some hsort h2
  exact this.2.2.2.2 i hi (by unfold sameFlow at hr; rw [hr]; exact this.2.2.2.1)
theorem slot_start (classes : Nat) : goodB ps (start ps classes ()).ms := ⟨Nat.zero_le _, fun i hi => by simp [start] at hi⟩
end
/-- tables that are right -/
def okT (classes : Int) (tb : List Int) : Bool := decide (1 ≤ tb.length) && decide (tb.length ≤ 40) && tb.all fun c => decide (-1 ≤ c) && decide (c < classes)
theorem okT_iff {n : Int} {tb : List Int} : okT n tb = true ↔ 1 ≤ tb.length ∧ tb.length ≤ 40 ∧ ∀ c ∈ tb, -1 ≤ c ∧ c < n := by
 unfold okT
 simp only [Bool.and_eq_true, decide_eq_true_eq, List.all_eq_true, and_assoc]
/-- the classes of a table -/
def classesT (tb : List Int) : Int := tb.foldl (fun m c => if m < c + 1 then c + 1 else m) 1
def srunE (cap ticks : Int) (tb : List Int) (ps : List Pkt) : Int := if okT 6 tb = true then lrunE cap (classesT tb) ticks ps else 2
end Go.Proofs.YthpblaoehlgpfaaGreat.M

/- What a class is sent while it is backlogged, plain, whatever the choice: an invariant of the rounds is carried from tick to tick. No condition. -/
namespace Go.Proofs.YthpblaoehlgpfaaGreat.M
open Go Go.Proofs.YthpblaoehlgpfaaGreat.K

/-- the bytes of a class that have been begun -/
def begK (k : Int) : List Pkt → List Bool → Int
  | p :: ps, b :: bs => (if b = true ∧ p.flow = k then p.size else 0) + begK k ps bs
  | _, _ => 0
theorem begK_set (k : Int) : ∀ (ps : List Pkt) (bs : List Bool) (i : Nat), i < ps.length → i < bs.length → nth bs i = false → begK k ps (bs.set i true) = begK k ps bs + (if (nth ps i).flow = k then (nth ps i).size else 0)
 | [], _, i, h, _, _ => by simp at h
 | _ :: _, [], i, _, h, _ => by simp at h
 | p :: ps, b :: bs, 0, _, _, hb => by
  have : b = false := hb
  subst this
  simp only [List.set_cons_zero, begK, show nth (p :: ps) 0 = p from rfl]
  simp; omega
 | p :: ps, b :: bs, i + 1, h1, h2, hb => by
  have := begK_set k ps bs i (by simpa using h1) (by simpa using h2) hb
  simp only [List.set_cons_succ, begK, this]
  rw [show nth (p :: ps) (i + 1) = nth ps i from rfl]; omega
/-- a class of which less has been begun than has arrived waits -/
theorem begK_wait {k t : Int} (hk : 0 ≤ k) : ∀ (ps : List Pkt) (bs : List Bool), bs.length = ps.length → (∀ p ∈ ps, 0 ≤ p.size) → begK k ps bs < pbytes k (t + 1) ps → ∃ i, i < ps.length ∧ nth bs i = false ∧ (nth ps i).flow = k ∧ (nth ps i).time ≤ t
 | [], _, _, _, h => by simp [begK, pbytes] at h
 | _ :: _, [], hl, _, _ => by simp at hl
 | p :: ps, b :: bs, hl, hs, h => by
  have hp := hs p (by simp)
  by_cases h0 : b = false ∧ p.flow = k ∧ p.time ≤ t
  ·exact ⟨0, by simp, h0.1, h0.2.1, h0.2.2⟩
  ·have h1 : begK k ps bs < pbytes k (t + 1) ps := by
    simp only [begK, pbytes] at h
    by_cases hh : hit k (t + 1) p
    ·rw [if_pos hh] at h
     have hb : b = true ∧ p.flow = k := by
      unfold hit at hh
      have hf : p.flow = k := by omega
      refine ⟨?_, hf⟩
      cases b with
      | true => rfl
      | false => exact absurd ⟨rfl, hf, by omega⟩ h0
     rw [if_pos hb] at h
     omega
    ·rw [if_neg hh] at h
     split at h <;> omega
   obtain ⟨i, g1, g2, g3, g4⟩ := begK_wait hk ps bs (by simpa using hl) (fun q hq => hs q (by simp [hq])) h1
   exact ⟨i + 1, by simpa using g1, g2, g3, g4⟩

/-- the sums of a class: begun, less what is still to be sent of the open packet -/
def Cl {σ : Type} (ps : List Pkt) (k : Nat) (col : Nat) (s : RS σ) : Prop :=
  nth (nth s.sent k) col = begK k ps s.ms.begun - (if 0 ≤ s.cur ∧ (nth ps s.cur.toNat).flow = k then s.rest else 0)
/-- an invariant of the rounds: of the choice's state, the open packet and what is left of it, what the class and all others have been sent -/
structure Per {σ : Type} (ps : List Pkt) (ch : MS → σ → Int × Nat × σ) (good : MS → σ → Prop) (k : Nat) (J : σ → Int → Int → Int → Int → Prop) : Prop where
  pick : ∀ ms sg r own oth, good ms sg → ms.begun.length = ps.length → (∃ i, i < ps.length ∧ nth ms.begun i = false ∧ (nth ps i).flow = k ∧ (nth ps i).time ≤ ms.now) → J sg (-1) r own oth → 0 ≤ (ch ms sg).1 → J (ch ms sg).2.2 (ch ms sg).1 (nth ps (ch ms sg).1.toNat).size own oth
  send : ∀ (sg : σ) (cur rest own oth n : Int), 0 ≤ cur → cur < ps.length → 1 ≤ n → n ≤ rest → J sg cur rest own oth →
    J sg (if rest - n = 0 then -1 else cur) (rest - n) (own + (if (nth ps cur.toNat).flow = k then n else 0)) (oth + (if (nth ps cur.toNat).flow = k then 0 else n))
  none : ∀ sg c c' r r' own oth, c < 0 → c' < 0 → J sg c r own oth → J sg c' r' own oth
section
variable {σ : Type} {ps : List Pkt} {ch : MS → σ → Int × Nat × σ} {good : MS → σ → Prop} {rel : Nat → Nat → Prop} {classes col k : Nat} {s : RS σ} {J : σ → Int → Int → Int → Int → Prop}
theorem Cl.pickup (hg : Fair ps ch good rel) (hw : Wk ps classes good rel col s) (h : Cl ps k col s) : Cl ps k col (pickup ps ch s) := by
 unfold M.pickup
 by_cases hc : 0 ≤ s.cur
 ·rw [if_pos hc]; exact h
 ·rw [if_neg hc]
  unfold Cl at h
  rw [if_neg (by omega)] at h
  by_cases hr : (ch s.ms s.sg).1 < 0
  ·simp only [hr, if_true]
   unfold Cl
   dsimp only
   rw [if_neg (by omega)]; exact h
  ·simp only [hr, if_false]
   have hi := hg.idx _ _ hw.good hw.blen (by omega)
   obtain ⟨w1, w2⟩ := hg.waits _ _ hw.good hw.blen (by omega)
   have hb := hw.blen
   unfold Cl
   dsimp only
   rw [begK_set _ _ _ _ (by omega) (by omega) w1, h]
   by_cases hf : (nth ps (ch s.ms s.sg).1.toNat).flow = k
   ·rw [if_pos hf, if_pos ⟨by omega, hf⟩]; omega
   ·rw [if_neg hf, if_neg (fun h => hf h.2)]; omega
/-- what is sent of the class: n or nothing -/
theorem Cl.send (hfl : ∀ p ∈ ps, 0 ≤ p.flow ∧ p.flow < classes) (hk : k < classes) {t : Nat} (hw : Wk ps classes good rel (t + 1) s) (h : Cl ps k (t + 1) s) (hc : 0 ≤ s.cur) (hl : 0 < s.ms.left) :
  ∃ n, 1 ≤ n ∧ n ≤ s.rest ∧ (M.send ps t s).ms.left = s.ms.left - n ∧ (M.send ps t s).rest = s.rest - n ∧ (M.send ps t s).cur = (if s.rest - n = 0 then -1 else s.cur) ∧ (M.send ps t s).sg = s.sg ∧ (M.send ps t s).ms.begun = s.ms.begun ∧
   nth (nth (M.send ps t s).sent k) (t + 1) = nth (nth s.sent k) (t + 1) + (if (nth ps s.cur.toNat).flow = k then n else 0) ∧ Cl ps k (t + 1) (M.send ps t s) := by
 obtain ⟨c1, c2, c3⟩ := hw.cur hc
 have hfl' := hfl _ (nth_mem (show s.cur.toNat < ps.length by omega))
 have hlen := hw.slen
 refine ⟨if s.ms.left < s.rest then s.ms.left else s.rest, by split <;> omega, by split <;> omega, rfl, rfl, rfl, rfl, rfl, ?_⟩
 have hn : (if s.ms.left < s.rest then s.ms.left else s.rest) ≤ s.rest := by split <;> omega
 have hcol : nth (nth (M.send ps t s).sent k) (t + 1) = nth (nth s.sent k) (t + 1) + (if (nth ps s.cur.toNat).flow = k then (if s.ms.left < s.rest then s.ms.left else s.rest) else 0) := by
  unfold M.send
  dsimp only
  by_cases hf : (nth ps s.cur.toNat).flow = k
  ·have e : (nth ps s.cur.toNat).flow.toNat = k := by omega
   rw [if_pos hf, e, nth_set_self (by omega), nth_set_self]
   have := hw.rlen _ (nth_mem (xs := s.sent) (k := k) (by omega))
   omega
  ·rw [if_neg hf, nth_set_ne (by omega)]; omega
 refine ⟨hcol, ?_⟩
 unfold Cl at h ⊢
 rw [hcol, h]
 unfold M.send
 dsimp only
 generalize (if s.ms.left < s.rest then s.ms.left else s.rest) = n at hn ⊢
 by_cases hf : (nth ps s.cur.toNat).flow = k
 ·rw [if_pos ⟨hc, hf⟩, if_pos hf]
  by_cases hz : s.rest - n = 0
  ·simp only [hz, if_true]; rw [if_neg (by omega)]; omega
  ·simp only [hz, if_false]; rw [if_pos ⟨hc, hf⟩]; omega
 ·rw [if_neg (fun h => hf h.2), if_neg hf]
  by_cases hz : s.rest - n = 0
  ·simp only [hz, if_true]; rw [if_neg (by omega)]; omega
  ·simp only [hz, if_false]; rw [if_neg (fun h => hf h.2)]; omega
theorem Per.inner (hg : Fair ps ch good rel) (hb : Busy ps ch good) (hJ : Per ps ch good k J) (hs : ∀ p ∈ ps, 1 ≤ p.size) (hfl : ∀ p ∈ ps, 0 ≤ p.flow ∧ p.flow < classes) (hk : k < classes) {t : Nat} : ∀ (j : Nat) (s : RS σ) (own oth : Int), Wk ps classes good rel (t + 1) s → Cl ps k (t + 1) s → s.ms.now = t → 0 ≤ s.ms.left →
  (J s.sg s.cur s.rest own oth ∨ pbytes k ((t : Int) + 1) ps ≤ nth (nth s.sent k) (t + 1)) →
  Cl ps k (t + 1) (inner ps ch t j s) ∧ nth (nth s.sent k) (t + 1) ≤ nth (nth (inner ps ch t j s).sent k) (t + 1) ∧
   (nth (nth (inner ps ch t j s).sent k) (t + 1) < pbytes k ((t : Int) + 1) ps →
    J (inner ps ch t j s).sg (inner ps ch t j s).cur (inner ps ch t j s).rest (own + (nth (nth (inner ps ch t j s).sent k) (t + 1) - nth (nth s.sent k) (t + 1))) (oth + ((colSum (inner ps ch t j s).sent (t + 1) - colSum s.sent (t + 1)) - (nth (nth (inner ps ch t j s).sent k) (t + 1) - nth (nth s.sent k) (t + 1)))))
 | 0, s, own, oth, hw, hc, hn, hl, h => by
  simp only [M.inner]
  refine ⟨hc, Int.le_refl _, fun hlt => ?_⟩
  rcases h with h | h
  ·simpa using h
  ·omega
 | j + 1, s, own, oth, hw, hc, hn, hl, h => by
  simp only [M.inner]
  by_cases hl0 : s.ms.left ≤ 0
  ·rw [if_pos hl0]
   refine ⟨hc, Int.le_refl _, fun hlt => ?_⟩
   rcases h with h | h
   ·simpa using h
   ·omega
  ·rw [if_neg hl0]
   have hw1 := hw.pickup hg hs
   have hc1 := hc.pickup hg hw
   obtain ⟨e1, e2, e3, e4⟩ := pickup_same ps ch s
   -- the choice
   have hJ1 : nth (nth s.sent k) (t + 1) < pbytes k ((t : Int) + 1) ps → 0 ≤ (M.pickup ps ch s).cur ∧ J (M.pickup ps ch s).sg (M.pickup ps ch s).cur (M.pickup ps ch s).rest own oth := fun hlt => by
    have h := h.resolve_right (by omega)
    by_cases hcur : 0 ≤ s.cur
    ·unfold M.pickup; rw [if_pos hcur]; exact ⟨hcur, h⟩
    ·unfold Cl at hc
     rw [if_neg (fun x => hcur x.1)] at hc
     obtain ⟨i, g1, g2, g3, g4⟩ := begK_wait (k := (k : Int)) (t := (t : Int)) (by omega) ps s.ms.begun hw.blen (fun p hp => by have := hs p hp; omega) (by omega)
     have hr0 : 0 ≤ (ch s.ms s.sg).1 := by
      apply Classical.byContradiction
      intro hneg
      have := hb _ _ hw.good hw.blen (by omega) i g1 (by omega)
      rw [this] at g2; cases g2
     have hp := hJ.pick s.ms s.sg s.rest own oth hw.good hw.blen ⟨i, g1, g2, g3, by omega⟩ (hJ.none _ s.cur _ s.rest _ own oth (by omega) (by omega) h) hr0
     unfold M.pickup
     rw [if_neg hcur]
     dsimp only
     rw [if_neg (by omega)]
     exact ⟨hr0, hp⟩
   by_cases hcn : (M.pickup ps ch s).cur < 0
   ·rw [if_pos hcn]
    refine ⟨hc1, by rw [e3]; exact Int.le_refl _, fun hlt => ?_⟩
    rw [e3] at hlt
    have := (hJ1 hlt).1
    omega
   ·rw [if_neg hcn]
    obtain ⟨n, n1, n2, n3, n4, n5, n6, n7, n8, n9⟩ := Cl.send hfl hk hw1 hc1 (by omega) (by rw [e1]; omega)
    obtain ⟨g1, g2, g3, g4, g5, g6⟩ := hw1.send hfl hg.free (by rw [e2]; exact hn) (by omega) (by rw [e1]; omega)
    have hn0 : 0 ≤ (if (nth ps (M.pickup ps ch s).cur.toNat).flow = (k : Int) then n else 0) := by split <;> omega
    have hcc := hw1.cur (by omega)
    obtain ⟨r1, r2, r3⟩ := Per.inner hg hb hJ hs hfl hk j (M.send ps t (M.pickup ps ch s)) (own + (if (nth ps (M.pickup ps ch s).cur.toNat).flow = (k : Int) then n else 0)) (oth + (if (nth ps (M.pickup ps ch s).cur.toNat).flow = (k : Int) then 0 else n)) g1 n9 (by rw [g5, e2]; exact hn) g3 (by
     by_cases hlt : nth (nth s.sent k) (t + 1) < pbytes k ((t : Int) + 1) ps
     ·left
      have := hJ.send _ _ _ _ _ n (by omega) hcc.1 n1 n2 (hJ1 hlt).2
      rw [n4, n5, n6]; exact this
     ·right; rw [n8, e3]; omega)
    have hcs : colSum (M.send ps t (M.pickup ps ch s)).sent (t + 1) = colSum s.sent (t + 1) + n := by rw [g2, n3, e3]; omega
    refine ⟨r1, by rw [n8, e3] at r2; omega, fun hlt => ?_⟩
    have := r3 hlt
    rw [n8, hcs, e3] at this
    have ea : own + (if (nth ps (M.pickup ps ch s).cur.toNat).flow = (k : Int) then n else 0) + (nth (nth (M.inner ps ch t j (M.send ps t (M.pickup ps ch s))).sent k) (t + 1) - (nth (nth s.sent k) (t + 1) + (if (nth ps (M.pickup ps ch s).cur.toNat).flow = (k : Int) then n else 0))) = own + (nth (nth (M.inner ps ch t j (M.send ps t (M.pickup ps ch s))).sent k) (t + 1) - nth (nth s.sent k) (t + 1)) := by omega
    rw [ea] at this
    have eb : oth + (if (nth ps (M.pickup ps ch s).cur.toNat).flow = (k : Int) then 0 else n) + ((colSum (M.inner ps ch t j (M.send ps t (M.pickup ps ch s))).sent (t + 1) - (colSum s.sent (t + 1) + n)) - (nth (nth (M.inner ps ch t j (M.send ps t (M.pickup ps ch s))).sent k) (t + 1) - (nth (nth s.sent k) (t + 1) + (if (nth ps (M.pickup ps ch s).cur.toNat).flow = (k : Int) then n else 0)))) = oth + ((colSum (M.inner ps ch t j (M.send ps t (M.pickup ps ch s))).sent (t + 1) - colSum s.sent (t + 1)) - (nth (nth (M.inner ps ch t j (M.send ps t (M.pickup ps ch s))).sent k) (t + 1) - nth (nth s.sent k) (t + 1))) := by split <;> omega
    rw [eb] at this
    exact this
/-- the state at the beginning of a tick -/
def opened (cap : Int) (t : Nat) (s : RS σ) : RS σ := { s with ms := { s.ms with now := t, left := cap }, sent := s.sent.map fun l => l ++ [nth l t] }
theorem opened_row {t : Nat} {l : List Int} (h : l.length = t + 1) : nth (l ++ [nth l t]) (t + 1) = nth l t := by
 unfold nth List.getD
 rw [List.getElem?_append_right (by omega), h]; simp
theorem Wk.opened (hg : Fair ps ch good rel) {t : Nat} {cap : Int} (h : Wk ps classes good rel t s) (hnow : s.ms.now ≤ t) : Wk ps classes good rel (t + 1) (M.opened cap t s) ∧ colSum (M.opened cap t s).sent (t + 1) = colSum s.sent t := by
 have hcol : colSum (s.sent.map fun l => l ++ [nth l t]) (t + 1) = colSum s.sent t := colSum_map _ (fun l hl => opened_row (h.rlen l hl))
 refine ⟨⟨hg.free _ _ _ _ h.good, h.dlen, h.blen, by simp [M.opened, h.slen], fun l hl => ?_, h.cur, h.open_, fun i hi hb hne => ?_, fun i hi hb => ?_, h.ord, h.dord, by unfold M.opened; dsimp only; rw [hcol]; exact h.sum⟩, hcol⟩
 ·obtain ⟨l', h2, rfl⟩ := List.mem_map.1 hl
  simp [h.rlen l' h2]
 ·have := h.shut i hi hb hne
  unfold M.opened; dsimp only; omega
 ·have := h.time i hi hb
  unfold M.opened; dsimp only; omega
end
end Go.Proofs.YthpblaoehlgpfaaGreat.M

/- Curves, plain: normal forms of functions that repeat. No condition. -/
namespace Go.Proofs.YthpblaoehlgpfaaGreat.M
open Go Go.Proofs.YthpblaoehlgpfaaGreat.K

def INF : Int := 4611686018427387904
def MAXV : Int := 1073741824
/-- the first values of a function -/
def fvals (F : Nat → Int) (n : Nat) : List Int := (List.range n).map F
theorem fvals_len (F : Nat → Int) (n : Nat) : (fvals F n).length = n := by simp [fvals]
theorem fvals_nth (F : Nat → Int) {n i : Nat} (h : i < n) : nth (fvals F n) i = F i := range_map_nth F h
theorem fvals_snoc (F : Nat → Int) (n : Nat) : fvals F (n + 1) = fvals F n ++ [F n] := range_map_snoc F n
theorem fvals_take (F : Nat → Int) {n k : Nat} (h : k ≤ n) : (fvals F n).take k = fvals F k := by
 refine nth_ext (by simp [fvals]; omega) (fun i hi => ?_)
 have hi' : i < k := by simp [fvals] at hi; omega
 rw [fvals_nth F hi']
 unfold nth List.getD
 rw [List.getElem?_take, if_pos hi']
 exact fvals_nth F (by omega)
theorem fvals_drop (F : Nat → Int) {n k : Nat} (h : k ≤ n) : (fvals F n).drop k = fvals (fun t => F (k + t)) (n - k) := by
 refine nth_ext (by simp [fvals]) (fun i hi => ?_)
 have hi' : i < n - k := by simp [fvals] at hi; omega
 rw [fvals_nth _ hi']
 unfold nth List.getD
 rw [List.getElem?_drop]
 exact fvals_nth F (by omega)
theorem fvals_eq {F : Nat → Int} {l : List Int} (h : ∀ i, i < l.length → nth l i = F i) : l = fvals F l.length :=
 nth_ext (by simp [fvals]) (fun i hi => by rw [fvals_nth F hi, h i hi])

/-! ### the least period and the start -/
/-- it grows by I in P ticks from S on -/
def Grows (F : Nat → Int) (S P : Nat) (I : Int) : Prop := ∀ t, S ≤ t → F (t + P) = F t + I
theorem Grows.mono {F : Nat → Int} {S S' P : Nat} {I : Int} (h : Grows F S P I) (hs : S ≤ S') : Grows F S' P I := fun t ht => h t (by omega)
theorem Grows.mul {F : Nat → Int} {S P : Nat} {I : Int} (h : Grows F S P I) : ∀ (k t : Nat), S ≤ t → F (t + k * P) = F t + k * I
 | 0, t, _ => by simp
 | k + 1, t, ht => by
  rw [show t + (k + 1) * P = (t + k * P) + P by rw [Nat.add_mul]; omega, h _ (by omega), Grows.mul h k t ht, Int.natCast_add, Int.add_mul]
  simp; omega
/-- a window shows it -/
def PerOk (F : Nat → Int) (S P : Nat) (I : Int) (p : Nat) : Prop := P % p = 0 ∧ (I * p) % P = 0 ∧ ∀ t, S ≤ t → t < S + P → F (t + p) = F t + I * p / P
theorem PerOk.all {F : Nat → Int} {S P : Nat} {I : Int} {p : Nat} (hP : 0 < P) (hg : Grows F S P I) (h : PerOk F S P I p) : Grows F S p (I * p / P) := by
 intro t
 induction t using Nat.strongRecOn with
 | _ t ih =>
  intro ht
  by_cases hw : t < S + P
  ·exact h.2.2 t ht hw
  ·have h1 := ih (t - P) (by omega) (by omega)
   have h2 := hg (t - P) (by omega)
   have h3 := hg (t - P + p) (by omega)
   rw [show t - P + P = t by omega] at h2
   rw [show t - P + p + P = t + p by omega] at h3
   omega
theorem PerOk.move {F : Nat → Int} {S S' P : Nat} {I : Int} {p : Nat} (hP : 0 < P) (hg : Grows F S P I) (hg' : Grows F S' P I) (h : PerOk F S P I p) : PerOk F S' P I p := by
 refine ⟨h.1, h.2.1, fun t ht _ => ?_⟩
 have ha := h.all hP hg (t + S * P) (by have := Nat.le_mul_of_pos_right S hP; omega)
 have h1 := hg'.mul S t ht
 have h2 := hg'.mul S (t + p) (by omega)
 rw [show t + S * P + p = t + p + S * P by omega] at ha
 omega
theorem PerOk.self {F : Nat → Int} {S P : Nat} {I : Int} (hP : 0 < P) (hg : Grows F S P I) : PerOk F S P I P := by
 refine ⟨Nat.mod_self P, Int.mul_emod_left I P, fun t ht _ => ?_⟩
 rw [Int.mul_ediv_cancel _ (by omega)]
 exact hg t ht
/-- the least number from 1 on -/
def LeastN (Q : Nat → Prop) (p : Nat) : Prop := 1 ≤ p ∧ Q p ∧ ∀ r, 1 ≤ r → r < p → ¬ Q r
theorem LeastN.unique {Q Q' : Nat → Prop} {p p' : Nat} (h : LeastN Q p) (h' : LeastN Q' p') (hq : ∀ r, Q r ↔ Q' r) : p = p' := by
 rcases Nat.lt_trichotomy p p' with h1 | h1 | h1
 ·exact absurd ((hq p).1 h.2.1) (h'.2.2 p h.1 h1)
 ·exact h1
 ·exact absurd ((hq p').2 h'.2.1) (h.2.2 p' h'.1 h1)
/-- from where on it grows so -/
def Starts (F : Nat → Int) (p : Nat) (q : Int) (s : Nat) : Prop := Grows F s p q ∧ (s = 0 ∨ F (s - 1 + p) ≠ F (s - 1) + q)
theorem Starts.unique {F : Nat → Int} {p : Nat} {q : Int} {s s' : Nat} (h : Starts F p q s) (h' : Starts F p q s') : s = s' := by
 rcases Nat.lt_trichotomy s s' with h1 | h1 | h1
 ·rcases h'.2 with h2 | h2
  ·omega
  ·exact absurd (h.1 (s' - 1) (by omega)) h2
 ·exact h1
 ·rcases h.2 with h2 | h2
  ·omega
  ·exact absurd (h'.1 (s - 1) (by omega)) h2

/-! ### what the program does -/
def leastOk (v : List Int) (inc : Int) (p : Nat) : Bool :=
  v.length % p == 0 && (inc * p) % v.length == 0 && (List.range v.length).all fun i => (if i + p < v.length then nth v (i + p) else nth v (i + p - v.length) + inc) == nth v i + inc * p / v.length
def leastL (v : List Int) (inc : Int) : Nat :=
  if findFrom (leastOk v inc) (v.length - 1) 1 = -1 then v.length else (findFrom (leastOk v inc) (v.length - 1) 1).toNat
def downL (v : List Int) (p : Nat) (q : Int) : Nat → Nat
  | 0 => 0
  | s + 1 => if nth v s + q = nth v (s + p) then downL v p q s else s + 1
/-- a curve: values, period, increment -/
structure Cv where
  vals : List Int
  per : Int
  inc : Int
def zcv : Cv := ⟨[], 0, 0⟩
def checkedE (v : List Int) : Int := if 400 < v.length ∨ (v.any fun x => x != INF && decide (x > MAXV)) = true then 3 else 0
def checkedL (v : List Int) (p : Int) (q : Int) : Cv × Int := if checkedE v = 3 then (zcv, 3) else (⟨v, p, q⟩, 0)
def finL (v : List Int) (S P : Nat) (I : Int) : Cv × Int :=
  let p := leastL (v.drop S) I
  let q := I * p / P
  let s := downL v p q S
  if 120 < p ∨ MAXV < q then (zcv, 3) else checkedL (v.take (s + p)) p q
def infAt (F : Nat → Int) (n : Nat) : Int := findFrom (fun t => F t == INF) n 0
def mbuild (F : Nat → Int) (S P : Nat) (I : Int) : Cv × Int :=
  if infAt F (S + P) = -1 then finL (fvals F (S + P)) S P I else checkedL (fvals F ((infAt F (S + P)).toNat + 1)) 1 0

theorem leastOk_iff {F : Nat → Int} {S P : Nat} {I : Int} {p : Nat} (hg : Grows F S P I) (hp : p ≤ P) : leastOk (fvals (fun t => F (S + t)) P) I p = true ↔ PerOk F S P I p := by
 unfold leastOk PerOk
 simp only [fvals_len, Bool.and_eq_true, beq_iff_eq, List.all_eq_true, List.mem_range]
 have key : ∀ i, i < P → (if i + p < P then nth (fvals (fun t => F (S + t)) P) (i + p) else nth (fvals (fun t => F (S + t)) P) (i + p - P) + I) = F (S + i + p) := fun i hi => by
  split
  ·rename_i h; rw [fvals_nth _ h, Nat.add_assoc]
  ·rename_i h
   rw [fvals_nth _ (by omega), ← hg _ (by omega)]
   congr 1; omega
 constructor
 ·rintro ⟨⟨h1, h2⟩, h3⟩
  refine ⟨h1, h2, fun t ht htp => ?_⟩
  have := h3 (t - S) (by omega)
  rw [key _ (by omega), fvals_nth _ (by omega), show S + (t - S) = t by omega] at this
  exact this
 ·rintro ⟨h1, h2, h3⟩
  refine ⟨⟨h1, h2⟩, fun i hi => ?_⟩
  rw [key i hi, fvals_nth _ hi]
  exact h3 _ (by omega) (by omega)
theorem leastL_is {F : Nat → Int} {S P : Nat} {I : Int} (hP : 0 < P) (hg : Grows F S P I) : LeastN (PerOk F S P I) (leastL (fvals (fun t => F (S + t)) P) I) ∧ leastL (fvals (fun t => F (S + t)) P) I ≤ P := by
 unfold leastL
 rw [fvals_len]
 rcases findFrom_cases (leastOk (fvals (fun t => F (S + t)) P) I) (P - 1) 1 with ⟨i, h1, h2, h3, h4, h5⟩ | ⟨h1, h2⟩
 ·rw [h3, if_neg (by omega), Int.toNat_natCast]
  refine ⟨⟨h1, (leastOk_iff hg (by omega)).1 h4, fun r hr hri hq => ?_⟩, by omega⟩
  have := h5 r hr hri
  rw [(leastOk_iff hg (by omega)).2 hq] at this
  cases this
 ·rw [h1, if_pos rfl]
  refine ⟨⟨hP, PerOk.self hP hg, fun r hr hri hq => ?_⟩, Nat.le_refl _⟩
  have := h2 r hr (by omega)
  rw [(leastOk_iff hg (by omega)).2 hq] at this
  cases this
theorem downL_is {F : Nat → Int} {p n : Nat} {q : Int} : ∀ (s : Nat), s + p ≤ n → Grows F s p q → Starts F p q (downL (fvals F n) p q s) ∧ downL (fvals F n) p q s ≤ s
 | 0, _, h => ⟨⟨h, .inl rfl⟩, Nat.le_refl _⟩
 | s + 1, hn, h => by
  simp only [downL]
  rw [fvals_nth F (show s < n by omega)]
  by_cases hp : s + p < n
  ·rw [fvals_nth F hp]
   split
   ·rename_i he
    have := downL_is (F := F) (p := p) (n := n) (q := q) s (by omega) (fun t ht => by
     by_cases hts : t = s
     ·subst hts; exact he.symm
     ·exact h t (by omega))
    exact ⟨this.1, by omega⟩
   ·rename_i he
    exact ⟨⟨h, .inr (by simpa using fun h => he h.symm)⟩, Nat.le_refl _⟩
  ·omega

/-! ### what it is -/
/-- the normal form of a finite function -/
structure NF (F : Nat → Int) (S P : Nat) (I : Int) (p s : Nat) : Prop where
  least : LeastN (PerOk F S P I) p
  starts : Starts F p (I * p / P) s
theorem NF.unique {F : Nat → Int} {S S' P : Nat} {I : Int} {p p' s s' : Nat} (hP : 0 < P) (hg : Grows F S P I) (hg' : Grows F S' P I) (h : NF F S P I p s) (h' : NF F S' P I p' s') : p = p' ∧ s = s' := by
 have hp := h.least.unique h'.least (fun r => ⟨fun hr => hr.move hP hg hg', fun hr => hr.move hP hg' hg⟩)
 subst hp
 exact ⟨rfl, h.starts.unique h'.starts⟩
def nfE (F : Nat → Int) (p s : Nat) (q : Int) : Int := if 120 < p ∨ MAXV < q ∨ 400 < s + p ∨ ((List.range (s + p)).any fun i => decide (F i > MAXV)) = true then 3 else 0
def nfC (F : Nat → Int) (p s : Nat) (q : Int) : Cv × Int := if nfE F p s q = 3 then (zcv, 3) else (⟨fvals F (s + p), p, q⟩, 0)
theorem finL_nf {F : Nat → Int} {S P : Nat} {I : Int} (hP : 0 < P) (hg : Grows F S P I) (hf : ∀ t, t < S + P → F t ≠ INF) :
  ∃ p s, NF F S P I p s ∧ p ≤ P ∧ s ≤ S ∧ finL (fvals F (S + P)) S P I = nfC F p s (I * p / P) := by
 have hd : (fvals F (S + P)).drop S = fvals (fun t => F (S + t)) P := by rw [fvals_drop F (by omega)]; congr 1; omega
 obtain ⟨h1, h2⟩ := leastL_is hP hg
 have h3 := h1.2.1.all hP hg
 obtain ⟨h4, h5⟩ := downL_is (n := S + P) S (by omega) h3
 refine ⟨_, _, ⟨h1, h4⟩, h2, h5, ?_⟩
 unfold finL
 rw [hd]
 generalize leastL (fvals (fun t => F (S + t)) P) I = p at h1 h2 h3 h4 h5 ⊢
 generalize hs : downL (fvals F (S + P)) p (I * p / P) S = s at h4 h5 ⊢
 dsimp only
 rw [hs, fvals_take F (by omega)]
 unfold nfC nfE checkedL checkedE
 rw [fvals_len]
 have hany : (fvals F (s + p)).any (fun x => x != INF && decide (x > MAXV)) = (List.range (s + p)).any fun i => decide (F i > MAXV) := by
  unfold fvals
  rw [List.any_map, Bool.eq_iff_iff]
  simp only [List.any_eq_true, List.mem_range, Function.comp, Bool.and_eq_true, decide_eq_true_eq]
  constructor
  ·rintro ⟨i, h1, h2⟩; exact ⟨i, h1, h2.2⟩
  ·rintro ⟨i, h1, h2⟩; exact ⟨i, h1, by simpa using hf i (by omega), h2⟩
 rw [hany]
 by_cases a : 120 < p ∨ MAXV < I * p / P
 ·rw [if_pos a, if_pos (by rw [if_pos]; rcases a with a | a; exact .inl a; exact .inr (.inl a))]
 ·rw [if_neg a]
  by_cases b : 400 < s + p ∨ ((List.range (s + p)).any fun i => decide (F i > MAXV)) = true
  ·rw [if_pos (if_pos b), if_pos (if_pos (.inr (.inr b)))]
  ·rw [if_neg (show ¬ (if 400 < s + p ∨ ((List.range (s + p)).any fun i => decide (F i > MAXV)) = true then (3 : Int) else 0) = 3 by rw [if_neg b]; decide),
    if_neg (show ¬ (if 120 < p ∨ MAXV < I * p / P ∨ 400 < s + p ∨ ((List.range (s + p)).any fun i => decide (F i > MAXV)) = true then (3 : Int) else 0) = 3 by
     rw [if_neg (fun h => by rcases h with h | h | h; exact a (.inl h); exact a (.inr h); exact b h)]; decide)]

/-! ### what the references do -/
def perR (c : Cv) (start : Int) (p : Int) : Bool :=
  c.per.tmod p == 0 && (c.inc * p).tmod c.per == 0 && (List.range c.per.toNat).all fun i => atR c.vals c.per c.inc (start + i + p) == atR c.vals c.per c.inc (start + i) + c.inc * p / c.per
def leastR (c : Cv) : Nat := (findFrom (fun p => perR c (c.vals.length - c.per) p) (c.per.toNat) 1).toNat
def downR (c : Cv) (p : Int) (q : Int) : Nat → Nat
  | 0 => 0
  | s + 1 => if atR c.vals c.per c.inc ((s : Int) + p) = atR c.vals c.per c.inc s + q then downR c p q s else s + 1
def infL (l : List Int) : Int := findFrom (fun i => nth l i == INF) l.length 0
def normR (c : Cv) : Cv :=
  if infL c.vals = -1 then
    let p := leastR c
    let q := c.inc * p / c.per
    let s := downR c p q (c.vals.length - c.per).toNat
    ⟨(List.range (s + p)).map fun (t : Nat) => atR c.vals c.per c.inc (t : Int), p, q⟩
  else ⟨c.vals.take ((infL c.vals).toNat + 1), 1, 0⟩
def sortedB : Int → List Int → Bool
  | _, [] => true
  | a, x :: xs => decide (a ≤ x) && sortedB x xs
def validB (c : Cv) : Bool :=
  decide (1 ≤ c.vals.length) && decide (c.vals.length ≤ 400) && decide (1 ≤ c.per) && decide (c.per ≤ 120) && decide (c.per ≤ c.vals.length) && decide (0 ≤ c.inc) && decide (c.inc ≤ MAXV) &&
  (List.range c.vals.length).all (fun i => (nth c.vals i == INF || (decide (0 ≤ nth c.vals i) && decide (nth c.vals i ≤ MAXV))) && (i == 0 || decide (nth c.vals (i - 1) ≤ nth c.vals i))) &&
  (if nth c.vals (c.vals.length - 1) = INF then c.per == 1 && c.inc == 0 else decide (nth c.vals (c.vals.length - 1) ≤ nth c.vals (c.vals.length - c.per.toNat) + c.inc))
def madeR (c : Cv) : Cv × Int := if validB (normR c) then (normR c, 0) else (zcv, 3)

section
variable {F : Nat → Int} {S P : Nat} {I : Int}
theorem atR_fvals (hP : 0 < P) (hg : Grows F S P I) (hf : ∀ t, t < S + P → F t ≠ INF) (t : Nat) : atR (fvals F (S + P)) P I (t : Int) = F t := by
 unfold atR
 rw [fvals_len, if_neg (by omega)]
 by_cases h : t < S + P
 ·rw [if_pos (by omega), Int.toNat_natCast, fvals_nth F h]
 ·rw [if_neg (by omega)]
  obtain ⟨d, rfl⟩ : ∃ d, t = S + P + d := ⟨t - (S + P), by omega⟩
  have e1 : (((S + P + d : Nat) : Int) - ((S + P : Nat) : Int)) / (P : Int) = ((d / P : Nat) : Int) := by
   rw [show ((S + P + d : Nat) : Int) - ((S + P : Nat) : Int) = (d : Int) by omega]; rfl
  rw [e1]
  have h1 : d / P * P ≤ d := Nat.div_mul_le_self d P
  have h2 : d < (d / P + 1) * P := Nat.lt_mul_of_div_lt (Nat.lt_succ_self _) hP
  have h3 : (d / P + 1) * P = d / P * P + P := by rw [Nat.add_mul]; omega
  have e2 : (((S + P + d : Nat) : Int) - (((d / P : Nat) : Int) + 1) * (P : Int)).toNat = S + d - d / P * P := by
   have : (((d / P : Nat) : Int) + 1) * (P : Int) = (((d / P + 1) * P : Nat) : Int) := by simp
   rw [this, h3]; omega
  rw [e2, fvals_nth F (show S + d - d / P * P < S + P by omega)]
  have hne : ¬ F (S + d - d / P * P) = 4611686018427387904 := hf _ (by omega)
  rw [if_neg hne]
  have := hg.mul (d / P + 1) (S + d - d / P * P) (by omega)
  rw [show S + d - d / P * P + (d / P + 1) * P = S + P + d by omega] at this
  rw [this]; simp
theorem tmod_zero {a : Int} {b : Nat} (ha : 0 ≤ a) : (a.tmod (b : Int) == 0) = decide (a % (b : Int) = 0) := by
 rw [Int.tmod_eq_emod_of_nonneg ha]
 rfl
theorem perR_iff (hP : 0 < P) (hI : 0 ≤ I) (hg : Grows F S P I) (hf : ∀ t, t < S + P → F t ≠ INF) (p : Nat) : perR ⟨fvals F (S + P), P, I⟩ ((((fvals F (S + P)).length : Nat) : Int) - (P : Int)) (p : Int) = true ↔ PerOk F S P I p := by
 unfold perR PerOk
 dsimp only
 rw [fvals_len, show ((S + P : Nat) : Int) - (P : Int) = (S : Int) by omega, tmod_zero (by omega), tmod_zero (Int.mul_nonneg hI (by omega)), Int.toNat_natCast]
 simp only [Bool.and_eq_true, decide_eq_true_eq, List.all_eq_true, List.mem_range, beq_iff_eq]
 have e : ∀ i : Nat, atR (fvals F (S + P)) P I ((S : Int) + i + p) = F (S + i + p) ∧ atR (fvals F (S + P)) P I ((S : Int) + i) = F (S + i) := fun i => by
  have h1 := atR_fvals hP hg hf (S + i + p)
  have h2 := atR_fvals hP hg hf (S + i)
  simp only [Int.natCast_add] at h1 h2
  exact ⟨h1, h2⟩
 have e3 : ((P : Int) % (p : Int) = 0) ↔ P % p = 0 := by omega
 rw [e3, and_assoc]
 constructor
 ·rintro ⟨h1, h2, h3⟩
  refine ⟨h1, h2, fun t ht htp => ?_⟩
  have := h3 (t - S) (by omega)
  rw [(e _).1, (e _).2, show S + (t - S) = t by omega] at this
  exact this
 ·rintro ⟨h1, h2, h3⟩
  refine ⟨h1, h2, fun i hi => ?_⟩
  rw [(e i).1, (e i).2]
  exact h3 _ (by omega) (by omega)
theorem leastR_is (hP : 0 < P) (hI : 0 ≤ I) (hg : Grows F S P I) (hf : ∀ t, t < S + P → F t ≠ INF) : LeastN (PerOk F S P I) (leastR ⟨fvals F (S + P), P, I⟩) ∧ leastR ⟨fvals F (S + P), P, I⟩ ≤ P := by
 unfold leastR
 dsimp only
 rw [Int.toNat_natCast]
 rcases findFrom_cases (fun p => perR ⟨fvals F (S + P), P, I⟩ ((((fvals F (S + P)).length : Nat) : Int) - (P : Int)) (p : Int)) P 1 with ⟨i, h1, h2, h3, h4, h5⟩ | ⟨h1, h2⟩
 ·rw [h3, Int.toNat_natCast]
  refine ⟨⟨h1, (perR_iff hP hI hg hf i).1 h4, fun r hr hri hq => ?_⟩, by omega⟩
  have := h5 r hr hri
  rw [(perR_iff hP hI hg hf r).2 hq] at this
  cases this
 ·have := h2 P (by omega) (by omega)
  rw [(perR_iff hP hI hg hf P).2 (PerOk.self hP hg)] at this
  cases this
theorem downR_is (hP : 0 < P) (hg : Grows F S P I) (hf : ∀ t, t < S + P → F t ≠ INF) {p : Nat} {q : Int} : ∀ (s : Nat), Grows F s p q → Starts F p q (downR ⟨fvals F (S + P), P, I⟩ (p : Int) q s) ∧ downR ⟨fvals F (S + P), P, I⟩ (p : Int) q s ≤ s
 | 0, h => ⟨⟨h, .inl rfl⟩, Nat.le_refl _⟩
 | s + 1, h => by
  simp only [downR]
  have h1 := atR_fvals hP hg hf (s + p)
  have h2 := atR_fvals hP hg hf s
  simp only [Int.natCast_add] at h1
  rw [h1, h2]
  split
  ·rename_i he
   have := downR_is hP hg hf (p := p) (q := q) s (fun t ht => by
    by_cases hts : t = s
    ·subst hts; exact he
    ·exact h t (by omega))
   exact ⟨this.1, by omega⟩
  ·rename_i he
   exact ⟨⟨h, .inr (by simpa using he)⟩, Nat.le_refl _⟩
theorem infL_fvals (n : Nat) (hf : ∀ t, t < n → F t ≠ INF) : infL (fvals F n) = -1 := by
 unfold infL
 rw [fvals_len]
 rcases findFrom_cases (fun i => nth (fvals F n) i == INF) n 0 with ⟨i, h1, h2, h3, h4, h5⟩ | ⟨h1, h2⟩
 ·rw [fvals_nth F (by omega)] at h4
  exact absurd (by simpa using h4) (hf i (by omega))
 ·exact h1
theorem normR_nf (hP : 0 < P) (hI : 0 ≤ I) (hg : Grows F S P I) (hf : ∀ t, t < S + P → F t ≠ INF) : ∃ p s, NF F S P I p s ∧ p ≤ P ∧ s ≤ S ∧ normR ⟨fvals F (S + P), P, I⟩ = ⟨fvals F (s + p), p, I * p / P⟩ := by
 obtain ⟨h1, h2⟩ := leastR_is hP hI hg hf
 have h3 := h1.2.1.all hP hg
 obtain ⟨h4, h5⟩ := downR_is hP hg hf S h3
 refine ⟨_, _, ⟨h1, h4⟩, h2, h5, ?_⟩
 unfold normR
 dsimp only
 rw [if_pos (infL_fvals _ hf), fvals_len, show (((S + P : Nat) : Int) - (P : Int)).toNat = S by omega]
 congr 1
 unfold fvals
 apply List.map_congr_left
 intro t _
 exact atR_fvals hP hg hf t
theorem mono_le (hm : ∀ t, F t ≤ F (t + 1)) {a b : Nat} (h : a ≤ b) : F a ≤ F b := by
 induction b with
 | zero =>
  obtain rfl : a = 0 := by omega
  exact Int.le_refl _
 | succ b ih =>
  by_cases e : a = b + 1
  ·subst e; omega
  ·have := ih (by omega); have := hm b; omega
theorem madeR_nf (hP : 0 < P) (hI : 0 ≤ I) (hg : Grows F S P I) (hm : ∀ t, F t ≤ F (t + 1)) (h0 : 0 ≤ F 0) (hf : ∀ t, t < S + P → F t < INF) : ∃ p s, NF F S P I p s ∧ p ≤ P ∧ s ≤ S ∧ madeR ⟨fvals F (S + P), P, I⟩ = nfC F p s (I * p / P) := by
 have hne : ∀ t, t < S + P → F t ≠ INF := fun t ht => by have := hf t ht; omega
 obtain ⟨p, s, hnf, h1, h2, h3⟩ := normR_nf hP hI hg hne
 refine ⟨p, s, hnf, h1, h2, ?_⟩
 unfold madeR
 rw [h3]
 have hp := hnf.least.1
 have hq : 0 ≤ I * (p : Int) / (P : Int) := Int.ediv_nonneg (Int.mul_nonneg hI (by omega)) (by omega)
 have hgr := hnf.starts.1 s (Nat.le_refl _)
 generalize I * (p : Int) / (P : Int) = q at hq hgr ⊢
 have hnn : ∀ t, 0 ≤ F t := fun t => by have := mono_le hm (Nat.zero_le t); omega
 have hval : validB ⟨fvals F (s + p), p, q⟩ = decide (¬ nfE F p s q = 3) := by
  unfold validB nfE
  dsimp only
  rw [fvals_len, fvals_nth F (show s + p - 1 < s + p by omega), if_neg (hne _ (by omega)), Int.toNat_natCast, show s + p - p = s by omega, fvals_nth F (show s < s + p by omega), ← hgr]
  have hlast : decide (F (s + p - 1) ≤ F (s + p)) = true := decide_eq_true (mono_le hm (by omega))
  rw [hlast]
  have hall : ((List.range (s + p)).all fun i => (nth (fvals F (s + p)) i == INF || (decide (0 ≤ nth (fvals F (s + p)) i) && decide (nth (fvals F (s + p)) i ≤ MAXV))) && (i == 0 || decide (nth (fvals F (s + p)) (i - 1) ≤ nth (fvals F (s + p)) i))) = !((List.range (s + p)).any fun i => decide (F i > MAXV)) := by
   rw [List.all_eq_not_any_not]
   congr 1
   rw [Bool.eq_iff_iff]
   simp only [List.any_eq_true, List.mem_range]
   constructor
   ·rintro ⟨i, hi, h⟩
    refine ⟨i, hi, ?_⟩
    rw [fvals_nth F hi] at h
    have e1 : (F i == INF) = false := by simpa using hne i (by omega)
    have e2 : decide (0 ≤ F i) = true := decide_eq_true (hnn i)
    have e3 : (i == 0 || decide (nth (fvals F (s + p)) (i - 1) ≤ F i)) = true := by
     by_cases hi0 : i = 0
     ·simp [hi0]
     ·rw [fvals_nth F (by omega)]; simp [mono_le hm (show i - 1 ≤ i by omega)]
    rw [e1, e2, e3] at h
    simp at h
    exact decide_eq_true (by omega)
   ·rintro ⟨i, hi, h⟩
    refine ⟨i, hi, ?_⟩
    rw [fvals_nth F hi]
    have e1 : (F i == INF) = false := by simpa using hne i (by omega)
    have h' := of_decide_eq_true h
    have e4 : decide (F i ≤ MAXV) = false := decide_eq_false (by omega)
    rw [e1, e4]; simp
  rw [hall]
  generalize ((List.range (s + p)).any fun i => decide (F i > MAXV)) = b
  rw [Bool.eq_iff_iff]
  simp only [Bool.and_eq_true, decide_eq_true_eq, Bool.not_eq_true', and_true]
  constructor
  ·rintro ⟨⟨⟨⟨⟨⟨⟨a1, a2⟩, a3⟩, a4⟩, a5⟩, a6⟩, a7⟩, a8⟩ h
   rw [if_neg] at h
   ·omega
   ·rintro (h | h | h | h)
    ·omega
    ·omega
    ·omega
    ·rw [a8] at h; cases h
  ·intro h
   have h' : ¬ (120 < p ∨ MAXV < q ∨ 400 < s + p ∨ b = true) := fun hh => h (if_pos hh)
   refine ⟨⟨⟨⟨⟨⟨⟨by omega, by omega⟩, by omega⟩, by omega⟩, by omega⟩, hq⟩, by omega⟩, ?_⟩
   cases b with
   | false => rfl
   | true => exact absurd (.inr (.inr (.inr rfl))) h'
 rw [hval]
 unfold nfC
 by_cases h : nfE F p s q = 3
 ·rw [if_pos h, if_neg (by simp [h])]
 ·rw [if_neg h, if_pos (by simp [h])]
/-- the program's normal form is the references', wherever they begin -/
theorem build_made {S' : Nat} (hP : 0 < P) (hI : 0 ≤ I) (hg : Grows F S P I) (hg' : Grows F S' P I) (hm : ∀ t, F t ≤ F (t + 1)) (h0 : 0 ≤ F 0) (hf : ∀ t, t < S + P → F t < INF) (hf' : ∀ t, t < S' + P → F t < INF) : finL (fvals F (S + P)) S P I = madeR ⟨fvals F (S' + P), P, I⟩ := by
 have hne : ∀ t, t < S + P → F t ≠ INF := fun t ht => by have := hf t ht; omega
 obtain ⟨p, s, h1, _, _, h2⟩ := finL_nf hP hg hne
 obtain ⟨p', s', h3, _, _, h4⟩ := madeR_nf hP hI hg' hm h0 hf'
 obtain ⟨rfl, rfl⟩ := h1.unique hP hg hg' h3
 rw [h2, h4]
theorem mbuild_fin (hf : ∀ t, t < S + P → F t ≠ INF) : mbuild F S P I = finL (fvals F (S + P)) S P I := by
 unfold mbuild
 rw [if_pos]
 unfold infAt
 rcases findFrom_cases (fun t => F t == INF) (S + P) 0 with ⟨i, h1, h2, h3, h4, h5⟩ | ⟨h1, h2⟩
 ·exact absurd (by simpa using h4) (hf i (by omega))
 ·exact h1
end
end Go.Proofs.YthpblaoehlgpfaaGreat.M

/- Curves of schedulers, plain: sizes, rounds, what a class is left. No condition. -/
namespace Go.Proofs.YthpblaoehlgpfaaGreat.M
open Go Go.Proofs.YthpblaoehlgpfaaGreat.K

structure Sz where
  least : Int
  most : Int
instance instSz : Inhabited Sz := ⟨⟨0, 0⟩⟩
def encZ (s : Sz) : List Value := [.int .i64 s.least, .int .i64 s.most]
def zOk (z : List Sz) : Bool := z.all fun s => decide (0 ≤ s.least) && decide (s.least ≤ s.most) && decide (s.most ≤ 1500)
theorem zOk_iff {z : List Sz} : zOk z = true ↔ ∀ s ∈ z, 0 ≤ s.least ∧ s.least ≤ s.most ∧ s.most ≤ 1500 := by
 unfold zOk
 simp only [List.all_eq_true, Bool.and_eq_true, decide_eq_true_eq, and_assoc]
def chk18 (cap cls : Int) (z : List Sz) : Int := if cap < 1 ∨ 4000 < cap ∨ (z.length : Int) < 1 ∨ (6 : Int) < z.length ∨ zOk z = false ∨ cls < 0 ∨ (z.length : Int) ≤ cls then 2 else 0
def chkW (hi cap cls : Int) (w : List Int) (z : List Sz) : Int := if chk18 cap cls z ≠ 0 then 2 else if w.length ≠ z.length ∨ okW hi w = false then 2 else 0
theorem chk18_vals (cap cls : Int) (z : List Sz) : chk18 cap cls z = 0 ∨ chk18 cap cls z = 2 := by unfold chk18; split <;> simp
theorem chkW_ok {hi cap cls : Int} {w : List Int} {z : List Sz} (h : chkW hi cap cls w z = 0) : 1 ≤ cap ∧ cap ≤ 4000 ∧ 0 ≤ cls ∧ cls < z.length ∧ z.length ≤ 6 ∧ w.length = z.length ∧ (∀ x ∈ w, 1 ≤ x ∧ x ≤ hi) ∧ ∀ s ∈ z, 0 ≤ s.least ∧ s.least ≤ s.most ∧ s.most ≤ 1500 := by
 unfold chkW at h
 split at h
 ·omega
 ·rename_i h1
  split at h
  ·omega
  ·rename_i h2
   unfold chk18 at h1
   split at h1
   ·omega
   ·rename_i h3
    have a1 : okW hi w = true := by
     cases hb : okW hi w with
     | true => rfl
     | false => exact absurd (.inr hb) h2
    have a2 : zOk z = true := by
     cases hb : zOk z with
     | true => rfl
     | false => exact absurd (.inr (.inr (.inr (.inr (.inl hb))))) h3
    refine ⟨by omega, by omega, by omega, by omega, by omega, ?_, okW_iff.1 a1, zOk_iff.1 a2⟩
    apply Classical.byContradiction
    intro hh; exact h2 (.inl hh)
/-- what others send in a round at most -/
def qSum (k : Int) (w : List Int) (z : List Sz) : Nat → Int
  | 0 => 0
  | n + 1 => qSum k w z n + (if (n : Int) ≠ k then nth w n * (nth z n).most else 0)
theorem qSum_bound {k : Int} {w : List Int} {z : List Sz} {hi : Int} (hw : ∀ x ∈ w, 1 ≤ x ∧ x ≤ hi) (hz : ∀ s ∈ z, 0 ≤ s.least ∧ s.least ≤ s.most ∧ s.most ≤ 1500) : ∀ n : Nat, n ≤ w.length → n ≤ z.length → 0 ≤ qSum k w z n ∧ qSum k w z n ≤ hi * 1500 * n
 | 0, _, _ => by simp [qSum]
 | n + 1, h1, h2 => by
  have ih := qSum_bound (k := k) hw hz n (by omega) (by omega)
  have a := hw _ (nth_mem (xs := w) (k := n) (by omega))
  have b := hz _ (nth_mem (xs := z) (k := n) (by omega))
  have c1 : 0 ≤ nth w n * (nth z n).most := Int.mul_nonneg (by omega) (by omega)
  have c2 : nth w n * (nth z n).most ≤ hi * 1500 := Int.mul_le_mul a.2 (by omega) (by omega) (by omega)
  have c3 : hi * 1500 * ((n + 1 : Nat) : Int) = hi * 1500 * (n : Int) + hi * 1500 := by rw [Int.natCast_add, Int.mul_add]; simp
  simp only [qSum]
  rw [c3]
  split <;> omega
def shortN (low cap : Nat) : Int := findFrom (fun s => decide (s / Nat.gcd s cap ≤ 120)) (120 * cap + 1 - low) low
def robinOthers (hi k : Int) (w : List Int) (z : List Sz) (own : Int) : Int :=
  if chkW hi 1 k w z ≠ 0 ∨ (nth z k.toNat).least < 1 ∨ own < 0 ∨ MAXV < own then 0 else qSum k w z w.length * (own / (nth w k.toNat * (nth z k.toNat).least) + 1)
/-- the least number that is enough -/
def leastY (H : Nat → Bool) (bound : Nat) : Nat := (findFrom H (bound + 1) 0).toNat
theorem leastY_is {H : Nat → Bool} {b : Nat} (h : H b = true) : leastY H b ≤ b ∧ H (leastY H b) = true ∧ ∀ j, j < leastY H b → H j = false := by
 unfold leastY
 rcases findFrom_cases H (b + 1) 0 with ⟨i, h1, h2, h3, h4, h5⟩ | ⟨_, h2⟩
 ·rw [h3, Int.toNat_natCast]
  exact ⟨by omega, h4, fun j hj => h5 j (by omega) hj⟩
 ·rw [h2 b (by omega) (by omega)] at h; cases h
def robinH (cap s r : Int) (t y : Nat) : Bool := decide ((y : Int) + (s - r) * ((y : Int) / r + 1) ≥ cap * t)
def robinF (cap s r : Int) (t : Nat) : Int := leastY (robinH cap s r t) (cap * t).toNat
def robinC (cap k : Int) (w : List Int) (z : List Sz) : Cv × Int :=
  if chkW 20 cap k w z ≠ 0 then (zcv, chkW 20 cap k w z) else if (nth z k.toNat).least < 1 then (zcv, 5) else
    let r := nth w k.toNat * (nth z k.toNat).least
    let s := shortN (r + qSum k w z w.length).toNat cap.toNat
    if s = -1 then (zcv, 3) else
      let p := s.toNat / Nat.gcd s.toNat cap.toNat
      mbuild (robinF cap s r) 0 p (cap * p / s * r)
theorem robinH_bound {cap s r : Int} (hr : 0 < r) (hs : r ≤ s) (t : Nat) (hc : 0 ≤ cap) : robinH cap s r t (cap * t).toNat = true := by
 unfold robinH
 have h1 : 0 ≤ cap * (t : Int) := Int.mul_nonneg hc (by omega)
 have h2 : 0 ≤ (s - r) * ((((cap * t).toNat : Nat) : Int) / r + 1) := Int.mul_nonneg (by omega) (by have := Int.ediv_nonneg (a := (((cap * t).toNat : Nat) : Int)) (b := r) (by omega) (by omega); omega)
 exact decide_eq_true (by omega)
theorem robinH_mono {cap s r : Int} (hr : 0 < r) (hs : r ≤ s) {t y y' : Nat} (h : robinH cap s r t y = true) (hy : y ≤ y') : robinH cap s r t y' = true := by
 unfold robinH at h ⊢
 have h0 := of_decide_eq_true h
 have h1 : (y : Int) / r ≤ (y' : Int) / r := Int.ediv_le_ediv hr (by omega)
 have h2 : (s - r) * ((y : Int) / r + 1) ≤ (s - r) * ((y' : Int) / r + 1) := Int.mul_le_mul_of_nonneg_left (by omega) (by omega)
 exact decide_eq_true (by omega)

/-! ### valid curves -/
theorem validB_iff {c : Cv} : validB c = true ↔ (1 ≤ c.vals.length ∧ c.vals.length ≤ 400 ∧ 1 ≤ c.per ∧ c.per ≤ 120 ∧ c.per ≤ c.vals.length ∧ 0 ≤ c.inc ∧ c.inc ≤ MAXV) ∧
  (∀ i, i < c.vals.length → (nth c.vals i = INF ∨ (0 ≤ nth c.vals i ∧ nth c.vals i ≤ MAXV)) ∧ (i = 0 ∨ nth c.vals (i - 1) ≤ nth c.vals i)) ∧
  (if nth c.vals (c.vals.length - 1) = INF then c.per = 1 ∧ c.inc = 0 else nth c.vals (c.vals.length - 1) ≤ nth c.vals (c.vals.length - c.per.toNat) + c.inc) := by
 unfold validB
 by_cases h : nth c.vals (c.vals.length - 1) = INF
 ·rw [if_pos h, if_pos h]
  simp only [Bool.and_eq_true, decide_eq_true_eq, List.all_eq_true, List.mem_range, Bool.or_eq_true, beq_iff_eq, and_assoc]
 ·rw [if_neg h, if_neg h]
  simp only [Bool.and_eq_true, decide_eq_true_eq, List.all_eq_true, List.mem_range, Bool.or_eq_true, beq_iff_eq, and_assoc]
theorem validB_false {c : Cv} (h : ¬ ((1 ≤ c.vals.length ∧ c.vals.length ≤ 400 ∧ 1 ≤ c.per ∧ c.per ≤ 120 ∧ c.per ≤ c.vals.length ∧ 0 ≤ c.inc ∧ c.inc ≤ MAXV) ∧
  (∀ i, i < c.vals.length → (nth c.vals i = INF ∨ (0 ≤ nth c.vals i ∧ nth c.vals i ≤ MAXV)) ∧ (i = 0 ∨ nth c.vals (i - 1) ≤ nth c.vals i)) ∧
  (if nth c.vals (c.vals.length - 1) = INF then c.per = 1 ∧ c.inc = 0 else nth c.vals (c.vals.length - 1) ≤ nth c.vals (c.vals.length - c.per.toNat) + c.inc))) : validB c = false := by
 rw [← Bool.not_eq_true, validB_iff]; exact h
end Go.Proofs.YthpblaoehlgpfaaGreat.M

/- Curves of schedulers, plain: what the walks of rounds, the first enough and the build want. No condition. -/
namespace Go.Proofs.YthpblaoehlgpfaaGreat.M
open Go Go.Proofs.YthpblaoehlgpfaaGreat.K

theorem findFrom_some {P : Nat → Bool} {k a i : Nat} (h1 : a ≤ i) (h2 : i < a + k) (hP : P i = true) (h : ∀ j, a ≤ j → j < i → P j = false) : findFrom P k a = i := by
 rcases findFrom_cases P k a with ⟨r, r1, r2, r3, r4, r5⟩ | ⟨_, r2⟩
 ·rcases Nat.lt_trichotomy i r with h5 | h5 | h5
  ·rw [r5 i h1 h5] at hP; cases hP
  ·subst h5; exact r3
  ·rw [h r r1 h5] at r4; cases r4
 ·rw [r2 i h1 h2] at hP; cases hP
theorem findFrom_none {P : Nat → Bool} {k a : Nat} (h : ∀ j, a ≤ j → j < a + k → P j = false) : findFrom P k a = -1 := by
 rcases findFrom_cases P k a with ⟨r, r1, r2, r3, r4, r5⟩ | ⟨r1, _⟩
 ·rw [h r r1 r2] at r4; cases r4
 ·exact r1
theorem gcd_step (x y : Nat) : Nat.gcd y (x % y) = Nat.gcd x y := by
 rw [Nat.gcd_comm y (x % y), ← Nat.gcd_rec, Nat.gcd_comm]
def shortP (cap : Nat) (s : Nat) : Bool := decide (s / Nat.gcd s cap ≤ 120)
theorem shortN_eq (low cap : Nat) : shortN low cap = findFrom (shortP cap) (120 * cap + 1 - low) low := rfl
theorem shortN_some {low cap s : Nat} (h1 : low ≤ s) (h2 : s ≤ 120 * cap) (h : s / Nat.gcd s cap ≤ 120) (hn : ∀ j, low ≤ j → j < s → ¬ j / Nat.gcd j cap ≤ 120) : shortN low cap = s := by
 rw [shortN_eq]; exact findFrom_some h1 (by omega) (decide_eq_true h) (fun j a b => decide_eq_false (hn j a b))
theorem shortN_none {low cap s : Nat} (h2 : 120 * cap < s) (hn : ∀ j, low ≤ j → j < s → ¬ j / Nat.gcd j cap ≤ 120) : shortN low cap = -1 := by
 rw [shortN_eq]; exact findFrom_none (fun j a b => decide_eq_false (hn j a (by omega)))
theorem shortN_cases (low cap : Nat) : shortN low cap = -1 ∨ ∃ s : Nat, shortN low cap = s ∧ low ≤ s ∧ s ≤ 120 * cap ∧ s / Nat.gcd s cap ≤ 120 := by
 rw [shortN_eq]
 rcases findFrom_cases (shortP cap) (120 * cap + 1 - low) low with ⟨r, r1, r2, r3, r4, r5⟩ | ⟨r1, _⟩
 ·exact .inr ⟨r, r3, r1, by omega, of_decide_eq_true r4⟩
 ·exact .inl r1
def rvR (s : Int) (cap : Nat) : Value := .tuple #[.int .i64 (if s = -1 then 0 else s), .int .i64 (if s = -1 then 0 else ((s.toNat / Nat.gcd s.toNat cap : Nat) : Int)), .bool (s != -1)]
def svR (s : Int) : Value := .tuple #[.int .i64 (if s = -1 then 0 else s), .bool (s != -1)]
theorem ne_m1 (s : Nat) : ((s : Int) != -1) = true := by rw [bne_iff_ne]; omega
theorem rvR_some (s cap : Nat) : rvR s cap = .tuple #[.int .i64 s, .int .i64 ((s / Nat.gcd s cap : Nat) : Int), .bool true] := by
 unfold rvR; rw [if_neg (by omega), if_neg (by omega), Int.toNat_natCast, ne_m1]
theorem leastY_eq {H : Nat → Bool} {b lo : Nat} (hb : H b = true) (h1 : H lo = true) (h2 : ∀ j, j < lo → H j = false) : leastY H b = lo := by
 obtain ⟨a1, a2, a3⟩ := leastY_is hb
 rcases Nat.lt_trichotomy lo (leastY H b) with h | h | h
 ·rw [a3 _ h] at h1; cases h1
 ·exact h.symm
 ·rw [h2 _ h] at a2; cases a2
def partV (F : Nat → Int) (t n : Nat) : List Int := fvals F t ++ List.replicate (n - t) 0
theorem partV_zero (F : Nat → Int) (n : Nat) : partV F 0 n = List.replicate n 0 := by simp [partV, fvals]
theorem partV_all (F : Nat → Int) (n : Nat) : partV F n n = fvals F n := by simp [partV]
theorem partV_len (F : Nat → Int) {t n : Nat} (h : t ≤ n) : (partV F t n).length = n := by simp [partV, fvals_len]; omega
theorem partV_take (F : Nat → Int) (t n : Nat) : (partV F t n).take t = fvals F t := by
 unfold partV; rw [List.take_append_of_le_length (by rw [fvals_len]; exact Nat.le_refl _)]; exact List.take_of_length_le (by rw [fvals_len]; exact Nat.le_refl _)
theorem partV_set (F : Nat → Int) {t n : Nat} (h : t < n) : (partV F t n).set t (F t) = partV F (t + 1) n := by
 unfold partV
 rw [List.set_append_right _ _ (by rw [fvals_len]; exact Nat.le_refl _), fvals_len, Nat.sub_self, show n - t = (n - (t + 1)) + 1 by omega, List.replicate_succ, List.set_cons_zero, fvals_snoc, List.append_assoc]
 rfl
theorem partV_nth (F : Nat → Int) {t k n : Nat} (h : t < k) : nth (partV F k n) t = F t := by
 have e : (partV F k n)[t]? = some (F t) := by
  unfold partV
  rw [List.getElem?_append_left (by rw [fvals_len]; exact h)]
  have := nth_get (xs := fvals F k) (i := t) (by rw [fvals_len]; exact h)
  rw [fvals_nth F h] at this
  exact this
 unfold nth; rw [List.getD_eq_getElem?_getD, e]; rfl
def cvV (f : Option Addr) (fc : Nat) (x : Cv × Int) : Value := .tuple #[.agg #[.slice f x.1.vals.length fc, .int .i64 x.1.per, .int .i64 x.1.inc], .int .i64 x.2]
def cuV (f : Option Addr) (fc : Nat) (x : Cv) : Value := .agg #[.slice f x.vals.length fc, .int .i64 x.per, .int .i64 x.inc]
theorem checkedE_vals (v : List Int) : checkedE v = 3 ∨ checkedE v = 0 := by unfold checkedE; split <;> simp
theorem checkedL_bad {v : List Int} {p q : Int} (h : checkedE v = 3) : checkedL v p q = (zcv, 3) := if_pos h
theorem checkedL_good {v : List Int} {p q : Int} (h : checkedE v ≠ 3) : checkedL v p q = (⟨v, p, q⟩, 0) := if_neg h
theorem checkedE_big {v : List Int} (h : 400 < v.length) : checkedE v = 3 := if_pos (.inl h)
theorem checkedE_one {v : List Int} {i : Nat} (hi : i < v.length) (h1 : nth v i ≠ INF) (h2 : MAXV < nth v i) : checkedE v = 3 :=
 if_pos (.inr (List.any_eq_true.2 ⟨_, nth_mem hi, by simp [h1, h2]⟩))
theorem checkedE_fine {v : List Int} (h : v.length ≤ 400) (hn : ∀ j, j < v.length → nth v j = INF ∨ nth v j ≤ MAXV) : checkedE v ≠ 3 := by
 unfold checkedE
 rw [if_neg]
 ·decide
 ·rintro (h1 | h1)
  ·omega
  ·obtain ⟨x, hx, h2⟩ := List.any_eq_true.1 h1
   obtain ⟨i, hi, rfl⟩ := List.getElem_of_mem hx
   have h3 := hn i hi
   rw [nth_eq hi] at h3
   simp at h2
   rcases h3 with h3 | h3
   ·exact h2.1 h3
   ·have := h2.2; omega
theorem infAt_some {F : Nat → Int} {n t : Nat} (ht : t < n) (h : F t = INF) (hn : ∀ j, j < t → F j ≠ INF) : infAt F n = t :=
 findFrom_some (Nat.zero_le _) (by omega) (by simp [h]) (fun j _ h2 => by simp [hn j h2])
theorem infAt_none {F : Nat → Int} {n : Nat} (hn : ∀ j, j < n → F j ≠ INF) : infAt F n = -1 :=
 findFrom_none (fun j _ h2 => by simp [hn j (by omega)])
theorem leastL_some {v : List Int} {inc : Int} {p : Nat} (h0 : 1 ≤ p) (h1 : p < v.length) (hp : leastOk v inc p = true) (hn : ∀ j, 1 ≤ j → j < p → leastOk v inc j = false) : leastL v inc = p := by
 unfold leastL
 rw [findFrom_some h0 (by omega) hp hn, if_neg (by omega), Int.toNat_natCast]
theorem leastL_none {v : List Int} {inc : Int} (h : ∀ j, 1 ≤ j → j < v.length → leastOk v inc j = false) : leastL v inc = v.length := by
 unfold leastL
 rw [if_pos (findFrom_none (fun j a b => h j a (by omega)))]
theorem leastL_pos {v : List Int} {inc : Int} (h : 0 < v.length) : 1 ≤ leastL v inc ∧ leastL v inc ≤ v.length := by
 unfold leastL
 rcases findFrom_cases (leastOk v inc) (v.length - 1) 1 with ⟨r, r1, r2, r3, r4, r5⟩ | ⟨r1, _⟩
 ·rw [r3, if_neg (by omega), Int.toNat_natCast]; omega
 ·rw [r1, if_pos rfl]; omega
/-- the pattern of `least`, one place of the row -/
def leastC (v : List Int) (inc : Int) (p i : Nat) : Bool := (if i + p < v.length then nth v (i + p) else nth v (i + p - v.length) + inc) == nth v i + inc * p / v.length
theorem leastOk_eq (v : List Int) (inc : Int) (p : Nat) : leastOk v inc p = (v.length % p == 0 && (inc * p) % v.length == 0 && (List.range v.length).all (leastC v inc p)) := rfl
theorem leastOk_no1 {v : List Int} {inc : Int} {p : Nat} (h : v.length % p ≠ 0 ∨ (inc * p) % v.length ≠ 0) : leastOk v inc p = false := by
 rw [leastOk_eq, ← Bool.not_eq_true]
 intro hh
 simp only [Bool.and_eq_true, beq_iff_eq] at hh
 rcases h with h | h
 ·exact h hh.1.1
 ·exact h hh.1.2
theorem leastOk_no2 {v : List Int} {inc : Int} {p i : Nat} (hi : i < v.length) (h : leastC v inc p i = false) : leastOk v inc p = false := by
 rw [leastOk_eq, ← Bool.not_eq_true]
 intro hh
 simp only [Bool.and_eq_true, List.all_eq_true, List.mem_range] at hh
 rw [hh.2 i hi] at h; cases h
theorem leastOk_yes {v : List Int} {inc : Int} {p : Nat} (h1 : v.length % p = 0) (h2 : (inc * p) % v.length = 0) (h3 : ∀ i, i < v.length → leastC v inc p i = true) : leastOk v inc p = true := by
 rw [leastOk_eq]
 simp only [Bool.and_eq_true, beq_iff_eq, List.all_eq_true, List.mem_range]
 exact ⟨⟨h1, h2⟩, h3⟩
end Go.Proofs.YthpblaoehlgpfaaGreat.M

/- The curve of weighted round robin, plain: it repeats itself, so that the program's and the references' forms are one. No condition. -/
namespace Go.Proofs.YthpblaoehlgpfaaGreat.M
open Go Go.Proofs.YthpblaoehlgpfaaGreat.K

theorem made_pre {F : Nat → Int} {S P : Nat} {I : Int} (hP : 0 < P ∧ P ≤ 10000) (hS : S ≤ 10000) (hI : 0 ≤ I ∧ I ≤ 549755813888) (hg : Grows F S P I) (hb : ∀ t, t ≤ S + P + P → 0 ≤ F t ∧ F t ≤ 10000000000000) :
  (∀ x ∈ fvals F (S + P), -2305843009213693952 ≤ x ∧ x ≤ 4611686018427387904) ∧
  perR ⟨fvals F (S + P), P, I⟩ (((fvals F (S + P)).length : Int) - P) P = true ∧
  (∀ t : Int, 0 ≤ t → t ≤ ((fvals F (S + P)).length : Int) + P → 0 ≤ atR (fvals F (S + P)) P I t ∧ atR (fvals F (S + P)) P I t ≤ 1000000000000000) ∧
  infL (fvals F (S + P)) = -1 ∧
  ((∀ x ∈ (normR ⟨fvals F (S + P), P, I⟩).vals, -2305843009213693952 ≤ x ∧ x ≤ 4611686018427387904) ∧ InR (normR ⟨fvals F (S + P), P, I⟩).per ∧ InR (normR ⟨fvals F (S + P), P, I⟩).inc) := by
 have hf : ∀ t, t < S + P → F t ≠ INF := fun t ht => by have := hb t (by omega); unfold INF; omega
 have hv : ∀ n, n ≤ S + P → ∀ x ∈ fvals F n, -2305843009213693952 ≤ x ∧ x ≤ 4611686018427387904 := fun n hn => all_of_nth (fun j hj => by
  rw [fvals_len] at hj
  rw [fvals_nth F hj]
  have := hb j (by omega)
  omega)
 refine ⟨hv _ (Nat.le_refl _), (perR_iff hP.1 hI.1 hg hf P).2 (PerOk.self hP.1 hg), fun t h0 h1 => ?_, infL_fvals _ hf, ?_⟩
 ·obtain ⟨n, rfl⟩ := Int.eq_ofNat_of_zero_le h0
  rw [fvals_len] at h1
  rw [atR_fvals hP.1 hg hf n]
  have := hb n (by omega)
  omega
 ·obtain ⟨p, s, h1, h2, h3, h4⟩ := normR_nf hP.1 hI.1 hg hf
  rw [h4]
  have hp := h1.least.1
  have a1 : 0 ≤ I * (p : Int) := Int.mul_nonneg hI.1 (by omega)
  have a2 : I * (p : Int) ≤ 549755813888 * 10000 := Int.mul_le_mul hI.2 (by omega) (by omega) (by omega)
  have a3 : 0 ≤ I * (p : Int) / (P : Int) := Int.ediv_nonneg a1 (by omega)
  have a4 : I * (p : Int) / (P : Int) ≤ 549755813888 * 10000 := Int.le_trans (Int.ediv_le_self _ a1) a2
  exact ⟨hv _ (by omega), by constructor <;> dsimp only <;> omega, by constructor <;> dsimp only <;> omega⟩

theorem robinH_shift {cap s : Int} {r p m : Nat} (hr : 0 < r) (hm : cap * (p : Int) = (m : Int) * s) (t y : Nat) : robinH cap s r (t + p) (y + m * r) = robinH cap s r t y := by
 unfold robinH
 have e1 : (((y + m * r : Nat) : Int)) / (r : Int) = (y : Int) / (r : Int) + m := by
  rw [Int.natCast_add, Int.natCast_mul]
  exact Int.add_mul_ediv_right _ _ (by omega)
 rw [e1]
 have e2 : (s - (r : Int)) * ((y : Int) / (r : Int) + (m : Int) + 1) = (s - (r : Int)) * ((y : Int) / (r : Int) + 1) + ((m : Int) * s - (m : Int) * (r : Int)) := by
  rw [show (y : Int) / (r : Int) + (m : Int) + 1 = ((y : Int) / (r : Int) + 1) + (m : Int) by omega, Int.mul_add, Int.sub_mul s (r : Int) (m : Int), Int.mul_comm s, Int.mul_comm (r : Int) (m : Int)]
 have e3 : cap * ((t + p : Nat) : Int) = cap * (t : Int) + (m : Int) * s := by rw [Int.natCast_add, Int.mul_add, hm]
 rw [e2, e3, Int.natCast_add, Int.natCast_mul]
 apply decide_eq_decide.2
 generalize (m : Int) * s = a
 generalize (m : Int) * (r : Int) = b
 generalize (s - (r : Int)) * ((y : Int) / (r : Int) + 1) = c
 omega
theorem robinH_low {cap s : Int} {r p m : Nat} (hr : 0 < r) (hs : (r : Int) ≤ s) (hc : 0 ≤ cap) (hm : cap * (p : Int) = (m : Int) * s) {t y : Nat} (hy : y < m * r) : robinH cap s r (t + p) y = false := by
 unfold robinH
 apply decide_eq_false
 have h1 : (y : Int) / (r : Int) + 1 ≤ m := by
  have : y / r < m := Nat.div_lt_of_lt_mul (by rw [Nat.mul_comm]; exact hy)
  have e : (y : Int) / (r : Int) = ((y / r : Nat) : Int) := rfl
  omega
 have h2 : (s - (r : Int)) * ((y : Int) / (r : Int) + 1) ≤ (s - (r : Int)) * (m : Int) := Int.mul_le_mul_of_nonneg_left h1 (by omega)
 have e2 : (s - (r : Int)) * (m : Int) = (m : Int) * s - ((m * r : Nat) : Int) := by rw [Int.sub_mul, Int.mul_comm s, Int.mul_comm (r : Int), Int.natCast_mul]
 have e3 : cap * ((t + p : Nat) : Int) = cap * (t : Int) + (m : Int) * s := by rw [Int.natCast_add, Int.mul_add, hm]
 have h3 : 0 ≤ cap * (t : Int) := Int.mul_nonneg hc (by omega)
 rw [e3]
 rw [e2] at h2
 generalize (m : Int) * s = a at *
 generalize (s - (r : Int)) * ((y : Int) / (r : Int) + 1) = c at *
 omega
theorem robinF_grows {cap s r : Int} {p m : Nat} (hc : 0 ≤ cap) (hr : 0 < r) (hs : r ≤ s) (hm : cap * (p : Int) = (m : Int) * s) : Grows (robinF cap s r) 0 p ((m : Int) * r) := by
 intro t _
 obtain ⟨rn, rfl⟩ := Int.eq_ofNat_of_zero_le (show 0 ≤ r by omega)
 have hrn : 0 < rn := by omega
 obtain ⟨a1, a2, a3⟩ := leastY_is (robinH_bound hr hs t hc)
 unfold robinF
 rw [leastY_eq (robinH_bound hr hs (t + p) hc) (lo := leastY (robinH cap s rn t) (cap * t).toNat + m * rn) (by rw [robinH_shift hrn hm]; exact a2) (fun j hj => ?_)]
 ·rw [Int.natCast_add, Int.natCast_mul]
 ·by_cases h : j < m * rn
  ·exact robinH_low hrn hs hc hm h
  ·obtain ⟨y, rfl⟩ : ∃ y, j = y + m * rn := ⟨j - m * rn, by omega⟩
   rw [robinH_shift hrn hm]
   exact a3 y (by omega)
theorem robinH_less {cap s r : Int} (hc : 0 ≤ cap) {t y : Nat} (h : robinH cap s r (t + 1) y = true) : robinH cap s r t y = true := by
 unfold robinH at h ⊢
 have h0 := of_decide_eq_true h
 have h1 : cap * ((t + 1 : Nat) : Int) = cap * (t : Int) + cap := by rw [Int.natCast_add, Int.mul_add]; simp
 rw [h1] at h0
 exact decide_eq_true (by omega)
theorem robinF_mono {cap s r : Int} (hc : 0 ≤ cap) (hr : 0 < r) (hs : r ≤ s) (t : Nat) : robinF cap s r t ≤ robinF cap s r (t + 1) := by
 obtain ⟨a1, a2, a3⟩ := leastY_is (robinH_bound hr hs t hc)
 obtain ⟨b1, b2, b3⟩ := leastY_is (robinH_bound hr hs (t + 1) hc)
 unfold robinF
 apply Int.ofNat_le.2
 apply Classical.byContradiction
 intro h
 have := a3 _ (Nat.lt_of_not_le h)
 rw [robinH_less hc b2] at this
 cases this
theorem robinF_bound {cap s r : Int} (hc : 0 ≤ cap) (hr : 0 < r) (hs : r ≤ s) (t : Nat) : 0 ≤ robinF cap s r t ∧ robinF cap s r t ≤ cap * t := by
 obtain ⟨a1, a2, a3⟩ := leastY_is (robinH_bound hr hs t hc)
 unfold robinF
 have : 0 ≤ cap * (t : Int) := Int.mul_nonneg hc (by omega)
 omega
/-- all of it, for the walks -/
structure RobOk (cap k : Int) (w : List Int) (z : List Sz) (cn kn m s p mm : Nat) (r : Int) : Prop where
  hcap : cap = cn
  hk : k = kn
  c1 : 1 ≤ cn ∧ cn ≤ 4000
  k1 : kn < z.length
  zl : z.length ≤ 6
  wl : w.length = z.length
  hw : ∀ x ∈ w, 1 ≤ x ∧ x ≤ 20
  hz : ∀ s ∈ z, 0 ≤ s.least ∧ s.least ≤ s.most ∧ s.most ≤ 1500
  hr : r = nth w kn * (nth z kn).least
  r1 : 1 ≤ r ∧ r ≤ 30000
  hm : (m : Int) = r + qSum k w z w.length
  m1 : m ≤ 210000
  hs : shortN m cn = s
  s1 : r ≤ s ∧ s ≤ 120 * cn
  hp : p = s / Nat.gcd s cn
  p1 : 1 ≤ p ∧ p ≤ 120
  hmm : (cn : Int) * p = mm * s
  mm1 : mm ≤ 4000
  hinc : (cn : Int) * p / s * r = mm * r
theorem mulB {a b A B : Int} (h1 : 0 ≤ a ∧ a ≤ A) (h2 : 0 ≤ b ∧ b ≤ B) : 0 ≤ a * b ∧ a * b ≤ A * B :=
 ⟨Int.mul_nonneg h1.1 h2.1, Int.mul_le_mul h1.2 h2.2 h2.1 (by omega)⟩
theorem rob_cases {cap k : Int} {w : List Int} {z : List Sz} (h0 : chkW 20 cap k w z = 0) (h1 : ¬ (nth z k.toNat).least < 1) :
    ∃ (cn kn m : Nat) (r : Int), cap = cn ∧ k = kn ∧ (1 ≤ cn ∧ cn ≤ 4000) ∧ kn < z.length ∧ z.length ≤ 6 ∧ w.length = z.length ∧ (∀ x ∈ w, 1 ≤ x ∧ x ≤ 20) ∧ (∀ s ∈ z, 0 ≤ s.least ∧ s.least ≤ s.most ∧ s.most ≤ 1500) ∧
      r = nth w kn * (nth z kn).least ∧ (1 ≤ r ∧ r ≤ 30000) ∧ (m : Int) = r + qSum k w z w.length ∧ m ≤ 210000 ∧
      ((shortN m cn = -1 ∧ robinC cap k w z = (zcv, 3)) ∨ ∃ s p mm, RobOk cap k w z cn kn m s p mm r ∧ robinC cap k w z = mbuild (robinF cap s r) 0 p (cap * p / s * r)) := by
  obtain ⟨c1, c2, k0, k1, zl, wl, hw, hz⟩ := chkW_ok h0
  obtain ⟨cn, rfl⟩ := Int.eq_ofNat_of_zero_le (show 0 ≤ cap by omega)
  obtain ⟨kn, rfl⟩ := Int.eq_ofNat_of_zero_le k0
  have hkn : kn < z.length := by omega
  rw [Int.toNat_natCast] at h1
  have hwk := hw _ (nth_mem (xs := w) (k := kn) (by omega))
  have hzk := hz _ (nth_mem hkn)
  have hr := mulB (a := nth w kn) (b := (nth z kn).least) (A := 20) (B := 1500) (by omega) (by omega)
  have hr1 : 1 ≤ nth w kn * (nth z kn).least := by
    have := Int.mul_le_mul (a := 1) (b := 1) (c := nth w kn) (d := (nth z kn).least) (by omega) (by omega) (by omega) (by omega)
    omega
  have hq := qSum_bound (k := (kn : Int)) hw hz w.length (Nat.le_refl _) (by omega)
  obtain ⟨m, hm⟩ := Int.eq_ofNat_of_zero_le (show 0 ≤ nth w kn * (nth z kn).least + qSum kn w z w.length by omega)
  have hm1 : m ≤ 210000 := by omega
  have hrob : robinC cn kn w z = if shortN m cn = -1 then (zcv, 3) else mbuild (robinF cn (shortN m cn) (nth w kn * (nth z kn).least)) 0 ((shortN m cn).toNat / Nat.gcd (shortN m cn).toNat cn) ((cn : Int) * (((shortN m cn).toNat / Nat.gcd (shortN m cn).toNat cn : Nat) : Int) / shortN m cn * (nth w kn * (nth z kn).least)) := by
    unfold robinC
    rw [if_neg (fun h => h h0), Int.toNat_natCast, if_neg h1]
    dsimp only
    rw [hm, Int.toNat_natCast, Int.toNat_natCast]
  refine ⟨cn, kn, m, nth w kn * (nth z kn).least, rfl, rfl, by omega, hkn, by omega, wl, hw, hz, rfl, ⟨hr1, by omega⟩, hm.symm, hm1, ?_⟩
  rcases shortN_cases m cn with h | ⟨s, e, s1, s2, s3⟩
  · exact .inl ⟨h, by rw [hrob, if_pos h]⟩
  · right
    have hg : 0 < Nat.gcd s cn := Nat.gcd_pos_of_pos_right _ (by omega)
    have hd1 : Nat.gcd s cn ∣ s := Nat.gcd_dvd_left _ _
    have hd2 : Nat.gcd s cn ∣ cn := Nat.gcd_dvd_right _ _
    have hs0 : 0 < s := by omega
    have e1 : cn * (s / Nat.gcd s cn) = cn / Nat.gcd s cn * s := by
      rw [← Nat.mul_div_assoc _ hd1, Nat.div_mul_right_comm hd2]
    have e2 : (cn : Int) * ((s / Nat.gcd s cn : Nat) : Int) = ((cn / Nat.gcd s cn : Nat) : Int) * (s : Int) := by
      rw [← Int.natCast_mul, e1, Int.natCast_mul]
    have e3 : (cn : Int) * ((s / Nat.gcd s cn : Nat) : Int) / (s : Int) = ((cn / Nat.gcd s cn : Nat) : Int) := by
      rw [e2]; exact Int.mul_ediv_cancel _ (by omega)
    refine ⟨s, s / Nat.gcd s cn, cn / Nat.gcd s cn, ?_, ?_⟩
    · exact { hcap := rfl, hk := rfl, c1 := by omega, k1 := hkn, zl := by omega, wl := wl, hw := hw, hz := hz, hr := rfl, r1 := ⟨hr1, by omega⟩, hm := hm.symm, m1 := hm1, hs := e, s1 := ⟨by omega, s2⟩, hp := rfl,
              p1 := ⟨Nat.div_pos (Nat.le_of_dvd hs0 hd1) hg, s3⟩, hmm := e2, mm1 := Nat.le_trans (Nat.div_le_self _ _) (by omega), hinc := by rw [e3] }
    · rw [hrob, e, if_neg (by omega), Int.toNat_natCast]
theorem RobOk.facts {cap k : Int} {w : List Int} {z : List Sz} {cn kn m s p mm : Nat} {r : Int} (h : RobOk cap k w z cn kn m s p mm r) :
  Grows (robinF cap s r) 0 p (cap * p / s * r) ∧ (0 ≤ cap * p / s * r ∧ cap * p / s * r ≤ 120000000) ∧ (∀ t, t ≤ 240 → 0 ≤ robinF cap s r t ∧ robinF cap s r t ≤ 960000) ∧
  mbuild (robinF cap s r) 0 p (cap * p / s * r) = madeR ⟨fvals (robinF cap s r) p, p, cap * p / s * r⟩ := by
 obtain ⟨rfl, rfl, c1, k1, zl, wl, hw, hz, hr, r1, hm, m1, hs, s1, hp, p1, hmm, mm1, hinc⟩ := h
 have hg : Grows (robinF cn s r) 0 p ((cn : Int) * p / s * r) := by rw [hinc]; exact robinF_grows (by omega) (by omega) s1.1 hmm
 have hi : 0 ≤ (cn : Int) * p / s * r ∧ (cn : Int) * p / s * r ≤ 120000000 := by
  rw [hinc]
  have := mulB (a := (mm : Int)) (b := r) (A := 4000) (B := 30000) (by omega) (by omega)
  omega
 have hb : ∀ t : Nat, t ≤ 240 → 0 ≤ robinF cn s r t ∧ robinF cn s r t ≤ 960000 := fun t ht => by
  have h1 := robinF_bound (cap := (cn : Int)) (s := (s : Int)) (r := r) (by omega) (by omega) s1.1 t
  have h2 := mulB (a := (cn : Int)) (b := (t : Int)) (A := 4000) (B := 240) (by omega) (by omega)
  omega
 refine ⟨hg, hi, hb, ?_⟩
 have hf : ∀ t, t < 0 + p → robinF cn s r t < INF := fun t ht => by have := hb t (by omega); unfold INF; omega
 rw [mbuild_fin (fun t ht => by have := hf t ht; omega), build_made (S' := 0) (by omega) hi.1 hg hg (fun t => robinF_mono (by omega) (by omega) s1.1 t) (hb 0 (by omega)).1 hf hf]
 simp only [Nat.zero_add]
end Go.Proofs.YthpblaoehlgpfaaGreat.M

/- Weighted round robin while a class is backlogged, plain: what the others take. No condition. -/
namespace Go.Proofs.YthpblaoehlgpfaaGreat.M
open Go Go.Proofs.YthpblaoehlgpfaaGreat.K

section
variable {w : List Int} {z : List Sz} {k : Nat}
/-- what the others may still take, from the beginning of class c on until class k -/
def restR (w : List Int) (z : List Sz) (k c : Nat) : Int := if c ≤ k then qSum k w z k - qSum k w z c else qSum k w z w.length - qSum k w z c + qSum k w z k
def mosts (w : List Int) (z : List Sz) (c : Nat) : Int := nth w c * (nth z c).most
theorem qSum_succ (i : Nat) : qSum k w z (i + 1) = qSum k w z i + (if i ≠ k then mosts w z i else 0) := by
 simp only [qSum, mosts]
 by_cases h : i = k
 ·rw [if_neg (by omega), if_neg (by omega)]
 ·rw [if_pos (by omega), if_pos h]
theorem restR_self : restR w z k k = 0 := by unfold restR; rw [if_pos (Nat.le_refl _)]; omega
theorem restR_next {c : Nat} (hc : c < w.length) (hk : k < w.length) (hne : c ≠ k) : restR w z k ((c + 1) % w.length) = restR w z k c - mosts w z c := by
 have hs := qSum_succ (w := w) (z := z) (k := k) c
 rw [if_pos hne] at hs
 by_cases hl : c + 1 < w.length
 ·rw [Nat.mod_eq_of_lt hl]
  unfold restR
  by_cases h : c ≤ k
  ·rw [if_pos h, if_pos (by omega), hs]; omega
  ·rw [if_neg h, if_neg (by omega), hs]; omega
 ·have e : c + 1 = w.length := by omega
  rw [e, Nat.mod_self]
  unfold restR
  rw [if_pos (Nat.zero_le _), if_neg (by omega), ← e, hs]
  have h0 : qSum k w z 0 = 0 := rfl
  omega
theorem restR_first (hk : k < w.length) : restR w z k ((k + 1) % w.length) = qSum k w z w.length := by
 have hs := qSum_succ (w := w) (z := z) (k := k) k
 rw [if_neg (by omega)] at hs
 by_cases hl : k + 1 < w.length
 ·rw [Nat.mod_eq_of_lt hl]
  unfold restR
  rw [if_neg (by omega), hs]; omega
 ·have e : k + 1 = w.length := by omega
  rw [e, Nat.mod_self]
  unfold restR
  rw [if_pos (Nat.zero_le _), ← e, hs]
  have h0 : qSum k w z 0 = 0 := rfl
  omega
/-- in class c, l packets of whose visit are to come and op bytes of the open one -/
def JR (w : List Int) (z : List Sz) (k c : Nat) (l op own oth : Int) : Prop :=
  c < w.length ∧ 0 ≤ l ∧
  if c = k then ∃ f : Nat, oth ≤ qSum k w z w.length * f ∧ nth w k * (nth z k).least * f ≤ own + op + l * (nth z k).least ∧ nth w k * (nth z k).least * ((f : Int) - 1) ≤ own
  else ∃ f : Nat, oth + op + l * (nth z c).most + (restR w z k c - mosts w z c) ≤ qSum k w z w.length * ((f : Int) + 1) ∧ nth w k * (nth z k).least * f ≤ own
theorem JR.next (hw : ∀ x ∈ w, 1 ≤ x) (hz : ∀ c, c < w.length → 0 ≤ (nth z c).least ∧ (nth z c).least ≤ (nth z c).most) (hk : k < w.length) (hn : 2 ≤ w.length) {c : Nat} {l own oth : Int} (h : JR w z k c l 0 own oth) (hl : c = k → l ≤ 0) :
  JR w z k ((c + 1) % w.length) (nth w ((c + 1) % w.length)) 0 own oth := by
 obtain ⟨h1, h2, h3⟩ := h
 have hlt : (c + 1) % w.length < w.length := Nat.mod_lt _ (by omega)
 have hwc := hw _ (nth_mem hlt)
 refine ⟨hlt, by omega, ?_⟩
 by_cases hck : c = k
 ·subst hck
  rw [if_pos rfl] at h3
  obtain ⟨f, f1, f2, f3⟩ := h3
  have hne : (c + 1) % w.length ≠ c := by
   by_cases hh : c + 1 < w.length
   ·rw [Nat.mod_eq_of_lt hh]; omega
   ·rw [show c + 1 = w.length by omega, Nat.mod_self]; omega
  rw [if_neg hne]
  refine ⟨f, ?_, ?_⟩
  ·rw [restR_first hk]
   show oth + 0 + mosts w z ((c + 1) % w.length) + (_ - mosts w z ((c + 1) % w.length)) ≤ _
   rw [Int.mul_add, Int.mul_one]; omega
  ·have : l = 0 := by have := hl rfl; omega
   rw [this] at f2
   simpa using f2
 ·rw [if_neg hck] at h3
  obtain ⟨f, f1, f2⟩ := h3
  have hr := restR_next (z := z) h1 hk hck
  have hl0 : 0 ≤ l * (nth z c).most := Int.mul_nonneg h2 (by have := hz c h1; omega)
  by_cases hnk : (c + 1) % w.length = k
  ·rw [if_pos hnk, hnk]
   rw [hnk, restR_self] at hr
   refine ⟨f + 1, ?_, ?_, ?_⟩
   ·have : ((f + 1 : Nat) : Int) = (f : Int) + 1 := by omega
    rw [this]; omega
   ·have : ((f + 1 : Nat) : Int) = (f : Int) + 1 := by omega
    rw [this, Int.mul_add, Int.mul_one]; omega
   ·have : ((f + 1 : Nat) : Int) - 1 = (f : Int) := by omega
    rw [this]; exact f2
  ·rw [if_neg hnk]
   refine ⟨f, ?_, f2⟩
   show oth + 0 + mosts w z ((c + 1) % w.length) + (_ - mosts w z ((c + 1) % w.length)) ≤ _
   omega
end
end Go.Proofs.YthpblaoehlgpfaaGreat.M

/- Weighted round robin: the invariant of the rounds while a class is backlogged, plain. No condition. -/
namespace Go.Proofs.YthpblaoehlgpfaaGreat.M
open Go Go.Proofs.YthpblaoehlgpfaaGreat.K

/-- an invariant of every run: of the choice's state, the open packet and what is left of it -/
structure Vis {σ : Type} (ps : List Pkt) (ch : MS → σ → Int × Nat × σ) (good : MS → σ → Prop) (V : σ → Int → Int → Prop) : Prop where
  pick : ∀ ms sg r, good ms sg → ms.begun.length = ps.length → V sg (-1) r → 0 ≤ (ch ms sg).1 → V (ch ms sg).2.2 (ch ms sg).1 (nth ps (ch ms sg).1.toNat).size
  idle : ∀ ms sg r r', good ms sg → ms.begun.length = ps.length → V sg (-1) r → (ch ms sg).1 < 0 → V (ch ms sg).2.2 (ch ms sg).1 r'
  send : ∀ (sg : σ) (cur rest n : Int), 0 ≤ cur → cur < ps.length → 1 ≤ n → n ≤ rest → V sg cur rest → V sg (if rest - n = 0 then -1 else cur) (rest - n)
  none : ∀ sg c c' r r', c < 0 → c' < 0 → V sg c r → V sg c' r'
section
variable {σ : Type} {ps : List Pkt} {ch : MS → σ → Int × Nat × σ} {good : MS → σ → Prop} {rel : Nat → Nat → Prop} {classes k : Nat} {V : σ → Int → Int → Prop}
theorem Vis.inner (hg : Fair ps ch good rel) (hV : Vis ps ch good V) (hs : ∀ p ∈ ps, 1 ≤ p.size) (hfl : ∀ p ∈ ps, 0 ≤ p.flow ∧ p.flow < classes) {t : Nat} : ∀ (j : Nat) (s : RS σ), Wk ps classes good rel (t + 1) s → s.ms.now = t → 0 ≤ s.ms.left → V s.sg s.cur s.rest →
  V (inner ps ch t j s).sg (inner ps ch t j s).cur (inner ps ch t j s).rest
 | 0, s, hw, hn, hl, h => h
 | j + 1, s, hw, hn, hl, h => by
  simp only [M.inner]
  by_cases hl0 : s.ms.left ≤ 0
  ·rw [if_pos hl0]; exact h
  ·rw [if_neg hl0]
   have hw1 := hw.pickup hg hs
   obtain ⟨e1, e2, e3, e4⟩ := pickup_same ps ch s
   have h1 : V (M.pickup ps ch s).sg (M.pickup ps ch s).cur (M.pickup ps ch s).rest := by
    unfold M.pickup
    by_cases hcur : 0 ≤ s.cur
    ·rw [if_pos hcur]; exact h
    ·rw [if_neg hcur]
     have h0 := hV.none s.sg s.cur (-1) s.rest s.rest (by omega) (by omega) h
     by_cases hr : (ch s.ms s.sg).1 < 0
     ·simp only [hr, if_true]
      exact hV.idle _ _ _ _ hw.good hw.blen h0 hr
     ·simp only [hr, if_false]
      exact hV.pick _ _ _ hw.good hw.blen h0 (by omega)
   by_cases hcn : (M.pickup ps ch s).cur < 0
   ·rw [if_pos hcn]; exact h1
   ·rw [if_neg hcn]
    obtain ⟨c1, c2, c3⟩ := hw1.cur (by omega)
    obtain ⟨g1, g2, g3, g4, g5, g6⟩ := hw1.send hfl hg.free (by rw [e2]; exact hn) (by omega) (by rw [e1]; omega)
    refine Vis.inner hg hV hs hfl j _ g1 (by rw [g5, e2]; exact hn) g3 ?_
    have hle : (if (M.pickup ps ch s).ms.left < (M.pickup ps ch s).rest then (M.pickup ps ch s).ms.left else (M.pickup ps ch s).rest) ≤ (M.pickup ps ch s).rest := by split <;> omega
    have hge : 1 ≤ (if (M.pickup ps ch s).ms.left < (M.pickup ps ch s).rest then (M.pickup ps ch s).ms.left else (M.pickup ps ch s).rest) := by rw [e1]; split <;> omega
    exact hV.send _ _ _ _ (by omega) c1 hge hle h1
end
/-! ### round robin -/
def Jrob (ps : List Pkt) (w : List Int) (z : List Sz) (k : Nat) (sg : Nat × Int) (cur rest own oth : Int) : Prop := JR w z k sg.1 sg.2 (if 0 ≤ cur then rest else 0) own oth ∧ (0 ≤ cur → (nth ps cur.toNat).flow = sg.1)
/-- sizes of the packets of each class -/
def SzOf (ps : List Pkt) (z : List Sz) : Prop := ∀ i, i < ps.length → (nth z (nth ps i).flow.toNat).least ≤ (nth ps i).size ∧ (nth ps i).size ≤ (nth z (nth ps i).flow.toNat).most
section
variable {ps : List Pkt} {w : List Int} {z : List Sz} {k : Nat}
/-- where every run stands -/
def Vrob (ps : List Pkt) (w : List Int) (sg : Nat × Int) (cur rest : Int) : Prop := sg.1 < w.length ∧ 0 ≤ sg.2 ∧ sg.2 ≤ nth w sg.1 ∧ (0 ≤ cur → cur < ps.length ∧ (nth ps cur.toNat).flow = sg.1 ∧ sg.2 ≤ nth w sg.1 - 1 ∧ 0 ≤ rest ∧ rest ≤ (nth ps cur.toNat).size)
end
end Go.Proofs.YthpblaoehlgpfaaGreat.M

/- Shares over one run: what the others are sent while a class is backlogged, plain. No condition. -/
namespace Go.Proofs.YthpblaoehlgpfaaGreat.M
open Go Go.Proofs.YthpblaoehlgpfaaGreat.K

section
variable {σ : Type} {ps : List Pkt} {ch : MS → σ → Int × Nat × σ} {good : MS → σ → Prop} {rel : Nat → Nat → Prop} {classes k : Nat}
end
end Go.Proofs.YthpblaoehlgpfaaGreat.M

/- Which of two curves grows less, plain. No condition. -/
namespace Go.Proofs.YthpblaoehlgpfaaGreat.M
open Go Go.Proofs.YthpblaoehlgpfaaGreat.K

def lcmN (a b : Nat) : Nat := a / Nat.gcd a b * b
theorem lcmN_facts {a b : Nat} (ha : 0 < a) (hb : 0 < b) : lcmN a b = b / Nat.gcd a b * a ∧ lcmN a b = a / Nat.gcd a b * b ∧ lcmN a b ≤ a * b ∧ 0 < lcmN a b := by
 have hg : 0 < Nat.gcd a b := Nat.gcd_pos_of_pos_right _ hb
 have h1 : Nat.gcd a b ∣ a := Nat.gcd_dvd_left _ _
 have h2 : Nat.gcd a b ∣ b := Nat.gcd_dvd_right _ _
 refine ⟨?_, rfl, Nat.mul_le_mul_right _ (Nat.div_le_self _ _), Nat.mul_pos (Nat.div_pos (Nat.le_of_dvd ha h1) hg) hb⟩
 unfold lcmN
 rw [Nat.div_mul_right_comm h1, Nat.div_mul_right_comm h2, Nat.mul_comm]
theorem grows_le {F G : Nat → Int} {S1 S2 P1 P2 : Nat} {I1 I2 : Int} (hg1 : Grows F S1 P1 I1) (hg2 : Grows G S2 P2 I2) (hle : ∀ t, F t ≤ G t) {l a1 a2 : Nat} (h1 : l = a1 * P1) (h2 : l = a2 * P2) : (a1 : Int) * I1 ≤ (a2 : Int) * I2 := by
 apply Classical.byContradiction
 intro hlt
 have e1 : ∀ x : Nat, F (S1 + S2 + x * l) = F (S1 + S2) + (x : Int) * ((a1 : Int) * I1) := fun x => by
  have := hg1.mul (x * a1) (S1 + S2) (by omega)
  rw [Nat.mul_assoc, ← h1] at this
  rw [this, Int.natCast_mul, Int.mul_assoc]
 have e2 : ∀ x : Nat, G (S1 + S2 + x * l) = G (S1 + S2) + (x : Int) * ((a2 : Int) * I2) := fun x => by
  have := hg2.mul (x * a2) (S1 + S2) (by omega)
  rw [Nat.mul_assoc, ← h2] at this
  rw [this, Int.natCast_mul, Int.mul_assoc]
 have h0 := hle (S1 + S2)
 obtain ⟨x, hx⟩ := Int.eq_ofNat_of_zero_le (show 0 ≤ G (S1 + S2) - F (S1 + S2) + 1 by omega)
 have h3 := hle (S1 + S2 + x * l)
 rw [e1, e2] at h3
 have h4 : (x : Int) * ((a2 : Int) * I2 + 1) ≤ (x : Int) * ((a1 : Int) * I1) := Int.mul_le_mul_of_nonneg_left (by omega) (by omega)
 rw [Int.mul_add] at h4
 omega
/-! ### the curve of weighted round robin: greater sums leave less -/
end Go.Proofs.YthpblaoehlgpfaaGreat.M

/- Finite curves in the program's own form, delays, what a flow keeps, plain. No condition. -/
namespace Go.Proofs.YthpblaoehlgpfaaGreat.M
open Go Go.Proofs.YthpblaoehlgpfaaGreat.K

/-- a finite valid curve: values of F up to S + P, period P, increment I -/
structure FC (F : Nat → Int) (S P : Nat) (I : Int) : Prop where
  hP : 1 ≤ P ∧ P ≤ 120
  hn : S + P ≤ 400
  hI : 0 ≤ I ∧ I ≤ 1073741824
  hg : Grows F S P I
  hm : ∀ t, F t ≤ F (t + 1)
  h0 : 0 ≤ F 0
  hb : ∀ t, t < S + P → F t ≤ 1073741824
section
variable {F G : Nat → Int} {S P S1 P1 S2 P2 : Nat} {I I1 I2 : Int}
theorem FC.nonneg (h : FC F S P I) (t : Nat) : 0 ≤ F t := by have := mono_le h.hm (Nat.zero_le t); have := h.h0; omega
theorem FC.mono (h : FC F S P I) {a b : Nat} (hab : a ≤ b) : F a ≤ F b := mono_le h.hm hab
theorem FC.bound (h : FC F S P I) (t : Nat) : F t ≤ 1073741824 * ((t : Int) + 2) := by
 have hP := h.hP
 have hI := h.hI
 induction t using Nat.strongRecOn with
 | _ t ih =>
  by_cases ht : t < S + P
  ·have := h.hb t ht; omega
  ·have h1 := ih (t - P) (by omega)
   have h2 := h.hg (t - P) (by omega)
   rw [show t - P + P = t by omega] at h2
   omega
theorem FC.fin (h : FC F S P I) {t : Nat} (ht : t < S + P) : F t ≠ INF := by have := h.hb t ht; unfold INF; omega
theorem FC.atR (h : FC F S P I) (t : Nat) : M.atR (fvals F (S + P)) P I (t : Int) = F t := atR_fvals (by have := h.hP; omega) h.hg (fun t ht => h.fin ht) t
theorem fc_line {c : Int} (h : 0 ≤ c ∧ c ≤ 1073741824) : FC (fun t => c * t) 0 1 c where
  hP := by omega
  hn := by omega
  hI := h
  hg := fun t _ => by dsimp only; rw [Int.natCast_add, Int.mul_add]; simp
  hm := fun t => by show c * (t : Int) ≤ c * ((t + 1 : Nat) : Int); rw [Int.natCast_add, Int.mul_add]; simp; omega
  h0 := by simp
  hb := fun t ht => by obtain rfl : t = 0 := by omega
                       simp
/-- what Build makes of a function -/
theorem build_fc (hP : 0 < P) (hI : 0 ≤ I) (hg : Grows F S P I) (hm : ∀ t, F t ≤ F (t + 1)) (h0 : 0 ≤ F 0) (hf : ∀ t, t < S + P → F t < INF) :
  (mbuild F S P I = (zcv, 3) ∨ ∃ (s p : Nat) (q : Int), mbuild F S P I = (⟨fvals F (s + p), p, q⟩, 0) ∧ FC F s p q) := by
 have hne : ∀ t, t < S + P → F t ≠ INF := fun t ht => by have := hf t ht; omega
 rw [mbuild_fin hne]
 obtain ⟨p, s, hnf, h1, h2, e⟩ := finL_nf hP hg hne
 rw [e]
 unfold nfC
 by_cases h3 : nfE F p s (I * p / P) = 3
 ·rw [if_pos h3]; exact .inl rfl
 ·rw [if_neg h3]
  right
  refine ⟨s, p, I * p / P, rfl, ?_⟩
  unfold nfE at h3
  have h4 : ¬ (120 < p ∨ MAXV < I * p / P ∨ 400 < s + p ∨ ((List.range (s + p)).any fun i => decide (F i > MAXV)) = true) := fun hh => h3 (if_pos hh)
  have hp := hnf.least.1
  refine ⟨by omega, by omega, ⟨Int.ediv_nonneg (Int.mul_nonneg hI (by omega)) (by omega), ?_⟩, hnf.starts.1, hm, h0, fun t ht => ?_⟩
  ·have : ¬ MAXV < I * p / P := fun hh => h4 (.inr (.inl hh))
   unfold MAXV at this; omega
  ·apply Classical.byContradiction
   intro hh
   refine h4 (.inr (.inr (.inr ?_)))
   rw [List.any_eq_true]
   exact ⟨t, List.mem_range.2 ht, decide_eq_true (by unfold MAXV; omega)⟩
/-- and that it makes it -/
theorem build_ok (hP : 0 < P ∧ P ≤ 120) (hI : 0 ≤ I ∧ I ≤ 1073741824) (hn : S + P ≤ 400) (hg : Grows F S P I) (hm : ∀ t, F t ≤ F (t + 1)) (h0 : 0 ≤ F 0) (hb : ∀ t, t < S + P → F t ≤ 1073741824) :
  ∃ (s p : Nat) (q : Int), mbuild F S P I = (⟨fvals F (s + p), p, q⟩, 0) ∧ FC F s p q ∧ s ≤ S ∧ p ≤ P := by
 have hf : ∀ t, t < S + P → F t < INF := fun t ht => by have := hb t ht; unfold INF; omega
 have hne : ∀ t, t < S + P → F t ≠ INF := fun t ht => by have := hf t ht; omega
 rw [mbuild_fin hne]
 obtain ⟨p, s, hnf, h1, h2, e⟩ := finL_nf hP.1 hg hne
 have hp := hnf.least.1
 have hq0 : 0 ≤ I * (p : Int) / P := Int.ediv_nonneg (Int.mul_nonneg hI.1 (by omega)) (by omega)
 have hq : I * (p : Int) / P ≤ I := by
  have h3 : I * (p : Int) ≤ I * (P : Int) := Int.mul_le_mul_of_nonneg_left (by omega) hI.1
  have h4 : I * (p : Int) / P ≤ I * (P : Int) / P := Int.ediv_le_ediv (by omega) h3
  rw [Int.mul_ediv_cancel _ (by omega)] at h4
  exact h4
 refine ⟨s, p, I * p / P, ?_, ⟨by omega, by omega, ⟨hq0, by omega⟩, hnf.starts.1, hm, h0, fun t ht => hb t (by omega)⟩, h2, h1⟩
 rw [e]
 unfold nfC
 rw [if_neg]
 unfold nfE
 rw [if_neg]
 ·decide
 ·rintro (h | h | h | h)
  ·omega
  ·unfold MAXV at h; omega
  ·omega
  ·rw [List.any_eq_true] at h
   obtain ⟨i, hi, h5⟩ := h
   have := hb i (by have := List.mem_range.1 hi; omega)
   have := of_decide_eq_true h5
   unfold MAXV at this; omega
/-- the least tick with so much, and whether there is one -/
def reachF (G : Nat → Int) (S P : Nat) (I v : Int) : Int × Bool :=
  if findFrom (fun t => decide (G t ≥ v)) (S + P) 0 ≠ -1 then (findFrom (fun t => decide (G t ≥ v)) (S + P) 0, true)
  else if I = 0 then (0, false)
  else (findFrom (fun t => decide (G t ≥ v)) (P + 1) (S + P + (((v - G (S + P - 1) + I - 1) / I).toNat - 1) * P), true)
/-- where the second part of it begins, and that something is found there -/
theorem reach_facts (h : FC G S P I) {v : Int} (hI : I ≠ 0) (hv : G (S + P - 1) < v) : 1 ≤ (v - G (S + P - 1) + I - 1) / I ∧ ((v - G (S + P - 1) + I - 1) / I) * I ≤ v - G (S + P - 1) + I - 1 ∧
  G (S + P + (((v - G (S + P - 1) + I - 1) / I).toNat - 1) * P + (P - 1)) = G (S + P - 1) + ((v - G (S + P - 1) + I - 1) / I) * I ∧ v ≤ G (S + P - 1) + ((v - G (S + P - 1) + I - 1) / I) * I := by
 have hI0 := h.hI
 have hP := h.hP
 have hk : 1 ≤ (v - G (S + P - 1) + I - 1) / I := Int.le_ediv_of_mul_le (by omega) (by omega)
 have hk2 : ((v - G (S + P - 1) + I - 1) / I) * I ≤ v - G (S + P - 1) + I - 1 := Int.ediv_mul_le _ (by omega)
 have hk3 := Int.lt_mul_ediv_self_add (x := v - G (S + P - 1) + I - 1) (k := I) (by omega)
 rw [Int.mul_comm] at hk3
 refine ⟨hk, hk2, ?_, by omega⟩
 obtain ⟨k, e⟩ := Int.eq_ofNat_of_zero_le (show 0 ≤ (v - G (S + P - 1) + I - 1) / I by omega)
 rw [e, Int.toNat_natCast]
 obtain ⟨k', rfl⟩ : ∃ m, k = m + 1 := ⟨k - 1, by omega⟩
 have hg := h.hg.mul (k' + 1) (S + P - 1) (by omega)
 rw [show S + P + (k' + 1 - 1) * P + (P - 1) = S + P - 1 + (k' + 1) * P by rw [Nat.add_sub_cancel, Nat.add_mul k' 1 P]; omega]
 exact hg
/-- the greatest of the distances -/
def greatW (f : Nat → Int × Bool) : Nat → Nat → Int → Int → Bool × Int × Int
  | 0, _, v, a => (false, v, a)
  | n + 1, t, v, a => if (f t).2 = false then (true, 0, 0) else if (f t).1 > v then greatW f n (t + 1) (f t).1 t else greatW f n (t + 1) v a
theorem greatW_sound {f : Nat → Int × Bool} : ∀ (n t : Nat) (v a : Int), (greatW f n t v a).1 = false → v ≤ (greatW f n t v a).2.1 ∧ ∀ u, t ≤ u → u < t + n → (f u).2 = true ∧ (f u).1 ≤ (greatW f n t v a).2.1
 | 0, t, v, a, _ => ⟨Int.le_refl _, fun u h1 h2 => by omega⟩
 | n + 1, t, v, a, h => by
  simp only [greatW] at h ⊢
  by_cases h1 : (f t).2 = false
  ·rw [if_pos h1] at h; cases h
  ·rw [if_neg h1] at h ⊢
   have h1' : (f t).2 = true := by simpa using h1
   by_cases h2 : (f t).1 > v
   ·rw [if_pos h2] at h ⊢
    obtain ⟨k1, k2⟩ := greatW_sound n (t + 1) _ _ h
    refine ⟨by omega, fun u hu1 hu2 => ?_⟩
    by_cases e : u = t
    ·subst e; exact ⟨h1', k1⟩
    ·exact k2 u (by omega) (by omega)
   ·rw [if_neg h2] at h ⊢
    obtain ⟨k1, k2⟩ := greatW_sound n (t + 1) _ _ h
    refine ⟨k1, fun u hu1 hu2 => ?_⟩
    by_cases e : u = t
    ·subst e; exact ⟨h1', by omega⟩
    ·exact k2 u (by omega) (by omega)
theorem greatW_bound {f : Nat → Int × Bool} {B : Int} : ∀ (n t : Nat) (v a : Int), (∀ u, t ≤ u → u < t + n → (f u).1 ≤ B) → 0 ≤ v → v ≤ B → 0 ≤ a → a ≤ t → 0 ≤ (greatW f n t v a).2.1 ∧ (greatW f n t v a).2.1 ≤ B ∧ 0 ≤ (greatW f n t v a).2.2 ∧ (greatW f n t v a).2.2 ≤ t + n
 | 0, t, v, a, _, h1, h2, h3, h4 => ⟨h1, h2, h3, by simp only [greatW]; omega⟩
 | n + 1, t, v, a, h, h1, h2, h3, h4 => by
  have ht := h t (by omega) (by omega)
  simp only [greatW]
  by_cases k1 : (f t).2 = false
  ·rw [if_pos k1]; dsimp only; omega
  ·rw [if_neg k1]
   by_cases k2 : (f t).1 > v
   ·rw [if_pos k2]
    have := greatW_bound (f := f) (B := B) n (t + 1) (f t).1 t (fun u a b => h u (by omega) (by omega)) (by omega) ht (by omega) (by omega)
    omega
   ·rw [if_neg k2]
    have := greatW_bound (f := f) (B := B) n (t + 1) v a (fun u a b => h u (by omega) (by omega)) h1 h2 h3 (by omega)
    omega
end
end Go.Proofs.YthpblaoehlgpfaaGreat.M
namespace Go.Proofs.YthpblaoehlgpfaaGreat.M
open Go Go.Proofs.YthpblaoehlgpfaaGreat.K
theorem reach_bound {G : Nat → Int} {S P : Nat} {I v : Int} (h : FC G S P I) (hv : 0 ≤ v ∧ v ≤ 1000000000000000) : -1 ≤ (reachF G S P I v).1 ∧ (reachF G S P I v).1 ≤ 200000000000000000 := by
 unfold reachF
 have hP := h.hP
 have hn := h.hn
 have hI0 := h.hI
 rcases findFrom_cases (fun t => decide (G t ≥ v)) (S + P) 0 with ⟨i, h1, h2, h3, h4, h5⟩ | ⟨h1, h2⟩
 ·rw [h3, if_pos (by omega)]; dsimp only; omega
 ·rw [h1, if_neg (fun hh => hh rfl)]
  by_cases hI : I = 0
  ·rw [if_pos hI]; dsimp only; omega
  ·rw [if_neg hI]
   have hlast := of_decide_eq_false (h2 (S + P - 1) (by omega) (by omega))
   obtain ⟨g1, g2, g3, g4⟩ := reach_facts h hI (show G (S + P - 1) < v by omega)
   have hl0 := h.nonneg (S + P - 1)
   have hk : (v - G (S + P - 1) + I - 1) / I ≤ v + I := by
    have : ((v - G (S + P - 1) + I - 1) / I) * 1 ≤ ((v - G (S + P - 1) + I - 1) / I) * I := Int.mul_le_mul_of_nonneg_left (by omega) (by omega)
    omega
   generalize (v - G (S + P - 1) + I - 1) / I = k at *
   have hkP : (k.toNat - 1) * P ≤ 1100000000000000 * 120 := Nat.mul_le_mul (by omega) (by omega)
   dsimp only
   rcases findFrom_cases (fun t => decide (G t ≥ v)) (P + 1) (S + P + (k.toNat - 1) * P) with ⟨i, k1, k2, k3, _, _⟩ | ⟨k1, _⟩
   ·rw [k3]; omega
   ·rw [k1]; omega
end Go.Proofs.YthpblaoehlgpfaaGreat.M

/- What a flow keeps: the least curve of a trace, plain. No condition. -/
namespace Go.Proofs.YthpblaoehlgpfaaGreat.M
open Go Go.Proofs.YthpblaoehlgpfaaGreat.K

theorem pbytes_congr {flow t t' : Int} : ∀ (ps : List Pkt), (∀ p ∈ ps, p.time < t ↔ p.time < t') → pbytes flow t ps = pbytes flow t' ps
 | [], _ => rfl
 | p :: ps, h => by
  have h1 := h p (by simp)
  have ih := pbytes_congr (flow := flow) ps (fun q hq => h q (by simp [hq]))
  simp only [pbytes]
  rw [ih]
  congr 1
  have e : hit flow t p ↔ hit flow t' p := by unfold hit; rw [h1]
  by_cases hh : hit flow t p
  ·rw [if_pos hh, if_pos (e.1 hh)]
  ·rw [if_neg hh, if_neg (fun h2 => hh (e.2 h2))]
def endN (ps : List Pkt) : Int := if ps.length = 0 then 0 else (nth ps (ps.length - 1)).time + 1
theorem nth_up {vs : List Int} {en : Nat} (hm : ∀ j, j < en → nth vs j ≤ nth vs (j + 1)) {a b : Nat} (hab : a ≤ b) (hb : b ≤ en) : nth vs a ≤ nth vs b := by
  induction b with
  | zero => obtain rfl : a = 0 := by omega
            exact Int.le_refl _
  | succ b ih =>
    by_cases e : a = b + 1
    · subst e; exact Int.le_refl _
    · have h1 := ih (by omega) (by omega)
      have h2 := hm b (by omega)
      omega
theorem keeps {ps : List Pkt} {flow : Int} (hsort : ps.Pairwise fun a b => a.time ≤ b.time) {en : Nat} (hen : ∀ p ∈ ps, 0 ≤ p.time ∧ p.time < en) {vs : List Int} (h0 : ∀ j, j ≤ en → 0 ≤ nth vs j) (hm : ∀ j, j < en → nth vs j ≤ nth vs (j + 1))
  (hP : ∀ i, i < ps.length → ∀ T t : Nat, (nth ps i).time = T → T ≤ t → t ≤ en → pbytes flow (t : Int) ps - pbytes flow (T : Int) ps ≤ nth vs (t - T)) {x t : Nat} (hxt : x ≤ t) : pbytes flow (t : Int) ps - pbytes flow (x : Int) ps ≤ nth vs (min (t - x) en) := by
 have hnn := h0 (min (t - x) en) (by omega)
 by_cases hex : ∃ i, i < ps.length ∧ (x : Int) ≤ (nth ps i).time ∧ (nth ps i).time < t
 ·obtain ⟨i0, i1, i2, i3⟩ := hex
  rcases findFrom_cases (fun i => decide ((x : Int) ≤ (nth ps i).time)) ps.length 0 with ⟨j, j1, j2, _, j4, j5⟩ | ⟨_, h2⟩
  ·have j4 := of_decide_eq_true j4
   have hji : j ≤ i0 := by
    apply Classical.byContradiction
    intro hn
    have := of_decide_eq_false (j5 i0 (Nat.zero_le _) (by omega))
    exact this i2
   have hle : ∀ i, j ≤ i → i < ps.length → (nth ps j).time ≤ (nth ps i).time := fun i h1 h2 => by
    by_cases e : j = i
    ·subst e; exact Int.le_refl _
    ·have := List.pairwise_iff_getElem.1 hsort j i (by omega) h2 (by omega)
     rwa [← nth_eq (show j < ps.length by omega), ← nth_eq h2] at this
   have hj := hen _ (nth_mem (xs := ps) (k := j) (by omega))
   obtain ⟨T, hT⟩ := Int.eq_ofNat_of_zero_le hj.1
   have hTi := hle i0 hji i1
   have e1 : pbytes flow (x : Int) ps = pbytes flow (T : Int) ps := by
    refine pbytes_congr ps (all_of_nth (fun i hi => ?_))
    constructor
    ·intro h; omega
    ·intro h
     apply Classical.byContradiction
     intro hn
     by_cases hij : i < j
     ·have := of_decide_eq_false (j5 i (Nat.zero_le _) hij)
      omega
     ·have := hle i (by omega) hi
      omega
   have e2 : pbytes flow (t : Int) ps = pbytes flow ((min t en : Nat) : Int) ps := by
    refine pbytes_congr ps (fun p hp => ?_)
    have := hen p hp
    omega
   have h3 := hP j (by omega) T (min t en) hT (by omega) (by omega)
   have h4 := nth_up hm (a := min t en - T) (b := min (t - x) en) (by omega) (by omega)
   omega
  ·exact absurd i2 (of_decide_eq_false (h2 i0 (Nat.zero_le _) (by omega)))
 ·have e : pbytes flow (t : Int) ps = pbytes flow (x : Int) ps := by
   refine pbytes_congr ps (all_of_nth (fun i hi => ?_))
   constructor
   ·intro h
    apply Classical.byContradiction
    intro hn
    exact hex ⟨i, hi, by omega, h⟩
   ·intro h; omega
  omega
end Go.Proofs.YthpblaoehlgpfaaGreat.M

/- Any line that is never idle and keeps the order within a class: service and waits of a class, plain. No condition. -/
namespace Go.Proofs.YthpblaoehlgpfaaGreat.M
open Go Go.Proofs.YthpblaoehlgpfaaGreat.K

section
variable {σ : Type} {ps : List Pkt} {ch : MS → σ → Int × Nat × σ} {good : MS → σ → Prop} {rel : Nat → Nat → Prop} {classes col k : Nat} {s : RS σ}
end
end Go.Proofs.YthpblaoehlgpfaaGreat.M
namespace Go.Proofs.YthpblaoehlgpfaaGreat.M
open Go Go.Proofs.YthpblaoehlgpfaaGreat.K
end Go.Proofs.YthpblaoehlgpfaaGreat.M

/- Deficit round robin, plain: the choice, that it ends, and what every run keeps. No condition. -/
namespace Go.Proofs.YthpblaoehlgpfaaGreat.M
open Go Go.Proofs.YthpblaoehlgpfaaGreat.K

def grant (nx : Int → Int) (w : List Int) (c : Nat) (b : Bool) (d : List Int) : List Int := if 0 ≤ nx c ∧ b = false then d.set c (nth d c + nth w c) else d
def drop0 (nx : Int → Int) (c : Nat) (d : List Int) : List Int := if nx c < 0 then d.set c 0 else d
def defGo (nx sz : Int → Int) (w : List Int) : Nat → Nat → Bool → List Int → Int × (Nat × Bool × List Int)
  | 0, c, b, d => (-1, (c, b, d))
  | k + 1, c, b, d =>
    if 0 ≤ nx c ∧ sz (nx c) ≤ nth (grant nx w c b d) c then (nx c, (c, true, (grant nx w c b d).set c (nth (grant nx w c b d) c - sz (nx c))))
    else defGo nx sz w k ((c + 1) % w.length) false (drop0 nx c (grant nx w c b d))
def szOf (ps : List Pkt) (i : Int) : Int := (nth ps i.toNat).size
/-- so many steps are enough -/
def defF (n : Nat) : Nat := 1502 * n
def defCh (ps : List Pkt) (w : List Int) (ms : MS) (s : Nat × Bool × List Int) : Int × Nat × (Nat × Bool × List Int) :=
  if firstR ps ms < 0 then (-1, skipTo ms.begun ms.before, s)
  else ((defGo (nextW ps ms) (szOf ps) w (defF w.length) s.1 s.2.1 s.2.2).1, skipTo ms.begun ms.before, (defGo (nextW ps ms) (szOf ps) w (defF w.length) s.1 s.2.1 s.2.2).2)
def defRc (ps : List Pkt) (w : List Int) (st : St) (g : Nat × Bool × List Int) : Int × (Nat × Bool × List Int) :=
  if 0 ≤ firstW ps st (-1) then defGo (firstW ps st) (szOf ps) w (defF w.length) g.1 g.2.1 g.2.2 else (-1, g)
/-- the deficits' bounds -/
def DOk (n c : Nat) (b : Bool) (d : List Int) : Prop := c < n ∧ d.length = n ∧ ∀ i, i < n → 0 ≤ nth d i ∧ nth d i ≤ (if i = c ∧ b = true then 7499 else 1499)
def dist (n j c : Nat) : Nat := if c ≤ j then j - c else j + n - c
/-- how far a waiting class is -/
def far (n j c : Nat) (b : Bool) (d : List Int) : Nat := n * (1500 - nth d j).toNat + (if c = j ∧ b = true then n else dist n j c)
def DSoon (nx : Int → Int) (n k c : Nat) (b : Bool) (d : List Int) : Prop := ∃ j, j < n ∧ 0 ≤ nx (j : Int) ∧ far n j c b d < k
section
variable {nx sz : Int → Int} {w : List Int}
theorem grant_len (c : Nat) (b : Bool) (d : List Int) : (grant nx w c b d).length = d.length := by unfold grant; split <;> simp
theorem drop0_len (c : Nat) (d : List Int) : (drop0 nx c d).length = d.length := by unfold drop0; split <;> simp
theorem grant_ne {c i : Nat} {b : Bool} {d : List Int} (h : i ≠ c) : nth (grant nx w c b d) i = nth d i := by
 unfold grant; split
 ·rw [nth_set_ne (Ne.symm h)]
 ·rfl
theorem grant_self {c : Nat} {b : Bool} {d : List Int} (h : c < d.length) : nth (grant nx w c b d) c = (if 0 ≤ nx c ∧ b = false then nth d c + nth w c else nth d c) := by
 unfold grant; split
 ·rw [nth_set_self h]
 ·rfl
theorem drop0_ne {c i : Nat} {d : List Int} (h : i ≠ c) : nth (drop0 nx c d) i = nth d i := by
 unfold drop0; split
 ·rw [nth_set_ne (Ne.symm h)]
 ·rfl
theorem drop0_self {c : Nat} {d : List Int} (h : c < d.length) : nth (drop0 nx c d) c = (if nx c < 0 then 0 else nth d c) := by
 unfold drop0; split
 ·rw [nth_set_self h]
 ·rfl
theorem mod_succ {n c : Nat} (hc : c < n) : (c + 1) % n = if c + 1 < n then c + 1 else 0 := by
 split
 ·rename_i h; exact Nat.mod_eq_of_lt h
 ·rw [show c + 1 = n by omega, Nat.mod_self]
/-- what is granted stays within its bounds -/
theorem DOk.grant (hw : ∀ x ∈ w, 1 ≤ x ∧ x ≤ 6000) {c : Nat} {b : Bool} {d : List Int} (h : DOk w.length c b d) : ∀ i, i < w.length → 0 ≤ nth (grant nx w c b d) i ∧ nth (M.grant nx w c b d) i ≤ (if i = c then 7499 else 1499) := by
 obtain ⟨h1, h2, h3⟩ := h
 intro i hi
 have a := h3 i hi
 by_cases e : i = c
 ·subst e
  rw [grant_self (by omega), if_pos rfl]
  have := hw _ (nth_mem hi)
  split
  ·rename_i hh
   rw [if_neg (by rw [hh.2]; simp)] at a
   omega
  ·split at a <;> omega
 ·rw [grant_ne e, if_neg e]
  rw [if_neg (fun hh => e hh.1)] at a
  exact a
theorem DOk.next (hw : ∀ x ∈ w, 1 ≤ x ∧ x ≤ 6000) {c : Nat} (hsz : 0 ≤ nx c → sz (nx c) ≤ 1500) {b : Bool} {d : List Int} (h : DOk w.length c b d) (hno : ¬ (0 ≤ nx c ∧ sz (nx c) ≤ nth (M.grant nx w c b d) c)) :
  DOk w.length ((c + 1) % w.length) false (drop0 nx c (M.grant nx w c b d)) := by
 have hg := h.grant (nx := nx) hw
 obtain ⟨h1, h2, h3⟩ := h
 refine ⟨Nat.mod_lt _ (by omega), by rw [drop0_len, grant_len]; exact h2, fun i hi => ?_⟩
 rw [if_neg (by simp)]
 have a := hg i hi
 by_cases e : i = c
 ·subst e
  rw [drop0_self (by rw [grant_len]; omega)]
  split
  ·omega
  ·rename_i h0
   have : ¬ sz (nx i) ≤ nth (M.grant nx w i b d) i := fun hh => hno ⟨by omega, hh⟩
   have := hsz (by omega)
   omega
 ·rw [drop0_ne e]
  rw [if_neg e] at a; exact a
theorem DOk.pick (hw : ∀ x ∈ w, 1 ≤ x ∧ x ≤ 6000) {c : Nat} (hsz : 1 ≤ sz (nx c)) {b : Bool} {d : List Int} (h : DOk w.length c b d) (hy : sz (nx c) ≤ nth (M.grant nx w c b d) c) :
  DOk w.length c true ((M.grant nx w c b d).set c (nth (M.grant nx w c b d) c - sz (nx c))) := by
 have hg := h.grant (nx := nx) hw
 obtain ⟨h1, h2, h3⟩ := h
 refine ⟨h1, by rw [List.length_set, grant_len]; exact h2, fun i hi => ?_⟩
 have a := hg i hi
 by_cases e : i = c
 ·subst e
  rw [nth_set_self (by rw [grant_len]; omega), if_pos ⟨rfl, rfl⟩]
  rw [if_pos rfl] at a
  omega
 ·rw [nth_set_ne (Ne.symm e), if_neg (fun hh => e hh.1)]
  rw [if_neg e] at a; exact a
theorem DSoon.step (hw : ∀ x ∈ w, 1 ≤ x ∧ x ≤ 6000) {k c : Nat} (hsz : 0 ≤ nx c → sz (nx c) ≤ 1500) {b : Bool} {d : List Int} (hd : DOk w.length c b d) (h : DSoon nx w.length (k + 1) c b d) (hno : ¬ (0 ≤ nx c ∧ sz (nx c) ≤ nth (M.grant nx w c b d) c)) :
  DSoon nx w.length k ((c + 1) % w.length) false (drop0 nx c (M.grant nx w c b d)) := by
 obtain ⟨h1, h2, h3⟩ := hd
 obtain ⟨j, j1, j2, j3⟩ := h
 refine ⟨j, j1, j2, ?_⟩
 have hlen : c < (M.grant nx w c b d).length := by rw [grant_len]; omega
 unfold far at j3 ⊢
 rw [if_neg (by simp)]
 by_cases e : c = j
 ·subst e
  have hno : ¬ sz (nx c) ≤ nth (M.grant nx w c b d) c := fun hh => hno ⟨j2, hh⟩
  have := hsz j2
  have hdist : dist w.length c ((c + 1) % w.length) ≤ w.length - 1 := by
   rw [mod_succ h1]; unfold dist; split <;> split <;> omega
  rw [drop0_self hlen, if_neg (by omega)]
  rw [grant_self (by omega)] at hno ⊢
  cases b with
  | true =>
   rw [if_neg (by simp)] at hno ⊢
   rw [if_pos ⟨rfl, rfl⟩] at j3
   omega
  | false =>
   rw [if_pos ⟨j2, rfl⟩] at hno ⊢
   rw [if_neg (by simp)] at j3
   have hwj := hw _ (nth_mem h1)
   have hdj := h3 c h1
   obtain ⟨r, hr⟩ : ∃ r, (1500 - nth d c).toNat = r + 1 := ⟨(1500 - nth d c).toNat - 1, by omega⟩
   have hle : (1500 - (nth d c + nth w c)).toNat ≤ r := by omega
   have hm := Nat.mul_le_mul_left w.length hle
   rw [hr, Nat.mul_add, Nat.mul_one] at j3
   omega
 ·rw [if_neg (fun hh => e hh.1)] at j3
  rw [drop0_ne (Ne.symm e), grant_ne (Ne.symm e)]
  have hdist : dist w.length j ((c + 1) % w.length) + 1 ≤ dist w.length j c := by
   rw [mod_succ h1]; unfold dist; split <;> split <;> split <;> omega
  omega
theorem defGo_is (hw : ∀ x ∈ w, 1 ≤ x ∧ x ≤ 6000) (hsz : ∀ c : Nat, 0 ≤ nx c → 1 ≤ sz (nx c) ∧ sz (nx c) ≤ 1500) : ∀ (k c : Nat) (b : Bool) (d : List Int), DOk w.length c b d → DSoon nx w.length k c b d →
  0 ≤ (defGo nx sz w k c b d).1 ∧ (defGo nx sz w k c b d).1 = nx (defGo nx sz w k c b d).2.1 ∧ DOk w.length (defGo nx sz w k c b d).2.1 (defGo nx sz w k c b d).2.2.1 (defGo nx sz w k c b d).2.2.2
 | 0, c, b, d, _, h => by obtain ⟨j, _, _, h1⟩ := h; omega
 | k + 1, c, b, d, hd, h => by
  simp only [defGo]
  by_cases hy : 0 ≤ nx c ∧ sz (nx c) ≤ nth (M.grant nx w c b d) c
  ·rw [if_pos hy]; exact ⟨hy.1, rfl, hd.pick hw (hsz c hy.1).1 hy.2⟩
  ·rw [if_neg hy]
   exact defGo_is hw hsz k _ _ _ (hd.next hw (fun h0 => (hsz c h0).2) hy) (h.step hw (fun h0 => (hsz c h0).2) hd hy)
theorem dsoon_of {n c j : Nat} {b : Bool} {d : List Int} (hd : DOk n c b d) (hj : j < n) (h : 0 ≤ nx (j : Int)) : DSoon nx n (defF n) c b d := by
 refine ⟨j, hj, h, ?_⟩
 have h1 := (hd.2.2 j hj).1
 have hm := Nat.mul_le_mul_left n (show (1500 - nth d j).toNat ≤ 1500 by omega)
 have h2 : (if c = j ∧ b = true then n else dist n j c) ≤ n := by
  split
  ·exact Nat.le_refl _
  ·unfold dist; split <;> omega
 unfold far defF
 have := hd.1
 omega
end
def goodDf (ps : List Pkt) (n : Nat) (ms : MS) (s : Nat × Bool × List Int) : Prop := goodB ps ms ∧ DOk n s.1 s.2.1 s.2.2
section
variable {ps : List Pkt} {w : List Int} {ms : MS} {s : Nat × Bool × List Int}
theorem def_soon (hfl : ∀ p ∈ ps, 0 ≤ p.flow ∧ p.flow < w.length) (hg : goodDf ps w.length ms s) (hb : ms.begun.length = ps.length) (h0 : ¬ firstR ps ms < 0) :
  DSoon (nextW ps ms) w.length (defF w.length) s.1 s.2.1 s.2.2 := by
 obtain ⟨h1, h2⟩ := next_of_first hg.1 hb (by omega)
 have hf := hfl _ (nth_mem h2)
 obtain ⟨d, hd⟩ := Int.eq_ofNat_of_zero_le hf.1
 rw [hd] at h1
 exact dsoon_of hg.2 (by omega) h1
theorem szOf_next (hsz : ∀ p ∈ ps, 1 ≤ p.size ∧ p.size ≤ 1500) (c : Nat) (h : 0 ≤ nextW ps ms c) : 1 ≤ szOf ps (nextW ps ms c) ∧ szOf ps (nextW ps ms c) ≤ 1500 := by
 have := (nextW_lt ps ms c).1
 exact hsz _ (nth_mem (xs := ps) (k := (nextW ps ms c).toNat) (by omega))
theorem def_fair (hw : ∀ x ∈ w, 1 ≤ x ∧ x ≤ 6000) (hsz : ∀ p ∈ ps, 1 ≤ p.size ∧ p.size ≤ 1500) (hfl : ∀ p ∈ ps, 0 ≤ p.flow ∧ p.flow < w.length) (hsort : ps.Pairwise fun a b => a.time ≤ b.time) :
  Fair ps (defCh ps w) (goodDf ps w.length) (sameFlow ps) where
 free := fun _ _ _ _ h => h
 idx := fun ms s hg hb h0 => by
  unfold defCh at h0 ⊢
  split at h0
  ·dsimp only at h0; omega
  ·rename_i hf
   rw [if_neg hf]
   obtain ⟨h1, h2, _⟩ := defGo_is hw (szOf_next hsz) _ _ _ _ hg.2 (def_soon hfl hg hb hf)
   dsimp only
   rw [h2]; exact (nextW_lt _ _ _).1
 some := fun ms s hg hb h0 => by
  unfold defCh at h0 ⊢
  split at h0
  ·dsimp only at h0; omega
  ·rename_i hf
   rw [if_neg hf]
   obtain ⟨h1, h2, h3⟩ := defGo_is hw (szOf_next hsz) _ _ _ _ hg.2 (def_soon hfl hg hb hf)
   exact ⟨goodB_begin hg.1 hb _, h3⟩
 none := fun ms s hg hb h0 => by
  unfold defCh at h0 ⊢
  split at h0
  ·rename_i hf
   rw [if_pos hf]; exact ⟨goodB_skip hg.1 hb, hg.2⟩
  ·rename_i hf
   obtain ⟨h1, _⟩ := defGo_is hw (szOf_next hsz) _ _ _ _ hg.2 (def_soon hfl hg hb hf)
   dsimp only at h0; omega
 waits := fun ms s hg hb h0 => by
  unfold defCh at h0 ⊢
  split at h0
  ·dsimp only at h0; omega
  ·rename_i hf
   rw [if_neg hf]
   obtain ⟨h1, h2, _⟩ := defGo_is hw (szOf_next hsz) _ _ _ _ hg.2 (def_soon hfl hg hb hf)
   dsimp only
   rw [h2] at h1 ⊢
   have := nextW_some hsort h1
   exact ⟨this.2.1, this.2.2.1⟩
 ord := fun ms s hg hb h0 i hi hr => by
  unfold defCh at h0 hi hr
  split at h0
  ·dsimp only at h0; omega
  ·rename_i hf
   rw [if_neg hf] at hi hr
   obtain ⟨h1, h2, _⟩ := defGo_is hw (szOf_next hsz) _ _ _ _ hg.2 (def_soon hfl hg hb hf)
   dsimp only at hi hr
   rw [h2] at h1 hi hr
   have := nextW_some hsort h1
   exact this.2.2.2.2 i hi (by unfold sameFlow at hr; rw [hr]; exact this.2.2.2.1)
def def0 (n : Nat) : Nat × Bool × List Int := (0, false, List.replicate n 0)
theorem def0_ok {n : Nat} (hn : 0 < n) : DOk n (def0 n).1 (def0 n).2.1 (def0 n).2.2 := ⟨hn, by simp [def0], fun i hi => by unfold def0; dsimp only; rw [nth_replicate hi, if_neg (by simp)]; decide⟩
theorem def_start (hn : 0 < w.length) (classes : Nat) : goodDf ps w.length (start ps classes (def0 w.length)).ms (def0 w.length) :=
 ⟨⟨Nat.zero_le _, fun i hi => by simp [start] at hi⟩, def0_ok hn⟩
end
end Go.Proofs.YthpblaoehlgpfaaGreat.M

/- The curve of deficit round robin, plain: it repeats itself from some tick on, so that the program's and the references' forms are one. No condition. -/
namespace Go.Proofs.YthpblaoehlgpfaaGreat.M
open Go Go.Proofs.YthpblaoehlgpfaaGreat.K

/-- the quanta of the other classes that have packets, and what they may have saved -/
def xSum (k : Int) (w : List Int) (z : List Sz) : Nat → Int
  | 0 => 0
  | n + 1 => xSum k w z n + (if (n : Int) ≠ k ∧ 1 ≤ (nth z n).most then nth w n else 0)
def zSum (k : Int) (z : List Sz) : Nat → Int
  | 0 => 0
  | n + 1 => zSum k z n + (if (n : Int) ≠ k ∧ 1 ≤ (nth z n).most then (nth z n).most - 1 else 0)
theorem xSum_bound {k : Int} {w : List Int} {z : List Sz} (hw : ∀ x ∈ w, 1 ≤ x ∧ x ≤ 6000) : ∀ n : Nat, n ≤ w.length → 0 ≤ xSum k w z n ∧ xSum k w z n ≤ 6000 * n
 | 0, _ => by simp [xSum]
 | n + 1, h1 => by
  have ih := xSum_bound (k := k) (z := z) hw n (by omega)
  have a := hw _ (nth_mem (xs := w) (k := n) (by omega))
  simp only [xSum]
  split <;> omega
theorem zSum_bound {k : Int} {z : List Sz} (hz : ∀ s ∈ z, 0 ≤ s.least ∧ s.least ≤ s.most ∧ s.most ≤ 1500) : ∀ n : Nat, n ≤ z.length → 0 ≤ zSum k z n ∧ zSum k z n ≤ 1500 * n
 | 0, _ => by simp [zSum]
 | n + 1, h1 => by
  have ih := zSum_bound (k := k) hz n (by omega)
  have a := hz _ (nth_mem (xs := z) (k := n) (by omega))
  simp only [zSum]
  split <;> omega
def defOthers (k : Int) (w : List Int) (z : List Sz) (own : Int) : Int :=
  if chkW 6000 1 k w z ≠ 0 ∨ (nth z k.toNat).most < 1 ∨ own < 0 ∨ MAXV < own then 0
  else ((own + (nth z k.toNat).most - 1) / nth w k.toNat + 1) * xSum k w z w.length + zSum k z w.length
def allD (s q l z y : Int) : Int := y + (s - q) * ((y + l - 1) / q + 1) + z
def defH (cap s q l z : Int) (t y : Nat) : Bool := decide (allD s q l z (y : Int) ≥ cap * t)
def defFn (cap s q l z : Int) (t : Nat) : Int := leastY (defH cap s q l z t) (cap * t).toNat
def startD (cap s q l z : Int) : Int := if 2 ≤ l then (allD s q l z (-1)).tdiv cap + 1 else if 1 ≤ z then (z - 1) / cap + 1 else 0
def fromD (cap s q l z : Int) : Int := ((s - q) * ((l - 1) / q + 1) + z) / cap + 1
def defC (cap k : Int) (w : List Int) (z : List Sz) : Cv × Int :=
  if chkW 6000 cap k w z ≠ 0 then (zcv, chkW 6000 cap k w z) else if (nth z k.toNat).most < 1 then (zcv, 5) else
    let q := nth w k.toNat
    let l := (nth z k.toNat).most
    let s := shortN (q + xSum k w z w.length).toNat cap.toNat
    let zz := zSum k z w.length
    if s = -1 then (zcv, 3) else
      let p := s.toNat / Nat.gcd s.toNat cap.toNat
      if 400 < fromD cap s q l zz then (zcv, 3)
      else madeR ⟨fvals (defFn cap s q l zz) ((fromD cap s q l zz).toNat + p), p, cap * p / s * q⟩
section
variable {cap s q l z : Int}
theorem allD_mono (hq : 0 < q) (hs : q ≤ s) {y y' : Int} (h : y ≤ y') : allD s q l z y ≤ allD s q l z y' := by
 unfold allD
 have h1 : (y + l - 1) / q ≤ (y' + l - 1) / q := Int.ediv_le_ediv hq (by omega)
 have h2 : (s - q) * ((y + l - 1) / q + 1) ≤ (s - q) * ((y' + l - 1) / q + 1) := Int.mul_le_mul_of_nonneg_left (by omega) (by omega)
 omega
theorem allD_ge (hq : 0 < q) (hs : q ≤ s) (hz : 0 ≤ z) {y : Int} (h : 0 ≤ y + l - 1) : y ≤ allD s q l z y := by
 unfold allD
 have h1 : 0 ≤ (y + l - 1) / q := Int.ediv_nonneg h (by omega)
 have h2 : 0 ≤ (s - q) * ((y + l - 1) / q + 1) := Int.mul_nonneg (by omega) (by omega)
 omega
theorem defH_bound (hq : 0 < q) (hs : q ≤ s) (hl : 1 ≤ l) (hz : 0 ≤ z) (t : Nat) (hc : 0 ≤ cap) : defH cap s q l z t (cap * t).toNat = true := by
 unfold defH
 have h1 : 0 ≤ cap * (t : Int) := Int.mul_nonneg hc (by omega)
 have h2 := allD_ge (l := l) hq hs hz (y := (((cap * t).toNat : Nat) : Int)) (by omega)
 exact decide_eq_true (by omega)
theorem defH_mono (hq : 0 < q) (hs : q ≤ s) {t y y' : Nat} (h : defH cap s q l z t y = true) (hy : y ≤ y') : defH cap s q l z t y' = true := by
 unfold defH at h ⊢
 have h0 := of_decide_eq_true h
 have := allD_mono (l := l) (z := z) hq hs (y := y) (y' := y') (by omega)
 exact decide_eq_true (by omega)
theorem allD_shift (hq : 0 < q) (y : Int) (m : Int) : allD s q l z (y + m * q) = allD s q l z y + m * s := by
 unfold allD
 have e1 : (y + m * q + l - 1) / q = (y + l - 1) / q + m := by
  rw [show y + m * q + l - 1 = y + l - 1 + m * q by omega]
  exact Int.add_mul_ediv_right _ _ (by omega)
 rw [e1]
 have e2 : (s - q) * ((y + l - 1) / q + m + 1) = (s - q) * ((y + l - 1) / q + 1) + (m * s - m * q) := by
  rw [show (y + l - 1) / q + m + 1 = ((y + l - 1) / q + 1) + m by omega, Int.mul_add, Int.sub_mul s q m, Int.mul_comm s, Int.mul_comm q m]
 rw [e2]
 generalize m * s = a
 generalize m * q = b
 omega
theorem capt {p m : Nat} (hm : cap * (p : Int) = (m : Int) * s) (t : Nat) : cap * ((t + p : Nat) : Int) = cap * (t : Int) + (m : Int) * s := by rw [Int.natCast_add, Int.mul_add, hm]
theorem defH_shift {qn p m : Nat} (hq : 0 < qn) (hm : cap * (p : Int) = (m : Int) * s) (t y : Nat) : defH cap s qn l z (t + p) (y + m * qn) = defH cap s qn l z t y := by
 unfold defH
 rw [capt hm, Int.natCast_add, Int.natCast_mul, allD_shift (by omega)]
 apply decide_eq_decide.2
 generalize (m : Int) * s = a
 omega
theorem defH_low {qn p m : Nat} (hq : 0 < qn) (hs : (qn : Int) ≤ s) (hm : cap * (p : Int) = (m : Int) * s) {t y : Nat} (ht : allD s qn l z (-1) < cap * t) (hy : y < m * qn) : defH cap s qn l z (t + p) y = false := by
 unfold defH
 apply decide_eq_false
 rw [capt hm]
 have h1 := allD_mono (l := l) (z := z) (s := s) (q := (qn : Int)) (by omega) hs (y := (y : Int)) (y' := -1 + (m : Int) * (qn : Int)) (by rw [← Int.natCast_mul]; omega)
 rw [allD_shift (by omega)] at h1
 generalize (m : Int) * s = a at *
 omega
/-- from the start on it is certain -/
theorem start_low (hc : 0 < cap) (hq : 0 < q) (hs : q ≤ s) (hl : 1 ≤ l) (hz : 0 ≤ z) {t : Nat} (ht : startD cap s q l z ≤ t) : allD s q l z (-1) < cap * t := by
 have h0 : 0 ≤ cap * (t : Int) := Int.mul_nonneg (by omega) (by omega)
 unfold startD at ht
 by_cases h2 : 2 ≤ l
 ·rw [if_pos h2] at ht
  by_cases hn : allD s q l z (-1) < 0
  ·omega
  ·rw [Int.tdiv_eq_ediv_of_nonneg (by omega)] at ht
   have h3 := Int.lt_mul_ediv_self_add (x := allD s q l z (-1)) hc
   have h4 : cap * (allD s q l z (-1) / cap) + cap ≤ cap * t := by
    have := Int.mul_le_mul_of_nonneg_left ht (show 0 ≤ cap by omega)
    rw [Int.mul_add, Int.mul_one] at this
    exact this
   omega
 ·rw [if_neg h2] at ht
  have e : allD s q l z (-1) = z - 1 := by
   unfold allD
   have : ((-1 : Int) + l - 1) / q = -1 := by
    rw [show (-1 : Int) + l - 1 = -1 by omega]
    rw [Int.ediv_eq_iff_of_pos hq]
    omega
   rw [this]
   simp; omega
  rw [e]
  by_cases h1 : 1 ≤ z
  ·rw [if_pos h1] at ht
   have h3 := Int.lt_mul_ediv_self_add (x := z - 1) hc
   have h4 : cap * ((z - 1) / cap) + cap ≤ cap * t := by
    have := Int.mul_le_mul_of_nonneg_left ht (show 0 ≤ cap by omega)
    rw [Int.mul_add, Int.mul_one] at this
    exact this
   omega
  ·omega
theorem all0 : allD s q l z 0 = (s - q) * ((l - 1) / q + 1) + z := by unfold allD; rw [Int.zero_add, Int.zero_add]
theorem start_bound (hc : 0 < cap) (hq : 0 < q) (hs : q ≤ s) (hl : 1 ≤ l) (hz : 0 ≤ z) : 0 ≤ startD cap s q l z ∧ startD cap s q l z ≤ fromD cap s q l z ∧ 1 ≤ fromD cap s q l z := by
 have h0 := allD_ge (l := l) hq hs hz (y := 0) (by omega)
 have hf : 0 ≤ allD s q l z 0 / cap := Int.ediv_nonneg h0 (by omega)
 unfold startD fromD
 rw [← all0]
 by_cases h2 : 2 ≤ l
 ·rw [if_pos h2]
  have h1 := allD_ge (l := l) hq hs hz (y := -1) (by omega)
  have hm := allD_mono (l := l) (z := z) hq hs (y := -1) (y' := 0) (by omega)
  by_cases hn : allD s q l z (-1) < 0
  ·have e : allD s q l z (-1) = -1 := by omega
   rw [e]
   have : -1 ≤ (-1 : Int).tdiv cap ∧ (-1 : Int).tdiv cap ≤ 0 := by
    rw [Int.neg_tdiv, Int.tdiv_eq_ediv_of_nonneg (by omega)]
    have a1 : (0 : Int) ≤ 1 / cap := Int.ediv_nonneg (by omega) (by omega)
    have a2 : (1 : Int) / cap ≤ 1 := Int.ediv_le_self _ (by omega)
    omega
   omega
  ·rw [Int.tdiv_eq_ediv_of_nonneg (by omega)]
   have a1 : 0 ≤ allD s q l z (-1) / cap := Int.ediv_nonneg (by omega) (by omega)
   have a2 : allD s q l z (-1) / cap ≤ allD s q l z 0 / cap := Int.ediv_le_ediv hc hm
   omega
 ·rw [if_neg h2]
  by_cases h1 : 1 ≤ z
  ·rw [if_pos h1]
   have hz0 : z - 1 ≤ allD s q l z 0 := by
    unfold allD
    have h1 : 0 ≤ (0 + l - 1) / q := Int.ediv_nonneg (by omega) (by omega)
    have h2 : 0 ≤ (s - q) * ((0 + l - 1) / q + 1) := Int.mul_nonneg (by omega) (by omega)
    omega
   have a1 : 0 ≤ (z - 1) / cap := Int.ediv_nonneg (by omega) (by omega)
   have a2 : (z - 1) / cap ≤ allD s q l z 0 / cap := Int.ediv_le_ediv hc hz0
   omega
  ·rw [if_neg h1]; omega
theorem defFn_grows {p m : Nat} (hc : 0 < cap) (hq : 0 < q) (hs : q ≤ s) (hl : 1 ≤ l) (hz : 0 ≤ z) (hm : cap * (p : Int) = (m : Int) * s) {S : Nat} (hS : startD cap s q l z ≤ S) : Grows (defFn cap s q l z) S p ((m : Int) * q) := by
 intro t ht
 obtain ⟨qn, rfl⟩ := Int.eq_ofNat_of_zero_le (show 0 ≤ q by omega)
 have hqn : 0 < qn := by omega
 have hc0 : 0 ≤ cap := by omega
 obtain ⟨a1, a2, a3⟩ := leastY_is (defH_bound hq hs hl hz t hc0)
 unfold defFn
 rw [leastY_eq (defH_bound hq hs hl hz (t + p) hc0) (lo := leastY (defH cap s qn l z t) (cap * t).toNat + m * qn) (by rw [defH_shift hqn hm]; exact a2) (fun j hj => ?_)]
 ·rw [Int.natCast_add, Int.natCast_mul]
 ·by_cases h : j < m * qn
  ·exact defH_low hqn hs hm (start_low hc hq hs hl hz (by omega)) h
  ·obtain ⟨y, rfl⟩ : ∃ y, j = y + m * qn := ⟨j - m * qn, by omega⟩
   rw [defH_shift hqn hm]
   exact a3 y (by omega)
theorem defH_less (hc : 0 ≤ cap) {t y : Nat} (h : defH cap s q l z (t + 1) y = true) : defH cap s q l z t y = true := by
 unfold defH at h ⊢
 have h0 := of_decide_eq_true h
 have h1 : cap * ((t + 1 : Nat) : Int) = cap * (t : Int) + cap := by rw [Int.natCast_add, Int.mul_add]; simp
 rw [h1] at h0
 exact decide_eq_true (by omega)
theorem defFn_mono (hc : 0 ≤ cap) (hq : 0 < q) (hs : q ≤ s) (hl : 1 ≤ l) (hz : 0 ≤ z) (t : Nat) : defFn cap s q l z t ≤ defFn cap s q l z (t + 1) := by
 obtain ⟨a1, a2, a3⟩ := leastY_is (defH_bound hq hs hl hz t hc)
 obtain ⟨b1, b2, b3⟩ := leastY_is (defH_bound hq hs hl hz (t + 1) hc)
 unfold defFn
 apply Int.ofNat_le.2
 apply Classical.byContradiction
 intro h
 have := a3 _ (Nat.lt_of_not_le h)
 rw [defH_less hc b2] at this
 cases this
theorem defFn_bound (hc : 0 ≤ cap) (hq : 0 < q) (hs : q ≤ s) (hl : 1 ≤ l) (hz : 0 ≤ z) (t : Nat) : 0 ≤ defFn cap s q l z t ∧ defFn cap s q l z t ≤ cap * t := by
 obtain ⟨a1, a2, a3⟩ := leastY_is (defH_bound hq hs hl hz t hc)
 unfold defFn
 have : 0 ≤ cap * (t : Int) := Int.mul_nonneg hc (by omega)
 omega
theorem defFn_zero (hc : 0 < cap) (hq : 0 < q) (hs : q ≤ s) (hl : 1 ≤ l) (hz : 0 ≤ z) {t : Nat} (ht : (t : Int) < fromD cap s q l z) : defFn cap s q l z t = 0 := by
 have h0 : defH cap s q l z t 0 = true := by
  unfold defH
  apply decide_eq_true
  unfold fromD at ht
  rw [← all0] at ht
  have h1 : cap * (t : Int) ≤ cap * (allD s q l z 0 / cap) := Int.mul_le_mul_of_nonneg_left (by omega) (by omega)
  have h2 := Int.mul_ediv_self_le (x := allD s q l z 0) (k := cap) (by omega)
  show allD s q l z ((0 : Nat) : Int) ≥ _
  exact Int.le_trans h1 h2
 unfold defFn
 rw [leastY_eq (defH_bound hq hs hl hz t (by omega)) h0 (fun j hj => by omega)]
 rfl
/-- the program's form is the reference's -/
theorem def_build {p m : Nat} (hc : 0 < cap ∧ cap ≤ 4000) (hq : 0 < q) (hs : q ≤ s) (hl : 1 ≤ l) (hz : 0 ≤ z) (hp : 0 < p ∧ p ≤ 120) (hm : cap * (p : Int) = (m : Int) * s) (hst : startD cap s q l z ≤ 400) :
  mbuild (defFn cap s q l z) (startD cap s q l z).toNat p ((m : Int) * q) = if 400 < fromD cap s q l z then (zcv, 3) else madeR ⟨fvals (defFn cap s q l z) ((fromD cap s q l z).toNat + p), p, (m : Int) * q⟩ := by
 obtain ⟨b1, b2, b3⟩ := start_bound (cap := cap) hc.1 hq hs hl hz
 have hm1 : 0 < (m : Int) := by
  have h1 : 0 < cap * (p : Int) := Int.mul_pos hc.1 (by omega)
  rw [hm] at h1
  by_cases h : (m : Int) = 0
  ·rw [h, Int.zero_mul] at h1; omega
  ·omega
 have hI : 0 < (m : Int) * q := Int.mul_pos hm1 hq
 have hb : ∀ t : Nat, t ≤ 1000 → defFn cap s q l z t < INF := fun t ht => by
  have h1 := (defFn_bound (cap := cap) (by omega) hq hs hl hz t).2
  have h2 := (mulB (a := cap) (b := (t : Int)) (A := 4000) (B := 1000) (by omega) (by omega)).2
  unfold INF; omega
 have hg := defFn_grows (S := (startD cap s q l z).toNat) hc.1 hq hs hl hz hm (by omega)
 have hf : ∀ t, t < (startD cap s q l z).toNat + p → defFn cap s q l z t < INF := fun t ht => hb t (by omega)
 have hne : ∀ t, t < (startD cap s q l z).toNat + p → defFn cap s q l z t ≠ INF := fun t ht => by have := hf t ht; omega
 rw [mbuild_fin hne]
 by_cases hfr : 400 < fromD cap s q l z
 ·rw [if_pos hfr]
  obtain ⟨p', s', hnf, _, _, e⟩ := finL_nf hp.1 hg hne
  rw [e]
  have hp1 := hnf.least.1
  have hq1 : 1 ≤ (m : Int) * q * (p' : Int) / (p : Int) := by
   have h1 : 0 < (m : Int) * q * (p' : Int) := Int.mul_pos hI (by omega)
   have h2 := hnf.least.2.1.2.1
   have h3 := Int.mul_ediv_add_emod ((m : Int) * q * (p' : Int)) p
   rw [h2] at h3
   apply Classical.byContradiction
   intro hn
   have h4 : 0 ≤ (m : Int) * q * (p' : Int) / (p : Int) := Int.ediv_nonneg (by omega) (by omega)
   rw [show (m : Int) * q * (p' : Int) / (p : Int) = 0 by omega, Int.mul_zero] at h3
   omega
  have hgr := hnf.starts.1 s' (Nat.le_refl _)
  have hnn := (defFn_bound (cap := cap) (by omega) hq hs hl hz s').1
  have hlen : 400 < s' + p' := by
   apply Classical.byContradiction
   intro hn
   have := defFn_zero (t := s' + p') hc.1 hq hs hl hz (by omega)
   omega
  unfold nfC nfE
  rw [if_pos (if_pos (.inr (.inr (.inl hlen))))]
 ·rw [if_neg hfr]
  have hg' := defFn_grows (S := (fromD cap s q l z).toNat) hc.1 hq hs hl hz hm (by omega)
  exact build_made hp.1 (by omega) hg hg' (fun t => defFn_mono (by omega) hq hs hl hz t) (defFn_bound (by omega) hq hs hl hz 0).1 hf (fun t ht => hb t (by omega))
end
/-- all of it, for the walks -/
structure DefOk (cap k : Int) (w : List Int) (z : List Sz) (cn kn m s p mm : Nat) (q l x y : Int) : Prop where
  hs : shortN m cn = s
  s1 : q ≤ s ∧ s ≤ 120 * cn
  sx : q + x ≤ s
  hp : p = s / Nat.gcd s cn
  p1 : 1 ≤ p ∧ p ≤ 120
  hmm : (cn : Int) * p = mm * s
  mm1 : mm ≤ 4000
  hinc : (cn : Int) * p / s * q = mm * q
theorem def_cases {cap k : Int} {w : List Int} {z : List Sz} (h0 : chkW 6000 cap k w z = 0) (h1 : ¬ (nth z k.toNat).most < 1) :
  ∃ (cn kn m : Nat) (q l x y : Int), cap = cn ∧ k = kn ∧ (1 ≤ cn ∧ cn ≤ 4000) ∧ kn < z.length ∧ z.length ≤ 6 ∧ w.length = z.length ∧ (∀ x ∈ w, 1 ≤ x ∧ x ≤ 6000) ∧ (∀ s ∈ z, 0 ≤ s.least ∧ s.least ≤ s.most ∧ s.most ≤ 1500) ∧
   q = nth w kn ∧ l = (nth z kn).most ∧ (1 ≤ q ∧ q ≤ 6000) ∧ (1 ≤ l ∧ l ≤ 1500) ∧ x = xSum kn w z w.length ∧ y = zSum kn z w.length ∧ (0 ≤ x ∧ x ≤ 36000) ∧ (0 ≤ y ∧ y ≤ 9000) ∧ (m : Int) = q + x ∧ m ≤ 42000 ∧
   ((shortN m cn = -1 ∧ defC cap k w z = (zcv, 3)) ∨ ∃ s p mm, DefOk cap k w z cn kn m s p mm q l x y ∧ defC cap k w z = if 400 < fromD cn s q l y then (zcv, 3) else madeR ⟨fvals (defFn cn s q l y) ((fromD cn s q l y).toNat + p), p, (cn : Int) * p / s * q⟩) := by
 obtain ⟨c1, c2, k0, k1, zl, wl, hw, hz⟩ := chkW_ok h0
 obtain ⟨cn, rfl⟩ := Int.eq_ofNat_of_zero_le (show 0 ≤ cap by omega)
 obtain ⟨kn, rfl⟩ := Int.eq_ofNat_of_zero_le k0
 have hkn : kn < z.length := by omega
 rw [Int.toNat_natCast] at h1
 have hwk := hw _ (nth_mem (xs := w) (k := kn) (by omega))
 have hzk := hz _ (nth_mem hkn)
 have hx := xSum_bound (k := (kn : Int)) (z := z) hw w.length (Nat.le_refl _)
 have hy := zSum_bound (k := (kn : Int)) hz w.length (by omega)
 obtain ⟨m, hm⟩ := Int.eq_ofNat_of_zero_le (show 0 ≤ nth w kn + xSum kn w z w.length by omega)
 have hdef : defC cn kn w z = if shortN m cn = -1 then (zcv, 3) else if 400 < fromD cn (shortN m cn) (nth w kn) (nth z kn).most (zSum kn z w.length) then (zcv, 3)
   else madeR ⟨fvals (defFn cn (shortN m cn) (nth w kn) (nth z kn).most (zSum kn z w.length)) ((fromD cn (shortN m cn) (nth w kn) (nth z kn).most (zSum kn z w.length)).toNat + (shortN m cn).toNat / Nat.gcd (shortN m cn).toNat cn), (((shortN m cn).toNat / Nat.gcd (shortN m cn).toNat cn : Nat) : Int), (cn : Int) * (((shortN m cn).toNat / Nat.gcd (shortN m cn).toNat cn : Nat) : Int) / shortN m cn * nth w kn⟩ := by
  unfold defC
  rw [if_neg (fun h => h h0), Int.toNat_natCast, if_neg h1]
  dsimp only
  rw [hm, Int.toNat_natCast, Int.toNat_natCast]
 refine ⟨cn, kn, m, nth w kn, (nth z kn).most, xSum kn w z w.length, zSum kn z w.length, rfl, rfl, by omega, hkn, by omega, wl, hw, hz, rfl, rfl, hwk, by omega, rfl, rfl, by omega, by omega, hm.symm, by omega, ?_⟩
 rcases shortN_cases m cn with h | ⟨s, e, s1, s2, s3⟩
 ·exact .inl ⟨h, by rw [hdef, if_pos h]⟩
 ·right
  have hg : 0 < Nat.gcd s cn := Nat.gcd_pos_of_pos_right _ (by omega)
  have hd1 : Nat.gcd s cn ∣ s := Nat.gcd_dvd_left _ _
  have hd2 : Nat.gcd s cn ∣ cn := Nat.gcd_dvd_right _ _
  have hs0 : 0 < s := by omega
  have e1 : cn * (s / Nat.gcd s cn) = cn / Nat.gcd s cn * s := by
   rw [← Nat.mul_div_assoc _ hd1, Nat.div_mul_right_comm hd2]
  have e2 : (cn : Int) * ((s / Nat.gcd s cn : Nat) : Int) = ((cn / Nat.gcd s cn : Nat) : Int) * (s : Int) := by
   rw [← Int.natCast_mul, e1, Int.natCast_mul]
  have e3 : (cn : Int) * ((s / Nat.gcd s cn : Nat) : Int) / (s : Int) = ((cn / Nat.gcd s cn : Nat) : Int) := by
   rw [e2]; exact Int.mul_ediv_cancel _ (by omega)
  refine ⟨s, s / Nat.gcd s cn, cn / Nat.gcd s cn, ?_, ?_⟩
  ·exact { hs := e, s1 := ⟨by omega, s2⟩, sx := by omega, hp := rfl, p1 := ⟨Nat.div_pos (Nat.le_of_dvd hs0 hd1) hg, s3⟩, hmm := e2, mm1 := Nat.le_trans (Nat.div_le_self _ _) (by omega), hinc := by rw [e3] }
  ·rw [hdef, e, if_neg (by omega), Int.toNat_natCast]
end Go.Proofs.YthpblaoehlgpfaaGreat.M

/- Deficit round robin while a class is backlogged, plain: what the others take. No condition. -/
namespace Go.Proofs.YthpblaoehlgpfaaGreat.M
open Go Go.Proofs.YthpblaoehlgpfaaGreat.K

def sumF (f : Nat → Int) : Nat → Int
  | 0 => 0
  | n + 1 => sumF f n + f n
theorem sumF_congr {f g : Nat → Int} : ∀ {n : Nat}, (∀ i, i < n → f i = g i) → sumF f n = sumF g n
 | 0, _ => rfl
 | n + 1, h => by simp only [sumF]; rw [sumF_congr (fun i hi => h i (by omega)), h n (by omega)]
theorem sumF_le {f g : Nat → Int} : ∀ {n : Nat}, (∀ i, i < n → f i ≤ g i) → sumF f n ≤ sumF g n
 | 0, _ => Int.le_refl _
 | n + 1, h => by have a := sumF_le (fun i hi => h i (by omega) : ∀ i, i < n → f i ≤ g i); have b := h n (by omega); simp only [sumF]; omega
theorem sumF_change {f g : Nat → Int} {c : Nat} : ∀ {n : Nat}, c < n → (∀ i, i < n → i ≠ c → g i = f i) → sumF g n = sumF f n + (g c - f c)
 | 0, h, _ => by omega
 | n + 1, hc, h => by
  simp only [sumF]
  by_cases e : c = n
  ·subst e
   rw [sumF_congr (fun i hi => h i (by omega) (by omega) : ∀ i, i < c → g i = f i)]; omega
  ·rw [sumF_change (by omega) (fun i hi hne => h i (by omega) hne : ∀ i, i < n → i ≠ c → g i = f i), h n (by omega) (by omega)]; omega
theorem sumF_add {f g : Nat → Int} : ∀ {n : Nat}, sumF (fun i => f i + g i) n = sumF f n + sumF g n
 | 0 => rfl
 | n + 1 => by simp only [sumF]; rw [sumF_add]; omega
def xF (k : Nat) (w : List Int) (z : List Sz) (i : Nat) : Int := if i ≠ k ∧ 1 ≤ (nth z i).most then nth w i else 0
def zF (k : Nat) (z : List Sz) (i : Nat) : Int := if i ≠ k ∧ 1 ≤ (nth z i).most then (nth z i).most - 1 else 0
theorem xSum_eq {k : Nat} {w : List Int} {z : List Sz} : ∀ n : Nat, xSum k w z n = sumF (xF k w z) n
 | 0 => rfl
 | n + 1 => by
  simp only [xSum, sumF, xSum_eq n]
  congr 1
  unfold xF
  by_cases h : n ≠ k ∧ 1 ≤ (nth z n).most
  ·rw [if_pos h, if_pos ⟨by omega, h.2⟩]
  ·rw [if_neg h, if_neg (fun hh => h ⟨by omega, hh.2⟩)]
/-- the quantum of class i is still to be given before class k's next one -/
def pend (k c : Nat) (b : Bool) (i : Nat) : Bool := if c = k then b else (decide (i ≠ c) || !b) && (if c ≤ k then decide (c ≤ i ∧ i < k) else decide (c ≤ i ∨ i < k))
theorem pend_iff {k c i : Nat} {b : Bool} : pend k c b i = true ↔ (c = k ∧ b = true) ∨ (c ≠ k ∧ (i ≠ c ∨ b = false) ∧ ((c ≤ k ∧ c ≤ i ∧ i < k) ∨ (¬ c ≤ k ∧ (c ≤ i ∨ i < k)))) := by
 unfold pend
 by_cases h1 : c = k
 ·rw [if_pos h1]; simp [h1]
 ·rw [if_neg h1]
  by_cases h2 : c ≤ k
  ·rw [if_pos h2]; cases b <;> simp [h1, h2]
  ·rw [if_neg h2]; cases b <;> simp [h1, h2]
theorem pend_next {k c n i : Nat} (hc : c < n) (hk : k < n) (hn : 2 ≤ n) (hi : i < n) (hik : i ≠ k) : pend k ((c + 1) % n) false i = pend k c true i := by
 rw [mod_succ hc, Bool.eq_iff_iff, pend_iff, pend_iff]
 have e1 : (false = true) = False := by simp
 have e2 : (true = false) = False := by simp
 by_cases hl : c + 1 < n
 ·rw [if_pos hl, e1, e2]
  simp only [and_false, or_false, and_true, or_true, true_and, false_or]
  omega
 ·rw [if_neg hl, e1, e2]
  simp only [and_false, or_false, and_true, or_true, true_and, false_or]
  omega
theorem pend_self {k c : Nat} (h : c ≠ k) : pend k c true c = false := by unfold pend; rw [if_neg h]; simp
theorem pend_self' {k c : Nat} (h : c ≠ k) : pend k c false c = true := by unfold pend; rw [if_neg h]; split <;> simp <;> omega
theorem pend_other {k c i : Nat} {b : Bool} (h : c ≠ k) (hi : i ≠ c) : pend k c b i = pend k c true i := by unfold pend; rw [if_neg h, if_neg h]; simp [hi]
theorem pend_k {k i : Nat} {b : Bool} : pend k k b i = b := by unfold pend; rw [if_pos rfl]
/-- deficits saved, and quanta to come -/
def potF (w : List Int) (z : List Sz) (k c : Nat) (b : Bool) (d : List Int) (i : Nat) : Int := if i ≠ k ∧ 1 ≤ (nth z i).most then nth d i + (if pend k c b i = true then nth w i else 0) else 0
/-- the deficits: what is saved is less than a packet, but of the class that is visited -/
def DD (n : Nat) (z : List Sz) (c : Nat) (b : Bool) (d : List Int) : Prop := c < n ∧ d.length = n ∧ ∀ i, i < n → 0 ≤ nth d i ∧ (¬ (i = c ∧ b = true) → 1 ≤ (nth z i).most → nth d i ≤ (nth z i).most - 1)
def JD (w : List Int) (z : List Sz) (k c : Nat) (b : Bool) (d : List Int) (op own oth : Int) : Prop :=
  DD w.length z c b d ∧ ∃ v : Nat, oth + (if c = k then 0 else op) + sumF (potF w z k c b d) w.length ≤ ((v : Int) + 1) * xSum k w z w.length + zSum k z w.length ∧
    (v : Int) * nth w k ≤ own + (if c = k then op else 0) + nth d k ∧ (c = k → b = true → ((v : Int) - 1) * nth w k - ((nth z k).most - 1) ≤ own)
section
variable {nx sz : Int → Int} {w : List Int} {z : List Sz} {k : Nat}
theorem DD.grant (hw : ∀ x ∈ w, 1 ≤ x) {c : Nat} {b : Bool} {d : List Int} (h : DD w.length z c b d) (h0 : 0 ≤ nx c) : DD w.length z c true (M.grant nx w c b d) := by
 obtain ⟨h1, h2, h3⟩ := h
 refine ⟨h1, by rw [grant_len]; exact h2, fun i hi => ?_⟩
 have a := h3 i hi
 by_cases e : i = c
 ·subst e
  refine ⟨?_, fun hn => absurd ⟨rfl, rfl⟩ hn⟩
  rw [grant_self (by omega)]
  have := hw _ (nth_mem hi)
  split <;> omega
 ·rw [grant_ne e]
  exact ⟨a.1, fun _ hm => a.2 (fun hh => e hh.1) hm⟩
theorem DD.pick {c : Nat} {d : List Int} (h : DD w.length z c true d) {s : Int} (hs : s ≤ nth d c) : DD w.length z c true (d.set c (nth d c - s)) := by
 obtain ⟨h1, h2, h3⟩ := h
 refine ⟨h1, by rw [List.length_set]; exact h2, fun i hi => ?_⟩
 have a := h3 i hi
 by_cases e : i = c
 ·subst e
  rw [nth_set_self (by omega)]
  exact ⟨by omega, fun hn => absurd ⟨rfl, rfl⟩ hn⟩
 ·rw [nth_set_ne (Ne.symm e)]
  exact ⟨a.1, fun _ hm => a.2 (fun hh => e hh.1) hm⟩
theorem DD.next {c : Nat} {b : Bool} {d : List Int} (h : DD w.length z c b d) (hlt : 1 ≤ (nth z c).most → nth d c ≤ (nth z c).most - 1) : DD w.length z ((c + 1) % w.length) false d := by
 obtain ⟨h1, h2, h3⟩ := h
 refine ⟨Nat.mod_lt _ (by omega), h2, fun i hi => ?_⟩
 have a := h3 i hi
 refine ⟨a.1, fun _ hm => ?_⟩
 by_cases e : i = c
 ·subst e; exact hlt hm
 ·exact a.2 (fun hh => e hh.1) hm
theorem JD.grant (hw : ∀ x ∈ w, 1 ≤ x) (hk : k < w.length) (hL : 1 ≤ (nth z k).most) {c : Nat} {b : Bool} {d : List Int} {own oth : Int} (h : JD w z k c b d 0 own oth) (h0 : 0 ≤ nx c) : JD w z k c true (M.grant nx w c b d) 0 own oth := by
 obtain ⟨hd, v, a1, a2, a3⟩ := h
 refine ⟨hd.grant hw h0, ?_⟩
 have hcl : c < d.length := by rw [hd.2.1]; exact hd.1
 cases b with
 | true =>
  have e : M.grant nx w c true d = d := by unfold M.grant; rw [if_neg (by simp)]
  rw [e]; exact ⟨v, a1, a2, a3⟩
 | false =>
  have eg : nth (M.grant nx w c false d) c = nth d c + nth w c := by rw [grant_self hcl, if_pos ⟨h0, rfl⟩]
  by_cases hck : c = k
  ·subst hck
   rw [if_pos rfl] at a1 a2
   refine ⟨v + 1, ?_, ?_, fun _ _ => ?_⟩
   ·rw [if_pos rfl]
    have e : sumF (potF w z c c true (M.grant nx w c false d)) w.length = sumF (potF w z c c false d) w.length + xSum c w z w.length := by
     rw [xSum_eq, ← sumF_add]
     refine sumF_congr (fun i hi => ?_)
     unfold potF xF
     by_cases hh : i ≠ c ∧ 1 ≤ (nth z i).most
     ·rw [if_pos hh, if_pos hh, if_pos hh, grant_ne hh.1, pend_k, pend_k, if_pos rfl, if_neg (by simp)]; omega
     ·rw [if_neg hh, if_neg hh, if_neg hh]; omega
    rw [e]
    have e2 : (((v + 1 : Nat) : Int) + 1) * xSum c w z w.length = ((v : Int) + 1) * xSum c w z w.length + xSum c w z w.length := by rw [show (((v + 1 : Nat) : Int) + 1) = ((v : Int) + 1) + 1 by omega, Int.add_mul, Int.one_mul]
    rw [e2]; omega
   ·rw [if_pos rfl, eg]
    have e2 : (((v + 1 : Nat) : Int)) * nth w c = (v : Int) * nth w c + nth w c := by rw [show ((v + 1 : Nat) : Int) = (v : Int) + 1 by omega, Int.add_mul, Int.one_mul]
    rw [e2]; omega
   ·have hdk := (hd.2.2 c hk).2 (by simp) hL
    rw [show (((v + 1 : Nat) : Int) - 1) = (v : Int) by omega]
    omega
  ·rw [if_neg hck] at a1 a2
   refine ⟨v, ?_, ?_, fun h => absurd h hck⟩
   ·rw [if_neg hck]
    have e : sumF (potF w z k c true (M.grant nx w c false d)) w.length = sumF (potF w z k c false d) w.length := by
     refine sumF_congr (fun i hi => ?_)
     unfold potF
     by_cases hh : i ≠ k ∧ 1 ≤ (nth z i).most
     ·rw [if_pos hh, if_pos hh]
      by_cases e : i = c
      ·subst e
       rw [eg, pend_self hck, pend_self' hck, if_neg (by simp), if_pos rfl]; omega
      ·rw [grant_ne e, pend_other (b := false) hck e]
     ·rw [if_neg hh, if_neg hh]
    rw [e]; exact a1
   ·rw [if_neg hck, grant_ne (Ne.symm hck)]; exact a2
theorem JD.pick {c : Nat} {d : List Int} {own oth : Int} (h : JD w z k c true d 0 own oth) {s : Int} (hs : s ≤ nth d c) (hm : 1 ≤ (nth z c).most) : JD w z k c true (d.set c (nth d c - s)) s own oth := by
 obtain ⟨hd, v, a1, a2, a3⟩ := h
 have hcl : c < d.length := by rw [hd.2.1]; exact hd.1
 refine ⟨hd.pick hs, v, ?_, ?_, a3⟩
 ·by_cases hck : c = k
  ·subst hck
   rw [if_pos rfl] at a1 ⊢
   have e : sumF (potF w z c c true (d.set c (nth d c - s))) w.length = sumF (potF w z c c true d) w.length := by
    refine sumF_congr (fun i hi => ?_)
    unfold potF
    by_cases hh : i ≠ c ∧ 1 ≤ (nth z i).most
    ·rw [if_pos hh, if_pos hh, nth_set_ne (Ne.symm hh.1)]
    ·rw [if_neg hh, if_neg hh]
   rw [e]; exact a1
  ·rw [if_neg hck] at a1 ⊢
   have e : sumF (potF w z k c true (d.set c (nth d c - s))) w.length = sumF (potF w z k c true d) w.length + (potF w z k c true (d.set c (nth d c - s)) c - potF w z k c true d c) := by
    refine sumF_change hd.1 (fun i hi hne => ?_)
    unfold potF
    rw [nth_set_ne (Ne.symm hne)]
   have e2 : potF w z k c true (d.set c (nth d c - s)) c - potF w z k c true d c = - s := by
    unfold potF
    have hcm : c ≠ k ∧ 1 ≤ (nth z c).most := ⟨hck, hm⟩
    rw [if_pos hcm, if_pos hcm, nth_set_self hcl]; omega
   rw [e, e2]; omega
 ·by_cases hck : c = k
  ·subst hck
   rw [if_pos rfl] at a2 ⊢
   rw [nth_set_self hcl]; omega
  ·rw [if_neg hck] at a2 ⊢
   rw [nth_set_ne hck]; exact a2
theorem JD.next (hw : ∀ x ∈ w, 1 ≤ x) (hk : k < w.length) (hn : 2 ≤ w.length) {c : Nat} {d : List Int} {own oth : Int} (h : JD w z k c true d 0 own oth) (hlt : 1 ≤ (nth z c).most → nth d c ≤ (nth z c).most - 1) : JD w z k ((c + 1) % w.length) false d 0 own oth := by
 obtain ⟨hd, v, a1, a2, a3⟩ := h
 refine ⟨hd.next hlt, v, ?_, ?_, fun _ h => by cases h⟩
 ·have e : sumF (potF w z k ((c + 1) % w.length) false d) w.length = sumF (potF w z k c true d) w.length := by
   refine sumF_congr (fun i hi => ?_)
   unfold potF
   by_cases hh : i ≠ k ∧ 1 ≤ (nth z i).most
   ·rw [if_pos hh, if_pos hh, pend_next hd.1 hk hn hi hh.1]
   ·rw [if_neg hh, if_neg hh]
  rw [e]
  split <;> split at a1 <;> omega
 ·split <;> split at a2 <;> omega
/-- a class without a waiting packet loses its deficit -/
theorem JD.skip (hw : ∀ x ∈ w, 1 ≤ x) (hk : k < w.length) (hn : 2 ≤ w.length) {c : Nat} {b : Bool} {d : List Int} {own oth : Int} (h : JD w z k c b d 0 own oth) (hck : c ≠ k) : JD w z k ((c + 1) % w.length) false (d.set c 0) 0 own oth := by
 obtain ⟨hd, v, a1, a2, a3⟩ := h
 have hcl : c < d.length := by rw [hd.2.1]; exact hd.1
 have hd2 : DD w.length z c b (d.set c 0) := by
  refine ⟨hd.1, by rw [List.length_set]; exact hd.2.1, fun i hi => ?_⟩
  by_cases e : i = c
  ·subst e
   rw [nth_set_self hcl]
   exact ⟨Int.le_refl _, fun _ hm => by omega⟩
  ·rw [nth_set_ne (Ne.symm e)]; exact hd.2.2 i hi
 refine ⟨hd2.next (fun hm => by rw [nth_set_self hcl]; omega), v, ?_, ?_, fun _ h => by cases h⟩
 ·have e : sumF (potF w z k ((c + 1) % w.length) false (d.set c 0)) w.length ≤ sumF (potF w z k c b d) w.length := by
   refine sumF_le (fun i hi => ?_)
   unfold potF
   by_cases hh : i ≠ k ∧ 1 ≤ (nth z i).most
   ·rw [if_pos hh, if_pos hh, pend_next hd.1 hk hn hi hh.1]
    by_cases e : i = c
    ·subst e
     rw [nth_set_self hcl, pend_self hck, if_neg (by simp)]
     have := (hd.2.2 i hi).1
     have := hw _ (nth_mem hi)
     split <;> omega
    ·rw [nth_set_ne (Ne.symm e), pend_other (b := b) hck e]; exact Int.le_refl _
   ·rw [if_neg hh, if_neg hh]; exact Int.le_refl _
  rw [if_neg hck] at a1
  split <;> omega
 ·rw [nth_set_ne hck]
  rw [if_neg hck] at a2
  split <;> omega
end
def Jdef (ps : List Pkt) (w : List Int) (z : List Sz) (k : Nat) (sg : Nat × Bool × List Int) (cur rest own oth : Int) : Prop := JD w z k sg.1 sg.2.1 sg.2.2 (if 0 ≤ cur then rest else 0) own oth ∧ (0 ≤ cur → (nth ps cur.toNat).flow = sg.1 ∧ sg.2.1 = true)
section
variable {ps : List Pkt} {w : List Int} {z : List Sz} {k : Nat}
/-- where every run stands -/
def V0 (w : List Int) (z : List Sz) (c : Nat) (b : Bool) (d : List Int) (op : Int) : Prop := DD w.length z c b d ∧ (b = true → 1 ≤ (nth z c).most → nth d c + op ≤ (nth z c).most - 1 + nth w c)
def Vdef (ps : List Pkt) (w : List Int) (z : List Sz) (sg : Nat × Bool × List Int) (cur rest : Int) : Prop := V0 w z sg.1 sg.2.1 sg.2.2 (if 0 ≤ cur then rest else 0) ∧ (0 ≤ cur → cur < ps.length ∧ (nth ps cur.toNat).flow = sg.1 ∧ sg.2.1 = true ∧ 0 ≤ rest ∧ 1 ≤ (nth z sg.1).most)
theorem V0.grant (hw : ∀ x ∈ w, 1 ≤ x) {nx : Int → Int} {c : Nat} {b : Bool} {d : List Int} (h : V0 w z c b d 0) (h0 : 0 ≤ nx c) : V0 w z c true (M.grant nx w c b d) 0 := by
 obtain ⟨hd, h1⟩ := h
 have hcl : c < d.length := by rw [hd.2.1]; exact hd.1
 refine ⟨hd.grant hw h0, fun _ hm => ?_⟩
 rw [grant_self hcl]
 cases b with
 | true => rw [if_neg (by simp)]; exact h1 rfl hm
 | false =>
  rw [if_pos ⟨h0, rfl⟩]
  have := (hd.2.2 c hd.1).2 (by simp) hm
  omega
end
end Go.Proofs.YthpblaoehlgpfaaGreat.M

/- Weighted and deficit round robin: the curve of a class is what it is served while it is backlogged, plain. No condition. -/
namespace Go.Proofs.YthpblaoehlgpfaaGreat.M
open Go Go.Proofs.YthpblaoehlgpfaaGreat.K

/-- what a law over a scheduler wants of a class's curve: its form, and that it is less than what is sent where the others take at most O -/
def CurveFor (x : Cv × Int) (cap : Int) (O : Int → Int) (G : Nat → Int) (s p : Nat) (q : Int) : Prop :=
  x = (⟨fvals G (s + p), p, q⟩, 0) ∧ FC G s p q ∧ G 0 = 0 ∧ ∀ (t : Nat) (own : Int), 0 ≤ own → cap * (t : Int) ≤ own + O own → G t ≤ own
theorem leastY_le {H : Nat → Bool} {b y : Nat} (hb : H b = true) (hy : H y = true) : leastY H b ≤ y := by
 obtain ⟨_, _, h3⟩ := leastY_is hb
 apply Classical.byContradiction
 intro hn
 rw [h3 y (by omega)] at hy; cases hy
theorem rob_for {cap k : Int} {w : List Int} {z : List Sz} (h : (robinC cap k w z).2 = 0) : chkW 20 cap k w z = 0 ∧ 1 ≤ (nth z k.toNat).least ∧ ∃ (G : Nat → Int) (s p : Nat) (q : Int), CurveFor (robinC cap k w z) cap (fun own => qSum k w z w.length * (own / (nth w k.toNat * (nth z k.toNat).least) + 1)) G s p q := by
 by_cases h0 : chkW 20 cap k w z = 0
 ·by_cases h1 : (nth z k.toNat).least < 1
  ·have : robinC cap k w z = (zcv, 5) := by unfold robinC; rw [if_neg (fun h => h h0), if_pos h1]
   rw [this] at h; cases h
  ·refine ⟨h0, by omega, ?_⟩
   obtain ⟨cn, kn, m, r, rfl, rfl, c1, k1, zl, hwl, hw, hz, hr, r1, hm, m1, hcase⟩ := rob_cases h0 h1
   rcases hcase with ⟨_, hd⟩ | ⟨s, p, mm, hro, hd⟩
   ·rw [hd] at h; cases h
   ·obtain ⟨hg, hi, hb, _⟩ := hro.facts
    have hp := hro.p1
    have hs1 := hro.s1
    rcases build_fc (by omega) hi.1 hg (fun t => robinF_mono (by omega) (by omega) hs1.1 t) (hb 0 (by omega)).1 (fun t ht => by have := hb t (by omega); unfold INF; omega) with e | ⟨s', p', q', e, hfc⟩
    ·rw [hd, e] at h; cases h
    ·have hq := qSum_bound (k := (kn : Int)) hw hz w.length (Nat.le_refl _) (by omega)
     have hms : m ≤ s := by
      rcases shortN_cases m cn with e1 | ⟨s2, e1, e2, _, _⟩
      ·rw [hro.hs] at e1; omega
      ·rw [hro.hs] at e1; omega
     refine ⟨robinF cn s r, s', p', q', by rw [hd, e], hfc, ?_, fun t own h0 h2 => ?_⟩
     ·have := robinF_bound (cap := (cn : Int)) (s := (s : Int)) (r := r) (by omega) (by omega) hs1.1 0
      simp at this; omega
     ·dsimp only at h2
      rw [Int.toNat_natCast, ← hr] at h2
      obtain ⟨y, rfl⟩ := Int.eq_ofNat_of_zero_le h0
      have hd0 : 0 ≤ (y : Int) / r := Int.ediv_nonneg (by omega) (by omega)
      have hle : qSum kn w z w.length * ((y : Int) / r + 1) ≤ ((s : Int) - r) * ((y : Int) / r + 1) := Int.mul_le_mul_of_nonneg_right (by omega) (by omega)
      have hy : robinH cn s r t y = true := by unfold robinH; exact decide_eq_true (by omega)
      have := leastY_le (robinH_bound (show 0 < r by omega) hs1.1 t (show (0 : Int) ≤ cn by omega)) hy
      show ((leastY (robinH cn s r t) ((cn : Int) * t).toNat : Nat) : Int) ≤ (y : Int)
      omega
 ·have : robinC cap k w z = (zcv, chkW 20 cap k w z) := if_pos h0
  rw [this] at h
  exact absurd h h0
theorem def_for {cap k : Int} {w : List Int} {z : List Sz} (h : (defC cap k w z).2 = 0) : chkW 6000 cap k w z = 0 ∧ 1 ≤ (nth z k.toNat).most ∧ ∃ (G : Nat → Int) (s p : Nat) (q : Int), CurveFor (defC cap k w z) cap (fun own => ((own + (nth z k.toNat).most - 1) / nth w k.toNat + 1) * xSum k w z w.length + zSum k z w.length) G s p q := by
 by_cases h0 : chkW 6000 cap k w z = 0
 ·by_cases h1 : (nth z k.toNat).most < 1
  ·have : defC cap k w z = (zcv, 5) := by unfold defC; rw [if_neg (fun h => h h0), if_pos h1]
   rw [this] at h; cases h
  ·refine ⟨h0, by omega, ?_⟩
   obtain ⟨cn, kn, m, q, l, x, y, rfl, rfl, c1, k1, zl, hwl, hw, hz, hq, hl, q1, l1, hx, hy, x1, y1, hm, m1, hcase⟩ := def_cases h0 h1
   rcases hcase with ⟨_, hd⟩ | ⟨s, p, mm, hro, hd⟩
   ·rw [hd] at h; cases h
   ·have hs1 := hro.s1
    have hsx := hro.sx
    have hp := hro.p1
    by_cases hfr : 400 < fromD (cn : Int) (s : Int) q l y
    ·rw [hd, if_pos hfr] at h; cases h
    ·rw [if_neg hfr] at hd
     obtain ⟨b1, b2, b3⟩ := start_bound (cap := (cn : Int)) (s := (s : Int)) (q := q) (l := l) (z := y) (by omega) (by omega) hs1.1 l1.1 y1.1
     have hbm := def_build (cap := (cn : Int)) (s := (s : Int)) (q := q) (l := l) (z := y) (p := p) (m := mm) (by omega) (by omega) hs1.1 l1.1 y1.1 (by omega) hro.hmm (by omega)
     rw [if_neg hfr, ← hro.hinc] at hbm
     rw [← hbm] at hd
     have hi : 0 ≤ (cn : Int) * p / s * q := by rw [hro.hinc]; exact Int.mul_nonneg (by omega) (by omega)
     have hb : ∀ t : Nat, t ≤ 1000 → 0 ≤ defFn cn s q l y t ∧ defFn cn s q l y t < INF := fun t ht => by
      have h1 := defFn_bound (cap := (cn : Int)) (s := (s : Int)) (q := q) (l := l) (z := y) (by omega) (by omega) hs1.1 l1.1 y1.1 t
      have h2 := mulB (a := (cn : Int)) (b := (t : Int)) (A := 4000) (B := 1000) (by omega) (by omega)
      unfold INF; omega
     have hg := defFn_grows (cap := (cn : Int)) (s := (s : Int)) (q := q) (l := l) (z := y) (S := (startD (cn : Int) (s : Int) q l y).toNat) (by omega) (by omega) hs1.1 l1.1 y1.1 hro.hmm (by omega)
     rw [← hro.hinc] at hg
     rcases build_fc (by omega) hi hg (fun t => defFn_mono (by omega) (by omega) hs1.1 l1.1 y1.1 t) (hb 0 (by omega)).1 (fun t ht => (hb t (by omega)).2) with e | ⟨s', p', q', e, hfc⟩
     ·rw [hd, e] at h; cases h
     ·refine ⟨defFn cn s q l y, s', p', q', by rw [hd, e], hfc, defFn_zero (by omega) (by omega) hs1.1 l1.1 y1.1 (by omega), fun t own h0 h2 => ?_⟩
      dsimp only at h2
      rw [Int.toNat_natCast, ← hl, ← hq, ← hx, ← hy] at h2
      obtain ⟨v, rfl⟩ := Int.eq_ofNat_of_zero_le h0
      have hd0 : 0 ≤ ((v : Int) + l - 1) / q := Int.ediv_nonneg (by omega) (by omega)
      have hle : (((v : Int) + l - 1) / q + 1) * x ≤ (((v : Int) + l - 1) / q + 1) * ((s : Int) - q) := Int.mul_le_mul_of_nonneg_left (by omega) (by omega)
      have hv : defH cn s q l y t v = true := by
       unfold defH allD
       rw [Int.mul_comm ((s : Int) - q)]
       exact decide_eq_true (by omega)
      have := leastY_le (defH_bound (show 0 < q by omega) hs1.1 l1.1 y1.1 t (show (0 : Int) ≤ cn by omega)) hv
      show ((leastY (defH cn s q l y t) ((cn : Int) * t).toNat : Nat) : Int) ≤ (v : Int)
      omega
 ·have : defC cap k w z = (zcv, chkW 6000 cap k w z) := if_pos h0
  rw [this] at h
  exact absurd h h0
section
variable {σ : Type} {ps : List Pkt} {ch : MS → σ → Int × Nat × σ} {good : MS → σ → Prop} {classes k : Nat}
end
end Go.Proofs.YthpblaoehlgpfaaGreat.M

/- Time slots, plain: what every run of such a line keeps. No condition. -/
namespace Go.Proofs.YthpblaoehlgpfaaGreat.M
open Go Go.Proofs.YthpblaoehlgpfaaGreat.K

/-- the rest of a packet has room in the ticks in a row from t on -/
def Fits (tb : List Int) (cap : Int) (t : Nat) (left rest : Int) : Prop := (∀ i, slotT tb i = slotT tb t) ∨ ∃ n : Nat, (∀ j, j ≤ n → slotT tb (t + j) = slotT tb t) ∧ rest ≤ left + cap * n
theorem Fits.next {tb : List Int} {cap : Int} {t : Nat} {rest : Int} (h : Fits tb cap t 0 rest) (hr : 1 ≤ rest) : slotT tb (t + 1) = slotT tb t ∧ Fits tb cap (t + 1) cap rest := by
 rcases h with h | ⟨n, h1, h2⟩
 ·exact ⟨h _, .inl (fun i => by rw [h i, h (t + 1)])⟩
 ·cases n with
  | zero => simp at h2; omega
  | succ n =>
   have e := h1 1 (by omega)
   refine ⟨e, .inr ⟨n, fun j hj => ?_, ?_⟩⟩
   ·rw [show t + 1 + j = t + (j + 1) by omega, h1 (j + 1) (by omega), e]
   ·rw [Int.natCast_add, Int.mul_add] at h2
    simp at h2; omega
structure SlotPost (ps : List Pkt) (cap : Int) (tb : List Int) (classes t : Nat) (s s' : RS Unit) : Prop where
  open_ : 0 ≤ s'.cur → (nth ps s'.cur.toNat).flow = slotT tb t ∧ Fits tb cap t s'.ms.left s'.rest
  left0 : 0 ≤ s'.cur → s'.ms.left = 0
  other : ∀ c : Nat, (c : Int) ≠ slotT tb t → c < classes → nth (nth s'.sent c) (t + 1) = nth (nth s.sent c) (t + 1)
  mine : ∀ c : Nat, (c : Int) = slotT tb t → c < classes → nth (nth s'.sent c) (t + 1) + s'.ms.left = nth (nth s.sent c) (t + 1) + s.ms.left
  done : ∀ i, i < ps.length → nth s'.done i = nth s.done i ∨ (nth s'.done i = t ∧ (nth ps i).flow = slotT tb t)
  beg : ∀ i, (nth ps i).flow ≠ slotT tb t → nth s'.ms.begun i = nth s.ms.begun i
  lft : 0 ≤ s'.ms.left ∧ s'.ms.left ≤ s.ms.left
  idle : 0 < s'.ms.left → s'.cur < 0 ∧ (slotT tb t < 0 ∨ nextW ps s'.ms (slotT tb t) < 0 ∨ ∃ n : Nat, aheadN tb (slotT tb t) t = n + 1 ∧ (nth ps (nextW ps s'.ms (slotT tb t)).toNat).size > s'.ms.left + cap * n)
section
variable {ps : List Pkt} {cap : Int} {tb : List Int} {classes : Nat}
end
end Go.Proofs.YthpblaoehlgpfaaGreat.M

/- Time slots, plain: a class is sent what it is sent alone. No condition. -/
namespace Go.Proofs.YthpblaoehlgpfaaGreat.M
open Go Go.Proofs.YthpblaoehlgpfaaGreat.K

/-- the places of the packets of a class -/
def selI (ps : List Pkt) (k : Int) : List Nat := (List.range ps.length).filter fun i => (nth ps i).flow == k
def selP (ps : List Pkt) (k : Int) : List Pkt := ps.filter fun p => p.flow == k
structure Sel (ps : List Pkt) (k : Int) (qs : List Pkt) (ix : Nat → Nat) : Prop where
  at_ : ∀ j, j < qs.length → ix j < ps.length ∧ (nth ps (ix j)).flow = k ∧ nth qs j = nth ps (ix j)
  mono : ∀ j j', j < j' → j' < qs.length → ix j < ix j'
  onto : ∀ i, i < ps.length → (nth ps i).flow = k → ∃ j, j < qs.length ∧ ix j = i
section
variable {ps qs : List Pkt} {cap : Int} {tb : List Int} {classes k : Nat} {ix : Nat → Nat}
theorem Sel.inj (h : Sel ps k qs ix) {j j' : Nat} (hj : j < qs.length) (hj' : j' < qs.length) (e : ix j = ix j') : j = j' := by
 rcases Nat.lt_trichotomy j j' with h1 | h1 | h1
 ·have := h.mono _ _ h1 hj'; omega
 ·exact h1
 ·have := h.mono _ _ h1 hj; omega
/-- the first packet of the class that waits, here and there -/
theorem Sel.next (h : Sel ps k qs ix) {ms ms' : MS} (hnow : ms'.now = ms.now) (hb : ∀ j, j < qs.length → nth ms'.begun j = nth ms.begun (ix j)) :
  (nextW qs ms' k < 0 ∧ nextW ps ms k < 0) ∨ (0 ≤ nextW qs ms' k ∧ (nextW qs ms' k).toNat < qs.length ∧ nextW ps ms k = ix (nextW qs ms' k).toNat) := by
 have hP : ∀ j, j < qs.length → nextP qs ms' k j = nextP ps ms k (ix j) := fun j hj => by
  obtain ⟨_, h2, h3⟩ := h.at_ j hj
  unfold nextP
  rw [hnow, hb j hj, h3]
 unfold nextW
 rcases findN_cases (nextP qs ms' k) qs.length with ⟨j, j1, j2, j3, j4⟩ | ⟨j1, j2⟩
 ·right
  rw [j2, Int.toNat_natCast]
  refine ⟨by omega, j1, ?_⟩
  refine findN_some (h.at_ j j1).1 (by rw [← hP j j1]; exact j3) (fun i hi => ?_)
  by_cases hf : (nth ps i).flow = k
  ·obtain ⟨j', e1, e2⟩ := h.onto i (by have := (h.at_ j j1).1; omega) hf
   have hlt : j' < j := by
    apply Classical.byContradiction
    intro hn
    by_cases e : j' = j
    ·subst e; omega
    ·have := h.mono j j' (by omega) e1; omega
   have := j4 j' hlt
   rw [hP j' e1, e2] at this; exact this
  ·unfold nextP
   have : ((nth ps i).flow == (k : Int)) = false := by simpa using hf
   rw [this]; simp
 ·left
  refine ⟨by rw [j1]; omega, ?_⟩
  rw [findN_none (fun i hi => ?_)]
  ·omega
  ·by_cases hf : (nth ps i).flow = k
   ·obtain ⟨j', e1, e2⟩ := h.onto i hi hf
    have := j2 j' e1
    rw [hP j' e1, e2] at this; exact this
   ·unfold nextP
    have : ((nth ps i).flow == (k : Int)) = false := by simpa using hf
    rw [this]; simp
/-- the two runs while the class is served -/
structure ApI (ps qs : List Pkt) (k t : Nat) (ix : Nat → Nat) (s a : RS Unit) : Prop where
  left : a.ms.left = s.ms.left
  now : a.ms.now = s.ms.now
  begun : ∀ j, j < qs.length → nth a.ms.begun j = nth s.ms.begun (ix j)
  done : ∀ j, j < qs.length → nth a.done j = nth s.done (ix j)
  col : nth (nth a.sent k) (t + 1) = nth (nth s.sent k) (t + 1)
  cur : (0 ≤ a.cur ∧ s.cur = ix a.cur.toNat ∧ a.rest = s.rest) ∨ (a.cur < 0 ∧ s.cur < 0)
/-- the two runs between ticks -/
structure Ap (ps qs : List Pkt) (k t : Nat) (ix : Nat → Nat) (s a : RS Unit) : Prop where
  begun : ∀ j, j < qs.length → nth a.ms.begun j = nth s.ms.begun (ix j)
  done : ∀ j, j < qs.length → nth a.done j = nth s.done (ix j)
  col : nth (nth a.sent k) t = nth (nth s.sent k) t
  cur : (0 ≤ a.cur ∧ s.cur = ix a.cur.toNat ∧ a.rest = s.rest) ∨ (a.cur < 0 ∧ (s.cur < 0 ∨ (nth ps s.cur.toNat).flow ≠ k))
end
end Go.Proofs.YthpblaoehlgpfaaGreat.M

/- Time slots, plain: the curve of a class, and that it is what the class is served. No condition. -/
namespace Go.Proofs.YthpblaoehlgpfaaGreat.M
open Go Go.Proofs.YthpblaoehlgpfaaGreat.K

/-- of so many ticks from a tick on: what the parts that have ended count, and the part that goes on -/
def slotS (cap lost : Int) (mine : Nat → Bool) (from_ : Nat) : Nat → Int × Int
  | 0 => (0, 0)
  | d + 1 => if mine (from_ + d) = true then ((slotS cap lost mine from_ d).1, (slotS cap lost mine from_ d).2 + cap) else ((slotS cap lost mine from_ d).1 + max 0 ((slotS cap lost mine from_ d).2 - lost), 0)
def cntS (cap lost : Int) (mine : Nat → Bool) (from_ k : Nat) : Int := (slotS cap lost mine from_ k).1 + max 0 ((slotS cap lost mine from_ k).2 - lost)
/-- the least of so many -/
def minTo (f : Nat → Int) : Nat → Int
  | 0 => 4611686018427387904
  | n + 1 => min (minTo f n) (f n)
def minN (f : Nat → Int) : Nat → Int
  | 0 => f 0
  | n + 1 => min (minN f n) (f n)
def slotF (cap lost : Int) (mine : Nat → Bool) (n : Nat) (k : Nat) : Int := minN (fun a => cntS cap lost mine a k) n
theorem minTo_minN {f : Nat → Int} (h : f 0 ≤ 4611686018427387904) : ∀ {n : Nat}, 0 < n → minTo f n = minN f n
 | 0, h0 => by omega
 | 1, _ => by simp only [minTo, minN]; omega
 | n + 2, _ => by
  have ih := minTo_minN h (n := n + 1) (by omega)
  have e1 : minTo f (n + 2) = min (minTo f (n + 1)) (f (n + 1)) := rfl
  have e2 : minN f (n + 2) = min (minN f (n + 1)) (f (n + 1)) := rfl
  omega
theorem minN_le {f : Nat → Int} : ∀ {n i : Nat}, i < n → minN f n ≤ f i
 | 0, i, h => by omega
 | n + 1, i, h => by
  simp only [minN]
  by_cases e : i = n
  ·subst e; omega
  ·have := minN_le (f := f) (n := n) (i := i) (by omega); omega
theorem minN_ge {f : Nat → Int} {B : Int} (h0 : B ≤ f 0) : ∀ {n : Nat}, (∀ i, i < n → B ≤ f i) → B ≤ minN f n
 | 0, _ => h0
 | n + 1, hf => by
  have a := minN_ge h0 (n := n) (fun i hi => hf i (by omega))
  have b := hf n (by omega)
  simp only [minN]; omega
theorem minN_add {f g : Nat → Int} {W : Int} : ∀ {n : Nat}, 0 < n → (∀ i, i < n → g i = f i + W) → minN g n = minN f n + W
 | 0, h, _ => by omega
 | 1, _, h => by
  have a := h 0 (by omega)
  simp only [minN]; omega
 | n + 2, _, h => by
  have ih := minN_add (f := f) (g := g) (n := n + 1) (by omega) (fun i hi => h i (by omega))
  have a := h (n + 1) (by omega)
  have e1 : minN g (n + 2) = min (minN g (n + 1)) (g (n + 1)) := rfl
  have e2 : minN f (n + 2) = min (minN f (n + 1)) (f (n + 1)) := rfl
  omega
section
variable {cap lost : Int} {mine : Nat → Bool} {a : Nat}
theorem slotS_nonneg (hc : 0 ≤ cap) : ∀ d : Nat, 0 ≤ (slotS cap lost mine a d).1 ∧ 0 ≤ (slotS cap lost mine a d).2 ∧ (slotS cap lost mine a d).1 + (slotS cap lost mine a d).2 ≤ cap * d + max 0 (-lost) * d
 | 0 => by simp [slotS]
 | d + 1 => by
  obtain ⟨h1, h2, h3⟩ := slotS_nonneg hc d
  have e1 : cap * ((d + 1 : Nat) : Int) = cap * (d : Int) + cap := by rw [Int.natCast_add, Int.mul_add]; simp
  have e2 : max 0 (-lost) * ((d + 1 : Nat) : Int) = max 0 (-lost) * (d : Int) + max 0 (-lost) := by rw [Int.natCast_add, Int.mul_add]; simp
  rw [e1, e2]
  simp only [slotS]
  split
  ·dsimp only; omega
  ·dsimp only; omega
theorem cntS_bound (hc : 0 ≤ cap) (hl : 0 ≤ lost) (k : Nat) : 0 ≤ cntS cap lost mine a k ∧ cntS cap lost mine a k ≤ cap * k := by
 obtain ⟨h1, h2, h3⟩ := slotS_nonneg (lost := lost) (mine := mine) (a := a) hc k
 have e : max 0 (-lost) = 0 := by omega
 rw [e, Int.zero_mul] at h3
 unfold cntS
 omega
theorem cntS_mono (hc : 0 ≤ cap) (k : Nat) : cntS cap lost mine a k ≤ cntS cap lost mine a (k + 1) := by
 unfold cntS
 simp only [slotS]
 split
 ·dsimp only; omega
 ·dsimp only; omega
theorem slotS_congr {mine' : Nat → Bool} {b : Nat} : ∀ {d : Nat}, (∀ i, i < d → mine (a + i) = mine' (b + i)) → slotS cap lost mine a d = slotS cap lost mine' b d
 | 0, _ => rfl
 | d + 1, h => by
  have ih := slotS_congr (mine' := mine') (b := b) (d := d) (fun i hi => h i (by omega))
  simp only [slotS]
  rw [ih, h d (by omega)]
/-- behind a tick of others the count begins anew -/
theorem slotS_split {p : Nat} (hp : mine (a + p) = false) : ∀ d : Nat, slotS cap lost mine a (p + 1 + d) = ((slotS cap lost mine a (p + 1)).1 + (slotS cap lost mine (a + (p + 1)) d).1, (slotS cap lost mine (a + (p + 1)) d).2)
 | 0 => by
  have e : (slotS cap lost mine a (p + 1)).2 = 0 := by simp only [slotS]; rw [if_neg (by rw [hp]; simp)]
  have e2 : slotS cap lost mine a (p + 1) = ((slotS cap lost mine a (p + 1)).1, 0) := Prod.ext rfl e
  rw [Nat.add_zero]
  show slotS cap lost mine a (p + 1) = ((slotS cap lost mine a (p + 1)).1 + 0, 0)
  rw [Int.add_zero]; exact e2
 | d + 1 => by
  have ih := slotS_split hp d
  rw [show p + 1 + (d + 1) = (p + 1 + d) + 1 by omega]
  rw [slotS, ih]
  have e : a + (p + 1 + d) = a + (p + 1) + d := by omega
  rw [e]
  have e2 : slotS cap lost mine (a + (p + 1)) (d + 1) = if mine (a + (p + 1) + d) = true then ((slotS cap lost mine (a + (p + 1)) d).1, (slotS cap lost mine (a + (p + 1)) d).2 + cap) else ((slotS cap lost mine (a + (p + 1)) d).1 + max 0 ((slotS cap lost mine (a + (p + 1)) d).2 - lost), 0) := rfl
  rw [e2]
  by_cases hm : mine (a + (p + 1) + d) = true
  ·rw [if_pos hm, if_pos hm]
  ·rw [if_neg hm, if_neg hm]
   dsimp only
   rw [Int.add_assoc]
theorem cntS_split {p : Nat} (hp : mine (a + p) = false) (d : Nat) : cntS cap lost mine a (p + 1 + d) = (slotS cap lost mine a (p + 1)).1 + cntS cap lost mine (a + (p + 1)) d := by
 unfold cntS
 rw [slotS_split hp]
 dsimp only
 omega
/-- it grows by as much in each cycle, once all of a table has been seen -/
theorem cntS_cycle {n : Nat} (hper : ∀ i, mine (i + n) = mine i) (hn : 0 < n) {b : Nat} (hb : mine b = false) {k : Nat} (hk : n ≤ k) : cntS cap lost mine a (k + n) = cntS cap lost mine a k + (slotS cap lost mine (b + 1) n).1 := by
 -- a tick of others within the first n ticks
 have hmod : ∀ i m : Nat, mine (i + m * n) = mine i := fun i m => by
  induction m with
  | zero => simp
  | succ m ih => rw [show i + (m + 1) * n = i + m * n + n by rw [Nat.add_mul]; omega, hper, ih]
 have hres : ∀ i j : Nat, i % n = j % n → mine i = mine j := fun i j h => by
  have e1 := hmod (i % n) (i / n)
  have e2 := hmod (j % n) (j / n)
  rw [show i % n + i / n * n = i by rw [Nat.mul_comm]; exact Nat.mod_add_div i n] at e1
  rw [show j % n + j / n * n = j by rw [Nat.mul_comm]; exact Nat.mod_add_div j n] at e2
  rw [e1, e2, h]
 obtain ⟨p, hp, ep⟩ := mod_off (t := a) (i := b) hn
 have hpf : mine (a + p) = false := by rw [hres _ _ ep]; exact hb
 have hW : (slotS cap lost mine (b + 1) n).1 = (slotS cap lost mine (a + p + 1) n).1 := by
  have : slotS cap lost mine (b + 1) n = slotS cap lost mine (a + p + 1) n := slotS_congr (fun i _ => by
   refine hres _ _ ?_
   rw [show b + 1 + i = b + (1 + i) by omega, show a + p + 1 + i = (a + p) + (1 + i) by omega, Nat.add_mod, ← ep, ← Nat.add_mod])
  rw [this]
 obtain ⟨d, rfl⟩ : ∃ d, k = p + 1 + d := ⟨k - (p + 1), by omega⟩
 rw [show p + 1 + d + n = p + 1 + (d + n) by omega, cntS_split hpf, cntS_split hpf, hW]
 -- behind p a whole cycle goes first
 have hlast : mine (a + (p + 1) + (n - 1)) = false := by
  rw [show a + (p + 1) + (n - 1) = a + p + n by omega, hper]; exact hpf
 have h1 := cntS_split (cap := cap) (lost := lost) hlast d
 rw [show n - 1 + 1 + d = d + n by omega, show n - 1 + 1 = n by omega] at h1
 have h2 : cntS cap lost mine (a + (p + 1) + n) d = cntS cap lost mine (a + (p + 1)) d := by
  unfold cntS
  rw [slotS_congr (mine' := mine) (b := a + (p + 1)) (fun i _ => by rw [show a + (p + 1) + n + i = a + (p + 1) + i + n by omega, hper])]
 rw [h1, h2, show a + (p + 1) = a + p + 1 by omega]
 omega
end
/-- the ticks of a class -/
def mineT (tb : List Int) (k : Int) (t : Nat) : Bool := slotT tb t == k
theorem mineT_per {tb : List Int} {k : Int} (i : Nat) : mineT tb k (i + tb.length) = mineT tb k i := by unfold mineT slotT; rw [Nat.add_mod_right]
section
variable {ps : List Pkt} {cap : Int} {tb : List Int} {classes k : Nat}
/-- the least over all beginnings is less than what is counted from any -/
theorem slotF_le (hn : 0 < tb.length) {cap lost : Int} {k : Int} (a d : Nat) : slotF cap lost (mineT tb k) tb.length d ≤ cntS cap lost (mineT tb k) a d := by
 have h1 := minN_le (f := fun a => cntS cap lost (mineT tb k) a d) (n := tb.length) (i := a % tb.length) (Nat.mod_lt _ hn)
 have h2 : cntS cap lost (mineT tb k) (a % tb.length) d = cntS cap lost (mineT tb k) a d := by
  unfold cntS
  rw [slotS_congr (mine' := mineT tb k) (b := a) (fun i _ => by unfold mineT slotT; rw [Nat.mod_add_mod])]
 rw [h2] at h1; exact h1
end
end Go.Proofs.YthpblaoehlgpfaaGreat.M

/- Time slots, plain: packets are sent within ticks in a row that belong to their class; a class that has all ticks is sent what a line in order of arrival sends it. No condition. -/
namespace Go.Proofs.YthpblaoehlgpfaaGreat.M
open Go Go.Proofs.YthpblaoehlgpfaaGreat.K

/-- sums -/
def sumUp (f : Nat → Int) : Nat → Int
  | 0 => 0
  | n + 1 => sumUp f n + f n
theorem sumUp_front (f : Nat → Int) : ∀ n : Nat, sumUp f (n + 1) = f 0 + sumUp (fun i => f (i + 1)) n
 | 0 => by simp [sumUp]
 | n + 1 => by
  have h := sumUp_front f n
  have e1 : sumUp f (n + 1 + 1) = sumUp f (n + 1) + f (n + 1) := rfl
  have e2 : sumUp (fun i => f (i + 1)) (n + 1) = sumUp (fun i => f (i + 1)) n + f (n + 1) := rfl
  omega
theorem sumUp_congr {f g : Nat → Int} : ∀ {n : Nat}, (∀ i, i < n → f i = g i) → sumUp f n = sumUp g n
 | 0, _ => rfl
 | n + 1, h => by
  have a := sumUp_congr (f := f) (g := g) (n := n) (fun i hi => h i (by omega))
  have b := h n (by omega)
  simp only [sumUp]; omega
section
variable {σ : Type} {ps : List Pkt} {ch : MS → σ → Int × Nat × σ} {good : MS → σ → Prop} {rel : Nat → Nat → Prop} {classes col k : Nat} {s : RS σ}
end
section
variable {ps : List Pkt} {cap : Int} {tb : List Int} {classes : Nat}
/-- the bytes of the first packets of a class -/
def ofK (ps : List Pkt) (k : Int) (i : Nat) : Int := if (nth ps i).flow = k then (nth ps i).size else 0
/-- those that are finished before a tick -/
def overK (ps : List Pkt) (dn : List Int) (k t : Int) (i : Nat) : Int := if (nth ps i).flow = k ∧ 0 ≤ nth dn i ∧ nth dn i < t then (nth ps i).size else 0
/-! ### a class that has all ticks -/
end
end Go.Proofs.YthpblaoehlgpfaaGreat.M

/- Priorities, plain: what a class is served. No condition. -/
namespace Go.Proofs.YthpblaoehlgpfaaGreat.M
open Go Go.Proofs.YthpblaoehlgpfaaGreat.K

theorem sumUp_le {f g : Nat → Int} : ∀ {n : Nat}, (∀ i, i < n → f i ≤ g i) → sumUp f n ≤ sumUp g n
 | 0, _ => Int.le_refl _
 | n + 1, h => by
  have a := sumUp_le (f := f) (g := g) (n := n) (fun i hi => h i (by omega))
  have b := h n (by omega)
  simp only [sumUp]; omega
section
variable {ps : List Pkt} {n k : Nat}
/-- what is open of a lesser class -/
def lowR (ps : List Pkt) (k : Nat) (s : RS Unit) : Int := if 0 ≤ s.cur ∧ (k : Int) < (nth ps s.cur.toNat).flow then s.rest else 0
end
end Go.Proofs.YthpblaoehlgpfaaGreat.M
