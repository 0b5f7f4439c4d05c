/- Rules and walks, joined from 36 texts: the first of them says: A machine that is never idle, plain: what all classes together are sent, and in which order packets end, whatever the choice. No condition. -/
import Derived.Test.YtmidibkljoaoiaaGreatDoorG1
import Derived.Lib.Atoi
import Derived.Lib.AtoiAll
import Derived.Lib.AtoiTie
import Derived.Lib.AtoiAllCases
import Derived.Lib.ItoaLen
import Derived.Lib.IndexBytes
import Derived.Lib.Split
import Derived.Lib.Join
import Derived.WideMake
import Derived.WalkSmall
import Derived.Defers
import Derived.Recover
/- A machine that is never idle, plain: what all classes together are sent, and in which order packets end, whatever the choice. No condition. -/
namespace Go.Proofs.YtmidibkljoaoiaaGreatDoor.M
open Go Go.Proofs.YtmidibkljoaoiaaGreatDoor.K

/-- all classes together -/
def colSum : List (List Int) → Nat → Int
  | [], _ => 0
  | l :: ls, t => nth l t + colSum ls t
/-- the bytes of the packets that have been begun -/
def begB : List Pkt → List Bool → Int
  | p :: ps, b :: bs => (if b then p.size else 0) + begB ps bs
  | _, _ => 0
theorem colSum_set : ∀ (sent : List (List Int)) (f : Nat) (l : List Int) (t : Nat), f < sent.length → colSum (sent.set f l) t = colSum sent t - nth (nth sent f) t + nth l t
 | [], f, l, t, h => by simp at h
 | x :: xs, 0, l, t, h => by simp [colSum, nth]; omega
 | x :: xs, f + 1, l, t, h => by
  have := colSum_set xs f l t (by simpa using h)
  simp only [List.set_cons_succ, colSum, this]
  rw [show nth (x :: xs) (f + 1) = nth xs f from rfl]; omega
theorem colSum_map {g : List Int → List Int} {t u : Nat} : ∀ (sent : List (List Int)), (∀ l ∈ sent, nth (g l) t = nth l u) → colSum (sent.map g) t = colSum sent u
 | [], _ => rfl
 | x :: xs, h => by
  simp only [List.map_cons, colSum]
  rw [h x (by simp), colSum_map xs (fun l hl => h l (by simp [hl]))]
theorem begB_set : ∀ (ps : List Pkt) (bs : List Bool) (i : Nat), i < ps.length → i < bs.length → nth bs i = false → begB ps (bs.set i true) = begB ps bs + (nth ps i).size
 | [], _, i, h, _, _ => by simp at h
 | _ :: _, [], i, _, h, _ => by simp at h
 | p :: ps, b :: bs, 0, _, _, hb => by
  have : b = false := hb
  subst this
  simp [begB, nth]; omega
 | p :: ps, b :: bs, i + 1, h1, h2, hb => by
  have := begB_set ps bs i (by simpa using h1) (by simpa using h2) hb
  simp only [List.set_cons_succ, begB, this]
  rw [show nth (p :: ps) (i + 1) = nth ps i from rfl]; omega
theorem begB_le {t : Int} : ∀ (ps : List Pkt) (bs : List Bool), bs.length = ps.length → (∀ p ∈ ps, 0 ≤ p.size) → (∀ i, i < ps.length → nth bs i = true → (nth ps i).time ≤ t) → begB ps bs ≤ pbytes (-1) (t + 1) ps
 | [], [], _, _, _ => by simp [begB, pbytes]
 | [], _ :: _, h, _, _ => by simp at h
 | _ :: _, [], h, _, _ => by simp at h
 | p :: ps, b :: bs, hl, hs, h => by
  have ih := begB_le ps bs (by simpa using hl) (fun q hq => hs q (by simp [hq])) (fun i hi hb => h (i + 1) (by simpa using hi) hb)
  have hp := hs p (by simp)
  simp only [begB, pbytes]
  have h0 : b = true → hit (-1) (t + 1) p := fun hb => by have := h 0 (by simp) hb; simp [nth] at this; unfold hit; omega
  cases b with
  | true => rw [if_pos rfl, if_pos (h0 rfl)]; omega
  | false => simp only [Bool.false_eq_true, if_false]; split <;> omega
theorem begB_eq {t : Int} : ∀ (ps : List Pkt) (bs : List Bool), bs.length = ps.length → (∀ i, i < ps.length → (nth bs i = true ↔ (nth ps i).time ≤ t)) → begB ps bs = pbytes (-1) (t + 1) ps
 | [], [], _, _ => by simp [begB, pbytes]
 | [], _ :: _, h, _ => by simp at h
 | _ :: _, [], h, _ => by simp at h
 | p :: ps, b :: bs, hl, h => by
  have ih := begB_eq ps bs (by simpa using hl) (fun i hi => h (i + 1) (by simpa using hi))
  simp only [begB, pbytes]
  have h0 := h 0 (by simp)
  simp [nth] at h0
  have h1 : b = true ↔ hit (-1) (t + 1) p := by rw [h0]; unfold hit; omega
  by_cases hb : b = true
  ·rw [if_pos hb, if_pos (h1.1 hb)]; omega
  ·rw [if_neg hb, if_neg (fun h => hb (h1.2 h))]; omega
theorem begB_none : ∀ (ps : List Pkt) (n : Nat), begB ps (List.replicate n false) = 0
 | [], _ => by simp [begB]
 | _ :: _, 0 => by simp [begB]
 | p :: ps, n + 1 => by simp [List.replicate_succ, begB, begB_none ps n]

/-- a choice of what waits; within rel the first -/
structure Fair {σ : Type} (ps : List Pkt) (ch : MS → σ → Int × Nat × σ) (good : MS → σ → Prop) (rel : Nat → Nat → Prop) : Prop extends Good ps ch good where
  waits : ∀ ms sg, good ms sg → ms.begun.length = ps.length → 0 ≤ (ch ms sg).1 → nth ms.begun (ch ms sg).1.toNat = false ∧ (nth ps (ch ms sg).1.toNat).time ≤ ms.now
  ord : ∀ ms sg, good ms sg → ms.begun.length = ps.length → 0 ≤ (ch ms sg).1 → ∀ i, i < (ch ms sg).1.toNat → rel i (ch ms sg).1.toNat → nth ms.begun i = true
/-- never idle while something waits -/
def Busy {σ : Type} (ps : List Pkt) (ch : MS → σ → Int × Nat × σ) (good : MS → σ → Prop) : Prop :=
  ∀ ms sg, good ms sg → ms.begun.length = ps.length → (ch ms sg).1 < 0 → ∀ i, i < ps.length → (nth ps i).time ≤ ms.now → nth ms.begun i = true

/-- what stays true: col is the column of the sums that is open -/
structure Wk {σ : Type} (ps : List Pkt) (classes : Nat) (good : MS → σ → Prop) (rel : Nat → Nat → Prop) (col : Nat) (s : RS σ) : Prop where
  good : good s.ms s.sg
  dlen : s.done.length = ps.length
  blen : s.ms.begun.length = ps.length
  slen : s.sent.length = classes
  rlen : ∀ l ∈ s.sent, l.length = col + 1
  cur : 0 ≤ s.cur → s.cur < ps.length ∧ nth s.ms.begun s.cur.toNat = true ∧ 1 ≤ s.rest
  open_ : ∀ i, i < ps.length → (nth s.ms.begun i = false ∨ s.cur = i) → nth s.done i = -1
  shut : ∀ i, i < ps.length → nth s.ms.begun i = true → s.cur ≠ i → 0 ≤ nth s.done i ∧ nth s.done i ≤ s.ms.now ∧ (nth ps i).time ≤ nth s.done i
  time : ∀ i, i < ps.length → nth s.ms.begun i = true → (nth ps i).time ≤ s.ms.now
  ord : ∀ k, k < ps.length → nth s.ms.begun k = true → ∀ i, i < k → rel i k → nth s.ms.begun i = true
  dord : ∀ k, k < ps.length → 0 ≤ nth s.done k → ∀ i, i < k → rel i k → 0 ≤ nth s.done i ∧ nth s.done i ≤ nth s.done k
  sum : colSum s.sent col = begB ps s.ms.begun - (if 0 ≤ s.cur then s.rest else 0)
section
variable {σ : Type} {ps : List Pkt} {ch : MS → σ → Int × Nat × σ} {good : MS → σ → Prop} {rel : Nat → Nat → Prop} {classes col : Nat} {s : RS σ}
theorem Wk.pickup (hg : Fair ps ch good rel) (hs : ∀ p ∈ ps, 1 ≤ p.size) (h : Wk ps classes good rel col s) : Wk ps classes good rel col (pickup ps ch s) := by
 unfold M.pickup
 by_cases hc : 0 ≤ s.cur
 ·rw [if_pos hc]; exact h
 ·rw [if_neg hc]
  by_cases hr : (ch s.ms s.sg).1 < 0
  ·simp only [hr, if_true]
   exact ⟨hg.none _ _ h.good h.blen hr, h.dlen, h.blen, h.slen, h.rlen, fun h0 => by dsimp only at h0; omega, fun i hi ho => h.open_ i hi (by rcases ho with ho | ho; exact .inl ho; dsimp only at ho; omega),
    fun i hi hb hne => h.shut i hi hb (by omega), h.time, h.ord, h.dord, by dsimp only; rw [h.sum, if_neg hc, if_neg (by omega)]⟩
  ·simp only [hr, if_false]
   have hi := hg.idx _ _ h.good h.blen (by omega)
   obtain ⟨w1, w2⟩ := hg.waits _ _ h.good h.blen (by omega)
   have w3 := hg.ord _ _ h.good h.blen (by omega)
   have hgs := hg.some _ _ h.good h.blen (by omega)
   generalize hj : (ch s.ms s.sg).1 = j at hr hi w1 w2 w3 hgs ⊢
   have hjn : j.toNat < ps.length := by omega
   have hbs : ∀ i, nth (s.ms.begun.set j.toNat true) i = true ↔ i = j.toNat ∨ nth s.ms.begun i = true := fun i => by
    by_cases e : j.toNat = i
    ·subst e; rw [nth_set_self (by rw [h.blen]; exact hjn)]; simp
    ·rw [nth_set_ne e]; constructor
     ·exact .inr
     ·rintro (e2 | h2)
      ·exact absurd e2.symm e
      ·exact h2
   refine ⟨hgs, h.dlen, by simp [h.blen], h.slen, h.rlen, fun _ => ⟨hi, (hbs _).2 (.inl rfl), hs _ (nth_mem hjn)⟩, fun i hi' ho => ?_, fun i hi' hb hne => ?_, fun i hi' hb => ?_, fun k hk hb i hik hr' => ?_, h.dord, ?_⟩
   ·dsimp only at ho ⊢
    apply h.open_ i hi'
    left
    rcases ho with ho | ho
    ·cases hb : nth s.ms.begun i with
     | false => rfl
     | true => rw [(hbs i).2 (.inr hb)] at ho; cases ho
    ·rw [show i = j.toNat by omega]; exact w1
   ·dsimp only at hb hne ⊢
    rcases (hbs i).1 hb with e | hb
    ·omega
    ·exact h.shut i hi' hb (by omega)
   ·dsimp only at hb ⊢
    rcases (hbs i).1 hb with e | hb
    ·subst e; exact w2
    ·exact h.time i hi' hb
   ·dsimp only at hb ⊢
    refine (hbs i).2 (.inr ?_)
    rcases (hbs k).1 hb with e | hb
    ·subst e; exact w3 i hik hr'
    ·exact h.ord k hk hb i hik hr'
   ·dsimp only
    rw [h.sum, begB_set _ _ _ hjn (by rw [h.blen]; exact hjn) w1, if_neg hc, if_pos (by omega)]; omega
theorem Wk.send (hfl : ∀ p ∈ ps, 0 ≤ p.flow ∧ p.flow < classes) (hfree : ∀ ms sg n l, good ms sg → good { ms with now := n, left := l } sg) {t : Nat} (h : Wk ps classes good rel (t + 1) s) (hnow : s.ms.now = t) (hc : 0 ≤ s.cur) (hl : 0 < s.ms.left) :
  Wk ps classes good rel (t + 1) (send ps t s) ∧ colSum (send ps t s).sent (t + 1) = colSum s.sent (t + 1) + (s.ms.left - (send ps t s).ms.left) ∧ 0 ≤ (send ps t s).ms.left ∧ (send ps t s).ms.left < s.ms.left ∧ (send ps t s).ms.now = s.ms.now ∧
   ∀ c u, c < classes → u < t + 1 → nth (nth (send ps t s).sent c) u = nth (nth s.sent c) u := by
 obtain ⟨c1, c2, c3⟩ := h.cur hc
 have hfl' := hfl _ (nth_mem (show s.cur.toNat < ps.length by omega))
 have hn : 1 ≤ (if s.ms.left < s.rest then s.ms.left else s.rest) ∧ (if s.ms.left < s.rest then s.ms.left else s.rest) ≤ s.rest ∧ (if s.ms.left < s.rest then s.ms.left else s.rest) ≤ s.ms.left := by split <;> omega
 unfold M.send
 generalize (if s.ms.left < s.rest then s.ms.left else s.rest) = n at hn ⊢
 have hf : (nth ps s.cur.toNat).flow.toNat < s.sent.length := by rw [h.slen]; omega
 generalize (nth ps s.cur.toNat).flow.toNat = f at hf ⊢
 have hrow := h.rlen _ (nth_mem hf)
 have hcol : colSum (s.sent.set f ((nth s.sent f).set (t + 1) (nth (nth s.sent f) (t + 1) + n))) (t + 1) = colSum s.sent (t + 1) + n := by
  rw [colSum_set _ _ _ _ hf, nth_set_self (by omega)]; omega
 have hsum := h.sum
 rw [if_pos hc] at hsum
 dsimp only
 refine ⟨⟨hfree _ _ s.ms.now _ h.good, ?_, h.blen, by simp [h.slen], ?_, ?_, ?_, ?_, h.time, h.ord, ?_, ?_⟩, by rw [hcol]; omega, by omega, by omega, rfl, ?_⟩
 ·dsimp only; split <;> simp [h.dlen]
 ·dsimp only
  intro l hl'
  rcases List.mem_or_eq_of_mem_set hl' with h1 | rfl
  ·exact h.rlen l h1
  ·simp [hrow]
 ·dsimp only
  intro h0
  by_cases hz : s.rest - n = 0
  ·rw [if_pos hz] at h0; omega
  ·rw [if_neg hz]; exact ⟨c1, c2, by omega⟩
 ·dsimp only
  intro i hi ho
  by_cases hz : s.rest - n = 0
  ·rw [if_pos hz] at ho ⊢
   rcases ho with ho | ho
   ·by_cases e : s.cur.toNat = i
    ·rw [e, ho] at c2; cases c2
    ·rw [nth_set_ne e]; exact h.open_ i hi (.inl ho)
   ·omega
  ·rw [if_neg hz] at ho ⊢; exact h.open_ i hi ho
 ·dsimp only
  intro i hi hb hne
  by_cases hz : s.rest - n = 0
  ·rw [if_pos hz] at hne ⊢
   by_cases e : s.cur.toNat = i
   ·subst e
    rw [nth_set_self (by rw [h.dlen]; omega)]
    have := h.time _ hi hb
    omega
   ·rw [nth_set_ne e]; exact h.shut i hi hb (by omega)
  ·rw [if_neg hz] at hne ⊢; exact h.shut i hi hb hne
 ·dsimp only
  by_cases hz : s.rest - n = 0
  ·rw [if_pos hz]
   intro k hk hd i hik hr
   by_cases e : s.cur.toNat = k
   ·subst e
    rw [nth_set_self (by rw [h.dlen]; omega), nth_set_ne (by omega)]
    have := h.shut i (by omega) (h.ord _ hk c2 i hik hr) (by omega)
    omega
   ·rw [nth_set_ne e] at hd ⊢
    have h1 := h.dord k hk hd i hik hr
    by_cases e2 : s.cur.toNat = i
    ·have := h.open_ i (by omega) (.inr (by omega))
     omega
    ·rw [nth_set_ne e2]; exact h1
  ·rw [if_neg hz]; exact h.dord
 ·dsimp only
  rw [hcol, hsum]
  by_cases hz : s.rest - n = 0
  ·rw [if_pos hz, if_neg (by omega)]; omega
  ·rw [if_neg hz, if_pos hc]; omega
 ·intro c u hc' hu
  by_cases e : f = c
  ·subst e; rw [nth_set_self hf, nth_set_ne (by omega)]
  ·rw [nth_set_ne e]

/-- the end of a tick: all bytes are gone, or nothing waits -/
theorem Wk.inner (hg : Fair ps ch good rel) (hs : ∀ p ∈ ps, 1 ≤ p.size) (hfl : ∀ p ∈ ps, 0 ≤ p.flow ∧ p.flow < classes) {t : Nat} : ∀ (j : Nat) (s : RS σ), Wk ps classes good rel (t + 1) s → s.ms.now = t → 0 ≤ s.ms.left → s.ms.left ≤ j →
  ∃ s', inner ps ch t j s = s' ∧ Wk ps classes good rel (t + 1) s' ∧ s'.ms.now = t ∧ 0 ≤ s'.ms.left ∧ colSum s'.sent (t + 1) = colSum s.sent (t + 1) + (s.ms.left - s'.ms.left) ∧
   (s'.ms.left = 0 ∨ s'.cur < 0 ∧ (Busy ps ch good → ∀ i, i < ps.length → (nth ps i).time ≤ (t : Int) → nth s'.ms.begun i = true)) ∧ ∀ c u, c < classes → u < t + 1 → nth (nth s'.sent c) u = nth (nth s.sent c) u
 | 0, s, h, hn, h0, hj => ⟨s, rfl, h, hn, h0, by omega, .inl (by omega), fun _ _ _ _ => rfl⟩
 | j + 1, s, h, hn, h0, hj => by
  simp only [M.inner]
  by_cases hl : s.ms.left ≤ 0
  ·rw [if_pos hl]
   exact ⟨s, rfl, h, hn, h0, by omega, .inl (by omega), fun _ _ _ _ => rfl⟩
  ·rw [if_neg hl]
   have hp := h.pickup hg hs
   obtain ⟨e1, e2, e3, e4⟩ := pickup_same ps ch s
   by_cases hc : (M.pickup ps ch s).cur < 0
   ·rw [if_pos hc]
    refine ⟨_, rfl, hp, by rw [e2]; exact hn, by rw [e1]; exact h0, by rw [e1, e3]; omega, .inr ⟨hc, fun hb => ?_⟩, fun c u _ _ => by rw [e3]⟩
    intro i hi ht
    unfold M.pickup at hc ⊢
    by_cases hc0 : 0 ≤ s.cur
    ·rw [if_pos hc0] at hc; omega
    ·rw [if_neg hc0] at hc ⊢
     by_cases hr : (ch s.ms s.sg).1 < 0
     ·simp only [hr, if_true]
      exact hb _ _ h.good h.blen hr i hi (by omega)
     ·simp only [hr, if_false] at hc
   ·rw [if_neg hc]
    obtain ⟨g1, g2, g3, g4, g5, g6⟩ := hp.send hfl hg.free (by rw [e2]; exact hn) (by omega) (by rw [e1]; omega)
    obtain ⟨s', k1, k2, k3, k4, k5, k6, k7⟩ := Wk.inner hg hs hfl j _ g1 (by rw [g5, e2]; exact hn) g3 (by omega)
    refine ⟨s', k1, k2, k3, k4, ?_, k6, fun c u hc' hu => by rw [k7 c u hc' hu, g6 c u hc' hu, e3]⟩
    rw [k5, g2, e1, e3]; omega
theorem Wk.tick (hg : Fair ps ch good rel) (hs : ∀ p ∈ ps, 1 ≤ p.size) (hfl : ∀ p ∈ ps, 0 ≤ p.flow ∧ p.flow < classes) {t : Nat} {cap : Int} (hcap : 0 ≤ cap) (h : Wk ps classes good rel t s) (hnow : s.ms.now ≤ t) :
  Wk ps classes good rel (t + 1) (tick ps ch cap t s) ∧ (tick ps ch cap t s).ms.now = t ∧ (∀ c u, c < classes → u < t + 1 → nth (nth (tick ps ch cap t s).sent c) u = nth (nth s.sent c) u) ∧
   (Busy ps ch good → colSum (tick ps ch cap t s).sent (t + 1) = min (colSum s.sent t + cap) (pbytes (-1) ((t : Int) + 1) ps)) := by
 have hrow : ∀ l ∈ s.sent, nth (l ++ [nth l t]) (t + 1) = nth l t := fun l hl => by
  have := h.rlen l hl
  unfold nth List.getD
  rw [List.getElem?_append_right (by omega), this]; simp
 have hcol : colSum (s.sent.map fun l => l ++ [nth l t]) (t + 1) = colSum s.sent t := colSum_map _ hrow
 have h1 : Wk ps classes good rel (t + 1) { s with ms := { s.ms with now := t, left := cap }, sent := s.sent.map fun l => l ++ [nth l t] } := by
  refine ⟨hg.free _ _ _ _ h.good, h.dlen, h.blen, by simp [h.slen], fun l hl => ?_, h.cur, h.open_, fun i hi hb hne => ?_, fun i hi hb => ?_, h.ord, h.dord, by dsimp only; rw [hcol]; exact h.sum⟩
  ·obtain ⟨l', h2, rfl⟩ := List.mem_map.1 hl
   simp [h.rlen l' h2]
  ·have := h.shut i hi hb hne
   dsimp only; omega
  ·have := h.time i hi hb
   dsimp only; omega
 obtain ⟨s', k1, k2, k3, k4, k5, k6, k7⟩ := Wk.inner hg hs hfl (t := t) cap.toNat _ h1 rfl hcap (by dsimp only; omega)
 unfold M.tick
 rw [k1]
 refine ⟨k2, k3, fun c u hc hu => ?_, fun hb => ?_⟩
 ·rw [k7 c u hc hu]
  dsimp only
  rw [nth_map_lt _ (by rw [h.slen]; exact hc)]
  unfold nth List.getD
  rw [List.getElem?_append_left]
  have := h.rlen _ (nth_mem (xs := s.sent) (k := c) (by rw [h.slen]; exact hc))
  unfold nth List.getD at this
  rw [this]; exact hu
 ·dsimp only at k5
  rw [hcol] at k5
  have hle := begB_le (t := (t : Int)) ps s'.ms.begun k2.blen (fun p hp => by have := hs p hp; omega) (fun i hi hb' => by have := k2.time i hi hb'; omega)
  have hsum := k2.sum
  rcases k6 with h0 | ⟨hc, hall⟩
  ·have hrest : 0 ≤ (if 0 ≤ s'.cur then s'.rest else 0) := by
    split
    ·rename_i hc; have := (k2.cur hc).2.2; omega
    ·omega
   rw [k5, h0]; omega
  ·rw [if_neg (by omega)] at hsum
   have heq := begB_eq (t := (t : Int)) ps s'.ms.begun k2.blen (fun i hi => ⟨fun hb' => by have := k2.time i hi hb'; omega, hall hb i hi⟩)
   rw [hsum, heq] at k5 ⊢
   omega
theorem Wk.start {sg : σ} (hg : good (start ps classes sg).ms sg) : Wk ps classes good rel 0 (start ps classes sg) := by
 refine ⟨hg, by simp [M.start], by simp [M.start], by simp [M.start], fun l hl => ?_, fun h => by simp [M.start] at h, fun i hi _ => by simp only [M.start]; rw [nth_replicate hi], fun i hi hb => ?_, fun i hi hb => ?_, fun k hk hb => ?_, fun k hk hd => ?_, ?_⟩
 ·have : l = [0] := List.eq_of_mem_replicate hl
  simp [this]
 ·simp only [M.start] at hb; rw [nth_replicate hi] at hb; cases hb
 ·simp only [M.start] at hb; rw [nth_replicate hi] at hb; cases hb
 ·simp only [M.start] at hb; rw [nth_replicate hk] at hb; cases hb
 ·simp only [M.start] at hd; rw [nth_replicate hk] at hd; omega
 ·show colSum (List.replicate classes [0]) 0 = begB ps (List.replicate ps.length false) - 0
  rw [begB_none]
  clear hg
  induction classes with
  | zero => rfl
  | succ n ih => rw [List.replicate_succ, colSum, ih]; rfl
/-- the sums of all classes, by ticks -/
def wsum (cap : Int) (ps : List Pkt) : Nat → Int
  | 0 => 0
  | t + 1 => min (wsum cap ps t + cap) (pbytes (-1) ((t : Int) + 1) ps)
end
/-! ### first in, first out -/
/-- all before 'before' have been begun -/
def goodB (ps : List Pkt) (ms : MS) : Prop := ms.before ≤ ps.length ∧ ∀ i, i < ms.before → nth ms.begun i = true
theorem skipTo_begun {l : List Bool} : ∀ {b i : Nat}, b ≤ i → i < skipTo l b → nth l i = true := by
 intro b i hb hi
 unfold skipTo at hi
 have key : ∀ (r : List Bool) (j : Nat), j < (r.takeWhile id).length → nth r j = true := by
  intro r
  induction r with
  | nil => intro j h; simp at h
  | cons x r ih =>
   intro j h
   cases x with
   | false => simp at h
   | true =>
    cases j with
    | zero => rfl
    | succ j => exact ih j (by simpa using h)
 have := key (l.drop b) (i - b) (by omega)
 unfold nth List.getD at this ⊢
 rw [List.getElem?_drop, show b + (i - b) = i by omega] at this
 exact this
theorem goodB.skip {ps : List Pkt} {ms : MS} (h : goodB ps ms) (hl : ms.begun.length = ps.length) : skipTo ms.begun ms.before ≤ ps.length ∧ ∀ i, i < skipTo ms.begun ms.before → nth ms.begun i = true := by
 refine ⟨by rw [← hl]; exact skipTo_le (by rw [hl]; exact h.1), fun i hi => ?_⟩
 by_cases h1 : i < ms.before
 ·exact h.2 i h1
 ·exact skipTo_begun (by omega) hi
def goodFB (ps : List Pkt) (ms : MS) (_ : Unit) : Prop := goodB ps ms
/-! ### what a line guarantees -/
/-- bytes that have arrived, tick by tick -/
def cumL (flow : Int) (ps : List Pkt) (n : Nat) : List Int := (List.range n).map fun (t : Nat) => pbytes flow (t : Int) ps
/-- the sums of all classes -/
def totL (sent : List (List Int)) (n : Nat) : List Int := (List.range n).map fun (t : Nat) => colSum sent t
theorem range_map_snoc {α : Type} (f : Nat → α) (n : Nat) : (List.range (n + 1)).map f = (List.range n).map f ++ [f n] := by rw [List.range_succ]; simp
theorem range_map_nth {α : Type} [Inhabited α] (f : Nat → α) {n i : Nat} (h : i < n) : nth ((List.range n).map f) i = f i := by
 rw [nth_eq (by simpa using h)]; simp
def oneP (p : Pkt) : Pkt := { p with flow := 0 }
/-- a curve's value, as the references have it -/
def atR (xs : List Int) (per inc t : Int) : Int :=
  if t < 0 ∨ ((xs.length : Int) ≤ t ∧ (per < 1 ∨ (xs.length : Int) < per)) then -1
  else if t < xs.length then nth xs t.toNat
  else if nth xs (t - ((t - xs.length) / per + 1) * per).toNat = 4611686018427387904 then 4611686018427387904
  else nth xs (t - ((t - xs.length) / per + 1) * per).toNat + ((t - xs.length) / per + 1) * inc
def dval (d : Int) : Int := if d < 0 then 1000 else d
end Go.Proofs.YtmidibkljoaoiaaGreatDoor.M

/- The references' line, plain; and that it does what the machine does, whatever the choice. No condition. -/
namespace Go.Proofs.YtmidibkljoaoiaaGreatDoor.M
open Go Go.Proofs.YtmidibkljoaoiaaGreatDoor.K

/-- the first number from a place on of which something is said -/
def findFrom (P : Nat → Bool) : Nat → Nat → Int
  | 0, _ => -1
  | k + 1, i => if P i then i else findFrom P k (i + 1)
def findN (P : Nat → Bool) (n : Nat) : Int := findFrom P n 0
theorem findFrom_cases (P : Nat → Bool) : ∀ (k a : Nat), (∃ i, a ≤ i ∧ i < a + k ∧ findFrom P k a = i ∧ P i = true ∧ ∀ j, a ≤ j → j < i → P j = false) ∨ (findFrom P k a = -1 ∧ ∀ j, a ≤ j → j < a + k → P j = false)
 | 0, a => .inr ⟨rfl, fun j h1 h2 => by omega⟩
 | k + 1, a => by
  simp only [findFrom]
  cases hp : P a with
  | true =>
   left
   exact ⟨a, Nat.le_refl _, by omega, by simp, hp, fun j h1 h2 => by omega⟩
  | false =>
   rcases findFrom_cases P k (a + 1) with ⟨i, h1, h2, h3, h4, h5⟩ | ⟨h1, h2⟩
   ·left
    refine ⟨i, by omega, by omega, by simpa using h3, h4, fun j h6 h7 => ?_⟩
    by_cases e : j = a
    ·subst e; exact hp
    ·exact h5 j (by omega) h7
   ·right
    refine ⟨by simpa using h1, fun j h6 h7 => ?_⟩
    by_cases e : j = a
    ·subst e; exact hp
    ·exact h2 j (by omega) (by omega)
theorem findN_cases (P : Nat → Bool) (n : Nat) : (∃ i, i < n ∧ findN P n = i ∧ P i = true ∧ ∀ j, j < i → P j = false) ∨ (findN P n = -1 ∧ ∀ j, j < n → P j = false) := by
 rcases findFrom_cases P n 0 with ⟨i, h1, h2, h3, h4, h5⟩ | ⟨h1, h2⟩
 ·exact .inl ⟨i, by omega, h3, h4, fun j hj => h5 j (by omega) hj⟩
 ·exact .inr ⟨h1, fun j hj => h2 j (by omega) (by omega)⟩
theorem findN_some {P : Nat → Bool} {n i : Nat} (hi : i < n) (hP : P i = true) (h : ∀ j, j < i → P j = false) : findN P n = i := by
 rcases findN_cases P n with ⟨k, h1, h2, h3, h4⟩ | ⟨h1, h2⟩
 ·rcases Nat.lt_trichotomy i k with h5 | h5 | h5
  ·rw [h4 i h5] at hP; cases hP
  ·subst h5; exact h2
  ·rw [h k h5] at h3; cases h3
 ·rw [h2 i hi] at hP; cases hP
theorem findN_none {P : Nat → Bool} {n : Nat} (h : ∀ j, j < n → P j = false) : findN P n = -1 := by
 rcases findN_cases P n with ⟨k, h1, h2, h3, h4⟩ | ⟨h1, h2⟩
 ·rw [h k h1] at h3; cases h3
 ·exact h1

/-- the state of a reference's line -/
structure St where
  time : Nat
  given : List Int
  now : Int
  done : List Int
  sent : List (List Int)
def waits (ps : List Pkt) (st : St) (i : Nat) : Bool := decide ((nth ps i).time ≤ (st.time : Int)) && (nth st.given i == 0) && (st.now != (i : Int))
def firstW (ps : List Pkt) (st : St) (cls : Int) : Int := findN (fun i => (cls == -1 || (nth ps i).flow == cls) && waits ps st i) ps.length
def rbegin (st : St) : St := { st with sent := st.sent.map fun l => l ++ [nth l (l.length - 1)] }
def rsendN (ps : List Pkt) (most : Int) (st : St) : Int :=
  if (nth ps st.now.toNat).size - nth st.given st.now.toNat < most then (nth ps st.now.toNat).size - nth st.given st.now.toNat else most
def rsend (ps : List Pkt) (most : Int) (st : St) : St :=
  let i := st.now.toNat
  let n := rsendN ps most st
  let f := (nth ps i).flow.toNat
  let l := nth st.sent f
  let g := nth st.given i + n
  { st with given := st.given.set i g, sent := st.sent.set f (l.set (l.length - 1) (nth l (l.length - 1) + n)),
            done := if g = (nth ps i).size then st.done.set i st.time else st.done, now := if g = (nth ps i).size then -1 else st.now }
section
variable {τ : Type} (ps : List Pkt) (rc : St → τ → Int × τ)
def rpick (st : St) (g : τ) : Int × τ := if st.now = -1 then rc st g else (st.now, g)
def rinner : Nat → Int → St → τ → St × τ
  | 0, _, st, g => (st, g)
  | k + 1, left, st, g =>
    if left ≤ 0 then (st, g) else
      let r := rpick rc st g
      let st1 := { st with now := r.1 }
      if r.1 = -1 then (st1, r.2) else rinner k (left - rsendN ps left st1) (rsend ps left st1) r.2
def rtick (cap : Int) (st : St) (g : τ) : St × τ :=
  let x := rinner ps rc cap.toNat cap (rbegin st) g
  ({ x.1 with time := x.1.time + 1 }, x.2)
def rticks (cap : Int) : Nat → St → τ → St × τ
  | 0, st, g => (st, g)
  | k + 1, st, g => rticks cap k (rtick ps rc cap st g).1 (rtick ps rc cap st g).2
def rstart (classes : Nat) : St := { time := 0, given := List.replicate ps.length 0, now := -1, done := List.replicate ps.length (-1), sent := List.replicate classes [0] }
def rrun (cap : Int) (classes ticks : Nat) (g : τ) : St := (rticks ps rc cap ticks (rstart ps classes) g).1
end

structure Sm {σ : Type} (ps : List Pkt) (s : RS σ) (st : St) : Prop where
  glen : st.given.length = ps.length
  now : st.now = if s.cur < 0 then -1 else s.cur
  giv : ∀ i, i < ps.length → nth st.given i = if s.cur = i then (nth ps i).size - s.rest else if nth s.ms.begun i = true then (nth ps i).size else 0
  done : st.done = s.done
  sent : st.sent = s.sent
section
variable {σ τ : Type} {ps : List Pkt} {ch : MS → σ → Int × Nat × σ} {good : MS → σ → Prop} {rel : Nat → Nat → Prop} {classes col : Nat} {s : RS σ} {st : St} {g : τ} {rc : St → τ → Int × τ} {ρ : σ → τ → Prop}
theorem Sm.waits (h : Sm ps s st) (hw : Wk ps classes good rel col s) (hs : ∀ p ∈ ps, 1 ≤ p.size) (ht : (st.time : Int) = s.ms.now) {i : Nat} (hi : i < ps.length) : waits ps st i = (decide ((nth ps i).time ≤ s.ms.now) && !nth s.ms.begun i) := by
 have hz := hs _ (nth_mem hi)
 unfold M.waits
 rw [ht, h.giv i hi, h.now]
 by_cases hc : s.cur = i
 ·have := (hw.cur (by omega)).2.1
  rw [hc] at this
  simp only [Int.toNat_natCast] at this
  have e : ((if s.cur < 0 then -1 else s.cur) != (i : Int)) = false := by rw [if_neg (show ¬ s.cur < 0 by omega)]; simp [hc]
  rw [e, this]
  simp
 ·rw [if_neg hc]
  have hne : ((if s.cur < 0 then -1 else s.cur) != (i : Int)) = true := by
   split
   ·simp
   ·simpa using hc
  rw [hne]
  cases hb : nth s.ms.begun i with
  | true =>
   have : ((nth ps i).size == 0) = false := by simp; omega
   simp [this]
  | false => simp
/-- what a reference's choice must do beside that of the program -/
def Alike {σ τ : Type} (ps : List Pkt) (ch : MS → σ → Int × Nat × σ) (good : MS → σ → Prop) (rc : St → τ → Int × τ) (ρ : σ → τ → Prop) : Prop :=
  ∀ (ms : MS) (sg : σ) (st : St) (g : τ), good ms sg → ms.begun.length = ps.length → ρ sg g → (st.time : Int) = ms.now → st.now = -1 → (∀ i, i < ps.length → waits ps st i = (decide ((nth ps i).time ≤ ms.now) && !nth ms.begun i)) →
    (rc st g).1 = (if (ch ms sg).1 < 0 then -1 else (ch ms sg).1) ∧ ρ (ch ms sg).2.2 (rc st g).2
theorem Sm.pickup (hg : Fair ps ch good rel) (hs : ∀ p ∈ ps, 1 ≤ p.size) (hal : Alike ps ch good rc ρ) (h : Sm ps s st) (hw : Wk ps classes good rel col s) (hr : ρ s.sg g) (ht : (st.time : Int) = s.ms.now) :
  Sm ps (pickup ps ch s) { st with now := (rpick rc st g).1 } ∧ ρ (pickup ps ch s).sg (rpick rc st g).2 ∧ (rpick rc st g).1 = (if (pickup ps ch s).cur < 0 then -1 else (pickup ps ch s).cur) := by
 unfold M.pickup rpick
 have hnow := h.now
 by_cases hc : 0 ≤ s.cur
 ·rw [if_pos hc]
  rw [if_neg (show ¬ s.cur < 0 by omega)] at hnow
  rw [if_neg (by omega)]
  refine ⟨⟨h.glen, ?_, h.giv, h.done, h.sent⟩, hr, ?_⟩
  ·dsimp only; rw [if_neg (by omega)]; exact hnow
  ·dsimp only; rw [if_neg (by omega)]; exact hnow
 ·rw [if_neg hc]
  rw [if_pos (show s.cur < 0 by omega)] at hnow
  rw [if_pos hnow]
  obtain ⟨a1, a2⟩ := hal s.ms s.sg st g hw.good hw.blen hr ht hnow (fun i hi => h.waits hw hs ht hi)
  by_cases hr' : (ch s.ms s.sg).1 < 0
  ·simp only [hr', if_true] at a1 ⊢
   refine ⟨⟨h.glen, by dsimp only; rw [if_pos hr', a1], fun i hi => ?_, h.done, h.sent⟩, a2, a1⟩
   dsimp only
   rw [h.giv i hi, if_neg (show ¬ s.cur = (i : Int) by omega), if_neg (show ¬ (ch s.ms s.sg).1 = (i : Int) by omega)]
  ·simp only [hr', if_false] at a1 ⊢
   have hi' := hg.idx _ _ hw.good hw.blen (by omega)
   have hwt := hg.waits _ _ hw.good hw.blen (by omega)
   refine ⟨⟨h.glen, by dsimp only; rw [if_neg hr', a1], fun i hi => ?_, h.done, h.sent⟩, a2, a1⟩
   dsimp only
   rw [h.giv i hi, if_neg (show ¬ s.cur = i by omega)]
   by_cases e : (ch s.ms s.sg).1 = i
   ·rw [if_pos e]
    rw [e] at hwt ⊢
    simp only [Int.toNat_natCast] at hwt ⊢
    rw [hwt.1]; simp
   ·rw [if_neg e, nth_set_ne (by omega)]
theorem Sm.send {t : Nat} (h : Sm ps s st) (hw : Wk ps classes good rel (t + 1) s) (hfl : ∀ p ∈ ps, 0 ≤ p.flow ∧ p.flow < classes) (ht : (st.time : Int) = (t : Int)) (hc : 0 ≤ s.cur) :
  Sm ps (send ps t s) (rsend ps s.ms.left st) ∧ s.ms.left - rsendN ps s.ms.left st = (send ps t s).ms.left := by
 obtain ⟨c1, c2, c3⟩ := hw.cur hc
 have hi : s.cur.toNat < ps.length := by omega
 have hnow : st.now = s.cur := by rw [h.now, if_neg (by omega)]
 have hgiv : nth st.given s.cur.toNat = (nth ps s.cur.toNat).size - s.rest := by rw [h.giv _ hi, if_pos (by omega)]
 have hf : (nth ps s.cur.toNat).flow.toNat < s.sent.length := by rw [hw.slen]; have := hfl _ (nth_mem hi); omega
 have hrow := hw.rlen _ (nth_mem hf)
 have hn : rsendN ps s.ms.left st = if s.ms.left < s.rest then s.ms.left else s.rest := by
  unfold rsendN
  rw [hnow, hgiv]
  split <;> split <;> omega
 unfold rsend M.send
 rw [hn]
 generalize (if s.ms.left < s.rest then s.ms.left else s.rest) = n
 dsimp only
 rw [hnow, hgiv, h.sent]
 have hl : (nth s.sent (nth ps s.cur.toNat).flow.toNat).length - 1 = t + 1 := by omega
 rw [hl]
 have hz : ((nth ps s.cur.toNat).size - s.rest + n = (nth ps s.cur.toNat).size) ↔ s.rest - n = 0 := by omega
 refine ⟨⟨by simp [h.glen], ?_, fun i hi2 => ?_, ?_, rfl⟩, rfl⟩
 ·dsimp only
  by_cases e : s.rest - n = 0
  ·rw [if_pos (hz.2 e), if_pos e]; rfl
  ·rw [if_neg (fun h => e (hz.1 h)), if_neg e, if_neg (by omega)]
 ·dsimp only
  by_cases e2 : s.cur.toNat = i
  ·subst e2
   rw [nth_set_self (by rw [h.glen]; exact hi), c2]
   by_cases e : s.rest - n = 0
   ·rw [if_pos e, if_neg (by omega), if_pos rfl]; omega
   ·rw [if_neg e, if_pos (by omega)]; omega
  ·rw [nth_set_ne e2, h.giv i hi2, if_neg (show ¬ s.cur = (i : Int) by omega)]
   by_cases e : s.rest - n = 0
   ·rw [if_pos e, if_neg (show ¬ (-1 : Int) = (i : Int) by omega)]
   ·rw [if_neg e, if_neg (show ¬ s.cur = (i : Int) by omega)]
 ·dsimp only
  rw [h.done, ht]
  by_cases e : s.rest - n = 0
  ·rw [if_pos (hz.2 e), if_pos e]
  ·rw [if_neg (fun h => e (hz.1 h)), if_neg e]
theorem Sm.inner (hg : Fair ps ch good rel) (hs : ∀ p ∈ ps, 1 ≤ p.size) (hfl : ∀ p ∈ ps, 0 ≤ p.flow ∧ p.flow < classes) (hal : Alike ps ch good rc ρ) {t : Nat} : ∀ (j : Nat) (s : RS σ) (st : St) (g : τ), Sm ps s st → Wk ps classes good rel (t + 1) s → ρ s.sg g → st.time = t → s.ms.now = t →
  Sm ps (inner ps ch t j s) (rinner ps rc j s.ms.left st g).1 ∧ ρ (inner ps ch t j s).sg (rinner ps rc j s.ms.left st g).2 ∧ (rinner ps rc j s.ms.left st g).1.time = t
 | 0, s, st, g, h, hw, hr, ht, hn => ⟨h, hr, ht⟩
 | j + 1, s, st, g, h, hw, hr, ht, hn => by
  simp only [M.inner, rinner]
  by_cases hl : s.ms.left ≤ 0
  ·rw [if_pos hl, if_pos hl]; exact ⟨h, hr, ht⟩
  ·rw [if_neg hl, if_neg hl]
   obtain ⟨p1, p2, p3⟩ := h.pickup hg hs hal hw hr (by omega)
   have hp := hw.pickup hg hs
   obtain ⟨e1, e2, e3, e4⟩ := pickup_same ps ch s
   by_cases hc : (M.pickup ps ch s).cur < 0
   ·rw [if_pos hc] at p3 ⊢
    rw [if_pos p3]
    exact ⟨p1, p2, ht⟩
   ·rw [if_neg hc] at p3 ⊢
    rw [if_neg (by omega)]
    obtain ⟨q1, q2⟩ := p1.send hp hfl (t := t) (by dsimp only; omega) (by omega)
    obtain ⟨g1, g2, g3, g4, g5, g6⟩ := hp.send hfl hg.free (by rw [e2]; exact hn) (by omega) (by rw [e1]; omega)
    rw [e1] at q1 q2
    rw [q2]
    exact Sm.inner hg hs hfl hal j _ _ _ q1 g1 p2 ht (by rw [g5, e2]; exact hn)
theorem Sm.tick (hg : Fair ps ch good rel) (hs : ∀ p ∈ ps, 1 ≤ p.size) (hfl : ∀ p ∈ ps, 0 ≤ p.flow ∧ p.flow < classes) (hal : Alike ps ch good rc ρ) {t : Nat} {cap : Int} (h : Sm ps s st) (hw : Wk ps classes good rel t s) (hr : ρ s.sg g) (ht : st.time = t) (hnow : s.ms.now ≤ t) :
  Sm ps (tick ps ch cap t s) (rtick ps rc cap st g).1 ∧ ρ (tick ps ch cap t s).sg (rtick ps rc cap st g).2 ∧ (rtick ps rc cap st g).1.time = t + 1 := by
 have h1 : Sm ps { s with ms := { s.ms with now := t, left := cap }, sent := s.sent.map fun l => l ++ [nth l t] } (rbegin st) := by
  refine ⟨h.glen, h.now, h.giv, h.done, ?_⟩
  unfold rbegin
  dsimp only
  rw [h.sent]
  apply List.map_congr_left
  intro l hl
  have := hw.rlen l hl
  rw [show l.length - 1 = t by omega]
 have hrow : ∀ l ∈ s.sent, nth (l ++ [nth l t]) (t + 1) = nth l t := fun l hl => by
  have := hw.rlen l hl
  unfold nth List.getD
  rw [List.getElem?_append_right (by omega), this]; simp
 have h2 : Wk ps classes good rel (t + 1) { s with ms := { s.ms with now := t, left := cap }, sent := s.sent.map fun l => l ++ [nth l t] } := by
  refine ⟨hg.free _ _ _ _ hw.good, hw.dlen, hw.blen, by simp [hw.slen], fun l hl => ?_, hw.cur, hw.open_, fun i hi hb hne => ?_, fun i hi hb => ?_, hw.ord, hw.dord, by dsimp only; rw [colSum_map _ hrow]; exact hw.sum⟩
  ·obtain ⟨l', h2, rfl⟩ := List.mem_map.1 hl
   simp [hw.rlen l' h2]
  ·have := hw.shut i hi hb hne
   dsimp only; omega
  ·have := hw.time i hi hb
   dsimp only; omega
 obtain ⟨k1, k2, k3⟩ := Sm.inner hg hs hfl hal (t := t) cap.toNat _ (rbegin st) g h1 h2 hr ht rfl
 unfold M.tick rtick
 dsimp only at k1 k2 k3 ⊢
 exact ⟨⟨k1.glen, k1.now, k1.giv, k1.done, k1.sent⟩, k2, by omega⟩
end
/-! ### first in, first out -/
def fifoR (ps : List Pkt) (st : St) (_ : Unit) : Int × Unit := (firstW ps st (-1), ())
end Go.Proofs.YtmidibkljoaoiaaGreatDoor.M

/- What stays true in a reference's run, plain. No condition. -/
namespace Go.Proofs.YtmidibkljoaoiaaGreatDoor.M
open Go Go.Proofs.YtmidibkljoaoiaaGreatDoor.K

structure RInv (ps : List Pkt) (classes len : Nat) (B : Int) (st : St) : Prop where
  glen : st.given.length = ps.length
  dlen : st.done.length = ps.length
  slen : st.sent.length = classes
  rows : ∀ l ∈ st.sent, l.length = len ∧ ∀ x ∈ l, 0 ≤ x ∧ x ≤ B
  now : st.now = -1 ∨ (0 ≤ st.now ∧ st.now < ps.length ∧ nth st.given st.now.toNat < (nth ps st.now.toNat).size)
  giv : ∀ i, i < ps.length → 0 ≤ nth st.given i ∧ nth st.given i ≤ (nth ps i).size
section
variable {ps : List Pkt} {classes len : Nat} {B : Int} {st : St}
theorem RInv.mono {B' : Int} (h : RInv ps classes len B st) (hb : B ≤ B') : RInv ps classes len B' st :=
 ⟨h.glen, h.dlen, h.slen, fun l hl => ⟨(h.rows l hl).1, fun x hx => by have := (h.rows l hl).2 x hx; omega⟩, h.now, h.giv⟩
theorem RInv.start (hs : ∀ p ∈ ps, 1 ≤ p.size) : RInv ps classes 1 0 (rstart ps classes) := by
 refine ⟨by simp [rstart], by simp [rstart], by simp [rstart], fun l hl => ?_, .inl rfl, fun i hi => ?_⟩
 ·have : l = [0] := List.eq_of_mem_replicate hl
  subst this
  exact ⟨rfl, fun x hx => by simp at hx; omega⟩
 ·have := hs _ (nth_mem hi)
  simp only [rstart]
  rw [nth_replicate hi]; omega
theorem RInv.begin (h : RInv ps classes len B st) (hl : 0 < len) : RInv ps classes (len + 1) B (rbegin st) := by
 refine ⟨h.glen, h.dlen, by simp [rbegin, h.slen], fun l hl' => ?_, h.now, h.giv⟩
 obtain ⟨l', h1, rfl⟩ := List.mem_map.1 hl'
 have h2 := h.rows l' h1
 refine ⟨by simp [h2.1], fun x hx => ?_⟩
 rcases List.mem_append.1 hx with hx | hx
 ·exact h2.2 x hx
 ·obtain rfl : x = nth l' (l'.length - 1) := by simpa using hx
  exact h2.2 _ (nth_mem (by omega))
theorem RInv.tick (h : RInv ps classes len B st) : RInv ps classes len B { st with time := st.time + 1 } := ⟨h.glen, h.dlen, h.slen, h.rows, h.now, h.giv⟩
/-- a choice of what waits -/
def Waiting {τ : Type} (ps : List Pkt) (rc : St → τ → Int × τ) : Prop := ∀ st g, (rc st g).1 = -1 ∨ (0 ≤ (rc st g).1 ∧ (rc st g).1 < ps.length ∧ waits ps st (rc st g).1.toNat = true)
theorem RInv.pick {τ : Type} {rc : St → τ → Int × τ} {g : τ} (h : RInv ps classes len B st) (hs : ∀ p ∈ ps, 1 ≤ p.size) (hrc : Waiting ps rc) : RInv ps classes len B { st with now := (rpick rc st g).1 } := by
 refine ⟨h.glen, h.dlen, h.slen, h.rows, ?_, h.giv⟩
 unfold rpick
 split
 ·rcases hrc st g with h1 | ⟨h1, h2, h3⟩
  ·exact .inl h1
  ·refine .inr ⟨h1, h2, ?_⟩
   unfold waits at h3
   simp only [Bool.and_eq_true, beq_iff_eq] at h3
   have := hs _ (nth_mem (xs := ps) (k := (rc st g).1.toNat) (by omega))
   dsimp only
   omega
 ·exact h.now
theorem RInv.send (h : RInv ps classes len B st) (hfl : ∀ p ∈ ps, 0 ≤ p.flow ∧ p.flow < classes) (hl : 0 < len) (hn : st.now ≠ -1) {most : Int} (hm : 0 < most) :
  RInv ps classes len (B + rsendN ps most st) (rsend ps most st) ∧ 1 ≤ rsendN ps most st ∧ rsendN ps most st ≤ most := by
 obtain ⟨n1, n2, n3⟩ := h.now.resolve_left hn
 have hi : st.now.toNat < ps.length := by omega
 have hf : (nth ps st.now.toNat).flow.toNat < st.sent.length := by rw [h.slen]; have := hfl _ (nth_mem hi); omega
 have hrow := h.rows _ (nth_mem hf)
 have hg := h.giv _ hi
 have hb : 1 ≤ rsendN ps most st ∧ rsendN ps most st ≤ most ∧ nth st.given st.now.toNat + rsendN ps most st ≤ (nth ps st.now.toNat).size := by unfold rsendN; split <;> omega
 have hlast : 0 ≤ nth (nth st.sent (nth ps st.now.toNat).flow.toNat) ((nth st.sent (nth ps st.now.toNat).flow.toNat).length - 1) ∧ nth (nth st.sent (nth ps st.now.toNat).flow.toNat) ((nth st.sent (nth ps st.now.toNat).flow.toNat).length - 1) ≤ B := hrow.2 _ (nth_mem (by omega))
 refine ⟨?_, hb.1, hb.2.1⟩
 unfold rsend
 generalize rsendN ps most st = n at hb ⊢
 dsimp only
 refine ⟨by simp [h.glen], ?_, by simp [h.slen], fun l hl' => ?_, ?_, fun i hi2 => ?_⟩
 ·dsimp only; split <;> simp [h.dlen]
 ·rcases List.mem_or_eq_of_mem_set hl' with h1 | rfl
  ·have := h.rows l h1
   exact ⟨this.1, fun x hx => by have := this.2 x hx; omega⟩
  ·refine ⟨by simp [hrow.1], fun x hx => ?_⟩
   rcases List.mem_or_eq_of_mem_set hx with h2 | rfl
   ·have := hrow.2 x h2; omega
   ·omega
 ·dsimp only
  by_cases e : nth st.given st.now.toNat + n = (nth ps st.now.toNat).size
  ·rw [if_pos e]; exact .inl rfl
  ·rw [if_neg e]
   refine .inr ⟨n1, n2, ?_⟩
   rw [nth_set_self (by rw [h.glen]; exact hi)]; omega
 ·dsimp only
  by_cases e : st.now.toNat = i
  ·subst e; rw [nth_set_self (by rw [h.glen]; exact hi)]; omega
  ·rw [nth_set_ne e]; exact h.giv i hi2
end
end Go.Proofs.YtmidibkljoaoiaaGreatDoor.M

/- Curves, plain: normal forms of functions that repeat. No condition. -/
namespace Go.Proofs.YtmidibkljoaoiaaGreatDoor.M
open Go Go.Proofs.YtmidibkljoaoiaaGreatDoor.K

def INF : Int := 4611686018427387904
def MAXV : Int := 1073741824
/-- the first values of a function -/
def fvals (F : Nat → Int) (n : Nat) : List Int := (List.range n).map F
theorem fvals_len (F : Nat → Int) (n : Nat) : (fvals F n).length = n := by simp [fvals]
theorem fvals_nth (F : Nat → Int) {n i : Nat} (h : i < n) : nth (fvals F n) i = F i := range_map_nth F h
theorem fvals_take (F : Nat → Int) {n k : Nat} (h : k ≤ n) : (fvals F n).take k = fvals F k := by
 refine nth_ext (by simp [fvals]; omega) (fun i hi => ?_)
 have hi' : i < k := by simp [fvals] at hi; omega
 rw [fvals_nth F hi']
 unfold nth List.getD
 rw [List.getElem?_take, if_pos hi']
 exact fvals_nth F (by omega)
theorem fvals_drop (F : Nat → Int) {n k : Nat} (h : k ≤ n) : (fvals F n).drop k = fvals (fun t => F (k + t)) (n - k) := by
 refine nth_ext (by simp [fvals]) (fun i hi => ?_)
 have hi' : i < n - k := by simp [fvals] at hi; omega
 rw [fvals_nth _ hi']
 unfold nth List.getD
 rw [List.getElem?_drop]
 exact fvals_nth F (by omega)
theorem fvals_eq {F : Nat → Int} {l : List Int} (h : ∀ i, i < l.length → nth l i = F i) : l = fvals F l.length :=
 nth_ext (by simp [fvals]) (fun i hi => by rw [fvals_nth F hi, h i hi])

/-! ### the least period and the start -/
/-- it grows by I in P ticks from S on -/
def Grows (F : Nat → Int) (S P : Nat) (I : Int) : Prop := ∀ t, S ≤ t → F (t + P) = F t + I
theorem Grows.mono {F : Nat → Int} {S S' P : Nat} {I : Int} (h : Grows F S P I) (hs : S ≤ S') : Grows F S' P I := fun t ht => h t (by omega)
theorem Grows.mul {F : Nat → Int} {S P : Nat} {I : Int} (h : Grows F S P I) : ∀ (k t : Nat), S ≤ t → F (t + k * P) = F t + k * I
 | 0, t, _ => by simp
 | k + 1, t, ht => by
  rw [show t + (k + 1) * P = (t + k * P) + P by rw [Nat.add_mul]; omega, h _ (by omega), Grows.mul h k t ht, Int.natCast_add, Int.add_mul]
  simp; omega
/-- a window shows it -/
def PerOk (F : Nat → Int) (S P : Nat) (I : Int) (p : Nat) : Prop := P % p = 0 ∧ (I * p) % P = 0 ∧ ∀ t, S ≤ t → t < S + P → F (t + p) = F t + I * p / P
theorem PerOk.all {F : Nat → Int} {S P : Nat} {I : Int} {p : Nat} (hP : 0 < P) (hg : Grows F S P I) (h : PerOk F S P I p) : Grows F S p (I * p / P) := by
 intro t
 induction t using Nat.strongRecOn with
 | _ t ih =>
  intro ht
  by_cases hw : t < S + P
  ·exact h.2.2 t ht hw
  ·have h1 := ih (t - P) (by omega) (by omega)
   have h2 := hg (t - P) (by omega)
   have h3 := hg (t - P + p) (by omega)
   rw [show t - P + P = t by omega] at h2
   rw [show t - P + p + P = t + p by omega] at h3
   omega
theorem PerOk.move {F : Nat → Int} {S S' P : Nat} {I : Int} {p : Nat} (hP : 0 < P) (hg : Grows F S P I) (hg' : Grows F S' P I) (h : PerOk F S P I p) : PerOk F S' P I p := by
 refine ⟨h.1, h.2.1, fun t ht _ => ?_⟩
 have ha := h.all hP hg (t + S * P) (by have := Nat.le_mul_of_pos_right S hP; omega)
 have h1 := hg'.mul S t ht
 have h2 := hg'.mul S (t + p) (by omega)
 rw [show t + S * P + p = t + p + S * P by omega] at ha
 omega
theorem PerOk.self {F : Nat → Int} {S P : Nat} {I : Int} (hP : 0 < P) (hg : Grows F S P I) : PerOk F S P I P := by
 refine ⟨Nat.mod_self P, Int.mul_emod_left I P, fun t ht _ => ?_⟩
 rw [Int.mul_ediv_cancel _ (by omega)]
 exact hg t ht
/-- the least number from 1 on -/
def LeastN (Q : Nat → Prop) (p : Nat) : Prop := 1 ≤ p ∧ Q p ∧ ∀ r, 1 ≤ r → r < p → ¬ Q r
theorem LeastN.unique {Q Q' : Nat → Prop} {p p' : Nat} (h : LeastN Q p) (h' : LeastN Q' p') (hq : ∀ r, Q r ↔ Q' r) : p = p' := by
 rcases Nat.lt_trichotomy p p' with h1 | h1 | h1
 ·exact absurd ((hq p).1 h.2.1) (h'.2.2 p h.1 h1)
 ·exact h1
 ·exact absurd ((hq p').2 h'.2.1) (h.2.2 p' h'.1 h1)
/-- from where on it grows so -/
def Starts (F : Nat → Int) (p : Nat) (q : Int) (s : Nat) : Prop := Grows F s p q ∧ (s = 0 ∨ F (s - 1 + p) ≠ F (s - 1) + q)
theorem Starts.unique {F : Nat → Int} {p : Nat} {q : Int} {s s' : Nat} (h : Starts F p q s) (h' : Starts F p q s') : s = s' := by
 rcases Nat.lt_trichotomy s s' with h1 | h1 | h1
 ·rcases h'.2 with h2 | h2
  ·omega
  ·exact absurd (h.1 (s' - 1) (by omega)) h2
 ·exact h1
 ·rcases h.2 with h2 | h2
  ·omega
  ·exact absurd (h'.1 (s - 1) (by omega)) h2

/-! ### what the program does -/
def leastOk (v : List Int) (inc : Int) (p : Nat) : Bool :=
  v.length % p == 0 && (inc * p) % v.length == 0 && (List.range v.length).all fun i => (if i + p < v.length then nth v (i + p) else nth v (i + p - v.length) + inc) == nth v i + inc * p / v.length
def leastL (v : List Int) (inc : Int) : Nat :=
  if findFrom (leastOk v inc) (v.length - 1) 1 = -1 then v.length else (findFrom (leastOk v inc) (v.length - 1) 1).toNat
def downL (v : List Int) (p : Nat) (q : Int) : Nat → Nat
  | 0 => 0
  | s + 1 => if nth v s + q = nth v (s + p) then downL v p q s else s + 1
/-- a curve: values, period, increment -/
structure Cv where
  vals : List Int
  per : Int
  inc : Int
def zcv : Cv := ⟨[], 0, 0⟩
def checkedE (v : List Int) : Int := if 400 < v.length ∨ (v.any fun x => x != INF && decide (x > MAXV)) = true then 3 else 0
def checkedL (v : List Int) (p : Int) (q : Int) : Cv × Int := if checkedE v = 3 then (zcv, 3) else (⟨v, p, q⟩, 0)
def finL (v : List Int) (S P : Nat) (I : Int) : Cv × Int :=
  let p := leastL (v.drop S) I
  let q := I * p / P
  let s := downL v p q S
  if 120 < p ∨ MAXV < q then (zcv, 3) else checkedL (v.take (s + p)) p q
def infAt (F : Nat → Int) (n : Nat) : Int := findFrom (fun t => F t == INF) n 0
def mbuild (F : Nat → Int) (S P : Nat) (I : Int) : Cv × Int :=
  if infAt F (S + P) = -1 then finL (fvals F (S + P)) S P I else checkedL (fvals F ((infAt F (S + P)).toNat + 1)) 1 0

theorem leastOk_iff {F : Nat → Int} {S P : Nat} {I : Int} {p : Nat} (hg : Grows F S P I) (hp : p ≤ P) : leastOk (fvals (fun t => F (S + t)) P) I p = true ↔ PerOk F S P I p := by
 unfold leastOk PerOk
 simp only [fvals_len, Bool.and_eq_true, beq_iff_eq, List.all_eq_true, List.mem_range]
 have key : ∀ i, i < P → (if i + p < P then nth (fvals (fun t => F (S + t)) P) (i + p) else nth (fvals (fun t => F (S + t)) P) (i + p - P) + I) = F (S + i + p) := fun i hi => by
  split
  ·rename_i h; rw [fvals_nth _ h, Nat.add_assoc]
  ·rename_i h
   rw [fvals_nth _ (by omega), ← hg _ (by omega)]
   congr 1; omega
 constructor
 ·rintro ⟨⟨h1, h2⟩, h3⟩
  refine ⟨h1, h2, fun t ht htp => ?_⟩
  have := h3 (t - S) (by omega)
  rw [key _ (by omega), fvals_nth _ (by omega), show S + (t - S) = t by omega] at this
  exact this
 ·rintro ⟨h1, h2, h3⟩
  refine ⟨⟨h1, h2⟩, fun i hi => ?_⟩
  rw [key i hi, fvals_nth _ hi]
  exact h3 _ (by omega) (by omega)
theorem leastL_is {F : Nat → Int} {S P : Nat} {I : Int} (hP : 0 < P) (hg : Grows F S P I) : LeastN (PerOk F S P I) (leastL (fvals (fun t => F (S + t)) P) I) ∧ leastL (fvals (fun t => F (S + t)) P) I ≤ P := by
 unfold leastL
 rw [fvals_len]
 rcases findFrom_cases (leastOk (fvals (fun t => F (S + t)) P) I) (P - 1) 1 with ⟨i, h1, h2, h3, h4, h5⟩ | ⟨h1, h2⟩
 ·rw [h3, if_neg (by omega), Int.toNat_natCast]
  refine ⟨⟨h1, (leastOk_iff hg (by omega)).1 h4, fun r hr hri hq => ?_⟩, by omega⟩
  have := h5 r hr hri
  rw [(leastOk_iff hg (by omega)).2 hq] at this
  cases this
 ·rw [h1, if_pos rfl]
  refine ⟨⟨hP, PerOk.self hP hg, fun r hr hri hq => ?_⟩, Nat.le_refl _⟩
  have := h2 r hr (by omega)
  rw [(leastOk_iff hg (by omega)).2 hq] at this
  cases this
theorem downL_is {F : Nat → Int} {p n : Nat} {q : Int} : ∀ (s : Nat), s + p ≤ n → Grows F s p q → Starts F p q (downL (fvals F n) p q s) ∧ downL (fvals F n) p q s ≤ s
 | 0, _, h => ⟨⟨h, .inl rfl⟩, Nat.le_refl _⟩
 | s + 1, hn, h => by
  simp only [downL]
  rw [fvals_nth F (show s < n by omega)]
  by_cases hp : s + p < n
  ·rw [fvals_nth F hp]
   split
   ·rename_i he
    have := downL_is (F := F) (p := p) (n := n) (q := q) s (by omega) (fun t ht => by
     by_cases hts : t = s
     ·subst hts; exact he.symm
     ·exact h t (by omega))
    exact ⟨this.1, by omega⟩
   ·rename_i he
    exact ⟨⟨h, .inr (by simpa using fun h => he h.symm)⟩, Nat.le_refl _⟩
  ·omega

/-! ### what it is -/
/-- the normal form of a finite function -/
structure NF (F : Nat → Int) (S P : Nat) (I : Int) (p s : Nat) : Prop where
  least : LeastN (PerOk F S P I) p
  starts : Starts F p (I * p / P) s
theorem NF.unique {F : Nat → Int} {S S' P : Nat} {I : Int} {p p' s s' : Nat} (hP : 0 < P) (hg : Grows F S P I) (hg' : Grows F S' P I) (h : NF F S P I p s) (h' : NF F S' P I p' s') : p = p' ∧ s = s' := by
 have hp := h.least.unique h'.least (fun r => ⟨fun hr => hr.move hP hg hg', fun hr => hr.move hP hg' hg⟩)
 subst hp
 exact ⟨rfl, h.starts.unique h'.starts⟩
def nfE (F : Nat → Int) (p s : Nat) (q : Int) : Int := if 120 < p ∨ MAXV < q ∨ 400 < s + p ∨ ((List.range (s + p)).any fun i => decide (F i > MAXV)) = true then 3 else 0
def nfC (F : Nat → Int) (p s : Nat) (q : Int) : Cv × Int := if nfE F p s q = 3 then (zcv, 3) else (⟨fvals F (s + p), p, q⟩, 0)
theorem finL_nf {F : Nat → Int} {S P : Nat} {I : Int} (hP : 0 < P) (hg : Grows F S P I) (hf : ∀ t, t < S + P → F t ≠ INF) :
  ∃ p s, NF F S P I p s ∧ p ≤ P ∧ s ≤ S ∧ finL (fvals F (S + P)) S P I = nfC F p s (I * p / P) := by
 have hd : (fvals F (S + P)).drop S = fvals (fun t => F (S + t)) P := by rw [fvals_drop F (by omega)]; congr 1; omega
 obtain ⟨h1, h2⟩ := leastL_is hP hg
 have h3 := h1.2.1.all hP hg
 obtain ⟨h4, h5⟩ := downL_is (n := S + P) S (by omega) h3
 refine ⟨_, _, ⟨h1, h4⟩, h2, h5, ?_⟩
 unfold finL
 rw [hd]
 generalize leastL (fvals (fun t => F (S + t)) P) I = p at h1 h2 h3 h4 h5 ⊢
 generalize hs : downL (fvals F (S + P)) p (I * p / P) S = s at h4 h5 ⊢
 dsimp only
 rw [hs, fvals_take F (by omega)]
 unfold nfC nfE checkedL checkedE
 rw [fvals_len]
 have hany : (fvals F (s + p)).any (fun x => x != INF && decide (x > MAXV)) = (List.range (s + p)).any fun i => decide (F i > MAXV) := by
  unfold fvals
  rw [List.any_map, Bool.eq_iff_iff]
  simp only [List.any_eq_true, List.mem_range, Function.comp, Bool.and_eq_true, decide_eq_true_eq]
  constructor
  ·rintro ⟨i, h1, h2⟩; exact ⟨i, h1, h2.2⟩
  ·rintro ⟨i, h1, h2⟩; exact ⟨i, h1, by simpa using hf i (by omega), h2⟩
 rw [hany]
 by_cases a : 120 < p ∨ MAXV < I * p / P
 ·rw [if_pos a, if_pos (by rw [if_pos]; rcases a with a | a; exact .inl a; exact .inr (.inl a))]
 ·rw [if_neg a]
  by_cases b : 400 < s + p ∨ ((List.range (s + p)).any fun i => decide (F i > MAXV)) = true
  ·rw [if_pos (if_pos b), if_pos (if_pos (.inr (.inr b)))]
  ·rw [if_neg (show ¬ (if 400 < s + p ∨ ((List.range (s + p)).any fun i => decide (F i > MAXV)) = true then (3 : Int) else 0) = 3 by rw [if_neg b]; decide),
    if_neg (show ¬ (if 120 < p ∨ MAXV < I * p / P ∨ 400 < s + p ∨ ((List.range (s + p)).any fun i => decide (F i > MAXV)) = true then (3 : Int) else 0) = 3 by
     rw [if_neg (fun h => by rcases h with h | h | h; exact a (.inl h); exact a (.inr h); exact b h)]; decide)]

/-! ### what the references do -/
def perR (c : Cv) (start : Int) (p : Int) : Bool :=
  c.per.tmod p == 0 && (c.inc * p).tmod c.per == 0 && (List.range c.per.toNat).all fun i => atR c.vals c.per c.inc (start + i + p) == atR c.vals c.per c.inc (start + i) + c.inc * p / c.per
def leastR (c : Cv) : Nat := (findFrom (fun p => perR c (c.vals.length - c.per) p) (c.per.toNat) 1).toNat
def downR (c : Cv) (p : Int) (q : Int) : Nat → Nat
  | 0 => 0
  | s + 1 => if atR c.vals c.per c.inc ((s : Int) + p) = atR c.vals c.per c.inc s + q then downR c p q s else s + 1
def infL (l : List Int) : Int := findFrom (fun i => nth l i == INF) l.length 0
def normR (c : Cv) : Cv :=
  if infL c.vals = -1 then
    let p := leastR c
    let q := c.inc * p / c.per
    let s := downR c p q (c.vals.length - c.per).toNat
    ⟨(List.range (s + p)).map fun (t : Nat) => atR c.vals c.per c.inc (t : Int), p, q⟩
  else ⟨c.vals.take ((infL c.vals).toNat + 1), 1, 0⟩
def sortedB : Int → List Int → Bool
  | _, [] => true
  | a, x :: xs => decide (a ≤ x) && sortedB x xs
def validB (c : Cv) : Bool :=
  decide (1 ≤ c.vals.length) && decide (c.vals.length ≤ 400) && decide (1 ≤ c.per) && decide (c.per ≤ 120) && decide (c.per ≤ c.vals.length) && decide (0 ≤ c.inc) && decide (c.inc ≤ MAXV) &&
  (List.range c.vals.length).all (fun i => (nth c.vals i == INF || (decide (0 ≤ nth c.vals i) && decide (nth c.vals i ≤ MAXV))) && (i == 0 || decide (nth c.vals (i - 1) ≤ nth c.vals i))) &&
  (if nth c.vals (c.vals.length - 1) = INF then c.per == 1 && c.inc == 0 else decide (nth c.vals (c.vals.length - 1) ≤ nth c.vals (c.vals.length - c.per.toNat) + c.inc))
def madeR (c : Cv) : Cv × Int := if validB (normR c) then (normR c, 0) else (zcv, 3)

section
variable {F : Nat → Int} {S P : Nat} {I : Int}
theorem atR_fvals (hP : 0 < P) (hg : Grows F S P I) (hf : ∀ t, t < S + P → F t ≠ INF) (t : Nat) : atR (fvals F (S + P)) P I (t : Int) = F t := by
 unfold atR
 rw [fvals_len, if_neg (by omega)]
 by_cases h : t < S + P
 ·rw [if_pos (by omega), Int.toNat_natCast, fvals_nth F h]
 ·rw [if_neg (by omega)]
  obtain ⟨d, rfl⟩ : ∃ d, t = S + P + d := ⟨t - (S + P), by omega⟩
  have e1 : (((S + P + d : Nat) : Int) - ((S + P : Nat) : Int)) / (P : Int) = ((d / P : Nat) : Int) := by
   rw [show ((S + P + d : Nat) : Int) - ((S + P : Nat) : Int) = (d : Int) by omega]; rfl
  rw [e1]
  have h1 : d / P * P ≤ d := Nat.div_mul_le_self d P
  have h2 : d < (d / P + 1) * P := Nat.lt_mul_of_div_lt (Nat.lt_succ_self _) hP
  have h3 : (d / P + 1) * P = d / P * P + P := by rw [Nat.add_mul]; omega
  have e2 : (((S + P + d : Nat) : Int) - (((d / P : Nat) : Int) + 1) * (P : Int)).toNat = S + d - d / P * P := by
   have : (((d / P : Nat) : Int) + 1) * (P : Int) = (((d / P + 1) * P : Nat) : Int) := by simp
   rw [this, h3]; omega
  rw [e2, fvals_nth F (show S + d - d / P * P < S + P by omega)]
  have hne : ¬ F (S + d - d / P * P) = 4611686018427387904 := hf _ (by omega)
  rw [if_neg hne]
  have := hg.mul (d / P + 1) (S + d - d / P * P) (by omega)
  rw [show S + d - d / P * P + (d / P + 1) * P = S + P + d by omega] at this
  rw [this]; simp
theorem tmod_zero {a : Int} {b : Nat} (ha : 0 ≤ a) : (a.tmod (b : Int) == 0) = decide (a % (b : Int) = 0) := by
 rw [Int.tmod_eq_emod_of_nonneg ha]
 rfl
theorem perR_iff (hP : 0 < P) (hI : 0 ≤ I) (hg : Grows F S P I) (hf : ∀ t, t < S + P → F t ≠ INF) (p : Nat) : perR ⟨fvals F (S + P), P, I⟩ ((((fvals F (S + P)).length : Nat) : Int) - (P : Int)) (p : Int) = true ↔ PerOk F S P I p := by
 unfold perR PerOk
 dsimp only
 rw [fvals_len, show ((S + P : Nat) : Int) - (P : Int) = (S : Int) by omega, tmod_zero (by omega), tmod_zero (Int.mul_nonneg hI (by omega)), Int.toNat_natCast]
 simp only [Bool.and_eq_true, decide_eq_true_eq, List.all_eq_true, List.mem_range, beq_iff_eq]
 have e : ∀ i : Nat, atR (fvals F (S + P)) P I ((S : Int) + i + p) = F (S + i + p) ∧ atR (fvals F (S + P)) P I ((S : Int) + i) = F (S + i) := fun i => by
  have h1 := atR_fvals hP hg hf (S + i + p)
  have h2 := atR_fvals hP hg hf (S + i)
  simp only [Int.natCast_add] at h1 h2
  exact ⟨h1, h2⟩
 have e3 : ((P : Int) % (p : Int) = 0) ↔ P % p = 0 := by omega
 rw [e3, and_assoc]
 constructor
 ·rintro ⟨h1, h2, h3⟩
  refine ⟨h1, h2, fun t ht htp => ?_⟩
  have := h3 (t - S) (by omega)
  rw [(e _).1, (e _).2, show S + (t - S) = t by omega] at this
  exact this
 ·rintro ⟨h1, h2, h3⟩
  refine ⟨h1, h2, fun i hi => ?_⟩
  rw [(e i).1, (e i).2]
  exact h3 _ (by omega) (by omega)
theorem leastR_is (hP : 0 < P) (hI : 0 ≤ I) (hg : Grows F S P I) (hf : ∀ t, t < S + P → F t ≠ INF) : LeastN (PerOk F S P I) (leastR ⟨fvals F (S + P), P, I⟩) ∧ leastR ⟨fvals F (S + P), P, I⟩ ≤ P := by
 unfold leastR
 dsimp only
 rw [Int.toNat_natCast]
 rcases findFrom_cases (fun p => perR ⟨fvals F (S + P), P, I⟩ ((((fvals F (S + P)).length : Nat) : Int) - (P : Int)) (p : Int)) P 1 with ⟨i, h1, h2, h3, h4, h5⟩ | ⟨h1, h2⟩
 ·rw [h3, Int.toNat_natCast]
  refine ⟨⟨h1, (perR_iff hP hI hg hf i).1 h4, fun r hr hri hq => ?_⟩, by omega⟩
  have := h5 r hr hri
  rw [(perR_iff hP hI hg hf r).2 hq] at this
  cases this
 ·have := h2 P (by omega) (by omega)
  rw [(perR_iff hP hI hg hf P).2 (PerOk.self hP hg)] at this
  cases this
theorem downR_is (hP : 0 < P) (hg : Grows F S P I) (hf : ∀ t, t < S + P → F t ≠ INF) {p : Nat} {q : Int} : ∀ (s : Nat), Grows F s p q → Starts F p q (downR ⟨fvals F (S + P), P, I⟩ (p : Int) q s) ∧ downR ⟨fvals F (S + P), P, I⟩ (p : Int) q s ≤ s
 | 0, h => ⟨⟨h, .inl rfl⟩, Nat.le_refl _⟩
 | s + 1, h => by
  simp only [downR]
  have h1 := atR_fvals hP hg hf (s + p)
  have h2 := atR_fvals hP hg hf s
  simp only [Int.natCast_add] at h1
  rw [h1, h2]
  split
  ·rename_i he
   have := downR_is hP hg hf (p := p) (q := q) s (fun t ht => by
    by_cases hts : t = s
    ·subst hts; exact he
    ·exact h t (by omega))
   exact ⟨this.1, by omega⟩
  ·rename_i he
   exact ⟨⟨h, .inr (by simpa using he)⟩, Nat.le_refl _⟩
theorem infL_fvals (n : Nat) (hf : ∀ t, t < n → F t ≠ INF) : infL (fvals F n) = -1 := by
 unfold infL
 rw [fvals_len]
 rcases findFrom_cases (fun i => nth (fvals F n) i == INF) n 0 with ⟨i, h1, h2, h3, h4, h5⟩ | ⟨h1, h2⟩
 ·rw [fvals_nth F (by omega)] at h4
  exact absurd (by simpa using h4) (hf i (by omega))
 ·exact h1
theorem normR_nf (hP : 0 < P) (hI : 0 ≤ I) (hg : Grows F S P I) (hf : ∀ t, t < S + P → F t ≠ INF) : ∃ p s, NF F S P I p s ∧ p ≤ P ∧ s ≤ S ∧ normR ⟨fvals F (S + P), P, I⟩ = ⟨fvals F (s + p), p, I * p / P⟩ := by
 obtain ⟨h1, h2⟩ := leastR_is hP hI hg hf
 have h3 := h1.2.1.all hP hg
 obtain ⟨h4, h5⟩ := downR_is hP hg hf S h3
 refine ⟨_, _, ⟨h1, h4⟩, h2, h5, ?_⟩
 unfold normR
 dsimp only
 rw [if_pos (infL_fvals _ hf), fvals_len, show (((S + P : Nat) : Int) - (P : Int)).toNat = S by omega]
 congr 1
 unfold fvals
 apply List.map_congr_left
 intro t _
 exact atR_fvals hP hg hf t
theorem mono_le (hm : ∀ t, F t ≤ F (t + 1)) {a b : Nat} (h : a ≤ b) : F a ≤ F b := by
 induction b with
 | zero =>
  obtain rfl : a = 0 := by omega
  exact Int.le_refl _
 | succ b ih =>
  by_cases e : a = b + 1
  ·subst e; omega
  ·have := ih (by omega); have := hm b; omega
theorem madeR_nf (hP : 0 < P) (hI : 0 ≤ I) (hg : Grows F S P I) (hm : ∀ t, F t ≤ F (t + 1)) (h0 : 0 ≤ F 0) (hf : ∀ t, t < S + P → F t < INF) : ∃ p s, NF F S P I p s ∧ p ≤ P ∧ s ≤ S ∧ madeR ⟨fvals F (S + P), P, I⟩ = nfC F p s (I * p / P) := by
 have hne : ∀ t, t < S + P → F t ≠ INF := fun t ht => by have := hf t ht; omega
 obtain ⟨p, s, hnf, h1, h2, h3⟩ := normR_nf hP hI hg hne
 refine ⟨p, s, hnf, h1, h2, ?_⟩
 unfold madeR
 rw [h3]
 have hp := hnf.least.1
 have hq : 0 ≤ I * (p : Int) / (P : Int) := Int.ediv_nonneg (Int.mul_nonneg hI (by omega)) (by omega)
 have hgr := hnf.starts.1 s (Nat.le_refl _)
 generalize I * (p : Int) / (P : Int) = q at hq hgr ⊢
 have hnn : ∀ t, 0 ≤ F t := fun t => by have := mono_le hm (Nat.zero_le t); omega
 have hval : validB ⟨fvals F (s + p), p, q⟩ = decide (¬ nfE F p s q = 3) := by
  unfold validB nfE
  dsimp only
  rw [fvals_len, fvals_nth F (show s + p - 1 < s + p by omega), if_neg (hne _ (by omega)), Int.toNat_natCast, show s + p - p = s by omega, fvals_nth F (show s < s + p by omega), ← hgr]
  have hlast : decide (F (s + p - 1) ≤ F (s + p)) = true := decide_eq_true (mono_le hm (by omega))
  rw [hlast]
  have hall : ((List.range (s + p)).all fun i => (nth (fvals F (s + p)) i == INF || (decide (0 ≤ nth (fvals F (s + p)) i) && decide (nth (fvals F (s + p)) i ≤ MAXV))) && (i == 0 || decide (nth (fvals F (s + p)) (i - 1) ≤ nth (fvals F (s + p)) i))) = !((List.range (s + p)).any fun i => decide (F i > MAXV)) := by
   rw [List.all_eq_not_any_not]
   congr 1
   rw [Bool.eq_iff_iff]
   simp only [List.any_eq_true, List.mem_range]
   constructor
   ·rintro ⟨i, hi, h⟩
    refine ⟨i, hi, ?_⟩
    rw [fvals_nth F hi] at h
    have e1 : (F i == INF) = false := by simpa using hne i (by omega)
    have e2 : decide (0 ≤ F i) = true := decide_eq_true (hnn i)
    have e3 : (i == 0 || decide (nth (fvals F (s + p)) (i - 1) ≤ F i)) = true := by
     by_cases hi0 : i = 0
     ·simp [hi0]
     ·rw [fvals_nth F (by omega)]; simp [mono_le hm (show i - 1 ≤ i by omega)]
    rw [e1, e2, e3] at h
    simp at h
    exact decide_eq_true (by omega)
   ·rintro ⟨i, hi, h⟩
    refine ⟨i, hi, ?_⟩
    rw [fvals_nth F hi]
    have e1 : (F i == INF) = false := by simpa using hne i (by omega)
    have h' := of_decide_eq_true h
    have e4 : decide (F i ≤ MAXV) = false := decide_eq_false (by omega)
    rw [e1, e4]; simp
  rw [hall]
  generalize ((List.range (s + p)).any fun i => decide (F i > MAXV)) = b
  rw [Bool.eq_iff_iff]
  simp only [Bool.and_eq_true, decide_eq_true_eq, Bool.not_eq_true', and_true]
  constructor
  ·rintro ⟨⟨⟨⟨⟨⟨⟨a1, a2⟩, a3⟩, a4⟩, a5⟩, a6⟩, a7⟩, a8⟩ h
   rw [if_neg] at h
   ·omega
   ·rintro (h | h | h | h)
    ·omega
    ·omega
    ·omega
    ·rw [a8] at h; cases h
  ·intro h
   have h' : ¬ (120 < p ∨ MAXV < q ∨ 400 < s + p ∨ b = true) := fun hh => h (if_pos hh)
   refine ⟨⟨⟨⟨⟨⟨⟨by omega, by omega⟩, by omega⟩, by omega⟩, by omega⟩, hq⟩, by omega⟩, ?_⟩
   cases b with
   | false => rfl
   | true => exact absurd (.inr (.inr (.inr rfl))) h'
 rw [hval]
 unfold nfC
 by_cases h : nfE F p s q = 3
 ·rw [if_pos h, if_neg (by simp [h])]
 ·rw [if_neg h, if_pos (by simp [h])]
/-- the program's normal form is the references', wherever they begin -/
theorem build_made {S' : Nat} (hP : 0 < P) (hI : 0 ≤ I) (hg : Grows F S P I) (hg' : Grows F S' P I) (hm : ∀ t, F t ≤ F (t + 1)) (h0 : 0 ≤ F 0) (hf : ∀ t, t < S + P → F t < INF) (hf' : ∀ t, t < S' + P → F t < INF) : finL (fvals F (S + P)) S P I = madeR ⟨fvals F (S' + P), P, I⟩ := by
 have hne : ∀ t, t < S + P → F t ≠ INF := fun t ht => by have := hf t ht; omega
 obtain ⟨p, s, h1, _, _, h2⟩ := finL_nf hP hg hne
 obtain ⟨p', s', h3, _, _, h4⟩ := madeR_nf hP hI hg' hm h0 hf'
 obtain ⟨rfl, rfl⟩ := h1.unique hP hg hg' h3
 rw [h2, h4]
theorem mbuild_fin (hf : ∀ t, t < S + P → F t ≠ INF) : mbuild F S P I = finL (fvals F (S + P)) S P I := by
 unfold mbuild
 rw [if_pos]
 unfold infAt
 rcases findFrom_cases (fun t => F t == INF) (S + P) 0 with ⟨i, h1, h2, h3, h4, h5⟩ | ⟨h1, h2⟩
 ·exact absurd (by simpa using h4) (hf i (by omega))
 ·exact h1
end
end Go.Proofs.YtmidibkljoaoiaaGreatDoor.M

/- What the line answers, plain: errors and runs; queues. No condition. -/
namespace Go.Proofs.YtmidibkljoaoiaaGreatDoor.M
open Go Go.Proofs.YtmidibkljoaoiaaGreatDoor.K

/-- slices of packets, and three numbers, in a slice -/
structure SlP where
  a : Option Addr
  cap : Nat
  xs : List Pkt
instance instSlP : Inhabited SlP := ⟨⟨none, 0, []⟩⟩
def encL (s : SlP) : List Value := [.slice s.a s.xs.length s.cap]
def enc3 (x : Int × Int × Int) : List Value := [.int .i64 x.1, .int .i64 x.2.1, .int .i64 x.2.2]
def enc2 (x : Int × Int) : List Value := [.int .i64 x.1, .int .i64 x.2]
def lrunE (cap classes ticks : Int) (ps : List Pkt) : Int := if validate ps ≠ 0 then validate ps else checkE cap classes ticks ps
def lineOut (cap classes ticks : Int) (ps : List Pkt) : List Int × List (List Int) :=
  if lrunE cap classes ticks ps ≠ 0 then ([], []) else ((mrun ps (fifo ps) cap classes.toNat ticks.toNat ()).done, (mrun ps (fifo ps) cap classes.toNat ticks.toNat ()).sent)
/-! ### queues -/
def selSum (cls t : Int) : Nat → List (List Int) → Int
  | _, [] => 0
  | c, l :: ls => (if (c : Int) ≠ cls ∧ cls ≠ -1 then 0 else nth l t.toNat) + selSum cls t (c + 1) ls
end Go.Proofs.YtmidibkljoaoiaaGreatDoor.M

/- Choices by classes, plain: the first packet of a class that waits; weighted round robin. No condition. -/
namespace Go.Proofs.YtmidibkljoaoiaaGreatDoor.M
open Go Go.Proofs.YtmidibkljoaoiaaGreatDoor.K

/-- the first packet of a class that waits -/
def nextP (ps : List Pkt) (ms : MS) (cls : Int) (i : Nat) : Bool := decide ((nth ps i).time ≤ ms.now) && !nth ms.begun i && (nth ps i).flow == cls
def nextW (ps : List Pkt) (ms : MS) (cls : Int) : Int := findN (nextP ps ms cls) ps.length
/-! ### weighted round robin -/
def robinGo (nx : Int → Int) (w : List Int) : Nat → Nat → Int → Int × (Nat × Int)
  | 0, c, l => (-1, (c, l))
  | k + 1, c, l => if 0 ≤ nx c ∧ 0 < l then (nx c, (c, l - 1)) else robinGo nx w k ((c + 1) % w.length) (nth w ((c + 1) % w.length))
def robinCh (ps : List Pkt) (w : List Int) (ms : MS) (s : Nat × Int) : Int × Nat × (Nat × Int) :=
  if firstR ps ms < 0 then (-1, skipTo ms.begun ms.before, s)
  else ((robinGo (nextW ps ms) w (w.length + 1) s.1 s.2).1, skipTo ms.begun ms.before, (robinGo (nextW ps ms) w (w.length + 1) s.1 s.2).2)
def robinRc (ps : List Pkt) (w : List Int) (st : St) (g : Nat × Int) : Int × (Nat × Int) :=
  if 0 ≤ firstW ps st (-1) then robinGo (firstW ps st) w (w.length + 1) g.1 g.2 else (-1, g)
/-- within so many steps something is found -/
def Soon (nx : Int → Int) (n k c : Nat) (l : Int) : Prop := ∃ j, j < k ∧ 0 ≤ nx (((c + j) % n : Nat) : Int) ∧ (0 < j ∨ 0 < l)
theorem Soon.step {nx : Int → Int} {w : List Int} {k c : Nat} {l : Int} (hw : ∀ x ∈ w, 1 ≤ x) (hn : 0 < w.length) (hc : c < w.length) (h : Soon nx w.length (k + 1) c l) (hno : ¬ (0 ≤ nx c ∧ 0 < l)) : Soon nx w.length k ((c + 1) % w.length) (nth w ((c + 1) % w.length)) := by
 obtain ⟨j, h1, h2, h3⟩ := h
 have hj : 0 < j := by
  rcases Nat.eq_zero_or_pos j with hj | hj
  ·subst hj
   rw [Nat.add_zero, Nat.mod_eq_of_lt hc] at h2
   exact absurd ⟨h2, by omega⟩ hno
  ·exact hj
 refine ⟨j - 1, by omega, ?_, .inr ?_⟩
 ·rw [Nat.mod_add_mod, show c + 1 + (j - 1) = c + j by omega]; exact h2
 ·have := hw _ (nth_mem (xs := w) (k := (c + 1) % w.length) (Nat.mod_lt _ hn)); omega
def goodRb (ps : List Pkt) (n : Nat) (ms : MS) (s : Nat × Int) : Prop := goodB ps ms ∧ s.1 < n ∧ 0 ≤ s.2 ∧ s.2 ≤ 20
def sameFlow (ps : List Pkt) (i k : Nat) : Prop := (nth ps i).flow = (nth ps k).flow
/-- weights that are in their range -/
def okW (hi : Int) (w : List Int) : Bool := w.all fun x => decide (1 ≤ x) && decide (x ≤ hi)
def wrunE (hi cap ticks : Int) (w : List Int) (ps : List Pkt) : Int := if lrunE cap w.length ticks ps ≠ 0 then lrunE cap w.length ticks ps else if okW hi w = true then 0 else 2
def outOf {σ : Type} (e : Int) (s : RS σ) : List Int × List (List Int) := if e ≠ 0 then ([], []) else (s.done, s.sent)
end Go.Proofs.YtmidibkljoaoiaaGreatDoor.M

/- Curves of schedulers, plain: sizes, rounds, what a class is left. No condition. -/
namespace Go.Proofs.YtmidibkljoaoiaaGreatDoor.M
open Go Go.Proofs.YtmidibkljoaoiaaGreatDoor.K

structure Sz where
  least : Int
  most : Int
instance instSz : Inhabited Sz := ⟨⟨0, 0⟩⟩
def encZ (s : Sz) : List Value := [.int .i64 s.least, .int .i64 s.most]
def zOk (z : List Sz) : Bool := z.all fun s => decide (0 ≤ s.least) && decide (s.least ≤ s.most) && decide (s.most ≤ 1500)
def chk18 (cap cls : Int) (z : List Sz) : Int := if cap < 1 ∨ 4000 < cap ∨ (z.length : Int) < 1 ∨ (6 : Int) < z.length ∨ zOk z = false ∨ cls < 0 ∨ (z.length : Int) ≤ cls then 2 else 0
def chkW (hi cap cls : Int) (w : List Int) (z : List Sz) : Int := if chk18 cap cls z ≠ 0 then 2 else if w.length ≠ z.length ∨ okW hi w = false then 2 else 0
/-- what others send in a round at most -/
def qSum (k : Int) (w : List Int) (z : List Sz) : Nat → Int
  | 0 => 0
  | n + 1 => qSum k w z n + (if (n : Int) ≠ k then nth w n * (nth z n).most else 0)
def shortN (low cap : Nat) : Int := findFrom (fun s => decide (s / Nat.gcd s cap ≤ 120)) (120 * cap + 1 - low) low
def robinOthers (hi k : Int) (w : List Int) (z : List Sz) (own : Int) : Int :=
  if chkW hi 1 k w z ≠ 0 ∨ (nth z k.toNat).least < 1 ∨ own < 0 ∨ MAXV < own then 0 else qSum k w z w.length * (own / (nth w k.toNat * (nth z k.toNat).least) + 1)
/-- the least number that is enough -/
def leastY (H : Nat → Bool) (bound : Nat) : Nat := (findFrom H (bound + 1) 0).toNat
theorem leastY_is {H : Nat → Bool} {b : Nat} (h : H b = true) : leastY H b ≤ b ∧ H (leastY H b) = true ∧ ∀ j, j < leastY H b → H j = false := by
 unfold leastY
 rcases findFrom_cases H (b + 1) 0 with ⟨i, h1, h2, h3, h4, h5⟩ | ⟨_, h2⟩
 ·rw [h3, Int.toNat_natCast]
  exact ⟨by omega, h4, fun j hj => h5 j (by omega) hj⟩
 ·rw [h2 b (by omega) (by omega)] at h; cases h
def robinH (cap s r : Int) (t y : Nat) : Bool := decide ((y : Int) + (s - r) * ((y : Int) / r + 1) ≥ cap * t)
def robinF (cap s r : Int) (t : Nat) : Int := leastY (robinH cap s r t) (cap * t).toNat
def robinC (cap k : Int) (w : List Int) (z : List Sz) : Cv × Int :=
  if chkW 20 cap k w z ≠ 0 then (zcv, chkW 20 cap k w z) else if (nth z k.toNat).least < 1 then (zcv, 5) else
    let r := nth w k.toNat * (nth z k.toNat).least
    let s := shortN (r + qSum k w z w.length).toNat cap.toNat
    if s = -1 then (zcv, 3) else
      let p := s.toNat / Nat.gcd s.toNat cap.toNat
      mbuild (robinF cap s r) 0 p (cap * p / s * r)
theorem robinH_bound {cap s r : Int} (hr : 0 < r) (hs : r ≤ s) (t : Nat) (hc : 0 ≤ cap) : robinH cap s r t (cap * t).toNat = true := by
 unfold robinH
 have h1 : 0 ≤ cap * (t : Int) := Int.mul_nonneg hc (by omega)
 have h2 : 0 ≤ (s - r) * ((((cap * t).toNat : Nat) : Int) / r + 1) := Int.mul_nonneg (by omega) (by have := Int.ediv_nonneg (a := (((cap * t).toNat : Nat) : Int)) (b := r) (by omega) (by omega); omega)
 exact decide_eq_true (by omega)
/-! ### valid curves -/
theorem validB_iff {c : Cv} : validB c = true ↔ (1 ≤ c.vals.length ∧ c.vals.length ≤ 400 ∧ 1 ≤ c.per ∧ c.per ≤ 120 ∧ c.per ≤ c.vals.length ∧ 0 ≤ c.inc ∧ c.inc ≤ MAXV) ∧
  (∀ i, i < c.vals.length → (nth c.vals i = INF ∨ (0 ≤ nth c.vals i ∧ nth c.vals i ≤ MAXV)) ∧ (i = 0 ∨ nth c.vals (i - 1) ≤ nth c.vals i)) ∧
  (if nth c.vals (c.vals.length - 1) = INF then c.per = 1 ∧ c.inc = 0 else nth c.vals (c.vals.length - 1) ≤ nth c.vals (c.vals.length - c.per.toNat) + c.inc) := by
 unfold validB
 by_cases h : nth c.vals (c.vals.length - 1) = INF
 ·rw [if_pos h, if_pos h]
  simp only [Bool.and_eq_true, decide_eq_true_eq, List.all_eq_true, List.mem_range, Bool.or_eq_true, beq_iff_eq, and_assoc]
 ·rw [if_neg h, if_neg h]
  simp only [Bool.and_eq_true, decide_eq_true_eq, List.all_eq_true, List.mem_range, Bool.or_eq_true, beq_iff_eq, and_assoc]
theorem validB_false {c : Cv} (h : ¬ ((1 ≤ c.vals.length ∧ c.vals.length ≤ 400 ∧ 1 ≤ c.per ∧ c.per ≤ 120 ∧ c.per ≤ c.vals.length ∧ 0 ≤ c.inc ∧ c.inc ≤ MAXV) ∧
  (∀ i, i < c.vals.length → (nth c.vals i = INF ∨ (0 ≤ nth c.vals i ∧ nth c.vals i ≤ MAXV)) ∧ (i = 0 ∨ nth c.vals (i - 1) ≤ nth c.vals i)) ∧
  (if nth c.vals (c.vals.length - 1) = INF then c.per = 1 ∧ c.inc = 0 else nth c.vals (c.vals.length - 1) ≤ nth c.vals (c.vals.length - c.per.toNat) + c.inc))) : validB c = false := by
 rw [← Bool.not_eq_true, validB_iff]; exact h
end Go.Proofs.YtmidibkljoaoiaaGreatDoor.M

/- Curves of schedulers, plain: what the walks of rounds, the first enough and the build want. No condition. -/
namespace Go.Proofs.YtmidibkljoaoiaaGreatDoor.M
open Go Go.Proofs.YtmidibkljoaoiaaGreatDoor.K

theorem findFrom_some {P : Nat → Bool} {k a i : Nat} (h1 : a ≤ i) (h2 : i < a + k) (hP : P i = true) (h : ∀ j, a ≤ j → j < i → P j = false) : findFrom P k a = i := by
 rcases findFrom_cases P k a with ⟨r, r1, r2, r3, r4, r5⟩ | ⟨_, r2⟩
 ·rcases Nat.lt_trichotomy i r with h5 | h5 | h5
  ·rw [r5 i h1 h5] at hP; cases hP
  ·subst h5; exact r3
  ·rw [h r r1 h5] at r4; cases r4
 ·rw [r2 i h1 h2] at hP; cases hP
theorem findFrom_none {P : Nat → Bool} {k a : Nat} (h : ∀ j, a ≤ j → j < a + k → P j = false) : findFrom P k a = -1 := by
 rcases findFrom_cases P k a with ⟨r, r1, r2, r3, r4, r5⟩ | ⟨r1, _⟩
 ·rw [h r r1 r2] at r4; cases r4
 ·exact r1
def shortP (cap : Nat) (s : Nat) : Bool := decide (s / Nat.gcd s cap ≤ 120)
def rvR (s : Int) (cap : Nat) : Value := .tuple #[.int .i64 (if s = -1 then 0 else s), .int .i64 (if s = -1 then 0 else ((s.toNat / Nat.gcd s.toNat cap : Nat) : Int)), .bool (s != -1)]
def svR (s : Int) : Value := .tuple #[.int .i64 (if s = -1 then 0 else s), .bool (s != -1)]
theorem leastY_eq {H : Nat → Bool} {b lo : Nat} (hb : H b = true) (h1 : H lo = true) (h2 : ∀ j, j < lo → H j = false) : leastY H b = lo := by
 obtain ⟨a1, a2, a3⟩ := leastY_is hb
 rcases Nat.lt_trichotomy lo (leastY H b) with h | h | h
 ·rw [a3 _ h] at h1; cases h1
 ·exact h.symm
 ·rw [h2 _ h] at a2; cases a2
def partV (F : Nat → Int) (t n : Nat) : List Int := fvals F t ++ List.replicate (n - t) 0
def cvV (f : Option Addr) (fc : Nat) (x : Cv × Int) : Value := .tuple #[.agg #[.slice f x.1.vals.length fc, .int .i64 x.1.per, .int .i64 x.1.inc], .int .i64 x.2]
def cuV (f : Option Addr) (fc : Nat) (x : Cv) : Value := .agg #[.slice f x.vals.length fc, .int .i64 x.per, .int .i64 x.inc]
/-- the pattern of `least`, one place of the row -/
def leastC (v : List Int) (inc : Int) (p i : Nat) : Bool := (if i + p < v.length then nth v (i + p) else nth v (i + p - v.length) + inc) == nth v i + inc * p / v.length
end Go.Proofs.YtmidibkljoaoiaaGreatDoor.M

/- The curve of weighted round robin, plain: it repeats itself, so that the program's and the references' forms are one. No condition. -/
namespace Go.Proofs.YtmidibkljoaoiaaGreatDoor.M
open Go Go.Proofs.YtmidibkljoaoiaaGreatDoor.K

theorem made_pre {F : Nat → Int} {S P : Nat} {I : Int} (hP : 0 < P ∧ P ≤ 10000) (hS : S ≤ 10000) (hI : 0 ≤ I ∧ I ≤ 549755813888) (hg : Grows F S P I) (hb : ∀ t, t ≤ S + P + P → 0 ≤ F t ∧ F t ≤ 10000000000000) :
  (∀ x ∈ fvals F (S + P), -2305843009213693952 ≤ x ∧ x ≤ 4611686018427387904) ∧
  perR ⟨fvals F (S + P), P, I⟩ (((fvals F (S + P)).length : Int) - P) P = true ∧
  (∀ t : Int, 0 ≤ t → t ≤ ((fvals F (S + P)).length : Int) + P → 0 ≤ atR (fvals F (S + P)) P I t ∧ atR (fvals F (S + P)) P I t ≤ 1000000000000000) ∧
  infL (fvals F (S + P)) = -1 ∧
  ((∀ x ∈ (normR ⟨fvals F (S + P), P, I⟩).vals, -2305843009213693952 ≤ x ∧ x ≤ 4611686018427387904) ∧ InR (normR ⟨fvals F (S + P), P, I⟩).per ∧ InR (normR ⟨fvals F (S + P), P, I⟩).inc) := by
 have hf : ∀ t, t < S + P → F t ≠ INF := fun t ht => by have := hb t (by omega); unfold INF; omega
 have hv : ∀ n, n ≤ S + P → ∀ x ∈ fvals F n, -2305843009213693952 ≤ x ∧ x ≤ 4611686018427387904 := fun n hn => all_of_nth (fun j hj => by
  rw [fvals_len] at hj
  rw [fvals_nth F hj]
  have := hb j (by omega)
  omega)
 refine ⟨hv _ (Nat.le_refl _), (perR_iff hP.1 hI.1 hg hf P).2 (PerOk.self hP.1 hg), fun t h0 h1 => ?_, infL_fvals _ hf, ?_⟩
 ·obtain ⟨n, rfl⟩ := Int.eq_ofNat_of_zero_le h0
  rw [fvals_len] at h1
  rw [atR_fvals hP.1 hg hf n]
  have := hb n (by omega)
  omega
 ·obtain ⟨p, s, h1, h2, h3, h4⟩ := normR_nf hP.1 hI.1 hg hf
  rw [h4]
  have hp := h1.least.1
  have a1 : 0 ≤ I * (p : Int) := Int.mul_nonneg hI.1 (by omega)
  have a2 : I * (p : Int) ≤ 549755813888 * 10000 := Int.mul_le_mul hI.2 (by omega) (by omega) (by omega)
  have a3 : 0 ≤ I * (p : Int) / (P : Int) := Int.ediv_nonneg a1 (by omega)
  have a4 : I * (p : Int) / (P : Int) ≤ 549755813888 * 10000 := Int.le_trans (Int.ediv_le_self _ a1) a2
  exact ⟨hv _ (by omega), by constructor <;> dsimp only <;> omega, by constructor <;> dsimp only <;> omega⟩

theorem robinH_shift {cap s : Int} {r p m : Nat} (hr : 0 < r) (hm : cap * (p : Int) = (m : Int) * s) (t y : Nat) : robinH cap s r (t + p) (y + m * r) = robinH cap s r t y := by
 unfold robinH
 have e1 : (((y + m * r : Nat) : Int)) / (r : Int) = (y : Int) / (r : Int) + m := by
  rw [Int.natCast_add, Int.natCast_mul]
  exact Int.add_mul_ediv_right _ _ (by omega)
 rw [e1]
 have e2 : (s - (r : Int)) * ((y : Int) / (r : Int) + (m : Int) + 1) = (s - (r : Int)) * ((y : Int) / (r : Int) + 1) + ((m : Int) * s - (m : Int) * (r : Int)) := by
  rw [show (y : Int) / (r : Int) + (m : Int) + 1 = ((y : Int) / (r : Int) + 1) + (m : Int) by omega, Int.mul_add, Int.sub_mul s (r : Int) (m : Int), Int.mul_comm s, Int.mul_comm (r : Int) (m : Int)]
 have e3 : cap * ((t + p : Nat) : Int) = cap * (t : Int) + (m : Int) * s := by rw [Int.natCast_add, Int.mul_add, hm]
 rw [e2, e3, Int.natCast_add, Int.natCast_mul]
 apply decide_eq_decide.2
 generalize (m : Int) * s = a
 generalize (m : Int) * (r : Int) = b
 generalize (s - (r : Int)) * ((y : Int) / (r : Int) + 1) = c
 omega
theorem robinH_low {cap s : Int} {r p m : Nat} (hr : 0 < r) (hs : (r : Int) ≤ s) (hc : 0 ≤ cap) (hm : cap * (p : Int) = (m : Int) * s) {t y : Nat} (hy : y < m * r) : robinH cap s r (t + p) y = false := by
 unfold robinH
 apply decide_eq_false
 have h1 : (y : Int) / (r : Int) + 1 ≤ m := by
  have : y / r < m := Nat.div_lt_of_lt_mul (by rw [Nat.mul_comm]; exact hy)
  have e : (y : Int) / (r : Int) = ((y / r : Nat) : Int) := rfl
  omega
 have h2 : (s - (r : Int)) * ((y : Int) / (r : Int) + 1) ≤ (s - (r : Int)) * (m : Int) := Int.mul_le_mul_of_nonneg_left h1 (by omega)
 have e2 : (s - (r : Int)) * (m : Int) = (m : Int) * s - ((m * r : Nat) : Int) := by rw [Int.sub_mul, Int.mul_comm s, Int.mul_comm (r : Int), Int.natCast_mul]
 have e3 : cap * ((t + p : Nat) : Int) = cap * (t : Int) + (m : Int) * s := by rw [Int.natCast_add, Int.mul_add, hm]
 have h3 : 0 ≤ cap * (t : Int) := Int.mul_nonneg hc (by omega)
 rw [e3]
 rw [e2] at h2
 generalize (m : Int) * s = a at *
 generalize (s - (r : Int)) * ((y : Int) / (r : Int) + 1) = c at *
 omega
theorem robinF_grows {cap s r : Int} {p m : Nat} (hc : 0 ≤ cap) (hr : 0 < r) (hs : r ≤ s) (hm : cap * (p : Int) = (m : Int) * s) : Grows (robinF cap s r) 0 p ((m : Int) * r) := by
 intro t _
 obtain ⟨rn, rfl⟩ := Int.eq_ofNat_of_zero_le (show 0 ≤ r by omega)
 have hrn : 0 < rn := by omega
 obtain ⟨a1, a2, a3⟩ := leastY_is (robinH_bound hr hs t hc)
 unfold robinF
 rw [leastY_eq (robinH_bound hr hs (t + p) hc) (lo := leastY (robinH cap s rn t) (cap * t).toNat + m * rn) (by rw [robinH_shift hrn hm]; exact a2) (fun j hj => ?_)]
 ·rw [Int.natCast_add, Int.natCast_mul]
 ·by_cases h : j < m * rn
  ·exact robinH_low hrn hs hc hm h
  ·obtain ⟨y, rfl⟩ : ∃ y, j = y + m * rn := ⟨j - m * rn, by omega⟩
   rw [robinH_shift hrn hm]
   exact a3 y (by omega)
theorem robinH_less {cap s r : Int} (hc : 0 ≤ cap) {t y : Nat} (h : robinH cap s r (t + 1) y = true) : robinH cap s r t y = true := by
 unfold robinH at h ⊢
 have h0 := of_decide_eq_true h
 have h1 : cap * ((t + 1 : Nat) : Int) = cap * (t : Int) + cap := by rw [Int.natCast_add, Int.mul_add]; simp
 rw [h1] at h0
 exact decide_eq_true (by omega)
theorem robinF_mono {cap s r : Int} (hc : 0 ≤ cap) (hr : 0 < r) (hs : r ≤ s) (t : Nat) : robinF cap s r t ≤ robinF cap s r (t + 1) := by
 obtain ⟨a1, a2, a3⟩ := leastY_is (robinH_bound hr hs t hc)
 obtain ⟨b1, b2, b3⟩ := leastY_is (robinH_bound hr hs (t + 1) hc)
 unfold robinF
 apply Int.ofNat_le.2
 apply Classical.byContradiction
 intro h
 have := a3 _ (Nat.lt_of_not_le h)
 rw [robinH_less hc b2] at this
 cases this
theorem robinF_bound {cap s r : Int} (hc : 0 ≤ cap) (hr : 0 < r) (hs : r ≤ s) (t : Nat) : 0 ≤ robinF cap s r t ∧ robinF cap s r t ≤ cap * t := by
 obtain ⟨a1, a2, a3⟩ := leastY_is (robinH_bound hr hs t hc)
 unfold robinF
 have : 0 ≤ cap * (t : Int) := Int.mul_nonneg hc (by omega)
 omega
/-- all of it, for the walks -/
structure RobOk (cap k : Int) (w : List Int) (z : List Sz) (cn kn m s p mm : Nat) (r : Int) : Prop where
  hcap : cap = cn
  hk : k = kn
  c1 : 1 ≤ cn ∧ cn ≤ 4000
  k1 : kn < z.length
  zl : z.length ≤ 6
  wl : w.length = z.length
  hw : ∀ x ∈ w, 1 ≤ x ∧ x ≤ 20
  hz : ∀ s ∈ z, 0 ≤ s.least ∧ s.least ≤ s.most ∧ s.most ≤ 1500
  hr : r = nth w kn * (nth z kn).least
  r1 : 1 ≤ r ∧ r ≤ 30000
  hm : (m : Int) = r + qSum k w z w.length
  m1 : m ≤ 210000
  hs : shortN m cn = s
  s1 : r ≤ s ∧ s ≤ 120 * cn
  hp : p = s / Nat.gcd s cn
  p1 : 1 ≤ p ∧ p ≤ 120
  hmm : (cn : Int) * p = mm * s
  mm1 : mm ≤ 4000
  hinc : (cn : Int) * p / s * r = mm * r
theorem mulB {a b A B : Int} (h1 : 0 ≤ a ∧ a ≤ A) (h2 : 0 ≤ b ∧ b ≤ B) : 0 ≤ a * b ∧ a * b ≤ A * B :=
 ⟨Int.mul_nonneg h1.1 h2.1, Int.mul_le_mul h1.2 h2.2 h2.1 (by omega)⟩
theorem RobOk.facts {cap k : Int} {w : List Int} {z : List Sz} {cn kn m s p mm : Nat} {r : Int} (h : RobOk cap k w z cn kn m s p mm r) :
  Grows (robinF cap s r) 0 p (cap * p / s * r) ∧ (0 ≤ cap * p / s * r ∧ cap * p / s * r ≤ 120000000) ∧ (∀ t, t ≤ 240 → 0 ≤ robinF cap s r t ∧ robinF cap s r t ≤ 960000) ∧
  mbuild (robinF cap s r) 0 p (cap * p / s * r) = madeR ⟨fvals (robinF cap s r) p, p, cap * p / s * r⟩ := by
 obtain ⟨rfl, rfl, c1, k1, zl, wl, hw, hz, hr, r1, hm, m1, hs, s1, hp, p1, hmm, mm1, hinc⟩ := h
 have hg : Grows (robinF cn s r) 0 p ((cn : Int) * p / s * r) := by rw [hinc]; exact robinF_grows (by omega) (by omega) s1.1 hmm
 have hi : 0 ≤ (cn : Int) * p / s * r ∧ (cn : Int) * p / s * r ≤ 120000000 := by
  rw [hinc]
  have := mulB (a := (mm : Int)) (b := r) (A := 4000) (B := 30000) (by omega) (by omega)
  omega
 have hb : ∀ t : Nat, t ≤ 240 → 0 ≤ robinF cn s r t ∧ robinF cn s r t ≤ 960000 := fun t ht => by
  have h1 := robinF_bound (cap := (cn : Int)) (s := (s : Int)) (r := r) (by omega) (by omega) s1.1 t
  have h2 := mulB (a := (cn : Int)) (b := (t : Int)) (A := 4000) (B := 240) (by omega) (by omega)
  omega
 refine ⟨hg, hi, hb, ?_⟩
 have hf : ∀ t, t < 0 + p → robinF cn s r t < INF := fun t ht => by have := hb t (by omega); unfold INF; omega
 rw [mbuild_fin (fun t ht => by have := hf t ht; omega), build_made (S' := 0) (by omega) hi.1 hg hg (fun t => robinF_mono (by omega) (by omega) s1.1 t) (hb 0 (by omega)).1 hf hf]
 simp only [Nat.zero_add]
end Go.Proofs.YtmidibkljoaoiaaGreatDoor.M

/- Which of two curves grows less, plain. No condition. -/
namespace Go.Proofs.YtmidibkljoaoiaaGreatDoor.M
open Go Go.Proofs.YtmidibkljoaoiaaGreatDoor.K

def lcmN (a b : Nat) : Nat := a / Nat.gcd a b * b
/-! ### the curve of weighted round robin: greater sums leave less -/
end Go.Proofs.YtmidibkljoaoiaaGreatDoor.M

/- Finite curves in the program's own form, delays, what a flow keeps, plain. No condition. -/
namespace Go.Proofs.YtmidibkljoaoiaaGreatDoor.M
open Go Go.Proofs.YtmidibkljoaoiaaGreatDoor.K

/-- a finite valid curve: values of F up to S + P, period P, increment I -/
structure FC (F : Nat → Int) (S P : Nat) (I : Int) : Prop where
  hP : 1 ≤ P ∧ P ≤ 120
  hn : S + P ≤ 400
  hI : 0 ≤ I ∧ I ≤ 1073741824
  hg : Grows F S P I
  hm : ∀ t, F t ≤ F (t + 1)
  h0 : 0 ≤ F 0
  hb : ∀ t, t < S + P → F t ≤ 1073741824
section
variable {F G : Nat → Int} {S P S1 P1 S2 P2 : Nat} {I I1 I2 : Int}
theorem FC.nonneg (h : FC F S P I) (t : Nat) : 0 ≤ F t := by have := mono_le h.hm (Nat.zero_le t); have := h.h0; omega
theorem FC.mono (h : FC F S P I) {a b : Nat} (hab : a ≤ b) : F a ≤ F b := mono_le h.hm hab
theorem FC.bound (h : FC F S P I) (t : Nat) : F t ≤ 1073741824 * ((t : Int) + 2) := by
 have hP := h.hP
 have hI := h.hI
 induction t using Nat.strongRecOn with
 | _ t ih =>
  by_cases ht : t < S + P
  ·have := h.hb t ht; omega
  ·have h1 := ih (t - P) (by omega)
   have h2 := h.hg (t - P) (by omega)
   rw [show t - P + P = t by omega] at h2
   omega
theorem FC.fin (h : FC F S P I) {t : Nat} (ht : t < S + P) : F t ≠ INF := by have := h.hb t ht; unfold INF; omega
theorem FC.atR (h : FC F S P I) (t : Nat) : M.atR (fvals F (S + P)) P I (t : Int) = F t := atR_fvals (by have := h.hP; omega) h.hg (fun t ht => h.fin ht) t
/-- the least tick with so much, and whether there is one -/
def reachF (G : Nat → Int) (S P : Nat) (I v : Int) : Int × Bool :=
  if findFrom (fun t => decide (G t ≥ v)) (S + P) 0 ≠ -1 then (findFrom (fun t => decide (G t ≥ v)) (S + P) 0, true)
  else if I = 0 then (0, false)
  else (findFrom (fun t => decide (G t ≥ v)) (P + 1) (S + P + (((v - G (S + P - 1) + I - 1) / I).toNat - 1) * P), true)
/-- the greatest of the distances -/
def greatW (f : Nat → Int × Bool) : Nat → Nat → Int → Int → Bool × Int × Int
  | 0, _, v, a => (false, v, a)
  | n + 1, t, v, a => if (f t).2 = false then (true, 0, 0) else if (f t).1 > v then greatW f n (t + 1) (f t).1 t else greatW f n (t + 1) v a
end
end Go.Proofs.YtmidibkljoaoiaaGreatDoor.M
namespace Go.Proofs.YtmidibkljoaoiaaGreatDoor.M
open Go Go.Proofs.YtmidibkljoaoiaaGreatDoor.K
end Go.Proofs.YtmidibkljoaoiaaGreatDoor.M

/- Valid curves, finite or not, plain: what they say, their normal forms, and that two ways to make a curve give the same. No condition. -/
namespace Go.Proofs.YtmidibkljoaoiaaGreatDoor.M
open Go Go.Proofs.YtmidibkljoaoiaaGreatDoor.K

/-! ### normal forms do not depend on the period that one began with -/
section
variable {F : Nat → Int} {S P S' P' : Nat} {I I' : Int}
theorem infL_some {n m : Nat} (hn : n < m) (hi : F n = INF) (hf : ∀ t, t < n → F t ≠ INF) : infL (fvals F m) = n := by
 unfold infL
 rw [fvals_len]
 exact findFrom_some (Nat.zero_le _) (by omega) (by rw [fvals_nth F hn, hi]; simp) (fun j _ hj => by rw [fvals_nth F (by omega)]; simp [hf j hj])
theorem normR_inf {n m : Nat} {per inc : Int} (hn : n < m) (hi : F n = INF) (hf : ∀ t, t < n → F t ≠ INF) : normR ⟨fvals F m, per, inc⟩ = ⟨fvals F (n + 1), 1, 0⟩ := by
 unfold normR
 dsimp only
 rw [infL_some hn hi hf, if_neg (by omega), Int.toNat_natCast, fvals_take F (by omega)]
end
/-! ### what valid curves say -/
/-- infinite from n on -/
structure IC (F : Nat → Int) (n : Nat) : Prop where
  hn : n < 400
  hi : ∀ t, n ≤ t → F t = INF
  hb : ∀ t, t < n → 0 ≤ F t ∧ F t ≤ 1073741824
  hm : ∀ t, F t ≤ F (t + 1)
def cvF (c : Cv) (t : Nat) : Int := atR c.vals c.per c.inc (t : Int)
theorem cvF_low {c : Cv} {t : Nat} (ht : t < c.vals.length) : cvF c t = nth c.vals t := by
 unfold cvF atR
 rw [if_neg (by omega), if_pos (by omega), Int.toNat_natCast]
theorem cvF_vals (c : Cv) : c.vals = fvals (cvF c) c.vals.length := fvals_eq (fun i hi => (cvF_low hi).symm)
/-- where the value of a late tick stands -/
def cvJ (n P t : Nat) : Nat := t - ((t - n) / P + 1) * P
theorem cvJ_at {n P t : Nat} (hP : 1 ≤ P ∧ P ≤ n) (ht : n ≤ t) : n - P ≤ cvJ n P t ∧ cvJ n P t < n ∧ cvJ n P t + ((t - n) / P + 1) * P = t := by
 have hd := Nat.mod_add_div (t - n) P
 have hm := Nat.mod_lt (t - n) (show 0 < P by omega)
 have hmul : ((t - n) / P + 1) * P = P * ((t - n) / P) + P := by rw [Nat.add_mul, Nat.mul_comm]; simp
 unfold cvJ
 omega
theorem cvF_high {c : Cv} {P : Nat} (hc : c.per = P) (hP : 1 ≤ P ∧ P ≤ c.vals.length) {t : Nat} (ht : c.vals.length ≤ t) :
  cvF c t = if nth c.vals (cvJ c.vals.length P t) = INF then INF else nth c.vals (cvJ c.vals.length P t) + (((t - c.vals.length) / P + 1 : Nat) : Int) * c.inc := by
 obtain ⟨j1, j2, j3⟩ := cvJ_at hP ht
 unfold cvF atR
 have e1 : ((t : Int) - (c.vals.length : Int)) / c.per + 1 = (((t - c.vals.length) / P + 1 : Nat) : Int) := by
  rw [hc, show (t : Int) - (c.vals.length : Int) = ((t - c.vals.length : Nat) : Int) by omega]
  rfl
 rw [if_neg (by omega), if_neg (by omega), e1, hc]
 have e2 : ((t : Int) - (((t - c.vals.length) / P + 1 : Nat) : Int) * (P : Int)).toNat = cvJ c.vals.length P t := by
  rw [← Int.natCast_mul]
  omega
 rw [e2]
 rfl
section
variable {c : Cv}
theorem valid_each (h : validB c = true) : ∀ i, i < c.vals.length → (nth c.vals i = INF ∨ (0 ≤ nth c.vals i ∧ nth c.vals i ≤ MAXV)) := fun i hi => ((validB_iff.1 h).2.1 i hi).1
theorem valid_mono (h : validB c = true) {i : Nat} : ∀ {j : Nat}, i ≤ j → j < c.vals.length → nth c.vals i ≤ nth c.vals j
  | 0, hij, _ => by obtain rfl : i = 0 := by omega
                    exact Int.le_refl _
  | j + 1, hij, hj => by
    by_cases e : i = j + 1
    · subst e; exact Int.le_refl _
    · have a := valid_mono h (i := i) (j := j) (by omega) (by omega)
      have b := (((validB_iff.1 h).2.1 (j + 1) hj).2).resolve_left (by omega)
      rw [show j + 1 - 1 = j by omega] at b
      omega
/-- a finite valid curve -/
theorem valid_fin (h : validB c = true) (hf : nth c.vals (c.vals.length - 1) ≠ INF) : ∃ S P : Nat, c.per = P ∧ c.vals.length = S + P ∧ FC (cvF c) S P c.inc := by
 obtain ⟨⟨h1, h2, h3, h4, h5, h6, h7⟩, _, h8⟩ := validB_iff.1 h
 rw [if_neg hf] at h8
 obtain ⟨P, hP⟩ := Int.eq_ofNat_of_zero_le (show 0 ≤ c.per by omega)
 have hPn : 1 ≤ P ∧ P ≤ c.vals.length := by omega
 have hlow : ∀ t, t < c.vals.length → 0 ≤ cvF c t ∧ cvF c t ≤ 1073741824 := fun t ht => by
  rw [cvF_low ht]
  have a := valid_mono h (i := t) (j := c.vals.length - 1) (by omega) (by omega)
  have b := valid_each h (c.vals.length - 1) (by omega)
  have d := valid_each h t ht
  unfold INF MAXV at b d
  unfold INF at hf
  omega
 have hfin : ∀ j, j < c.vals.length → nth c.vals j ≠ INF := fun j hj => by
  have := hlow j hj
  rw [cvF_low hj] at this
  unfold INF; omega
 have hg : Grows (cvF c) (c.vals.length - P) P c.inc := fun t ht => by
  obtain ⟨j1, j2, j3⟩ := cvJ_at hPn (show c.vals.length ≤ t + P by omega)
  rw [cvF_high hP hPn (show c.vals.length ≤ t + P by omega), if_neg (hfin _ j2)]
  by_cases hn : t < c.vals.length
  ·have e : (t + P - c.vals.length) / P = 0 := Nat.div_eq_of_lt (by omega)
   rw [e] at j3 ⊢
   have ej : cvJ c.vals.length P (t + P) = t := by omega
   rw [ej, cvF_low hn]; simp
  ·obtain ⟨i1, i2, i3⟩ := cvJ_at hPn (show c.vals.length ≤ t by omega)
   rw [cvF_high hP hPn (show c.vals.length ≤ t by omega), if_neg (hfin _ i2)]
   have e : (t + P - c.vals.length) / P = (t - c.vals.length) / P + 1 := by
    rw [show t + P - c.vals.length = t - c.vals.length + P by omega, Nat.add_div_right _ (by omega)]
   rw [e] at j3 ⊢
   have ej : cvJ c.vals.length P (t + P) = cvJ c.vals.length P t := by
    have : ((t - c.vals.length) / P + 1 + 1) * P = ((t - c.vals.length) / P + 1) * P + P := by rw [Nat.add_mul _ 1 P]; simp
    omega
   rw [ej]
   have e3 : (((t - c.vals.length) / P + 1 + 1 : Nat) : Int) * c.inc = (((t - c.vals.length) / P + 1 : Nat) : Int) * c.inc + c.inc := by
    rw [Int.natCast_add _ 1, Int.add_mul]; simp
   rw [e3]; omega
 have hstep : ∀ t, t + 1 ≤ c.vals.length → cvF c t ≤ cvF c (t + 1) := fun t ht => by
  by_cases e : t + 1 < c.vals.length
  ·rw [cvF_low e, cvF_low (show t < c.vals.length by omega)]
   exact valid_mono h (by omega) e
  ·have g := hg (c.vals.length - P) (Nat.le_refl _)
   rw [show c.vals.length - P + P = t + 1 by omega, cvF_low (show c.vals.length - P < c.vals.length by omega)] at g
   rw [g, cvF_low (show t < c.vals.length by omega)]
   rw [hP, Int.toNat_natCast, show c.vals.length - 1 = t by omega] at h8
   exact h8
 refine ⟨c.vals.length - P, P, hP, by omega, by omega, by omega, by unfold MAXV at h7; omega, hg, ?_, (hlow 0 (by omega)).1, fun t ht => (hlow t (by omega)).2⟩
 intro t
 induction t using Nat.strongRecOn with
 | _ t ih =>
  by_cases ht : t + 1 ≤ c.vals.length
  ·exact hstep t ht
  ·have a := ih (t - P) (by omega)
   have g1 := hg (t - P) (by omega)
   have g2 := hg (t - P + 1) (by omega)
   rw [show t - P + P = t by omega] at g1
   rw [show t - P + 1 + P = t + 1 by omega] at g2
   omega
theorem valid_ic (h : validB c = true) (hf : nth c.vals (c.vals.length - 1) = INF) : c.per = 1 ∧ c.inc = 0 ∧ ∃ n : Nat, n < c.vals.length ∧ infL c.vals = n ∧ IC (cvF c) n := by
 obtain ⟨⟨h1, h2, h3, h4, h5, h6, h7⟩, _, h8⟩ := validB_iff.1 h
 rw [if_pos hf] at h8
 refine ⟨h8.1, h8.2, ?_⟩
 unfold infL
 rcases findFrom_cases (fun i => nth c.vals i == INF) c.vals.length 0 with ⟨n, n1, n2, n3, n4, n5⟩ | ⟨_, n2⟩
 ·rw [n3]
  have hnI : nth c.vals n = INF := by simpa using n4
  have hlow : ∀ t, t < n → 0 ≤ nth c.vals t ∧ nth c.vals t ≤ 1073741824 := fun t ht => by
   have a := valid_each h t (by omega)
   have b := n5 t (by omega) ht
   unfold MAXV at a
   rcases a with a | a
   ·rw [a] at b; simp at b
   ·exact a
  have hhi : ∀ t, n ≤ t → cvF c t = INF := fun t ht => by
   by_cases e : t < c.vals.length
   ·rw [cvF_low e]
    have a := valid_mono h ht e
    have b := valid_each h t e
    rw [hnI] at a
    unfold MAXV INF at b
    unfold INF at a ⊢
    omega
   ·obtain ⟨j1, j2, j3⟩ := cvJ_at (n := c.vals.length) (P := 1) (t := t) (by omega) (by omega)
    have ej : cvJ c.vals.length 1 t = c.vals.length - 1 := by omega
    rw [cvF_high (P := 1) (by rw [h8.1]; rfl) (by omega) (by omega), ej, if_pos hf]
  refine ⟨n, by omega, rfl, by omega, hhi, fun t ht => by rw [cvF_low (by omega)]; exact hlow t ht, fun t => ?_⟩
  by_cases ht : t + 1 < n
  ·rw [cvF_low (show t + 1 < c.vals.length by omega), cvF_low (show t < c.vals.length by omega)]
   exact valid_mono h (by omega) (by omega)
  ·rw [hhi (t + 1) (by omega)]
   by_cases e : t < n
   ·rw [cvF_low (by omega)]
    have := hlow t e
    unfold INF; omega
   ·rw [hhi t (by omega)]; exact Int.le_refl _
 ·have := n2 (c.vals.length - 1) (by omega) (by omega)
  rw [hf] at this; simp at this
/-- of a finite curve, of any valid one -/
def finB (c : Cv) : Bool := nth c.vals (c.vals.length - 1) != INF
theorem cv_eq {S P : Nat} (hP : c.per = P) (hn : c.vals.length = S + P) : c = ⟨fvals (cvF c) (S + P), P, c.inc⟩ := by
 have := cvF_vals c
 rw [hn] at this
 cases c
 simp only at *
 subst hP
 rw [← this]
theorem cv_eqI {n : Nat} (hP : c.per = 1) (hI : c.inc = 0) (hn : n < c.vals.length) : c = ⟨fvals (cvF c) c.vals.length, 1, 0⟩ := by
 have := cvF_vals c
 cases c
 simp only at *
 subst hP; subst hI
 rw [← this]
end
theorem IC.fin {F : Nat → Int} {n t : Nat} (h : IC F n) (ht : t < n) : F t ≠ INF := by have := h.hb t ht; unfold INF; omega
theorem IC.valid {F : Nat → Int} {n m : Nat} (h : IC F n) (hm : n < m) (hm' : m ≤ 400) : validB ⟨fvals F m, 1, 0⟩ = true := by
 rw [validB_iff]
 dsimp only
 rw [fvals_len, fvals_nth F (show m - 1 < m by omega), if_pos (h.hi _ (by omega))]
 refine ⟨⟨by omega, hm', by decide, by decide, by omega, by decide, by unfold MAXV; omega⟩, fun i hi => ?_, rfl, rfl⟩
 rw [fvals_nth F hi]
 refine ⟨?_, ?_⟩
 ·by_cases e : i < n
  ·have := h.hb i e
   right; unfold MAXV; exact this
  ·exact .inl (h.hi i (by omega))
 ·by_cases e : i = 0
  ·exact .inl e
  ·right
   rw [fvals_nth F (by omega)]
   have := h.hm (i - 1)
   rwa [show i - 1 + 1 = i by omega] at this
/-- the normal form of a finite curve -/
theorem FC.norm {F : Nat → Int} {S P : Nat} {I : Int} (h : FC F S P I) : ∃ (s p : Nat) (q : Int), normR ⟨fvals F (S + P), P, I⟩ = ⟨fvals F (s + p), p, q⟩ ∧ FC F s p q ∧ s ≤ S ∧ p ≤ P ∧ NF F S P I p s ∧ q = I * p / P := by
 have hP := h.hP
 have hI := h.hI
 obtain ⟨p, s, h1, h2, h3, h4⟩ := normR_nf (by omega) hI.1 h.hg (fun t ht => h.fin ht)
 have hp := h1.least.1
 have hq0 : 0 ≤ I * (p : Int) / P := Int.ediv_nonneg (Int.mul_nonneg hI.1 (by omega)) (by omega)
 have hq : I * (p : Int) / P ≤ I := by
  have h3 : I * (p : Int) ≤ I * (P : Int) := Int.mul_le_mul_of_nonneg_left (by omega) hI.1
  have h4 : I * (p : Int) / P ≤ I * (P : Int) / P := Int.ediv_le_ediv (by omega) h3
  rw [Int.mul_ediv_cancel _ (by omega)] at h4
  exact h4
 have hn := h.hn
 exact ⟨s, p, I * p / P, h4, ⟨by omega, by omega, ⟨hq0, by omega⟩, h1.starts.1, h.hm, h.h0, fun t ht => h.hb t (by omega)⟩, h3, h2, h1, rfl⟩
theorem IC.norm {F : Nat → Int} {n m : Nat} (h : IC F n) (hm : n < m) : normR ⟨fvals F m, 1, 0⟩ = ⟨fvals F (n + 1), 1, 0⟩ :=
 normR_inf hm (h.hi n (Nat.le_refl _)) (fun t ht => h.fin ht)
/-- what is known of a valid curve: finite or not -/
theorem valid_cases {c : Cv} (h : validB c = true) : (∃ S P : Nat, c = ⟨fvals (cvF c) (S + P), P, c.inc⟩ ∧ c.vals.length = S + P ∧ c.per = P ∧ FC (cvF c) S P c.inc ∧ finB c = true) ∨ (∃ n : Nat, c = ⟨fvals (cvF c) c.vals.length, 1, 0⟩ ∧ n < c.vals.length ∧ c.per = 1 ∧ c.inc = 0 ∧ infL c.vals = n ∧ IC (cvF c) n ∧ finB c = false) := by
 by_cases hf : nth c.vals (c.vals.length - 1) = INF
 ·obtain ⟨h1, h2, n, h3, h4, h5⟩ := valid_ic h hf
  exact .inr ⟨n, cv_eqI h1 h2 h3, h3, h1, h2, h4, h5, by unfold finB; rw [hf]; simp⟩
 ·obtain ⟨S, P, h1, h2, h3⟩ := valid_fin h hf
  exact .inl ⟨S, P, cv_eq h1 h2, h2, h1, h3, by unfold finB; simp [hf]⟩
end Go.Proofs.YtmidibkljoaoiaaGreatDoor.M

/- What the references' normal form wants of long lists, plain; curves less a number. No condition. -/
namespace Go.Proofs.YtmidibkljoaoiaaGreatDoor.M
open Go Go.Proofs.YtmidibkljoaoiaaGreatDoor.K

/-- what Made wants -/
structure MadeOk (v : List Int) (per inc : Int) : Prop where
  vals : ∀ x ∈ v, -2305843009213693952 ≤ x ∧ x ≤ 4611686018427387904
  hper : 1 ≤ per ∧ per ≤ 10000 ∧ per ≤ v.length
  hinc : 0 ≤ inc ∧ inc ≤ 549755813888
  self : infL v = -1 → perR ⟨v, per, inc⟩ ((v.length : Int) - per) per = true
  at_ : ∀ t : Int, 0 ≤ t → t ≤ (v.length : Int) + per → infL v = -1 → 0 ≤ atR v per inc t ∧ atR v per inc t ≤ 1000000000000000
  nb : (∀ x ∈ (normR ⟨v, per, inc⟩).vals, -2305843009213693952 ≤ x ∧ x ≤ 4611686018427387904) ∧ InR (normR ⟨v, per, inc⟩).per ∧ InR (normR ⟨v, per, inc⟩).inc
theorem madeOk_fin {F : Nat → Int} {S P : Nat} {I : Int} (hP : 0 < P ∧ P ≤ 10000) (hS : S ≤ 10000) (hI : 0 ≤ I ∧ I ≤ 549755813888) (hg : Grows F S P I) (hb : ∀ t, t ≤ S + P + P → 0 ≤ F t ∧ F t ≤ 10000000000000) : MadeOk (fvals F (S + P)) P I := by
 obtain ⟨h1, h2, h3, h4, h5⟩ := made_pre hP hS hI hg hb
 exact ⟨h1, by rw [fvals_len]; omega, hI, fun _ => h2, fun t a b _ => h3 t a b, h5⟩
theorem madeOk_inf {F : Nat → Int} {n m : Nat} {per inc : Int} (hn : n < m) (hm : m ≤ 100000) (hper : 1 ≤ per ∧ per ≤ 10000 ∧ per ≤ m) (hinc : 0 ≤ inc ∧ inc ≤ 549755813888) (hi : F n = INF) (hb : ∀ t, t < n → 0 ≤ F t ∧ F t < INF) (hb' : ∀ t, t < m → 0 ≤ F t ∧ F t ≤ INF) : MadeOk (fvals F m) per inc := by
 have hne : ∀ t, t < n → F t ≠ INF := fun t ht => by have := hb t ht; omega
 have hl := infL_some hn hi hne
 have hv : ∀ k, k ≤ m → ∀ x ∈ fvals F k, -2305843009213693952 ≤ x ∧ x ≤ 4611686018427387904 := fun k hk => all_of_nth (fun j hj => by
  rw [fvals_len] at hj
  rw [fvals_nth F hj]
  have := hb' j (by omega)
  unfold INF at this
  omega)
 refine ⟨hv m (Nat.le_refl _), by rw [fvals_len]; exact hper, hinc, fun h => by rw [hl] at h; omega, fun t _ _ h => by rw [hl] at h; omega, ?_⟩
 rw [normR_inf hn hi hne]
 exact ⟨hv _ (by omega), by constructor <;> dsimp only <;> decide, by constructor <;> dsimp only <;> decide⟩
theorem cvF_bound {c : Cv} (h : validB c = true) (t : Nat) : 0 ≤ cvF c t ∧ (cvF c t = INF ∨ cvF c t ≤ 1073741824 * ((t : Int) + 2)) := by
 rcases valid_cases h with ⟨S, P, _, _, _, hfc, _⟩ | ⟨n, _, _, _, _, _, hic, _⟩
 ·exact ⟨hfc.nonneg t, .inr (hfc.bound t)⟩
 ·by_cases ht : t < n
  ·have := hic.hb t ht
   exact ⟨this.1, .inr (by omega)⟩
  ·have := hic.hi t (by omega)
   exact ⟨by rw [this]; unfold INF; omega, .inl this⟩
theorem valid_range {c : Cv} (h : validB c = true) : (∀ x ∈ c.vals, -2305843009213693952 ≤ x ∧ x ≤ 4611686018427387904) ∧ 1 ≤ c.vals.length ∧ c.vals.length ≤ 400 ∧ 1 ≤ c.per ∧ c.per ≤ 120 ∧ c.per ≤ c.vals.length ∧ 0 ≤ c.inc ∧ c.inc ≤ 1073741824 := by
 obtain ⟨⟨h1, h2, h3, h4, h5, h6, h7⟩, _, _⟩ := validB_iff.1 h
 refine ⟨all_of_nth (fun j hj => ?_), h1, h2, h3, h4, h5, h6, by unfold MAXV at h7; omega⟩
 have := valid_each h j hj
 unfold INF MAXV at this
 omega
/-- a valid curve may be made normal -/
theorem valid_madeOk {c : Cv} (h : validB c = true) : MadeOk c.vals c.per c.inc := by
 rcases valid_cases h with ⟨S, P, e, hl, hp, hfc, _⟩ | ⟨n, e, hl, hp, hI, _, hic, _⟩
 ·have hP := hfc.hP
  have hn := hfc.hn
  have hI := hfc.hI
  have := madeOk_fin (F := cvF c) (S := S) (P := P) (I := c.inc) (by omega) (by omega) (by omega) hfc.hg (fun t ht => by have := hfc.bound t; have := hfc.nonneg t; omega)
  rw [cvF_vals c, hl, hp]; exact this
 ·have hr := valid_range h
  have := madeOk_inf (F := cvF c) (per := 1) (inc := 0) hl (by omega) ⟨by decide, by decide, by omega⟩ (by decide) (hic.hi n (Nat.le_refl _)) (fun t ht => by have := hic.hb t ht; unfold INF; omega) (fun t ht => by
   have := cvF_bound h t
   unfold INF at this ⊢
   omega)
  rw [cvF_vals c, hp, hI]; exact this
/-! ### a curve less a number -/
/-- infinite there -/
def isInf (c : Cv) (t : Nat) : Prop := finB c = false ∧ cvF c t = INF
instance (c : Cv) (t : Nat) : Decidable (isInf c t) := by unfold isInf; infer_instance
def lowF (c : Cv) (k : Int) (t : Nat) : Int := if isInf c t then INF else max 0 (cvF c t - k)
def lowerR (c : Cv) (k : Int) : Cv × Int :=
  if finB (normR c) = true ∧ 0 < (normR c).inc ∧ cvF (normR c) 400 < k then (zcv, 3)
  else madeR ⟨fvals (lowF (normR c) k) (400 + (normR c).per.toNat), (normR c).per, (normR c).inc⟩
end Go.Proofs.YtmidibkljoaoiaaGreatDoor.M

/- Sums of curves, curves raised, what is left of a line, plain: the program and the reference make the same. No condition. -/
namespace Go.Proofs.YtmidibkljoaoiaaGreatDoor.M
open Go Go.Proofs.YtmidibkljoaoiaaGreatDoor.K

/-! ### functions that repeat, or are infinite from some tick on -/
structure RepF (F : Nat → Int) (S P : Nat) (I : Int) : Prop where
  hP : 0 < P
  hI : 0 ≤ I
  hg : Grows F S P I
  hm : ∀ t, F t ≤ F (t + 1)
  h0 : 0 ≤ F 0
  hf : ∀ t, t < S + P → F t < INF
structure RepI (F : Nat → Int) (n m : Nat) : Prop where
  hn : n < m
  hi : ∀ t, n ≤ t → F t = INF
  hf : ∀ t, t < n → 0 ≤ F t ∧ F t < INF
  hm : ∀ t, F t ≤ F (t + 1)
/-- a curve in normal form -/
structure Nrm (c : Cv) : Prop where
  valid : validB c = true
  norm : normR c = c
def stN (c : Cv) : Nat := c.vals.length - c.per.toNat
/-- a curve, if it is one, in normal form -/
def normC (c : Cv) : Cv × Int := if validB c = true then (normR c, 0) else (zcv, 1)
/-! ### sums -/
def lcmC (a b : Cv) : Nat := lcmN a.per.toNat b.per.toNat
def gainC (c : Cv) (L : Nat) : Int := (L : Int) / c.per * c.inc
def plusF (a b : Cv) (t : Nat) : Int := if isInf a t ∨ isInf b t then INF else cvF a t + cvF b t
section
variable {a b : Cv}
end
def sumC (f g : Cv) : Cv × Int :=
  if validB f = false ∨ validB g = false then (zcv, 1)
  else if 120 < lcmC (normR f) (normR g) then (zcv, 3)
  else mbuild (plusF (normR f) (normR g)) (max (stN (normR f)) (stN (normR g))) (lcmC (normR f) (normR g)) (gainC (normR f) (lcmC (normR f) (normR g)) + gainC (normR g) (lcmC (normR f) (normR g)))
/-! ### raised -/
def raiseF (a : Cv) (k : Int) (t : Nat) : Int := if t = 0 then 0 else if isInf a t then INF else cvF a t + k
def raiseC (f : Cv) (k : Int) : Cv × Int :=
  if validB f = false then (zcv, 1) else if k < 0 ∨ MAXV < k then (zcv, 2)
  else mbuild (raiseF (normR f) k) (max 1 (stN (normR f))) (normR f).per.toNat (normR f).inc
/-! ### totals -/
def zeroC : Cv := ⟨[0], 1, 0⟩
def totalGo (s : Cv) : List Cv → Cv × Int
  | [] => (s, 0)
  | f :: l => if (sumC s f).2 ≠ 0 then (zcv, (sumC s f).2) else totalGo (sumC s f).1 l
def totalC (l : List Cv) : Cv × Int := totalGo zeroC l
/-- a flat one -/
def flatF (k : Int) (t : Nat) : Int := if t = 0 then 0 else k
def flatC (k : Int) : Cv × Int := mbuild (flatF k) 1 1 0
/-- curves in memory -/
structure CvS where
  a : Option Addr
  cap : Nat
  cv : Cv
instance instCvS : Inhabited CvS := ⟨⟨none, 0, zcv⟩⟩
def encC (s : CvS) : List Value := [.slice s.a s.cv.vals.length s.cap, .int .i64 s.cv.per, .int .i64 s.cv.inc]
/-- the last value that was looked at -/
def lastV (v : List Int) (t : Nat) : Int := if t = 0 then 0 else nth v (t - 1)
theorem lastV_succ (v : List Int) (t : Nat) : lastV v (t + 1) = nth v t := by unfold lastV; rw [if_neg (by omega)]; rfl
end Go.Proofs.YtmidibkljoaoiaaGreatDoor.M

/- The text of a curve, read word for word. Plain. No condition. -/
namespace Go.Proofs.YtmidibkljoaoiaaGreatDoor.M
open Go Go.Proofs.YtmidibkljoaoiaaGreatDoor.K
/-- words with one space between -/
def spl : List UInt8 → List (List UInt8)
  | [] => [[]]
  | c :: s => if c = 32 then [] :: spl s else match spl s with
    | w :: ws => (c :: w) :: ws
    | [] => [[c]]
def wInf : List UInt8 := [105, 110, 102]
def wPer : List UInt8 := [112, 101, 114]
def wInc : List UInt8 := [105, 110, 99]
def digs (w : List UInt8) : Bool := decide (w ≠ [] ∧ ¬ (1 < w.length ∧ byteAt w 0 = 48) ∧ ∀ i, i < w.length → 48 ≤ byteAt w i ∧ byteAt w i ≤ 57)
def numV (w : List UInt8) : Nat := w.foldl (fun n c => 10 * n + (c.toNat - 48)) 0
/-- where: 0 behind no value, 1 behind a value, 2 behind per, 3 behind the period, 4 behind inc, 5 behind the increment; what is read, where it ended, and why -/
def parseGo (size : Nat) : Nat → List Int → Int → Int → Nat → List (List UInt8) → Cv × Nat × Int
  | wh, vals, per, inc, _, [] => if wh = 5 then (⟨vals, per, inc⟩, 0, 0) else (zcv, size, 4)
  | wh, vals, per, inc, at', w :: ws =>
    if wh ≤ 1 ∧ w = wInf then parseGo size 1 (vals ++ [INF]) per inc (at' + w.length + 1) ws
    else if wh = 1 ∧ w = wPer then parseGo size 2 vals per inc (at' + w.length + 1) ws
    else if wh = 3 ∧ w = wInc then parseGo size 4 vals per inc (at' + w.length + 1) ws
    else if digs w = true ∧ wh ≠ 3 ∧ wh ≠ 5 then
      if 1073741824 < numV w then (zcv, at', 2)
      else if wh = 2 then parseGo size 3 vals (numV w) inc (at' + w.length + 1) ws
      else if wh = 4 then parseGo size 5 vals per (numV w) (at' + w.length + 1) ws
      else parseGo size 1 (vals ++ [(numV w : Int)]) per inc (at' + w.length + 1) ws
    else (zcv, at', 4)
/-- why a word that must be there fails -/
def wordE (ws : List (List UInt8)) (want : List UInt8) (k at' size : Nat) : Nat × Int := if k < ws.length then (if nth ws k = want then (0, 0) else (at', 4)) else (size, 4)
def numE (ws : List (List UInt8)) (k at' size : Nat) : Nat × Int := if k < ws.length then (if digs (nth ws k) = true then (if 1073741824 < numV (nth ws k) then (at', 2) else (0, 0)) else (at', 4)) else (size, 4)
def parseR (s : List UInt8) : Cv × Nat × Int :=
  if 4000 < s.length then (zcv, 0, 3)
  else if (parseGo s.length 0 [] 0 0 0 (spl s)).2.2 ≠ 0 then parseGo s.length 0 [] 0 0 0 (spl s)
  else if validB (parseGo s.length 0 [] 0 0 0 (spl s)).1 = true then parseGo s.length 0 [] 0 0 0 (spl s) else (zcv, 0, 1)
end Go.Proofs.YtmidibkljoaoiaaGreatDoor.M

/- Numbers as texts: what is written is read back. No condition. -/
namespace Go.Proofs.YtmidibkljoaoiaaGreatDoor.M
open Go Go.Proofs.YtmidibkljoaoiaaGreatDoor.K

theorem str_list (l : List UInt8) : (str l).data.toList = l := by simp [str]
theorem dec_ne (u : Nat) : Lib.decDigits u ≠ [] := by
 rw [Lib.decDigits]; split <;> simp
/-- a digit's byte lies in 48 .. 57 -/
theorem dec_mem (u : Nat) : ∀ x ∈ Lib.decDigits u, 48 ≤ x.toNat ∧ x.toNat ≤ 57 := by
 induction u using Nat.strongRecOn with
 | _ u ih =>
  intro x hx
  rw [Lib.decDigits] at hx
  have key : ∀ d, d < 10 → (UInt8.ofNat (48 + d)).toNat = 48 + d := fun d hd => by rw [UInt8.toNat_ofNat']; omega
  split at hx
  ·rename_i h
   simp only [List.mem_cons, List.not_mem_nil, or_false] at hx
   rw [hx, key u h]; omega
  ·rename_i h
   simp only [List.mem_append, List.mem_cons, List.not_mem_nil, or_false] at hx
   rcases hx with hx | hx
   ·exact ih _ (by omega) x hx
   ·rw [hx, key _ (by omega)]; omega
theorem decDigits_len {k : Nat} : ∀ {u : Nat}, u < 10 ^ (k + 1) → (Lib.decDigits u).length ≤ k + 1 := by
 induction k with
 | zero =>
  intro u h
  rw [Lib.decDigits, dif_pos (by omega)]; simp
 | succ k ih =>
  intro u h
  rw [Lib.decDigits]
  split
  ·simp
  ·have := ih (u := u / 10) (by rw [Nat.pow_succ] at h; omega)
   simp only [List.length_append, List.length_cons, List.length_nil]; omega
theorem itoa_len {n : Int} (hn : -1073741824 ≤ n ∧ n ≤ 1073741824) : (Lib.itoa n).length ≤ 11 := by
 unfold Lib.itoa
 split
 ·have := decDigits_len (k := 9) (u := n.natAbs) (by omega); simp only [List.length_cons]; omega
 ·have := decDigits_len (k := 9) (u := n.toNat) (by omega); omega
def cutS (s : List UInt8) : List UInt8 × List UInt8 × Bool := Lib.cut s [47]
def atBad (s : List UInt8) : Bool := match Lib.atoiAll s with | .ok _ => false | _ => true
def atNum (s : List UInt8) : Int := match Lib.atoiAll s with | .ok v => v | _ => 0
theorem atBad_ok {s : List UInt8} {v : Int} (h : Lib.atoiAll s = .ok v) : atBad s = false ∧ atNum s = v := by
 unfold atBad atNum; rw [h]; exact ⟨rfl, rfl⟩
def errV (b : Bool) (t : TypeId) (p : Value) : Value := match b with | true => .iface t p | false => .nilIface
theorem errV_cases (b : Bool) (t : TypeId) (p : Value) : (errV b t p = .nilIface ∧ b = false) ∨ ((∃ u z, errV b t p = .iface u z) ∧ b = true) := by
 cases b
 ·exact .inl ⟨rfl, rfl⟩
 ·exact .inr ⟨⟨t, p, rfl⟩, rfl⟩
end Go.Proofs.YtmidibkljoaoiaaGreatDoor.M

/- The numbers of the notation: what strconv.Atoi says of digits. Plain. No condition. -/
namespace Go.Proofs.YtmidibkljoaoiaaGreatDoor.M
open Go Go.Proofs.YtmidibkljoaoiaaGreatDoor.K
def numF (n : Nat) (c : UInt8) : Nat := 10 * n + (c.toNat - 48)
theorem numV_eq (w : List UInt8) : numV w = w.foldl numF 0 := rfl
theorem num_ge : ∀ (w : List UInt8) (n : Nat), n ≤ w.foldl numF n
 | [], _ => Nat.le_refl _
 | c :: w, n => by
  rw [List.foldl_cons]
  have := num_ge w (numF n c)
  unfold numF at this ⊢
  omega
theorem parse_num : ∀ (w : List UInt8) (n : Nat), (∀ c ∈ w, 48 ≤ c.toNat ∧ c.toNat ≤ 57) → Lib.parseUint10 n w = .ok (w.foldl numF n) ∨ (Lib.parseUint10 n w = .range ∧ 1844674407370955162 ≤ w.foldl numF n)
 | [], n, _ => .inl rfl
 | c :: w, n, h => by
  have hc := h c (by simp)
  rw [List.foldl_cons]
  have hg := num_ge w (numF n c)
  unfold Lib.parseUint10
  rw [if_pos hc]
  by_cases h1 : 1844674407370955162 ≤ n
  ·rw [if_pos h1]; exact .inr ⟨rfl, by unfold numF at hg ⊢; omega⟩
  ·rw [if_neg h1]
   by_cases h2 : 18446744073709551616 ≤ n * 10 + (c.toNat - 48)
   ·rw [if_pos h2]; exact .inr ⟨rfl, by unfold numF at hg ⊢; omega⟩
   ·rw [if_neg h2, show n * 10 + (c.toNat - 48) = numF n c by unfold numF; omega]
    exact parse_num w (numF n c) (fun x hx => h x (by simp [hx]))
theorem digs_mem {w : List UInt8} (h : digs w = true) : w ≠ [] ∧ ∀ c ∈ w, 48 ≤ c.toNat ∧ c.toNat ≤ 57 := by
 obtain ⟨h1, _, h3⟩ := of_decide_eq_true h
 refine ⟨h1, fun c hc => ?_⟩
 obtain ⟨i, hi, rfl⟩ := List.getElem_of_mem hc
 have := h3 i hi
 unfold byteAt at this
 rw [show w.getD i 0 = w[i] by unfold List.getD; rw [List.getElem?_eq_getElem hi]; rfl] at this
 omega
theorem digs_num {w : List UInt8} (h : digs w = true) : (atBad w = false → atNum w = numV w) ∧ (atBad w = true → 1073741824 < numV w) := by
 obtain ⟨h1, h2⟩ := digs_mem h
 cases w with
 | nil => exact absurd rfl h1
 | cons c r =>
  have hc := h2 c (by simp)
  have hmag : Lib.parseMag (c :: r) = Lib.parseUint10 0 (c :: r) := by unfold Lib.parseMag; rw [if_neg h1]
  have e : Lib.atoiAll (c :: r) = match Lib.parseUint10 0 (c :: r) with
    | .syntax => .syntax
    | .range => .range
    | .ok u => if 9223372036854775808 ≤ u then .range else .ok (u : Int) := by
   unfold Lib.atoiAll
   dsimp only
   rw [if_neg (show ¬ (c.toNat = 43 ∨ c.toNat = 45) by omega), hmag]
   cases Lib.parseUint10 0 (c :: r) with
   | ok u => dsimp only; simp only [show ¬ c.toNat = 45 by omega, not_false_eq_true, true_and, false_and, if_false]
   | _ => rfl
  rw [numV_eq]
  rcases parse_num (c :: r) 0 h2 with q | ⟨q, hq⟩
  ·rw [q] at e
   dsimp only at e
   generalize (c :: r).foldl numF 0 = u at e ⊢
   unfold atBad atNum
   rw [e]
   by_cases hu : 9223372036854775808 ≤ u
   ·rw [if_pos hu]; exact ⟨fun h => (by cases h), fun _ => by omega⟩
   ·rw [if_neg hu]; exact ⟨fun _ => rfl, fun h => (by cases h)⟩
  ·rw [q] at e
   unfold atBad atNum
   rw [e]
   exact ⟨fun h => (by cases h), fun _ => by omega⟩
end Go.Proofs.YtmidibkljoaoiaaGreatDoor.M

/- The text of a curve: where reading fails; what was written is read back; what is read was written so. Plain. No condition. -/
namespace Go.Proofs.YtmidibkljoaoiaaGreatDoor.M
open Go Go.Proofs.YtmidibkljoaoiaaGreatDoor.K
theorem spl_ne : ∀ s : List UInt8, spl s ≠ []
 | [] => by simp [spl]
 | c :: s => by
  unfold spl
  split
  ·simp
  ·have := spl_ne s
   split
   ·simp
   ·simp
/-- the first word and the rest -/
theorem spl_word : ∀ (w s : List UInt8), (∀ c ∈ w, c ≠ 32) → spl (w ++ 32 :: s) = w :: spl s ∧ spl w = [w]
 | [], s, _ => by simp [spl]
 | c :: w, s, h => by
  obtain ⟨h1, h2⟩ := spl_word w s (fun x hx => h x (by simp [hx]))
  have hc := h c (by simp)
  refine ⟨?_, ?_⟩
  ·rw [List.cons_append, spl, if_neg hc, h1]
  ·rw [spl, if_neg hc, h2]
/-- where the words that are left begin -/
def Left (s : List UInt8) (at' : Nat) (ws : List (List UInt8)) : Prop := ws = [] ∨ (ws = spl (s.drop at') ∧ at' ≤ s.length ∧ (at' = 0 ∨ s[at' - 1]? = some 32))
def PosOk (s : List UInt8) (q : Cv × Nat × Int) : Prop := q.2.1 ≤ s.length ∧ (q.2.2 ≠ 4 → q.2.2 ≠ 2 → q.2.1 = 0) ∧ (q.2.2 = 4 → 0 < q.2.1 → q.2.1 < s.length → s[q.2.1 - 1]? = some 32)
/-! ### word for word over the bytes -/
theorem byte_get {s : List UInt8} {j : Nat} (h : j < s.length) : byteAt s j = (s[j].toNat : Int) := by unfold byteAt List.getD; rw [List.getElem?_eq_getElem h]; rfl
theorem byte_32 {c : UInt8} (h : (c.toNat : Int) = 32) : c = 32 := UInt8.toNat_inj.1 (by have : (32 : UInt8).toNat = 32 := rfl; omega)
theorem word_at {s : List UInt8} {a i : Nat} (h : a ≤ i) (hi : i ≤ s.length) (hn : ∀ j, a ≤ j → j < i → byteAt s j ≠ 32) (he : i = s.length ∨ byteAt s i = 32) :
  spl (s.drop a) = (s.take i).drop a :: (if i = s.length then [] else spl (s.drop (i + 1))) := by
 have e : s.drop a = (s.take i).drop a ++ s.drop i := by
  have := congrArg (List.drop a) (List.take_append_drop i s).symm
  rw [List.drop_append_of_le_length (by rw [List.length_take]; omega)] at this
  exact this
 have hw : ∀ c ∈ (s.take i).drop a, c ≠ 32 := by
  intro c hc e
  obtain ⟨k, hk, rfl⟩ := List.getElem_of_mem hc
  have hk' := hk
  rw [List.length_drop, List.length_take] at hk'
  rw [List.getElem_drop, List.getElem_take] at e
  have h2 := hn (a + k) (by omega) (by omega)
  rw [byte_get (by omega), e] at h2
  exact h2 rfl
 rw [e]
 by_cases hl : i = s.length
 ·rw [if_pos hl, hl, List.drop_length, List.append_nil]
  rw [hl] at hw
  exact (spl_word _ [] hw).2
 ·rw [if_neg hl]
  have hb := he.resolve_left hl
  rw [byte_get (by omega)] at hb
  rw [List.drop_eq_getElem_cons (by omega : i < s.length), byte_32 hb]
  exact (spl_word _ _ hw).1
/-- the scan of the bytes: what is left to be read -/
def Scan (s : List UInt8) (wh : Nat) (vals : List Int) (per inc : Int) (a i : Nat) : Prop :=
  (i ≤ s.length ∧ a ≤ i ∧ (∀ j, a ≤ j → j < i → byteAt s j ≠ 32) ∧ parseGo s.length 0 [] 0 0 0 (spl s) = parseGo s.length wh vals per inc a (spl (s.drop a))) ∨
  (i = s.length + 1 ∧ a = i ∧ parseGo s.length 0 [] 0 0 0 (spl s) = parseGo s.length wh vals per inc a [])
theorem Scan.le {s : List UInt8} {wh : Nat} {vals : List Int} {per inc : Int} {a i : Nat} (h : Scan s wh vals per inc a i) : i ≤ s.length + 1 ∧ a ≤ i := by
 rcases h with h | h <;> omega
theorem Scan.start (s : List UInt8) : Scan s 0 [] 0 0 0 0 := .inl ⟨Nat.zero_le _, Nat.le_refl _, fun j _ h => absurd h (Nat.not_lt_zero j), rfl⟩
theorem Scan.skip {s : List UInt8} {wh : Nat} {vals : List Int} {per inc : Int} {a i : Nat} (h : Scan s wh vals per inc a i) (hi : i < s.length) (hb : byteAt s i ≠ 32) : Scan s wh vals per inc a (i + 1) := by
 rcases h with ⟨h1, h2, h3, h4⟩ | h
 ·exact .inl ⟨by omega, by omega, fun j hj hj2 => by
   by_cases e : j = i
   ·rw [e]; exact hb
   ·exact h3 j hj (by omega), h4⟩
 ·omega
theorem Scan.word {s : List UInt8} {wh : Nat} {vals : List Int} {per inc : Int} {a i : Nat} (h : Scan s wh vals per inc a i) (hi : i ≤ s.length) (hb : i = s.length ∨ byteAt s i = 32) :
  ∃ ws, parseGo s.length 0 [] 0 0 0 (spl s) = parseGo s.length wh vals per inc a ((s.take i).drop a :: ws) ∧ ∀ wh' vals' per' inc', parseGo s.length 0 [] 0 0 0 (spl s) = parseGo s.length wh' vals' per' inc' (a + ((s.take i).drop a).length + 1) ws → Scan s wh' vals' per' inc' (i + 1) (i + 1) := by
 rcases h with ⟨h1, h2, h3, h4⟩ | h
 ·rw [word_at h2 hi h3 hb] at h4
  refine ⟨_, h4, fun wh' vals' per' inc' e => ?_⟩
  have el : a + ((s.take i).drop a).length + 1 = i + 1 := by rw [List.length_drop, List.length_take]; omega
  rw [el] at e
  by_cases hl : i = s.length
  ·rw [if_pos hl] at e
   exact .inr ⟨by omega, rfl, e⟩
  ·rw [if_neg hl] at e
   exact .inl ⟨by omega, Nat.le_refl _, fun j hj hj2 => absurd hj2 (by omega), e⟩
 ·omega
/-! ### what is written -/
def wordV (v : Int) : List UInt8 := if v = INF then wInf else Lib.itoa v
def fmtVals : List Int → List UInt8
  | [] => []
  | v :: r => wordV v ++ 32 :: fmtVals r
def fmtC (c : Cv) : List UInt8 := fmtVals c.vals ++ (wPer ++ 32 :: (Lib.itoa c.per ++ 32 :: (wInc ++ 32 :: Lib.itoa c.inc)))
def formatR (c : Cv) : List UInt8 × Int := if validB c = false then ([], 1) else if 4000 < (fmtC c).length then ([], 3) else (fmtC c, 0)
theorem itoa_pos {n : Int} (h : 0 ≤ n) : Lib.itoa n = Lib.decDigits n.toNat := by unfold Lib.itoa; rw [if_neg (by omega)]
theorem dec_step {u : Nat} (h : ¬ u < 10) : Lib.decDigits u = Lib.decDigits (u / 10) ++ [UInt8.ofNat (48 + u % 10)] := by rw [Lib.decDigits]; rw [dif_neg h]
theorem dec_one {u : Nat} (h : u < 10) : Lib.decDigits u = [UInt8.ofNat (48 + u)] := by rw [Lib.decDigits]; rw [dif_pos h]
theorem digit_num {d : Nat} (h : d < 10) : (UInt8.ofNat (48 + d)).toNat = 48 + d := by
 rw [UInt8.toNat_ofNat']
 omega
theorem numV_snoc (w : List UInt8) (c : UInt8) : numV (w ++ [c]) = 10 * numV w + (c.toNat - 48) := by unfold numV; rw [List.foldl_append]; rfl
theorem numV_dec : ∀ u : Nat, numV (Lib.decDigits u) = u := by
 intro u
 induction u using Nat.strongRecOn with
 | _ u ih =>
  by_cases h : u < 10
  ·rw [dec_one h]
   show 10 * 0 + ((UInt8.ofNat (48 + u)).toNat - 48) = u
   rw [digit_num h]; omega
  ·rw [dec_step h, numV_snoc, ih (u / 10) (by omega), digit_num (by omega)]
   omega
theorem dec_head : ∀ u : Nat, 0 < u → byteAt (Lib.decDigits u) 0 ≠ 48 := by
 intro u
 induction u using Nat.strongRecOn with
 | _ u ih =>
  intro hu
  by_cases h : u < 10
  ·rw [dec_one h]
   show ((UInt8.ofNat (48 + u)).toNat : Int) ≠ 48
   rw [digit_num h]; omega
  ·rw [dec_step h]
   have := ih (u / 10) (by omega) (by omega)
   unfold byteAt at this ⊢
   have hne := dec_ne (u / 10)
   cases hd : Lib.decDigits (u / 10) with
   | nil => exact absurd hd hne
   | cons x l => rw [hd] at this; exact this
theorem byte_mem {w : List UInt8} {i : Nat} (h : i < w.length) : ∃ c ∈ w, byteAt w i = (c.toNat : Int) :=
 ⟨w[i], List.getElem_mem h, by unfold byteAt List.getD; rw [List.getElem?_eq_getElem h]; rfl⟩
theorem digs_dec (u : Nat) : digs (Lib.decDigits u) = true := by
 refine decide_eq_true ⟨dec_ne u, fun h => ?_, fun i hi => ?_⟩
 ·by_cases h0 : u = 0
  ·subst h0
   have := h.1
   rw [dec_one (by decide)] at this
   simp at this
  ·exact dec_head u (by omega) h.2
 ·obtain ⟨c, hc, e⟩ := byte_mem hi
  have := dec_mem u c hc
  omega
theorem dec_byte {u : Nat} {c : UInt8} (h : c ∈ Lib.decDigits u) : c ≠ 32 := fun e => by
 have := dec_mem u c h
 rw [e] at this
 exact absurd this.1 (by decide)
theorem dec_not {u : Nat} {w : List UInt8} (h : digs w = false) : Lib.decDigits u ≠ w := fun e => by
 rw [← e, digs_dec] at h; cases h
theorem wInf_no : digs wInf = false := by decide
theorem wPer_no : digs wPer = false := by decide
theorem wInc_no : digs wInc = false := by decide
theorem go_num {size wh : Nat} {vals : List Int} {per inc : Int} {at' : Nat} {ws : List (List UInt8)} {u : Nat} (hu : u ≤ 1073741824) (hw : wh ≠ 3 ∧ wh ≠ 5) :
  parseGo size wh vals per inc at' (Lib.decDigits u :: ws) = if wh = 2 then parseGo size 3 vals (u : Int) inc (at' + (Lib.decDigits u).length + 1) ws
   else if wh = 4 then parseGo size 5 vals per (u : Int) (at' + (Lib.decDigits u).length + 1) ws
   else parseGo size 1 (vals ++ [(u : Int)]) per inc (at' + (Lib.decDigits u).length + 1) ws := by
 rw [parseGo, if_neg (fun h => dec_not wInf_no h.2), if_neg (fun h => dec_not wPer_no h.2), if_neg (fun h => dec_not wInc_no h.2), if_pos ⟨digs_dec u, hw⟩, numV_dec, if_neg (by omega)]
theorem go_vals {size : Nat} {per inc : Int} {ws : List (List UInt8)} : ∀ (vs vals : List Int) (wh at' : Nat), wh ≤ 1 → (∀ v ∈ vs, v = INF ∨ (0 ≤ v ∧ v ≤ 1073741824)) → vs ≠ [] →
  ∃ at2, parseGo size wh vals per inc at' (vs.map wordV ++ ws) = parseGo size 1 (vals ++ vs) per inc at2 ws
 | [], _, _, _, _, _, h => absurd rfl h
 | v :: vs, vals, wh, at', hw, hv, _ => by
  have step : ∃ at1, parseGo size wh vals per inc at' (wordV v :: (vs.map wordV ++ ws)) = parseGo size 1 (vals ++ [v]) per inc at1 (vs.map wordV ++ ws) := by
   unfold wordV
   by_cases e : v = INF
   ·rw [if_pos e, parseGo, if_pos ⟨hw, rfl⟩, e]; exact ⟨_, rfl⟩
   ·rw [if_neg e]
    have h0 := (hv v (by simp)).resolve_left e
    rw [itoa_pos h0.1, go_num (by omega) (by omega), if_neg (by omega), if_neg (by omega)]
    exact ⟨_, by rw [show ((v.toNat : Nat) : Int) = v by omega]⟩
  obtain ⟨a1, e1⟩ := step
  rw [List.map_cons, List.cons_append, e1]
  by_cases hn : vs = []
  ·subst hn; exact ⟨a1, rfl⟩
  ·obtain ⟨a2, e2⟩ := go_vals vs (vals ++ [v]) 1 a1 (by omega) (fun x hx => hv x (by simp [hx])) hn
   exact ⟨a2, by rw [e2, List.append_assoc]; rfl⟩
theorem wordV_byte {v : Int} (h : v = INF ∨ 0 ≤ v) : ∀ c ∈ wordV v, c ≠ 32 := by
 intro c hc
 unfold wordV at hc
 split at hc
 ·revert c; decide
 ·rename_i e
  rw [itoa_pos (h.resolve_left e)] at hc
  exact dec_byte hc
theorem spl_vals : ∀ (vs : List Int) (s : List UInt8), (∀ v ∈ vs, v = INF ∨ 0 ≤ v) → spl (fmtVals vs ++ s) = vs.map wordV ++ spl s
 | [], _, _ => rfl
 | v :: vs, s, h => by
  rw [fmtVals, List.append_assoc, List.cons_append, (spl_word (wordV v) _ (wordV_byte (h v (by simp)))).1, spl_vals vs s (fun x hx => h x (by simp [hx]))]
  rfl
def endW (per inc : Int) : List (List UInt8) := [wPer, Lib.itoa per, wInc, Lib.itoa inc]
theorem spl_fmt {c : Cv} (hv : ∀ v ∈ c.vals, v = INF ∨ 0 ≤ v) (hp : 0 ≤ c.per) (hi : 0 ≤ c.inc) : spl (fmtC c) = c.vals.map wordV ++ endW c.per c.inc := by
 unfold fmtC endW
 rw [spl_vals _ _ hv, (spl_word wPer _ (by decide)).1, itoa_pos hp, itoa_pos hi, (spl_word _ _ (fun _ => dec_byte)).1, (spl_word wInc _ (by decide)).1, (spl_word (Lib.decDigits c.inc.toNat) [] (fun _ => dec_byte)).2]
theorem go_end {size : Nat} {vals : List Int} {per inc : Int} {at' : Nat} {p i : Int} (hp : 0 ≤ p ∧ p ≤ 1073741824) (hi : 0 ≤ i ∧ i ≤ 1073741824) :
  parseGo size 1 vals per inc at' (endW p i) = (⟨vals, p, i⟩, 0, 0) := by
 unfold endW
 rw [parseGo, if_neg (fun h => absurd h.2 (by decide)), if_pos ⟨rfl, rfl⟩, itoa_pos hp.1, itoa_pos hi.1, go_num (by omega) (by decide), if_pos rfl]
 rw [parseGo, if_neg (fun h => absurd h.1 (by decide)), if_neg (fun h => absurd h.1 (by decide)), if_pos ⟨rfl, rfl⟩, go_num (by omega) (by decide), if_neg (by decide), if_pos rfl]
 rw [parseGo, if_pos rfl, show ((p.toNat : Nat) : Int) = p by omega, show ((i.toNat : Nat) : Int) = i by omega]
theorem parse_fmt {c : Cv} (hv : validB c = true) (hl : (fmtC c).length ≤ 4000) : parseR (fmtC c) = (c, 0, 0) := by
 obtain ⟨h1, h2, h3, h4, h5, h6, h7, h8⟩ := valid_range hv
 have hb : ∀ v ∈ c.vals, v = INF ∨ (0 ≤ v ∧ v ≤ 1073741824) := fun v hv' => by
  obtain ⟨i, hi, rfl⟩ := List.getElem_of_mem hv'
  have := valid_each hv i hi
  rw [nth_eq hi] at this
  rcases this with e | e
  ·exact .inl e
  ·exact .inr e
 have hne : c.vals ≠ [] := fun e => by rw [e] at h2; exact absurd h2 (by decide)
 obtain ⟨a2, e2⟩ := go_vals (size := (fmtC c).length) (per := 0) (inc := 0) (ws := endW c.per c.inc) c.vals [] 0 0 (by decide) hb hne
 unfold parseR
 rw [if_neg (show ¬ 4000 < (fmtC c).length by omega), spl_fmt (c := c) (fun v hv' => (hb v hv').imp id And.left) (by omega) (by omega), e2, go_end (p := c.per) (i := c.inc) (by omega) (by omega), List.nil_append]
 rw [if_neg (fun h => h rfl), show (⟨c.vals, c.per, c.inc⟩ : Cv) = c from rfl, if_pos hv]
/-! ### what is read was written so -/
def joinS : List (List UInt8) → List UInt8
  | [] => []
  | [w] => w
  | w :: ws => w ++ 32 :: joinS ws
/-- what stands at the words that are left, where reading comes to its end -/
def Rest (c : Cv) (vals : List Int) (per inc : Int) : Nat → List (List UInt8) → Prop
  | 5, ws => ws = [] ∧ c = ⟨vals, per, inc⟩
  | 4, ws => c.vals = vals ∧ c.per = per ∧ 0 ≤ c.inc ∧ ws = [Lib.itoa c.inc]
  | 3, ws => c.vals = vals ∧ c.per = per ∧ 0 ≤ c.inc ∧ ws = [wInc, Lib.itoa c.inc]
  | 2, ws => c.vals = vals ∧ 0 ≤ c.per ∧ 0 ≤ c.inc ∧ ws = [Lib.itoa c.per, wInc, Lib.itoa c.inc]
  | _, ws => ∃ vs, c.vals = vals ++ vs ∧ 0 ≤ c.per ∧ 0 ≤ c.inc ∧ ws = vs.map wordV ++ endW c.per c.inc
end Go.Proofs.YtmidibkljoaoiaaGreatDoor.M

/- Words between the instances of one byte: what strings.Split gives. Plain. No condition. -/
namespace Go.Proofs.YtmidibkljoaoiaaGreatDoor.M
open Go Go.Proofs.YtmidibkljoaoiaaGreatDoor.K
/-- the words between the instances of a byte -/
def splC (d : UInt8) : List UInt8 → List (List UInt8)
  | [] => [[]]
  | c :: s => if c = d then [] :: splC d s else match splC d s with
    | w :: ws => (c :: w) :: ws
    | [] => [[c]]
theorem spl_eq : ∀ s : List UInt8, spl s = splC 32 s
 | [] => rfl
 | c :: s => by
  have h := spl_eq s
  unfold spl splC
  by_cases e : c = 32
  ·rw [if_pos e, if_pos e, h]
  ·rw [if_neg e, if_neg e, h]
   all_goals (cases splC 32 s <;> rfl)
theorem splC_ne (d : UInt8) : ∀ s : List UInt8, splC d s ≠ []
 | [] => by simp [splC]
 | c :: s => by
  unfold splC
  split
  ·simp
  ·split <;> simp
theorem splC_cons {d : UInt8} : ∀ {s w : List UInt8} {ws : List (List UInt8)}, splC d s = w :: ws → (∀ c ∈ w, c ≠ d) ∧ ((ws = [] ∧ s = w) ∨ ∃ s', s = w ++ d :: s' ∧ ws = splC d s')
 | [], w, ws, h => by
  simp [splC] at h
  obtain ⟨rfl, rfl⟩ := h
  exact ⟨by simp, .inl ⟨rfl, rfl⟩⟩
 | c :: s, w, ws, h => by
  unfold splC at h
  by_cases hc : c = d
  ·rw [if_pos hc] at h
   simp only [List.cons.injEq] at h
   obtain ⟨rfl, rfl⟩ := h
   exact ⟨by simp, .inr ⟨s, by rw [hc]; rfl, rfl⟩⟩
  ·rw [if_neg hc] at h
   cases hs : splC d s with
   | nil => exact absurd hs (splC_ne d s)
   | cons v vs =>
    rw [hs] at h
    simp only [List.cons.injEq] at h
    obtain ⟨rfl, rfl⟩ := h
    obtain ⟨h1, h2⟩ := splC_cons hs
    refine ⟨fun x hx => ?_, ?_⟩
    ·rcases List.mem_cons.1 hx with rfl | hx
     ·exact hc
     ·exact h1 x hx
    ·rcases h2 with ⟨rfl, rfl⟩ | ⟨s', rfl, rfl⟩
     ·exact .inl ⟨rfl, rfl⟩
     ·exact .inr ⟨s', rfl, rfl⟩
theorem idx_none {d : UInt8} : ∀ {w : List UInt8}, (∀ c ∈ w, c ≠ d) → Lib.index w [d] = -1
 | [], _ => rfl
 | c :: w, h => by
  have hc := h c (by simp)
  unfold Lib.index
  rw [if_neg (by simp [List.isPrefixOf]; exact fun e => hc e.symm), idx_none (fun x hx => h x (by simp [hx]))]
  rfl
theorem idx_word {d : UInt8} {s' : List UInt8} : ∀ {w : List UInt8}, (∀ c ∈ w, c ≠ d) → Lib.index (w ++ d :: s') [d] = (w.length : Int)
 | [], _ => by
  show Lib.index (d :: s') [d] = 0
  unfold Lib.index
  rw [if_pos (by simp [List.isPrefixOf])]
 | c :: w, h => by
  have hc := h c (by simp)
  show Lib.index (c :: (w ++ d :: s')) [d] = _
  unfold Lib.index
  rw [if_neg (by simp [List.isPrefixOf]; exact fun e => hc e.symm), idx_word (fun x hx => h x (by simp [hx])), if_neg (by rw [beq_iff_eq]; omega)]
  simp
theorem split_splC (d : UInt8) : ∀ (n : Nat) (s : List UInt8), s.length ≤ n → Lib.splitK [d] 0 (Lib.count s [d]) s = splC d s ∧ Lib.count s [d] + 1 = (splC d s).length
 | n, s, hn => by
  cases hs : splC d s with
  | nil => exact absurd hs (splC_ne d s)
  | cons w ws =>
   obtain ⟨h1, ⟨rfl, rfl⟩ | ⟨s', rfl, rfl⟩⟩ := splC_cons hs
   ·rw [Lib.count_miss (idx_none h1)]
    exact ⟨rfl, rfl⟩
   ·have hi := idx_word (s' := s') h1
    have hd : (w ++ d :: s').drop (w.length + [d].length) = s' := by
     rw [← List.drop_drop, List.drop_left]; rfl
    match n with
    | 0 => simp at hn
    | n + 1 =>
     have hl : s'.length ≤ n := by rw [List.length_append, List.length_cons] at hn; omega
     obtain ⟨g1, g2⟩ := split_splC d n s' hl
     rw [Lib.count_hit (by simp) hi, hd]
     refine ⟨?_, by rw [List.length_cons]; omega⟩
     rw [Nat.add_comm 1, Lib.splitK, if_neg (by rw [hi, beq_iff_eq]; omega), hi, Int.toNat_natCast, hd, g1]
     congr 1
     rw [Nat.add_zero, List.take_left]
theorem splC_word {d : UInt8} : ∀ (w s : List UInt8), (∀ c ∈ w, c ≠ d) → splC d (w ++ d :: s) = w :: splC d s ∧ splC d w = [w]
 | [], s, _ => by simp [splC]
 | c :: w, s, h => by
  obtain ⟨h1, h2⟩ := splC_word w s (fun x hx => h x (by simp [hx]))
  have hc := h c (by simp)
  refine ⟨?_, ?_⟩
  ·rw [List.cons_append, splC, if_neg hc, h1]
  ·rw [splC, if_neg hc, h2]
theorem splC_len (d : UInt8) : ∀ s : List UInt8, (splC d s).length ≤ s.length + 1
 | [] => by simp [splC]
 | c :: s => by
  have ih := splC_len d s
  unfold splC
  split
  ·simp only [List.length_cons]; omega
  ·cases hs : splC d s with
   | nil => exact absurd hs (splC_ne d s)
   | cons w ws => rw [hs] at ih; simp only [List.length_cons] at ih ⊢; omega
end Go.Proofs.YtmidibkljoaoiaaGreatDoor.M

/- What a reference's line does where its choice looks at what is left of a tick, plain. No condition. -/
namespace Go.Proofs.YtmidibkljoaoiaaGreatDoor.M
open Go Go.Proofs.YtmidibkljoaoiaaGreatDoor.K

section
variable {τ : Type} (ps : List Pkt) (rc : Int → St → τ → Int × τ)
def rpickL (left : Int) (st : St) (g : τ) : Int × τ := if st.now = -1 then rc left st g else (st.now, g)
def rinnerL : Nat → Int → St → τ → St × τ
  | 0, _, st, g => (st, g)
  | k + 1, left, st, g =>
    if left ≤ 0 then (st, g) else
      let r := rpickL rc left st g
      let st1 := { st with now := r.1 }
      if r.1 = -1 then (st1, r.2) else rinnerL k (left - rsendN ps left st1) (rsend ps left st1) r.2
def rtickL (cap : Int) (st : St) (g : τ) : St × τ :=
  let x := rinnerL ps rc cap.toNat cap (rbegin st) g
  ({ x.1 with time := x.1.time + 1 }, x.2)
def rticksL (cap : Int) : Nat → St → τ → St × τ
  | 0, st, g => (st, g)
  | k + 1, st, g => rticksL cap k (rtickL ps rc cap st g).1 (rtickL ps rc cap st g).2
def rrunL (cap : Int) (classes ticks : Nat) (g : τ) : St := (rticksL ps rc cap ticks (rstart ps classes) g).1
end

section
variable {σ τ : Type} {ps : List Pkt} {ch : MS → σ → Int × Nat × σ} {good : MS → σ → Prop} {rel : Nat → Nat → Prop} {classes col : Nat} {s : RS σ} {st : St} {g : τ} {rc : Int → St → τ → Int × τ} {ρ : σ → τ → Prop}
/-- what a reference's choice must do beside that of the program -/
def AlikeL {σ τ : Type} (ps : List Pkt) (ch : MS → σ → Int × Nat × σ) (good : MS → σ → Prop) (rc : Int → St → τ → Int × τ) (ρ : σ → τ → Prop) : Prop :=
  ∀ (ms : MS) (sg : σ) (st : St) (g : τ), good ms sg → ms.begun.length = ps.length → ρ sg g → (st.time : Int) = ms.now → st.now = -1 → (∀ i, i < ps.length → M.waits ps st i = (decide ((nth ps i).time ≤ ms.now) && !nth ms.begun i)) →
    (rc ms.left st g).1 = (if (ch ms sg).1 < 0 then -1 else (ch ms sg).1) ∧ ρ (ch ms sg).2.2 (rc ms.left st g).2
end
section
variable {ps : List Pkt} {classes len : Nat} {B : Int} {st : St}
/-- a choice of what waits -/
def WaitingL {τ : Type} (ps : List Pkt) (rc : Int → St → τ → Int × τ) : Prop := ∀ l st g, (rc l st g).1 = -1 ∨ (0 ≤ (rc l st g).1 ∧ (rc l st g).1 < ps.length ∧ M.waits ps st (rc l st g).1.toNat = true)
end
end Go.Proofs.YtmidibkljoaoiaaGreatDoor.M

/- Priorities, plain: the choice of the program and of the reference. No condition. -/
namespace Go.Proofs.YtmidibkljoaoiaaGreatDoor.M
open Go Go.Proofs.YtmidibkljoaoiaaGreatDoor.K

/-- the first class from c on in which something waits -/
def prioFrom (nx : Int → Int) : Nat → Nat → Int
  | 0, _ => -1
  | k + 1, c => if 0 ≤ nx c then nx c else prioFrom nx k (c + 1)
def prioCh (ps : List Pkt) (n : Nat) (ms : MS) (_ : Unit) : Int × Nat × Unit := (prioFrom (nextW ps ms) n 0, skipTo ms.begun ms.before, ())
def prioRc (ps : List Pkt) (n : Nat) (_ : Int) (st : St) (_ : Unit) : Int × Unit := (prioFrom (firstW ps st) n 0, ())
section
variable {ps : List Pkt} {n : Nat}
/-- before which packet all have been begun, when so many classes have been looked at -/
def bfN (ms : MS) (c : Nat) : Nat := if c = 0 then ms.before else skipTo ms.begun ms.before
end
end Go.Proofs.YtmidibkljoaoiaaGreatDoor.M

/- Deficit round robin, plain: the choice, that it ends, and what every run keeps. No condition. -/
namespace Go.Proofs.YtmidibkljoaoiaaGreatDoor.M
open Go Go.Proofs.YtmidibkljoaoiaaGreatDoor.K

def grant (nx : Int → Int) (w : List Int) (c : Nat) (b : Bool) (d : List Int) : List Int := if 0 ≤ nx c ∧ b = false then d.set c (nth d c + nth w c) else d
def drop0 (nx : Int → Int) (c : Nat) (d : List Int) : List Int := if nx c < 0 then d.set c 0 else d
def defGo (nx sz : Int → Int) (w : List Int) : Nat → Nat → Bool → List Int → Int × (Nat × Bool × List Int)
  | 0, c, b, d => (-1, (c, b, d))
  | k + 1, c, b, d =>
    if 0 ≤ nx c ∧ sz (nx c) ≤ nth (grant nx w c b d) c then (nx c, (c, true, (grant nx w c b d).set c (nth (grant nx w c b d) c - sz (nx c))))
    else defGo nx sz w k ((c + 1) % w.length) false (drop0 nx c (grant nx w c b d))
def szOf (ps : List Pkt) (i : Int) : Int := (nth ps i.toNat).size
/-- so many steps are enough -/
def defF (n : Nat) : Nat := 1502 * n
def defCh (ps : List Pkt) (w : List Int) (ms : MS) (s : Nat × Bool × List Int) : Int × Nat × (Nat × Bool × List Int) :=
  if firstR ps ms < 0 then (-1, skipTo ms.begun ms.before, s)
  else ((defGo (nextW ps ms) (szOf ps) w (defF w.length) s.1 s.2.1 s.2.2).1, skipTo ms.begun ms.before, (defGo (nextW ps ms) (szOf ps) w (defF w.length) s.1 s.2.1 s.2.2).2)
def defRc (ps : List Pkt) (w : List Int) (st : St) (g : Nat × Bool × List Int) : Int × (Nat × Bool × List Int) :=
  if 0 ≤ firstW ps st (-1) then defGo (firstW ps st) (szOf ps) w (defF w.length) g.1 g.2.1 g.2.2 else (-1, g)
/-- the deficits' bounds -/
def DOk (n c : Nat) (b : Bool) (d : List Int) : Prop := c < n ∧ d.length = n ∧ ∀ i, i < n → 0 ≤ nth d i ∧ nth d i ≤ (if i = c ∧ b = true then 7499 else 1499)
def dist (n j c : Nat) : Nat := if c ≤ j then j - c else j + n - c
/-- how far a waiting class is -/
def far (n j c : Nat) (b : Bool) (d : List Int) : Nat := n * (1500 - nth d j).toNat + (if c = j ∧ b = true then n else dist n j c)
def DSoon (nx : Int → Int) (n k c : Nat) (b : Bool) (d : List Int) : Prop := ∃ j, j < n ∧ 0 ≤ nx (j : Int) ∧ far n j c b d < k
section
variable {nx sz : Int → Int} {w : List Int}
theorem grant_len (c : Nat) (b : Bool) (d : List Int) : (grant nx w c b d).length = d.length := by unfold grant; split <;> simp
theorem drop0_len (c : Nat) (d : List Int) : (drop0 nx c d).length = d.length := by unfold drop0; split <;> simp
theorem grant_ne {c i : Nat} {b : Bool} {d : List Int} (h : i ≠ c) : nth (grant nx w c b d) i = nth d i := by
 unfold grant; split
 ·rw [nth_set_ne (Ne.symm h)]
 ·rfl
theorem grant_self {c : Nat} {b : Bool} {d : List Int} (h : c < d.length) : nth (grant nx w c b d) c = (if 0 ≤ nx c ∧ b = false then nth d c + nth w c else nth d c) := by
 unfold grant; split
 ·rw [nth_set_self h]
 ·rfl
theorem drop0_ne {c i : Nat} {d : List Int} (h : i ≠ c) : nth (drop0 nx c d) i = nth d i := by
 unfold drop0; split
 ·rw [nth_set_ne (Ne.symm h)]
 ·rfl
theorem drop0_self {c : Nat} {d : List Int} (h : c < d.length) : nth (drop0 nx c d) c = (if nx c < 0 then 0 else nth d c) := by
 unfold drop0; split
 ·rw [nth_set_self h]
 ·rfl
theorem mod_succ {n c : Nat} (hc : c < n) : (c + 1) % n = if c + 1 < n then c + 1 else 0 := by
 split
 ·rename_i h; exact Nat.mod_eq_of_lt h
 ·rw [show c + 1 = n by omega, Nat.mod_self]
/-- what is granted stays within its bounds -/
theorem DOk.grant (hw : ∀ x ∈ w, 1 ≤ x ∧ x ≤ 6000) {c : Nat} {b : Bool} {d : List Int} (h : DOk w.length c b d) : ∀ i, i < w.length → 0 ≤ nth (grant nx w c b d) i ∧ nth (M.grant nx w c b d) i ≤ (if i = c then 7499 else 1499) := by
 obtain ⟨h1, h2, h3⟩ := h
 intro i hi
 have a := h3 i hi
 by_cases e : i = c
 ·subst e
  rw [grant_self (by omega), if_pos rfl]
  have := hw _ (nth_mem hi)
  split
  ·rename_i hh
   rw [if_neg (by rw [hh.2]; simp)] at a
   omega
  ·split at a <;> omega
 ·rw [grant_ne e, if_neg e]
  rw [if_neg (fun hh => e hh.1)] at a
  exact a
theorem DOk.next (hw : ∀ x ∈ w, 1 ≤ x ∧ x ≤ 6000) {c : Nat} (hsz : 0 ≤ nx c → sz (nx c) ≤ 1500) {b : Bool} {d : List Int} (h : DOk w.length c b d) (hno : ¬ (0 ≤ nx c ∧ sz (nx c) ≤ nth (M.grant nx w c b d) c)) :
  DOk w.length ((c + 1) % w.length) false (drop0 nx c (M.grant nx w c b d)) := by
 have hg := h.grant (nx := nx) hw
 obtain ⟨h1, h2, h3⟩ := h
 refine ⟨Nat.mod_lt _ (by omega), by rw [drop0_len, grant_len]; exact h2, fun i hi => ?_⟩
 rw [if_neg (by simp)]
 have a := hg i hi
 by_cases e : i = c
 ·subst e
  rw [drop0_self (by rw [grant_len]; omega)]
  split
  ·omega
  ·rename_i h0
   have : ¬ sz (nx i) ≤ nth (M.grant nx w i b d) i := fun hh => hno ⟨by omega, hh⟩
   have := hsz (by omega)
   omega
 ·rw [drop0_ne e]
  rw [if_neg e] at a; exact a
theorem DOk.pick (hw : ∀ x ∈ w, 1 ≤ x ∧ x ≤ 6000) {c : Nat} (hsz : 1 ≤ sz (nx c)) {b : Bool} {d : List Int} (h : DOk w.length c b d) (hy : sz (nx c) ≤ nth (M.grant nx w c b d) c) :
  DOk w.length c true ((M.grant nx w c b d).set c (nth (M.grant nx w c b d) c - sz (nx c))) := by
 have hg := h.grant (nx := nx) hw
 obtain ⟨h1, h2, h3⟩ := h
 refine ⟨h1, by rw [List.length_set, grant_len]; exact h2, fun i hi => ?_⟩
 have a := hg i hi
 by_cases e : i = c
 ·subst e
  rw [nth_set_self (by rw [grant_len]; omega), if_pos ⟨rfl, rfl⟩]
  rw [if_pos rfl] at a
  omega
 ·rw [nth_set_ne (Ne.symm e), if_neg (fun hh => e hh.1)]
  rw [if_neg e] at a; exact a
theorem DSoon.step (hw : ∀ x ∈ w, 1 ≤ x ∧ x ≤ 6000) {k c : Nat} (hsz : 0 ≤ nx c → sz (nx c) ≤ 1500) {b : Bool} {d : List Int} (hd : DOk w.length c b d) (h : DSoon nx w.length (k + 1) c b d) (hno : ¬ (0 ≤ nx c ∧ sz (nx c) ≤ nth (M.grant nx w c b d) c)) :
  DSoon nx w.length k ((c + 1) % w.length) false (drop0 nx c (M.grant nx w c b d)) := by
 obtain ⟨h1, h2, h3⟩ := hd
 obtain ⟨j, j1, j2, j3⟩ := h
 refine ⟨j, j1, j2, ?_⟩
 have hlen : c < (M.grant nx w c b d).length := by rw [grant_len]; omega
 unfold far at j3 ⊢
 rw [if_neg (by simp)]
 by_cases e : c = j
 ·subst e
  have hno : ¬ sz (nx c) ≤ nth (M.grant nx w c b d) c := fun hh => hno ⟨j2, hh⟩
  have := hsz j2
  have hdist : dist w.length c ((c + 1) % w.length) ≤ w.length - 1 := by
   rw [mod_succ h1]; unfold dist; split <;> split <;> omega
  rw [drop0_self hlen, if_neg (by omega)]
  rw [grant_self (by omega)] at hno ⊢
  cases b with
  | true =>
   rw [if_neg (by simp)] at hno ⊢
   rw [if_pos ⟨rfl, rfl⟩] at j3
   omega
  | false =>
   rw [if_pos ⟨j2, rfl⟩] at hno ⊢
   rw [if_neg (by simp)] at j3
   have hwj := hw _ (nth_mem h1)
   have hdj := h3 c h1
   obtain ⟨r, hr⟩ : ∃ r, (1500 - nth d c).toNat = r + 1 := ⟨(1500 - nth d c).toNat - 1, by omega⟩
   have hle : (1500 - (nth d c + nth w c)).toNat ≤ r := by omega
   have hm := Nat.mul_le_mul_left w.length hle
   rw [hr, Nat.mul_add, Nat.mul_one] at j3
   omega
 ·rw [if_neg (fun hh => e hh.1)] at j3
  rw [drop0_ne (Ne.symm e), grant_ne (Ne.symm e)]
  have hdist : dist w.length j ((c + 1) % w.length) + 1 ≤ dist w.length j c := by
   rw [mod_succ h1]; unfold dist; split <;> split <;> split <;> omega
  omega
end
def goodDf (ps : List Pkt) (n : Nat) (ms : MS) (s : Nat × Bool × List Int) : Prop := goodB ps ms ∧ DOk n s.1 s.2.1 s.2.2
section
variable {ps : List Pkt} {w : List Int} {ms : MS} {s : Nat × Bool × List Int}
def def0 (n : Nat) : Nat × Bool × List Int := (0, false, List.replicate n 0)
end
end Go.Proofs.YtmidibkljoaoiaaGreatDoor.M

/- Time slots, plain: the choice of the program and of the reference. No condition. -/
namespace Go.Proofs.YtmidibkljoaoiaaGreatDoor.M
open Go Go.Proofs.YtmidibkljoaoiaaGreatDoor.K

/-- how many ticks in a row from t on belong to a class; -1 if all do -/
def aheadN (tb : List Int) (cls : Int) (t : Nat) : Int := findFrom (fun n => decide (cls < 0) || nth tb ((t + n) % tb.length) != cls) tb.length 0
def afterN (tb : List Int) (t : Nat) : Nat := if findFrom (fun n => nth tb ((t + 1 + n) % tb.length) != nth tb (t % tb.length)) tb.length 0 = -1 then tb.length else (findFrom (fun n => nth tb ((t + 1 + n) % tb.length) != nth tb (t % tb.length)) tb.length 0).toNat
def roomN (cap : Int) (tb : List Int) (t : Nat) (left : Int) : Int := if afterN tb t = tb.length then 1073741824 else left + cap * (afterN tb t : Int)
def slotT (tb : List Int) (t : Nat) : Int := nth tb (t % tb.length)
def slotCh (ps : List Pkt) (cap : Int) (tb : List Int) (ms : MS) (_ : Unit) : Int × Nat × Unit :=
  if slotT tb ms.now.toNat < 0 then (-1, ms.before, ())
  else if nextW ps ms (slotT tb ms.now.toNat) < 0 then (-1, skipTo ms.begun ms.before, ())
  else if aheadN tb (slotT tb ms.now.toNat) ms.now.toNat ≠ -1 ∧ (nth ps (nextW ps ms (slotT tb ms.now.toNat)).toNat).size > ms.left + (aheadN tb (slotT tb ms.now.toNat) ms.now.toNat - 1) * cap then (-1, skipTo ms.begun ms.before, ())
  else (nextW ps ms (slotT tb ms.now.toNat), skipTo ms.begun ms.before, ())
def slotRc (ps : List Pkt) (cap : Int) (tb : List Int) (left : Int) (st : St) (_ : Unit) : Int × Unit :=
  if 0 ≤ slotT tb st.time ∧ 0 ≤ firstW ps st (slotT tb st.time) ∧ (nth ps (firstW ps st (slotT tb st.time)).toNat).size ≤ roomN cap tb st.time left then (firstW ps st (slotT tb st.time), ()) else (-1, ())
section
variable {ps : List Pkt} {cap : Int} {tb : List Int} {ms : MS} {st : St}
end
/-- tables that are right -/
def okT (classes : Int) (tb : List Int) : Bool := decide (1 ≤ tb.length) && decide (tb.length ≤ 40) && tb.all fun c => decide (-1 ≤ c) && decide (c < classes)
/-- the classes of a table -/
def classesT (tb : List Int) : Int := tb.foldl (fun m c => if m < c + 1 then c + 1 else m) 1
def srunE (cap ticks : Int) (tb : List Int) (ps : List Pkt) : Int := if okT 6 tb = true then lrunE cap (classesT tb) ticks ps else 2
end Go.Proofs.YtmidibkljoaoiaaGreatDoor.M

/- Lines with any of the schedulers, plain: what is right, what a run sends. No condition. -/
namespace Go.Proofs.YtmidibkljoaoiaaGreatDoor.M
open Go Go.Proofs.YtmidibkljoaoiaaGreatDoor.K
/-- a line -/
structure Ln where
  kind : Int
  cap : Int
  n : Int
  w : List Int
  tb : List Int
def withinB (l : List Int) (lo hi : Int) : Bool := l.all fun x => decide (lo ≤ x) && decide (x ≤ hi)
def outB (lo hi x : Int) : Bool := decide (x < lo) || decide (hi < x)
def listsE (b : Bool) (rows : List (List Int)) : Int := if b = false then 2 else if rows.any (fun r => decide (0 < r.length)) = true then 6 else 0
theorem within_find {l : List Int} {lo hi : Int} : (!decide (0 ≤ findN (fun i => outB lo hi (nth l i)) l.length)) = withinB l lo hi := by
 rcases findN_cases (fun i => outB lo hi (nth l i)) l.length with ⟨i, h1, h2, h3, h4⟩ | ⟨h1, h2⟩
 ·rw [h2]
  have : withinB l lo hi = false := by
   apply Bool.eq_false_iff.2
   intro hh
   unfold withinB at hh
   rw [List.all_eq_true] at hh
   have := hh _ (nth_mem h1)
   simp only [outB, Bool.or_eq_true, decide_eq_true_eq, Bool.and_eq_true] at h3 this
   omega
  rw [this]; simp
 ·rw [h1]
  have : withinB l lo hi = true := by
   unfold withinB
   rw [List.all_eq_true]
   intro x hx
   obtain ⟨i, hi, rfl⟩ := List.getElem_of_mem hx
   have := h2 i hi
   rw [show nth l i = l[i] by unfold nth List.getD; rw [List.getElem?_eq_getElem hi]; rfl] at this
   simp only [outB, Bool.or_eq_false_iff, decide_eq_false_iff_not] at this
   simp only [Bool.and_eq_true, decide_eq_true_eq]; omega
  rw [this]; rfl
/-- the first error of the lists -/
def lchkL (L : Ln) : Int :=
  if L.kind = 3 then listsE (decide ((L.w.length : Int) = L.n) && withinB L.w 1 20) [L.tb]
  else if L.kind = 4 then listsE (decide ((L.w.length : Int) = L.n) && withinB L.w 1 6000) [L.tb]
  else if L.kind = 5 then listsE (decide (1 ≤ (L.tb.length : Int)) && decide ((L.tb.length : Int) ≤ 40) && withinB L.tb (-1) (L.n - 1)) [L.w]
  else listsE true [L.w, L.tb]
def chkL (L : Ln) : Int := if L.kind < 1 ∨ 5 < L.kind then 9 else if L.cap < 1 ∨ 4000 < L.cap ∨ L.n < 1 ∨ 6 < L.n then 2 else lchkL L
/-- what a run of a line that is right hands back -/
def runE (L : Ln) (ticks : Int) (ps : List Pkt) : Int := if L.kind = 3 then wrunE 20 L.cap ticks L.w ps else if L.kind = 4 then wrunE 6000 L.cap ticks L.w ps else lrunE L.cap L.n ticks ps
def sendL (L : Ln) (ticks : Nat) (ps : List Pkt) : List Int × List (List Int) :=
  if L.kind = 1 then ((mrun ps (fifo ps) L.cap L.n.toNat ticks ()).done, (mrun ps (fifo ps) L.cap L.n.toNat ticks ()).sent)
  else if L.kind = 2 then ((mrun ps (prioCh ps L.n.toNat) L.cap L.n.toNat ticks ()).done, (mrun ps (prioCh ps L.n.toNat) L.cap L.n.toNat ticks ()).sent)
  else if L.kind = 3 then ((mrun ps (robinCh ps L.w) L.cap L.w.length ticks (0, nth L.w 0)).done, (mrun ps (robinCh ps L.w) L.cap L.w.length ticks (0, nth L.w 0)).sent)
  else if L.kind = 4 then ((mrun ps (defCh ps L.w) L.cap L.w.length ticks (def0 L.w.length)).done, (mrun ps (defCh ps L.w) L.cap L.w.length ticks (def0 L.w.length)).sent)
  else ((mrun ps (slotCh ps L.cap L.tb) L.cap L.n.toNat ticks ()).done, (mrun ps (slotCh ps L.cap L.tb) L.cap L.n.toNat ticks ()).sent)
def runL (L : Ln) (ticks : Int) (ps : List Pkt) : List Int × List (List Int) := if runE L ticks ps ≠ 0 then ([], []) else sendL L ticks.toNat ps
def srvE (L : Ln) (ticks : Int) (ps : List Pkt) : Int := if chkL L ≠ 0 then chkL L else runE L ticks ps
def srvL (L : Ln) (ticks : Int) (ps : List Pkt) : List Int × List (List Int) := if chkL L ≠ 0 then ([], []) else runL L ticks ps
theorem chk_facts {L : Ln} (h : chkL L = 0) : (1 ≤ L.kind ∧ L.kind ≤ 5) ∧ 1 ≤ L.cap ∧ L.cap ≤ 4000 ∧ 1 ≤ L.n ∧ L.n ≤ 6 ∧ lchkL L = 0 := by
 unfold chkL at h
 split at h
 ·omega
 ·split at h
  ·omega
  ·exact ⟨by omega, by omega, by omega, by omega, by omega, h⟩
theorem lists_zero {b : Bool} {rows : List (List Int)} (h : listsE b rows = 0) : b = true ∧ ∀ r ∈ rows, r = [] := by
 unfold listsE at h
 split at h
 ·omega
 ·rename_i hb
  split at h
  ·omega
  ·rename_i hr
   refine ⟨by simpa using hb, fun r hr2 => ?_⟩
   have := mt List.any_eq_true.2 hr
   cases r with
   | nil => rfl
   | cons x xs => exact absurd ⟨_, hr2, by simp⟩ this
theorem chk_rob {L : Ln} (h : chkL L = 0) (hk : L.kind = 3) : (L.w.length : Int) = L.n ∧ withinB L.w 1 20 = true ∧ L.tb = [] := by
 have := (chk_facts h).2.2.2.2.2
 unfold lchkL at this
 rw [if_pos hk] at this
 obtain ⟨h1, h2⟩ := lists_zero this
 simp only [Bool.and_eq_true, decide_eq_true_eq] at h1
 exact ⟨h1.1, h1.2, h2 _ (by simp)⟩
theorem chk_def {L : Ln} (h : chkL L = 0) (hk : L.kind = 4) : (L.w.length : Int) = L.n ∧ withinB L.w 1 6000 = true ∧ L.tb = [] := by
 have := (chk_facts h).2.2.2.2.2
 unfold lchkL at this
 rw [if_neg (by omega), if_pos hk] at this
 obtain ⟨h1, h2⟩ := lists_zero this
 simp only [Bool.and_eq_true, decide_eq_true_eq] at h1
 exact ⟨h1.1, h1.2, h2 _ (by simp)⟩
theorem chk_times {L : Ln} (h : chkL L = 0) (hk : L.kind = 5) : (1 ≤ L.tb.length ∧ L.tb.length ≤ 40) ∧ withinB L.tb (-1) (L.n - 1) = true ∧ L.w = [] := by
 have := (chk_facts h).2.2.2.2.2
 unfold lchkL at this
 rw [if_neg (by omega), if_neg (by omega), if_pos hk] at this
 obtain ⟨h1, h2⟩ := lists_zero this
 simp only [Bool.and_eq_true, decide_eq_true_eq] at h1
 exact ⟨by omega, h1.2, h2 _ (by simp)⟩
/-- the lines that the laws draw -/
structure DrawOk (L : Ln) : Prop where
  cap : 3 ≤ L.cap ∧ L.cap ≤ 42
  n : L.n = 3
  kind : 1 ≤ L.kind ∧ L.kind ≤ 5
  plain : L.kind = 1 ∨ L.kind = 2 → L.w = [] ∧ L.tb = []
  rob : L.kind = 3 → L.w.length = 3 ∧ (∀ x ∈ L.w, 1 ≤ x ∧ x ≤ 3) ∧ L.tb = []
  defi : L.kind = 4 → L.w.length = 3 ∧ (∀ x ∈ L.w, 1 ≤ x ∧ x ≤ 50) ∧ L.tb = []
  slots : L.kind = 5 → L.w = [] ∧ 3 ≤ L.tb.length ∧ L.tb.length ≤ 6 ∧ ∀ x ∈ L.tb, -1 ≤ x ∧ x ≤ 2
theorem within_of {l : List Int} {lo hi : Int} (h : ∀ x ∈ l, lo ≤ x ∧ x ≤ hi) : withinB l lo hi = true := by
 unfold withinB
 rw [List.all_eq_true]
 intro x hx
 have := h x hx
 simp only [Bool.and_eq_true, decide_eq_true_eq]; exact this
theorem DrawOk.chk {L : Ln} (h : DrawOk L) : chkL L = 0 := by
 have h1 := h.cap
 have h2 := h.n
 have h3 := h.kind
 unfold chkL
 rw [if_neg (by omega), if_neg (by omega)]
 unfold lchkL
 by_cases k3 : L.kind = 3
 ·rw [if_pos k3]
  obtain ⟨a, b, c⟩ := h.rob k3
  rw [a, c, h2, within_of (fun x hx => by have := b x hx; omega)]; rfl
 ·rw [if_neg k3]
  by_cases k4 : L.kind = 4
  ·rw [if_pos k4]
   obtain ⟨a, b, c⟩ := h.defi k4
   rw [a, c, h2, within_of (fun x hx => by have := b x hx; omega)]; rfl
  ·rw [if_neg k4]
   by_cases k5 : L.kind = 5
   ·rw [if_pos k5]
    obtain ⟨a, b, c, d⟩ := h.slots k5
    rw [a, h2, within_of (fun x hx => by have := d x hx; omega)]
    have e1 : decide (1 ≤ (L.tb.length : Int)) = true := decide_eq_true (by omega)
    have e2 : decide ((L.tb.length : Int) ≤ 40) = true := decide_eq_true (by omega)
    rw [e1, e2]; rfl
   ·rw [if_neg k5]
    obtain ⟨a, b⟩ := h.plain (by omega)
    rw [a, b]; rfl
end Go.Proofs.YtmidibkljoaoiaaGreatDoor.M

/- Texts of networks: names, numbers, lists. Plain. No condition. -/
namespace Go.Proofs.YtmidibkljoaoiaaGreatDoor.M
open Go Go.Proofs.YtmidibkljoaoiaaGreatDoor.K
def wordOk (s : List UInt8) (j : Nat) : Prop := byteAt s j = 45 ∨ (48 ≤ byteAt s j ∧ byteAt s j ≤ 57) ∨ (97 ≤ byteAt s j ∧ byteAt s j ≤ 122)
instance (s : List UInt8) (j : Nat) : Decidable (wordOk s j) := by unfold wordOk; infer_instance
/-- a name of a line or a flow -/
def wordB (s : List UInt8) : Bool := decide (1 ≤ s.length ∧ s.length ≤ 12 ∧ (97 ≤ byteAt s 0 ∧ byteAt s 0 ≤ 122) ∧ ∀ j, j < s.length → wordOk s j)
/-- a number of at most nine digits -/
def num9 (w : List UInt8) : Bool := digs w && decide (w.length ≤ 9)
def num9V (w : List UInt8) : Nat := if num9 w = true then numV w else 0
theorem numV_next {w : List UInt8} {i : Nat} (hi : i < w.length) (h : 48 ≤ byteAt w i ∧ byteAt w i ≤ 57) : (numV (w.take (i + 1)) : Int) = 10 * (numV (w.take i) : Int) + (byteAt w i - 48) := by
 have e : w.take (i + 1) = w.take i ++ [w[i]] := (List.take_append_getElem hi).symm
 have eb : byteAt w i = ((w[i]).toNat : Int) := by unfold byteAt List.getD; rw [List.getElem?_eq_getElem hi]; rfl
 rw [eb] at h ⊢
 rw [e]
 unfold numV
 rw [List.foldl_append, List.foldl_cons, List.foldl_nil]
 omega
theorem numV_lt : ∀ {i : Nat} {w : List UInt8}, i ≤ w.length → (∀ j, j < i → 48 ≤ byteAt w j ∧ byteAt w j ≤ 57) → numV (w.take i) < 10 ^ i
 | 0, w, _, _ => by rw [List.take_zero]; exact Nat.one_pos
 | i + 1, w, hi, h => by
  have h1 := numV_lt (i := i) (w := w) (by omega) (fun j hj => h j (by omega))
  have h2 := numV_next (w := w) (i := i) (by omega) (h i (by omega))
  have h3 := h i (by omega)
  rw [Nat.pow_succ]
  omega
theorem u8_dig {d : Nat} (h : d ≤ 9) : (48 : Int) + (d : Int) = ((UInt8.ofNat (48 + d)).toNat : Int) := by rw [UInt8.toNat_ofNat']; omega
theorem seg_snoc {cs : List Value} {k : Nat} {v : Value} (hk : k < cs.length) : (setSeg cs k [v]).drop k = v :: cs.drop (k + 1) := by
 unfold setSeg
 rw [List.append_assoc, List.drop_append_of_le_length (by rw [List.length_take]; omega), List.drop_of_length_le (by rw [List.length_take]; omega)]
 rfl
theorem set_snoc {α : Type} {ws : List α} {i : Nat} {v : α} (h : i < ws.length) : (ws.set i v).take (i + 1) = ws.take i ++ [v] := by
 rw [List.set_eq_take_append_cons_drop, if_pos h, List.take_append, List.take_of_length_le (by rw [List.length_take]; omega), List.length_take, Nat.min_eq_left (by omega), show i + 1 - i = 1 by omega]
 rfl
theorem pow9 {i : Nat} (h : i ≤ 9) : 10 ^ i ≤ 1000000000 := Nat.le_trans (Nat.pow_le_pow_right (by decide) h) (by decide)
def okN9 (fr : Bool) (w : List UInt8) : Bool := (fr && decide (w = [45])) || num9 w
def valN9 (fr : Bool) (w : List UInt8) : Int := if (fr && decide (w = [45])) = true then -1 else (num9V w : Int)
def numsO (fr : Bool) (s : List UInt8) : Bool := (splC 44 s).all (okN9 fr)
def numsL (fr : Bool) (s : List UInt8) : List Int := if numsO fr s = true then (splC 44 s).map (valN9 fr) else []
theorem splC_mem (d : UInt8) : ∀ (s : List UInt8), ∀ w ∈ splC d s, w.length ≤ s.length
 | [], w, h => by
  rw [show splC d [] = [[]] from rfl, List.mem_singleton] at h
  rw [h]
  exact Nat.le_refl _
 | c :: s, w, h => by
  have ih := splC_mem d s
  unfold splC at h
  by_cases hc : c = d
  ·rw [if_pos hc] at h
   rcases List.mem_cons.1 h with h | h
   ·rw [h]; exact Nat.zero_le _
   ·exact Nat.le_trans (ih w h) (Nat.le_succ _)
  ·rw [if_neg hc] at h
   cases hs : splC d s with
   | nil => exact absurd hs (splC_ne d s)
   | cons x xs =>
    rw [hs] at h ih
    rcases List.mem_cons.1 h with h | h
    ·rw [h]; exact Nat.succ_le_succ (ih x (by simp))
    ·exact Nat.le_trans (ih w (by simp [h])) (Nat.le_succ _)
def wLine : List UInt8 := [108, 105, 110, 101]
def wFifo : List UInt8 := [102, 105, 102, 111]
def wPrio : List UInt8 := [112, 114, 105, 111, 114, 105, 116, 121]
def wRob : List UInt8 := [114, 111, 98, 105, 110]
def wDef : List UInt8 := [100, 101, 102, 105, 99, 105, 116]
def wSlots : List UInt8 := [115, 108, 111, 116, 115]
def lnHead (ws : List (List UInt8)) : Bool := decide (4 ≤ ws.length) && (decide (nth ws 0 = wLine) && wordB (nth ws 1))
def lnMore (ws : List (List UInt8)) : Bool :=
  if nth ws 2 = wFifo then decide (ws.length = 4) else if nth ws 2 = wPrio then decide (ws.length = 5) && num9 (nth ws 4)
  else if nth ws 2 = wRob ∨ nth ws 2 = wDef then decide (ws.length = 5) && numsO false (nth ws 4)
  else if nth ws 2 = wSlots then decide (ws.length = 6) && (num9 (nth ws 4) && numsO true (nth ws 5)) else false
def lnVal (ws : List (List UInt8)) : Ln :=
  if nth ws 2 = wFifo then ⟨1, num9V (nth ws 3), 1, [], []⟩ else if nth ws 2 = wPrio then ⟨2, num9V (nth ws 3), num9V (nth ws 4), [], []⟩
  else if nth ws 2 = wRob then ⟨3, num9V (nth ws 3), (numsL false (nth ws 4)).length, numsL false (nth ws 4), []⟩
  else if nth ws 2 = wDef then ⟨4, num9V (nth ws 3), (numsL false (nth ws 4)).length, numsL false (nth ws 4), []⟩
  else ⟨5, num9V (nth ws 3), num9V (nth ws 4), [], numsL true (nth ws 5)⟩
/-- a text is a line -/
def lineO (s : List UInt8) : Bool := lnHead (splC 32 s) && (num9 (nth (splC 32 s) 3) && lnMore (splC 32 s))
def kwS (k : Int) : List UInt8 := if k = 1 then wFifo else if k = 2 then wPrio else if k = 3 then wRob else if k = 4 then wDef else if k = 5 then wSlots else []
def lstW (x : Int) : List UInt8 := if 0 ≤ x then Lib.decDigits x.toNat else [45]
def lstS (l : List Int) : List UInt8 := Lib.join (l.map lstW) [44]
def fmtRest (L : Ln) : List (List UInt8) := if L.kind = 1 then [] else if L.kind = 2 then [Lib.decDigits L.n.toNat] else if L.kind = 3 ∨ L.kind = 4 then [lstS L.w] else [Lib.decDigits L.n.toNat, lstS L.tb]
def fmtWords (name : List UInt8) (L : Ln) : List (List UInt8) := [wLine, name, kwS L.kind, Lib.decDigits L.cap.toNat] ++ fmtRest L
/-- why a line has no text; its text -/
def fmtE (name : List UInt8) (L : Ln) : Int := if wordB name = false then 4 else if chkL L ≠ 0 then chkL L else if L.kind = 1 ∧ L.n ≠ 1 then 6 else 0
def fmtL (name : List UInt8) (L : Ln) : List UInt8 := if fmtE name L = 0 then Lib.join (fmtWords name L) [32] else []
theorem join_cons (x y : List UInt8) (r : List (List UInt8)) (sep : List UInt8) : Lib.join (x :: y :: r) sep = x ++ sep ++ Lib.join (y :: r) sep := by
 simp [Lib.join, List.intercalate, List.intersperse]
theorem join_le {k : Nat} : ∀ (xs : List (List UInt8)) (d : UInt8), (∀ x ∈ xs, x.length ≤ k) → (Lib.join xs [d]).length ≤ (k + 1) * xs.length
 | [], d, _ => by simp [Lib.join, List.intercalate]
 | [x], d, h => by
  have := h x (by simp)
  rw [show Lib.join [x] [d] = x by simp [Lib.join, List.intercalate]]
  simp only [List.length_cons, List.length_nil]
  omega
 | x :: y :: r, d, h => by
  have h1 := h x (by simp)
  have h2 := join_le (y :: r) d (fun z hz => h z (by simp [hz]))
  rw [join_cons, List.length_append, List.length_append, @List.length_cons _ _ (y :: r), Nat.mul_succ]
  simp only [List.length_cons, List.length_nil] at h2 ⊢
  omega
theorem decD_le : ∀ (k u : Nat), 1 ≤ k → u < 10 ^ k → (Lib.decDigits u).length ≤ k
 | 0, _, h, _ => absurd h (by decide)
 | k + 1, u, _, h => by
  by_cases h1 : u < 10
  ·rw [dec_one h1]; exact Nat.succ_le_succ (Nat.zero_le _)
  ·rw [dec_step h1, List.length_append]
   have hk : 1 ≤ k := by
    rcases Nat.eq_zero_or_pos k with rfl | h2
    ·exact absurd h (by omega)
    ·exact h2
   have := decD_le k (u / 10) hk (by rw [Nat.pow_succ] at h; omega)
   simp only [List.length_cons, List.length_nil]
   omega
theorem lstS_le {l : List Int} (h : ∀ x ∈ l, x ≤ 999999) : (lstS l).length ≤ 8 * l.length := by
 have := join_le (k := 7) (l.map lstW) 44 (fun w hw => by
  obtain ⟨x, hx, rfl⟩ := List.mem_map.1 hw
  unfold lstW
  split
  ·exact Nat.le_trans (decD_le 6 _ (by decide) (by have := h x hx; omega)) (by decide)
  ·decide)
 rw [List.length_map] at this
 exact this
theorem within_mem {l : List Int} {lo hi : Int} (h : withinB l lo hi = true) : ∀ x ∈ l, lo ≤ x ∧ x ≤ hi := fun x hx => by
 unfold withinB at h
 have := List.all_eq_true.1 h x hx
 simpa using this
theorem chk_flat {L : Ln} (h : chkL L = 0) (hk : L.kind = 1 ∨ L.kind = 2) : L.w = [] ∧ L.tb = [] := by
 have := (chk_facts h).2.2.2.2.2
 unfold lchkL at this
 rw [if_neg (by omega), if_neg (by omega), if_neg (by omega)] at this
 obtain ⟨_, h2⟩ := lists_zero this
 exact ⟨h2 _ (by simp), h2 _ (by simp)⟩
theorem fmt_le6 {name : List UInt8} {L : Ln} (hn : wordB name = true) (h : chkL L = 0) : (Lib.join (fmtWords name L) [32]).length ≤ 6006 := by
 obtain ⟨hkk, hcp1, hcp2, hn1, hn6, _⟩ := chk_facts h
 have hnl : name.length ≤ 12 := (of_decide_eq_true hn).2.1
 have hk : (kwS L.kind).length ≤ 8 := by unfold kwS; (repeat' split) <;> decide
 have hd1 : (Lib.decDigits L.cap.toNat).length ≤ 4 := decD_le 4 _ (by decide) (by omega)
 have hd2 : (Lib.decDigits L.n.toNat).length ≤ 4 := decD_le 4 _ (by decide) (by omega)
 have hws : ∀ x ∈ fmtWords name L, x.length ≤ 1000 := by
  intro x hx
  unfold fmtWords at hx
  rcases List.mem_append.1 hx with hx | hx
  ·simp only [List.mem_cons, List.not_mem_nil, or_false] at hx
   rcases hx with rfl | rfl | rfl | rfl
   ·decide
   ·omega
   ·omega
   ·omega
  ·unfold fmtRest at hx
   split at hx
   ·simp at hx
   ·split at hx
    ·rw [List.mem_singleton.1 hx]; omega
    ·split at hx
     ·rename_i h3
      rw [List.mem_singleton.1 hx]
      have hr : (L.w.length : Int) = L.n ∧ ∀ x ∈ L.w, x ≤ 999999 := by
       rcases h3 with h3 | h3
       ·obtain ⟨h4, h5, _⟩ := chk_rob h h3
        exact ⟨h4, fun x hx => by have := within_mem h5 x hx; omega⟩
       ·obtain ⟨h4, h5, _⟩ := chk_def h h3
        exact ⟨h4, fun x hx => by have := within_mem h5 x hx; omega⟩
      have := lstS_le hr.2
      omega
     ·have h5 : L.kind = 5 := by omega
      obtain ⟨h6, h7, _⟩ := chk_times h h5
      have := lstS_le (fun x hx => by have := within_mem h7 x hx; omega : ∀ x ∈ L.tb, x ≤ 999999)
      simp only [List.mem_cons, List.not_mem_nil, or_false] at hx
      rcases hx with rfl | rfl
      ·omega
      ·omega
 have hl : (fmtWords name L).length ≤ 6 := by
  unfold fmtWords fmtRest
  (repeat' split) <;> exact Nat.le_of_ble_eq_true rfl
 have h8 := join_le (k := 1000) _ 32 hws
 have h9 : 1001 * (fmtWords name L).length ≤ 1001 * 6 := Nat.mul_le_mul_left _ hl
 omega
theorem fmt_le {name : List UInt8} {L : Ln} (hn : wordB name = true) (h : chkL L = 0) : (Lib.join (fmtWords name L) [32]).length ≤ 140737488355328 := Nat.le_trans (fmt_le6 hn h) (by decide)
def frE (met : List (List UInt8)) (n : List UInt8) : Int := if wordB n = false then 4 else if n ∈ met then 60 else 0
def chkLs : List (List UInt8) → List (List UInt8 × Ln) → Int
  | _, [] => 0
  | met, x :: r => if frE met x.1 ≠ 0 then frE met x.1 else if chkL x.2 ≠ 0 then chkL x.2 else chkLs (met ++ [x.1]) r
/-- the first error of a network without flows -/
def chkNet0 (names : List (List UInt8)) (Ls : List Ln) : Int := if Ls.length = 0 ∨ 8 < Ls.length then 3 else if names.length ≠ Ls.length then 2 else chkLs [] (names.zip Ls)
def rowsT (rows : List (List UInt8)) : List UInt8 := (rows.map (· ++ [10])).flatten
def nmR (x : List UInt8) : List UInt8 := nth (splC 32 x) 1
def vlR (x : List UInt8) : Ln := lnVal (splC 32 x)
/-- the lines of the networks that keep draws -/
structure DrawP (k : Nat) (L : Ln) : Prop where
  cap : 4 ≤ L.cap ∧ L.cap ≤ 24
  n : L.n = k
  kind : 1 ≤ L.kind ∧ L.kind ≤ 5
  plain : L.kind = 1 ∨ L.kind = 2 → L.w = [] ∧ L.tb = []
  one : L.kind = 1 → k = 1
  rob : L.kind = 3 → L.w.length = k ∧ (∀ x ∈ L.w, 1 ≤ x ∧ x ≤ 3) ∧ L.tb = []
  defi : L.kind = 4 → L.w.length = k ∧ (∀ x ∈ L.w, 8 ≤ x ∧ x ≤ 20) ∧ L.tb = []
  slots : L.kind = 5 → L.w = [] ∧ k ≤ L.tb.length ∧ L.tb.length ≤ k + 2 ∧ ∀ x ∈ L.tb, -1 ≤ x ∧ x ≤ (k : Int) - 1
end Go.Proofs.YtmidibkljoaoiaaGreatDoor.M

/- A line is read back from its text. Plain. No condition. -/
namespace Go.Proofs.YtmidibkljoaoiaaGreatDoor.M
open Go Go.Proofs.YtmidibkljoaoiaaGreatDoor.K
theorem splC_join (d : UInt8) : ∀ xs : List (List UInt8), xs ≠ [] → (∀ x ∈ xs, ∀ c ∈ x, c ≠ d) → splC d (Lib.join xs [d]) = xs
 | [], h, _ => absurd rfl h
 | [x], _, h => by
  rw [show Lib.join [x] [d] = x by simp [Lib.join, List.intercalate]]
  exact (splC_word x [] (h x (by simp))).2
 | x :: y :: r, _, h => by
  rw [join_cons, List.append_assoc]
  show splC d (x ++ d :: Lib.join (y :: r) [d]) = _
  rw [(splC_word x _ (h x (by simp))).1, splC_join d (y :: r) (by simp) (fun z hz => h z (by simp [hz]))]
theorem num9_dec {u : Nat} (h : u < 1000000000) : num9 (Lib.decDigits u) = true ∧ num9V (Lib.decDigits u) = u := by
 have h1 : num9 (Lib.decDigits u) = true := by
  unfold num9
  rw [digs_dec, Bool.true_and]
  exact decide_eq_true (decD_le 9 u (by decide) (by omega))
 exact ⟨h1, by unfold num9V; rw [if_pos h1, numV_dec]⟩
theorem dec_ne45 (u : Nat) : ∀ c ∈ Lib.decDigits u, 48 ≤ c.toNat ∧ c.toNat ≤ 57 := fun c hc => (digs_mem (digs_dec u)).2 c hc
theorem lstW_read {fr : Bool} {x : Int} (h : -1 ≤ x ∧ x < 1000000000) (hf : x = -1 → fr = true) : okN9 fr (lstW x) = true ∧ valN9 fr (lstW x) = x := by
 unfold lstW
 split
 ·rename_i h0
  obtain ⟨h1, h2⟩ := num9_dec (u := x.toNat) (by omega)
  have h3 : (fr && decide (Lib.decDigits x.toNat = [45])) = false := by
   rw [Bool.and_eq_false_iff, decide_eq_false_iff_not]
   right
   intro e
   have := dec_ne45 x.toNat 45 (by rw [e]; simp)
   exact absurd this.1 (by decide)
  unfold okN9 valN9
  rw [h1, h2, h3]
  exact ⟨rfl, by rw [if_neg (by decide)]; omega⟩
 ·rename_i h0
  have hx : x = -1 := by omega
  subst hx
  unfold okN9 valN9
  rw [hf rfl]
  exact ⟨rfl, rfl⟩
theorem lstW_no44 (x : Int) : ∀ c ∈ lstW x, c ≠ 44 ∧ c ≠ 32 ∧ c ≠ 10 := fun c hc => by
 unfold lstW at hc
 split at hc
 ·have := dec_ne45 x.toNat c hc
  refine ⟨?_, ?_, ?_⟩ <;> (intro e; subst e; exact absurd this.1 (by decide))
 ·rw [List.mem_singleton.1 hc]; decide
theorem nums_read {fr : Bool} {l : List Int} (h0 : l ≠ []) (h : ∀ x ∈ l, (-1 ≤ x ∧ x < 1000000000) ∧ (x = -1 → fr = true)) : numsO fr (lstS l) = true ∧ numsL fr (lstS l) = l := by
 have hs : splC 44 (lstS l) = l.map lstW := splC_join 44 _ (fun e => h0 (List.map_eq_nil_iff.1 e)) (fun w hw c hc => by
  obtain ⟨x, _, rfl⟩ := List.mem_map.1 hw
  exact (lstW_no44 x c hc).1)
 have h1 : numsO fr (lstS l) = true := by
  unfold numsO
  rw [hs, List.all_eq_true]
  intro w hw
  obtain ⟨x, hx, rfl⟩ := List.mem_map.1 hw
  exact (lstW_read (h x hx).1 (h x hx).2).1
 refine ⟨h1, ?_⟩
 unfold numsL
 rw [if_pos h1, hs, List.map_map]
 refine (List.map_congr_left (fun x hx => ?_)).trans (List.map_id' l)
 exact (lstW_read (h x hx).1 (h x hx).2).2
theorem word_no {s : List UInt8} (h : wordB s = true) : ∀ c ∈ s, c ≠ 32 ∧ c ≠ 10 := fun c hc => by
 obtain ⟨i, hi, rfl⟩ := List.getElem_of_mem hc
 have h4 := (of_decide_eq_true h).2.2.2 i hi
 have eb : byteAt s i = ((s[i]).toNat : Int) := by unfold byteAt List.getD; rw [List.getElem?_eq_getElem hi]; rfl
 unfold wordOk at h4
 rw [eb] at h4
 refine ⟨?_, ?_⟩ <;> (intro e; rw [e] at h4; exact absurd h4 (by decide))
theorem join_no {d : UInt8} {p : UInt8 → Prop} (hd : p d) : ∀ xs : List (List UInt8), (∀ x ∈ xs, ∀ c ∈ x, p c) → ∀ c ∈ Lib.join xs [d], p c
 | [], _, c, hc => by simp [Lib.join, List.intercalate] at hc
 | [x], h, c, hc => by
  rw [show Lib.join [x] [d] = x by simp [Lib.join, List.intercalate]] at hc
  exact h x (by simp) c hc
 | x :: y :: r, h, c, hc => by
  rw [join_cons] at hc
  rcases List.mem_append.1 hc with hc | hc
  ·rcases List.mem_append.1 hc with hc | hc
   ·exact h x (by simp) c hc
   ·rw [List.mem_singleton.1 hc]; exact hd
  ·exact join_no hd (y :: r) (fun z hz => h z (by simp [hz])) c hc
theorem lstS_no (l : List Int) : ∀ c ∈ lstS l, c ≠ 32 ∧ c ≠ 10 := join_no (by decide) _ (fun w hw c hc => by
 obtain ⟨x, _, rfl⟩ := List.mem_map.1 hw
 exact (lstW_no44 x c hc).2)
theorem dec_no2 (u : Nat) : ∀ c ∈ Lib.decDigits u, c ≠ 32 ∧ c ≠ 10 := fun c hc => by
 have := dec_ne45 u c hc
 refine ⟨?_, ?_⟩ <;> (intro e; subst e; exact absurd this.1 (by decide))
theorem kwS_no (k : Int) : ∀ c ∈ kwS k, c ≠ 32 ∧ c ≠ 10 := by
 unfold kwS
 (repeat' split) <;> decide
theorem words_no {name : List UInt8} {L : Ln} (h : wordB name = true) : ∀ x ∈ fmtWords name L, ∀ c ∈ x, c ≠ 32 ∧ c ≠ 10 := by
 intro x hx
 unfold fmtWords fmtRest at hx
 rcases List.mem_append.1 hx with hx | hx
 ·simp only [List.mem_cons, List.not_mem_nil, or_false] at hx
  rcases hx with rfl | rfl | rfl | rfl
  ·decide
  ·exact word_no h
  ·exact kwS_no _
  ·exact dec_no2 _
 ·(repeat' split at hx)
  ·simp at hx
  ·rw [List.mem_singleton.1 hx]; exact dec_no2 _
  ·rw [List.mem_singleton.1 hx]; exact lstS_no _
  ·simp only [List.mem_cons, List.not_mem_nil, or_false] at hx
   rcases hx with rfl | rfl
   ·exact dec_no2 _
   ·exact lstS_no _
theorem fmt_words {name : List UInt8} {L : Ln} (h : wordB name = true) (he : fmtE name L = 0) : splC 32 (fmtL name L) = fmtWords name L := by
 unfold fmtL
 rw [if_pos he]
 exact splC_join 32 _ (by unfold fmtWords; exact List.cons_ne_nil _ _) (fun x hx c hc => (words_no h x hx c hc).1)
theorem fmt_no10 {name : List UInt8} {L : Ln} (h : wordB name = true) (he : fmtE name L = 0) : ∀ c ∈ fmtL name L, c ≠ 10 := by
 unfold fmtL
 rw [if_pos he]
 exact join_no (by decide) _ (fun x hx c hc => (words_no h x hx c hc).2)
theorem fmtE_zero {name : List UInt8} {L : Ln} (hn : wordB name = true) (hc : chkL L = 0) (h1 : L.kind = 1 → L.n = 1) : fmtE name L = 0 := by
 unfold fmtE
 rw [if_neg (by rw [hn]; decide), if_neg (fun h => h hc), if_neg (fun h => h.2 (h1 h.1))]
theorem line_read {name : List UInt8} {L : Ln} (hn : wordB name = true) (hc : chkL L = 0) (h1 : L.kind = 1 → L.n = 1) : lineO (fmtL name L) = true ∧ vlR (fmtL name L) = L ∧ nmR (fmtL name L) = name := by
 have he := fmtE_zero hn hc h1
 obtain ⟨hkk, hcp1, hcp2, hn1, hn6, _⟩ := chk_facts hc
 obtain ⟨q1, q2⟩ := num9_dec (u := L.cap.toNat) (by omega)
 obtain ⟨q3, q4⟩ := num9_dec (u := L.n.toNat) (by omega)
 unfold lineO vlR nmR
 rw [fmt_words hn he]
 obtain ⟨kind, cap, nn, w, tb⟩ := L
 dsimp only at hkk hcp1 hcp2 hn1 hn6 h1 q1 q2 q3 q4
 have hcap : ((cap.toNat : Nat) : Int) = cap := by omega
 have hnn : ((nn.toNat : Nat) : Int) = nn := by omega
 have hh : ∀ r : List (List UInt8), lnHead ([wLine, name, kwS kind, Lib.decDigits cap.toNat] ++ r) = true := fun r => by
  unfold lnHead
  rw [decide_eq_true (show 4 ≤ ([wLine, name, kwS kind, Lib.decDigits cap.toNat] ++ r).length by simp), show nth ([wLine, name, kwS kind, Lib.decDigits cap.toNat] ++ r) 1 = name from rfl, hn]
  rfl
 have h3 : ∀ r : List (List UInt8), nth ([wLine, name, kwS kind, Lib.decDigits cap.toNat] ++ r) 3 = Lib.decDigits cap.toNat := fun _ => rfl
 have h2 : ∀ r : List (List UInt8), nth ([wLine, name, kwS kind, Lib.decDigits cap.toNat] ++ r) 2 = kwS kind := fun _ => rfl
 unfold fmtWords
 dsimp only
 rw [hh, h3, q1]
 refine ⟨?_, ?_, rfl⟩
 ·unfold lnMore fmtRest
  rw [h2]
  dsimp only
  rcases (show kind = 1 ∨ kind = 2 ∨ kind = 3 ∨ kind = 4 ∨ kind = 5 by omega) with rfl | rfl | rfl | rfl | rfl
  ·rfl
  ·show (true && (true && (true && num9 (Lib.decDigits nn.toNat)))) = true
   rw [q3]; rfl
  ·obtain ⟨r1, r2, r3⟩ := chk_rob hc rfl
   have := nums_read (fr := false) (l := w) (fun e => by subst e; simp at r1; omega) (fun x hx => by have := within_mem r2 x hx; exact ⟨by omega, fun e => by omega⟩)
   show (true && (true && (true && numsO false (lstS w)))) = true
   rw [this.1]; rfl
  ·obtain ⟨r1, r2, r3⟩ := chk_def hc rfl
   have := nums_read (fr := false) (l := w) (fun e => by subst e; simp at r1; omega) (fun x hx => by have := within_mem r2 x hx; exact ⟨by omega, fun e => by omega⟩)
   show (true && (true && (true && numsO false (lstS w)))) = true
   rw [this.1]; rfl
  ·obtain ⟨r1, r2, r3⟩ := chk_times hc rfl
   have := nums_read (fr := true) (l := tb) (fun e => by subst e; simp at r1) (fun x hx => by have := within_mem r2 x hx; dsimp only at this; exact ⟨by omega, fun _ => rfl⟩)
   show (true && (true && (true && (num9 (Lib.decDigits nn.toNat) && numsO true (lstS tb))))) = true
   rw [q3, this.1]; rfl
 ·unfold lnVal fmtRest
  rw [h2, h3, q2, hcap]
  dsimp only
  rcases (show kind = 1 ∨ kind = 2 ∨ kind = 3 ∨ kind = 4 ∨ kind = 5 by omega) with rfl | rfl | rfl | rfl | rfl
  ·obtain ⟨r1, r2⟩ := chk_flat hc (.inl rfl)
   dsimp only at r1 r2
   subst r1 r2
   have := h1 rfl
   subst this
   rfl
  ·obtain ⟨r1, r2⟩ := chk_flat hc (.inr rfl)
   dsimp only at r1 r2
   subst r1 r2
   show (⟨2, cap, (num9V (Lib.decDigits nn.toNat) : Int), [], []⟩ : Ln) = _
   rw [q4, hnn]
  ·obtain ⟨r1, r2, r3⟩ := chk_rob hc rfl
   have := nums_read (fr := false) (l := w) (fun e => by subst e; simp at r1; omega) (fun x hx => by have := within_mem r2 x hx; exact ⟨by omega, fun e => by omega⟩)
   dsimp only at r1 r3
   subst r3
   show (⟨3, cap, ((numsL false (lstS w)).length : Int), numsL false (lstS w), []⟩ : Ln) = _
   rw [this.2, r1]
  ·obtain ⟨r1, r2, r3⟩ := chk_def hc rfl
   have := nums_read (fr := false) (l := w) (fun e => by subst e; simp at r1; omega) (fun x hx => by have := within_mem r2 x hx; exact ⟨by omega, fun e => by omega⟩)
   dsimp only at r1 r3
   subst r3
   show (⟨4, cap, ((numsL false (lstS w)).length : Int), numsL false (lstS w), []⟩ : Ln) = _
   rw [this.2, r1]
  ·obtain ⟨r1, r2, r3⟩ := chk_times hc rfl
   have := nums_read (fr := true) (l := tb) (fun e => by subst e; simp at r1) (fun x hx => by have := within_mem r2 x hx; dsimp only at this; exact ⟨by omega, fun _ => rfl⟩)
   dsimp only at r3
   subst r3
   show (⟨5, cap, (num9V (Lib.decDigits nn.toNat) : Int), [], numsL true (lstS tb)⟩ : Ln) = _
   rw [q4, hnn, this.2]
theorem DrawP.chk {k : Nat} {L : Ln} (hk : k = 1 ∨ k = 2) (h : DrawP k L) : chkL L = 0 ∧ (L.kind = 1 → L.n = 1) := by
 have h1 := h.cap
 have h2 := h.n
 have h3 := h.kind
 refine ⟨?_, fun e => by have := h.one e; omega⟩
 unfold chkL
 rw [if_neg (by omega), if_neg (by omega)]
 unfold lchkL
 by_cases k3 : L.kind = 3
 ·rw [if_pos k3]
  obtain ⟨a, b, c⟩ := h.rob k3
  rw [a, c, h2, within_of (fun x hx => by have := b x hx; omega), decide_eq_true (rfl : (k : Int) = k)]; rfl
 ·rw [if_neg k3]
  by_cases k4 : L.kind = 4
  ·rw [if_pos k4]
   obtain ⟨a, b, c⟩ := h.defi k4
   rw [a, c, h2, within_of (fun x hx => by have := b x hx; omega), decide_eq_true (rfl : (k : Int) = k)]; rfl
  ·rw [if_neg k4]
   by_cases k5 : L.kind = 5
   ·rw [if_pos k5]
    obtain ⟨a, b, c, d⟩ := h.slots k5
    rw [a, h2, within_of (fun x hx => by have := d x hx; omega)]
    have e1 : decide (1 ≤ (L.tb.length : Int)) = true := decide_eq_true (by omega)
    have e2 : decide ((L.tb.length : Int) ≤ 40) = true := decide_eq_true (by omega)
    rw [e1, e2]; rfl
   ·rw [if_neg k5]
    obtain ⟨a, b⟩ := h.plain (by omega)
    rw [a, b]; rfl
def nm4 : List (List UInt8) := [[97], [98], [99], [100]]
theorem chkLs_ok : ∀ (xs : List (List UInt8 × Ln)) (met : List (List UInt8)), (∀ x ∈ xs, wordB x.1 = true ∧ chkL x.2 = 0) → (met ++ xs.map (·.1)).Nodup → chkLs met xs = 0
 | [], _, _, _ => rfl
 | x :: r, met, h, hd => by
  have hx := h x (by simp)
  have hn : x.1 ∉ met := fun hm => by
   rw [List.nodup_append] at hd
   exact hd.2.2 _ hm _ (by simp) rfl
  have hf : frE met x.1 = 0 := by unfold frE; rw [if_neg (by rw [hx.1]; decide), if_neg hn]
  rw [chkLs, if_neg (fun e => e hf), if_neg (fun e => e hx.2)]
  exact chkLs_ok r _ (fun y hy => h y (by simp [hy])) (by rw [List.append_assoc]; exact hd)
end Go.Proofs.YtmidibkljoaoiaaGreatDoor.M

/- The text of a network without flows. Plain; and a rule: what is owned may be dropped. No condition. -/
namespace Go.Proofs.YtmidibkljoaoiaaGreatDoor.K
open Go
theorem W.dropE {P : Program} {x : Code} {Q : Exit → Act → World → Prop} {n : Nat} {env : Env} {w0 : World} {R : Ro} {E E' : List Ent} (hE : E'.Sublist E) (h : W P x Q n env w0 R E') : W P x Q n env w0 R E := fun a w hk hm => h a w hk (hm.sub (RLe.refl _) hE)
end Go.Proofs.YtmidibkljoaoiaaGreatDoor.K
namespace Go.Proofs.YtmidibkljoaoiaaGreatDoor.M
open Go Go.Proofs.YtmidibkljoaoiaaGreatDoor.K
instance instLnI : Inhabited Ln := ⟨⟨0, 0, 0, [], []⟩⟩
def rowX (x : List UInt8 × Ln) : List UInt8 := fmtL x.1 x.2
def fmtErr : List (List UInt8 × Ln) → Int
  | [] => 0
  | x :: r => if fmtE x.1 x.2 ≠ 0 then fmtE x.1 x.2 else fmtErr r
/-- the text of a network without flows, and its error -/
def fmtN0 (names : List (List UInt8)) (Ls : List Ln) : List UInt8 × Int :=
  if chkNet0 names Ls ≠ 0 then ([], chkNet0 names Ls)
  else if fmtErr (names.zip Ls) ≠ 0 then ([], fmtErr (names.zip Ls))
  else if 4000 < (rowsT ((names.zip Ls).map rowX)).length then ([], 3) else (rowsT ((names.zip Ls).map rowX), 0)
theorem chkLs_zero : ∀ (xs : List (List UInt8 × Ln)) (met : List (List UInt8)), chkLs met xs = 0 → ∀ x ∈ xs, wordB x.1 = true ∧ chkL x.2 = 0
 | [], _, _, x, hx => by cases hx
 | y :: r, met, h, x, hx => by
  rw [chkLs] at h
  by_cases h1 : frE met y.1 ≠ 0
  ·rw [if_pos h1] at h; exact absurd h h1
  ·rw [if_neg h1] at h
   by_cases h2 : chkL y.2 ≠ 0
   ·rw [if_pos h2] at h; exact absurd h h2
   ·rw [if_neg h2] at h
    rcases List.mem_cons.1 hx with rfl | hx
    ·refine ⟨?_, Classical.not_not.1 h2⟩
     have h3 := Classical.not_not.1 h1
     unfold frE at h3
     by_cases h4 : wordB x.1 = false
     ·rw [if_pos h4] at h3; cases h3
     ·simpa using h4
    ·exact chkLs_zero r _ h x hx
theorem fmtL_le (n : List UInt8) (L : Ln) : (fmtL n L).length ≤ 6006 := by
 unfold fmtL
 split
 ·rename_i h
  unfold fmtE at h
  by_cases h1 : wordB n = false
  ·rw [if_pos h1] at h; cases h
  ·rw [if_neg h1] at h
   by_cases h2 : chkL L ≠ 0
   ·rw [if_pos h2] at h; exact absurd h h2
   ·exact fmt_le6 (by simpa using h1) (Classical.not_not.1 h2)
 ·exact Nat.zero_le _
theorem rowsT_snoc (rows : List (List UInt8)) (x : List UInt8) : rowsT (rows ++ [x]) = rowsT rows ++ (x ++ [10]) := by
 unfold rowsT
 rw [List.map_append, List.flatten_append]
 simp
end Go.Proofs.YtmidibkljoaoiaaGreatDoor.M

/- What the reference asks of a line, plain. No condition. -/
namespace Go.Proofs.YtmidibkljoaoiaaGreatDoor.M
open Go Go.Proofs.YtmidibkljoaoiaaGreatDoor.K
def sameLn (L M : Ln) : Bool := decide (L.kind = M.kind) && decide (L.cap = M.cap) && decide (L.n = M.n) && decide (L.w = M.w) && decide (L.tb = M.tb)
end Go.Proofs.YtmidibkljoaoiaaGreatDoor.M

/- Lines in memory. No condition. -/
namespace Go.Proofs.YtmidibkljoaoiaaGreatDoor.M
open Go Go.Proofs.YtmidibkljoaoiaaGreatDoor.K
/-- a line in memory -/
structure LnM where
  a1 : Option Addr
  c1 : Nat
  a2 : Option Addr
  c2 : Nat
  L : Ln
instance instLnM : Inhabited LnM := ⟨⟨none, 0, none, 0, ⟨0, 0, 0, [], []⟩⟩⟩
def encLn (m : LnM) : List Value := [.int .i64 m.L.kind, .int .i64 m.L.cap, .int .i64 m.L.n, .slice m.a1 m.L.w.length m.c1, .slice m.a2 m.L.tb.length m.c2]
def OkLn (R : Ro) (m : LnM) : Prop := K.RS R 1 encI m.a1 m.L.w ∧ K.RS R 1 encI m.a2 m.L.tb
theorem OkLn.mono {R R' : Ro} {m : LnM} (h : OkLn R m) (hR : RLe R R') : OkLn R' m := ⟨h.1.mono hR, h.2.mono hR⟩
end Go.Proofs.YtmidibkljoaoiaaGreatDoor.M

/- Flows of networks: what is right of them. Plain. No condition. -/
namespace Go.Proofs.YtmidibkljoaoiaaGreatDoor.M
open Go Go.Proofs.YtmidibkljoaoiaaGreatDoor.K
structure Fl where
  name : List UInt8
  route : List Int
  cls : Int
  lo : Int
  hi : Int
  cv : Cv
instance instFl : Inhabited Fl := ⟨⟨[], [], 0, 0, 0, zcv⟩⟩
/-- a flow in memory -/
structure FlM where
  a1 : Option Addr
  c1 : Nat
  a2 : Option Addr
  c2 : Nat
  f : Fl
instance instFlM : Inhabited FlM := ⟨⟨none, 0, none, 0, default⟩⟩
def FlM.nm (m : FlM) : List UInt8 := m.f.name
def encFl (m : FlM) : List Value := [.string (str m.f.name), .slice m.a1 m.f.route.length m.c1, .int .i64 m.f.cls, .int .i64 m.f.lo, .int .i64 m.f.hi, .slice m.a2 m.f.cv.vals.length m.c2, .int .i64 m.f.cv.per, .int .i64 m.f.cv.inc]
structure OkFl (R : Ro) (m : FlM) : Prop where
  route : K.RS R 1 encI m.a1 m.f.route
  vals : K.RS R 1 encI m.a2 m.f.cv.vals
  len : m.f.cv.vals.length ≤ 100000
  name : m.f.name.length ≤ 9223372036854775807
theorem OkFl.mono {R R' : Ro} {m : FlM} (h : OkFl R m) (hR : RLe R R') : OkFl R' m := ⟨h.route.mono hR, h.vals.mono hR, h.len, h.name⟩
/-- a list of flows that may be read: immutable or one's own -/
structure LsF (R : Ro) (E : List Ent) (la : Option Addr) (l : List FlM) : Prop where
  rd : ∀ i, i < l.length → Rd R E (eaddr la 8 i) (encFl (nth l i))
  has : HasMem R E la l.length
  len : l.length ≤ 9223372036854775807
theorem LsF.sub {R R' : Ro} {E E' : List Ent} {la : Option Addr} {l : List FlM} (h : LsF R E la l) (hR : RLe R R') (hE : E.Sublist E') : LsF R' E' la l :=
 ⟨fun i hi w0 w hm => h.rd i hi w0 w (hm.sub hR hE), fun w0 w hm => h.has w0 w (hm.sub hR hE), h.len⟩
theorem LsF.ro {R : Ro} {E : List Ent} {la : Option Addr} {l : List FlM} (h : K.RS R 8 encFl la l) : LsF R E la l := ⟨fun _ hi => RS.rdD h hi, RS.has h, h.len⟩
theorem LsF.own {R : Ro} {E : List Ent} {la : Option Addr} {l : List FlM} {e cap : Nat} (i : Nat) (h : E[i]? = some (.sl e 8 la cap (l.map encFl))) (hl : l.length ≤ 1000000) : LsF R E la l := ⟨fun _ hj => Rd.slD i h hj, HasMem.ownD i h, by omega⟩
def routeGo (ls : List Ln) (cl : Int) : List Int → List Int → Int
  | _, [] => 0
  | met, l :: r => if l < 0 ∨ (ls.length : Int) ≤ l then 2 else if l ∈ met then 60 else if cl < 0 ∨ (nth ls l.toNat).n ≤ cl then 2 else routeGo ls cl (met ++ [l]) r
def routeE (ls : List Ln) (f : Fl) : Int := if f.route.length = 0 then 5 else if 4 < f.route.length then 3 else routeGo ls f.cls [] f.route
def trafE (f : Fl) : Int := if f.lo < 1 ∨ f.hi < f.lo ∨ 1500 < f.hi then 2 else if validB f.cv = false then 1 else if nth f.cv.vals 0 ≠ 0 then 6 else if finB f.cv = false then 2 else 0
def flE (met : List (List UInt8)) (ls : List Ln) (f : Fl) : Int := if frE met f.name ≠ 0 then frE met f.name else if routeE ls f ≠ 0 then routeE ls f else trafE f
def chkFs (ls : List Ln) : List (List UInt8) → List Fl → Int
  | _, [] => 0
  | met, f :: r => if flE met ls f ≠ 0 then flE met ls f else chkFs ls (met ++ [f.name]) r
/-- the first error of a network -/
def chkNet (names : List (List UInt8)) (Ls : List Ln) (Fs : List Fl) : Int := if Ls.length = 0 ∨ 8 < Ls.length ∨ 10 < Fs.length then 3 else if names.length ≠ Ls.length then 2 else if chkLs [] (names.zip Ls) ≠ 0 then chkLs [] (names.zip Ls) else chkFs Ls [] Fs
theorem chkNet_nil (names : List (List UInt8)) (Ls : List Ln) : chkNet names Ls [] = chkNet0 names Ls := by
 unfold chkNet chkNet0
 simp only [List.length_nil, Nat.not_lt_zero, or_false]
 split
 ·rfl
 ·split
  ·rfl
  ·by_cases h : chkLs [] (names.zip Ls) = 0
   ·rw [if_neg (fun h2 => h2 h), h]; rfl
   ·rw [if_pos h]
theorem routeGo_zero {ls : List Ln} {cl : Int} : ∀ (r met : List Int), routeGo ls cl met r = 0 → (∀ l ∈ r, (0 ≤ l ∧ l < ls.length) ∧ l ∉ met ∧ 0 ≤ cl ∧ cl < (nth ls l.toNat).n) ∧ r.Nodup
 | [], _, _ => ⟨fun l h => (by cases h), List.nodup_nil⟩
 | x :: r, met, h => by
  rw [routeGo] at h
  by_cases h1 : x < 0 ∨ (ls.length : Int) ≤ x
  ·rw [if_pos h1] at h; cases h
  ·rw [if_neg h1] at h
   by_cases h2 : x ∈ met
   ·rw [if_pos h2] at h; cases h
   ·rw [if_neg h2] at h
    by_cases h3 : cl < 0 ∨ (nth ls x.toNat).n ≤ cl
    ·rw [if_pos h3] at h; cases h
    ·rw [if_neg h3] at h
     obtain ⟨h4, h5⟩ := routeGo_zero r _ h
     refine ⟨fun l hl => ?_, List.nodup_cons.2 ⟨fun hx => (h4 x hx).2.1 (by simp), h5⟩⟩
     rcases List.mem_cons.1 hl with rfl | hl
     ·exact ⟨by omega, h2, by omega⟩
     ·obtain ⟨a, b, c⟩ := h4 l hl
      exact ⟨a, fun hm => b (by simp [hm]), c⟩
structure FlRight (ls : List Ln) (f : Fl) : Prop where
  word : wordB f.name = true
  len : 1 ≤ f.route.length ∧ f.route.length ≤ 4
  route : ∀ l ∈ f.route, (0 ≤ l ∧ l < ls.length) ∧ 0 ≤ f.cls ∧ f.cls < (nth ls l.toNat).n
  nodup : f.route.Nodup
  cls : 0 ≤ f.cls
  sizes : 1 ≤ f.lo ∧ f.lo ≤ f.hi ∧ f.hi ≤ 1500
  valid : validB f.cv = true
  zero : nth f.cv.vals 0 = 0
  fin : finB f.cv = true
theorem frE_zero {met : List (List UInt8)} {n : List UInt8} (h : frE met n = 0) : wordB n = true ∧ n ∉ met := by
 unfold frE at h
 by_cases h1 : wordB n = false
 ·rw [if_pos h1] at h; cases h
 ·rw [if_neg h1] at h
  by_cases h2 : n ∈ met
  ·rw [if_pos h2] at h; cases h
  ·exact ⟨by simpa using h1, h2⟩
theorem flE_zero {met : List (List UInt8)} {ls : List Ln} {f : Fl} (h : flE met ls f = 0) : FlRight ls f ∧ f.name ∉ met := by
 unfold flE at h
 by_cases h1 : frE met f.name ≠ 0
 ·rw [if_pos h1] at h; exact absurd h h1
 ·rw [if_neg h1] at h
  by_cases h2 : routeE ls f ≠ 0
  ·rw [if_pos h2] at h; exact absurd h h2
  ·rw [if_neg h2] at h
   obtain ⟨a1, a2⟩ := frE_zero (Classical.not_not.1 h1)
   have hr := Classical.not_not.1 h2
   unfold routeE at hr
   by_cases h3 : f.route.length = 0
   ·rw [if_pos h3] at hr; cases hr
   ·rw [if_neg h3] at hr
    by_cases h4 : 4 < f.route.length
    ·rw [if_pos h4] at hr; cases hr
    ·rw [if_neg h4] at hr
     obtain ⟨b1, b2⟩ := routeGo_zero _ _ hr
     unfold trafE at h
     by_cases h5 : f.lo < 1 ∨ f.hi < f.lo ∨ 1500 < f.hi
     ·rw [if_pos h5] at h; cases h
     ·rw [if_neg h5] at h
      by_cases h6 : validB f.cv = false
      ·rw [if_pos h6] at h; cases h
      ·rw [if_neg h6] at h
       by_cases h7 : nth f.cv.vals 0 ≠ 0
       ·rw [if_pos h7] at h; cases h
       ·rw [if_neg h7] at h
        by_cases h8 : finB f.cv = false
        ·rw [if_pos h8] at h; cases h
        ·refine ⟨⟨a1, by omega, fun l hl => ⟨(b1 l hl).1, (b1 l hl).2.2⟩, b2, ?_, by omega, by simpa using h6, Classical.not_not.1 h7, by simpa using h8⟩, a2⟩
         exact (b1 _ (nth_mem (show 0 < f.route.length by omega))).2.2.1
theorem chkFs_zero {ls : List Ln} : ∀ (fs : List Fl) (met : List (List UInt8)), chkFs ls met fs = 0 → ∀ f ∈ fs, FlRight ls f ∧ f.name ∉ met
 | [], _, _, f, hf => by cases hf
 | y :: r, met, h, f, hf => by
  rw [chkFs] at h
  by_cases h1 : flE met ls y ≠ 0
  ·rw [if_pos h1] at h; exact absurd h h1
  ·rw [if_neg h1] at h
   rcases List.mem_cons.1 hf with rfl | hf
   ·exact flE_zero (Classical.not_not.1 h1)
   ·obtain ⟨a, b⟩ := chkFs_zero r _ h f hf
    exact ⟨a, fun hm => b (by simp [hm])⟩
theorem chkNet_zero {names : List (List UInt8)} {Ls : List Ln} {Fs : List Fl} (h : chkNet names Ls Fs = 0) : (1 ≤ Ls.length ∧ Ls.length ≤ 8) ∧ Fs.length ≤ 10 ∧ names.length = Ls.length ∧ chkLs [] (names.zip Ls) = 0 ∧ chkFs Ls [] Fs = 0 := by
 unfold chkNet at h
 by_cases h1 : Ls.length = 0 ∨ 8 < Ls.length ∨ 10 < Fs.length
 ·rw [if_pos h1] at h; cases h
 ·rw [if_neg h1] at h
  by_cases h2 : names.length ≠ Ls.length
  ·rw [if_pos h2] at h; cases h
  ·rw [if_neg h2] at h
   by_cases h3 : chkLs [] (names.zip Ls) ≠ 0
   ·rw [if_pos h3] at h; exact absurd h h3
   ·rw [if_neg h3] at h
    exact ⟨by omega, by omega, by omega, Classical.not_not.1 h3, h⟩
theorem names_le {names : List (List UInt8)} {Ls : List Ln} (h : chkLs [] (names.zip Ls) = 0) (hl : names.length = Ls.length) : ∀ x ∈ names, x.length ≤ 12 ∧ wordB x = true := fun x hx => by
 obtain ⟨i, hi, rfl⟩ := List.getElem_of_mem hx
 have hz : i < (names.zip Ls).length := by rw [List.length_zip]; omega
 have := (chkLs_zero _ _ h _ (List.getElem_mem hz)).1
 rw [List.getElem_zip] at this
 exact ⟨(of_decide_eq_true this).2.1, this⟩
def wFlow : List UInt8 := [102, 108, 111, 119]
def wayL (names : List (List UInt8)) (route : List Int) : List (List UInt8) := route.map fun l => nth names l.toNat
def flWords (names : List (List UInt8)) (f : Fl) : List (List UInt8) := [wFlow, f.name, Lib.decDigits f.cls.toNat, Lib.decDigits f.lo.toNat, Lib.decDigits f.hi.toNat, Lib.join (wayL names f.route) [62], (formatR f.cv).1]
def fmtFE (names : List (List UInt8)) (Ls : List Ln) (f : Fl) : Int := if chkNet names Ls [f] ≠ 0 then chkNet names Ls [f] else (formatR f.cv).2
/-- the text of a flow -/
def fmtF (names : List (List UInt8)) (Ls : List Ln) (f : Fl) : List UInt8 := if fmtFE names Ls f = 0 then Lib.join (flWords names f) [32] else []
theorem fmtR_le (c : Cv) : (formatR c).1.length ≤ 4000 := by
 unfold formatR
 split
 ·exact Nat.zero_le _
 ·split
  ·exact Nat.zero_le _
  ·rename_i h; show (fmtC c).length ≤ 4000; omega
theorem way_le {names : List (List UInt8)} {Ls : List Ln} {f : Fl} (hn : ∀ x ∈ names, x.length ≤ 12 ∧ wordB x = true) (hr : FlRight Ls f) : (Lib.join (wayL names f.route) [62]).length ≤ 52 := by
 have h := join_le (k := 12) (wayL names f.route) 62 (fun x hx => by
  obtain ⟨l, hl, rfl⟩ := List.mem_map.1 hx
  by_cases h : l.toNat < names.length
  ·exact (hn _ (nth_mem h)).1
  ·rw [nth_out (by omega)]; exact Nat.zero_le _)
 have hw : (wayL names f.route).length = f.route.length := List.length_map ..
 have := hr.len
 rw [hw] at h
 omega
theorem fl_le {names : List (List UInt8)} {Ls : List Ln} {f : Fl} (hn : ∀ x ∈ names, x.length ≤ 12 ∧ wordB x = true) (hr : FlRight Ls f) (hls : ∀ m ∈ Ls, m.n ≤ 9999) (hnl : names.length = Ls.length) : (Lib.join (flWords names f) [32]).length ≤ 28007 := by
 have hnl12 : f.name.length ≤ 12 := (of_decide_eq_true hr.word).2.1
 have hw := way_le hn hr
 have hs := hr.sizes
 have hl := hr.len
 have hr0 := hr.route _ (nth_mem (show 0 < f.route.length by omega))
 have hcl : f.cls ≤ 9999 := by
  have h0 : (nth f.route 0).toNat < Ls.length := by omega
  have := hls _ (nth_mem h0)
  omega
 have d1 : (Lib.decDigits f.cls.toNat).length ≤ 4 := decD_le 4 _ (by decide) (by omega)
 have d2 : (Lib.decDigits f.lo.toNat).length ≤ 4 := decD_le 4 _ (by decide) (by omega)
 have d3 : (Lib.decDigits f.hi.toNat).length ≤ 4 := decD_le 4 _ (by decide) (by omega)
 have hf := fmtR_le f.cv
 have h := join_le (k := 4000) (flWords names f) 32 (fun x hx => by
  unfold flWords at hx
  simp only [List.mem_cons, List.not_mem_nil, or_false] at hx
  rcases hx with rfl | rfl | rfl | rfl | rfl | rfl | rfl
  ·decide
  all_goals omega)
 exact h
end Go.Proofs.YtmidibkljoaoiaaGreatDoor.M

/- The text of a network. Plain. No condition. -/
namespace Go.Proofs.YtmidibkljoaoiaaGreatDoor.M
open Go Go.Proofs.YtmidibkljoaoiaaGreatDoor.K
theorem lines_n {names : List (List UInt8)} {Ls : List Ln} (h : chkLs [] (names.zip Ls) = 0) (hl : names.length = Ls.length) : ∀ m ∈ Ls, chkL m = 0 ∧ m.n ≤ 9999 := fun m hm => by
 obtain ⟨i, hi, rfl⟩ := List.getElem_of_mem hm
 have hz : i < (names.zip Ls).length := by rw [List.length_zip]; omega
 have h5 := (chkLs_zero _ _ h _ (List.getElem_mem hz)).2
 rw [List.getElem_zip] at h5
 have h6 := (chk_facts h5).2.2.2.2.1
 dsimp only at h5 h6
 exact ⟨h5, by omega⟩
theorem fmtF_le (names : List (List UInt8)) (Ls : List Ln) (f : Fl) : (fmtF names Ls f).length ≤ 28007 := by
 unfold fmtF
 split
 ·rename_i h
  unfold fmtFE at h
  by_cases h1 : chkNet names Ls [f] ≠ 0
  ·rw [if_pos h1] at h; exact absurd h h1
  ·obtain ⟨_, _, h2, h3, h4⟩ := chkNet_zero (Classical.not_not.1 h1)
   exact fl_le (names_le h3 h2) (chkFs_zero _ _ h4 f (by simp)).1 (fun m hm => (lines_n h3 h2 m hm).2) h2
 ·exact Nat.zero_le _
def flErr (names : List (List UInt8)) (Ls : List Ln) : List Fl → Int
  | [] => 0
  | f :: r => if fmtFE names Ls f ≠ 0 then fmtFE names Ls f else flErr names Ls r
def textN (names : List (List UInt8)) (Ls : List Ln) (Fs : List Fl) : List UInt8 := rowsT ((names.zip Ls).map rowX) ++ rowsT (Fs.map (fmtF names Ls))
/-- the text of a network, and its error -/
def fmtN (names : List (List UInt8)) (Ls : List Ln) (Fs : List Fl) : List UInt8 × Int :=
  if chkNet names Ls Fs ≠ 0 then ([], chkNet names Ls Fs)
  else if fmtErr (names.zip Ls) ≠ 0 then ([], fmtErr (names.zip Ls))
  else if flErr names Ls Fs ≠ 0 then ([], flErr names Ls Fs)
  else if 4000 < (textN names Ls Fs).length then ([], 3) else (textN names Ls Fs, 0)
end Go.Proofs.YtmidibkljoaoiaaGreatDoor.M

/- The flows that keep draws. Plain. No condition. -/
namespace Go.Proofs.YtmidibkljoaoiaaGreatDoor.M
open Go Go.Proofs.YtmidibkljoaoiaaGreatDoor.K
def stairC (burst : Int) (p : Nat) (more : Int) : Cv := ⟨0 :: List.replicate p burst, p, more⟩
structure StairP (c : Cv) : Prop where
  ex : ∃ (burst : Int) (p : Nat) (more : Int), c = stairC burst p more ∧ (4 ≤ burst ∧ burst ≤ 16) ∧ (1 ≤ p ∧ p ≤ 12) ∧ 0 ≤ more ∧ more ≤ 3
structure DrawF (k m : Nat) (f : Fl) : Prop where
  cls : 0 ≤ f.cls ∧ f.cls < k
  sizes : 1 ≤ f.lo ∧ f.lo ≤ f.hi ∧ f.hi ≤ 7
  len : 1 ≤ f.route.length ∧ f.route.length ≤ 3
  route : ∀ l ∈ f.route, 0 ≤ l ∧ l < m
  nodup : f.route.Nodup
  cv : StairP f.cv
def nf5 : List (List UInt8) := [[102], [103], [104], [105], [106]]
theorem nf5_len (i : Nat) : (nth nf5 i).length ≤ 100 := by
 by_cases h : i < nf5.length
 ·have : ∀ x ∈ nf5, x.length ≤ 100 := by decide
  exact this _ (nth_mem h)
 ·rw [nth_out (by omega)]; decide
def wayR (a s : Int) (m j : Nat) : List Int := (List.range j).map fun (i : Nat) => mod (a + (i : Int) * s) (m : Int)
theorem way_nodup : ∀ m : Nat, m < 5 → ∀ a : Nat, a < m → ∀ j : Nat, j < 4 → j ≤ m → (wayR (a : Int) 1 m j).Nodup ∧ (wayR (a : Int) ((m : Int) - 1) m j).Nodup := by decide
theorem pick6 : ∀ i, i < 6 → 1 ≤ nth ([1, 2, 3, 4, 6, 12] : List Int) i ∧ nth ([1, 2, 3, 4, 6, 12] : List Int) i ≤ 12 := by decide
theorem wayR_snoc (a s : Int) (m j : Nat) : wayR a s m (j + 1) = wayR a s m j ++ [mod (a + j * s) m] := by
 unfold wayR
 rw [List.range_succ, List.map_append, List.map_singleton]
theorem wayR_len (a s : Int) (m j : Nat) : (wayR a s m j).length = j := by unfold wayR; rw [List.length_map, List.length_range]
theorem way_step (a s : Int) (m j : Nat) (hm : 1 ≤ m) : mod (mod (a + j * s) m + s) m = mod (a + (j + 1 : Nat) * s) m := by
 unfold mod
 rw [if_neg (by omega), if_neg (by omega), if_neg (by omega), Int.emod_add_emod, show a + (j : Int) * s + s = a + ((j + 1 : Nat) : Int) * s by rw [Int.natCast_add, Int.add_mul]; omega]
theorem way_in {a s : Int} {m j : Nat} (hm : 1 ≤ m) : ∀ l ∈ wayR a s m j, 0 ≤ l ∧ l < m := fun l hl => by
 unfold wayR at hl
 obtain ⟨i, _, rfl⟩ := List.mem_map.1 hl
 have := mod_range (a + i * s) (show (1 : Int) ≤ (m : Int) by omega)
 exact this
theorem stair_nth {b : Int} {p i : Nat} (h1 : 1 ≤ i) (h2 : i ≤ p) : nth (0 :: List.replicate p b) i = b := by
 obtain ⟨j, rfl⟩ : ∃ j, i = j + 1 := ⟨i - 1, by omega⟩
 rw [nth_eq (by rw [List.length_cons, List.length_replicate]; omega), List.getElem_cons_succ, List.getElem_replicate]
theorem stair_valid {c : Cv} (h : StairP c) : validB c = true ∧ nth c.vals 0 = 0 ∧ finB c = true ∧ c.vals.length ≤ 13 := by
 obtain ⟨b, p, q, rfl, hb, hp, hq⟩ := h.ex
 have hl : (stairC b p q).vals.length = p + 1 := by show (0 :: List.replicate p b).length = _; rw [List.length_cons, List.length_replicate]
 have h0 : nth (stairC b p q).vals 0 = 0 := rfl
 have hlast : nth (stairC b p q).vals ((stairC b p q).vals.length - 1) = b := by rw [hl]; exact stair_nth (by omega) (by omega)
 have hI : INF = 4611686018427387904 := rfl
 have hM : MAXV = 1073741824 := rfl
 refine ⟨?_, h0, ?_, by omega⟩
 ·refine validB_iff.2 ⟨⟨by omega, by omega, by show (1 : Int) ≤ (p : Int); omega, by show (p : Int) ≤ 120; omega, by rw [hl]; show (p : Int) ≤ ((p + 1 : Nat) : Int); omega, hq.1, by show q ≤ _; omega⟩, fun i hi => ?_, ?_⟩
  ·rw [hl] at hi
   rcases Nat.eq_zero_or_pos i with rfl | h1
   ·rw [h0]; exact ⟨.inr ⟨Int.le_refl 0, by omega⟩, .inl rfl⟩
   ·have e : nth (stairC b p q).vals i = b := stair_nth h1 (by omega)
    rw [e]
    refine ⟨.inr ⟨by omega, by omega⟩, .inr ?_⟩
    rcases Nat.eq_zero_or_pos (i - 1) with h2 | h2
    ·rw [h2, h0]; omega
    ·rw [show nth (stairC b p q).vals (i - 1) = b from stair_nth h2 (by omega)]; exact Int.le_refl b
  ·rw [hlast, if_neg (by omega)]
   have e : nth (stairC b p q).vals ((stairC b p q).vals.length - (stairC b p q).per.toNat) = b := by
    rw [hl]; show nth _ (p + 1 - (p : Int).toNat) = b; rw [show p + 1 - (p : Int).toNat = 1 by omega]; exact stair_nth (by omega) (by omega)
   rw [e]
   show b ≤ b + q
   omega
 ·unfold finB
  rw [hlast]
  exact bne_iff_ne.2 (by omega)
end Go.Proofs.YtmidibkljoaoiaaGreatDoor.M

/- At most seven words, the last with all that is left: what strings.SplitN gives. Plain. No condition. -/
namespace Go.Proofs.YtmidibkljoaoiaaGreatDoor.M
open Go Go.Proofs.YtmidibkljoaoiaaGreatDoor.K
theorem join_splC (d : UInt8) : ∀ (n : Nat) (s : List UInt8), s.length ≤ n → Lib.join (splC d s) [d] = s
 | n, s, hn => by
  cases hs : splC d s with
  | nil => exact absurd hs (splC_ne d s)
  | cons w ws =>
   obtain ⟨h1, ⟨rfl, rfl⟩ | ⟨s', rfl, rfl⟩⟩ := splC_cons hs
   ·simp [Lib.join, List.intercalate]
   ·match n with
    | 0 => simp at hn
    | n + 1 =>
     have hl : s'.length ≤ n := by rw [List.length_append, List.length_cons] at hn; omega
     have ih := join_splC d n s' hl
     cases hs' : splC d s' with
     | nil => exact absurd hs' (splC_ne d s')
     | cons x xs =>
      rw [join_cons, ← hs', ih, List.append_assoc]
      rfl
/-- the first k words and the rest -/
def spN (d : UInt8) (k : Nat) (ws : List (List UInt8)) : List (List UInt8) := if k + 1 ≤ ws.length then ws.take k ++ [Lib.join (ws.drop k) [d]] else ws
theorem splitK_spN (d : UInt8) : ∀ (k : Nat) (s : List UInt8), Lib.splitK [d] 0 k s = spN d k (splC d s)
 | 0, s => by
  have h := join_splC d s.length s (Nat.le_refl _)
  have hl : 0 + 1 ≤ (splC d s).length := by
   cases hs : splC d s with
   | nil => exact absurd hs (splC_ne d s)
   | cons x xs => rw [List.length_cons]; omega
  unfold spN
  rw [if_pos hl, List.drop_zero, h]
  rfl
 | k + 1, s => by
  cases hs : splC d s with
  | nil => exact absurd hs (splC_ne d s)
  | cons w ws =>
   obtain ⟨h1, ⟨rfl, rfl⟩ | ⟨s', rfl, rfl⟩⟩ := splC_cons hs
   ·rw [Lib.splitK, if_pos (by rw [idx_none h1]; rfl)]
    unfold spN
    rw [if_neg (by simp)]
   ·have hi := idx_word (s' := s') h1
    have hd : (w ++ d :: s').drop (w.length + [d].length) = s' := by
     rw [← List.drop_drop, List.drop_left]; rfl
    rw [Lib.splitK, if_neg (by rw [hi, beq_iff_eq]; omega), hi, Int.toNat_natCast, hd, splitK_spN d k s', Nat.add_zero, List.take_left]
    unfold spN
    by_cases h : k + 1 ≤ (splC d s').length
    ·rw [if_pos h, if_pos (by rw [List.length_cons]; omega)]; rfl
    ·rw [if_neg h, if_neg (by rw [List.length_cons]; omega)]
theorem spN_all {d : UInt8} {k : Nat} {ws : List (List UInt8)} (h : ws.length ≤ k + 1) : spN d k ws = ws := by
 unfold spN
 split
 ·have hl : ws.length = k + 1 := by omega
  have hd : ws.drop k = [nth ws k] := by
   rw [List.drop_eq_getElem_cons (by omega), nth_eq (by omega), List.drop_of_length_le (by omega)]
  rw [hd, show Lib.join [nth ws k] [d] = nth ws k by simp [Lib.join, List.intercalate]]
  rw [← take_nth (by omega), List.take_of_length_le (by omega)]
 ·rfl
def w7 (s : List UInt8) : List (List UInt8) := spN 32 6 (splC 32 s)
theorem splitK_w7 (s : List UInt8) : Lib.splitK [32] 0 (min 7 (s.length + 1) - 1) s = w7 s := by
 rw [splitK_spN]
 have hl := splC_len 32 s
 unfold w7
 by_cases h : 7 ≤ s.length + 1
 ·rw [show min 7 (s.length + 1) - 1 = 6 by omega]
 ·rw [spN_all (by omega), spN_all (by omega)]
theorem w7_len (s : List UInt8) : (w7 s).length ≤ 7 ∧ ((w7 s).length = 7 ↔ 7 ≤ (splC 32 s).length) := by
 unfold w7 spN
 split
 ·rw [List.length_append, List.length_take]
  refine ⟨?_, ?_⟩
  ·show min 6 _ + 1 ≤ 7; omega
  ·show min 6 _ + 1 = 7 ↔ _; omega
 ·omega
theorem w7_mem (s : List UInt8) : ∀ x ∈ w7 s, x.length ≤ s.length := by
 intro x hx
 unfold w7 spN at hx
 split at hx
 ·rename_i h
  rcases List.mem_append.1 hx with hx | hx
  ·exact splC_mem 32 s x (List.mem_of_mem_take hx)
  ·rw [List.mem_singleton.1 hx]
   have e := join_splC 32 s.length s (Nat.le_refl _)
   have : ∀ (k : Nat) (ws : List (List UInt8)), (Lib.join (ws.drop k) [32]).length ≤ (Lib.join ws [32]).length := by
    intro k
    induction k with
    | zero => intro ws; exact Nat.le_refl _
    | succ k ih =>
     intro ws
     match ws with
     | [] => exact Nat.le_refl _
     | [a] => simp [Lib.join, List.intercalate]
     | a :: b :: r =>
      rw [join_cons, List.length_append]
      have := ih (b :: r)
      rw [show List.drop (k + 1) (a :: b :: r) = List.drop k (b :: r) from rfl]
      omega
   have := this 6 (splC 32 s)
   rw [e] at this
   exact this
 ·exact splC_mem 32 s x hx
end Go.Proofs.YtmidibkljoaoiaaGreatDoor.M

/- Rules: calls that hand back one value and leave memory, under any guard, in regions that draw their order and write; what is not wanted. No condition. -/
namespace Go.Proofs.YtmidibkljoaoiaaGreatDoor.K
open Go Go.RowKit
section
variable {P : Program} {ops : List Oper} {o : Oper} {Q : Exit → Act → World → Prop} {ES : List Ent} {R0 : Ro} {w0 : World} {fuel : Nat} {listed : Array Bool} {n : Nat} {env : Env} {R : Ro} {E : List Ent} {pc q : Bool}
theorem WA.callV {v : Value} {d : Nat} {f : FuncId} {vs : List Value} (i : Nat) (hi : ops.toArray[i]? = some o) (hr : Region.ready .any ops.toArray listed = [i]) (hf : Enters P f) (hg : gpc ops env o = some pc) (hd : o.dst = some d) (hdn : d < n)
  (hc : CallOp env o.op q f vs) (hq : pc = true → q = true) (hv : pc = true → FnV P f vs R v) (hsub : ES.Sublist E) (hR : RLe R0 R)
  (h : WA P ops Q ES R0 w0 fuel (listed.setIfInBounds i true) n ((d, pc, v) :: env) R E) : WA P ops Q ES R0 w0 (fuel + 1) listed n env R E := by
 intro a w hk hm
 refine wpAnyH_all hr (by simp) fun j hj => ?_
 obtain rfl : j = i := by simpa using hj
 unfold wpOp
 rw [hi]
 have hput := hk.put hdn pc v
 have hw := hk.wanted hg
 cases pc with
 | true =>
  simp only [hw, if_true]
  left
  unfold Oper.wp
  rw [run_call hk hc (hq rfl) hf]
  refine (hv rfl w0 E w hm).mono ?_
  rintro e w' ⟨rfl, hm'⟩
  simp only [hd]
  exact ⟨hm'.sub hR hsub, h _ _ (by simpa using hput) hm'⟩
 | false =>
  simp only [hw, Bool.false_eq_true, if_false, hd]
  exact ⟨hm.sub hR hsub, h _ _ (by simpa using hput) hm⟩
theorem WS.callV {v : Value} {d : Nat} {f : FuncId} {vs : List Value} {i : Nat} (hi : ops.toArray[i]? = some o) (hf : Enters P f) (hg : gpc ops env o = some pc) (hd : o.dst = some d) (hdn : d < n)
  (hc : CallOp env o.op q f vs) (hq : pc = true → q = true) (hv : pc = true → FnV P f vs R v) (hsub : ES.Sublist E) (hR : RLe R0 R)
  (h : WA P ops Q ES R0 w0 fuel (listed.setIfInBounds i true) n ((d, pc, v) :: env) R E) : WS P ops Q ES R0 w0 fuel listed n env R E i := by
 intro a w hk hm
 unfold wpOp
 rw [hi]
 have hput := hk.put hdn pc v
 have hw := hk.wanted hg
 cases pc with
 | true =>
  simp only [hw, if_true]
  left
  unfold Oper.wp
  rw [run_call hk hc (hq rfl) hf]
  refine (hv rfl w0 E w hm).mono ?_
  rintro e w' ⟨rfl, hm'⟩
  simp only [hd]
  exact ⟨hm'.sub hR hsub, h _ _ (by simpa using hput) hm'⟩
 | false =>
  simp only [hw, Bool.false_eq_true, if_false, hd]
  exact ⟨hm.sub hR hsub, h _ _ (by simpa using hput) hm⟩
theorem Yl.off {v : Value} (h : pc = false) : Yl P n env w0 R E o pc v := fun _ _ _ _ hp => by rw [h] at hp; cases hp
end
end Go.Proofs.YtmidibkljoaoiaaGreatDoor.K

/- Rules: maps of a few keys (make, insert, look up), values in interfaces, calls of methods. No condition. -/
namespace Go.Proofs.YtmidibkljoaoiaaGreatDoor.K
open Go Go.RowKit
section
variable {P : Program} {T : Tab} {ops rest : List Oper} {Q : Exit → Act → World → Prop} {n : Nat} {env : Env} {w0 : World} {R : Ro} {E : List Ent} {o : Oper} {pc p q : Bool}
theorem under_map (hT : TabOk P T) {t k e : TypeId} {d : TD} (hd : T.at t = some d) (hk : d.k = .map k e) : P.underlying t = some (.map k e) := by
 have := hT.kind hd
 rw [hk] at this
 unfold kindOf at this
 split at this <;> simp_all
theorem under_int (hT : TabOk P T) {t : TypeId} {k : IntKind} {d : TD} (hd : T.at t = some d) (hk : d.k = .int k) : P.underlying t = some (.int k) := by
 have := hT.kind hd
 rw [hk] at this
 unfold kindOf at this
 split at this <;> simp_all
theorem Ef.makeMap {K : Value → Ro → List Ent → Prop} {t : TypeId} (ho : o.op = .makeMap t none) (hK : ∀ b, K (.map (some b)) R (.obj b (.map #[] 0) :: E)) : Ef P n env w0 R E o K := by
 intro a w hk hm
 refine ⟨_, w.alloc (.map #[] 0), R, _, .inl ?_, hm.newObj _, hK _⟩
 unfold execOp
 simp [ho, run_makeMap_plain]
theorem Ef.insert {K : Value → Ro → List Ent → Prop} {t kt et : TypeId} {x y z : Operand} {b clock : Nat} {es : Array MapEntry} {kk : IntKind} {k : Int} {v : Value} {d d2 : TD} (hT : TabOk P T) (ho : o.op = .insert t x y z) (hd : T.at t = some d) (hkd : d.k = .map kt et) (hd2 : T.at kt = some d2) (hk2 : d2.k = .int kk)
  (hx : ev env x = some (true, .map (some b))) (hy : ev env y = some (true, .int kk k)) (hz : ev env z = some (true, v)) (hf : Instr.findNow (.int kk) (.int kk k) es.toList 0 = some none)
  (hK : K undef R (.obj b (.map (es.push { key := .int kk k, val := v, born := clock }) (clock + 1)) :: E)) : Ef P n env w0 R (.obj b (.map es clock) :: E) o K := by
 intro a w hk hm
 have hb := hm.getObj
 have hm1 := under_map hT hd hkd
 have hu2 := under_int hT hd2 hk2
 have hc : (Instr.checkKey false 10000 kt (.int kk k)).run P w = .ok () w := MapKept.run_checkKey (k := .int kk k) hu2 (by simp [MapKept.IsKey]) false 9999
 refine ⟨undef, w.putObj b (.map (es.push { key := .int kk k, val := v, born := clock }) (clock + 1)), R, _, .inr ⟨?_, rfl⟩, hm.putObj _, hK⟩
 unfold execOp
 simp [ho, hk.ev hx rfl, hk.ev hy rfl, hk.ev hz rfl, Instr.mapUpdate, run_underlying hm1, MapKept.run_getObj_map hb, hc, MapKept.run_findKey hu2 hf, MapKept.run_setObj_map _ hb, Result.andThen, World.putObj]
def foundV (z : Value) : Option (Nat × Value) → Value
  | some (_, u) => .tuple #[u, .bool true]
  | none => .tuple #[z, .bool false]
theorem Yl.lookup {t kt et : TypeId} {x y : Operand} {b clock : Nat} {es : Array MapEntry} {kk : IntKind} {k : Int} {v z : Value} {d d2 : TD} {r : Option (Nat × Value)} (hT : TabOk P T) (ho : o.op = .lookup t x y true) (hd : T.at t = some d) (hkd : d.k = .map kt et) (hd2 : T.at kt = some d2) (hk2 : d2.k = .int kk) (hz : (P.info? et).bind (·.zero) = some z)
  (hx : ev env x = some (p, .map (some b))) (hy : ev env y = some (q, .int kk k)) (hpq : pc = true → (p && q) = true) (hf : Instr.findNow (.int kk) (.int kk k) es.toList 0 = some r)
  (hv : foundV z r = v) : Yl P n env w0 R (.obj b (.map es clock) :: E) o pc v := by
 intro a w hk hm hpc
 obtain ⟨h1, h2⟩ := and_both (hpq hpc)
 have hb := hm.getObj
 have hm1 := under_map hT hd hkd
 have hu2 := under_int hT hd2 hk2
 have hc : (Instr.checkKey es.isEmpty 10000 kt (.int kk k)).run P w = .ok () w := MapKept.run_checkKey (k := .int kk k) hu2 (by simp [MapKept.IsKey]) es.isEmpty 9999
 have hz' : (zeroValue et).run P w = .ok z w := by
  cases hi : P.info? et with
  | none => rw [hi] at hz; cases hz
  | some inf =>
   rw [hi] at hz
   have : inf.zero = some z := hz
   simp [zeroValue, typeInfo, hi, this]
 subst hv
 unfold execOp
 cases r with
 | none => simp [foundV, ho, hk.ev hx h1, hk.ev hy h2, Instr.lookup, run_underlying hm1, MapKept.run_getObj_map hb, hc, MapKept.run_findKey hu2 hf, hz', Result.andThen]
 | some r => simp [foundV, ho, hk.ev hx h1, hk.ev hy h2, Instr.lookup, run_underlying hm1, MapKept.run_getObj_map hb, hc, MapKept.run_findKey hu2 hf, Result.andThen]
theorem Yl.toIface {t : TypeId} {fs : List (Nat × Nat)} {x : Operand} {v : Value} {d : TD} (hT : TabOk P T) (ho : o.op = .makeInterface t x) (hd : T.at t = some d) (hk : d.k = .strct fs) (hx : ev env x = some (p, v)) (hpq : pc = true → p = true) : Yl P n env w0 R E o pc (.iface t v) := by
 intro a w hk2 hm hpc
 obtain ⟨ff, hu, _⟩ := hT.strct hd hk
 unfold execOp
 simp [ho, hk2.ev hx (hpq hpc), Instr.makeInterface, run_underlying hu]
/-- the method of what stands in an interface -/
def Meth (P : Program) (t : TypeId) (rv : Value) (name : String) (f : FuncId) (us : List Value) : Prop :=
  ∀ w, (callMethod (.iface t rv) name us.toArray).run P w = .ok (.enter f (rv :: us).toArray) w
theorem run_callI {a : Act} {w : World} (hk : Kn n env a) {x : Operand} {args : List Operand} {ats : Array TypeId} {name : String} {t : TypeId} {rv : Value} {f : FuncId} {us : List Value} (ho : o.op = .call { callee := .invoke x name, args := args.toArray, argTypes := ats })
  (hx : ev env x = some (true, .iface t rv)) (ha : evs env args = some (true, us)) (hm : Meth P t rv name f us) : (execOp a.eval o).run P w = .ok (.enter f (rv :: us).toArray) w := by
 have e1 := hk.ev hx rfl
 have e2 := evs_ok hk ha rfl
 have e3 : args.toArray.map a.eval = us.toArray := by rw [← e2]; simp
 have e4 : (#[Value.iface t rv] ++ us.toArray).extract 1 (#[Value.iface t rv] ++ us.toArray).size = us.toArray := by simp
 have e5 : (#[Value.iface t rv] ++ us.toArray)[0]? = some (.iface t rv) := by simp
 unfold execOp
 rw [ho]
 simp only [resolve, e1, e3, invoke, Sem.run_bind, Sem.run_pure, Result.andThen_ok]
 rw [e5]
 simp only [e4]
 exact hm w
theorem WL.callI {d : Nat} {x : Operand} {args : List Operand} {ats : Array TypeId} {name : String} {t : TypeId} {rv : Value} {f : FuncId} {us : List Value} {Post : Value → Ro → List Ent → Prop} (ho : o.op = .call { callee := .invoke x name, args := args.toArray, argTypes := ats }) (hg : o.guard = none) (hd : o.dst = some d) (hdn : d < n)
  (hx : ev env x = some (true, .iface t rv)) (ha : evs env args = some (true, us)) (hm : Meth P t rv name f us) (hv : Fn P f (rv :: us) w0 R E Post)
  (h : ∀ v R' E', RLe R R' → Post v R' E' → WG false P ops Q rest n ((d, true, v) :: env) w0 R' E') : WG false P ops Q (o :: rest) n env w0 R E := by
 intro a w hk hmm
 refine wpList_plain hg fun K hK => ?_
 unfold Oper.wp
 rw [run_callI hk ho hx ha hm]
 refine (hv w hmm).mono ?_
 rintro e w' ⟨v, R', E', rfl, hR, hm', hp⟩
 simp only [hd]
 exact hK _ _ (h v R' E' hR hp _ _ (hk.putT hdn v) hm')
theorem WA.freezeBlk {ES : List Ent} {R0 : Ro} {fuel : Nat} {listed : Array Bool} {b : Nat} {cs : List Value} (i : Nat) (hE : E[i]? = some (.blk b cs)) (h : ∀ R', RLe R R' → R' b = some cs → WA P ops Q ES R0 w0 fuel listed n env R' (E.eraseIdx i)) : WA P ops Q ES R0 w0 fuel listed n env R E := by
 intro a w hk hm
 obtain ⟨R', hR, hb, hm'⟩ := hm.freezeBlk hE
 exact h R' hR hb a w hk hm'
/-- what a run hands back, read only: the ticks and the bytes -/
def RunV (out : List Int × List (List Int)) (E : List Ent) (T : Value → Value) (v : Value) (R' : Ro) (E' : List Ent) : Prop :=
  ∃ (da oa : Option Addr) (dc oc : Nat) (rows : List M.Sl), v = T (.agg #[.slice da out.1.length dc, .slice oa rows.length oc]) ∧ RS R' 1 encI da out.1 ∧ RS R' 1 M.encS oa rows ∧ (∀ r ∈ rows, RS R' 1 encI r.a r.xs) ∧ rows.map M.Sl.xs = out.2 ∧ (∀ r ∈ rows, r.xs.length ≤ r.cap) ∧ E.Sublist E'
end
end Go.Proofs.YtmidibkljoaoiaaGreatDoor.K

/- Functions that may panic with a value: their contracts, and the rules that take and pass a panic. No condition. -/
namespace Go.Proofs.YtmidibkljoaoiaaGreatDoor.K
open Go Go.RowKit
section
variable {P : Program} {T : Tab} {n : Nat} {env : Env} {w0 : World} {R : Ro} {E : List Ent} {Q : Exit → Act → World → Prop} {K : Act → World → Prop} {ch : List PanicEntry}
theorem WE.then_panic (h : WE Q (.panic ch) n env w0 R E) : WE (Exit.then K Q) (.panic ch) n env w0 R E := h
theorem WE.blk_panic {id : Nat} (h : WE Q (.panic ch) n env w0 R E) : WE (Exit.inBlock id Q) (.panic ch) n env w0 R E := h
/-- a function's contract: it returns, or it panics with a value -/
def FnXR (w0 : World) (R0 : Ro) (Post PX : Value → Ro → List Ent → Prop) : Ending → World → Prop :=
  fun e w' => (∃ v R' E', e = .returned v ∧ RLe R0 R' ∧ Mem w0 w' R' E' ∧ Post v R' E') ∨ (∃ v R' E', e = .panicked [{ v := v, recovered := false }] ∧ RLe R0 R' ∧ Mem w0 w' R' E' ∧ PX v R' E')
def FnX (P : Program) (f : FuncId) (args : List Value) (w0 : World) (R : Ro) (E : List Ent) (Post PX : Value → Ro → List Ent → Prop) : Prop :=
  ∀ w, Mem w0 w R E → Calls P f args.toArray w (FnXR w0 R Post PX)
def FnXAt (P : Program) (f : FuncId) (vs : List Value) (w0 : World) (R : Ro) (e : Ent) (Post : Value → Ro → Ent → List Ent → Prop) (PX : Value → Ro → Ent → Prop) : Prop :=
  ∀ F, FnX P f vs w0 R (e :: F) (fun v R' E' => ∃ e' N, E' = N ++ e' :: F ∧ Post v R' e' N) (fun v R' E' => ∃ e', E' = e' :: F ∧ PX v R' e')
theorem FnX.enter {f : FuncId} {fn : Func} {c : Code} {args : List Value} {Post PX : Value → Ro → List Ent → Prop} {n : Nat}
  (hf : P.funcs[f]? = some fn) (hb : fn.body = some c) (hn : fn.ntmps = n) (ha : args.length ≤ n) (hs : Nat.ble n 99999 = true)
  (h : W P c (bodyPost P fn (FnXR w0 R Post PX)) n (argEnv 0 args) w0 R E) : FnX P f args w0 R E Post PX := by
 intro w hm
 have hs := Nat.le_of_ble_eq_true hs
 refine calls_of_wp hf hb (h _ w ⟨?_, hs, (argEnv_mark 0 args (by omega)).symm, fun t p v ht => ?_⟩ hm)
 ·simp [hn]; omega
 ·obtain ⟨hp, _, hv⟩ := argEnv_look 0 args t p v ht
  simp only [Nat.sub_zero] at hv
  subst hp
  have hlt : t < args.length := (List.getElem?_eq_some_iff.1 hv).1
  rw [Array.getElem?_append_left (by simpa using hlt)]
  simpa using hv
theorem WE.retX (hT : TabOk P T) {fn : Func} {Post PX : Value → Ro → List Ent → Prop} {R0 : Ro} {rs : List ResultVar} (vs : List Value) (hr : fn.results = rs.toArray) (h : ResAll T env R E rs vs) (hR : RLe R0 R) (hp : Post (resVal vs) R E) (hds : markOf env = none := by rfl) :
  WE (bodyPost P fn (FnXR w0 R0 Post PX)) .ret n env w0 R E := fun _ _ hk hm => ⟨by rw [hk.defers]; unfold dsOf; rw [hds], resVal vs, results_ok hT hr hk hm h, .inl ⟨resVal vs, R, E, rfl, hR, hm, hp⟩⟩
theorem WE.endX (hT : TabOk P T) {fn : Func} {Post PX : Value → Ro → List Ent → Prop} {R0 : Ro} {rs : List ResultVar} (vs : List Value) (hr : fn.results = rs.toArray) (h : ResAll T env R E rs vs) (hR : RLe R0 R) (hp : Post (resVal vs) R E) (hds : markOf env = none := by rfl) :
  WE (bodyPost P fn (FnXR w0 R0 Post PX)) .normal n env w0 R E := fun _ _ hk hm => ⟨by rw [hk.defers]; unfold dsOf; rw [hds], resVal vs, results_ok hT hr hk hm h, .inl ⟨resVal vs, R, E, rfl, hR, hm, hp⟩⟩
theorem WE.panicX {fn : Func} {Post PX : Value → Ro → List Ent → Prop} {R0 : Ro} {v : Value} (hR : RLe R0 R) (hp : PX v R E) (hds : markOf env = none := by rfl) :
  WE (bodyPost P fn (FnXR w0 R0 Post PX)) (.panic [{ v := v, recovered := false }]) n env w0 R E := fun _ _ hk hm => ⟨by rw [hk.defers]; unfold dsOf; rw [hds], .inr ⟨v, R, E, rfl, hR, hm, hp⟩⟩
variable {o : Oper} {ops rest : List Oper}
/-- the text's own panic -/
theorem WL.panic {x : Operand} {t : TypeId} {u : Value} (hg : o.guard = none) (ho : o.op = .panic x) (hx : ev env x = some (true, .iface t u))
  (h : WE Q (.panic [{ v := .iface t u, recovered := false }]) n env w0 R E) : WG false P ops Q (o :: rest) n env w0 R E := by
 intro a w hk hm
 refine wpList_plain hg fun K hK => ?_
 have e : (execOp a.eval o).run P w = .halt (.panic (.iface t u)) w := by
  unfold execOp
  rw [ho]
  simp only [hk.ev hx rfl, Sem.run_bind, run_panic_iface]
  rfl
 unfold Oper.wp
 rw [e]
 exact h a w hk hm
/-- a call of a function that may panic -/
theorem WL.callX {d : Nat} {f : FuncId} {vs : List Value} {Post PX : Value → Ro → List Ent → Prop} (hf : Enters P f) (hg : o.guard = none) (hd : o.dst = some d) (hdn : d < n)
  (hc : CallOp env o.op true f vs) (hv : FnX P f vs w0 R E Post PX)
  (hx : ∀ v R' E', RLe R R' → PX v R' E' → WE Q (.panic [{ v := v, recovered := false }]) n env w0 R' E')
  (h : ∀ v R' E', RLe R R' → Post v R' E' → WG false P ops Q rest n ((d, true, v) :: env) w0 R' E') : WG false P ops Q (o :: rest) n env w0 R E := by
 intro a w hk hm
 refine wpList_plain hg fun K hK => ?_
 unfold Oper.wp
 rw [run_call hk hc rfl hf]
 refine (hv w hm).mono ?_
 rintro e w' (⟨v, R', E', rfl, hR, hm', hp⟩ | ⟨v, R', E', rfl, hR, hm', hp⟩)
 ·simp only [hd]
  exact hK _ _ (h v R' E' hR hp _ _ (hk.putT hdn v) hm')
 ·exact hx v R' E' hR hp _ _ hk hm'
/-- a call that turns the resource number i, or panics -/
theorem WL.callXAt {d : Nat} {f : FuncId} {vs : List Value} {e : Ent} {Post : Value → Ro → Ent → List Ent → Prop} {PX : Value → Ro → Ent → Prop} (i : Nat) (hf : Enters P f) (hg : o.guard = none) (hd : o.dst = some d) (hdn : d < n)
  (hc : CallOp env o.op true f vs) (hE : E[i]? = some e)
  (hv : FnX P f vs w0 R (e :: E.eraseIdx i) (fun v R' E' => ∃ e' N, E' = N ++ e' :: E.eraseIdx i ∧ Post v R' e' N) (fun v R' E' => ∃ e', E' = e' :: E.eraseIdx i ∧ PX v R' e'))
  (hx : ∀ v R' e', RLe R R' → PX v R' e' → WE Q (.panic [{ v := v, recovered := false }]) n env w0 R' (E.set i e'))
  (h : ∀ v R' e' N, RLe R R' → Post v R' e' N → WG false P ops Q rest n ((d, true, v) :: env) w0 R' (N ++ E.set i e')) : WG false P ops Q (o :: rest) n env w0 R E := by
 intro a w hk hm
 refine wpList_plain hg fun K hK => ?_
 unfold Oper.wp
 rw [run_call hk hc rfl hf]
 refine (hv w (hm.perm (perm_get hE))).mono ?_
 rintro e0 w' (⟨v, R', E', rfl, hR, hm', e', N, rfl, hp⟩ | ⟨v, R', E', rfl, hR, hm', e', rfl, hp⟩)
 ·simp only [hd]
  exact hK _ _ (h v R' e' N hR hp _ _ (hk.putT hdn v) (hm'.perm ((perm_set e' hE).append_left N)))
 ·exact hx v R' e' hR hp _ _ hk (hm'.perm (perm_set e' hE))
end
end Go.Proofs.YtmidibkljoaoiaaGreatDoor.K
