/- Rules and walks, joined from 22 texts: the first of them says: A machine that is never idle, plain: what all classes together are sent, and in which order packets end, whatever the choice. No condition. -/
import Derived.Test.YtolmmfphdieilaaG1
/- A machine that is never idle, plain: what all classes together are sent, and in which order packets end, whatever the choice. No condition. -/
namespace Go.Proofs.Ytolmmfphdieilaa.M
open Go Go.Proofs.Ytolmmfphdieilaa.K

/-- all classes together -/
def colSum : List (List Int) → Nat → Int
  | [], _ => 0
  | l :: ls, t => nth l t + colSum ls t
/-- the bytes of the packets that have been begun -/
def begB : List Pkt → List Bool → Int
  | p :: ps, b :: bs => (if b then p.size else 0) + begB ps bs
  | _, _ => 0
theorem colSum_set : ∀ (sent : List (List Int)) (f : Nat) (l : List Int) (t : Nat), f < sent.length → colSum (sent.set f l) t = colSum sent t - nth (nth sent f) t + nth l t
  | [], f, l, t, h => by simp at h
  | x :: xs, 0, l, t, h => by simp [colSum, nth]; omega
  | x :: xs, f + 1, l, t, h => by
    have := colSum_set xs f l t (by simpa using h)
    simp only [List.set_cons_succ, colSum, this]
    rw [show nth (x :: xs) (f + 1) = nth xs f from rfl]; omega
theorem colSum_map {g : List Int → List Int} {t u : Nat} : ∀ (sent : List (List Int)), (∀ l ∈ sent, nth (g l) t = nth l u) → colSum (sent.map g) t = colSum sent u
  | [], _ => rfl
  | x :: xs, h => by
    simp only [List.map_cons, colSum]
    rw [h x (by simp), colSum_map xs (fun l hl => h l (by simp [hl]))]
theorem begB_set : ∀ (ps : List Pkt) (bs : List Bool) (i : Nat), i < ps.length → i < bs.length → nth bs i = false → begB ps (bs.set i true) = begB ps bs + (nth ps i).size
  | [], _, i, h, _, _ => by simp at h
  | _ :: _, [], i, _, h, _ => by simp at h
  | p :: ps, b :: bs, 0, _, _, hb => by
    have : b = false := hb
    subst this
    simp [begB, nth]; omega
  | p :: ps, b :: bs, i + 1, h1, h2, hb => by
    have := begB_set ps bs i (by simpa using h1) (by simpa using h2) hb
    simp only [List.set_cons_succ, begB, this]
    rw [show nth (p :: ps) (i + 1) = nth ps i from rfl]; omega
theorem begB_le {t : Int} : ∀ (ps : List Pkt) (bs : List Bool), bs.length = ps.length → (∀ p ∈ ps, 0 ≤ p.size) → (∀ i, i < ps.length → nth bs i = true → (nth ps i).time ≤ t) → begB ps bs ≤ pbytes (-1) (t + 1) ps
  | [], [], _, _, _ => by simp [begB, pbytes]
  | [], _ :: _, h, _, _ => by simp at h
  | _ :: _, [], h, _, _ => by simp at h
  | p :: ps, b :: bs, hl, hs, h => by
    have ih := begB_le ps bs (by simpa using hl) (fun q hq => hs q (by simp [hq])) (fun i hi hb => h (i + 1) (by simpa using hi) hb)
    have hp := hs p (by simp)
    simp only [begB, pbytes]
    have h0 : b = true → hit (-1) (t + 1) p := fun hb => by have := h 0 (by simp) hb; simp [nth] at this; unfold hit; omega
    cases b with
    | true => rw [if_pos rfl, if_pos (h0 rfl)]; omega
    | false => simp only [Bool.false_eq_true, if_false]; split <;> omega
theorem begB_eq {t : Int} : ∀ (ps : List Pkt) (bs : List Bool), bs.length = ps.length → (∀ i, i < ps.length → (nth bs i = true ↔ (nth ps i).time ≤ t)) → begB ps bs = pbytes (-1) (t + 1) ps
  | [], [], _, _ => by simp [begB, pbytes]
  | [], _ :: _, h, _ => by simp at h
  | _ :: _, [], h, _ => by simp at h
  | p :: ps, b :: bs, hl, h => by
    have ih := begB_eq ps bs (by simpa using hl) (fun i hi => h (i + 1) (by simpa using hi))
    simp only [begB, pbytes]
    have h0 := h 0 (by simp)
    simp [nth] at h0
    have h1 : b = true ↔ hit (-1) (t + 1) p := by rw [h0]; unfold hit; omega
    by_cases hb : b = true
    · rw [if_pos hb, if_pos (h1.1 hb)]; omega
    · rw [if_neg hb, if_neg (fun h => hb (h1.2 h))]; omega
theorem begB_none : ∀ (ps : List Pkt) (n : Nat), begB ps (List.replicate n false) = 0
  | [], _ => by simp [begB]
  | _ :: _, 0 => by simp [begB]
  | p :: ps, n + 1 => by simp [List.replicate_succ, begB, begB_none ps n]

/-- a choice of what waits; within rel the first -/
structure Fair {σ : Type} (ps : List Pkt) (ch : MS → σ → Int × Nat × σ) (good : MS → σ → Prop) (rel : Nat → Nat → Prop) : Prop extends Good ps ch good where
  waits : ∀ ms sg, good ms sg → ms.begun.length = ps.length → 0 ≤ (ch ms sg).1 → nth ms.begun (ch ms sg).1.toNat = false ∧ (nth ps (ch ms sg).1.toNat).time ≤ ms.now
  ord : ∀ ms sg, good ms sg → ms.begun.length = ps.length → 0 ≤ (ch ms sg).1 → ∀ i, i < (ch ms sg).1.toNat → rel i (ch ms sg).1.toNat → nth ms.begun i = true
/-- never idle while something waits -/
def Busy {σ : Type} (ps : List Pkt) (ch : MS → σ → Int × Nat × σ) (good : MS → σ → Prop) : Prop :=
  ∀ ms sg, good ms sg → ms.begun.length = ps.length → (ch ms sg).1 < 0 → ∀ i, i < ps.length → (nth ps i).time ≤ ms.now → nth ms.begun i = true

/-- what stays true: col is the column of the sums that is open -/
structure Wk {σ : Type} (ps : List Pkt) (classes : Nat) (good : MS → σ → Prop) (rel : Nat → Nat → Prop) (col : Nat) (s : RS σ) : Prop where
  good : good s.ms s.sg
  dlen : s.done.length = ps.length
  blen : s.ms.begun.length = ps.length
  slen : s.sent.length = classes
  rlen : ∀ l ∈ s.sent, l.length = col + 1
  cur : 0 ≤ s.cur → s.cur < ps.length ∧ nth s.ms.begun s.cur.toNat = true ∧ 1 ≤ s.rest
  open_ : ∀ i, i < ps.length → (nth s.ms.begun i = false ∨ s.cur = i) → nth s.done i = -1
  shut : ∀ i, i < ps.length → nth s.ms.begun i = true → s.cur ≠ i → 0 ≤ nth s.done i ∧ nth s.done i ≤ s.ms.now ∧ (nth ps i).time ≤ nth s.done i
  time : ∀ i, i < ps.length → nth s.ms.begun i = true → (nth ps i).time ≤ s.ms.now
  ord : ∀ k, k < ps.length → nth s.ms.begun k = true → ∀ i, i < k → rel i k → nth s.ms.begun i = true
  dord : ∀ k, k < ps.length → 0 ≤ nth s.done k → ∀ i, i < k → rel i k → 0 ≤ nth s.done i ∧ nth s.done i ≤ nth s.done k
  sum : colSum s.sent col = begB ps s.ms.begun - (if 0 ≤ s.cur then s.rest else 0)
section
variable {σ : Type} {ps : List Pkt} {ch : MS → σ → Int × Nat × σ} {good : MS → σ → Prop} {rel : Nat → Nat → Prop} {classes col : Nat} {s : RS σ}
theorem Wk.pickup (hg : Fair ps ch good rel) (hs : ∀ p ∈ ps, 1 ≤ p.size) (h : Wk ps classes good rel col s) : Wk ps classes good rel col (pickup ps ch s) := by
  unfold M.pickup
  by_cases hc : 0 ≤ s.cur
  · rw [if_pos hc]; exact h
  · rw [if_neg hc]
    by_cases hr : (ch s.ms s.sg).1 < 0
    · simp only [hr, if_true]
      exact ⟨hg.none _ _ h.good h.blen hr, h.dlen, h.blen, h.slen, h.rlen, fun h0 => by dsimp only at h0; omega, fun i hi ho => h.open_ i hi (by rcases ho with ho | ho; exact .inl ho; dsimp only at ho; omega),
        fun i hi hb hne => h.shut i hi hb (by omega), h.time, h.ord, h.dord, by dsimp only; rw [h.sum, if_neg hc, if_neg (by omega)]⟩
    · simp only [hr, if_false]
      have hi := hg.idx _ _ h.good h.blen (by omega)
      obtain ⟨w1, w2⟩ := hg.waits _ _ h.good h.blen (by omega)
      have w3 := hg.ord _ _ h.good h.blen (by omega)
      have hgs := hg.some _ _ h.good h.blen (by omega)
      generalize hj : (ch s.ms s.sg).1 = j at hr hi w1 w2 w3 hgs ⊢
      have hjn : j.toNat < ps.length := by omega
      have hbs : ∀ i, nth (s.ms.begun.set j.toNat true) i = true ↔ i = j.toNat ∨ nth s.ms.begun i = true := fun i => by
        by_cases e : j.toNat = i
        · subst e; rw [nth_set_self (by rw [h.blen]; exact hjn)]; simp
        · rw [nth_set_ne e]; constructor
          · exact .inr
          · rintro (e2 | h2)
            · exact absurd e2.symm e
            · exact h2
      refine ⟨hgs, h.dlen, by simp [h.blen], h.slen, h.rlen, fun _ => ⟨hi, (hbs _).2 (.inl rfl), hs _ (nth_mem hjn)⟩, fun i hi' ho => ?_, fun i hi' hb hne => ?_, fun i hi' hb => ?_, fun k hk hb i hik hr' => ?_, h.dord, ?_⟩
      · dsimp only at ho ⊢
        apply h.open_ i hi'
        left
        rcases ho with ho | ho
        · cases hb : nth s.ms.begun i with
          | false => rfl
          | true => rw [(hbs i).2 (.inr hb)] at ho; cases ho
        · rw [show i = j.toNat by omega]; exact w1
      · dsimp only at hb hne ⊢
        rcases (hbs i).1 hb with e | hb
        · omega
        · exact h.shut i hi' hb (by omega)
      · dsimp only at hb ⊢
        rcases (hbs i).1 hb with e | hb
        · subst e; exact w2
        · exact h.time i hi' hb
      · dsimp only at hb ⊢
        refine (hbs i).2 (.inr ?_)
        rcases (hbs k).1 hb with e | hb
        · subst e; exact w3 i hik hr'
        · exact h.ord k hk hb i hik hr'
      · dsimp only
        rw [h.sum, begB_set _ _ _ hjn (by rw [h.blen]; exact hjn) w1, if_neg hc, if_pos (by omega)]; omega
theorem Wk.send (hfl : ∀ p ∈ ps, 0 ≤ p.flow ∧ p.flow < classes) (hfree : ∀ ms sg n l, good ms sg → good { ms with now := n, left := l } sg) {t : Nat} (h : Wk ps classes good rel (t + 1) s) (hnow : s.ms.now = t) (hc : 0 ≤ s.cur) (hl : 0 < s.ms.left) :
    Wk ps classes good rel (t + 1) (send ps t s) ∧ colSum (send ps t s).sent (t + 1) = colSum s.sent (t + 1) + (s.ms.left - (send ps t s).ms.left) ∧ 0 ≤ (send ps t s).ms.left ∧ (send ps t s).ms.left < s.ms.left ∧ (send ps t s).ms.now = s.ms.now ∧
      ∀ c u, c < classes → u < t + 1 → nth (nth (send ps t s).sent c) u = nth (nth s.sent c) u := by
  obtain ⟨c1, c2, c3⟩ := h.cur hc
  have hfl' := hfl _ (nth_mem (show s.cur.toNat < ps.length by omega))
  have hn : 1 ≤ (if s.ms.left < s.rest then s.ms.left else s.rest) ∧ (if s.ms.left < s.rest then s.ms.left else s.rest) ≤ s.rest ∧ (if s.ms.left < s.rest then s.ms.left else s.rest) ≤ s.ms.left := by split <;> omega
  unfold M.send
  generalize (if s.ms.left < s.rest then s.ms.left else s.rest) = n at hn ⊢
  have hf : (nth ps s.cur.toNat).flow.toNat < s.sent.length := by rw [h.slen]; omega
  generalize (nth ps s.cur.toNat).flow.toNat = f at hf ⊢
  have hrow := h.rlen _ (nth_mem hf)
  have hcol : colSum (s.sent.set f ((nth s.sent f).set (t + 1) (nth (nth s.sent f) (t + 1) + n))) (t + 1) = colSum s.sent (t + 1) + n := by
    rw [colSum_set _ _ _ _ hf, nth_set_self (by omega)]; omega
  have hsum := h.sum
  rw [if_pos hc] at hsum
  dsimp only
  refine ⟨⟨hfree _ _ s.ms.now _ h.good, ?_, h.blen, by simp [h.slen], ?_, ?_, ?_, ?_, h.time, h.ord, ?_, ?_⟩, by rw [hcol]; omega, by omega, by omega, rfl, ?_⟩
  · dsimp only; split <;> simp [h.dlen]
  · dsimp only
    intro l hl'
    rcases List.mem_or_eq_of_mem_set hl' with h1 | rfl
    · exact h.rlen l h1
    · simp [hrow]
  · dsimp only
    intro h0
    by_cases hz : s.rest - n = 0
    · rw [if_pos hz] at h0; omega
    · rw [if_neg hz]; exact ⟨c1, c2, by omega⟩
  · dsimp only
    intro i hi ho
    by_cases hz : s.rest - n = 0
    · rw [if_pos hz] at ho ⊢
      rcases ho with ho | ho
      · by_cases e : s.cur.toNat = i
        · rw [e, ho] at c2; cases c2
        · rw [nth_set_ne e]; exact h.open_ i hi (.inl ho)
      · omega
    · rw [if_neg hz] at ho ⊢; exact h.open_ i hi ho
  · dsimp only
    intro i hi hb hne
    by_cases hz : s.rest - n = 0
    · rw [if_pos hz] at hne ⊢
      by_cases e : s.cur.toNat = i
      · subst e
        rw [nth_set_self (by rw [h.dlen]; omega)]
        have := h.time _ hi hb
        omega
      · rw [nth_set_ne e]; exact h.shut i hi hb (by omega)
    · rw [if_neg hz] at hne ⊢; exact h.shut i hi hb hne
  · dsimp only
    by_cases hz : s.rest - n = 0
    · rw [if_pos hz]
      intro k hk hd i hik hr
      by_cases e : s.cur.toNat = k
      · subst e
        rw [nth_set_self (by rw [h.dlen]; omega), nth_set_ne (by omega)]
        have := h.shut i (by omega) (h.ord _ hk c2 i hik hr) (by omega)
        omega
      · rw [nth_set_ne e] at hd ⊢
        have h1 := h.dord k hk hd i hik hr
        by_cases e2 : s.cur.toNat = i
        · have := h.open_ i (by omega) (.inr (by omega))
          omega
        · rw [nth_set_ne e2]; exact h1
    · rw [if_neg hz]; exact h.dord
  · dsimp only
    rw [hcol, hsum]
    by_cases hz : s.rest - n = 0
    · rw [if_pos hz, if_neg (by omega)]; omega
    · rw [if_neg hz, if_pos hc]; omega
  · intro c u hc' hu
    by_cases e : f = c
    · subst e; rw [nth_set_self hf, nth_set_ne (by omega)]
    · rw [nth_set_ne e]

/-- the end of a tick: all bytes are gone, or nothing waits -/
theorem Wk.inner (hg : Fair ps ch good rel) (hs : ∀ p ∈ ps, 1 ≤ p.size) (hfl : ∀ p ∈ ps, 0 ≤ p.flow ∧ p.flow < classes) {t : Nat} : ∀ (j : Nat) (s : RS σ), Wk ps classes good rel (t + 1) s → s.ms.now = t → 0 ≤ s.ms.left → s.ms.left ≤ j →
    ∃ s', inner ps ch t j s = s' ∧ Wk ps classes good rel (t + 1) s' ∧ s'.ms.now = t ∧ 0 ≤ s'.ms.left ∧ colSum s'.sent (t + 1) = colSum s.sent (t + 1) + (s.ms.left - s'.ms.left) ∧
      (s'.ms.left = 0 ∨ s'.cur < 0 ∧ (Busy ps ch good → ∀ i, i < ps.length → (nth ps i).time ≤ (t : Int) → nth s'.ms.begun i = true)) ∧ ∀ c u, c < classes → u < t + 1 → nth (nth s'.sent c) u = nth (nth s.sent c) u
  | 0, s, h, hn, h0, hj => ⟨s, rfl, h, hn, h0, by omega, .inl (by omega), fun _ _ _ _ => rfl⟩
  | j + 1, s, h, hn, h0, hj => by
    simp only [M.inner]
    by_cases hl : s.ms.left ≤ 0
    · rw [if_pos hl]
      exact ⟨s, rfl, h, hn, h0, by omega, .inl (by omega), fun _ _ _ _ => rfl⟩
    · rw [if_neg hl]
      have hp := h.pickup hg hs
      obtain ⟨e1, e2, e3, e4⟩ := pickup_same ps ch s
      by_cases hc : (M.pickup ps ch s).cur < 0
      · rw [if_pos hc]
        refine ⟨_, rfl, hp, by rw [e2]; exact hn, by rw [e1]; exact h0, by rw [e1, e3]; omega, .inr ⟨hc, fun hb => ?_⟩, fun c u _ _ => by rw [e3]⟩
        intro i hi ht
        unfold M.pickup at hc ⊢
        by_cases hc0 : 0 ≤ s.cur
        · rw [if_pos hc0] at hc; omega
        · rw [if_neg hc0] at hc ⊢
          by_cases hr : (ch s.ms s.sg).1 < 0
          · simp only [hr, if_true]
            exact hb _ _ h.good h.blen hr i hi (by omega)
          · simp only [hr, if_false] at hc
      · rw [if_neg hc]
        obtain ⟨g1, g2, g3, g4, g5, g6⟩ := hp.send hfl hg.free (by rw [e2]; exact hn) (by omega) (by rw [e1]; omega)
        obtain ⟨s', k1, k2, k3, k4, k5, k6, k7⟩ := Wk.inner hg hs hfl j _ g1 (by rw [g5, e2]; exact hn) g3 (by omega)
        refine ⟨s', k1, k2, k3, k4, ?_, k6, fun c u hc' hu => by rw [k7 c u hc' hu, g6 c u hc' hu, e3]⟩
        rw [k5, g2, e1, e3]; omega
theorem Wk.tick (hg : Fair ps ch good rel) (hs : ∀ p ∈ ps, 1 ≤ p.size) (hfl : ∀ p ∈ ps, 0 ≤ p.flow ∧ p.flow < classes) {t : Nat} {cap : Int} (hcap : 0 ≤ cap) (h : Wk ps classes good rel t s) (hnow : s.ms.now ≤ t) :
    Wk ps classes good rel (t + 1) (tick ps ch cap t s) ∧ (tick ps ch cap t s).ms.now = t ∧ (∀ c u, c < classes → u < t + 1 → nth (nth (tick ps ch cap t s).sent c) u = nth (nth s.sent c) u) ∧
      (Busy ps ch good → colSum (tick ps ch cap t s).sent (t + 1) = min (colSum s.sent t + cap) (pbytes (-1) ((t : Int) + 1) ps)) := by
  have hrow : ∀ l ∈ s.sent, nth (l ++ [nth l t]) (t + 1) = nth l t := fun l hl => by
    have := h.rlen l hl
    unfold nth List.getD
    rw [List.getElem?_append_right (by omega), this]; simp
  have hcol : colSum (s.sent.map fun l => l ++ [nth l t]) (t + 1) = colSum s.sent t := colSum_map _ hrow
  have h1 : Wk ps classes good rel (t + 1) { s with ms := { s.ms with now := t, left := cap }, sent := s.sent.map fun l => l ++ [nth l t] } := by
    refine ⟨hg.free _ _ _ _ h.good, h.dlen, h.blen, by simp [h.slen], fun l hl => ?_, h.cur, h.open_, fun i hi hb hne => ?_, fun i hi hb => ?_, h.ord, h.dord, by dsimp only; rw [hcol]; exact h.sum⟩
    · obtain ⟨l', h2, rfl⟩ := List.mem_map.1 hl
      simp [h.rlen l' h2]
    · have := h.shut i hi hb hne
      dsimp only; omega
    · have := h.time i hi hb
      dsimp only; omega
  obtain ⟨s', k1, k2, k3, k4, k5, k6, k7⟩ := Wk.inner hg hs hfl (t := t) cap.toNat _ h1 rfl hcap (by dsimp only; omega)
  unfold M.tick
  rw [k1]
  refine ⟨k2, k3, fun c u hc hu => ?_, fun hb => ?_⟩
  · rw [k7 c u hc hu]
    dsimp only
    rw [nth_map_lt _ (by rw [h.slen]; exact hc)]
    unfold nth List.getD
    rw [List.getElem?_append_left]
    have := h.rlen _ (nth_mem (xs := s.sent) (k := c) (by rw [h.slen]; exact hc))
    unfold nth List.getD at this
    rw [this]; exact hu
  · dsimp only at k5
    rw [hcol] at k5
    have hle := begB_le (t := (t : Int)) ps s'.ms.begun k2.blen (fun p hp => by have := hs p hp; omega) (fun i hi hb' => by have := k2.time i hi hb'; omega)
    have hsum := k2.sum
    rcases k6 with h0 | ⟨hc, hall⟩
    · have hrest : 0 ≤ (if 0 ≤ s'.cur then s'.rest else 0) := by
        split
        · rename_i hc; have := (k2.cur hc).2.2; omega
        · omega
      rw [k5, h0]; omega
    · rw [if_neg (by omega)] at hsum
      have heq := begB_eq (t := (t : Int)) ps s'.ms.begun k2.blen (fun i hi => ⟨fun hb' => by have := k2.time i hi hb'; omega, hall hb i hi⟩)
      rw [hsum, heq] at k5 ⊢
      omega
theorem Wk.start {sg : σ} (hg : good (start ps classes sg).ms sg) : Wk ps classes good rel 0 (start ps classes sg) := by
  refine ⟨hg, by simp [M.start], by simp [M.start], by simp [M.start], fun l hl => ?_, fun h => by simp [M.start] at h, fun i hi _ => by simp only [M.start]; rw [nth_replicate hi], fun i hi hb => ?_, fun i hi hb => ?_, fun k hk hb => ?_, fun k hk hd => ?_, ?_⟩
  · have : l = [0] := List.eq_of_mem_replicate hl
    simp [this]
  · simp only [M.start] at hb; rw [nth_replicate hi] at hb; cases hb
  · simp only [M.start] at hb; rw [nth_replicate hi] at hb; cases hb
  · simp only [M.start] at hb; rw [nth_replicate hk] at hb; cases hb
  · simp only [M.start] at hd; rw [nth_replicate hk] at hd; omega
  · show colSum (List.replicate classes [0]) 0 = begB ps (List.replicate ps.length false) - 0
    rw [begB_none]
    clear hg
    induction classes with
    | zero => rfl
    | succ n ih => rw [List.replicate_succ, colSum, ih]; rfl
/-- what a run is: all of Wk, and the sums of all classes together -/
theorem work_run (hg : Fair ps ch good rel) (hs : ∀ p ∈ ps, 1 ≤ p.size) (hfl : ∀ p ∈ ps, 0 ≤ p.flow ∧ p.flow < classes) {cap : Int} (hcap : 0 ≤ cap) {sg : σ} (hst : good (start ps classes sg).ms sg) : ∀ (m : Nat),
    Wk ps classes good rel m (mrun ps ch cap classes m sg) ∧ (mrun ps ch cap classes m sg).ms.now ≤ m ∧
      (∀ u, u < m → ∀ c, c < classes → nth (nth (mrun ps ch cap classes m sg).sent c) u = nth (nth (mrun ps ch cap classes u sg).sent c) u) ∧
      (Busy ps ch good → ∀ u, u < m → colSum (mrun ps ch cap classes (u + 1) sg).sent (u + 1) = min (colSum (mrun ps ch cap classes u sg).sent u + cap) (pbytes (-1) ((u : Int) + 1) ps))
  | 0 => ⟨Wk.start hst, by simp [mrun, ticksFrom, start], fun u hu => by omega, fun _ u hu => by omega⟩
  | m + 1 => by
    obtain ⟨h1, h2, h3, h4⟩ := work_run hg hs hfl hcap hst m
    have e : mrun ps ch cap classes (m + 1) sg = tick ps ch cap m (mrun ps ch cap classes m sg) := by
      unfold mrun; rw [ticksFrom_snoc, Nat.zero_add]
    obtain ⟨g1, g2, g3, g4⟩ := h1.tick hg hs hfl hcap h2
    rw [e]
    refine ⟨g1, by rw [g2]; omega, fun u hu c hc => ?_, fun hb u hu => ?_⟩
    · rw [g3 c u hc (by omega)]
      by_cases hum : u = m
      · subst hum; rfl
      · exact h3 u (by omega) c hc
    · by_cases hum : u = m
      · subst hum; rw [e]; exact g4 hb
      · exact h4 hb u (by omega)
theorem colSum_congr : ∀ {a b : List (List Int)} {u : Nat}, a.length = b.length → (∀ c, c < a.length → nth (nth a c) u = nth (nth b c) u) → colSum a u = colSum b u
  | [], [], _, _, _ => rfl
  | [], _ :: _, _, h, _ => by simp at h
  | _ :: _, [], _, h, _ => by simp at h
  | x :: xs, y :: ys, u, hl, h => by
    have h0 := h 0 (by simp)
    have := colSum_congr (a := xs) (b := ys) (u := u) (by simpa using hl) (fun c hc => h (c + 1) (by simpa using hc))
    simp only [colSum, this]
    rw [show nth x u = nth y u from h0]
/-- the sums of all classes, by ticks -/
def wsum (cap : Int) (ps : List Pkt) : Nat → Int
  | 0 => 0
  | t + 1 => min (wsum cap ps t + cap) (pbytes (-1) ((t : Int) + 1) ps)
theorem work_sum (hg : Fair ps ch good rel) (hs : ∀ p ∈ ps, 1 ≤ p.size) (hfl : ∀ p ∈ ps, 0 ≤ p.flow ∧ p.flow < classes) {cap : Int} (hcap : 0 ≤ cap) {sg : σ} (hst : good (start ps classes sg).ms sg) (hb : Busy ps ch good) {m u : Nat} (hu : u ≤ m) :
    colSum (mrun ps ch cap classes m sg).sent u = wsum cap ps u := by
  have key : ∀ u, colSum (mrun ps ch cap classes u sg).sent u = wsum cap ps u := by
    intro u
    induction u with
    | zero =>
      show colSum (List.replicate classes [0]) 0 = 0
      clear hfl hst
      induction classes with
      | zero => rfl
      | succ n ih => rw [List.replicate_succ, colSum, ih]; rfl
    | succ u ih =>
      rw [(work_run hg hs hfl hcap hst (u + 1)).2.2.2 hb u (by omega), ih]; rfl
  by_cases h : u = m
  · subst h; exact key u
  · have h1 := work_run hg hs hfl hcap hst m
    have h2 := work_run hg hs hfl hcap hst u
    rw [← key u]
    refine colSum_congr (by rw [h1.1.slen, h2.1.slen]) (fun c hc => h1.2.2.1 u (by omega) c (by rw [h1.1.slen] at hc; exact hc))
end
/-! ### first in, first out -/
/-- all before 'before' have been begun -/
def goodB (ps : List Pkt) (ms : MS) : Prop := ms.before ≤ ps.length ∧ ∀ i, i < ms.before → nth ms.begun i = true
theorem skipTo_begun {l : List Bool} : ∀ {b i : Nat}, b ≤ i → i < skipTo l b → nth l i = true := by
  intro b i hb hi
  unfold skipTo at hi
  have key : ∀ (r : List Bool) (j : Nat), j < (r.takeWhile id).length → nth r j = true := by
    intro r
    induction r with
    | nil => intro j h; simp at h
    | cons x r ih =>
      intro j h
      cases x with
      | false => simp at h
      | true =>
        cases j with
        | zero => rfl
        | succ j => exact ih j (by simpa using h)
  have := key (l.drop b) (i - b) (by omega)
  unfold nth List.getD at this ⊢
  rw [List.getElem?_drop, show b + (i - b) = i by omega] at this
  exact this
theorem takeWhile_stop' : ∀ (l : List Bool), (l.takeWhile id).length < l.length → nth l (l.takeWhile id).length = false
  | [], h => by simp at h
  | false :: l, h => by simp [nth]
  | true :: l, h => by
    simp only [List.takeWhile_cons, id, if_true, List.length_cons] at h ⊢
    have := takeWhile_stop' l (by omega)
    simpa [nth, List.getD] using this
theorem skipTo_stop' {l : List Bool} {b : Nat} (h : skipTo l b < l.length) : nth l (skipTo l b) = false := by
  unfold skipTo at h ⊢
  have := takeWhile_stop' (l.drop b) (by rw [List.length_drop]; omega)
  unfold nth List.getD at this ⊢
  rw [List.getElem?_drop] at this
  exact this
theorem goodB.skip {ps : List Pkt} {ms : MS} (h : goodB ps ms) (hl : ms.begun.length = ps.length) : skipTo ms.begun ms.before ≤ ps.length ∧ ∀ i, i < skipTo ms.begun ms.before → nth ms.begun i = true := by
  refine ⟨by rw [← hl]; exact skipTo_le (by rw [hl]; exact h.1), fun i hi => ?_⟩
  by_cases h1 : i < ms.before
  · exact h.2 i h1
  · exact skipTo_begun (by omega) hi
/-- First: what it says -/
theorem firstR_some {ps : List Pkt} {ms : MS} (h : goodB ps ms) (hl : ms.begun.length = ps.length) (h0 : 0 ≤ firstR ps ms) :
    (firstR ps ms).toNat < ps.length ∧ nth ms.begun (firstR ps ms).toNat = false ∧ (nth ps (firstR ps ms).toNat).time ≤ ms.now ∧ ∀ i, i < (firstR ps ms).toNat → nth ms.begun i = true := by
  have hs := h.skip hl
  unfold firstR at h0 ⊢
  dsimp only at h0 ⊢
  split at h0
  · rename_i hh
    rw [if_pos hh]
    simp only [Int.toNat_natCast]
    exact ⟨hh.1, skipTo_stop' (by rw [hl]; exact hh.1), hh.2, hs.2⟩
  · omega
theorem firstR_none {ps : List Pkt} {ms : MS} (hsort : ps.Pairwise fun a b => a.time ≤ b.time) (h : goodB ps ms) (hl : ms.begun.length = ps.length) (h0 : firstR ps ms < 0) : ∀ i, i < ps.length → (nth ps i).time ≤ ms.now → nth ms.begun i = true := by
  have hs := h.skip hl
  unfold firstR at h0
  dsimp only at h0
  split at h0
  · omega
  · rename_i hh
    intro i hi ht
    by_cases h1 : i < skipTo ms.begun ms.before
    · exact hs.2 i h1
    · exfalso
      apply hh
      refine ⟨by omega, ?_⟩
      by_cases e : skipTo ms.begun ms.before = i
      · rw [e]; exact ht
      · have := List.pairwise_iff_getElem.1 hsort (skipTo ms.begun ms.before) i (by omega) hi (by omega)
        rw [nth_eq (by omega)]
        rw [nth_eq hi] at ht
        omega
def goodFB (ps : List Pkt) (ms : MS) (_ : Unit) : Prop := goodB ps ms
theorem goodFB_fair (ps : List Pkt) : Fair ps (fifo ps) (goodFB ps) (fun _ _ => True) where
  free := fun _ _ _ _ h => h
  idx := fun ms _ _ _ _ => (firstR_lt ps ms).1
  some := fun ms _ h hb h0 => by
    have hs := goodB.skip h hb
    refine ⟨hs.1, fun i hi => ?_⟩
    dsimp only [fifo] at hi ⊢
    by_cases e : (firstR ps ms).toNat = i
    · subst e
      have := (firstR_lt ps ms).1
      dsimp only [fifo] at h0
      rw [nth_set_self (by omega)]
    · rw [nth_set_ne e]; exact hs.2 i hi
  none := fun ms _ h hb _ => by
    have hs := goodB.skip h hb
    exact ⟨hs.1, hs.2⟩
  waits := fun ms _ h hb h0 => by
    have := firstR_some h hb h0
    exact ⟨this.2.1, this.2.2.1⟩
  ord := fun ms _ h hb h0 i hi _ => (firstR_some h hb h0).2.2.2 i hi
theorem goodFB_busy {ps : List Pkt} (hsort : ps.Pairwise fun a b => a.time ≤ b.time) : Busy ps (fifo ps) (goodFB ps) := fun _ _ h hb h0 => firstR_none hsort h hb h0
theorem goodFB_start (ps : List Pkt) (classes : Nat) : goodFB ps (start ps classes ()).ms () := ⟨Nat.zero_le _, fun i hi => by simp [start] at hi⟩
/-! ### what a line guarantees -/
theorem pbytes_zero {flow : Int} : ∀ (ps : List Pkt), (∀ p ∈ ps, 0 ≤ p.time) → pbytes flow 0 ps = 0
  | [], _ => rfl
  | p :: ps, h => by
    have := h p (by simp)
    rw [pbytes, pbytes_zero ps (fun q hq => h q (by simp [hq])), if_neg (by unfold hit; omega)]; rfl
theorem wsum_bound {cap : Int} {ps : List Pkt} (hc : 0 ≤ cap) (hs : ∀ p ∈ ps, 0 ≤ p.size ∧ p.size ≤ 1000000) : ∀ t : Nat, 0 ≤ wsum cap ps t ∧ wsum cap ps t ≤ 1000000 * ps.length
  | 0 => by simp only [wsum]; omega
  | t + 1 => by
    have ih := wsum_bound hc hs t
    have := pbytes_bound (-1) ((t : Int) + 1) ps hs
    simp only [wsum]
    omega
/-- bytes that have arrived, tick by tick -/
def cumL (flow : Int) (ps : List Pkt) (n : Nat) : List Int := (List.range n).map fun (t : Nat) => pbytes flow (t : Int) ps
/-- the sums of all classes -/
def totL (sent : List (List Int)) (n : Nat) : List Int := (List.range n).map fun (t : Nat) => colSum sent t
theorem range_map_snoc {α : Type} (f : Nat → α) (n : Nat) : (List.range (n + 1)).map f = (List.range n).map f ++ [f n] := by rw [List.range_succ]; simp
theorem range_map_nth {α : Type} [Inhabited α] (f : Nat → α) {n i : Nat} (h : i < n) : nth ((List.range n).map f) i = f i := by
  rw [nth_eq (by simpa using h)]; simp
def oneP (p : Pkt) : Pkt := { p with flow := 0 }
/-- a curve's value, as the references have it -/
def atR (xs : List Int) (per inc t : Int) : Int :=
  if t < 0 ∨ ((xs.length : Int) ≤ t ∧ (per < 1 ∨ (xs.length : Int) < per)) then -1
  else if t < xs.length then nth xs t.toNat
  else if nth xs (t - ((t - xs.length) / per + 1) * per).toNat = 4611686018427387904 then 4611686018427387904
  else nth xs (t - ((t - xs.length) / per + 1) * per).toNat + ((t - xs.length) / per + 1) * inc
def dval (d : Int) : Int := if d < 0 then 1000 else d
end Go.Proofs.Ytolmmfphdieilaa.M

/- The references' line, plain; and that it does what the machine does, whatever the choice. No condition. -/
namespace Go.Proofs.Ytolmmfphdieilaa.M
open Go Go.Proofs.Ytolmmfphdieilaa.K

/-- the first number from a place on of which something is said -/
def findFrom (P : Nat → Bool) : Nat → Nat → Int
  | 0, _ => -1
  | k + 1, i => if P i then i else findFrom P k (i + 1)
def findN (P : Nat → Bool) (n : Nat) : Int := findFrom P n 0
theorem findFrom_cases (P : Nat → Bool) : ∀ (k a : Nat), (∃ i, a ≤ i ∧ i < a + k ∧ findFrom P k a = i ∧ P i = true ∧ ∀ j, a ≤ j → j < i → P j = false) ∨ (findFrom P k a = -1 ∧ ∀ j, a ≤ j → j < a + k → P j = false)
  | 0, a => .inr ⟨rfl, fun j h1 h2 => by omega⟩
  | k + 1, a => by
    simp only [findFrom]
    cases hp : P a with
    | true =>
      left
      exact ⟨a, Nat.le_refl _, by omega, by simp, hp, fun j h1 h2 => by omega⟩
    | false =>
      rcases findFrom_cases P k (a + 1) with ⟨i, h1, h2, h3, h4, h5⟩ | ⟨h1, h2⟩
      · left
        refine ⟨i, by omega, by omega, by simpa using h3, h4, fun j h6 h7 => ?_⟩
        by_cases e : j = a
        · subst e; exact hp
        · exact h5 j (by omega) h7
      · right
        refine ⟨by simpa using h1, fun j h6 h7 => ?_⟩
        by_cases e : j = a
        · subst e; exact hp
        · exact h2 j (by omega) (by omega)
theorem findN_cases (P : Nat → Bool) (n : Nat) : (∃ i, i < n ∧ findN P n = i ∧ P i = true ∧ ∀ j, j < i → P j = false) ∨ (findN P n = -1 ∧ ∀ j, j < n → P j = false) := by
  rcases findFrom_cases P n 0 with ⟨i, h1, h2, h3, h4, h5⟩ | ⟨h1, h2⟩
  · exact .inl ⟨i, by omega, h3, h4, fun j hj => h5 j (by omega) hj⟩
  · exact .inr ⟨h1, fun j hj => h2 j (by omega) (by omega)⟩
theorem findN_some {P : Nat → Bool} {n i : Nat} (hi : i < n) (hP : P i = true) (h : ∀ j, j < i → P j = false) : findN P n = i := by
  rcases findN_cases P n with ⟨k, h1, h2, h3, h4⟩ | ⟨h1, h2⟩
  · rcases Nat.lt_trichotomy i k with h5 | h5 | h5
    · rw [h4 i h5] at hP; cases hP
    · subst h5; exact h2
    · rw [h k h5] at h3; cases h3
  · rw [h2 i hi] at hP; cases hP
theorem findN_none {P : Nat → Bool} {n : Nat} (h : ∀ j, j < n → P j = false) : findN P n = -1 := by
  rcases findN_cases P n with ⟨k, h1, h2, h3, h4⟩ | ⟨h1, h2⟩
  · rw [h k h1] at h3; cases h3
  · exact h1

/-- the state of a reference's line -/
structure St where
  time : Nat
  given : List Int
  now : Int
  done : List Int
  sent : List (List Int)
def waits (ps : List Pkt) (st : St) (i : Nat) : Bool := decide ((nth ps i).time ≤ (st.time : Int)) && (nth st.given i == 0) && (st.now != (i : Int))
def firstW (ps : List Pkt) (st : St) (cls : Int) : Int := findN (fun i => (cls == -1 || (nth ps i).flow == cls) && waits ps st i) ps.length
def rbegin (st : St) : St := { st with sent := st.sent.map fun l => l ++ [nth l (l.length - 1)] }
def rsendN (ps : List Pkt) (most : Int) (st : St) : Int :=
  if (nth ps st.now.toNat).size - nth st.given st.now.toNat < most then (nth ps st.now.toNat).size - nth st.given st.now.toNat else most
def rsend (ps : List Pkt) (most : Int) (st : St) : St :=
  let i := st.now.toNat
  let n := rsendN ps most st
  let f := (nth ps i).flow.toNat
  let l := nth st.sent f
  let g := nth st.given i + n
  { st with given := st.given.set i g, sent := st.sent.set f (l.set (l.length - 1) (nth l (l.length - 1) + n)),
            done := if g = (nth ps i).size then st.done.set i st.time else st.done, now := if g = (nth ps i).size then -1 else st.now }
section
variable {τ : Type} (ps : List Pkt) (rc : St → τ → Int × τ)
def rpick (st : St) (g : τ) : Int × τ := if st.now = -1 then rc st g else (st.now, g)
def rinner : Nat → Int → St → τ → St × τ
  | 0, _, st, g => (st, g)
  | k + 1, left, st, g =>
    if left ≤ 0 then (st, g) else
      let r := rpick rc st g
      let st1 := { st with now := r.1 }
      if r.1 = -1 then (st1, r.2) else rinner k (left - rsendN ps left st1) (rsend ps left st1) r.2
def rtick (cap : Int) (st : St) (g : τ) : St × τ :=
  let x := rinner ps rc cap.toNat cap (rbegin st) g
  ({ x.1 with time := x.1.time + 1 }, x.2)
def rticks (cap : Int) : Nat → St → τ → St × τ
  | 0, st, g => (st, g)
  | k + 1, st, g => rticks cap k (rtick ps rc cap st g).1 (rtick ps rc cap st g).2
def rstart (classes : Nat) : St := { time := 0, given := List.replicate ps.length 0, now := -1, done := List.replicate ps.length (-1), sent := List.replicate classes [0] }
def rrun (cap : Int) (classes ticks : Nat) (g : τ) : St := (rticks ps rc cap ticks (rstart ps classes) g).1
end

structure Sm {σ : Type} (ps : List Pkt) (s : RS σ) (st : St) : Prop where
  glen : st.given.length = ps.length
  now : st.now = if s.cur < 0 then -1 else s.cur
  giv : ∀ i, i < ps.length → nth st.given i = if s.cur = i then (nth ps i).size - s.rest else if nth s.ms.begun i = true then (nth ps i).size else 0
  done : st.done = s.done
  sent : st.sent = s.sent
section
variable {σ τ : Type} {ps : List Pkt} {ch : MS → σ → Int × Nat × σ} {good : MS → σ → Prop} {rel : Nat → Nat → Prop} {classes col : Nat} {s : RS σ} {st : St} {g : τ} {rc : St → τ → Int × τ} {ρ : σ → τ → Prop}
theorem Sm.waits (h : Sm ps s st) (hw : Wk ps classes good rel col s) (hs : ∀ p ∈ ps, 1 ≤ p.size) (ht : (st.time : Int) = s.ms.now) {i : Nat} (hi : i < ps.length) : waits ps st i = (decide ((nth ps i).time ≤ s.ms.now) && !nth s.ms.begun i) := by
  have hz := hs _ (nth_mem hi)
  unfold M.waits
  rw [ht, h.giv i hi, h.now]
  by_cases hc : s.cur = i
  · have := (hw.cur (by omega)).2.1
    rw [hc] at this
    simp only [Int.toNat_natCast] at this
    have e : ((if s.cur < 0 then -1 else s.cur) != (i : Int)) = false := by rw [if_neg (show ¬ s.cur < 0 by omega)]; simp [hc]
    rw [e, this]
    simp
  · rw [if_neg hc]
    have hne : ((if s.cur < 0 then -1 else s.cur) != (i : Int)) = true := by
      split
      · simp
      · simpa using hc
    rw [hne]
    cases hb : nth s.ms.begun i with
    | true =>
      have : ((nth ps i).size == 0) = false := by simp; omega
      simp [this]
    | false => simp
/-- what a reference's choice must do beside that of the program -/
def Alike {σ τ : Type} (ps : List Pkt) (ch : MS → σ → Int × Nat × σ) (good : MS → σ → Prop) (rc : St → τ → Int × τ) (ρ : σ → τ → Prop) : Prop :=
  ∀ (ms : MS) (sg : σ) (st : St) (g : τ), good ms sg → ms.begun.length = ps.length → ρ sg g → (st.time : Int) = ms.now → st.now = -1 → (∀ i, i < ps.length → waits ps st i = (decide ((nth ps i).time ≤ ms.now) && !nth ms.begun i)) →
    (rc st g).1 = (if (ch ms sg).1 < 0 then -1 else (ch ms sg).1) ∧ ρ (ch ms sg).2.2 (rc st g).2
theorem Sm.pickup (hg : Fair ps ch good rel) (hs : ∀ p ∈ ps, 1 ≤ p.size) (hal : Alike ps ch good rc ρ) (h : Sm ps s st) (hw : Wk ps classes good rel col s) (hr : ρ s.sg g) (ht : (st.time : Int) = s.ms.now) :
    Sm ps (pickup ps ch s) { st with now := (rpick rc st g).1 } ∧ ρ (pickup ps ch s).sg (rpick rc st g).2 ∧ (rpick rc st g).1 = (if (pickup ps ch s).cur < 0 then -1 else (pickup ps ch s).cur) := by
  unfold M.pickup rpick
  have hnow := h.now
  by_cases hc : 0 ≤ s.cur
  · rw [if_pos hc]
    rw [if_neg (show ¬ s.cur < 0 by omega)] at hnow
    rw [if_neg (by omega)]
    refine ⟨⟨h.glen, ?_, h.giv, h.done, h.sent⟩, hr, ?_⟩
    · dsimp only; rw [if_neg (by omega)]; exact hnow
    · dsimp only; rw [if_neg (by omega)]; exact hnow
  · rw [if_neg hc]
    rw [if_pos (show s.cur < 0 by omega)] at hnow
    rw [if_pos hnow]
    obtain ⟨a1, a2⟩ := hal s.ms s.sg st g hw.good hw.blen hr ht hnow (fun i hi => h.waits hw hs ht hi)
    by_cases hr' : (ch s.ms s.sg).1 < 0
    · simp only [hr', if_true] at a1 ⊢
      refine ⟨⟨h.glen, by dsimp only; rw [if_pos hr', a1], fun i hi => ?_, h.done, h.sent⟩, a2, a1⟩
      dsimp only
      rw [h.giv i hi, if_neg (show ¬ s.cur = (i : Int) by omega), if_neg (show ¬ (ch s.ms s.sg).1 = (i : Int) by omega)]
    · simp only [hr', if_false] at a1 ⊢
      have hi' := hg.idx _ _ hw.good hw.blen (by omega)
      have hwt := hg.waits _ _ hw.good hw.blen (by omega)
      refine ⟨⟨h.glen, by dsimp only; rw [if_neg hr', a1], fun i hi => ?_, h.done, h.sent⟩, a2, a1⟩
      dsimp only
      rw [h.giv i hi, if_neg (show ¬ s.cur = i by omega)]
      by_cases e : (ch s.ms s.sg).1 = i
      · rw [if_pos e]
        rw [e] at hwt ⊢
        simp only [Int.toNat_natCast] at hwt ⊢
        rw [hwt.1]; simp
      · rw [if_neg e, nth_set_ne (by omega)]
theorem Sm.send {t : Nat} (h : Sm ps s st) (hw : Wk ps classes good rel (t + 1) s) (hfl : ∀ p ∈ ps, 0 ≤ p.flow ∧ p.flow < classes) (ht : (st.time : Int) = (t : Int)) (hc : 0 ≤ s.cur) :
    Sm ps (send ps t s) (rsend ps s.ms.left st) ∧ s.ms.left - rsendN ps s.ms.left st = (send ps t s).ms.left := by
  obtain ⟨c1, c2, c3⟩ := hw.cur hc
  have hi : s.cur.toNat < ps.length := by omega
  have hnow : st.now = s.cur := by rw [h.now, if_neg (by omega)]
  have hgiv : nth st.given s.cur.toNat = (nth ps s.cur.toNat).size - s.rest := by rw [h.giv _ hi, if_pos (by omega)]
  have hf : (nth ps s.cur.toNat).flow.toNat < s.sent.length := by rw [hw.slen]; have := hfl _ (nth_mem hi); omega
  have hrow := hw.rlen _ (nth_mem hf)
  have hn : rsendN ps s.ms.left st = if s.ms.left < s.rest then s.ms.left else s.rest := by
    unfold rsendN
    rw [hnow, hgiv]
    split <;> split <;> omega
  unfold rsend M.send
  rw [hn]
  generalize (if s.ms.left < s.rest then s.ms.left else s.rest) = n
  dsimp only
  rw [hnow, hgiv, h.sent]
  have hl : (nth s.sent (nth ps s.cur.toNat).flow.toNat).length - 1 = t + 1 := by omega
  rw [hl]
  have hz : ((nth ps s.cur.toNat).size - s.rest + n = (nth ps s.cur.toNat).size) ↔ s.rest - n = 0 := by omega
  refine ⟨⟨by simp [h.glen], ?_, fun i hi2 => ?_, ?_, rfl⟩, rfl⟩
  · dsimp only
    by_cases e : s.rest - n = 0
    · rw [if_pos (hz.2 e), if_pos e]; rfl
    · rw [if_neg (fun h => e (hz.1 h)), if_neg e, if_neg (by omega)]
  · dsimp only
    by_cases e2 : s.cur.toNat = i
    · subst e2
      rw [nth_set_self (by rw [h.glen]; exact hi), c2]
      by_cases e : s.rest - n = 0
      · rw [if_pos e, if_neg (by omega), if_pos rfl]; omega
      · rw [if_neg e, if_pos (by omega)]; omega
    · rw [nth_set_ne e2, h.giv i hi2, if_neg (show ¬ s.cur = (i : Int) by omega)]
      by_cases e : s.rest - n = 0
      · rw [if_pos e, if_neg (show ¬ (-1 : Int) = (i : Int) by omega)]
      · rw [if_neg e, if_neg (show ¬ s.cur = (i : Int) by omega)]
  · dsimp only
    rw [h.done, ht]
    by_cases e : s.rest - n = 0
    · rw [if_pos (hz.2 e), if_pos e]
    · rw [if_neg (fun h => e (hz.1 h)), if_neg e]
theorem Sm.inner (hg : Fair ps ch good rel) (hs : ∀ p ∈ ps, 1 ≤ p.size) (hfl : ∀ p ∈ ps, 0 ≤ p.flow ∧ p.flow < classes) (hal : Alike ps ch good rc ρ) {t : Nat} : ∀ (j : Nat) (s : RS σ) (st : St) (g : τ), Sm ps s st → Wk ps classes good rel (t + 1) s → ρ s.sg g → st.time = t → s.ms.now = t →
    Sm ps (inner ps ch t j s) (rinner ps rc j s.ms.left st g).1 ∧ ρ (inner ps ch t j s).sg (rinner ps rc j s.ms.left st g).2 ∧ (rinner ps rc j s.ms.left st g).1.time = t
  | 0, s, st, g, h, hw, hr, ht, hn => ⟨h, hr, ht⟩
  | j + 1, s, st, g, h, hw, hr, ht, hn => by
    simp only [M.inner, rinner]
    by_cases hl : s.ms.left ≤ 0
    · rw [if_pos hl, if_pos hl]; exact ⟨h, hr, ht⟩
    · rw [if_neg hl, if_neg hl]
      obtain ⟨p1, p2, p3⟩ := h.pickup hg hs hal hw hr (by omega)
      have hp := hw.pickup hg hs
      obtain ⟨e1, e2, e3, e4⟩ := pickup_same ps ch s
      by_cases hc : (M.pickup ps ch s).cur < 0
      · rw [if_pos hc] at p3 ⊢
        rw [if_pos p3]
        exact ⟨p1, p2, ht⟩
      · rw [if_neg hc] at p3 ⊢
        rw [if_neg (by omega)]
        obtain ⟨q1, q2⟩ := p1.send hp hfl (t := t) (by dsimp only; omega) (by omega)
        obtain ⟨g1, g2, g3, g4, g5, g6⟩ := hp.send hfl hg.free (by rw [e2]; exact hn) (by omega) (by rw [e1]; omega)
        rw [e1] at q1 q2
        rw [q2]
        exact Sm.inner hg hs hfl hal j _ _ _ q1 g1 p2 ht (by rw [g5, e2]; exact hn)
theorem Sm.tick (hg : Fair ps ch good rel) (hs : ∀ p ∈ ps, 1 ≤ p.size) (hfl : ∀ p ∈ ps, 0 ≤ p.flow ∧ p.flow < classes) (hal : Alike ps ch good rc ρ) {t : Nat} {cap : Int} (h : Sm ps s st) (hw : Wk ps classes good rel t s) (hr : ρ s.sg g) (ht : st.time = t) (hnow : s.ms.now ≤ t) :
    Sm ps (tick ps ch cap t s) (rtick ps rc cap st g).1 ∧ ρ (tick ps ch cap t s).sg (rtick ps rc cap st g).2 ∧ (rtick ps rc cap st g).1.time = t + 1 := by
  have h1 : Sm ps { s with ms := { s.ms with now := t, left := cap }, sent := s.sent.map fun l => l ++ [nth l t] } (rbegin st) := by
    refine ⟨h.glen, h.now, h.giv, h.done, ?_⟩
    unfold rbegin
    dsimp only
    rw [h.sent]
    apply List.map_congr_left
    intro l hl
    have := hw.rlen l hl
    rw [show l.length - 1 = t by omega]
  have hrow : ∀ l ∈ s.sent, nth (l ++ [nth l t]) (t + 1) = nth l t := fun l hl => by
    have := hw.rlen l hl
    unfold nth List.getD
    rw [List.getElem?_append_right (by omega), this]; simp
  have h2 : Wk ps classes good rel (t + 1) { s with ms := { s.ms with now := t, left := cap }, sent := s.sent.map fun l => l ++ [nth l t] } := by
    refine ⟨hg.free _ _ _ _ hw.good, hw.dlen, hw.blen, by simp [hw.slen], fun l hl => ?_, hw.cur, hw.open_, fun i hi hb hne => ?_, fun i hi hb => ?_, hw.ord, hw.dord, by dsimp only; rw [colSum_map _ hrow]; exact hw.sum⟩
    · obtain ⟨l', h2, rfl⟩ := List.mem_map.1 hl
      simp [hw.rlen l' h2]
    · have := hw.shut i hi hb hne
      dsimp only; omega
    · have := hw.time i hi hb
      dsimp only; omega
  obtain ⟨k1, k2, k3⟩ := Sm.inner hg hs hfl hal (t := t) cap.toNat _ (rbegin st) g h1 h2 hr ht rfl
  unfold M.tick rtick
  dsimp only at k1 k2 k3 ⊢
  exact ⟨⟨k1.glen, k1.now, k1.giv, k1.done, k1.sent⟩, k2, by omega⟩
end
/-! ### first in, first out -/
def fifoR (ps : List Pkt) (st : St) (_ : Unit) : Int × Unit := (firstW ps st (-1), ())
end Go.Proofs.Ytolmmfphdieilaa.M

/- What stays true in a reference's run, plain. No condition. -/
namespace Go.Proofs.Ytolmmfphdieilaa.M
open Go Go.Proofs.Ytolmmfphdieilaa.K

structure RInv (ps : List Pkt) (classes len : Nat) (B : Int) (st : St) : Prop where
  glen : st.given.length = ps.length
  dlen : st.done.length = ps.length
  slen : st.sent.length = classes
  rows : ∀ l ∈ st.sent, l.length = len ∧ ∀ x ∈ l, 0 ≤ x ∧ x ≤ B
  now : st.now = -1 ∨ (0 ≤ st.now ∧ st.now < ps.length ∧ nth st.given st.now.toNat < (nth ps st.now.toNat).size)
  giv : ∀ i, i < ps.length → 0 ≤ nth st.given i ∧ nth st.given i ≤ (nth ps i).size
section
variable {ps : List Pkt} {classes len : Nat} {B : Int} {st : St}
theorem RInv.mono {B' : Int} (h : RInv ps classes len B st) (hb : B ≤ B') : RInv ps classes len B' st :=
  ⟨h.glen, h.dlen, h.slen, fun l hl => ⟨(h.rows l hl).1, fun x hx => by have := (h.rows l hl).2 x hx; omega⟩, h.now, h.giv⟩
theorem RInv.start (hs : ∀ p ∈ ps, 1 ≤ p.size) : RInv ps classes 1 0 (rstart ps classes) := by
  refine ⟨by simp [rstart], by simp [rstart], by simp [rstart], fun l hl => ?_, .inl rfl, fun i hi => ?_⟩
  · have : l = [0] := List.eq_of_mem_replicate hl
    subst this
    exact ⟨rfl, fun x hx => by simp at hx; omega⟩
  · have := hs _ (nth_mem hi)
    simp only [rstart]
    rw [nth_replicate hi]; omega
theorem RInv.begin (h : RInv ps classes len B st) (hl : 0 < len) : RInv ps classes (len + 1) B (rbegin st) := by
  refine ⟨h.glen, h.dlen, by simp [rbegin, h.slen], fun l hl' => ?_, h.now, h.giv⟩
  obtain ⟨l', h1, rfl⟩ := List.mem_map.1 hl'
  have h2 := h.rows l' h1
  refine ⟨by simp [h2.1], fun x hx => ?_⟩
  rcases List.mem_append.1 hx with hx | hx
  · exact h2.2 x hx
  · obtain rfl : x = nth l' (l'.length - 1) := by simpa using hx
    exact h2.2 _ (nth_mem (by omega))
theorem RInv.tick (h : RInv ps classes len B st) : RInv ps classes len B { st with time := st.time + 1 } := ⟨h.glen, h.dlen, h.slen, h.rows, h.now, h.giv⟩
/-- a choice of what waits -/
def Waiting {τ : Type} (ps : List Pkt) (rc : St → τ → Int × τ) : Prop := ∀ st g, (rc st g).1 = -1 ∨ (0 ≤ (rc st g).1 ∧ (rc st g).1 < ps.length ∧ waits ps st (rc st g).1.toNat = true)
theorem RInv.pick {τ : Type} {rc : St → τ → Int × τ} {g : τ} (h : RInv ps classes len B st) (hs : ∀ p ∈ ps, 1 ≤ p.size) (hrc : Waiting ps rc) : RInv ps classes len B { st with now := (rpick rc st g).1 } := by
  refine ⟨h.glen, h.dlen, h.slen, h.rows, ?_, h.giv⟩
  unfold rpick
  split
  · rcases hrc st g with h1 | ⟨h1, h2, h3⟩
    · exact .inl h1
    · refine .inr ⟨h1, h2, ?_⟩
      unfold waits at h3
      simp only [Bool.and_eq_true, beq_iff_eq] at h3
      have := hs _ (nth_mem (xs := ps) (k := (rc st g).1.toNat) (by omega))
      dsimp only
      omega
  · exact h.now
theorem RInv.send (h : RInv ps classes len B st) (hfl : ∀ p ∈ ps, 0 ≤ p.flow ∧ p.flow < classes) (hl : 0 < len) (hn : st.now ≠ -1) {most : Int} (hm : 0 < most) :
    RInv ps classes len (B + rsendN ps most st) (rsend ps most st) ∧ 1 ≤ rsendN ps most st ∧ rsendN ps most st ≤ most := by
  obtain ⟨n1, n2, n3⟩ := h.now.resolve_left hn
  have hi : st.now.toNat < ps.length := by omega
  have hf : (nth ps st.now.toNat).flow.toNat < st.sent.length := by rw [h.slen]; have := hfl _ (nth_mem hi); omega
  have hrow := h.rows _ (nth_mem hf)
  have hg := h.giv _ hi
  have hb : 1 ≤ rsendN ps most st ∧ rsendN ps most st ≤ most ∧ nth st.given st.now.toNat + rsendN ps most st ≤ (nth ps st.now.toNat).size := by unfold rsendN; split <;> omega
  have hlast : 0 ≤ nth (nth st.sent (nth ps st.now.toNat).flow.toNat) ((nth st.sent (nth ps st.now.toNat).flow.toNat).length - 1) ∧ nth (nth st.sent (nth ps st.now.toNat).flow.toNat) ((nth st.sent (nth ps st.now.toNat).flow.toNat).length - 1) ≤ B := hrow.2 _ (nth_mem (by omega))
  refine ⟨?_, hb.1, hb.2.1⟩
  unfold rsend
  generalize rsendN ps most st = n at hb ⊢
  dsimp only
  refine ⟨by simp [h.glen], ?_, by simp [h.slen], fun l hl' => ?_, ?_, fun i hi2 => ?_⟩
  · dsimp only; split <;> simp [h.dlen]
  · rcases List.mem_or_eq_of_mem_set hl' with h1 | rfl
    · have := h.rows l h1
      exact ⟨this.1, fun x hx => by have := this.2 x hx; omega⟩
    · refine ⟨by simp [hrow.1], fun x hx => ?_⟩
      rcases List.mem_or_eq_of_mem_set hx with h2 | rfl
      · have := hrow.2 x h2; omega
      · omega
  · dsimp only
    by_cases e : nth st.given st.now.toNat + n = (nth ps st.now.toNat).size
    · rw [if_pos e]; exact .inl rfl
    · rw [if_neg e]
      refine .inr ⟨n1, n2, ?_⟩
      rw [nth_set_self (by rw [h.glen]; exact hi)]; omega
  · dsimp only
    by_cases e : st.now.toNat = i
    · subst e; rw [nth_set_self (by rw [h.glen]; exact hi)]; omega
    · rw [nth_set_ne e]; exact h.giv i hi2
end
end Go.Proofs.Ytolmmfphdieilaa.M

/- What the line answers, plain: errors and runs; queues. No condition. -/
namespace Go.Proofs.Ytolmmfphdieilaa.M
open Go Go.Proofs.Ytolmmfphdieilaa.K

/-- slices of packets, and three numbers, in a slice -/
structure SlP where
  a : Option Addr
  cap : Nat
  xs : List Pkt
instance instSlP : Inhabited SlP := ⟨⟨none, 0, []⟩⟩
def encL (s : SlP) : List Value := [.slice s.a s.xs.length s.cap]
def enc3 (x : Int × Int × Int) : List Value := [.int .i64 x.1, .int .i64 x.2.1, .int .i64 x.2.2]
def enc2 (x : Int × Int) : List Value := [.int .i64 x.1, .int .i64 x.2]
def lrunE (cap classes ticks : Int) (ps : List Pkt) : Int := if validate ps ≠ 0 then validate ps else checkE cap classes ticks ps
def lineOut (cap classes ticks : Int) (ps : List Pkt) : List Int × List (List Int) :=
  if lrunE cap classes ticks ps ≠ 0 then ([], []) else ((mrun ps (fifo ps) cap classes.toNat ticks.toNat ()).done, (mrun ps (fifo ps) cap classes.toNat ticks.toNat ()).sent)
/-! ### queues -/
def selSum (cls t : Int) : Nat → List (List Int) → Int
  | _, [] => 0
  | c, l :: ls => (if (c : Int) ≠ cls ∧ cls ≠ -1 then 0 else nth l t.toNat) + selSum cls t (c + 1) ls
theorem qGo_sel {cls t : Int} {m : Nat} (ht : 0 ≤ t) (htm : t < m) : ∀ (ls : List (List Int)) (acc : Int) (c : Nat), (∀ l ∈ ls, l.length = m) → qGo cls t acc c ls = some (acc + selSum cls t c ls)
  | [], acc, c, _ => by simp [qGo, selSum]
  | l :: ls, acc, c, h => by
    have hl := h l (by simp)
    have ih := fun a => qGo_sel (cls := cls) ht htm ls a (c + 1) (fun l hl => h l (by simp [hl]))
    simp only [qGo, selSum]
    by_cases hc : (c : Int) ≠ cls ∧ cls ≠ -1
    · rw [if_pos hc, if_pos hc, ih]; simp
    · rw [if_neg hc, if_neg hc, if_neg (by omega), ih]; congr 1; omega
theorem qGo_none {cls t : Int} {m : Nat} (htm : (m : Int) ≤ t) : ∀ (ls : List (List Int)) (acc : Int) (c : Nat), (∀ l ∈ ls, l.length = m) → (cls = -1 ∧ ls ≠ [] ∨ (c : Int) ≤ cls ∧ cls < c + ls.length) → qGo cls t acc c ls = none
  | [], acc, c, _, h => by
    rcases h with ⟨_, h⟩ | ⟨h1, h2⟩
    · exact absurd rfl h
    · simp at h2; omega
  | l :: ls, acc, c, h, hc => by
    have hl := h l (by simp)
    simp only [qGo]
    by_cases hx : (c : Int) ≠ cls ∧ cls ≠ -1
    · rw [if_pos hx]
      refine qGo_none htm ls acc (c + 1) (fun l hl => h l (by simp [hl])) (.inr ?_)
      rcases hc with ⟨h1, _⟩ | ⟨h1, h2⟩
      · omega
      · simp at h2; omega
    · rw [if_neg hx, if_pos (by omega)]
theorem queueR_is {ps : List Pkt} {sent : List (List Int)} {cls t : Int} {m : Nat} (h : ∀ l ∈ sent, l.length = m) (hne : sent ≠ []) :
    queueR ps sent cls t = if cls < -1 ∨ (sent.length : Int) ≤ cls ∨ t < 0 ∨ (m : Int) ≤ t then (0, 0) else (pbytes cls t ps - selSum cls t 0 sent, pbytes cls (t + 1) ps - selSum cls t 0 sent) := by
  unfold queueR
  by_cases h1 : cls < -1 ∨ (sent.length : Int) ≤ cls ∨ t < 0
  · rw [if_pos h1, if_pos (by omega)]
  · rw [if_neg h1]
    by_cases h2 : (m : Int) ≤ t
    · rw [qGo_none h2 sent 0 0 h (by
        by_cases hc : cls = -1
        · exact .inl ⟨hc, hne⟩
        · right; omega), if_pos (by omega)]
    · rw [qGo_sel (by omega) (by omega) sent 0 0 h, if_neg (by omega)]
      simp
end Go.Proofs.Ytolmmfphdieilaa.M

/- What a class is sent while it is backlogged, plain, whatever the choice: an invariant of the rounds is carried from tick to tick. No condition. -/
namespace Go.Proofs.Ytolmmfphdieilaa.M
open Go Go.Proofs.Ytolmmfphdieilaa.K

/-- the bytes of a class that have been begun -/
def begK (k : Int) : List Pkt → List Bool → Int
  | p :: ps, b :: bs => (if b = true ∧ p.flow = k then p.size else 0) + begK k ps bs
  | _, _ => 0
theorem begK_set (k : Int) : ∀ (ps : List Pkt) (bs : List Bool) (i : Nat), i < ps.length → i < bs.length → nth bs i = false → begK k ps (bs.set i true) = begK k ps bs + (if (nth ps i).flow = k then (nth ps i).size else 0)
  | [], _, i, h, _, _ => by simp at h
  | _ :: _, [], i, _, h, _ => by simp at h
  | p :: ps, b :: bs, 0, _, _, hb => by
    have : b = false := hb
    subst this
    simp only [List.set_cons_zero, begK, show nth (p :: ps) 0 = p from rfl]
    simp; omega
  | p :: ps, b :: bs, i + 1, h1, h2, hb => by
    have := begK_set k ps bs i (by simpa using h1) (by simpa using h2) hb
    simp only [List.set_cons_succ, begK, this]
    rw [show nth (p :: ps) (i + 1) = nth ps i from rfl]; omega
/-- a class of which less has been begun than has arrived waits -/
theorem begK_wait {k t : Int} (hk : 0 ≤ k) : ∀ (ps : List Pkt) (bs : List Bool), bs.length = ps.length → (∀ p ∈ ps, 0 ≤ p.size) → begK k ps bs < pbytes k (t + 1) ps → ∃ i, i < ps.length ∧ nth bs i = false ∧ (nth ps i).flow = k ∧ (nth ps i).time ≤ t
  | [], _, _, _, h => by simp [begK, pbytes] at h
  | _ :: _, [], hl, _, _ => by simp at hl
  | p :: ps, b :: bs, hl, hs, h => by
    have hp := hs p (by simp)
    by_cases h0 : b = false ∧ p.flow = k ∧ p.time ≤ t
    · exact ⟨0, by simp, h0.1, h0.2.1, h0.2.2⟩
    · have h1 : begK k ps bs < pbytes k (t + 1) ps := by
        simp only [begK, pbytes] at h
        by_cases hh : hit k (t + 1) p
        · rw [if_pos hh] at h
          have hb : b = true ∧ p.flow = k := by
            unfold hit at hh
            have hf : p.flow = k := by omega
            refine ⟨?_, hf⟩
            cases b with
            | true => rfl
            | false => exact absurd ⟨rfl, hf, by omega⟩ h0
          rw [if_pos hb] at h
          omega
        · rw [if_neg hh] at h
          split at h <;> omega
      obtain ⟨i, g1, g2, g3, g4⟩ := begK_wait hk ps bs (by simpa using hl) (fun q hq => hs q (by simp [hq])) h1
      exact ⟨i + 1, by simpa using g1, g2, g3, g4⟩

/-- the sums of a class: begun, less what is still to be sent of the open packet -/
def Cl {σ : Type} (ps : List Pkt) (k : Nat) (col : Nat) (s : RS σ) : Prop :=
  nth (nth s.sent k) col = begK k ps s.ms.begun - (if 0 ≤ s.cur ∧ (nth ps s.cur.toNat).flow = k then s.rest else 0)
/-- an invariant of the rounds: of the choice's state, the open packet and what is left of it, what the class and all others have been sent -/
structure Per {σ : Type} (ps : List Pkt) (ch : MS → σ → Int × Nat × σ) (good : MS → σ → Prop) (k : Nat) (J : σ → Int → Int → Int → Int → Prop) : Prop where
  pick : ∀ ms sg r own oth, good ms sg → ms.begun.length = ps.length → (∃ i, i < ps.length ∧ nth ms.begun i = false ∧ (nth ps i).flow = k ∧ (nth ps i).time ≤ ms.now) → J sg (-1) r own oth → 0 ≤ (ch ms sg).1 → J (ch ms sg).2.2 (ch ms sg).1 (nth ps (ch ms sg).1.toNat).size own oth
  send : ∀ (sg : σ) (cur rest own oth n : Int), 0 ≤ cur → cur < ps.length → 1 ≤ n → n ≤ rest → J sg cur rest own oth →
    J sg (if rest - n = 0 then -1 else cur) (rest - n) (own + (if (nth ps cur.toNat).flow = k then n else 0)) (oth + (if (nth ps cur.toNat).flow = k then 0 else n))
  none : ∀ sg c c' r r' own oth, c < 0 → c' < 0 → J sg c r own oth → J sg c' r' own oth
section
variable {σ : Type} {ps : List Pkt} {ch : MS → σ → Int × Nat × σ} {good : MS → σ → Prop} {rel : Nat → Nat → Prop} {classes col k : Nat} {s : RS σ} {J : σ → Int → Int → Int → Int → Prop}
theorem Cl.pickup (hg : Fair ps ch good rel) (hw : Wk ps classes good rel col s) (h : Cl ps k col s) : Cl ps k col (pickup ps ch s) := by
  unfold M.pickup
  by_cases hc : 0 ≤ s.cur
  · rw [if_pos hc]; exact h
  · rw [if_neg hc]
    unfold Cl at h
    rw [if_neg (by omega)] at h
    by_cases hr : (ch s.ms s.sg).1 < 0
    · simp only [hr, if_true]
      unfold Cl
      dsimp only
      rw [if_neg (by omega)]; exact h
    · simp only [hr, if_false]
      have hi := hg.idx _ _ hw.good hw.blen (by omega)
      obtain ⟨w1, w2⟩ := hg.waits _ _ hw.good hw.blen (by omega)
      have hb := hw.blen
      unfold Cl
      dsimp only
      rw [begK_set _ _ _ _ (by omega) (by omega) w1, h]
      by_cases hf : (nth ps (ch s.ms s.sg).1.toNat).flow = k
      · rw [if_pos hf, if_pos ⟨by omega, hf⟩]; omega
      · rw [if_neg hf, if_neg (fun h => hf h.2)]; omega
/-- what is sent of the class: n or nothing -/
theorem Cl.send (hfl : ∀ p ∈ ps, 0 ≤ p.flow ∧ p.flow < classes) (hk : k < classes) {t : Nat} (hw : Wk ps classes good rel (t + 1) s) (h : Cl ps k (t + 1) s) (hc : 0 ≤ s.cur) (hl : 0 < s.ms.left) :
    ∃ n, 1 ≤ n ∧ n ≤ s.rest ∧ (M.send ps t s).ms.left = s.ms.left - n ∧ (M.send ps t s).rest = s.rest - n ∧ (M.send ps t s).cur = (if s.rest - n = 0 then -1 else s.cur) ∧ (M.send ps t s).sg = s.sg ∧ (M.send ps t s).ms.begun = s.ms.begun ∧
      nth (nth (M.send ps t s).sent k) (t + 1) = nth (nth s.sent k) (t + 1) + (if (nth ps s.cur.toNat).flow = k then n else 0) ∧ Cl ps k (t + 1) (M.send ps t s) := by
  obtain ⟨c1, c2, c3⟩ := hw.cur hc
  have hfl' := hfl _ (nth_mem (show s.cur.toNat < ps.length by omega))
  have hlen := hw.slen
  refine ⟨if s.ms.left < s.rest then s.ms.left else s.rest, by split <;> omega, by split <;> omega, rfl, rfl, rfl, rfl, rfl, ?_⟩
  have hn : (if s.ms.left < s.rest then s.ms.left else s.rest) ≤ s.rest := by split <;> omega
  have hcol : nth (nth (M.send ps t s).sent k) (t + 1) = nth (nth s.sent k) (t + 1) + (if (nth ps s.cur.toNat).flow = k then (if s.ms.left < s.rest then s.ms.left else s.rest) else 0) := by
    unfold M.send
    dsimp only
    by_cases hf : (nth ps s.cur.toNat).flow = k
    · have e : (nth ps s.cur.toNat).flow.toNat = k := by omega
      rw [if_pos hf, e, nth_set_self (by omega), nth_set_self]
      have := hw.rlen _ (nth_mem (xs := s.sent) (k := k) (by omega))
      omega
    · rw [if_neg hf, nth_set_ne (by omega)]; omega
  refine ⟨hcol, ?_⟩
  unfold Cl at h ⊢
  rw [hcol, h]
  unfold M.send
  dsimp only
  generalize (if s.ms.left < s.rest then s.ms.left else s.rest) = n at hn ⊢
  by_cases hf : (nth ps s.cur.toNat).flow = k
  · rw [if_pos ⟨hc, hf⟩, if_pos hf]
    by_cases hz : s.rest - n = 0
    · simp only [hz, if_true]; rw [if_neg (by omega)]; omega
    · simp only [hz, if_false]; rw [if_pos ⟨hc, hf⟩]; omega
  · rw [if_neg (fun h => hf h.2), if_neg hf]
    by_cases hz : s.rest - n = 0
    · simp only [hz, if_true]; rw [if_neg (by omega)]; omega
    · simp only [hz, if_false]; rw [if_neg (fun h => hf h.2)]; omega
theorem Per.inner (hg : Fair ps ch good rel) (hb : Busy ps ch good) (hJ : Per ps ch good k J) (hs : ∀ p ∈ ps, 1 ≤ p.size) (hfl : ∀ p ∈ ps, 0 ≤ p.flow ∧ p.flow < classes) (hk : k < classes) {t : Nat} : ∀ (j : Nat) (s : RS σ) (own oth : Int), Wk ps classes good rel (t + 1) s → Cl ps k (t + 1) s → s.ms.now = t → 0 ≤ s.ms.left →
    (J s.sg s.cur s.rest own oth ∨ pbytes k ((t : Int) + 1) ps ≤ nth (nth s.sent k) (t + 1)) →
    Cl ps k (t + 1) (inner ps ch t j s) ∧ nth (nth s.sent k) (t + 1) ≤ nth (nth (inner ps ch t j s).sent k) (t + 1) ∧
      (nth (nth (inner ps ch t j s).sent k) (t + 1) < pbytes k ((t : Int) + 1) ps →
        J (inner ps ch t j s).sg (inner ps ch t j s).cur (inner ps ch t j s).rest (own + (nth (nth (inner ps ch t j s).sent k) (t + 1) - nth (nth s.sent k) (t + 1))) (oth + ((colSum (inner ps ch t j s).sent (t + 1) - colSum s.sent (t + 1)) - (nth (nth (inner ps ch t j s).sent k) (t + 1) - nth (nth s.sent k) (t + 1)))))
  | 0, s, own, oth, hw, hc, hn, hl, h => by
    simp only [M.inner]
    refine ⟨hc, Int.le_refl _, fun hlt => ?_⟩
    rcases h with h | h
    · simpa using h
    · omega
  | j + 1, s, own, oth, hw, hc, hn, hl, h => by
    simp only [M.inner]
    by_cases hl0 : s.ms.left ≤ 0
    · rw [if_pos hl0]
      refine ⟨hc, Int.le_refl _, fun hlt => ?_⟩
      rcases h with h | h
      · simpa using h
      · omega
    · rw [if_neg hl0]
      have hw1 := hw.pickup hg hs
      have hc1 := hc.pickup hg hw
      obtain ⟨e1, e2, e3, e4⟩ := pickup_same ps ch s
      -- the choice
      have hJ1 : nth (nth s.sent k) (t + 1) < pbytes k ((t : Int) + 1) ps → 0 ≤ (M.pickup ps ch s).cur ∧ J (M.pickup ps ch s).sg (M.pickup ps ch s).cur (M.pickup ps ch s).rest own oth := fun hlt => by
        have h := h.resolve_right (by omega)
        by_cases hcur : 0 ≤ s.cur
        · unfold M.pickup; rw [if_pos hcur]; exact ⟨hcur, h⟩
        · unfold Cl at hc
          rw [if_neg (fun x => hcur x.1)] at hc
          obtain ⟨i, g1, g2, g3, g4⟩ := begK_wait (k := (k : Int)) (t := (t : Int)) (by omega) ps s.ms.begun hw.blen (fun p hp => by have := hs p hp; omega) (by omega)
          have hr0 : 0 ≤ (ch s.ms s.sg).1 := by
            apply Classical.byContradiction
            intro hneg
            have := hb _ _ hw.good hw.blen (by omega) i g1 (by omega)
            rw [this] at g2; cases g2
          have hp := hJ.pick s.ms s.sg s.rest own oth hw.good hw.blen ⟨i, g1, g2, g3, by omega⟩ (hJ.none _ s.cur _ s.rest _ own oth (by omega) (by omega) h) hr0
          unfold M.pickup
          rw [if_neg hcur]
          dsimp only
          rw [if_neg (by omega)]
          exact ⟨hr0, hp⟩
      by_cases hcn : (M.pickup ps ch s).cur < 0
      · rw [if_pos hcn]
        refine ⟨hc1, by rw [e3]; exact Int.le_refl _, fun hlt => ?_⟩
        rw [e3] at hlt
        have := (hJ1 hlt).1
        omega
      · rw [if_neg hcn]
        obtain ⟨n, n1, n2, n3, n4, n5, n6, n7, n8, n9⟩ := Cl.send hfl hk hw1 hc1 (by omega) (by rw [e1]; omega)
        obtain ⟨g1, g2, g3, g4, g5, g6⟩ := hw1.send hfl hg.free (by rw [e2]; exact hn) (by omega) (by rw [e1]; omega)
        have hn0 : 0 ≤ (if (nth ps (M.pickup ps ch s).cur.toNat).flow = (k : Int) then n else 0) := by split <;> omega
        have hcc := hw1.cur (by omega)
        obtain ⟨r1, r2, r3⟩ := Per.inner hg hb hJ hs hfl hk j (M.send ps t (M.pickup ps ch s)) (own + (if (nth ps (M.pickup ps ch s).cur.toNat).flow = (k : Int) then n else 0)) (oth + (if (nth ps (M.pickup ps ch s).cur.toNat).flow = (k : Int) then 0 else n)) g1 n9 (by rw [g5, e2]; exact hn) g3 (by
          by_cases hlt : nth (nth s.sent k) (t + 1) < pbytes k ((t : Int) + 1) ps
          · left
            have := hJ.send _ _ _ _ _ n (by omega) hcc.1 n1 n2 (hJ1 hlt).2
            rw [n4, n5, n6]; exact this
          · right; rw [n8, e3]; omega)
        have hcs : colSum (M.send ps t (M.pickup ps ch s)).sent (t + 1) = colSum s.sent (t + 1) + n := by rw [g2, n3, e3]; omega
        refine ⟨r1, by rw [n8, e3] at r2; omega, fun hlt => ?_⟩
        have := r3 hlt
        rw [n8, hcs, e3] at this
        have ea : own + (if (nth ps (M.pickup ps ch s).cur.toNat).flow = (k : Int) then n else 0) + (nth (nth (M.inner ps ch t j (M.send ps t (M.pickup ps ch s))).sent k) (t + 1) - (nth (nth s.sent k) (t + 1) + (if (nth ps (M.pickup ps ch s).cur.toNat).flow = (k : Int) then n else 0))) = own + (nth (nth (M.inner ps ch t j (M.send ps t (M.pickup ps ch s))).sent k) (t + 1) - nth (nth s.sent k) (t + 1)) := by omega
        rw [ea] at this
        have eb : oth + (if (nth ps (M.pickup ps ch s).cur.toNat).flow = (k : Int) then 0 else n) + ((colSum (M.inner ps ch t j (M.send ps t (M.pickup ps ch s))).sent (t + 1) - (colSum s.sent (t + 1) + n)) - (nth (nth (M.inner ps ch t j (M.send ps t (M.pickup ps ch s))).sent k) (t + 1) - (nth (nth s.sent k) (t + 1) + (if (nth ps (M.pickup ps ch s).cur.toNat).flow = (k : Int) then n else 0)))) = oth + ((colSum (M.inner ps ch t j (M.send ps t (M.pickup ps ch s))).sent (t + 1) - colSum s.sent (t + 1)) - (nth (nth (M.inner ps ch t j (M.send ps t (M.pickup ps ch s))).sent k) (t + 1) - nth (nth s.sent k) (t + 1))) := by split <;> omega
        rw [eb] at this
        exact this
/-- the state at the beginning of a tick -/
def opened (cap : Int) (t : Nat) (s : RS σ) : RS σ := { s with ms := { s.ms with now := t, left := cap }, sent := s.sent.map fun l => l ++ [nth l t] }
theorem opened_row {t : Nat} {l : List Int} (h : l.length = t + 1) : nth (l ++ [nth l t]) (t + 1) = nth l t := by
  unfold nth List.getD
  rw [List.getElem?_append_right (by omega), h]; simp
theorem Wk.opened (hg : Fair ps ch good rel) {t : Nat} {cap : Int} (h : Wk ps classes good rel t s) (hnow : s.ms.now ≤ t) : Wk ps classes good rel (t + 1) (M.opened cap t s) ∧ colSum (M.opened cap t s).sent (t + 1) = colSum s.sent t := by
  have hcol : colSum (s.sent.map fun l => l ++ [nth l t]) (t + 1) = colSum s.sent t := colSum_map _ (fun l hl => opened_row (h.rlen l hl))
  refine ⟨⟨hg.free _ _ _ _ h.good, h.dlen, h.blen, by simp [M.opened, h.slen], fun l hl => ?_, h.cur, h.open_, fun i hi hb hne => ?_, fun i hi hb => ?_, h.ord, h.dord, by unfold M.opened; dsimp only; rw [hcol]; exact h.sum⟩, hcol⟩
  · obtain ⟨l', h2, rfl⟩ := List.mem_map.1 hl
    simp [h.rlen l' h2]
  · have := h.shut i hi hb hne
    unfold M.opened; dsimp only; omega
  · have := h.time i hi hb
    unfold M.opened; dsimp only; omega
theorem mrun_succ (cap : Int) (classes m : Nat) (sg : σ) : mrun ps ch cap classes (m + 1) sg = inner ps ch m cap.toNat (M.opened cap m (mrun ps ch cap classes m sg)) := by
  have e : mrun ps ch cap classes (m + 1) sg = tick ps ch cap m (mrun ps ch cap classes m sg) := by unfold mrun; rw [ticksFrom_snoc, Nat.zero_add]
  rw [e]; rfl
end
end Go.Proofs.Ytolmmfphdieilaa.M

/- Curves, plain: normal forms of functions that repeat. No condition. -/
namespace Go.Proofs.Ytolmmfphdieilaa.M
open Go Go.Proofs.Ytolmmfphdieilaa.K

def INF : Int := 4611686018427387904
def MAXV : Int := 1073741824
/-- the first values of a function -/
def fvals (F : Nat → Int) (n : Nat) : List Int := (List.range n).map F
theorem fvals_len (F : Nat → Int) (n : Nat) : (fvals F n).length = n := by simp [fvals]
theorem fvals_nth (F : Nat → Int) {n i : Nat} (h : i < n) : nth (fvals F n) i = F i := range_map_nth F h
theorem fvals_snoc (F : Nat → Int) (n : Nat) : fvals F (n + 1) = fvals F n ++ [F n] := range_map_snoc F n
theorem fvals_take (F : Nat → Int) {n k : Nat} (h : k ≤ n) : (fvals F n).take k = fvals F k := by
  refine nth_ext (by simp [fvals]; omega) (fun i hi => ?_)
  have hi' : i < k := by simp [fvals] at hi; omega
  rw [fvals_nth F hi']
  unfold nth List.getD
  rw [List.getElem?_take, if_pos hi']
  exact fvals_nth F (by omega)
theorem fvals_drop (F : Nat → Int) {n k : Nat} (h : k ≤ n) : (fvals F n).drop k = fvals (fun t => F (k + t)) (n - k) := by
  refine nth_ext (by simp [fvals]) (fun i hi => ?_)
  have hi' : i < n - k := by simp [fvals] at hi; omega
  rw [fvals_nth _ hi']
  unfold nth List.getD
  rw [List.getElem?_drop]
  exact fvals_nth F (by omega)
theorem fvals_eq {F : Nat → Int} {l : List Int} (h : ∀ i, i < l.length → nth l i = F i) : l = fvals F l.length :=
  nth_ext (by simp [fvals]) (fun i hi => by rw [fvals_nth F hi, h i hi])

/-! ### the least period and the start -/
/-- it grows by I in P ticks from S on -/
def Grows (F : Nat → Int) (S P : Nat) (I : Int) : Prop := ∀ t, S ≤ t → F (t + P) = F t + I
theorem Grows.mono {F : Nat → Int} {S S' P : Nat} {I : Int} (h : Grows F S P I) (hs : S ≤ S') : Grows F S' P I := fun t ht => h t (by omega)
theorem Grows.mul {F : Nat → Int} {S P : Nat} {I : Int} (h : Grows F S P I) : ∀ (k t : Nat), S ≤ t → F (t + k * P) = F t + k * I
  | 0, t, _ => by simp
  | k + 1, t, ht => by
    rw [show t + (k + 1) * P = (t + k * P) + P by rw [Nat.add_mul]; omega, h _ (by omega), Grows.mul h k t ht, Int.natCast_add, Int.add_mul]
    simp; omega
/-- a window shows it -/
def PerOk (F : Nat → Int) (S P : Nat) (I : Int) (p : Nat) : Prop := P % p = 0 ∧ (I * p) % P = 0 ∧ ∀ t, S ≤ t → t < S + P → F (t + p) = F t + I * p / P
theorem PerOk.all {F : Nat → Int} {S P : Nat} {I : Int} {p : Nat} (hP : 0 < P) (hg : Grows F S P I) (h : PerOk F S P I p) : Grows F S p (I * p / P) := by
  intro t
  induction t using Nat.strongRecOn with
  | _ t ih =>
    intro ht
    by_cases hw : t < S + P
    · exact h.2.2 t ht hw
    · have h1 := ih (t - P) (by omega) (by omega)
      have h2 := hg (t - P) (by omega)
      have h3 := hg (t - P + p) (by omega)
      rw [show t - P + P = t by omega] at h2
      rw [show t - P + p + P = t + p by omega] at h3
      omega
theorem PerOk.move {F : Nat → Int} {S S' P : Nat} {I : Int} {p : Nat} (hP : 0 < P) (hg : Grows F S P I) (hg' : Grows F S' P I) (h : PerOk F S P I p) : PerOk F S' P I p := by
  refine ⟨h.1, h.2.1, fun t ht _ => ?_⟩
  have ha := h.all hP hg (t + S * P) (by have := Nat.le_mul_of_pos_right S hP; omega)
  have h1 := hg'.mul S t ht
  have h2 := hg'.mul S (t + p) (by omega)
  rw [show t + S * P + p = t + p + S * P by omega] at ha
  omega
theorem PerOk.self {F : Nat → Int} {S P : Nat} {I : Int} (hP : 0 < P) (hg : Grows F S P I) : PerOk F S P I P := by
  refine ⟨Nat.mod_self P, Int.mul_emod_left I P, fun t ht _ => ?_⟩
  rw [Int.mul_ediv_cancel _ (by omega)]
  exact hg t ht
/-- the least number from 1 on -/
def LeastN (Q : Nat → Prop) (p : Nat) : Prop := 1 ≤ p ∧ Q p ∧ ∀ r, 1 ≤ r → r < p → ¬ Q r
theorem LeastN.unique {Q Q' : Nat → Prop} {p p' : Nat} (h : LeastN Q p) (h' : LeastN Q' p') (hq : ∀ r, Q r ↔ Q' r) : p = p' := by
  rcases Nat.lt_trichotomy p p' with h1 | h1 | h1
  · exact absurd ((hq p).1 h.2.1) (h'.2.2 p h.1 h1)
  · exact h1
  · exact absurd ((hq p').2 h'.2.1) (h.2.2 p' h'.1 h1)
/-- from where on it grows so -/
def Starts (F : Nat → Int) (p : Nat) (q : Int) (s : Nat) : Prop := Grows F s p q ∧ (s = 0 ∨ F (s - 1 + p) ≠ F (s - 1) + q)
theorem Starts.unique {F : Nat → Int} {p : Nat} {q : Int} {s s' : Nat} (h : Starts F p q s) (h' : Starts F p q s') : s = s' := by
  rcases Nat.lt_trichotomy s s' with h1 | h1 | h1
  · rcases h'.2 with h2 | h2
    · omega
    · exact absurd (h.1 (s' - 1) (by omega)) h2
  · exact h1
  · rcases h.2 with h2 | h2
    · omega
    · exact absurd (h'.1 (s - 1) (by omega)) h2

/-! ### what the program does -/
def leastOk (v : List Int) (inc : Int) (p : Nat) : Bool :=
  v.length % p == 0 && (inc * p) % v.length == 0 && (List.range v.length).all fun i => (if i + p < v.length then nth v (i + p) else nth v (i + p - v.length) + inc) == nth v i + inc * p / v.length
def leastL (v : List Int) (inc : Int) : Nat :=
  if findFrom (leastOk v inc) (v.length - 1) 1 = -1 then v.length else (findFrom (leastOk v inc) (v.length - 1) 1).toNat
def downL (v : List Int) (p : Nat) (q : Int) : Nat → Nat
  | 0 => 0
  | s + 1 => if nth v s + q = nth v (s + p) then downL v p q s else s + 1
/-- a curve: values, period, increment -/
structure Cv where
  vals : List Int
  per : Int
  inc : Int
def zcv : Cv := ⟨[], 0, 0⟩
def checkedE (v : List Int) : Int := if 400 < v.length ∨ (v.any fun x => x != INF && decide (x > MAXV)) = true then 3 else 0
def checkedL (v : List Int) (p : Int) (q : Int) : Cv × Int := if checkedE v = 3 then (zcv, 3) else (⟨v, p, q⟩, 0)
def finL (v : List Int) (S P : Nat) (I : Int) : Cv × Int :=
  let p := leastL (v.drop S) I
  let q := I * p / P
  let s := downL v p q S
  if 120 < p ∨ MAXV < q then (zcv, 3) else checkedL (v.take (s + p)) p q
def infAt (F : Nat → Int) (n : Nat) : Int := findFrom (fun t => F t == INF) n 0
def mbuild (F : Nat → Int) (S P : Nat) (I : Int) : Cv × Int :=
  if infAt F (S + P) = -1 then finL (fvals F (S + P)) S P I else checkedL (fvals F ((infAt F (S + P)).toNat + 1)) 1 0

theorem leastOk_iff {F : Nat → Int} {S P : Nat} {I : Int} {p : Nat} (hg : Grows F S P I) (hp : p ≤ P) : leastOk (fvals (fun t => F (S + t)) P) I p = true ↔ PerOk F S P I p := by
  unfold leastOk PerOk
  simp only [fvals_len, Bool.and_eq_true, beq_iff_eq, List.all_eq_true, List.mem_range]
  have key : ∀ i, i < P → (if i + p < P then nth (fvals (fun t => F (S + t)) P) (i + p) else nth (fvals (fun t => F (S + t)) P) (i + p - P) + I) = F (S + i + p) := fun i hi => by
    split
    · rename_i h; rw [fvals_nth _ h, Nat.add_assoc]
    · rename_i h
      rw [fvals_nth _ (by omega), ← hg _ (by omega)]
      congr 1; omega
  constructor
  · rintro ⟨⟨h1, h2⟩, h3⟩
    refine ⟨h1, h2, fun t ht htp => ?_⟩
    have := h3 (t - S) (by omega)
    rw [key _ (by omega), fvals_nth _ (by omega), show S + (t - S) = t by omega] at this
    exact this
  · rintro ⟨h1, h2, h3⟩
    refine ⟨⟨h1, h2⟩, fun i hi => ?_⟩
    rw [key i hi, fvals_nth _ hi]
    exact h3 _ (by omega) (by omega)
theorem leastL_is {F : Nat → Int} {S P : Nat} {I : Int} (hP : 0 < P) (hg : Grows F S P I) : LeastN (PerOk F S P I) (leastL (fvals (fun t => F (S + t)) P) I) ∧ leastL (fvals (fun t => F (S + t)) P) I ≤ P := by
  unfold leastL
  rw [fvals_len]
  rcases findFrom_cases (leastOk (fvals (fun t => F (S + t)) P) I) (P - 1) 1 with ⟨i, h1, h2, h3, h4, h5⟩ | ⟨h1, h2⟩
  · rw [h3, if_neg (by omega), Int.toNat_natCast]
    refine ⟨⟨h1, (leastOk_iff hg (by omega)).1 h4, fun r hr hri hq => ?_⟩, by omega⟩
    have := h5 r hr hri
    rw [(leastOk_iff hg (by omega)).2 hq] at this
    cases this
  · rw [h1, if_pos rfl]
    refine ⟨⟨hP, PerOk.self hP hg, fun r hr hri hq => ?_⟩, Nat.le_refl _⟩
    have := h2 r hr (by omega)
    rw [(leastOk_iff hg (by omega)).2 hq] at this
    cases this
theorem downL_is {F : Nat → Int} {p n : Nat} {q : Int} : ∀ (s : Nat), s + p ≤ n → Grows F s p q → Starts F p q (downL (fvals F n) p q s) ∧ downL (fvals F n) p q s ≤ s
  | 0, _, h => ⟨⟨h, .inl rfl⟩, Nat.le_refl _⟩
  | s + 1, hn, h => by
    simp only [downL]
    rw [fvals_nth F (show s < n by omega)]
    by_cases hp : s + p < n
    · rw [fvals_nth F hp]
      split
      · rename_i he
        have := downL_is (F := F) (p := p) (n := n) (q := q) s (by omega) (fun t ht => by
          by_cases hts : t = s
          · subst hts; exact he.symm
          · exact h t (by omega))
        exact ⟨this.1, by omega⟩
      · rename_i he
        exact ⟨⟨h, .inr (by simpa using fun h => he h.symm)⟩, Nat.le_refl _⟩
    · omega

/-! ### what it is -/
/-- the normal form of a finite function -/
structure NF (F : Nat → Int) (S P : Nat) (I : Int) (p s : Nat) : Prop where
  least : LeastN (PerOk F S P I) p
  starts : Starts F p (I * p / P) s
theorem NF.unique {F : Nat → Int} {S S' P : Nat} {I : Int} {p p' s s' : Nat} (hP : 0 < P) (hg : Grows F S P I) (hg' : Grows F S' P I) (h : NF F S P I p s) (h' : NF F S' P I p' s') : p = p' ∧ s = s' := by
  have hp := h.least.unique h'.least (fun r => ⟨fun hr => hr.move hP hg hg', fun hr => hr.move hP hg' hg⟩)
  subst hp
  exact ⟨rfl, h.starts.unique h'.starts⟩
def nfE (F : Nat → Int) (p s : Nat) (q : Int) : Int := if 120 < p ∨ MAXV < q ∨ 400 < s + p ∨ ((List.range (s + p)).any fun i => decide (F i > MAXV)) = true then 3 else 0
def nfC (F : Nat → Int) (p s : Nat) (q : Int) : Cv × Int := if nfE F p s q = 3 then (zcv, 3) else (⟨fvals F (s + p), p, q⟩, 0)
theorem finL_nf {F : Nat → Int} {S P : Nat} {I : Int} (hP : 0 < P) (hg : Grows F S P I) (hf : ∀ t, t < S + P → F t ≠ INF) :
    ∃ p s, NF F S P I p s ∧ p ≤ P ∧ s ≤ S ∧ finL (fvals F (S + P)) S P I = nfC F p s (I * p / P) := by
  have hd : (fvals F (S + P)).drop S = fvals (fun t => F (S + t)) P := by rw [fvals_drop F (by omega)]; congr 1; omega
  obtain ⟨h1, h2⟩ := leastL_is hP hg
  have h3 := h1.2.1.all hP hg
  obtain ⟨h4, h5⟩ := downL_is (n := S + P) S (by omega) h3
  refine ⟨_, _, ⟨h1, h4⟩, h2, h5, ?_⟩
  unfold finL
  rw [hd]
  generalize leastL (fvals (fun t => F (S + t)) P) I = p at h1 h2 h3 h4 h5 ⊢
  generalize hs : downL (fvals F (S + P)) p (I * p / P) S = s at h4 h5 ⊢
  dsimp only
  rw [hs, fvals_take F (by omega)]
  unfold nfC nfE checkedL checkedE
  rw [fvals_len]
  have hany : (fvals F (s + p)).any (fun x => x != INF && decide (x > MAXV)) = (List.range (s + p)).any fun i => decide (F i > MAXV) := by
    unfold fvals
    rw [List.any_map, Bool.eq_iff_iff]
    simp only [List.any_eq_true, List.mem_range, Function.comp, Bool.and_eq_true, decide_eq_true_eq]
    constructor
    · rintro ⟨i, h1, h2⟩; exact ⟨i, h1, h2.2⟩
    · rintro ⟨i, h1, h2⟩; exact ⟨i, h1, by simpa using hf i (by omega), h2⟩
  rw [hany]
  by_cases a : 120 < p ∨ MAXV < I * p / P
  · rw [if_pos a, if_pos (by rw [if_pos]; rcases a with a | a; exact .inl a; exact .inr (.inl a))]
  · rw [if_neg a]
    by_cases b : 400 < s + p ∨ ((List.range (s + p)).any fun i => decide (F i > MAXV)) = true
    · rw [if_pos (if_pos b), if_pos (if_pos (.inr (.inr b)))]
    · rw [if_neg (show ¬ (if 400 < s + p ∨ ((List.range (s + p)).any fun i => decide (F i > MAXV)) = true then (3 : Int) else 0) = 3 by rw [if_neg b]; decide),
        if_neg (show ¬ (if 120 < p ∨ MAXV < I * p / P ∨ 400 < s + p ∨ ((List.range (s + p)).any fun i => decide (F i > MAXV)) = true then (3 : Int) else 0) = 3 by
          rw [if_neg (fun h => by rcases h with h | h | h; exact a (.inl h); exact a (.inr h); exact b h)]; decide)]

/-! ### what the references do -/
def perR (c : Cv) (start : Int) (p : Int) : Bool :=
  c.per.tmod p == 0 && (c.inc * p).tmod c.per == 0 && (List.range c.per.toNat).all fun i => atR c.vals c.per c.inc (start + i + p) == atR c.vals c.per c.inc (start + i) + c.inc * p / c.per
def leastR (c : Cv) : Nat := (findFrom (fun p => perR c (c.vals.length - c.per) p) (c.per.toNat) 1).toNat
def downR (c : Cv) (p : Int) (q : Int) : Nat → Nat
  | 0 => 0
  | s + 1 => if atR c.vals c.per c.inc ((s : Int) + p) = atR c.vals c.per c.inc s + q then downR c p q s else s + 1
def infL (l : List Int) : Int := findFrom (fun i => nth l i == INF) l.length 0
def normR (c : Cv) : Cv :=
  if infL c.vals = -1 then
    let p := leastR c
    let q := c.inc * p / c.per
    let s := downR c p q (c.vals.length - c.per).toNat
    ⟨(List.range (s + p)).map fun (t : Nat) => atR c.vals c.per c.inc (t : Int), p, q⟩
  else ⟨c.vals.take ((infL c.vals).toNat + 1), 1, 0⟩
def sortedB : Int → List Int → Bool
  | _, [] => true
  | a, x :: xs => decide (a ≤ x) && sortedB x xs
def validB (c : Cv) : Bool :=
  decide (1 ≤ c.vals.length) && decide (c.vals.length ≤ 400) && decide (1 ≤ c.per) && decide (c.per ≤ 120) && decide (c.per ≤ c.vals.length) && decide (0 ≤ c.inc) && decide (c.inc ≤ MAXV) &&
  (List.range c.vals.length).all (fun i => (nth c.vals i == INF || (decide (0 ≤ nth c.vals i) && decide (nth c.vals i ≤ MAXV))) && (i == 0 || decide (nth c.vals (i - 1) ≤ nth c.vals i))) &&
  (if nth c.vals (c.vals.length - 1) = INF then c.per == 1 && c.inc == 0 else decide (nth c.vals (c.vals.length - 1) ≤ nth c.vals (c.vals.length - c.per.toNat) + c.inc))
def madeR (c : Cv) : Cv × Int := if validB (normR c) then (normR c, 0) else (zcv, 3)

section
variable {F : Nat → Int} {S P : Nat} {I : Int}
theorem atR_fvals (hP : 0 < P) (hg : Grows F S P I) (hf : ∀ t, t < S + P → F t ≠ INF) (t : Nat) : atR (fvals F (S + P)) P I (t : Int) = F t := by
  unfold atR
  rw [fvals_len, if_neg (by omega)]
  by_cases h : t < S + P
  · rw [if_pos (by omega), Int.toNat_natCast, fvals_nth F h]
  · rw [if_neg (by omega)]
    obtain ⟨d, rfl⟩ : ∃ d, t = S + P + d := ⟨t - (S + P), by omega⟩
    have e1 : (((S + P + d : Nat) : Int) - ((S + P : Nat) : Int)) / (P : Int) = ((d / P : Nat) : Int) := by
      rw [show ((S + P + d : Nat) : Int) - ((S + P : Nat) : Int) = (d : Int) by omega]; rfl
    rw [e1]
    have h1 : d / P * P ≤ d := Nat.div_mul_le_self d P
    have h2 : d < (d / P + 1) * P := Nat.lt_mul_of_div_lt (Nat.lt_succ_self _) hP
    have h3 : (d / P + 1) * P = d / P * P + P := by rw [Nat.add_mul]; omega
    have e2 : (((S + P + d : Nat) : Int) - (((d / P : Nat) : Int) + 1) * (P : Int)).toNat = S + d - d / P * P := by
      have : (((d / P : Nat) : Int) + 1) * (P : Int) = (((d / P + 1) * P : Nat) : Int) := by simp
      rw [this, h3]; omega
    rw [e2, fvals_nth F (show S + d - d / P * P < S + P by omega)]
    have hne : ¬ F (S + d - d / P * P) = 4611686018427387904 := hf _ (by omega)
    rw [if_neg hne]
    have := hg.mul (d / P + 1) (S + d - d / P * P) (by omega)
    rw [show S + d - d / P * P + (d / P + 1) * P = S + P + d by omega] at this
    rw [this]; simp
theorem tmod_zero {a : Int} {b : Nat} (ha : 0 ≤ a) : (a.tmod (b : Int) == 0) = decide (a % (b : Int) = 0) := by
  rw [Int.tmod_eq_emod_of_nonneg ha]
  rfl
theorem perR_iff (hP : 0 < P) (hI : 0 ≤ I) (hg : Grows F S P I) (hf : ∀ t, t < S + P → F t ≠ INF) (p : Nat) : perR ⟨fvals F (S + P), P, I⟩ ((((fvals F (S + P)).length : Nat) : Int) - (P : Int)) (p : Int) = true ↔ PerOk F S P I p := by
  unfold perR PerOk
  dsimp only
  rw [fvals_len, show ((S + P : Nat) : Int) - (P : Int) = (S : Int) by omega, tmod_zero (by omega), tmod_zero (Int.mul_nonneg hI (by omega)), Int.toNat_natCast]
  simp only [Bool.and_eq_true, decide_eq_true_eq, List.all_eq_true, List.mem_range, beq_iff_eq]
  have e : ∀ i : Nat, atR (fvals F (S + P)) P I ((S : Int) + i + p) = F (S + i + p) ∧ atR (fvals F (S + P)) P I ((S : Int) + i) = F (S + i) := fun i => by
    have h1 := atR_fvals hP hg hf (S + i + p)
    have h2 := atR_fvals hP hg hf (S + i)
    simp only [Int.natCast_add] at h1 h2
    exact ⟨h1, h2⟩
  have e3 : ((P : Int) % (p : Int) = 0) ↔ P % p = 0 := by omega
  rw [e3, and_assoc]
  constructor
  · rintro ⟨h1, h2, h3⟩
    refine ⟨h1, h2, fun t ht htp => ?_⟩
    have := h3 (t - S) (by omega)
    rw [(e _).1, (e _).2, show S + (t - S) = t by omega] at this
    exact this
  · rintro ⟨h1, h2, h3⟩
    refine ⟨h1, h2, fun i hi => ?_⟩
    rw [(e i).1, (e i).2]
    exact h3 _ (by omega) (by omega)
theorem leastR_is (hP : 0 < P) (hI : 0 ≤ I) (hg : Grows F S P I) (hf : ∀ t, t < S + P → F t ≠ INF) : LeastN (PerOk F S P I) (leastR ⟨fvals F (S + P), P, I⟩) ∧ leastR ⟨fvals F (S + P), P, I⟩ ≤ P := by
  unfold leastR
  dsimp only
  rw [Int.toNat_natCast]
  rcases findFrom_cases (fun p => perR ⟨fvals F (S + P), P, I⟩ ((((fvals F (S + P)).length : Nat) : Int) - (P : Int)) (p : Int)) P 1 with ⟨i, h1, h2, h3, h4, h5⟩ | ⟨h1, h2⟩
  · rw [h3, Int.toNat_natCast]
    refine ⟨⟨h1, (perR_iff hP hI hg hf i).1 h4, fun r hr hri hq => ?_⟩, by omega⟩
    have := h5 r hr hri
    rw [(perR_iff hP hI hg hf r).2 hq] at this
    cases this
  · have := h2 P (by omega) (by omega)
    rw [(perR_iff hP hI hg hf P).2 (PerOk.self hP hg)] at this
    cases this
theorem downR_is (hP : 0 < P) (hg : Grows F S P I) (hf : ∀ t, t < S + P → F t ≠ INF) {p : Nat} {q : Int} : ∀ (s : Nat), Grows F s p q → Starts F p q (downR ⟨fvals F (S + P), P, I⟩ (p : Int) q s) ∧ downR ⟨fvals F (S + P), P, I⟩ (p : Int) q s ≤ s
  | 0, h => ⟨⟨h, .inl rfl⟩, Nat.le_refl _⟩
  | s + 1, h => by
    simp only [downR]
    have h1 := atR_fvals hP hg hf (s + p)
    have h2 := atR_fvals hP hg hf s
    simp only [Int.natCast_add] at h1
    rw [h1, h2]
    split
    · rename_i he
      have := downR_is hP hg hf (p := p) (q := q) s (fun t ht => by
        by_cases hts : t = s
        · subst hts; exact he
        · exact h t (by omega))
      exact ⟨this.1, by omega⟩
    · rename_i he
      exact ⟨⟨h, .inr (by simpa using he)⟩, Nat.le_refl _⟩
theorem infL_fvals (n : Nat) (hf : ∀ t, t < n → F t ≠ INF) : infL (fvals F n) = -1 := by
  unfold infL
  rw [fvals_len]
  rcases findFrom_cases (fun i => nth (fvals F n) i == INF) n 0 with ⟨i, h1, h2, h3, h4, h5⟩ | ⟨h1, h2⟩
  · rw [fvals_nth F (by omega)] at h4
    exact absurd (by simpa using h4) (hf i (by omega))
  · exact h1
theorem normR_nf (hP : 0 < P) (hI : 0 ≤ I) (hg : Grows F S P I) (hf : ∀ t, t < S + P → F t ≠ INF) : ∃ p s, NF F S P I p s ∧ p ≤ P ∧ s ≤ S ∧ normR ⟨fvals F (S + P), P, I⟩ = ⟨fvals F (s + p), p, I * p / P⟩ := by
  obtain ⟨h1, h2⟩ := leastR_is hP hI hg hf
  have h3 := h1.2.1.all hP hg
  obtain ⟨h4, h5⟩ := downR_is hP hg hf S h3
  refine ⟨_, _, ⟨h1, h4⟩, h2, h5, ?_⟩
  unfold normR
  dsimp only
  rw [if_pos (infL_fvals _ hf), fvals_len, show (((S + P : Nat) : Int) - (P : Int)).toNat = S by omega]
  congr 1
  unfold fvals
  apply List.map_congr_left
  intro t _
  exact atR_fvals hP hg hf t
theorem mono_le (hm : ∀ t, F t ≤ F (t + 1)) {a b : Nat} (h : a ≤ b) : F a ≤ F b := by
  induction b with
  | zero =>
    obtain rfl : a = 0 := by omega
    exact Int.le_refl _
  | succ b ih =>
    by_cases e : a = b + 1
    · subst e; omega
    · have := ih (by omega); have := hm b; omega
theorem madeR_nf (hP : 0 < P) (hI : 0 ≤ I) (hg : Grows F S P I) (hm : ∀ t, F t ≤ F (t + 1)) (h0 : 0 ≤ F 0) (hf : ∀ t, t < S + P → F t < INF) : ∃ p s, NF F S P I p s ∧ p ≤ P ∧ s ≤ S ∧ madeR ⟨fvals F (S + P), P, I⟩ = nfC F p s (I * p / P) := by
  have hne : ∀ t, t < S + P → F t ≠ INF := fun t ht => by have := hf t ht; omega
  obtain ⟨p, s, hnf, h1, h2, h3⟩ := normR_nf hP hI hg hne
  refine ⟨p, s, hnf, h1, h2, ?_⟩
  unfold madeR
  rw [h3]
  have hp := hnf.least.1
  have hq : 0 ≤ I * (p : Int) / (P : Int) := Int.ediv_nonneg (Int.mul_nonneg hI (by omega)) (by omega)
  have hgr := hnf.starts.1 s (Nat.le_refl _)
  generalize I * (p : Int) / (P : Int) = q at hq hgr ⊢
  have hnn : ∀ t, 0 ≤ F t := fun t => by have := mono_le hm (Nat.zero_le t); omega
  have hval : validB ⟨fvals F (s + p), p, q⟩ = decide (¬ nfE F p s q = 3) := by
    unfold validB nfE
    dsimp only
    rw [fvals_len, fvals_nth F (show s + p - 1 < s + p by omega), if_neg (hne _ (by omega)), Int.toNat_natCast, show s + p - p = s by omega, fvals_nth F (show s < s + p by omega), ← hgr]
    have hlast : decide (F (s + p - 1) ≤ F (s + p)) = true := decide_eq_true (mono_le hm (by omega))
    rw [hlast]
    have hall : ((List.range (s + p)).all fun i => (nth (fvals F (s + p)) i == INF || (decide (0 ≤ nth (fvals F (s + p)) i) && decide (nth (fvals F (s + p)) i ≤ MAXV))) && (i == 0 || decide (nth (fvals F (s + p)) (i - 1) ≤ nth (fvals F (s + p)) i))) = !((List.range (s + p)).any fun i => decide (F i > MAXV)) := by
      rw [List.all_eq_not_any_not]
      congr 1
      rw [Bool.eq_iff_iff]
      simp only [List.any_eq_true, List.mem_range]
      constructor
      · rintro ⟨i, hi, h⟩
        refine ⟨i, hi, ?_⟩
        rw [fvals_nth F hi] at h
        have e1 : (F i == INF) = false := by simpa using hne i (by omega)
        have e2 : decide (0 ≤ F i) = true := decide_eq_true (hnn i)
        have e3 : (i == 0 || decide (nth (fvals F (s + p)) (i - 1) ≤ F i)) = true := by
          by_cases hi0 : i = 0
          · simp [hi0]
          · rw [fvals_nth F (by omega)]; simp [mono_le hm (show i - 1 ≤ i by omega)]
        rw [e1, e2, e3] at h
        simp at h
        exact decide_eq_true (by omega)
      · rintro ⟨i, hi, h⟩
        refine ⟨i, hi, ?_⟩
        rw [fvals_nth F hi]
        have e1 : (F i == INF) = false := by simpa using hne i (by omega)
        have h' := of_decide_eq_true h
        have e4 : decide (F i ≤ MAXV) = false := decide_eq_false (by omega)
        rw [e1, e4]; simp
    rw [hall]
    generalize ((List.range (s + p)).any fun i => decide (F i > MAXV)) = b
    rw [Bool.eq_iff_iff]
    simp only [Bool.and_eq_true, decide_eq_true_eq, Bool.not_eq_true', and_true]
    constructor
    · rintro ⟨⟨⟨⟨⟨⟨⟨a1, a2⟩, a3⟩, a4⟩, a5⟩, a6⟩, a7⟩, a8⟩ h
      rw [if_neg] at h
      · omega
      · rintro (h | h | h | h)
        · omega
        · omega
        · omega
        · rw [a8] at h; cases h
    · intro h
      have h' : ¬ (120 < p ∨ MAXV < q ∨ 400 < s + p ∨ b = true) := fun hh => h (if_pos hh)
      refine ⟨⟨⟨⟨⟨⟨⟨by omega, by omega⟩, by omega⟩, by omega⟩, by omega⟩, hq⟩, by omega⟩, ?_⟩
      cases b with
      | false => rfl
      | true => exact absurd (.inr (.inr (.inr rfl))) h'
  rw [hval]
  unfold nfC
  by_cases h : nfE F p s q = 3
  · rw [if_pos h, if_neg (by simp [h])]
  · rw [if_neg h, if_pos (by simp [h])]
/-- the program's normal form is the references', wherever they begin -/
theorem build_made {S' : Nat} (hP : 0 < P) (hI : 0 ≤ I) (hg : Grows F S P I) (hg' : Grows F S' P I) (hm : ∀ t, F t ≤ F (t + 1)) (h0 : 0 ≤ F 0) (hf : ∀ t, t < S + P → F t < INF) (hf' : ∀ t, t < S' + P → F t < INF) : finL (fvals F (S + P)) S P I = madeR ⟨fvals F (S' + P), P, I⟩ := by
  have hne : ∀ t, t < S + P → F t ≠ INF := fun t ht => by have := hf t ht; omega
  obtain ⟨p, s, h1, _, _, h2⟩ := finL_nf hP hg hne
  obtain ⟨p', s', h3, _, _, h4⟩ := madeR_nf hP hI hg' hm h0 hf'
  obtain ⟨rfl, rfl⟩ := h1.unique hP hg hg' h3
  rw [h2, h4]
theorem mbuild_fin (hf : ∀ t, t < S + P → F t ≠ INF) : mbuild F S P I = finL (fvals F (S + P)) S P I := by
  unfold mbuild
  rw [if_pos]
  unfold infAt
  rcases findFrom_cases (fun t => F t == INF) (S + P) 0 with ⟨i, h1, h2, h3, h4, h5⟩ | ⟨h1, h2⟩
  · exact absurd (by simpa using h4) (hf i (by omega))
  · exact h1
end
end Go.Proofs.Ytolmmfphdieilaa.M

/- Choices by classes, plain: the first packet of a class that waits; weighted round robin. No condition. -/
namespace Go.Proofs.Ytolmmfphdieilaa.M
open Go Go.Proofs.Ytolmmfphdieilaa.K

/-- the first packet of a class that waits -/
def nextP (ps : List Pkt) (ms : MS) (cls : Int) (i : Nat) : Bool := decide ((nth ps i).time ≤ ms.now) && !nth ms.begun i && (nth ps i).flow == cls
def nextW (ps : List Pkt) (ms : MS) (cls : Int) : Int := findN (nextP ps ms cls) ps.length
/-! ### weighted round robin -/
def robinGo (nx : Int → Int) (w : List Int) : Nat → Nat → Int → Int × (Nat × Int)
  | 0, c, l => (-1, (c, l))
  | k + 1, c, l => if 0 ≤ nx c ∧ 0 < l then (nx c, (c, l - 1)) else robinGo nx w k ((c + 1) % w.length) (nth w ((c + 1) % w.length))
def robinCh (ps : List Pkt) (w : List Int) (ms : MS) (s : Nat × Int) : Int × Nat × (Nat × Int) :=
  if firstR ps ms < 0 then (-1, skipTo ms.begun ms.before, s)
  else ((robinGo (nextW ps ms) w (w.length + 1) s.1 s.2).1, skipTo ms.begun ms.before, (robinGo (nextW ps ms) w (w.length + 1) s.1 s.2).2)
def robinRc (ps : List Pkt) (w : List Int) (st : St) (g : Nat × Int) : Int × (Nat × Int) :=
  if 0 ≤ firstW ps st (-1) then robinGo (firstW ps st) w (w.length + 1) g.1 g.2 else (-1, g)
/-- within so many steps something is found -/
def Soon (nx : Int → Int) (n k c : Nat) (l : Int) : Prop := ∃ j, j < k ∧ 0 ≤ nx (((c + j) % n : Nat) : Int) ∧ (0 < j ∨ 0 < l)
def goodRb (ps : List Pkt) (n : Nat) (ms : MS) (s : Nat × Int) : Prop := goodB ps ms ∧ s.1 < n ∧ 0 ≤ s.2 ∧ s.2 ≤ 20
def sameFlow (ps : List Pkt) (i k : Nat) : Prop := (nth ps i).flow = (nth ps k).flow
/-- weights that are in their range -/
def okW (hi : Int) (w : List Int) : Bool := w.all fun x => decide (1 ≤ x) && decide (x ≤ hi)
def wrunE (hi cap ticks : Int) (w : List Int) (ps : List Pkt) : Int := if lrunE cap w.length ticks ps ≠ 0 then lrunE cap w.length ticks ps else if okW hi w = true then 0 else 2
def outOf {σ : Type} (e : Int) (s : RS σ) : List Int × List (List Int) := if e ≠ 0 then ([], []) else (s.done, s.sent)
end Go.Proofs.Ytolmmfphdieilaa.M

/- Curves of schedulers, plain: sizes, rounds, what a class is left. No condition. -/
namespace Go.Proofs.Ytolmmfphdieilaa.M
open Go Go.Proofs.Ytolmmfphdieilaa.K

structure Sz where
  least : Int
  most : Int
instance instSz : Inhabited Sz := ⟨⟨0, 0⟩⟩
def encZ (s : Sz) : List Value := [.int .i64 s.least, .int .i64 s.most]
def zOk (z : List Sz) : Bool := z.all fun s => decide (0 ≤ s.least) && decide (s.least ≤ s.most) && decide (s.most ≤ 1500)
def chk18 (cap cls : Int) (z : List Sz) : Int := if cap < 1 ∨ 4000 < cap ∨ (z.length : Int) < 1 ∨ (6 : Int) < z.length ∨ zOk z = false ∨ cls < 0 ∨ (z.length : Int) ≤ cls then 2 else 0
def chkW (hi cap cls : Int) (w : List Int) (z : List Sz) : Int := if chk18 cap cls z ≠ 0 then 2 else if w.length ≠ z.length ∨ okW hi w = false then 2 else 0
/-- what others send in a round at most -/
def qSum (k : Int) (w : List Int) (z : List Sz) : Nat → Int
  | 0 => 0
  | n + 1 => qSum k w z n + (if (n : Int) ≠ k then nth w n * (nth z n).most else 0)
def shortN (low cap : Nat) : Int := findFrom (fun s => decide (s / Nat.gcd s cap ≤ 120)) (120 * cap + 1 - low) low
def robinOthers (hi k : Int) (w : List Int) (z : List Sz) (own : Int) : Int :=
  if chkW hi 1 k w z ≠ 0 ∨ (nth z k.toNat).least < 1 ∨ own < 0 ∨ MAXV < own then 0 else qSum k w z w.length * (own / (nth w k.toNat * (nth z k.toNat).least) + 1)
/-- the least number that is enough -/
def leastY (H : Nat → Bool) (bound : Nat) : Nat := (findFrom H (bound + 1) 0).toNat
theorem leastY_is {H : Nat → Bool} {b : Nat} (h : H b = true) : leastY H b ≤ b ∧ H (leastY H b) = true ∧ ∀ j, j < leastY H b → H j = false := by
  unfold leastY
  rcases findFrom_cases H (b + 1) 0 with ⟨i, h1, h2, h3, h4, h5⟩ | ⟨_, h2⟩
  · rw [h3, Int.toNat_natCast]
    exact ⟨by omega, h4, fun j hj => h5 j (by omega) hj⟩
  · rw [h2 b (by omega) (by omega)] at h; cases h
def robinH (cap s r : Int) (t y : Nat) : Bool := decide ((y : Int) + (s - r) * ((y : Int) / r + 1) ≥ cap * t)
def robinF (cap s r : Int) (t : Nat) : Int := leastY (robinH cap s r t) (cap * t).toNat
def robinC (cap k : Int) (w : List Int) (z : List Sz) : Cv × Int :=
  if chkW 20 cap k w z ≠ 0 then (zcv, chkW 20 cap k w z) else if (nth z k.toNat).least < 1 then (zcv, 5) else
    let r := nth w k.toNat * (nth z k.toNat).least
    let s := shortN (r + qSum k w z w.length).toNat cap.toNat
    if s = -1 then (zcv, 3) else
      let p := s.toNat / Nat.gcd s.toNat cap.toNat
      mbuild (robinF cap s r) 0 p (cap * p / s * r)
theorem robinH_bound {cap s r : Int} (hr : 0 < r) (hs : r ≤ s) (t : Nat) (hc : 0 ≤ cap) : robinH cap s r t (cap * t).toNat = true := by
  unfold robinH
  have h1 : 0 ≤ cap * (t : Int) := Int.mul_nonneg hc (by omega)
  have h2 : 0 ≤ (s - r) * ((((cap * t).toNat : Nat) : Int) / r + 1) := Int.mul_nonneg (by omega) (by have := Int.ediv_nonneg (a := (((cap * t).toNat : Nat) : Int)) (b := r) (by omega) (by omega); omega)
  exact decide_eq_true (by omega)
/-! ### valid curves -/
theorem validB_iff {c : Cv} : validB c = true ↔ (1 ≤ c.vals.length ∧ c.vals.length ≤ 400 ∧ 1 ≤ c.per ∧ c.per ≤ 120 ∧ c.per ≤ c.vals.length ∧ 0 ≤ c.inc ∧ c.inc ≤ MAXV) ∧
    (∀ i, i < c.vals.length → (nth c.vals i = INF ∨ (0 ≤ nth c.vals i ∧ nth c.vals i ≤ MAXV)) ∧ (i = 0 ∨ nth c.vals (i - 1) ≤ nth c.vals i)) ∧
    (if nth c.vals (c.vals.length - 1) = INF then c.per = 1 ∧ c.inc = 0 else nth c.vals (c.vals.length - 1) ≤ nth c.vals (c.vals.length - c.per.toNat) + c.inc) := by
  unfold validB
  by_cases h : nth c.vals (c.vals.length - 1) = INF
  · rw [if_pos h, if_pos h]
    simp only [Bool.and_eq_true, decide_eq_true_eq, List.all_eq_true, List.mem_range, Bool.or_eq_true, beq_iff_eq, and_assoc]
  · rw [if_neg h, if_neg h]
    simp only [Bool.and_eq_true, decide_eq_true_eq, List.all_eq_true, List.mem_range, Bool.or_eq_true, beq_iff_eq, and_assoc]
theorem validB_false {c : Cv} (h : ¬ ((1 ≤ c.vals.length ∧ c.vals.length ≤ 400 ∧ 1 ≤ c.per ∧ c.per ≤ 120 ∧ c.per ≤ c.vals.length ∧ 0 ≤ c.inc ∧ c.inc ≤ MAXV) ∧
    (∀ i, i < c.vals.length → (nth c.vals i = INF ∨ (0 ≤ nth c.vals i ∧ nth c.vals i ≤ MAXV)) ∧ (i = 0 ∨ nth c.vals (i - 1) ≤ nth c.vals i)) ∧
    (if nth c.vals (c.vals.length - 1) = INF then c.per = 1 ∧ c.inc = 0 else nth c.vals (c.vals.length - 1) ≤ nth c.vals (c.vals.length - c.per.toNat) + c.inc))) : validB c = false := by
  rw [← Bool.not_eq_true, validB_iff]; exact h
end Go.Proofs.Ytolmmfphdieilaa.M

/- Curves of schedulers, plain: what the walks of rounds, the first enough and the build want. No condition. -/
namespace Go.Proofs.Ytolmmfphdieilaa.M
open Go Go.Proofs.Ytolmmfphdieilaa.K

theorem findFrom_some {P : Nat → Bool} {k a i : Nat} (h1 : a ≤ i) (h2 : i < a + k) (hP : P i = true) (h : ∀ j, a ≤ j → j < i → P j = false) : findFrom P k a = i := by
  rcases findFrom_cases P k a with ⟨r, r1, r2, r3, r4, r5⟩ | ⟨_, r2⟩
  · rcases Nat.lt_trichotomy i r with h5 | h5 | h5
    · rw [r5 i h1 h5] at hP; cases hP
    · subst h5; exact r3
    · rw [h r r1 h5] at r4; cases r4
  · rw [r2 i h1 h2] at hP; cases hP
theorem findFrom_none {P : Nat → Bool} {k a : Nat} (h : ∀ j, a ≤ j → j < a + k → P j = false) : findFrom P k a = -1 := by
  rcases findFrom_cases P k a with ⟨r, r1, r2, r3, r4, r5⟩ | ⟨r1, _⟩
  · rw [h r r1 r2] at r4; cases r4
  · exact r1
theorem gcd_step (x y : Nat) : Nat.gcd y (x % y) = Nat.gcd x y := by
  rw [Nat.gcd_comm y (x % y), ← Nat.gcd_rec, Nat.gcd_comm]
def shortP (cap : Nat) (s : Nat) : Bool := decide (s / Nat.gcd s cap ≤ 120)
def rvR (s : Int) (cap : Nat) : Value := .tuple #[.int .i64 (if s = -1 then 0 else s), .int .i64 (if s = -1 then 0 else ((s.toNat / Nat.gcd s.toNat cap : Nat) : Int)), .bool (s != -1)]
def svR (s : Int) : Value := .tuple #[.int .i64 (if s = -1 then 0 else s), .bool (s != -1)]
theorem leastY_eq {H : Nat → Bool} {b lo : Nat} (hb : H b = true) (h1 : H lo = true) (h2 : ∀ j, j < lo → H j = false) : leastY H b = lo := by
  obtain ⟨a1, a2, a3⟩ := leastY_is hb
  rcases Nat.lt_trichotomy lo (leastY H b) with h | h | h
  · rw [a3 _ h] at h1; cases h1
  · exact h.symm
  · rw [h2 _ h] at a2; cases a2
def partV (F : Nat → Int) (t n : Nat) : List Int := fvals F t ++ List.replicate (n - t) 0
theorem partV_all (F : Nat → Int) (n : Nat) : partV F n n = fvals F n := by simp [partV]
theorem partV_len (F : Nat → Int) {t n : Nat} (h : t ≤ n) : (partV F t n).length = n := by simp [partV, fvals_len]; omega
theorem partV_take (F : Nat → Int) (t n : Nat) : (partV F t n).take t = fvals F t := by
  unfold partV; rw [List.take_append_of_le_length (by rw [fvals_len]; exact Nat.le_refl _)]; exact List.take_of_length_le (by rw [fvals_len]; exact Nat.le_refl _)
theorem partV_set (F : Nat → Int) {t n : Nat} (h : t < n) : (partV F t n).set t (F t) = partV F (t + 1) n := by
  unfold partV
  rw [List.set_append_right _ _ (by rw [fvals_len]; exact Nat.le_refl _), fvals_len, Nat.sub_self, show n - t = (n - (t + 1)) + 1 by omega, List.replicate_succ, List.set_cons_zero, fvals_snoc, List.append_assoc]
  rfl
theorem partV_nth (F : Nat → Int) {t k n : Nat} (h : t < k) : nth (partV F k n) t = F t := by
  have e : (partV F k n)[t]? = some (F t) := by
    unfold partV
    rw [List.getElem?_append_left (by rw [fvals_len]; exact h)]
    have := nth_get (xs := fvals F k) (i := t) (by rw [fvals_len]; exact h)
    rw [fvals_nth F h] at this
    exact this
  unfold nth; rw [List.getD_eq_getElem?_getD, e]; rfl
def cvV (f : Option Addr) (fc : Nat) (x : Cv × Int) : Value := .tuple #[.agg #[.slice f x.1.vals.length fc, .int .i64 x.1.per, .int .i64 x.1.inc], .int .i64 x.2]
def cuV (f : Option Addr) (fc : Nat) (x : Cv) : Value := .agg #[.slice f x.vals.length fc, .int .i64 x.per, .int .i64 x.inc]
theorem checkedL_bad {v : List Int} {p q : Int} (h : checkedE v = 3) : checkedL v p q = (zcv, 3) := if_pos h
theorem checkedL_good {v : List Int} {p q : Int} (h : checkedE v ≠ 3) : checkedL v p q = (⟨v, p, q⟩, 0) := if_neg h
theorem checkedE_big {v : List Int} (h : 400 < v.length) : checkedE v = 3 := if_pos (.inl h)
theorem checkedE_one {v : List Int} {i : Nat} (hi : i < v.length) (h1 : nth v i ≠ INF) (h2 : MAXV < nth v i) : checkedE v = 3 :=
  if_pos (.inr (List.any_eq_true.2 ⟨_, nth_mem hi, by simp [h1, h2]⟩))
theorem checkedE_fine {v : List Int} (h : v.length ≤ 400) (hn : ∀ j, j < v.length → nth v j = INF ∨ nth v j ≤ MAXV) : checkedE v ≠ 3 := by
  unfold checkedE
  rw [if_neg]
  · decide
  · rintro (h1 | h1)
    · omega
    · obtain ⟨x, hx, h2⟩ := List.any_eq_true.1 h1
      obtain ⟨i, hi, rfl⟩ := List.getElem_of_mem hx
      have h3 := hn i hi
      rw [nth_eq hi] at h3
      simp at h2
      rcases h3 with h3 | h3
      · exact h2.1 h3
      · have := h2.2; omega
theorem infAt_some {F : Nat → Int} {n t : Nat} (ht : t < n) (h : F t = INF) (hn : ∀ j, j < t → F j ≠ INF) : infAt F n = t :=
  findFrom_some (Nat.zero_le _) (by omega) (by simp [h]) (fun j _ h2 => by simp [hn j h2])
theorem infAt_none {F : Nat → Int} {n : Nat} (hn : ∀ j, j < n → F j ≠ INF) : infAt F n = -1 :=
  findFrom_none (fun j _ h2 => by simp [hn j (by omega)])
theorem leastL_some {v : List Int} {inc : Int} {p : Nat} (h0 : 1 ≤ p) (h1 : p < v.length) (hp : leastOk v inc p = true) (hn : ∀ j, 1 ≤ j → j < p → leastOk v inc j = false) : leastL v inc = p := by
  unfold leastL
  rw [findFrom_some h0 (by omega) hp hn, if_neg (by omega), Int.toNat_natCast]
theorem leastL_none {v : List Int} {inc : Int} (h : ∀ j, 1 ≤ j → j < v.length → leastOk v inc j = false) : leastL v inc = v.length := by
  unfold leastL
  rw [if_pos (findFrom_none (fun j a b => h j a (by omega)))]
theorem leastL_pos {v : List Int} {inc : Int} (h : 0 < v.length) : 1 ≤ leastL v inc ∧ leastL v inc ≤ v.length := by
  unfold leastL
  rcases findFrom_cases (leastOk v inc) (v.length - 1) 1 with ⟨r, r1, r2, r3, r4, r5⟩ | ⟨r1, _⟩
  · rw [r3, if_neg (by omega), Int.toNat_natCast]; omega
  · rw [r1, if_pos rfl]; omega
/-- the pattern of `least`, one place of the row -/
def leastC (v : List Int) (inc : Int) (p i : Nat) : Bool := (if i + p < v.length then nth v (i + p) else nth v (i + p - v.length) + inc) == nth v i + inc * p / v.length
theorem leastOk_eq (v : List Int) (inc : Int) (p : Nat) : leastOk v inc p = (v.length % p == 0 && (inc * p) % v.length == 0 && (List.range v.length).all (leastC v inc p)) := rfl
theorem leastOk_no1 {v : List Int} {inc : Int} {p : Nat} (h : v.length % p ≠ 0 ∨ (inc * p) % v.length ≠ 0) : leastOk v inc p = false := by
  rw [leastOk_eq, ← Bool.not_eq_true]
  intro hh
  simp only [Bool.and_eq_true, beq_iff_eq] at hh
  rcases h with h | h
  · exact h hh.1.1
  · exact h hh.1.2
theorem leastOk_no2 {v : List Int} {inc : Int} {p i : Nat} (hi : i < v.length) (h : leastC v inc p i = false) : leastOk v inc p = false := by
  rw [leastOk_eq, ← Bool.not_eq_true]
  intro hh
  simp only [Bool.and_eq_true, List.all_eq_true, List.mem_range] at hh
  rw [hh.2 i hi] at h; cases h
theorem leastOk_yes {v : List Int} {inc : Int} {p : Nat} (h1 : v.length % p = 0) (h2 : (inc * p) % v.length = 0) (h3 : ∀ i, i < v.length → leastC v inc p i = true) : leastOk v inc p = true := by
  rw [leastOk_eq]
  simp only [Bool.and_eq_true, beq_iff_eq, List.all_eq_true, List.mem_range]
  exact ⟨⟨h1, h2⟩, h3⟩
end Go.Proofs.Ytolmmfphdieilaa.M

/- The curve of weighted round robin, plain: it repeats itself, so that the program's and the references' forms are one. No condition. -/
namespace Go.Proofs.Ytolmmfphdieilaa.M
open Go Go.Proofs.Ytolmmfphdieilaa.K

theorem robinH_shift {cap s : Int} {r p m : Nat} (hr : 0 < r) (hm : cap * (p : Int) = (m : Int) * s) (t y : Nat) : robinH cap s r (t + p) (y + m * r) = robinH cap s r t y := by
  unfold robinH
  have e1 : (((y + m * r : Nat) : Int)) / (r : Int) = (y : Int) / (r : Int) + m := by
    rw [Int.natCast_add, Int.natCast_mul]
    exact Int.add_mul_ediv_right _ _ (by omega)
  rw [e1]
  have e2 : (s - (r : Int)) * ((y : Int) / (r : Int) + (m : Int) + 1) = (s - (r : Int)) * ((y : Int) / (r : Int) + 1) + ((m : Int) * s - (m : Int) * (r : Int)) := by
    rw [show (y : Int) / (r : Int) + (m : Int) + 1 = ((y : Int) / (r : Int) + 1) + (m : Int) by omega, Int.mul_add, Int.sub_mul s (r : Int) (m : Int), Int.mul_comm s, Int.mul_comm (r : Int) (m : Int)]
  have e3 : cap * ((t + p : Nat) : Int) = cap * (t : Int) + (m : Int) * s := by rw [Int.natCast_add, Int.mul_add, hm]
  rw [e2, e3, Int.natCast_add, Int.natCast_mul]
  apply decide_eq_decide.2
  generalize (m : Int) * s = a
  generalize (m : Int) * (r : Int) = b
  generalize (s - (r : Int)) * ((y : Int) / (r : Int) + 1) = c
  omega
theorem robinH_low {cap s : Int} {r p m : Nat} (hr : 0 < r) (hs : (r : Int) ≤ s) (hc : 0 ≤ cap) (hm : cap * (p : Int) = (m : Int) * s) {t y : Nat} (hy : y < m * r) : robinH cap s r (t + p) y = false := by
  unfold robinH
  apply decide_eq_false
  have h1 : (y : Int) / (r : Int) + 1 ≤ m := by
    have : y / r < m := Nat.div_lt_of_lt_mul (by rw [Nat.mul_comm]; exact hy)
    have e : (y : Int) / (r : Int) = ((y / r : Nat) : Int) := rfl
    omega
  have h2 : (s - (r : Int)) * ((y : Int) / (r : Int) + 1) ≤ (s - (r : Int)) * (m : Int) := Int.mul_le_mul_of_nonneg_left h1 (by omega)
  have e2 : (s - (r : Int)) * (m : Int) = (m : Int) * s - ((m * r : Nat) : Int) := by rw [Int.sub_mul, Int.mul_comm s, Int.mul_comm (r : Int), Int.natCast_mul]
  have e3 : cap * ((t + p : Nat) : Int) = cap * (t : Int) + (m : Int) * s := by rw [Int.natCast_add, Int.mul_add, hm]
  have h3 : 0 ≤ cap * (t : Int) := Int.mul_nonneg hc (by omega)
  rw [e3]
  rw [e2] at h2
  generalize (m : Int) * s = a at *
  generalize (s - (r : Int)) * ((y : Int) / (r : Int) + 1) = c at *
  omega
theorem robinF_grows {cap s r : Int} {p m : Nat} (hc : 0 ≤ cap) (hr : 0 < r) (hs : r ≤ s) (hm : cap * (p : Int) = (m : Int) * s) : Grows (robinF cap s r) 0 p ((m : Int) * r) := by
  intro t _
  obtain ⟨rn, rfl⟩ := Int.eq_ofNat_of_zero_le (show 0 ≤ r by omega)
  have hrn : 0 < rn := by omega
  obtain ⟨a1, a2, a3⟩ := leastY_is (robinH_bound hr hs t hc)
  unfold robinF
  rw [leastY_eq (robinH_bound hr hs (t + p) hc) (lo := leastY (robinH cap s rn t) (cap * t).toNat + m * rn) (by rw [robinH_shift hrn hm]; exact a2) (fun j hj => ?_)]
  · rw [Int.natCast_add, Int.natCast_mul]
  · by_cases h : j < m * rn
    · exact robinH_low hrn hs hc hm h
    · obtain ⟨y, rfl⟩ : ∃ y, j = y + m * rn := ⟨j - m * rn, by omega⟩
      rw [robinH_shift hrn hm]
      exact a3 y (by omega)
theorem robinH_less {cap s r : Int} (hc : 0 ≤ cap) {t y : Nat} (h : robinH cap s r (t + 1) y = true) : robinH cap s r t y = true := by
  unfold robinH at h ⊢
  have h0 := of_decide_eq_true h
  have h1 : cap * ((t + 1 : Nat) : Int) = cap * (t : Int) + cap := by rw [Int.natCast_add, Int.mul_add]; simp
  rw [h1] at h0
  exact decide_eq_true (by omega)
theorem robinF_mono {cap s r : Int} (hc : 0 ≤ cap) (hr : 0 < r) (hs : r ≤ s) (t : Nat) : robinF cap s r t ≤ robinF cap s r (t + 1) := by
  obtain ⟨a1, a2, a3⟩ := leastY_is (robinH_bound hr hs t hc)
  obtain ⟨b1, b2, b3⟩ := leastY_is (robinH_bound hr hs (t + 1) hc)
  unfold robinF
  apply Int.ofNat_le.2
  apply Classical.byContradiction
  intro h
  have := a3 _ (Nat.lt_of_not_le h)
  rw [robinH_less hc b2] at this
  cases this
theorem robinF_bound {cap s r : Int} (hc : 0 ≤ cap) (hr : 0 < r) (hs : r ≤ s) (t : Nat) : 0 ≤ robinF cap s r t ∧ robinF cap s r t ≤ cap * t := by
  obtain ⟨a1, a2, a3⟩ := leastY_is (robinH_bound hr hs t hc)
  unfold robinF
  have : 0 ≤ cap * (t : Int) := Int.mul_nonneg hc (by omega)
  omega
/-- all of it, for the walks -/
structure RobOk (cap k : Int) (w : List Int) (z : List Sz) (cn kn m s p mm : Nat) (r : Int) : Prop where
  hcap : cap = cn
  hk : k = kn
  c1 : 1 ≤ cn ∧ cn ≤ 4000
  k1 : kn < z.length
  zl : z.length ≤ 6
  wl : w.length = z.length
  hw : ∀ x ∈ w, 1 ≤ x ∧ x ≤ 20
  hz : ∀ s ∈ z, 0 ≤ s.least ∧ s.least ≤ s.most ∧ s.most ≤ 1500
  hr : r = nth w kn * (nth z kn).least
  r1 : 1 ≤ r ∧ r ≤ 30000
  hm : (m : Int) = r + qSum k w z w.length
  m1 : m ≤ 210000
  hs : shortN m cn = s
  s1 : r ≤ s ∧ s ≤ 120 * cn
  hp : p = s / Nat.gcd s cn
  p1 : 1 ≤ p ∧ p ≤ 120
  hmm : (cn : Int) * p = mm * s
  mm1 : mm ≤ 4000
  hinc : (cn : Int) * p / s * r = mm * r
theorem mulB {a b A B : Int} (h1 : 0 ≤ a ∧ a ≤ A) (h2 : 0 ≤ b ∧ b ≤ B) : 0 ≤ a * b ∧ a * b ≤ A * B :=
  ⟨Int.mul_nonneg h1.1 h2.1, Int.mul_le_mul h1.2 h2.2 h2.1 (by omega)⟩
theorem RobOk.facts {cap k : Int} {w : List Int} {z : List Sz} {cn kn m s p mm : Nat} {r : Int} (h : RobOk cap k w z cn kn m s p mm r) :
    Grows (robinF cap s r) 0 p (cap * p / s * r) ∧ (0 ≤ cap * p / s * r ∧ cap * p / s * r ≤ 120000000) ∧ (∀ t, t ≤ 240 → 0 ≤ robinF cap s r t ∧ robinF cap s r t ≤ 960000) ∧
    mbuild (robinF cap s r) 0 p (cap * p / s * r) = madeR ⟨fvals (robinF cap s r) p, p, cap * p / s * r⟩ := by
  obtain ⟨rfl, rfl, c1, k1, zl, wl, hw, hz, hr, r1, hm, m1, hs, s1, hp, p1, hmm, mm1, hinc⟩ := h
  have hg : Grows (robinF cn s r) 0 p ((cn : Int) * p / s * r) := by rw [hinc]; exact robinF_grows (by omega) (by omega) s1.1 hmm
  have hi : 0 ≤ (cn : Int) * p / s * r ∧ (cn : Int) * p / s * r ≤ 120000000 := by
    rw [hinc]
    have := mulB (a := (mm : Int)) (b := r) (A := 4000) (B := 30000) (by omega) (by omega)
    omega
  have hb : ∀ t : Nat, t ≤ 240 → 0 ≤ robinF cn s r t ∧ robinF cn s r t ≤ 960000 := fun t ht => by
    have h1 := robinF_bound (cap := (cn : Int)) (s := (s : Int)) (r := r) (by omega) (by omega) s1.1 t
    have h2 := mulB (a := (cn : Int)) (b := (t : Int)) (A := 4000) (B := 240) (by omega) (by omega)
    omega
  refine ⟨hg, hi, hb, ?_⟩
  have hf : ∀ t, t < 0 + p → robinF cn s r t < INF := fun t ht => by have := hb t (by omega); unfold INF; omega
  rw [mbuild_fin (fun t ht => by have := hf t ht; omega), build_made (S' := 0) (by omega) hi.1 hg hg (fun t => robinF_mono (by omega) (by omega) s1.1 t) (hb 0 (by omega)).1 hf hf]
  simp only [Nat.zero_add]
end Go.Proofs.Ytolmmfphdieilaa.M

/- Weighted round robin while a class is backlogged, plain: what the others take. No condition. -/
namespace Go.Proofs.Ytolmmfphdieilaa.M
open Go Go.Proofs.Ytolmmfphdieilaa.K

section
variable {w : List Int} {z : List Sz} {k : Nat}
/-- what the others may still take, from the beginning of class c on until class k -/
def restR (w : List Int) (z : List Sz) (k c : Nat) : Int := if c ≤ k then qSum k w z k - qSum k w z c else qSum k w z w.length - qSum k w z c + qSum k w z k
def mosts (w : List Int) (z : List Sz) (c : Nat) : Int := nth w c * (nth z c).most
theorem qSum_succ (i : Nat) : qSum k w z (i + 1) = qSum k w z i + (if i ≠ k then mosts w z i else 0) := by
  simp only [qSum, mosts]
  by_cases h : i = k
  · rw [if_neg (by omega), if_neg (by omega)]
  · rw [if_pos (by omega), if_pos h]
theorem restR_self : restR w z k k = 0 := by unfold restR; rw [if_pos (Nat.le_refl _)]; omega
theorem restR_next {c : Nat} (hc : c < w.length) (hk : k < w.length) (hne : c ≠ k) : restR w z k ((c + 1) % w.length) = restR w z k c - mosts w z c := by
  have hs := qSum_succ (w := w) (z := z) (k := k) c
  rw [if_pos hne] at hs
  by_cases hl : c + 1 < w.length
  · rw [Nat.mod_eq_of_lt hl]
    unfold restR
    by_cases h : c ≤ k
    · rw [if_pos h, if_pos (by omega), hs]; omega
    · rw [if_neg h, if_neg (by omega), hs]; omega
  · have e : c + 1 = w.length := by omega
    rw [e, Nat.mod_self]
    unfold restR
    rw [if_pos (Nat.zero_le _), if_neg (by omega), ← e, hs]
    have h0 : qSum k w z 0 = 0 := rfl
    omega
theorem restR_first (hk : k < w.length) : restR w z k ((k + 1) % w.length) = qSum k w z w.length := by
  have hs := qSum_succ (w := w) (z := z) (k := k) k
  rw [if_neg (by omega)] at hs
  by_cases hl : k + 1 < w.length
  · rw [Nat.mod_eq_of_lt hl]
    unfold restR
    rw [if_neg (by omega), hs]; omega
  · have e : k + 1 = w.length := by omega
    rw [e, Nat.mod_self]
    unfold restR
    rw [if_pos (Nat.zero_le _), ← e, hs]
    have h0 : qSum k w z 0 = 0 := rfl
    omega
/-- in class c, l packets of whose visit are to come and op bytes of the open one -/
def JR (w : List Int) (z : List Sz) (k c : Nat) (l op own oth : Int) : Prop :=
  c < w.length ∧ 0 ≤ l ∧
  if c = k then ∃ f : Nat, oth ≤ qSum k w z w.length * f ∧ nth w k * (nth z k).least * f ≤ own + op + l * (nth z k).least ∧ nth w k * (nth z k).least * ((f : Int) - 1) ≤ own
  else ∃ f : Nat, oth + op + l * (nth z c).most + (restR w z k c - mosts w z c) ≤ qSum k w z w.length * ((f : Int) + 1) ∧ nth w k * (nth z k).least * f ≤ own
theorem JR.next (hw : ∀ x ∈ w, 1 ≤ x) (hz : ∀ c, c < w.length → 0 ≤ (nth z c).least ∧ (nth z c).least ≤ (nth z c).most) (hk : k < w.length) (hn : 2 ≤ w.length) {c : Nat} {l own oth : Int} (h : JR w z k c l 0 own oth) (hl : c = k → l ≤ 0) :
    JR w z k ((c + 1) % w.length) (nth w ((c + 1) % w.length)) 0 own oth := by
  obtain ⟨h1, h2, h3⟩ := h
  have hlt : (c + 1) % w.length < w.length := Nat.mod_lt _ (by omega)
  have hwc := hw _ (nth_mem hlt)
  refine ⟨hlt, by omega, ?_⟩
  by_cases hck : c = k
  · subst hck
    rw [if_pos rfl] at h3
    obtain ⟨f, f1, f2, f3⟩ := h3
    have hne : (c + 1) % w.length ≠ c := by
      by_cases hh : c + 1 < w.length
      · rw [Nat.mod_eq_of_lt hh]; omega
      · rw [show c + 1 = w.length by omega, Nat.mod_self]; omega
    rw [if_neg hne]
    refine ⟨f, ?_, ?_⟩
    · rw [restR_first hk]
      show oth + 0 + mosts w z ((c + 1) % w.length) + (_ - mosts w z ((c + 1) % w.length)) ≤ _
      rw [Int.mul_add, Int.mul_one]; omega
    · have : l = 0 := by have := hl rfl; omega
      rw [this] at f2
      simpa using f2
  · rw [if_neg hck] at h3
    obtain ⟨f, f1, f2⟩ := h3
    have hr := restR_next (z := z) h1 hk hck
    have hl0 : 0 ≤ l * (nth z c).most := Int.mul_nonneg h2 (by have := hz c h1; omega)
    by_cases hnk : (c + 1) % w.length = k
    · rw [if_pos hnk, hnk]
      rw [hnk, restR_self] at hr
      refine ⟨f + 1, ?_, ?_, ?_⟩
      · have : ((f + 1 : Nat) : Int) = (f : Int) + 1 := by omega
        rw [this]; omega
      · have : ((f + 1 : Nat) : Int) = (f : Int) + 1 := by omega
        rw [this, Int.mul_add, Int.mul_one]; omega
      · have : ((f + 1 : Nat) : Int) - 1 = (f : Int) := by omega
        rw [this]; exact f2
    · rw [if_neg hnk]
      refine ⟨f, ?_, f2⟩
      show oth + 0 + mosts w z ((c + 1) % w.length) + (_ - mosts w z ((c + 1) % w.length)) ≤ _
      omega
end
end Go.Proofs.Ytolmmfphdieilaa.M

/- Weighted round robin: the invariant of the rounds while a class is backlogged, plain. No condition. -/
namespace Go.Proofs.Ytolmmfphdieilaa.M
open Go Go.Proofs.Ytolmmfphdieilaa.K

/-- an invariant of every run: of the choice's state, the open packet and what is left of it -/
structure Vis {σ : Type} (ps : List Pkt) (ch : MS → σ → Int × Nat × σ) (good : MS → σ → Prop) (V : σ → Int → Int → Prop) : Prop where
  pick : ∀ ms sg r, good ms sg → ms.begun.length = ps.length → V sg (-1) r → 0 ≤ (ch ms sg).1 → V (ch ms sg).2.2 (ch ms sg).1 (nth ps (ch ms sg).1.toNat).size
  idle : ∀ ms sg r r', good ms sg → ms.begun.length = ps.length → V sg (-1) r → (ch ms sg).1 < 0 → V (ch ms sg).2.2 (ch ms sg).1 r'
  send : ∀ (sg : σ) (cur rest n : Int), 0 ≤ cur → cur < ps.length → 1 ≤ n → n ≤ rest → V sg cur rest → V sg (if rest - n = 0 then -1 else cur) (rest - n)
  none : ∀ sg c c' r r', c < 0 → c' < 0 → V sg c r → V sg c' r'
section
variable {σ : Type} {ps : List Pkt} {ch : MS → σ → Int × Nat × σ} {good : MS → σ → Prop} {rel : Nat → Nat → Prop} {classes k : Nat} {V : σ → Int → Int → Prop}
theorem Vis.inner (hg : Fair ps ch good rel) (hV : Vis ps ch good V) (hs : ∀ p ∈ ps, 1 ≤ p.size) (hfl : ∀ p ∈ ps, 0 ≤ p.flow ∧ p.flow < classes) {t : Nat} : ∀ (j : Nat) (s : RS σ), Wk ps classes good rel (t + 1) s → s.ms.now = t → 0 ≤ s.ms.left → V s.sg s.cur s.rest →
    V (inner ps ch t j s).sg (inner ps ch t j s).cur (inner ps ch t j s).rest
  | 0, s, hw, hn, hl, h => h
  | j + 1, s, hw, hn, hl, h => by
    simp only [M.inner]
    by_cases hl0 : s.ms.left ≤ 0
    · rw [if_pos hl0]; exact h
    · rw [if_neg hl0]
      have hw1 := hw.pickup hg hs
      obtain ⟨e1, e2, e3, e4⟩ := pickup_same ps ch s
      have h1 : V (M.pickup ps ch s).sg (M.pickup ps ch s).cur (M.pickup ps ch s).rest := by
        unfold M.pickup
        by_cases hcur : 0 ≤ s.cur
        · rw [if_pos hcur]; exact h
        · rw [if_neg hcur]
          have h0 := hV.none s.sg s.cur (-1) s.rest s.rest (by omega) (by omega) h
          by_cases hr : (ch s.ms s.sg).1 < 0
          · simp only [hr, if_true]
            exact hV.idle _ _ _ _ hw.good hw.blen h0 hr
          · simp only [hr, if_false]
            exact hV.pick _ _ _ hw.good hw.blen h0 (by omega)
      by_cases hcn : (M.pickup ps ch s).cur < 0
      · rw [if_pos hcn]; exact h1
      · rw [if_neg hcn]
        obtain ⟨c1, c2, c3⟩ := hw1.cur (by omega)
        obtain ⟨g1, g2, g3, g4, g5, g6⟩ := hw1.send hfl hg.free (by rw [e2]; exact hn) (by omega) (by rw [e1]; omega)
        refine Vis.inner hg hV hs hfl j _ g1 (by rw [g5, e2]; exact hn) g3 ?_
        have hle : (if (M.pickup ps ch s).ms.left < (M.pickup ps ch s).rest then (M.pickup ps ch s).ms.left else (M.pickup ps ch s).rest) ≤ (M.pickup ps ch s).rest := by split <;> omega
        have hge : 1 ≤ (if (M.pickup ps ch s).ms.left < (M.pickup ps ch s).rest then (M.pickup ps ch s).ms.left else (M.pickup ps ch s).rest) := by rw [e1]; split <;> omega
        exact hV.send _ _ _ _ (by omega) c1 hge hle h1
end
/-! ### round robin -/
def Jrob (ps : List Pkt) (w : List Int) (z : List Sz) (k : Nat) (sg : Nat × Int) (cur rest own oth : Int) : Prop := JR w z k sg.1 sg.2 (if 0 ≤ cur then rest else 0) own oth ∧ (0 ≤ cur → (nth ps cur.toNat).flow = sg.1)
/-- sizes of the packets of each class -/
def SzOf (ps : List Pkt) (z : List Sz) : Prop := ∀ i, i < ps.length → (nth z (nth ps i).flow.toNat).least ≤ (nth ps i).size ∧ (nth ps i).size ≤ (nth z (nth ps i).flow.toNat).most
section
variable {ps : List Pkt} {w : List Int} {z : List Sz} {k : Nat}
/-- where every run stands -/
def Vrob (ps : List Pkt) (w : List Int) (sg : Nat × Int) (cur rest : Int) : Prop := sg.1 < w.length ∧ 0 ≤ sg.2 ∧ sg.2 ≤ nth w sg.1 ∧ (0 ≤ cur → cur < ps.length ∧ (nth ps cur.toNat).flow = sg.1 ∧ sg.2 ≤ nth w sg.1 - 1 ∧ 0 ≤ rest ∧ rest ≤ (nth ps cur.toNat).size)
end
end Go.Proofs.Ytolmmfphdieilaa.M

/- Shares over one run: what the others are sent while a class is backlogged, plain. No condition. -/
namespace Go.Proofs.Ytolmmfphdieilaa.M
open Go Go.Proofs.Ytolmmfphdieilaa.K

section
variable {σ : Type} {ps : List Pkt} {ch : MS → σ → Int × Nat × σ} {good : MS → σ → Prop} {rel : Nat → Nat → Prop} {classes k : Nat}
end
end Go.Proofs.Ytolmmfphdieilaa.M

/- Which of two curves grows less, plain. No condition. -/
namespace Go.Proofs.Ytolmmfphdieilaa.M
open Go Go.Proofs.Ytolmmfphdieilaa.K

def lcmN (a b : Nat) : Nat := a / Nat.gcd a b * b
theorem lcmN_facts {a b : Nat} (ha : 0 < a) (hb : 0 < b) : lcmN a b = b / Nat.gcd a b * a ∧ lcmN a b = a / Nat.gcd a b * b ∧ lcmN a b ≤ a * b ∧ 0 < lcmN a b := by
  have hg : 0 < Nat.gcd a b := Nat.gcd_pos_of_pos_right _ hb
  have h1 : Nat.gcd a b ∣ a := Nat.gcd_dvd_left _ _
  have h2 : Nat.gcd a b ∣ b := Nat.gcd_dvd_right _ _
  refine ⟨?_, rfl, Nat.mul_le_mul_right _ (Nat.div_le_self _ _), Nat.mul_pos (Nat.div_pos (Nat.le_of_dvd ha h1) hg) hb⟩
  unfold lcmN
  rw [Nat.div_mul_right_comm h1, Nat.div_mul_right_comm h2, Nat.mul_comm]
/-! ### the curve of weighted round robin: greater sums leave less -/
end Go.Proofs.Ytolmmfphdieilaa.M

/- Finite curves in the program's own form, delays, what a flow keeps, plain. No condition. -/
namespace Go.Proofs.Ytolmmfphdieilaa.M
open Go Go.Proofs.Ytolmmfphdieilaa.K

/-- a finite valid curve: values of F up to S + P, period P, increment I -/
structure FC (F : Nat → Int) (S P : Nat) (I : Int) : Prop where
  hP : 1 ≤ P ∧ P ≤ 120
  hn : S + P ≤ 400
  hI : 0 ≤ I ∧ I ≤ 1073741824
  hg : Grows F S P I
  hm : ∀ t, F t ≤ F (t + 1)
  h0 : 0 ≤ F 0
  hb : ∀ t, t < S + P → F t ≤ 1073741824
section
variable {F G : Nat → Int} {S P S1 P1 S2 P2 : Nat} {I I1 I2 : Int}
theorem FC.nonneg (h : FC F S P I) (t : Nat) : 0 ≤ F t := by have := mono_le h.hm (Nat.zero_le t); have := h.h0; omega
theorem FC.mono (h : FC F S P I) {a b : Nat} (hab : a ≤ b) : F a ≤ F b := mono_le h.hm hab
theorem FC.bound (h : FC F S P I) (t : Nat) : F t ≤ 1073741824 * ((t : Int) + 2) := by
  have hP := h.hP
  have hI := h.hI
  induction t using Nat.strongRecOn with
  | _ t ih =>
    by_cases ht : t < S + P
    · have := h.hb t ht; omega
    · have h1 := ih (t - P) (by omega)
      have h2 := h.hg (t - P) (by omega)
      rw [show t - P + P = t by omega] at h2
      omega
theorem FC.fin (h : FC F S P I) {t : Nat} (ht : t < S + P) : F t ≠ INF := by have := h.hb t ht; unfold INF; omega
theorem FC.atR (h : FC F S P I) (t : Nat) : M.atR (fvals F (S + P)) P I (t : Int) = F t := atR_fvals (by have := h.hP; omega) h.hg (fun t ht => h.fin ht) t
theorem fc_line {c : Int} (h : 0 ≤ c ∧ c ≤ 1073741824) : FC (fun t => c * t) 0 1 c where
  hP := by omega
  hn := by omega
  hI := h
  hg := fun t _ => by dsimp only; rw [Int.natCast_add, Int.mul_add]; simp
  hm := fun t => by show c * (t : Int) ≤ c * ((t + 1 : Nat) : Int); rw [Int.natCast_add, Int.mul_add]; simp; omega
  h0 := by simp
  hb := fun t ht => by obtain rfl : t = 0 := by omega
                       simp
/-- and that it makes it -/
theorem build_ok (hP : 0 < P ∧ P ≤ 120) (hI : 0 ≤ I ∧ I ≤ 1073741824) (hn : S + P ≤ 400) (hg : Grows F S P I) (hm : ∀ t, F t ≤ F (t + 1)) (h0 : 0 ≤ F 0) (hb : ∀ t, t < S + P → F t ≤ 1073741824) :
    ∃ (s p : Nat) (q : Int), mbuild F S P I = (⟨fvals F (s + p), p, q⟩, 0) ∧ FC F s p q ∧ s ≤ S ∧ p ≤ P := by
  have hf : ∀ t, t < S + P → F t < INF := fun t ht => by have := hb t ht; unfold INF; omega
  have hne : ∀ t, t < S + P → F t ≠ INF := fun t ht => by have := hf t ht; omega
  rw [mbuild_fin hne]
  obtain ⟨p, s, hnf, h1, h2, e⟩ := finL_nf hP.1 hg hne
  have hp := hnf.least.1
  have hq0 : 0 ≤ I * (p : Int) / P := Int.ediv_nonneg (Int.mul_nonneg hI.1 (by omega)) (by omega)
  have hq : I * (p : Int) / P ≤ I := by
    have h3 : I * (p : Int) ≤ I * (P : Int) := Int.mul_le_mul_of_nonneg_left (by omega) hI.1
    have h4 : I * (p : Int) / P ≤ I * (P : Int) / P := Int.ediv_le_ediv (by omega) h3
    rw [Int.mul_ediv_cancel _ (by omega)] at h4
    exact h4
  refine ⟨s, p, I * p / P, ?_, ⟨by omega, by omega, ⟨hq0, by omega⟩, hnf.starts.1, hm, h0, fun t ht => hb t (by omega)⟩, h2, h1⟩
  rw [e]
  unfold nfC
  rw [if_neg]
  unfold nfE
  rw [if_neg]
  · decide
  · rintro (h | h | h | h)
    · omega
    · unfold MAXV at h; omega
    · omega
    · rw [List.any_eq_true] at h
      obtain ⟨i, hi, h5⟩ := h
      have := hb i (by have := List.mem_range.1 hi; omega)
      have := of_decide_eq_true h5
      unfold MAXV at this; omega
/-- a distance that holds for so many ticks holds for all -/
theorem delay_sound (ha : FC F S1 P1 I1) (hb : FC G S2 P2 I2) {L a1 a2 n d : Nat} (h1 : L = a1 * P1) (h2 : L = a2 * P2) (hL : 0 < L) (hslow : (a1 : Int) * I1 ≤ (a2 : Int) * I2) (hn : n = max S1 S2 + L) (hle : ∀ t, t < n → F t ≤ G (t + d)) (u : Nat) : F u ≤ G (u + d) := by
  induction u using Nat.strongRecOn with
  | _ u ih =>
    by_cases hu : u < n
    · exact hle u hu
    · have h3 := ih (u - L) (by omega)
      have e1 := ha.hg.mul a1 (u - L) (by omega)
      have e2 := hb.hg.mul a2 (u - L + d) (by omega)
      rw [← h1, show u - L + L = u by omega] at e1
      rw [← h2, show u - L + d + L = u + d by omega] at e2
      omega
/-- the least tick with so much, and whether there is one -/
def reachF (G : Nat → Int) (S P : Nat) (I v : Int) : Int × Bool :=
  if findFrom (fun t => decide (G t ≥ v)) (S + P) 0 ≠ -1 then (findFrom (fun t => decide (G t ≥ v)) (S + P) 0, true)
  else if I = 0 then (0, false)
  else (findFrom (fun t => decide (G t ≥ v)) (P + 1) (S + P + (((v - G (S + P - 1) + I - 1) / I).toNat - 1) * P), true)
/-- where the second part of it begins, and that something is found there -/
theorem reach_facts (h : FC G S P I) {v : Int} (hI : I ≠ 0) (hv : G (S + P - 1) < v) : 1 ≤ (v - G (S + P - 1) + I - 1) / I ∧ ((v - G (S + P - 1) + I - 1) / I) * I ≤ v - G (S + P - 1) + I - 1 ∧
    G (S + P + (((v - G (S + P - 1) + I - 1) / I).toNat - 1) * P + (P - 1)) = G (S + P - 1) + ((v - G (S + P - 1) + I - 1) / I) * I ∧ v ≤ G (S + P - 1) + ((v - G (S + P - 1) + I - 1) / I) * I := by
  have hI0 := h.hI
  have hP := h.hP
  have hk : 1 ≤ (v - G (S + P - 1) + I - 1) / I := Int.le_ediv_of_mul_le (by omega) (by omega)
  have hk2 : ((v - G (S + P - 1) + I - 1) / I) * I ≤ v - G (S + P - 1) + I - 1 := Int.ediv_mul_le _ (by omega)
  have hk3 := Int.lt_mul_ediv_self_add (x := v - G (S + P - 1) + I - 1) (k := I) (by omega)
  rw [Int.mul_comm] at hk3
  refine ⟨hk, hk2, ?_, by omega⟩
  obtain ⟨k, e⟩ := Int.eq_ofNat_of_zero_le (show 0 ≤ (v - G (S + P - 1) + I - 1) / I by omega)
  rw [e, Int.toNat_natCast]
  obtain ⟨k', rfl⟩ : ∃ m, k = m + 1 := ⟨k - 1, by omega⟩
  have hg := h.hg.mul (k' + 1) (S + P - 1) (by omega)
  rw [show S + P + (k' + 1 - 1) * P + (P - 1) = S + P - 1 + (k' + 1) * P by rw [Nat.add_sub_cancel, Nat.add_mul k' 1 P]; omega]
  exact hg
theorem reach_sound (h : FC G S P I) {v : Int} (hr : (reachF G S P I v).2 = true) : 0 ≤ (reachF G S P I v).1 ∧ v ≤ G (reachF G S P I v).1.toNat := by
  unfold reachF at hr ⊢
  have hP := h.hP
  rcases findFrom_cases (fun t => decide (G t ≥ v)) (S + P) 0 with ⟨i, h1, h2, h3, h4, h5⟩ | ⟨h1, h2⟩
  · rw [h3, if_pos (by omega)]
    exact ⟨by dsimp only; omega, by dsimp only; rw [Int.toNat_natCast]; exact of_decide_eq_true h4⟩
  · rw [h1, if_neg (fun hh => hh rfl)] at hr ⊢
    by_cases hI : I = 0
    · rw [if_pos hI] at hr; cases hr
    · rw [if_neg hI]
      have hlast := of_decide_eq_false (h2 (S + P - 1) (by omega) (by omega))
      obtain ⟨g1, g2, g3, g4⟩ := reach_facts h hI (show G (S + P - 1) < v by omega)
      rcases findFrom_cases (fun t => decide (G t ≥ v)) (P + 1) (S + P + (((v - G (S + P - 1) + I - 1) / I).toNat - 1) * P) with ⟨i, k1, k2, k3, k4, k5⟩ | ⟨k1, k2⟩
      · rw [k3]
        exact ⟨by dsimp only; omega, by dsimp only; rw [Int.toNat_natCast]; exact of_decide_eq_true k4⟩
      · have := of_decide_eq_false (k2 (S + P + (((v - G (S + P - 1) + I - 1) / I).toNat - 1) * P + (P - 1)) (by omega) (by omega))
        omega
/-- the greatest of the distances -/
def greatW (f : Nat → Int × Bool) : Nat → Nat → Int → Int → Bool × Int × Int
  | 0, _, v, a => (false, v, a)
  | n + 1, t, v, a => if (f t).2 = false then (true, 0, 0) else if (f t).1 > v then greatW f n (t + 1) (f t).1 t else greatW f n (t + 1) v a
theorem greatW_sound {f : Nat → Int × Bool} : ∀ (n t : Nat) (v a : Int), (greatW f n t v a).1 = false → v ≤ (greatW f n t v a).2.1 ∧ ∀ u, t ≤ u → u < t + n → (f u).2 = true ∧ (f u).1 ≤ (greatW f n t v a).2.1
  | 0, t, v, a, _ => ⟨Int.le_refl _, fun u h1 h2 => by omega⟩
  | n + 1, t, v, a, h => by
    simp only [greatW] at h ⊢
    by_cases h1 : (f t).2 = false
    · rw [if_pos h1] at h; cases h
    · rw [if_neg h1] at h ⊢
      have h1' : (f t).2 = true := by simpa using h1
      by_cases h2 : (f t).1 > v
      · rw [if_pos h2] at h ⊢
        obtain ⟨k1, k2⟩ := greatW_sound n (t + 1) _ _ h
        refine ⟨by omega, fun u hu1 hu2 => ?_⟩
        by_cases e : u = t
        · subst e; exact ⟨h1', k1⟩
        · exact k2 u (by omega) (by omega)
      · rw [if_neg h2] at h ⊢
        obtain ⟨k1, k2⟩ := greatW_sound n (t + 1) _ _ h
        refine ⟨k1, fun u hu1 hu2 => ?_⟩
        by_cases e : u = t
        · subst e; exact ⟨h1', by omega⟩
        · exact k2 u (by omega) (by omega)
theorem greatW_bound {f : Nat → Int × Bool} {B : Int} : ∀ (n t : Nat) (v a : Int), (∀ u, t ≤ u → u < t + n → (f u).1 ≤ B) → 0 ≤ v → v ≤ B → 0 ≤ a → a ≤ t → 0 ≤ (greatW f n t v a).2.1 ∧ (greatW f n t v a).2.1 ≤ B ∧ 0 ≤ (greatW f n t v a).2.2 ∧ (greatW f n t v a).2.2 ≤ t + n
  | 0, t, v, a, _, h1, h2, h3, h4 => ⟨h1, h2, h3, by simp only [greatW]; omega⟩
  | n + 1, t, v, a, h, h1, h2, h3, h4 => by
    have ht := h t (by omega) (by omega)
    simp only [greatW]
    by_cases k1 : (f t).2 = false
    · rw [if_pos k1]; dsimp only; omega
    · rw [if_neg k1]
      by_cases k2 : (f t).1 > v
      · rw [if_pos k2]
        have := greatW_bound (f := f) (B := B) n (t + 1) (f t).1 t (fun u a b => h u (by omega) (by omega)) (by omega) ht (by omega) (by omega)
        omega
      · rw [if_neg k2]
        have := greatW_bound (f := f) (B := B) n (t + 1) v a (fun u a b => h u (by omega) (by omega)) h1 h2 h3 (by omega)
        omega
end
end Go.Proofs.Ytolmmfphdieilaa.M
namespace Go.Proofs.Ytolmmfphdieilaa.M
open Go Go.Proofs.Ytolmmfphdieilaa.K
theorem reach_bound {G : Nat → Int} {S P : Nat} {I v : Int} (h : FC G S P I) (hv : 0 ≤ v ∧ v ≤ 1000000000000000) : -1 ≤ (reachF G S P I v).1 ∧ (reachF G S P I v).1 ≤ 200000000000000000 := by
  unfold reachF
  have hP := h.hP
  have hn := h.hn
  have hI0 := h.hI
  rcases findFrom_cases (fun t => decide (G t ≥ v)) (S + P) 0 with ⟨i, h1, h2, h3, h4, h5⟩ | ⟨h1, h2⟩
  · rw [h3, if_pos (by omega)]; dsimp only; omega
  · rw [h1, if_neg (fun hh => hh rfl)]
    by_cases hI : I = 0
    · rw [if_pos hI]; dsimp only; omega
    · rw [if_neg hI]
      have hlast := of_decide_eq_false (h2 (S + P - 1) (by omega) (by omega))
      obtain ⟨g1, g2, g3, g4⟩ := reach_facts h hI (show G (S + P - 1) < v by omega)
      have hl0 := h.nonneg (S + P - 1)
      have hk : (v - G (S + P - 1) + I - 1) / I ≤ v + I := by
        have : ((v - G (S + P - 1) + I - 1) / I) * 1 ≤ ((v - G (S + P - 1) + I - 1) / I) * I := Int.mul_le_mul_of_nonneg_left (by omega) (by omega)
        omega
      generalize (v - G (S + P - 1) + I - 1) / I = k at *
      have hkP : (k.toNat - 1) * P ≤ 1100000000000000 * 120 := Nat.mul_le_mul (by omega) (by omega)
      dsimp only
      rcases findFrom_cases (fun t => decide (G t ≥ v)) (P + 1) (S + P + (k.toNat - 1) * P) with ⟨i, k1, k2, k3, _, _⟩ | ⟨k1, _⟩
      · rw [k3]; omega
      · rw [k1]; omega
/-- the distance that is found is one -/
theorem delay_found {F G : Nat → Int} {S1 P1 S2 P2 : Nat} {I1 I2 : Int} (ha : FC F S1 P1 I1) (hb : FC G S2 P2 I2) {n : Nat} (hn : n = max S1 S2 + lcmN P1 P2) (hslow : ¬ ((lcmN P1 P2 : Nat) : Int) / (P1 : Int) * I1 > ((lcmN P1 P2 : Nat) : Int) / (P2 : Int) * I2)
    (hg : (greatW (fun t => ((reachF G S2 P2 I2 (F t)).1 - t, (reachF G S2 P2 I2 (F t)).2)) n 0 0 0).1 = false) (u : Nat) : F u ≤ G (u + ((greatW (fun t => ((reachF G S2 P2 I2 (F t)).1 - t, (reachF G S2 P2 I2 (F t)).2)) n 0 0 0).2.1).toNat) := by
  have hP1 := ha.hP
  have hP2 := hb.hP
  obtain ⟨h1, h2, _, h4⟩ := lcmN_facts (a := P1) (b := P2) (by omega) (by omega)
  have e1 : ((lcmN P1 P2 : Nat) : Int) / (P1 : Int) = ((P2 / Nat.gcd P1 P2 : Nat) : Int) := by
    rw [h1, Int.natCast_mul]; exact Int.mul_ediv_cancel _ (by omega)
  have e2 : ((lcmN P1 P2 : Nat) : Int) / (P2 : Int) = ((P1 / Nat.gcd P1 P2 : Nat) : Int) := by
    rw [h2, Int.natCast_mul]; exact Int.mul_ediv_cancel _ (by omega)
  rw [e1, e2] at hslow
  obtain ⟨k1, k2⟩ := greatW_sound n 0 0 0 hg
  refine delay_sound ha hb h1 h2 h4 (by omega) hn (fun t ht => ?_) u
  obtain ⟨j1, j2⟩ := k2 t (Nat.zero_le _) (by omega)
  dsimp only at j1 j2
  obtain ⟨r1, r2⟩ := reach_sound hb j1
  exact Int.le_trans r2 (hb.mono (by omega))
end Go.Proofs.Ytolmmfphdieilaa.M

/- What a flow keeps: the least curve of a trace, plain. No condition. -/
namespace Go.Proofs.Ytolmmfphdieilaa.M
open Go Go.Proofs.Ytolmmfphdieilaa.K

theorem pbytes_congr {flow t t' : Int} : ∀ (ps : List Pkt), (∀ p ∈ ps, p.time < t ↔ p.time < t') → pbytes flow t ps = pbytes flow t' ps
  | [], _ => rfl
  | p :: ps, h => by
    have h1 := h p (by simp)
    have ih := pbytes_congr (flow := flow) ps (fun q hq => h q (by simp [hq]))
    simp only [pbytes]
    rw [ih]
    congr 1
    have e : hit flow t p ↔ hit flow t' p := by unfold hit; rw [h1]
    by_cases hh : hit flow t p
    · rw [if_pos hh, if_pos (e.1 hh)]
    · rw [if_neg hh, if_neg (fun h2 => hh (e.2 h2))]
theorem pbytes_mono {flow t t' : Int} (ht : t ≤ t') : ∀ (ps : List Pkt), (∀ p ∈ ps, 0 ≤ p.size) → pbytes flow t ps ≤ pbytes flow t' ps
  | [], _ => Int.le_refl _
  | p :: ps, h => by
    have ih := pbytes_mono (flow := flow) ht ps (fun q hq => h q (by simp [hq]))
    have hp := h p (by simp)
    simp only [pbytes]
    by_cases h1 : hit flow t p
    · rw [if_pos h1, if_pos (by unfold hit at *; omega)]; omega
    · rw [if_neg h1]; split <;> omega
def endN (ps : List Pkt) : Int := if ps.length = 0 then 0 else (nth ps (ps.length - 1)).time + 1
theorem endN_gt {ps : List Pkt} (hsort : ps.Pairwise fun a b => a.time ≤ b.time) : ∀ p ∈ ps, p.time < endN ps := by
  refine all_of_nth (fun i hi => ?_)
  unfold endN
  rw [if_neg (by omega)]
  by_cases e : i = ps.length - 1
  · subst e; omega
  · have := List.pairwise_iff_getElem.1 hsort i (ps.length - 1) hi (by omega) (by omega)
    rw [← nth_eq hi, ← nth_eq (show ps.length - 1 < ps.length by omega)] at this
    omega
theorem endN_bound {ps : List Pkt} {B : Int} (hB : 0 ≤ B) (h : ∀ p ∈ ps, 0 ≤ p.time ∧ p.time ≤ B) : 0 ≤ endN ps ∧ endN ps ≤ B + 1 := by
  unfold endN
  split
  · omega
  · have := h _ (nth_mem (xs := ps) (k := ps.length - 1) (by omega)); omega
theorem nth_up {vs : List Int} {en : Nat} (hm : ∀ j, j < en → nth vs j ≤ nth vs (j + 1)) {a b : Nat} (hab : a ≤ b) (hb : b ≤ en) : nth vs a ≤ nth vs b := by
  induction b with
  | zero => obtain rfl : a = 0 := by omega
            exact Int.le_refl _
  | succ b ih =>
    by_cases e : a = b + 1
    · subst e; exact Int.le_refl _
    · have h1 := ih (by omega) (by omega)
      have h2 := hm b (by omega)
      omega
theorem keeps {ps : List Pkt} {flow : Int} (hsort : ps.Pairwise fun a b => a.time ≤ b.time) {en : Nat} (hen : ∀ p ∈ ps, 0 ≤ p.time ∧ p.time < en) {vs : List Int} (h0 : ∀ j, j ≤ en → 0 ≤ nth vs j) (hm : ∀ j, j < en → nth vs j ≤ nth vs (j + 1))
    (hP : ∀ i, i < ps.length → ∀ T t : Nat, (nth ps i).time = T → T ≤ t → t ≤ en → pbytes flow (t : Int) ps - pbytes flow (T : Int) ps ≤ nth vs (t - T)) {x t : Nat} (hxt : x ≤ t) : pbytes flow (t : Int) ps - pbytes flow (x : Int) ps ≤ nth vs (min (t - x) en) := by
  have hnn := h0 (min (t - x) en) (by omega)
  by_cases hex : ∃ i, i < ps.length ∧ (x : Int) ≤ (nth ps i).time ∧ (nth ps i).time < t
  · obtain ⟨i0, i1, i2, i3⟩ := hex
    rcases findFrom_cases (fun i => decide ((x : Int) ≤ (nth ps i).time)) ps.length 0 with ⟨j, j1, j2, _, j4, j5⟩ | ⟨_, h2⟩
    · have j4 := of_decide_eq_true j4
      have hji : j ≤ i0 := by
        apply Classical.byContradiction
        intro hn
        have := of_decide_eq_false (j5 i0 (Nat.zero_le _) (by omega))
        exact this i2
      have hle : ∀ i, j ≤ i → i < ps.length → (nth ps j).time ≤ (nth ps i).time := fun i h1 h2 => by
        by_cases e : j = i
        · subst e; exact Int.le_refl _
        · have := List.pairwise_iff_getElem.1 hsort j i (by omega) h2 (by omega)
          rwa [← nth_eq (show j < ps.length by omega), ← nth_eq h2] at this
      have hj := hen _ (nth_mem (xs := ps) (k := j) (by omega))
      obtain ⟨T, hT⟩ := Int.eq_ofNat_of_zero_le hj.1
      have hTi := hle i0 hji i1
      have e1 : pbytes flow (x : Int) ps = pbytes flow (T : Int) ps := by
        refine pbytes_congr ps (all_of_nth (fun i hi => ?_))
        constructor
        · intro h; omega
        · intro h
          apply Classical.byContradiction
          intro hn
          by_cases hij : i < j
          · have := of_decide_eq_false (j5 i (Nat.zero_le _) hij)
            omega
          · have := hle i (by omega) hi
            omega
      have e2 : pbytes flow (t : Int) ps = pbytes flow ((min t en : Nat) : Int) ps := by
        refine pbytes_congr ps (fun p hp => ?_)
        have := hen p hp
        omega
      have h3 := hP j (by omega) T (min t en) hT (by omega) (by omega)
      have h4 := nth_up hm (a := min t en - T) (b := min (t - x) en) (by omega) (by omega)
      omega
    · exact absurd i2 (of_decide_eq_false (h2 i0 (Nat.zero_le _) (by omega)))
  · have e : pbytes flow (t : Int) ps = pbytes flow (x : Int) ps := by
      refine pbytes_congr ps (all_of_nth (fun i hi => ?_))
      constructor
      · intro h
        apply Classical.byContradiction
        intro hn
        exact hex ⟨i, hi, by omega, h⟩
      · intro h; omega
    omega
/-- a greater value in one place keeps what was shown -/
theorem nth_raise {vs : List Int} {k : Nat} {x : Int} (h : nth vs k ≤ x) (j : Nat) : nth vs j ≤ nth (vs.set k x) j := by
  by_cases hk : k < vs.length
  · by_cases e : k = j
    · subst e; rw [nth_set_self hk]; exact h
    · rw [nth_set_ne e]; exact Int.le_refl _
  · rw [List.set_eq_of_length_le (by omega)]; exact Int.le_refl _
end Go.Proofs.Ytolmmfphdieilaa.M

/- Any line that is never idle and keeps the order within a class: service and waits of a class, plain. No condition. -/
namespace Go.Proofs.Ytolmmfphdieilaa.M
open Go Go.Proofs.Ytolmmfphdieilaa.K

section
variable {σ : Type} {ps : List Pkt} {ch : MS → σ → Int × Nat × σ} {good : MS → σ → Prop} {rel : Nat → Nat → Prop} {classes col k : Nat} {s : RS σ}
/-- what is finished stays so -/
theorem inner_done (hg : Fair ps ch good rel) (hs : ∀ p ∈ ps, 1 ≤ p.size) (hfl : ∀ p ∈ ps, 0 ≤ p.flow ∧ p.flow < classes) {t : Nat} {i : Nat} (hi : i < ps.length) : ∀ (j : Nat) (s : RS σ), Wk ps classes good rel (t + 1) s → s.ms.now = t → 0 ≤ nth s.done i → nth (inner ps ch t j s).done i = nth s.done i
  | 0, s, _, _, _ => rfl
  | j + 1, s, hw, hn, hd => by
    simp only [M.inner]
    by_cases hl0 : s.ms.left ≤ 0
    · rw [if_pos hl0]
    · rw [if_neg hl0]
      have hw1 := hw.pickup hg hs
      obtain ⟨e1, e2, e3, e4⟩ := pickup_same ps ch s
      by_cases hcn : (M.pickup ps ch s).cur < 0
      · rw [if_pos hcn, e4]
      · rw [if_neg hcn]
        obtain ⟨c1, c2, c3⟩ := hw1.cur (by omega)
        obtain ⟨g1, g2, g3, g4, g5, g6⟩ := hw1.send hfl hg.free (by rw [e2]; exact hn) (by omega) (by rw [e1]; omega)
        have hne : (M.pickup ps ch s).cur.toNat ≠ i := fun e => by
          have := hw1.open_ i hi (.inr (by omega))
          rw [e4] at this; omega
        have hsd : nth (M.send ps t (M.pickup ps ch s)).done i = nth s.done i := by
          unfold M.send
          dsimp only
          generalize (if (M.pickup ps ch s).ms.left < (M.pickup ps ch s).rest then (M.pickup ps ch s).ms.left else (M.pickup ps ch s).rest) = n
          split
          · rw [nth_set_ne hne, e4]
          · rw [e4]
        rw [inner_done hg hs hfl hi j _ g1 (by rw [g5, e2]; exact hn) (by rw [hsd]; exact hd), hsd]
theorem done_stays (hg : Fair ps ch good rel) (hs : ∀ p ∈ ps, 1 ≤ p.size) (hfl : ∀ p ∈ ps, 0 ≤ p.flow ∧ p.flow < classes) {cap : Int} (hcap : 0 ≤ cap) {sg : σ} (hst : good (start ps classes sg).ms sg) {u : Nat} {i : Nat} (hi : i < ps.length) (hd : 0 ≤ nth (mrun ps ch cap classes u sg).done i) : ∀ (d : Nat), nth (mrun ps ch cap classes (u + d) sg).done i = nth (mrun ps ch cap classes u sg).done i
  | 0 => rfl
  | d + 1 => by
    have ih := done_stays hg hs hfl hcap hst hi hd d
    obtain ⟨h1, h2, _, _⟩ := work_run hg hs hfl hcap hst (u + d)
    obtain ⟨w1, w2⟩ := h1.opened (cap := cap) hg h2
    rw [show u + (d + 1) = u + d + 1 by omega, mrun_succ, inner_done hg hs hfl hi cap.toNat _ w1 rfl (by show 0 ≤ nth (mrun ps ch cap classes (u + d) sg).done i; rw [ih]; exact hd)]
    exact ih
theorem run_now (hg : Fair ps ch good rel) (hs : ∀ p ∈ ps, 1 ≤ p.size) (hfl : ∀ p ∈ ps, 0 ≤ p.flow ∧ p.flow < classes) {cap : Int} (hcap : 0 ≤ cap) {sg : σ} (hst : good (start ps classes sg).ms sg) (u : Nat) : (mrun ps ch cap classes (u + 1) sg).ms.now = u := by
  obtain ⟨h1, h2, _, _⟩ := work_run hg hs hfl hcap hst u
  have e : mrun ps ch cap classes (u + 1) sg = tick ps ch cap u (mrun ps ch cap classes u sg) := by unfold mrun; rw [ticksFrom_snoc, Nat.zero_add]
  rw [e]
  exact (h1.tick hg hs hfl hcap h2).2.1
/-- no packet waits longer than the distance of what its class keeps and how it is served -/
theorem wait_bound {a v F G : Nat → Int} {m T d : Nat} (ha : ∀ x t : Nat, x ≤ t → a t - a x ≤ F (t - x)) (hmono : ∀ x t : Nat, x ≤ t → a x ≤ a t) (hG0 : ∀ t, 0 ≤ G t) (hserv : ∀ t : Nat, t ≤ m → ∃ s : Nat, s ≤ t ∧ a s + G (t - s) ≤ v t) (hd : ∀ u, F u ≤ G (u + d)) (hTm : T + d + 1 ≤ m) : a (T + 1) ≤ v (T + d + 1) := by
  obtain ⟨s, h1, h2⟩ := hserv (T + d + 1) hTm
  by_cases hs : T + 1 ≤ s
  · have := hmono _ _ hs
    have := hG0 (T + d + 1 - s)
    omega
  · have h3 := ha s (T + 1) (by omega)
    have h4 := hd (T + 1 - s)
    rw [show T + 1 - s + d = T + d + 1 - s by omega] at h4
    omega
end
end Go.Proofs.Ytolmmfphdieilaa.M
namespace Go.Proofs.Ytolmmfphdieilaa.M
open Go Go.Proofs.Ytolmmfphdieilaa.K
theorem FC.forAt {F : Nat → Int} {S P : Nat} {I : Int} (h : FC F S P I) : (∀ x ∈ fvals F (S + P), -2305843009213693952 ≤ x ∧ x ≤ 4611686018427387904) ∧ ∀ u : Int, 0 ≤ u → u ≤ 2000 → -1 ≤ M.atR (fvals F (S + P)) P I u ∧ M.atR (fvals F (S + P)) P I u ≤ 4611686018427387904 := by
  refine ⟨all_of_nth (fun j hj => ?_), fun u h0 h1 => ?_⟩
  · rw [fvals_len] at hj
    rw [fvals_nth F hj]
    have a := h.nonneg j
    have b := h.hb j hj
    omega
  · obtain ⟨n, rfl⟩ := Int.eq_ofNat_of_zero_le h0
    rw [h.atR]
    have a := h.nonneg n
    have b := h.bound n
    omega
end Go.Proofs.Ytolmmfphdieilaa.M

/- The line in order of arrival, plain: how long packets wait and how much waits, when all packets together keep a curve. No condition. -/
namespace Go.Proofs.Ytolmmfphdieilaa.M
open Go Go.Proofs.Ytolmmfphdieilaa.K
section
variable {σ : Type} {ps : List Pkt} {ch : MS → σ → Int × Nat × σ} {good : MS → σ → Prop} {classes : Nat}
theorem late_all (hg : Fair ps ch good (fun _ _ => True)) (hb : Busy ps ch good) (hs : ∀ p ∈ ps, 1 ≤ p.size) (hfl : ∀ p ∈ ps, 0 ≤ p.flow ∧ p.flow < classes) (hsort : ps.Pairwise fun a b => a.time ≤ b.time) {cap : Int} (hcap : 0 ≤ cap) {sg : σ} (hst : good (start ps classes sg).ms sg) {m n T t : Nat} (hn : n < ps.length) (hT : (nth ps n).time = T) (htm : t < m)
    (hd : nth (mrun ps ch cap classes m sg).done n < 0 ∨ (t : Int) < nth (mrun ps ch cap classes m sg).done n) : wsum cap ps (t + 1) < pbytes (-1) ((T : Int) + 1) ps := by
  have hsz : ∀ p ∈ ps, 0 ≤ p.size := fun p hp => by have := hs p hp; omega
  rw [← work_sum hg hs hfl hcap hst hb (Nat.le_refl (t + 1))]
  have hw := (work_run hg hs hfl hcap hst (t + 1)).1
  have hnow := run_now hg hs hfl hcap hst (cap := cap) t
  have hnd : ¬ 0 ≤ nth (mrun ps ch cap classes (t + 1) sg).done n := fun h0 => by
    have h1 := done_stays hg hs hfl hcap hst hn h0 (m - (t + 1))
    rw [show t + 1 + (m - (t + 1)) = m by omega] at h1
    have hbg : nth (mrun ps ch cap classes (t + 1) sg).ms.begun n = true := by
      cases hbn : nth (mrun ps ch cap classes (t + 1) sg).ms.begun n with
      | true => rfl
      | false => have := hw.open_ n hn (.inl hbn); omega
    have hcn : (mrun ps ch cap classes (t + 1) sg).cur ≠ n := fun e => by have := hw.open_ n hn (.inr e); omega
    have := hw.shut n hn hbg hcn
    omega
  rw [hw.sum]
  generalize mrun ps ch cap classes (t + 1) sg = S at hw hnow hnd ⊢
  have hordT : ∀ i, i < ps.length → i ≤ n → (nth ps i).time ≤ T := fun i hi hin => by
    by_cases e : i = n
    · subst e; omega
    · have := List.pairwise_iff_getElem.1 hsort i n hi hn (by omega)
      rw [← nth_eq hi, ← nth_eq hn] at this; omega
  cases hbn : nth S.ms.begun n with
  | false =>
    have hbeg : ∀ i, i < ps.length → nth S.ms.begun i = true → i < n := fun i hi hbi => by
      apply Classical.byContradiction
      intro hge
      by_cases e : i = n
      · subst e; rw [hbn] at hbi; cases hbi
      · have := hw.ord i hi hbi n (by omega) trivial
        rw [hbn] at this; cases this
    have h1 := begB_set ps S.ms.begun n hn (by rw [hw.blen]; exact hn) hbn
    have h2 := begB_le (t := (T : Int)) ps (S.ms.begun.set n true) (by simp [hw.blen]) hsz (fun i hi hbi => by
      by_cases e : n = i
      · subst e; omega
      · rw [nth_set_ne e] at hbi
        exact hordT i hi (by have := hbeg i hi hbi; omega))
    have h3 := hs _ (nth_mem hn)
    split
    · rename_i hh
      have := (hw.cur hh).2.2
      omega
    · omega
  | true =>
    have hcur : S.cur = n := by
      apply Classical.byContradiction
      intro hne
      have := (hw.shut n hn hbn hne).1
      exact hnd this
    have hbeg : ∀ i, i < ps.length → nth S.ms.begun i = true → i ≤ n := fun i hi hbi => by
      apply Classical.byContradiction
      intro hge
      have hdi := (hw.shut i hi hbi (by omega)).1
      have := (hw.dord i hi hdi n (by omega) trivial).1
      exact hnd this
    have h2 := begB_le (t := (T : Int)) ps S.ms.begun hw.blen hsz (fun i hi hbi => hordT i hi (hbeg i hi hbi))
    have h3 := (hw.cur (by omega)).2.2
    rw [if_pos (by omega)]
    omega
end
theorem wsum_le {cap : Int} {ps : List Pkt} (h : ∀ p ∈ ps, 0 ≤ p.size) : ∀ t : Nat, wsum cap ps t ≤ pbytes (-1) (t : Int) ps
  | 0 => by
    show (0 : Int) ≤ _
    induction ps with
    | nil => exact Int.le_refl _
    | cons p ps ih =>
      have := ih (fun q hq => h q (by simp [hq]))
      have := h p (by simp)
      simp only [pbytes]
      split <;> omega
  | t + 1 => by
    show min _ _ ≤ _
    rw [show ((t + 1 : Nat) : Int) = (t : Int) + 1 by omega]
    exact Int.min_le_right _ _
theorem wsum_serv {cap : Int} {ps : List Pkt} (h0 : ∀ p ∈ ps, 0 ≤ p.time) : ∀ t : Nat, ∃ s : Nat, s ≤ t ∧ pbytes (-1) (s : Int) ps + cap * ((t - s : Nat) : Int) ≤ wsum cap ps t
  | 0 => ⟨0, Nat.le_refl _, by
    rw [show ((0 : Nat) : Int) = 0 from rfl, pbytes_zero ps h0]
    show 0 + cap * ((0 - 0 : Nat) : Int) ≤ 0
    simp⟩
  | t + 1 => by
    obtain ⟨s, h1, h2⟩ := wsum_serv (cap := cap) h0 t
    by_cases hm : wsum cap ps t + cap ≤ pbytes (-1) ((t : Int) + 1) ps
    · refine ⟨s, by omega, ?_⟩
      show _ ≤ min _ _
      rw [Int.min_eq_left hm, show ((t + 1 - s : Nat) : Int) = ((t - s : Nat) : Int) + 1 by omega, Int.mul_add, Int.mul_one]
      omega
    · refine ⟨t + 1, Nat.le_refl _, ?_⟩
      show _ ≤ min _ _
      rw [Int.min_eq_right (by omega), Nat.sub_self, show ((t + 1 : Nat) : Int) = (t : Int) + 1 by omega]
      simp
/-- what waits -/
theorem back_bound {cap : Int} {ps : List Pkt} {F : Nat → Int} {b : Int} {d : Nat} (h0 : ∀ p ∈ ps, 0 ≤ p.time) (hF : ∀ x t : Nat, x ≤ t → pbytes (-1) (t : Int) ps - pbytes (-1) (x : Int) ps ≤ F (t - x)) (hb : ∀ u : Nat, F (u + d) - cap * (u : Int) ≤ b) (t : Nat) : pbytes (-1) ((t + d : Nat) : Int) ps - wsum cap ps t ≤ b := by
  obtain ⟨s, h1, h2⟩ := wsum_serv (cap := cap) h0 t
  have h3 := hF s (t + d) (by omega)
  have h4 := hb (t - s)
  rw [show t - s + d = t + d - s by omega] at h4
  omega
end Go.Proofs.Ytolmmfphdieilaa.M

/- Packets that a curve lets pass, plain. No condition. -/
namespace Go.Proofs.Ytolmmfphdieilaa.M
open Go Go.Proofs.Ytolmmfphdieilaa.K
def sumS : List Pkt → Int
  | [] => 0
  | p :: r => p.size + sumS r
def passB (F : Nat → Int) (qs : List Pkt) (p : Pkt) : Bool := decide (p.size ≤ F 1) && (List.range qs.length).all fun b => decide (sumS (qs.drop b) + p.size ≤ F (p.time + 1 - (nth qs b).time).toNat)
theorem passB_iff {F : Nat → Int} {qs : List Pkt} {p : Pkt} : passB F qs p = true ↔ p.size ≤ F 1 ∧ ∀ b, b < qs.length → sumS (qs.drop b) + p.size ≤ F (p.time + 1 - (nth qs b).time).toNat := by
  unfold passB
  rw [Bool.and_eq_true, decide_eq_true_eq, List.all_eq_true]
  simp only [List.mem_range, decide_eq_true_eq]
def polL (F : Nat → Int) : List Pkt → List Pkt → List Pkt
  | [], acc => acc
  | p :: r, acc => if passB F acc p = true then polL F r (acc ++ [p]) else polL F r acc
theorem pol_sub (F : Nat → Int) : ∀ (r acc : List Pkt), (polL F r acc).Sublist (acc ++ r)
  | [], acc => by simp [polL]
  | p :: r, acc => by
    unfold polL
    split
    · have := pol_sub F r (acc ++ [p])
      simpa using this
    · exact (pol_sub F r acc).trans (List.Sublist.append_left (List.sublist_cons_self p r) acc)
def Conf (F : Nat → Int) (qs : List Pkt) : Prop := ∀ x t : Nat, x ≤ t → pbytes (-1) (t : Int) qs - pbytes (-1) (x : Int) qs ≤ F (t - x)
theorem hit_all (t : Int) (p : Pkt) : (if hit (-1) t p then p.size else 0) = if p.time < t then p.size else 0 := by unfold hit; simp
theorem pb_cons (t : Int) (q : Pkt) (r : List Pkt) : pbytes (-1) t (q :: r) = (if q.time < t then q.size else 0) + pbytes (-1) t r := by
  rw [pbytes, hit_all]
theorem pb_app (t : Int) (p : Pkt) : ∀ acc : List Pkt, pbytes (-1) t (acc ++ [p]) = pbytes (-1) t acc + (if p.time < t then p.size else 0)
  | [] => by rw [List.nil_append, pb_cons]; simp [pbytes]
  | q :: r => by
    rw [List.cons_append, pb_cons, pb_cons, pb_app t p r]
    omega
theorem pb_all {t : Int} : ∀ acc : List Pkt, (∀ q ∈ acc, q.time < t) → pbytes (-1) t acc = sumS acc
  | [], _ => rfl
  | q :: r, h => by
    simp only [sumS]
    rw [pb_cons, pb_all r (fun z hz => h z (by simp [hz])), if_pos (h q (by simp))]
theorem pb_none {t : Int} : ∀ acc : List Pkt, (∀ q ∈ acc, t ≤ q.time) → pbytes (-1) t acc = 0
  | [], _ => rfl
  | q :: r, h => by
    have h1 := h q (by simp)
    rw [pb_cons, pb_none r (fun z hz => h z (by simp [hz])), if_neg (by omega)]
    rfl
theorem pb_cut {x : Int} : ∀ acc : List Pkt, (acc.Pairwise fun a b => a.time ≤ b.time) → (∀ q ∈ acc, q.time < x) ∨ ∃ b, b < acc.length ∧ x ≤ (nth acc b).time ∧ sumS acc - pbytes (-1) x acc = sumS (acc.drop b)
  | [], _ => .inl (fun q h => by cases h)
  | q :: r, hs => by
    obtain ⟨h1, h2⟩ := List.pairwise_cons.1 hs
    by_cases hx : x ≤ q.time
    · right
      refine ⟨0, by simp, hx, ?_⟩
      rw [pb_none _ (fun z hz => by
        rcases List.mem_cons.1 hz with rfl | hz
        · exact hx
        · have := h1 z hz; omega)]
      simp
    · rcases pb_cut (x := x) r h2 with h | ⟨b, hb, h3, h4⟩
      · left
        intro z hz
        rcases List.mem_cons.1 hz with rfl | hz
        · omega
        · exact h z hz
      · right
        refine ⟨b + 1, by simpa using hb, h3, ?_⟩
        simp only [sumS, List.drop_succ_cons]
        rw [pb_cons, if_pos (by omega)]
        omega
theorem conf_append {F : Nat → Int} {acc : List Pkt} {p : Pkt} (hF : ∀ t, F t ≤ F (t + 1)) (hs : (acc ++ [p]).Pairwise fun a b => a.time ≤ b.time) (h0 : ∀ q ∈ acc ++ [p], 0 ≤ q.time) (hc : Conf F acc) (hp : passB F acc p = true) : Conf F (acc ++ [p]) := by
  obtain ⟨hp1, hp2⟩ := passB_iff.1 hp
  have hle : ∀ q ∈ acc, q.time ≤ p.time := fun q hq => (List.pairwise_append.1 hs).2.2 q hq p (by simp)
  have hsa := (List.pairwise_append.1 hs).1
  intro x t hxt
  rw [pb_app, pb_app]
  have hcx := hc x t hxt
  by_cases ht : p.time < t
  · rw [if_pos ht]
    by_cases hx : p.time < x
    · rw [if_pos hx]; omega
    · rw [if_neg hx, pb_all (t := (t : Int)) acc (fun q hq => by have := hle q hq; omega)]
      have hpt := h0 p (by simp)
      rcases pb_cut (x := (x : Int)) acc hsa with h | ⟨b, hb, h3, h4⟩
      · rw [pb_all acc h]
        have := mono_le hF (show 1 ≤ t - x by omega)
        omega
      · have h5 := hp2 b hb
        have h6 := hle _ (nth_mem hb)
        have := mono_le hF (show (p.time + 1 - (nth acc b).time).toNat ≤ t - x by omega)
        omega
  · rw [if_neg ht, if_neg (by omega)]; omega
theorem pol_conf {F : Nat → Int} (hF : ∀ t, F t ≤ F (t + 1)) : ∀ (r acc : List Pkt), ((acc ++ r).Pairwise fun a b => a.time ≤ b.time) → (∀ q ∈ acc ++ r, 0 ≤ q.time) → Conf F acc → Conf F (polL F r acc)
  | [], acc, _, _, hc => hc
  | p :: r, acc, hs, h0, hc => by
    unfold polL
    split
    · rename_i hp
      refine pol_conf hF r (acc ++ [p]) (by simpa using hs) (by simpa using h0) (conf_append hF ?_ ?_ hc hp)
      · exact hs.sublist (List.Sublist.append_left (by simp) acc)
      · intro q hq
        refine h0 q ?_
        rcases List.mem_append.1 hq with hq | hq
        · simp [hq]
        · rw [List.mem_singleton.1 hq]; simp
    · refine pol_conf hF r acc (hs.sublist (List.Sublist.append_left (List.sublist_cons_self p r) acc)) (fun q hq => h0 q ?_) hc
      rcases List.mem_append.1 hq with hq | hq
      · simp [hq]
      · simp [hq]
theorem conf_nil {F : Nat → Int} (h : ∀ t, 0 ≤ F t) : Conf F [] := fun x t _ => by simp only [pbytes]; have := h (t - x); omega
end Go.Proofs.Ytolmmfphdieilaa.M

/- A trial. No condition. -/
set_option linter.unusedSimpArgs false
set_option linter.unusedVariables false
namespace Go.Proofs.Ytolmmfphdieilaa
open Go Go.RowKit Go.Proofs.Ytolmmfphdieilaa.K Go.Proofs.Ytolmmfphdieilaa.M

theorem Ints_V {R : Ro} {a b : Option Addr} {ca cb : Nat} {xs ys : List Int} (ha : RS R 1 encI a xs) (hb : RS R 1 encI b ys) :
    FnV Try.prog 92 [.slice a xs.length ca, .slice b ys.length cb] R (.bool (decide (xs = ys))) := by
  have hla := ha.len
  have hlb := hb.len
  refine Fn.toV (fun w0 E => ?_)
  refine Fn.enter (n := 26) Try.func92 rfl rfl (Nat.le_of_ble_eq_true rfl) rfl ?_
  refine W.seq ?_
  refine W.region _ ?_
  refine WG.run tab_ok 1 rfl ?_
  refine WG.nil ?_
  refine WE.nxt ?_
  refine W.seq ?_
  refine W.seq ?_
  refine W.region _ ?_
  refine WG.run tab_ok 5 rfl ?_
  refine WG.nil ?_
  refine WE.nxt ?_
  refine W.condN rfl (fun hc0 => ?_) (fun hc0 => ?_)
  · try dsimp only at hc0
    refine W.seq ?_
    refine W.region _ ?_
    refine WG.run tab_ok 1 rfl ?_
    refine WG.nil ?_
    refine WE.nxt ?_
    refine W.ret ?_
    refine WE.then_ret ?_
    refine WE.retF tab_ok [_] rfl ⟨rfl, trivial⟩ (RLe.refl _) ?_
    exact ⟨congrArg Value.bool (by symm; apply decide_eq_false; rintro rfl; exact hc0 rfl), rfl⟩
  · try dsimp only at hc0
    refine W.skip ?_
    refine WE.nxt ?_
    refine W.seq ?_
    refine W.seq ?_
    refine W.region _ ?_
    refine WG.run tab_ok 1 rfl ?_
    refine WG.nil ?_
    refine WE.nxt ?_
    refine W.block ?_
    refine W.loop (β := Nat) (fun k => k ≤ xs.length ∧ ∀ i, i < k → nth xs i = nth ys i) (fun k => [(0, true, .slice a xs.length ca), (1, true, .slice b ys.length cb), (5, true, .int .i64 k)]) (fun _ => R) (fun _ => E) (fun k => xs.length - k) 0 ⟨Nat.zero_le _, fun i hi => absurd hi (Nat.not_lt_zero i)⟩ ⟨rfl, rfl, rfl, rfl⟩ (RLe.refl _) (List.Sublist.refl _) ?_
    intro st hst
    obtain ⟨hk, hpre⟩ := hst
    refine W.seq ?_
    refine W.seq ?_
    refine W.region _ ?_
    refine WG.run tab_ok 4 rfl ?_
    refine WG.nil ?_
    refine WE.nxt ?_
    refine W.condD rfl (fun hc1 => ?_) (fun hc1 => ?_)
    · try dsimp only at hc1
      refine W.skip ?_
      refine WE.nxt ?_
      refine W.seq ?_
      refine W.block ?_
      refine W.seq ?_
      refine W.regionQ _ mixed (by kernel_rfl) ?_
      refine WG.run tab_ok 2 rfl ?_
      refine WG.y rfl rfl (by decide) (Yl.indexN tab_ok rfl rfl rfl rfl rfl rfl (fun _ => rfl) (by intro _; (try dsimp only) <;> omega) (by intro _; first | exact fun _ _ _ _ => rfl | exact RS.has (by assumption) | exact fun _ _ _ _ => (by assumption) | exact HasMem.ownD 0 rfl | exact HasMem.ownD 1 rfl | exact HasMem.ownD 2 rfl | exact HasMem.ownD 3 rfl | exact HasMem.ownD 4 rfl | exact HasMem.ownD 5 rfl | exact HasMem.ownD 6 rfl | exact HasMem.ownD 7 rfl)) ?_
      refine' WG.y rfl rfl (by decide) (Yl.load1 tab_ok rfl rfl rfl (fun _ => rfl) ?r1 rfl ?h1) ?_
      case r1 => ((apply RS.rdD; assumption; ((try dsimp only) <;> omega)))
      case h1 => rfl
      refine WG.run tab_ok 2 rfl ?_
      refine WG.y rfl rfl (by decide) (Yl.indexN tab_ok rfl rfl rfl rfl rfl rfl (fun _ => rfl) (by intro _; (try dsimp only) <;> omega) (by intro _; first | exact fun _ _ _ _ => rfl | exact RS.has (by assumption) | exact fun _ _ _ _ => (by assumption) | exact HasMem.ownD 0 rfl | exact HasMem.ownD 1 rfl | exact HasMem.ownD 2 rfl | exact HasMem.ownD 3 rfl | exact HasMem.ownD 4 rfl | exact HasMem.ownD 5 rfl | exact HasMem.ownD 6 rfl | exact HasMem.ownD 7 rfl)) ?_
      refine' WG.y rfl rfl (by decide) (Yl.load1 tab_ok rfl rfl rfl (fun _ => rfl) ?r2 rfl ?h2) ?_
      case r2 => ((apply RS.rdD; assumption; ((try dsimp only) <;> omega)))
      case h2 => rfl
      refine WG.run tab_ok 1 rfl ?_
      refine WG.nil ?_
      refine WE.nxt ?_
      refine W.condN rfl (fun hc2 => ?_) (fun hc2 => ?_)
      · try dsimp only at hc2
        refine W.seq ?_
        refine W.region _ ?_
        refine WG.run tab_ok 1 rfl ?_
        refine WG.nil ?_
        refine WE.nxt ?_
        refine W.ret ?_
        refine WE.blk_ret ?_
        refine WE.then_ret ?_
        refine WE.then_ret ?_
        refine WE.blk_ret ?_
        refine WE.then_ret ?_
        refine WE.retF tab_ok [_] rfl ⟨rfl, trivial⟩ (RLe.refl _) ?_
        exact ⟨congrArg Value.bool (by symm; apply decide_eq_false; rintro rfl; exact hc2 rfl), rfl⟩
      · try dsimp only at hc2
        refine W.skip ?_
        refine WE.blk _ ?_
        refine WE.nxt ?_
        refine W.region _ ?_
        refine WG.run tab_ok 1 rfl ?_
        refine WG.y rfl rfl (by decide) (Yl.add rfl rfl rfl (fun _ => rfl) (by intro _; constructor <;> (try dsimp only) <;> omega)) ?_
        refine WG.run tab_ok 1 rfl ?_
        refine WG.nil ?_
        refine WE.again (st + 1) ⟨by omega, fun i hi => ?_⟩ (by omega) ⟨rfl, rfl, rfl, rfl⟩ (RLe.refl _) (List.Sublist.refl _)
        rcases Nat.lt_or_ge i st with h | h
        · exact hpre i h
        · obtain rfl : i = st := by omega
          exact hc2
    · try dsimp only at hc1
      refine W.exit ?_
      refine WE.then_exit ?_
      refine WE.then_exit ?_
      refine WE.blk_exit ?_
      refine WE.nxt ?_
      refine W.seq ?_
      refine W.region _ ?_
      refine WG.run tab_ok 1 rfl ?_
      refine WG.nil ?_
      refine WE.nxt ?_
      refine W.ret ?_
      refine WE.retF tab_ok [_] rfl ⟨rfl, trivial⟩ (RLe.refl _) ?_
      exact ⟨congrArg Value.bool (by symm; apply decide_eq_true; exact nth_ext (by omega) (fun i hi => hpre i (by omega))), rfl⟩

end Go.Proofs.Ytolmmfphdieilaa

/- A trial. No condition. -/
set_option linter.unusedSimpArgs false
set_option linter.unusedVariables false
namespace Go.Proofs.Ytolmmfphdieilaa
open Go Go.RowKit Go.Proofs.Ytolmmfphdieilaa.K Go.Proofs.Ytolmmfphdieilaa.M

theorem tmod_gt (x : Int) {n : Int} (h : 0 < n) : -n < x.tmod n := by
  rcases Int.le_total 0 x with h0 | h0
  · have := Int.tmod_nonneg n h0; omega
  · have h1 := Int.neg_tmod (a := x) (b := n)
    have h2 := Int.tmod_lt_of_pos (-x) h
    omega
theorem mod_pos {x n : Int} (h : 1 ≤ n) (hc : ¬ x.tmod n < 0) : x.tmod n = x % n := by
  rw [Int.tmod_eq_emod] at hc ⊢
  split at hc
  · rename_i h1; rw [if_pos h1]; omega
  · rename_i h1
    rw [if_neg h1]
    have := Int.emod_lt_of_pos x (show 0 < n by omega)
    have h2 : (n.natAbs : Int) = n := by omega
    omega
theorem mod_neg {x n : Int} (h : 1 ≤ n) (hc : x.tmod n < 0) : x.tmod n + n = x % n := by
  rw [Int.tmod_eq_emod] at hc ⊢
  split at hc
  · rename_i h1
    have := Int.emod_nonneg x (show n ≠ 0 by omega)
    omega
  · rename_i h1; rw [if_neg h1]
    have h2 : (n.natAbs : Int) = n := by omega
    omega
theorem src_end {b : Nat} {a : Option Addr} {cp : Nat} {xs : List Int} {c : Nat} (h : xs.length ≤ c) : srcE b a cp xs c = srcE b a cp xs (c + 1) := by
  unfold srcE
  rw [show min c xs.length = min (c + 1) xs.length by omega]
theorem src_next {b : Nat} {a : Option Addr} {cp : Nat} {xs : List Int} {c : Nat} (h : c < xs.length) : Ent.blk b [.slice a xs.length cp, .int .i64 (((min c xs.length : Nat) : Int) + 1)] = srcE b a cp xs (c + 1) := by
  unfold srcE
  rw [show ((min c xs.length : Nat) : Int) + 1 = ((min (c + 1) xs.length : Nat) : Int) by omega]

theorem Mod_V {R : Ro} {x n : Int} (hn : InR n) : FnV Try.prog 49 [.int .i64 x, .int .i64 n] R (.int .i64 (mod x n)) := by
  refine Fn.toV (fun w0 E => ?_)
  refine Fn.enter (n := 16) Try.func49 rfl rfl (Nat.le_of_ble_eq_true rfl) rfl ?_
  refine W.seq ?_
  refine W.region _ ?_
  refine WG.run tab_ok 1 rfl ?_
  refine WG.nil ?_
  refine WE.nxt ?_
  refine W.seq ?_
  refine W.seq ?_
  refine W.region _ ?_
  refine WG.run tab_ok 2 rfl ?_
  refine WG.nil ?_
  refine WE.nxt ?_
  refine W.condD rfl (fun hc0 => ?_) (fun hc0 => ?_)
  · try dsimp only at hc0
    refine W.seq ?_
    refine W.region _ ?_
    refine WG.run tab_ok 1 rfl ?_
    refine WG.nil ?_
    refine WE.nxt ?_
    refine W.ret ?_
    refine WE.then_ret ?_
    refine WE.retF tab_ok [_] rfl ⟨rfl, trivial⟩ (RLe.refl _) ?_
    exact ⟨by unfold mod; rw [if_pos hc0]; rfl, rfl⟩
  · try dsimp only at hc0
    refine W.skip ?_
    refine WE.nxt ?_
    refine W.seq ?_
    refine W.region _ ?_
    refine WG.run tab_ok 2 rfl ?_
    refine WG.y rfl rfl (by decide) (Yl.tmod rfl rfl rfl (fun _ => rfl) (by intro _; omega)) ?_
    refine WG.run tab_ok 1 rfl ?_
    refine WG.nil ?_
    refine WE.nxt ?_
    refine W.seq ?_
    refine W.seq ?_
    refine W.region _ ?_
    refine WG.run tab_ok 2 rfl ?_
    refine WG.nil ?_
    refine WE.nxt ?_
    refine W.condD rfl (fun hc1 => ?_) (fun hc1 => ?_)
    · try dsimp only at hc1
      refine W.region _ ?_
      refine WG.run tab_ok 2 rfl ?_
      refine WG.y rfl rfl (by decide) (Yl.add rfl rfl rfl (fun _ => rfl) (by intro _; have h9 := tmod_gt x (show (0 : Int) < n by omega); constructor <;> omega)) ?_
      refine WG.run tab_ok 1 rfl ?_
      refine WG.nil ?_
      refine WE.nxt ?_
      refine W.seq ?_
      refine W.region _ ?_
      refine WG.run tab_ok 2 rfl ?_
      refine WG.nil ?_
      refine WE.nxt ?_
      refine W.ret ?_
      refine WE.retF tab_ok [_] rfl ⟨rfl, trivial⟩ (RLe.refl _) ?_
      refine ⟨congrArg (Value.int .i64) ?_, rfl⟩
      unfold mod; rw [if_neg hc0]; exact mod_neg (by omega) hc1
    · try dsimp only at hc1
      refine W.skip ?_
      refine WE.nxt ?_
      refine W.seq ?_
      refine W.region _ ?_
      refine WG.run tab_ok 2 rfl ?_
      refine WG.nil ?_
      refine WE.nxt ?_
      refine W.ret ?_
      refine WE.retF tab_ok [_] rfl ⟨rfl, trivial⟩ (RLe.refl _) ?_
      refine ⟨congrArg (Value.int .i64) ?_, rfl⟩
      unfold mod; rw [if_neg hc0]; exact mod_pos (by omega) hc1

theorem Raw_C {R : Ro} {b : Nat} {a : Option Addr} {cp : Nat} {xs : List Int} {c : Nat} (w0 : World) (ha : RS R 1 encI a xs) : FnAt Try.prog 50 [.pointer (some ⟨b, 0, none⟩)] w0 R (srcE b a cp xs c) (RdPost (.int .i64 (nth xs c)) R (srcE b a cp xs (c + 1))) := by
  intro F
  have hla := ha.len
  refine Fn.enter (n := 31) Try.func50 rfl rfl (Nat.le_of_ble_eq_true rfl) rfl ?_
  refine W.seq ?_
  refine W.region _ ?_
  refine WG.run tab_ok 1 rfl ?_
  refine WG.nil ?_
  refine WE.nxt ?_
  refine W.seq ?_
  refine W.seq ?_
  refine W.regionQ _ mixed (by kernel_rfl) ?_
  refine WG.run tab_ok 3 rfl ?_
  refine' WG.y rfl rfl (by decide) (Yl.load1 tab_ok rfl rfl rfl (fun _ => rfl) ?r1 rfl ?h1) ?_
  case r1 => apply Rd.add; (exact Rd.blk 0 rfl)
  case h1 => rfl
  refine WG.run tab_ok 3 rfl ?_
  refine' WG.y rfl rfl (by decide) (Yl.load1 tab_ok rfl rfl rfl (fun _ => rfl) ?r2 rfl ?h2) ?_
  case r2 => apply Rd.add; (exact Rd.blk 0 rfl)
  case h2 => rfl
  refine WG.run tab_ok 2 rfl ?_
  refine WG.nil ?_
  refine WE.nxt ?_
  refine W.condD rfl (fun hc0 => ?_) (fun hc0 => ?_)
  · try dsimp only at hc0
    refine W.seq ?_
    refine W.region _ ?_
    refine WG.run tab_ok 1 rfl ?_
    refine WG.nil ?_
    refine WE.nxt ?_
    refine W.ret ?_
    refine WE.then_ret ?_
    refine WE.retF tab_ok [_] rfl ⟨rfl, trivial⟩ (RLe.refl _) ?_
    exact ⟨_, [], rfl, by rw [nth_out (by omega)]; rfl, rfl, src_end (by omega), rfl⟩
  · try dsimp only at hc0
    refine W.skip ?_
    refine WE.nxt ?_
    refine W.seq ?_
    refine W.region _ ?_
    refine WG.run tab_ok 3 rfl ?_
    refine' WG.y rfl rfl (by decide) (Yl.load1 tab_ok rfl rfl rfl (fun _ => rfl) ?r3 rfl ?h3) ?_
    case r3 => apply Rd.add; (exact Rd.blk 0 rfl)
    case h3 => rfl
    refine WG.y rfl rfl (by decide) (Yl.add rfl rfl rfl (fun _ => rfl) (by intro _; constructor <;> (try dsimp only) <;> omega)) ?_
    refine WG.run tab_ok 2 rfl ?_
    refine WL.efN rfl rfl (Ef.store 0 tab_ok rfl rfl rfl rfl rfl rfl rfl rfl ?_)
    refine WG.nil ?_
    refine WE.nxt ?_
    refine W.seq ?_
    refine W.regionQ _ mixed (by kernel_rfl) ?_
    refine WG.run tab_ok 3 rfl ?_
    refine' WG.y rfl rfl (by decide) (Yl.load1 tab_ok rfl rfl rfl (fun _ => rfl) ?r4 rfl ?h4) ?_
    case r4 => apply Rd.add; (exact Rd.blk 0 rfl)
    case h4 => rfl
    refine WG.run tab_ok 3 rfl ?_
    refine' WG.y rfl rfl (by decide) (Yl.load1 tab_ok rfl rfl rfl (fun _ => rfl) ?r5 rfl ?h5) ?_
    case r5 => apply Rd.add; (exact Rd.blk 0 rfl)
    case h5 => rfl
    refine WG.y rfl rfl (by decide) (Yl.sub rfl rfl rfl (fun _ => rfl) (by intro _; constructor <;> (try dsimp only) <;> omega)) ?_
    refine WG.y rfl rfl (by decide) (Yl.index tab_ok rfl rfl rfl rfl rfl rfl (fun _ => rfl) (by intro _; constructor <;> (try dsimp only) <;> omega) (by intro _; first | exact fun _ _ _ _ => rfl | exact RS.has (by assumption) | exact fun _ _ _ _ => (by assumption) | exact HasMem.ownD 0 rfl | exact HasMem.ownD 1 rfl | exact HasMem.ownD 2 rfl | exact HasMem.ownD 3 rfl | exact HasMem.ownD 4 rfl | exact HasMem.ownD 5 rfl | exact HasMem.ownD 6 rfl | exact HasMem.ownD 7 rfl)) ?_
    refine' WG.y rfl rfl (by decide) (Yl.load1 tab_ok rfl rfl rfl (fun _ => rfl) ?r6 rfl ?h6) ?_
    case r6 => ((apply RS.rdD; assumption; ((try dsimp only) <;> omega)))
    case h6 => rfl
    refine WG.run tab_ok 1 rfl ?_
    refine WG.nil ?_
    refine WE.nxt ?_
    refine W.ret ?_
    refine WE.retF tab_ok [_] rfl ⟨rfl, trivial⟩ (RLe.refl _) ?_
    exact ⟨_, [], rfl, congrArg (fun i => Value.int .i64 (nth xs i)) (show _ = c by omega), rfl, src_next (by omega), rfl⟩

theorem N_C {R : Ro} {b : Nat} {a : Option Addr} {cp : Nat} {xs : List Int} {c : Nat} (w0 : World) {n : Int} (ha : RS R 1 encI a xs) (hn : InR n) : FnAt Try.prog 12 [.pointer (some ⟨b, 0, none⟩), .int .i64 n] w0 R (srcE b a cp xs c) (RdPost (.int .i64 (mod (nth xs c) n)) R (srcE b a cp xs (c + 1))) := by
  intro F
  refine Fn.enter (n := 9) Try.func12 rfl rfl (Nat.le_of_ble_eq_true rfl) rfl ?_
  refine W.seq ?_
  refine W.region _ ?_
  refine WG.run tab_ok 1 rfl ?_
  refine WG.nil ?_
  refine WE.nxt ?_
  refine W.seq ?_
  refine W.region _ ?_
  refine WG.run tab_ok 1 rfl ?_
  refine WL.callAt 0 en50 rfl rfl (by decide) (CallOp.mkT rfl rfl rfl rfl) rfl (Raw_C w0 ha _) ?_
  rintro _ _ _ _ - ⟨rfl, rfl, rfl, rfl⟩
  refine WG.run tab_ok 1 rfl ?_
  refine WG.callV en49 rfl rfl (by decide) (CallOp.mk' rfl rfl rfl rfl) (fun _ => rfl) (fun hg => Mod_V hn) ?_
  refine WG.run tab_ok 1 rfl ?_
  refine WG.nil ?_
  refine WE.nxt ?_
  refine W.ret ?_
  refine WE.retF tab_ok [_] rfl ⟨rfl, trivial⟩ (RLe.refl _) ?_
  exact ⟨_, [], rfl, rfl, rfl, rfl, rfl⟩

theorem Pick_C {R : Ro} {b : Nat} {a : Option Addr} {cp : Nat} {xs : List Int} {c : Nat} (w0 : World) {a2 : Option Addr} {c2 : Nat} {ys : List Int} {j : Nat} {F : List Ent} (ha : RS R 1 encI a xs) (hy : F[j]? = some (.sl 3 1 a2 c2 (ys.map encI))) (hne : 0 < ys.length) (hl : ys.length ≤ 1000000) :
    K.Fn Try.prog 26 [.pointer (some ⟨b, 0, none⟩), .slice a2 ys.length c2] w0 R (srcE b a cp xs c :: F) (fun v R' E' => ∃ e' N, E' = N ++ e' :: F ∧ RdPost (.int .i64 (nth ys (mod (nth xs c) ys.length).toNat)) R (srcE b a cp xs (c + 1)) v R' e' N) := by
  have hr := mod_range (nth xs c) (show (1 : Int) ≤ ys.length by omega)
  refine Fn.enter (n := 12) Try.func26 rfl rfl (Nat.le_of_ble_eq_true rfl) rfl ?_
  refine W.seq ?_
  refine W.region _ ?_
  refine WG.run tab_ok 1 rfl ?_
  refine WG.nil ?_
  refine WE.nxt ?_
  refine W.seq ?_
  refine W.region _ ?_
  refine WG.run tab_ok 4 rfl ?_
  refine WL.callAt 0 en12 rfl rfl (by decide) (CallOp.mkT rfl rfl rfl rfl) rfl (N_C w0 ha (by constructor <;> omega) _) ?_
  rintro _ _ _ _ - ⟨rfl, rfl, rfl, rfl⟩
  refine WG.y rfl rfl (by decide) (Yl.index tab_ok rfl rfl rfl rfl rfl rfl (fun _ => rfl) (by intro _; constructor <;> (try dsimp only) <;> omega) (by intro _; first | exact HasMem.ownD (j + 1) hy | exact fun _ _ _ _ => rfl | exact RS.has (by assumption) | exact fun _ _ _ _ => (by assumption) | exact HasMem.ownD 0 rfl | exact HasMem.ownD 1 rfl | exact HasMem.ownD 2 rfl | exact HasMem.ownD 3 rfl | exact HasMem.ownD 4 rfl | exact HasMem.ownD 5 rfl | exact HasMem.ownD 6 rfl | exact HasMem.ownD 7 rfl)) ?_
  refine' WG.y rfl rfl (by decide) (Yl.load1 tab_ok rfl rfl rfl (fun _ => rfl) ?r1 rfl ?h1) ?_
  case r1 => (exact Rd.slD (j + 1) hy (by omega))
  case h1 => rfl
  refine WG.run tab_ok 1 rfl ?_
  refine WG.nil ?_
  refine WE.nxt ?_
  refine W.ret ?_
  refine WE.retF tab_ok [_] rfl ⟨rfl, trivial⟩ (RLe.refl _) ?_
  exact ⟨_, [], rfl, rfl, rfl, rfl, rfl⟩

theorem New_C {R : Ro} {a : Option Addr} {cp : Nat} {l : List Int} (w0 : World) (E : List Ent) (hc : l.length ≤ cp) :
    K.Fn Try.prog 10 [.slice a l.length cp] w0 R E (fun v R' E' => ∃ b, v = .pointer (some ⟨b, 0, none⟩) ∧ R = R' ∧ E' = srcE b a cp (l.take 2000) 0 :: E) := by
  refine Fn.enter (n := 10) Try.func10 rfl rfl (Nat.le_of_ble_eq_true rfl) rfl ?_
  refine W.seq ?_
  refine W.region _ ?_
  refine WG.run tab_ok 1 rfl ?_
  refine WG.nil ?_
  refine WE.nxt ?_
  refine W.seq ?_
  refine W.region _ ?_
  refine WG.run tab_ok 4 rfl ?_
  refine WG.y rfl rfl (by decide) (Yl.sliceH tab_ok rfl rfl rfl rfl rfl (fun _ => rfl) (by intro _; split <;> constructor <;> omega) rfl) ?_
  -- build
  refine WG.y rfl rfl (by decide) (Yl.build (parts := [(0, .tmp 7)]) tab_ok rfl rfl rfl rfl (fun _ => rfl) rfl rfl) ?_
  refine WL.ef rfl rfl (by decide) (Ef.box rfl rfl (fun b9 => ?_))
  refine WG.run tab_ok 1 rfl ?_
  refine WG.nil ?_
  refine WE.nxt ?_
  refine W.ret ?_
  refine WE.retF tab_ok [_] rfl ⟨rfl, trivial⟩ (RLe.refl _) ?_
  refine ⟨_, rfl, rfl, ?_⟩
  unfold srcE
  rw [List.length_take, Nat.min_comm 0, Nat.min_zero]
  have e1 : ((if (2000 : Int) < (l.length : Int) then 2000 else (l.length : Int))).toNat = min 2000 l.length := by split <;> omega
  exact congrArg (fun n => Ent.blk _ [Value.slice a n cp, .int .i64 0] :: E) e1

theorem Pick7_C {R : Ro} {b : Nat} {a : Option Addr} {cp : Nat} {xs : List Int} {c : Nat} (w0 : World) {a2 : Option Addr} {c2 : Nat} {j : Nat} {F : List Ent} (ha : RS R 1 encI a xs) (hy : F[j]? = some (.sl 3 1 a2 c2 ([0, 0, 0, 1, 1, 2, 7].map encI))) :
    K.Fn Try.prog 26 [.pointer (some ⟨b, 0, none⟩), .slice a2 7 c2] w0 R (srcE b a cp xs c :: F) (fun v R' E' => ∃ e' N, E' = N ++ e' :: F ∧ RdPost (.int .i64 (pick7 (mod (nth xs c) 7))) R (srcE b a cp xs (c + 1)) v R' e' N) :=
  Pick_C (ys := [0, 0, 0, 1, 1, 2, 7]) w0 ha hy (by decide) (by decide)

theorem Traffic_C {R : Ro} {b : Nat} {a : Option Addr} {cp : Nat} {xs : List Int} {c : Nat} (w0 : World) {n flows most : Int} (ha : RS R 1 encI a xs) (hn : 0 ≤ n ∧ n ≤ 1000) (hf : InR flows) (hm : 1 ≤ most ∧ most ≤ 1000000) (F : List Ent) :
    K.Fn Try.prog 30 [.pointer (some ⟨b, 0, none⟩), .int .i64 n, .int .i64 flows, .int .i64 most] w0 R (srcE b a cp xs c :: F) (fun v R' E' => ∃ e' N, E' = N ++ e' :: F ∧
      ∃ a2 c2, v = .slice a2 (traffic xs n flows most c).length c2 ∧ R = R' ∧ e' = srcE b a cp xs (c + 1 + 3 * trafficK xs n c) ∧ N = [.sl 54 3 a2 c2 ((traffic xs n flows most c).map encP)]) := by
  have hr := mod_range (nth xs c) (show (1 : Int) ≤ n + 1 by omega)
  have hK : (trafficK xs n c : Int) = mod (nth xs c) (n + 1) := by unfold trafficK; omega
  refine Fn.enter (n := 38) Try.func30 rfl rfl (Nat.le_of_ble_eq_true rfl) rfl ?_
  refine W.seq ?_
  refine W.region _ ?_
  refine WG.run tab_ok 1 rfl ?_
  refine WG.nil ?_
  refine WE.nxt ?_
  refine W.seq ?_
  refine W.region _ ?_
  refine WG.run tab_ok 1 rfl ?_
  refine WG.nil ?_
  refine WE.nxt ?_
  refine W.seq ?_
  refine W.region _ ?_
  refine WG.run tab_ok 1 rfl ?_
  refine WG.nil ?_
  refine WE.nxt ?_
  refine W.seq ?_
  refine W.seq ?_
  refine W.region _ ?_
  refine WG.run tab_ok 2 rfl ?_
  refine WG.y rfl rfl (by decide) (Yl.add rfl rfl rfl (fun _ => rfl) (by intro _; constructor <;> (try dsimp only) <;> omega)) ?_
  refine WL.callAt 0 en12 rfl rfl (by decide) (CallOp.mkT rfl rfl rfl rfl) rfl (N_C w0 ha (by constructor <;> omega) _) ?_
  rintro _ _ _ _ - ⟨rfl, rfl, rfl, rfl⟩
  refine WG.run tab_ok 1 rfl ?_
  refine WG.nil ?_
  refine WE.nxt ?_
  refine W.block ?_
  refine W.nil 54 3 (by decide) ?_
  refine W.loop (β := Nat × Nat × Int × List Pkt × Option Addr × Nat) (fun (k, c1, t, acc, a2, c2) => acc ++ trafficGo xs flows most k c1 t = traffic xs n flows most c ∧ c1 + 3 * k = c + 1 + 3 * trafficK xs n c ∧ 0 ≤ t ∧ t + 7 * k ≤ 7 * trafficK xs n c ∧ acc.length + k = trafficK xs n c) (fun (k, c1, t, acc, a2, c2) => [(0, true, .pointer (some ⟨b, 0, none⟩)), (1, true, .int .i64 n), (2, true, .int .i64 flows), (3, true, .int .i64 most), (9, true, .slice a2 acc.length c2), (10, true, .int .i64 t), (11, true, .int .i64 (k : Int))]) (fun _ => R) (fun (k, c1, t, acc, a2, c2) => .sl 54 3 a2 c2 (acc.map encP) :: srcE b a cp xs c1 :: F) (fun (k, c1, t, acc, a2, c2) => k) ((trafficK xs n c, c + 1, 0, [], none, 0)) (⟨rfl, rfl, Int.le_refl _, by omega, by simp⟩) ⟨rfl, rfl, rfl, rfl, rfl, rfl, vint hK.symm, rfl⟩ (RLe.refl _) qS ?_
  intro st hst
  obtain ⟨k, c1, t, acc, a2, c2⟩ := st
  obtain ⟨h1, h2, h3, h4, h5⟩ := hst
  dsimp only
  refine W.seq ?_
  refine W.seq ?_
  refine W.region _ ?_
  refine WG.run tab_ok 2 rfl ?_
  refine WG.nil ?_
  refine WE.nxt ?_
  refine W.condD rfl (fun hc0 => ?_) (fun hc0 => ?_)
  · try dsimp only at hc0
    obtain ⟨k, rfl⟩ : ∃ m, k = m + 1 := ⟨k - 1, by omega⟩
    have hr1 := mod_range (nth xs (c1 + 1)) (show (1 : Int) ≤ most by omega)
    have hr2 := pick7_range (mod (nth xs (c1 + 1 + 1)) 7)
    have hr3 := pick7_range (mod (nth xs (c1 + 2)) 7)
    refine W.skip ?_
    refine WE.nxt ?_
    refine W.seq ?_
    refine W.block ?_
    refine W.seq ?_
    refine W.region _ ?_
    refine WG.run tab_ok 3 rfl ?_
    refine WL.callAt 1 en12 rfl rfl (by decide) (CallOp.mkT rfl rfl rfl rfl) rfl (N_C w0 ha hf _) ?_
    rintro _ _ _ _ - ⟨rfl, rfl, rfl, rfl⟩
    refine WG.run tab_ok 3 rfl ?_
    refine WL.callAt 1 en12 rfl rfl (by decide) (CallOp.mkT rfl rfl rfl rfl) rfl (N_C w0 ha (by constructor <;> omega) _) ?_
    rintro _ _ _ _ - ⟨rfl, rfl, rfl, rfl⟩
    refine WG.y rfl rfl (by decide) (Yl.add rfl rfl rfl (fun _ => rfl) (by intro _; constructor <;> (try dsimp only) <;> omega)) ?_
    -- build
    refine WG.y rfl rfl (by decide) (Yl.build (parts := [(0, .tmp 23), (1, .tmp 24), (2, .tmp 28)]) tab_ok rfl rfl rfl rfl (fun _ => rfl) rfl rfl) ?_
    refine WL.ef rfl rfl (by decide) (Ef.buildSliceD (enc := encP) (parts := [.tmp 29]) [⟨_, _, _⟩] tab_ok rfl rfl rfl rfl rfl rfl rfl rfl (by decide) (by decide) (fun a30 => ?_))
    refine WL.ef rfl rfl (by decide) (Ef.appendD 1 0 tab_ok rfl rfl rfl rfl rfl rfl rfl rfl rfl rfl rfl (fun _ _ => rfl) (by simp only [List.length_cons, List.length_nil]; omega) (by simp only [List.length_cons, List.length_nil]; omega) (fun a31 c31 ha31 => ?_))
    refine WG.run tab_ok 1 rfl ?_
    refine WG.nil ?_
    refine WE.nxt ?_
    refine W.region _ ?_
    refine WG.run tab_ok 2 rfl ?_
    refine WL.ef rfl rfl (by decide) (Ef.buildSliceD (enc := encI) (parts := [.const (.int .i64 0), .const (.int .i64 0), .const (.int .i64 0), .const (.int .i64 1), .const (.int .i64 1), .const (.int .i64 2), .const (.int .i64 7)]) [_, _, _, _, _, _, _] tab_ok rfl rfl rfl rfl rfl rfl rfl rfl (by decide) (by decide) (fun a34 => ?_))
    refine WL.callAt 3 en26 rfl rfl (by decide) (CallOp.mkT rfl rfl rfl rfl) rfl (Pick7_C (j := 0) w0 ha rfl) ?_
    rintro _ _ _ _ - ⟨rfl, rfl, rfl, rfl⟩
    refine WG.y rfl rfl (by decide) (Yl.add rfl rfl rfl (fun _ => rfl) (by intro _; constructor <;> (try dsimp only) <;> omega)) ?_
    refine WG.run tab_ok 1 rfl ?_
    refine WG.nil ?_
    refine WE.blk _ ?_
    refine WE.nxt ?_
    refine W.region _ ?_
    refine WG.run tab_ok 1 rfl ?_
    refine WG.y rfl rfl (by decide) (Yl.sub rfl rfl rfl (fun _ => rfl) (by intro _; constructor <;> (try dsimp only) <;> omega)) ?_
    refine WG.run tab_ok 1 rfl ?_
    refine WG.nil ?_
    refine WE.again ((k, c1 + 3, t + pick7 (mod (nth xs (c1 + 2)) 7), acc ++ [⟨mod (nth xs c1) flows, t, 1 + mod (nth xs (c1 + 1)) most⟩], a31, c31)) (⟨by dsimp only; rw [← h1]; simp [trafficGo], by dsimp only; omega, by dsimp only; omega, by dsimp only; omega, by simp; omega⟩) (by (try dsimp only); omega) ⟨rfl, rfl, rfl, rfl, rfl, rfl, vint (by omega), rfl⟩ (RLe.refl _) qS
  · try dsimp only at hc0
    obtain rfl : k = 0 := by omega
    simp only [trafficGo, List.append_nil] at h1
    subst h1
    refine W.exit ?_
    refine WE.then_exit ?_
    refine WE.then_exit ?_
    refine WE.blk_exit ?_
    refine WE.nxt ?_
    refine W.seq ?_
    refine W.region _ ?_
    refine WG.run tab_ok 2 rfl ?_
    refine WG.nil ?_
    refine WE.nxt ?_
    refine W.ret ?_
    refine WE.retF tab_ok [_] rfl ⟨rfl, trivial⟩ (RLe.refl _) ?_
    exact ⟨_, [_], rfl, _, _, rfl, rfl, congrArg (srcE b a cp xs) (by omega), rfl⟩

end Go.Proofs.Ytolmmfphdieilaa

/- A trial. No condition. -/
set_option linter.unusedSimpArgs false
set_option linter.unusedVariables false
namespace Go.Proofs.Ytolmmfphdieilaa
open Go Go.RowKit Go.Proofs.Ytolmmfphdieilaa.K Go.Proofs.Ytolmmfphdieilaa.M

theorem Validate_V {R : Ro} {a : Option Addr} {c : Nat} {ps : List Pkt} (ha : RS R 3 encP a ps) : FnV Try.prog 77 [.slice a ps.length c] R (.int .i64 (validate ps)) := by
  have hla := ha.len
  refine Fn.toV (fun w0 E => ?_)
  refine Fn.enter (n := 50) Try.func77 rfl rfl (Nat.le_of_ble_eq_true rfl) rfl ?_
  refine W.seq ?_
  refine W.region _ ?_
  refine WG.run tab_ok 1 rfl ?_
  refine WG.nil ?_
  refine WE.nxt ?_
  refine W.seq ?_
  refine W.seq ?_
  refine W.region _ ?_
  refine WG.run tab_ok 3 rfl ?_
  refine WG.nil ?_
  refine WE.nxt ?_
  refine W.condD rfl (fun hc0 => ?_) (fun hc0 => ?_)
  · try dsimp only at hc0
    refine W.seq ?_
    refine W.region _ ?_
    refine WG.run tab_ok 1 rfl ?_
    refine WG.nil ?_
    refine WE.nxt ?_
    refine W.ret ?_
    refine WE.then_ret ?_
    refine WE.subE (E' := E) qS ?_
    refine WE.retF tab_ok [_] rfl ⟨rfl, trivial⟩ (RLe.refl _) ?_
    exact ⟨by unfold validate; rw [if_pos (show 60 < ps.length by omega)]; rfl, rfl⟩
  · try dsimp only at hc0
    refine W.skip ?_
    refine WE.nxt ?_
    refine W.seq ?_
    refine W.region _ ?_
    refine WG.run tab_ok 1 rfl ?_
    refine WG.nil ?_
    refine WE.nxt ?_
    refine W.seq ?_
    refine W.seq ?_
    refine W.region _ ?_
    refine WG.run tab_ok 3 rfl ?_
    refine WG.nil ?_
    refine WE.nxt ?_
    refine W.block ?_
    refine W.loop (β := Nat × Int) (fun (k, last) => k ≤ ps.length ∧ valGo last (ps.drop k) = valGo 0 ps) (fun (k, last) => [(0, true, .slice a ps.length c), (3, true, .int .i64 last), (9, true, .slice a ps.length c), (10, true, .int .i64 ps.length), (11, true, .int .i64 (k : Int))]) (fun _ => R) (fun _ => E) (fun (k, last) => ps.length - k) ((0, 0)) (⟨Nat.zero_le _, rfl⟩) ⟨rfl, rfl, rfl, rfl, rfl, rfl⟩ (RLe.refl _) qS ?_
    intro st hst
    obtain ⟨k, last⟩ := st
    obtain ⟨hk, hv⟩ := hst
    dsimp only
    refine W.seq ?_
    refine W.region _ ?_
    refine WG.run tab_ok 1 rfl ?_
    refine WG.nil ?_
    refine WE.nxt ?_
    refine W.seq ?_
    refine W.condD rfl (fun hc1 => ?_) (fun hc1 => ?_)
    · try dsimp only at hc1
      have hd := drop_nth (xs := ps) (k := k) (by omega)
      rw [hd, valGo] at hv
      refine W.skip ?_
      refine WE.nxt ?_
      refine W.seq ?_
      refine W.block ?_
      refine W.seq ?_
      refine W.region _ ?_
      refine WG.y rfl rfl (by decide) (Yl.indexN tab_ok rfl rfl rfl rfl rfl rfl (fun _ => rfl) (by intro _; (try dsimp only) <;> omega) (by intro _; first | exact fun _ _ _ _ => rfl | exact RS.has (by assumption) | exact fun _ _ _ _ => (by assumption) | exact HasMem.ownD 0 rfl | exact HasMem.ownD 1 rfl | exact HasMem.ownD 2 rfl | exact HasMem.ownD 3 rfl | exact HasMem.ownD 4 rfl | exact HasMem.ownD 5 rfl | exact HasMem.ownD 6 rfl | exact HasMem.ownD 7 rfl)) ?_
      refine' WG.y rfl rfl (by decide) (Yl.load1 tab_ok rfl rfl rfl (fun _ => rfl) ?r1 rfl ?h1) ?_
      case r1 => ((apply RS.rdD; assumption; ((try dsimp only) <;> omega)))
      case h1 => rfl
      refine WL.ef rfl rfl (by decide) (Ef.alloc tab_ok rfl rfl (fun b5 => ?_))
      refine WL.efN rfl rfl (Ef.store0 0 tab_ok rfl rfl rfl rfl rfl rfl rfl rfl ?_)
      refine WG.nil ?_
      refine WE.nxt ?_
      refine W.seq ?_
      refine W.seq ?_
      refine W.region _ ?_
      refine WG.run tab_ok 1 rfl ?_
      refine' WG.y rfl rfl (by decide) (Yl.load1 tab_ok rfl rfl rfl (fun _ => rfl) ?r2 rfl ?h2) ?_
      case r2 => apply Rd.add; (exact Rd.blk 0 rfl)
      case h2 => rfl
      refine WG.run tab_ok 2 rfl ?_
      refine WG.y rfl rfl (by decide) (pureV_ok tab_ok rfl qE) ?_
      refine' WG.y rfl rfl (by decide) (Yl.loadG tab_ok rfl rfl rfl qE ?r3 rfl ?h3 ?g3) ?_
      case r3 => apply Rd.addC; (exact Rd.blkC 0 rfl)
      case h3 => rfl
      case g3 => exact fun _ => trivial
      refine WG.y rfl rfl (by decide) (pureV_ok tab_ok rfl qE) ?_
      refine WG.y rfl rfl (by decide) (Yl.por rfl rfl rfl (fun _ => rfl) (by intro h1 h2; simp_all <;> omega)) ?_
      refine WG.run tab_ok 1 rfl ?_
      refine WG.y rfl rfl (by decide) (pureV_ok tab_ok rfl qE) ?_
      refine' WG.y rfl rfl (by decide) (Yl.loadG tab_ok rfl rfl rfl qE ?r4 rfl ?h4 ?g4) ?_
      case r4 => apply Rd.addC; (exact Rd.blkC 0 rfl)
      case h4 => rfl
      case g4 => exact fun _ => trivial
      refine WG.y rfl rfl (by decide) (pureV_ok tab_ok rfl qE) ?_
      refine WG.y rfl rfl (by decide) (Yl.por rfl rfl rfl (fun _ => rfl) (by intro h1 h2; simp_all <;> omega)) ?_
      refine WG.run tab_ok 1 rfl ?_
      refine WG.y rfl rfl (by decide) (pureV_ok tab_ok rfl qE) ?_
      refine' WG.y rfl rfl (by decide) (Yl.loadG tab_ok rfl rfl rfl qE ?r5 rfl ?h5 ?g5) ?_
      case r5 => apply Rd.addC; (exact Rd.blkC 0 rfl)
      case h5 => rfl
      case g5 => exact fun _ => trivial
      refine WG.y rfl rfl (by decide) (pureV_ok tab_ok rfl qE) ?_
      refine WG.y rfl rfl (by decide) (Yl.por rfl rfl rfl (fun _ => rfl) (by intro h1 h2; simp_all <;> omega)) ?_
      refine WG.run tab_ok 1 rfl ?_
      refine WG.y rfl rfl (by decide) (pureV_ok tab_ok rfl qE) ?_
      refine' WG.y rfl rfl (by decide) (Yl.loadG tab_ok rfl rfl rfl qE ?r6 rfl ?h6 ?g6) ?_
      case r6 => apply Rd.addC; (exact Rd.blkC 0 rfl)
      case h6 => rfl
      case g6 => exact fun _ => trivial
      refine WG.y rfl rfl (by decide) (pureV_ok tab_ok rfl qE) ?_
      refine WG.y rfl rfl (by decide) (Yl.por rfl rfl rfl (fun _ => rfl) (by intro h1 h2; simp_all <;> omega)) ?_
      refine WG.run tab_ok 1 rfl ?_
      refine WG.y rfl rfl (by decide) (pureV_ok tab_ok rfl qE) ?_
      refine' WG.y rfl rfl (by decide) (Yl.loadG tab_ok rfl rfl rfl qE ?r7 rfl ?h7 ?g7) ?_
      case r7 => apply Rd.addC; (exact Rd.blkC 0 rfl)
      case h7 => rfl
      case g7 => exact fun _ => trivial
      refine WG.y rfl rfl (by decide) (pureV_ok tab_ok rfl qE) ?_
      refine WG.y rfl rfl (by decide) (Yl.por rfl rfl rfl (fun _ => rfl) (by intro h1 h2; simp_all <;> omega)) ?_
      refine WG.nil ?_
      refine WE.nxt ?_
      refine W.cond rfl (fun hc2 => ?_) (fun hc2 => ?_)
      · try simp only [decide_eq_true_eq, decide_eq_false_iff_not, beq_iff_eq, bne_iff_ne, beq_eq_false_iff_ne, bne_eq_false_iff_eq, ne_eq, Bool.or_eq_true, Bool.or_eq_false_iff, Bool.and_eq_true, Bool.and_eq_false_imp, Bool.not_eq_true, Bool.not_eq_true', Bool.not_eq_false', Classical.not_not, Int.not_lt, Int.not_le, gt_iff_lt, ge_iff_le] at hc2
        rw [if_pos (show BadP (nth ps k) by unfold BadP; omega)] at hv
        refine W.seq ?_
        refine W.region _ ?_
        refine WG.run tab_ok 1 rfl ?_
        refine WG.nil ?_
        refine WE.nxt ?_
        refine W.ret ?_
        refine WE.then_ret ?_
        refine WE.blk_ret ?_
        refine WE.then_ret ?_
        refine WE.then_ret ?_
        refine WE.blk_ret ?_
        refine WE.then_ret ?_
        refine WE.subE (E' := E) qS ?_
        refine WE.retF tab_ok [_] rfl ⟨rfl, trivial⟩ (RLe.refl _) ?_
        exact ⟨by unfold validate; rw [if_neg (show ¬ 60 < ps.length by omega), ← hv]; rfl, rfl⟩
      · try simp only [decide_eq_true_eq, decide_eq_false_iff_not, beq_iff_eq, bne_iff_ne, beq_eq_false_iff_ne, bne_eq_false_iff_eq, ne_eq, Bool.or_eq_true, Bool.or_eq_false_iff, Bool.and_eq_true, Bool.and_eq_false_imp, Bool.not_eq_true, Bool.not_eq_true', Bool.not_eq_false', Classical.not_not, Int.not_lt, Int.not_le, gt_iff_lt, ge_iff_le] at hc2
        rw [if_neg (show ¬ BadP (nth ps k) by unfold BadP; omega)] at hv
        refine W.skip ?_
        refine WE.nxt ?_
        refine W.seq ?_
        refine W.seq ?_
        refine W.region _ ?_
        refine WG.run tab_ok 1 rfl ?_
        refine' WG.y rfl rfl (by decide) (Yl.load1 tab_ok rfl rfl rfl (fun _ => rfl) ?r8 rfl ?h8) ?_
        case r8 => apply Rd.add; (exact Rd.blk 0 rfl)
        case h8 => rfl
        refine WG.run tab_ok 2 rfl ?_
        refine WG.nil ?_
        refine WE.nxt ?_
        refine W.condD rfl (fun hc3 => ?_) (fun hc3 => ?_)
        · try dsimp only at hc3
          rw [if_pos hc3] at hv
          refine W.seq ?_
          refine W.region _ ?_
          refine WG.run tab_ok 1 rfl ?_
          refine WG.nil ?_
          refine WE.nxt ?_
          refine W.ret ?_
          refine WE.then_ret ?_
          refine WE.blk_ret ?_
          refine WE.then_ret ?_
          refine WE.then_ret ?_
          refine WE.blk_ret ?_
          refine WE.then_ret ?_
          refine WE.subE (E' := E) qS ?_
          refine WE.retF tab_ok [_] rfl ⟨rfl, trivial⟩ (RLe.refl _) ?_
          exact ⟨by unfold validate; rw [if_neg (show ¬ 60 < ps.length by omega), ← hv]; rfl, rfl⟩
        · try dsimp only at hc3
          rw [if_neg hc3] at hv
          refine W.skip ?_
          refine WE.nxt ?_
          refine W.region _ ?_
          refine WG.run tab_ok 1 rfl ?_
          refine' WG.y rfl rfl (by decide) (Yl.load1 tab_ok rfl rfl rfl (fun _ => rfl) ?r9 rfl ?h9) ?_
          case r9 => apply Rd.add; (exact Rd.blk 0 rfl)
          case h9 => rfl
          refine WG.run tab_ok 1 rfl ?_
          refine WG.nil ?_
          refine WE.blk _ ?_
          refine WE.nxt ?_
          refine W.region _ ?_
          refine WG.y rfl rfl (by decide) (Yl.add rfl rfl rfl (fun _ => rfl) (by intro _; constructor <;> (try dsimp only) <;> omega)) ?_
          refine WG.run tab_ok 1 rfl ?_
          refine WG.nil ?_
          refine WE.again ((k + 1, (nth ps k).time)) (⟨by dsimp only; omega, hv⟩) (by (try dsimp only); omega) ⟨rfl, rfl, rfl, rfl, rfl, rfl⟩ (RLe.refl _) qS
    · try dsimp only at hc1
      obtain rfl : k = ps.length := by omega
      simp only [List.drop_length, valGo] at hv
      refine W.exit ?_
      refine WE.then_exit ?_
      refine WE.then_exit ?_
      refine WE.blk_exit ?_
      refine WE.nxt ?_
      refine W.seq ?_
      refine W.region _ ?_
      refine WG.run tab_ok 1 rfl ?_
      refine WG.nil ?_
      refine WE.nxt ?_
      refine W.ret ?_
      refine WE.subE (E' := E) qS ?_
      refine WE.retF tab_ok [_] rfl ⟨rfl, trivial⟩ (RLe.refl _) ?_
      exact ⟨by unfold validate; rw [if_neg (show ¬ 60 < ps.length by omega), ← hv]; rfl, rfl⟩

theorem ValidateR_V {R : Ro} {a : Option Addr} {c : Nat} {ps : List Pkt} (ha : RS R 3 encP a ps) : FnV Try.prog 120 [.slice a ps.length c] R (.int .i64 (validate ps)) := by
  have hla := ha.len
  refine Fn.toV (fun w0 E => ?_)
  refine Fn.enter (n := 59) Try.func120 rfl rfl (Nat.le_of_ble_eq_true rfl) rfl ?_
  refine W.seq ?_
  refine W.region _ ?_
  refine WG.run tab_ok 1 rfl ?_
  refine WG.nil ?_
  refine WE.nxt ?_
  refine W.seq ?_
  refine W.seq ?_
  refine W.region _ ?_
  refine WG.run tab_ok 3 rfl ?_
  refine WG.nil ?_
  refine WE.nxt ?_
  refine W.condD rfl (fun hc0 => ?_) (fun hc0 => ?_)
  · try dsimp only at hc0
    refine W.seq ?_
    refine W.region _ ?_
    refine WG.run tab_ok 1 rfl ?_
    refine WG.nil ?_
    refine WE.nxt ?_
    refine W.ret ?_
    refine WE.then_ret ?_
    refine WE.subE (E' := E) qS ?_
    refine WE.retF tab_ok [_] rfl ⟨rfl, trivial⟩ (RLe.refl _) ?_
    exact ⟨by unfold validate; rw [if_pos (show 60 < ps.length by omega)]; rfl, rfl⟩
  · try dsimp only at hc0
    refine W.skip ?_
    refine WE.nxt ?_
    refine W.seq ?_
    refine W.seq ?_
    refine W.region _ ?_
    refine WG.run tab_ok 1 rfl ?_
    refine WG.nil ?_
    refine WE.nxt ?_
    refine W.block ?_
    refine W.loop (β := Nat) (fun k => k ≤ ps.length ∧ valGo (if k = 0 then 0 else (nth ps (k - 1)).time) (ps.drop k) = valGo 0 ps) (fun k => [(0, true, .slice a ps.length c), (3, true, .int .i64 (k : Int))]) (fun _ => R) (fun _ => E) (fun k => ps.length - k) (0) (⟨Nat.zero_le _, rfl⟩) ⟨rfl, rfl, rfl⟩ (RLe.refl _) qS ?_
    intro st hst
    obtain ⟨hk, hv⟩ := hst
    have hk0 : st ≠ 0 → ((st : Int) - 1).toNat = st - 1 := by omega
    refine W.seq ?_
    refine W.seq ?_
    refine W.region _ ?_
    refine WG.run tab_ok 4 rfl ?_
    refine WG.nil ?_
    refine WE.nxt ?_
    refine W.condD rfl (fun hc1 => ?_) (fun hc1 => ?_)
    · try dsimp only at hc1
      have hd := drop_nth (xs := ps) (k := st) (by omega)
      rw [hd, valGo] at hv
      refine W.skip ?_
      refine WE.nxt ?_
      refine W.seq ?_
      refine W.block ?_
      refine W.seq ?_
      refine W.region _ ?_
      refine WG.run tab_ok 2 rfl ?_
      refine WG.y rfl rfl (by decide) (Yl.indexN tab_ok rfl rfl rfl rfl rfl rfl (fun _ => rfl) (by intro _; (try dsimp only) <;> omega) (by intro _; first | exact fun _ _ _ _ => rfl | exact RS.has (by assumption) | exact fun _ _ _ _ => (by assumption) | exact HasMem.ownD 0 rfl | exact HasMem.ownD 1 rfl | exact HasMem.ownD 2 rfl | exact HasMem.ownD 3 rfl | exact HasMem.ownD 4 rfl | exact HasMem.ownD 5 rfl | exact HasMem.ownD 6 rfl | exact HasMem.ownD 7 rfl)) ?_
      refine' WG.y rfl rfl (by decide) (Yl.load1 tab_ok rfl rfl rfl (fun _ => rfl) ?r1 rfl ?h1) ?_
      case r1 => ((apply RS.rdD; assumption; ((try dsimp only) <;> omega)))
      case h1 => rfl
      refine WL.ef rfl rfl (by decide) (Ef.alloc tab_ok rfl rfl (fun b4 => ?_))
      refine WL.efN rfl rfl (Ef.store0 0 tab_ok rfl rfl rfl rfl rfl rfl rfl rfl ?_)
      refine WG.nil ?_
      refine WE.nxt ?_
      refine W.seq ?_
      refine W.seq ?_
      refine W.region _ ?_
      refine WG.run tab_ok 1 rfl ?_
      refine' WG.y rfl rfl (by decide) (Yl.load1 tab_ok rfl rfl rfl (fun _ => rfl) ?r2 rfl ?h2) ?_
      case r2 => apply Rd.add; (exact Rd.blk 0 rfl)
      case h2 => rfl
      refine WG.run tab_ok 2 rfl ?_
      refine WG.y rfl rfl (by decide) (pureV_ok tab_ok rfl qE) ?_
      refine' WG.y rfl rfl (by decide) (Yl.loadG tab_ok rfl rfl rfl qE ?r3 rfl ?h3 ?g3) ?_
      case r3 => apply Rd.addC; (exact Rd.blkC 0 rfl)
      case h3 => rfl
      case g3 => exact fun _ => trivial
      refine WG.y rfl rfl (by decide) (pureV_ok tab_ok rfl qE) ?_
      refine WG.y rfl rfl (by decide) (Yl.por rfl rfl rfl (fun _ => rfl) (by intro h1 h2; simp_all <;> omega)) ?_
      refine WG.run tab_ok 1 rfl ?_
      refine WG.y rfl rfl (by decide) (pureV_ok tab_ok rfl qE) ?_
      refine' WG.y rfl rfl (by decide) (Yl.loadG tab_ok rfl rfl rfl qE ?r4 rfl ?h4 ?g4) ?_
      case r4 => apply Rd.addC; (exact Rd.blkC 0 rfl)
      case h4 => rfl
      case g4 => exact fun _ => trivial
      refine WG.y rfl rfl (by decide) (pureV_ok tab_ok rfl qE) ?_
      refine WG.y rfl rfl (by decide) (Yl.por rfl rfl rfl (fun _ => rfl) (by intro h1 h2; simp_all <;> omega)) ?_
      refine WG.run tab_ok 1 rfl ?_
      refine WG.y rfl rfl (by decide) (pureV_ok tab_ok rfl qE) ?_
      refine' WG.y rfl rfl (by decide) (Yl.loadG tab_ok rfl rfl rfl qE ?r5 rfl ?h5 ?g5) ?_
      case r5 => apply Rd.addC; (exact Rd.blkC 0 rfl)
      case h5 => rfl
      case g5 => exact fun _ => trivial
      refine WG.y rfl rfl (by decide) (pureV_ok tab_ok rfl qE) ?_
      refine WG.y rfl rfl (by decide) (Yl.por rfl rfl rfl (fun _ => rfl) (by intro h1 h2; simp_all <;> omega)) ?_
      refine WG.run tab_ok 1 rfl ?_
      refine WG.y rfl rfl (by decide) (pureV_ok tab_ok rfl qE) ?_
      refine' WG.y rfl rfl (by decide) (Yl.loadG tab_ok rfl rfl rfl qE ?r6 rfl ?h6 ?g6) ?_
      case r6 => apply Rd.addC; (exact Rd.blkC 0 rfl)
      case h6 => rfl
      case g6 => exact fun _ => trivial
      refine WG.y rfl rfl (by decide) (pureV_ok tab_ok rfl qE) ?_
      refine WG.y rfl rfl (by decide) (Yl.por rfl rfl rfl (fun _ => rfl) (by intro h1 h2; simp_all <;> omega)) ?_
      refine WG.run tab_ok 1 rfl ?_
      refine WG.y rfl rfl (by decide) (pureV_ok tab_ok rfl qE) ?_
      refine' WG.y rfl rfl (by decide) (Yl.loadG tab_ok rfl rfl rfl qE ?r7 rfl ?h7 ?g7) ?_
      case r7 => apply Rd.addC; (exact Rd.blkC 0 rfl)
      case h7 => rfl
      case g7 => exact fun _ => trivial
      refine WG.y rfl rfl (by decide) (pureV_ok tab_ok rfl qE) ?_
      refine WG.y rfl rfl (by decide) (Yl.por rfl rfl rfl (fun _ => rfl) (by intro h1 h2; simp_all <;> omega)) ?_
      refine WG.nil ?_
      refine WE.nxt ?_
      refine W.cond rfl (fun hc2 => ?_) (fun hc2 => ?_)
      · try simp only [decide_eq_true_eq, decide_eq_false_iff_not, beq_iff_eq, bne_iff_ne, beq_eq_false_iff_ne, bne_eq_false_iff_eq, ne_eq, Bool.or_eq_true, Bool.or_eq_false_iff, Bool.and_eq_true, Bool.and_eq_false_imp, Bool.not_eq_true, Bool.not_eq_true', Bool.not_eq_false', Classical.not_not, Int.not_lt, Int.not_le, gt_iff_lt, ge_iff_le] at hc2
        rw [if_pos (show BadP (nth ps st) by unfold BadP; omega)] at hv
        refine W.seq ?_
        refine W.region _ ?_
        refine WG.run tab_ok 1 rfl ?_
        refine WG.nil ?_
        refine WE.nxt ?_
        refine W.ret ?_
        refine WE.then_ret ?_
        refine WE.blk_ret ?_
        refine WE.then_ret ?_
        refine WE.then_ret ?_
        refine WE.blk_ret ?_
        refine WE.then_ret ?_
        refine WE.subE (E' := E) qS ?_
        refine WE.retF tab_ok [_] rfl ⟨rfl, trivial⟩ (RLe.refl _) ?_
        exact ⟨by unfold validate; rw [if_neg (show ¬ 60 < ps.length by omega), ← hv]; rfl, rfl⟩
      · try simp only [decide_eq_true_eq, decide_eq_false_iff_not, beq_iff_eq, bne_iff_ne, beq_eq_false_iff_ne, bne_eq_false_iff_eq, ne_eq, Bool.or_eq_true, Bool.or_eq_false_iff, Bool.and_eq_true, Bool.and_eq_false_imp, Bool.not_eq_true, Bool.not_eq_true', Bool.not_eq_false', Classical.not_not, Int.not_lt, Int.not_le, gt_iff_lt, ge_iff_le] at hc2
        rw [if_neg (show ¬ BadP (nth ps st) by unfold BadP; omega)] at hv
        refine W.skip ?_
        refine WE.nxt ?_
        refine W.seq ?_
        refine W.regionQ _ mixed (by kernel_rfl) ?_
        refine WG.run tab_ok 3 rfl ?_
        refine WG.y rfl rfl (by decide) (pureV_ok tab_ok rfl qE) ?_
        refine' WG.y rfl rfl (by decide) (Yl.loadG tab_ok rfl rfl rfl qE ?r8 rfl ?h8 ?g8) ?_
        case r8 => apply Rd.addC; (exact Rd.blkC 0 rfl)
        case h8 => rfl
        case g8 => exact fun _ => trivial
        refine WG.y rfl rfl (by decide) (pureV_ok tab_ok rfl qE) ?_
        refine WG.y rfl rfl (by decide) (pureV_ok tab_ok rfl qE) ?_
        refine WG.y rfl rfl (by decide) (Yl.sub rfl rfl rfl qE (by intro hg; (try simp only [decide_eq_true_eq, decide_eq_false_iff_not, beq_iff_eq, bne_iff_ne, beq_eq_false_iff_ne, bne_eq_false_iff_eq, ne_eq, Bool.or_eq_true, Bool.or_eq_false_iff, Bool.and_eq_true, Bool.and_eq_false_imp, Bool.not_eq_true, Bool.not_eq_true', Bool.not_eq_false', Classical.not_not, Int.not_lt, Int.not_le, gt_iff_lt, ge_iff_le] at hg); constructor <;> (try dsimp only) <;> omega)) ?_
        refine WG.y rfl rfl (by decide) (Yl.index tab_ok rfl rfl rfl rfl rfl rfl qE (by intro hg; (try simp only [decide_eq_true_eq, decide_eq_false_iff_not, beq_iff_eq, bne_iff_ne, beq_eq_false_iff_ne, bne_eq_false_iff_eq, ne_eq, Bool.or_eq_true, Bool.or_eq_false_iff, Bool.and_eq_true, Bool.and_eq_false_imp, Bool.not_eq_true, Bool.not_eq_true', Bool.not_eq_false', Classical.not_not, Int.not_lt, Int.not_le, gt_iff_lt, ge_iff_le] at hg); constructor <;> (try dsimp only) <;> omega) (by intro hg; (try simp only [decide_eq_true_eq, decide_eq_false_iff_not, beq_iff_eq, bne_iff_ne, beq_eq_false_iff_ne, bne_eq_false_iff_eq, ne_eq, Bool.or_eq_true, Bool.or_eq_false_iff, Bool.and_eq_true, Bool.and_eq_false_imp, Bool.not_eq_true, Bool.not_eq_true', Bool.not_eq_false', Classical.not_not, Int.not_lt, Int.not_le, gt_iff_lt, ge_iff_le] at hg); first | exact fun _ _ _ _ => rfl | exact RS.has (by assumption) | exact fun _ _ _ _ => (by assumption) | exact HasMem.ownD 0 rfl | exact HasMem.ownD 1 rfl | exact HasMem.ownD 2 rfl | exact HasMem.ownD 3 rfl | exact HasMem.ownD 4 rfl | exact HasMem.ownD 5 rfl | exact HasMem.ownD 6 rfl | exact HasMem.ownD 7 rfl)) ?_
        refine WG.y rfl rfl (by decide) (pureV_ok tab_ok rfl qE) ?_
        refine' WG.y rfl rfl (by decide) (Yl.loadG tab_ok rfl rfl rfl qE ?r9 rfl ?h9 ?g9) ?_
        case r9 => apply Rd.addC; ((apply RS.rdC; assumption))
        case h9 => rfl
        case g9 => (intro hg; (try simp only [decide_eq_true_eq, decide_eq_false_iff_not, beq_iff_eq, bne_iff_ne, beq_eq_false_iff_ne, bne_eq_false_iff_eq, ne_eq, Bool.or_eq_true, Bool.or_eq_false_iff, Bool.and_eq_true, Bool.and_eq_false_imp, Bool.not_eq_true, Bool.not_eq_true', Bool.not_eq_false', Classical.not_not, Int.not_lt, Int.not_le, gt_iff_lt, ge_iff_le] at hg); (try dsimp only); omega)
        refine WG.y rfl rfl (by decide) (pureV_ok tab_ok rfl qE) ?_
        refine WG.y rfl rfl (by decide) (Yl.pand rfl rfl rfl (fun _ => rfl) (by intro h1 h2; simp_all <;> omega)) ?_
        refine WG.nil ?_
        refine WE.nxt ?_
        refine W.cond rfl (fun hc3 => ?_) (fun hc3 => ?_)
        · try simp only [decide_eq_true_eq, decide_eq_false_iff_not, beq_iff_eq, bne_iff_ne, beq_eq_false_iff_ne, bne_eq_false_iff_eq, ne_eq, Bool.or_eq_true, Bool.or_eq_false_iff, Bool.and_eq_true, Bool.and_eq_false_imp, Bool.not_eq_true, Bool.not_eq_true', Bool.not_eq_false', Classical.not_not, Int.not_lt, Int.not_le, gt_iff_lt, ge_iff_le] at hc3
          obtain ⟨hc4, hc5⟩ := hc3
          rw [hk0 (by omega)] at hc5
          rw [if_neg (show ¬ st = 0 by omega), if_pos hc5] at hv
          refine W.seq ?_
          refine W.region _ ?_
          refine WG.run tab_ok 1 rfl ?_
          refine WG.nil ?_
          refine WE.nxt ?_
          refine W.ret ?_
          refine WE.blk_ret ?_
          refine WE.then_ret ?_
          refine WE.then_ret ?_
          refine WE.blk_ret ?_
          refine WE.then_ret ?_
          refine WE.subE (E' := E) qS ?_
          refine WE.retF tab_ok [_] rfl ⟨rfl, trivial⟩ (RLe.refl _) ?_
          exact ⟨by unfold validate; rw [if_neg (show ¬ 60 < ps.length by omega), ← hv]; rfl, rfl⟩
        · try simp only [decide_eq_true_eq, decide_eq_false_iff_not, beq_iff_eq, bne_iff_ne, beq_eq_false_iff_ne, bne_eq_false_iff_eq, ne_eq, Bool.or_eq_true, Bool.or_eq_false_iff, Bool.and_eq_true, Bool.and_eq_false_imp, Bool.not_eq_true, Bool.not_eq_true', Bool.not_eq_false', Classical.not_not, Int.not_lt, Int.not_le, gt_iff_lt, ge_iff_le] at hc3
          have hc4 : ¬ (nth ps st).time < (if st = 0 then 0 else (nth ps (st - 1)).time) := by
            split
            · have hb : ¬ BadP (nth ps st) := by unfold BadP; omega
              unfold BadP at hb; omega
            · rw [← hk0 (by omega)]
              have := hc3 (by omega); omega
          rw [if_neg hc4] at hv
          refine W.skip ?_
          refine WE.blk _ ?_
          refine WE.nxt ?_
          refine W.region _ ?_
          refine WG.run tab_ok 1 rfl ?_
          refine WG.y rfl rfl (by decide) (Yl.add rfl rfl rfl (fun _ => rfl) (by intro _; constructor <;> (try dsimp only) <;> omega)) ?_
          refine WG.run tab_ok 1 rfl ?_
          refine WG.nil ?_
          refine WE.again (st + 1) (⟨by omega, by simpa using hv⟩) (by (try dsimp only); omega) ⟨rfl, rfl, rfl⟩ (RLe.refl _) qS
    · try dsimp only at hc1
      obtain rfl : st = ps.length := by omega
      simp only [List.drop_length, valGo] at hv
      refine W.exit ?_
      refine WE.then_exit ?_
      refine WE.then_exit ?_
      refine WE.blk_exit ?_
      refine WE.nxt ?_
      refine W.seq ?_
      refine W.region _ ?_
      refine WG.run tab_ok 1 rfl ?_
      refine WG.nil ?_
      refine WE.nxt ?_
      refine W.ret ?_
      refine WE.subE (E' := E) qS ?_
      refine WE.retF tab_ok [_] rfl ⟨rfl, trivial⟩ (RLe.refl _) ?_
      exact ⟨by unfold validate; rw [if_neg (show ¬ 60 < ps.length by omega)]; exact congrArg (Value.int .i64) hv, rfl⟩

end Go.Proofs.Ytolmmfphdieilaa
