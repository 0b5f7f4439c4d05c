/- Rules and walks, joined from 11 texts: the first of them says: A machine that is never idle, plain: what all classes together are sent, and in which order packets end, whatever the choice. No condition. -/
import Derived.Test.YtnaeefefggmomaaG1
/- A machine that is never idle, plain: what all classes together are sent, and in which order packets end, whatever the choice. No condition. -/
namespace Go.Proofs.Ytnaeefefggmomaa.M
open Go Go.Proofs.Ytnaeefefggmomaa.K

/-- all classes together -/
def colSum : List (List Int) → Nat → Int
  | [], _ => 0
  | l :: ls, t => nth l t + colSum ls t
/-- the bytes of the packets that have been begun -/
def begB : List Pkt → List Bool → Int
  | p :: ps, b :: bs => (if b then p.size else 0) + begB ps bs
  | _, _ => 0
theorem colSum_set : ∀ (sent : List (List Int)) (f : Nat) (l : List Int) (t : Nat), f < sent.length → colSum (sent.set f l) t = colSum sent t - nth (nth sent f) t + nth l t
  | [], f, l, t, h => by simp at h
  | x :: xs, 0, l, t, h => by simp [colSum, nth]; omega
  | x :: xs, f + 1, l, t, h => by
    have := colSum_set xs f l t (by simpa using h)
    simp only [List.set_cons_succ, colSum, this]
    rw [show nth (x :: xs) (f + 1) = nth xs f from rfl]; omega
theorem colSum_append : ∀ (a b : List (List Int)) (t : Nat), colSum (a ++ b) t = colSum a t + colSum b t
  | [], b, t => by simp [colSum]
  | x :: xs, b, t => by simp only [List.cons_append, colSum, colSum_append xs b t]; omega
theorem colSum_map {g : List Int → List Int} {t u : Nat} : ∀ (sent : List (List Int)), (∀ l ∈ sent, nth (g l) t = nth l u) → colSum (sent.map g) t = colSum sent u
  | [], _ => rfl
  | x :: xs, h => by
    simp only [List.map_cons, colSum]
    rw [h x (by simp), colSum_map xs (fun l hl => h l (by simp [hl]))]
theorem begB_set : ∀ (ps : List Pkt) (bs : List Bool) (i : Nat), i < ps.length → i < bs.length → nth bs i = false → begB ps (bs.set i true) = begB ps bs + (nth ps i).size
  | [], _, i, h, _, _ => by simp at h
  | _ :: _, [], i, _, h, _ => by simp at h
  | p :: ps, b :: bs, 0, _, _, hb => by
    have : b = false := hb
    subst this
    simp [begB, nth]; omega
  | p :: ps, b :: bs, i + 1, h1, h2, hb => by
    have := begB_set ps bs i (by simpa using h1) (by simpa using h2) hb
    simp only [List.set_cons_succ, begB, this]
    rw [show nth (p :: ps) (i + 1) = nth ps i from rfl]; omega
theorem begB_le {t : Int} : ∀ (ps : List Pkt) (bs : List Bool), bs.length = ps.length → (∀ p ∈ ps, 0 ≤ p.size) → (∀ i, i < ps.length → nth bs i = true → (nth ps i).time ≤ t) → begB ps bs ≤ pbytes (-1) (t + 1) ps
  | [], [], _, _, _ => by simp [begB, pbytes]
  | [], _ :: _, h, _, _ => by simp at h
  | _ :: _, [], h, _, _ => by simp at h
  | p :: ps, b :: bs, hl, hs, h => by
    have ih := begB_le ps bs (by simpa using hl) (fun q hq => hs q (by simp [hq])) (fun i hi hb => h (i + 1) (by simpa using hi) hb)
    have hp := hs p (by simp)
    simp only [begB, pbytes]
    have h0 : b = true → hit (-1) (t + 1) p := fun hb => by have := h 0 (by simp) hb; simp [nth] at this; unfold hit; omega
    cases b with
    | true => rw [if_pos rfl, if_pos (h0 rfl)]; omega
    | false => simp only [Bool.false_eq_true, if_false]; split <;> omega
theorem begB_eq {t : Int} : ∀ (ps : List Pkt) (bs : List Bool), bs.length = ps.length → (∀ i, i < ps.length → (nth bs i = true ↔ (nth ps i).time ≤ t)) → begB ps bs = pbytes (-1) (t + 1) ps
  | [], [], _, _ => by simp [begB, pbytes]
  | [], _ :: _, h, _ => by simp at h
  | _ :: _, [], h, _ => by simp at h
  | p :: ps, b :: bs, hl, h => by
    have ih := begB_eq ps bs (by simpa using hl) (fun i hi => h (i + 1) (by simpa using hi))
    simp only [begB, pbytes]
    have h0 := h 0 (by simp)
    simp [nth] at h0
    have h1 : b = true ↔ hit (-1) (t + 1) p := by rw [h0]; unfold hit; omega
    by_cases hb : b = true
    · rw [if_pos hb, if_pos (h1.1 hb)]; omega
    · rw [if_neg hb, if_neg (fun h => hb (h1.2 h))]; omega
theorem begB_none : ∀ (ps : List Pkt) (n : Nat), begB ps (List.replicate n false) = 0
  | [], _ => by simp [begB]
  | _ :: _, 0 => by simp [begB]
  | p :: ps, n + 1 => by simp [List.replicate_succ, begB, begB_none ps n]

/-- a choice of what waits; within rel the first -/
structure Fair {σ : Type} (ps : List Pkt) (ch : MS → σ → Int × Nat × σ) (good : MS → σ → Prop) (rel : Nat → Nat → Prop) : Prop extends Good ps ch good where
  waits : ∀ ms sg, good ms sg → ms.begun.length = ps.length → 0 ≤ (ch ms sg).1 → nth ms.begun (ch ms sg).1.toNat = false ∧ (nth ps (ch ms sg).1.toNat).time ≤ ms.now
  ord : ∀ ms sg, good ms sg → ms.begun.length = ps.length → 0 ≤ (ch ms sg).1 → ∀ i, i < (ch ms sg).1.toNat → rel i (ch ms sg).1.toNat → nth ms.begun i = true
/-- never idle while something waits -/
def Busy {σ : Type} (ps : List Pkt) (ch : MS → σ → Int × Nat × σ) (good : MS → σ → Prop) : Prop :=
  ∀ ms sg, good ms sg → ms.begun.length = ps.length → (ch ms sg).1 < 0 → ∀ i, i < ps.length → (nth ps i).time ≤ ms.now → nth ms.begun i = true

/-- what stays true: col is the column of the sums that is open -/
structure Wk {σ : Type} (ps : List Pkt) (classes : Nat) (good : MS → σ → Prop) (rel : Nat → Nat → Prop) (col : Nat) (s : RS σ) : Prop where
  good : good s.ms s.sg
  dlen : s.done.length = ps.length
  blen : s.ms.begun.length = ps.length
  slen : s.sent.length = classes
  rlen : ∀ l ∈ s.sent, l.length = col + 1
  cur : 0 ≤ s.cur → s.cur < ps.length ∧ nth s.ms.begun s.cur.toNat = true ∧ 1 ≤ s.rest
  open_ : ∀ i, i < ps.length → (nth s.ms.begun i = false ∨ s.cur = i) → nth s.done i = -1
  shut : ∀ i, i < ps.length → nth s.ms.begun i = true → s.cur ≠ i → 0 ≤ nth s.done i ∧ nth s.done i ≤ s.ms.now ∧ (nth ps i).time ≤ nth s.done i
  time : ∀ i, i < ps.length → nth s.ms.begun i = true → (nth ps i).time ≤ s.ms.now
  ord : ∀ k, k < ps.length → nth s.ms.begun k = true → ∀ i, i < k → rel i k → nth s.ms.begun i = true
  dord : ∀ k, k < ps.length → 0 ≤ nth s.done k → ∀ i, i < k → rel i k → 0 ≤ nth s.done i ∧ nth s.done i ≤ nth s.done k
  sum : colSum s.sent col = begB ps s.ms.begun - (if 0 ≤ s.cur then s.rest else 0)
section
variable {σ : Type} {ps : List Pkt} {ch : MS → σ → Int × Nat × σ} {good : MS → σ → Prop} {rel : Nat → Nat → Prop} {classes col : Nat} {s : RS σ}
theorem Wk.pickup (hg : Fair ps ch good rel) (hs : ∀ p ∈ ps, 1 ≤ p.size) (h : Wk ps classes good rel col s) : Wk ps classes good rel col (pickup ps ch s) := by
  unfold M.pickup
  by_cases hc : 0 ≤ s.cur
  · rw [if_pos hc]; exact h
  · rw [if_neg hc]
    by_cases hr : (ch s.ms s.sg).1 < 0
    · simp only [hr, if_true]
      exact ⟨hg.none _ _ h.good h.blen hr, h.dlen, h.blen, h.slen, h.rlen, fun h0 => by dsimp only at h0; omega, fun i hi ho => h.open_ i hi (by rcases ho with ho | ho; exact .inl ho; dsimp only at ho; omega),
        fun i hi hb hne => h.shut i hi hb (by omega), h.time, h.ord, h.dord, by dsimp only; rw [h.sum, if_neg hc, if_neg (by omega)]⟩
    · simp only [hr, if_false]
      have hi := hg.idx _ _ h.good h.blen (by omega)
      obtain ⟨w1, w2⟩ := hg.waits _ _ h.good h.blen (by omega)
      have w3 := hg.ord _ _ h.good h.blen (by omega)
      have hgs := hg.some _ _ h.good h.blen (by omega)
      generalize hj : (ch s.ms s.sg).1 = j at hr hi w1 w2 w3 hgs ⊢
      have hjn : j.toNat < ps.length := by omega
      have hbs : ∀ i, nth (s.ms.begun.set j.toNat true) i = true ↔ i = j.toNat ∨ nth s.ms.begun i = true := fun i => by
        by_cases e : j.toNat = i
        · subst e; rw [nth_set_self (by rw [h.blen]; exact hjn)]; simp
        · rw [nth_set_ne e]; constructor
          · exact .inr
          · rintro (e2 | h2)
            · exact absurd e2.symm e
            · exact h2
      refine ⟨hgs, h.dlen, by simp [h.blen], h.slen, h.rlen, fun _ => ⟨hi, (hbs _).2 (.inl rfl), hs _ (nth_mem hjn)⟩, fun i hi' ho => ?_, fun i hi' hb hne => ?_, fun i hi' hb => ?_, fun k hk hb i hik hr' => ?_, h.dord, ?_⟩
      · dsimp only at ho ⊢
        apply h.open_ i hi'
        left
        rcases ho with ho | ho
        · cases hb : nth s.ms.begun i with
          | false => rfl
          | true => rw [(hbs i).2 (.inr hb)] at ho; cases ho
        · rw [show i = j.toNat by omega]; exact w1
      · dsimp only at hb hne ⊢
        rcases (hbs i).1 hb with e | hb
        · omega
        · exact h.shut i hi' hb (by omega)
      · dsimp only at hb ⊢
        rcases (hbs i).1 hb with e | hb
        · subst e; exact w2
        · exact h.time i hi' hb
      · dsimp only at hb ⊢
        refine (hbs i).2 (.inr ?_)
        rcases (hbs k).1 hb with e | hb
        · subst e; exact w3 i hik hr'
        · exact h.ord k hk hb i hik hr'
      · dsimp only
        rw [h.sum, begB_set _ _ _ hjn (by rw [h.blen]; exact hjn) w1, if_neg hc, if_pos (by omega)]; omega
theorem Wk.send (hfl : ∀ p ∈ ps, 0 ≤ p.flow ∧ p.flow < classes) (hfree : ∀ ms sg n l, good ms sg → good { ms with now := n, left := l } sg) {t : Nat} (h : Wk ps classes good rel (t + 1) s) (hnow : s.ms.now = t) (hc : 0 ≤ s.cur) (hl : 0 < s.ms.left) :
    Wk ps classes good rel (t + 1) (send ps t s) ∧ colSum (send ps t s).sent (t + 1) = colSum s.sent (t + 1) + (s.ms.left - (send ps t s).ms.left) ∧ 0 ≤ (send ps t s).ms.left ∧ (send ps t s).ms.left < s.ms.left ∧ (send ps t s).ms.now = s.ms.now ∧
      ∀ c u, c < classes → u < t + 1 → nth (nth (send ps t s).sent c) u = nth (nth s.sent c) u := by
  obtain ⟨c1, c2, c3⟩ := h.cur hc
  have hfl' := hfl _ (nth_mem (show s.cur.toNat < ps.length by omega))
  have hn : 1 ≤ (if s.ms.left < s.rest then s.ms.left else s.rest) ∧ (if s.ms.left < s.rest then s.ms.left else s.rest) ≤ s.rest ∧ (if s.ms.left < s.rest then s.ms.left else s.rest) ≤ s.ms.left := by split <;> omega
  unfold M.send
  generalize (if s.ms.left < s.rest then s.ms.left else s.rest) = n at hn ⊢
  have hf : (nth ps s.cur.toNat).flow.toNat < s.sent.length := by rw [h.slen]; omega
  generalize (nth ps s.cur.toNat).flow.toNat = f at hf ⊢
  have hrow := h.rlen _ (nth_mem hf)
  have hcol : colSum (s.sent.set f ((nth s.sent f).set (t + 1) (nth (nth s.sent f) (t + 1) + n))) (t + 1) = colSum s.sent (t + 1) + n := by
    rw [colSum_set _ _ _ _ hf, nth_set_self (by omega)]; omega
  have hsum := h.sum
  rw [if_pos hc] at hsum
  dsimp only
  refine ⟨⟨hfree _ _ s.ms.now _ h.good, ?_, h.blen, by simp [h.slen], ?_, ?_, ?_, ?_, h.time, h.ord, ?_, ?_⟩, by rw [hcol]; omega, by omega, by omega, rfl, ?_⟩
  · dsimp only; split <;> simp [h.dlen]
  · dsimp only
    intro l hl'
    rcases List.mem_or_eq_of_mem_set hl' with h1 | rfl
    · exact h.rlen l h1
    · simp [hrow]
  · dsimp only
    intro h0
    by_cases hz : s.rest - n = 0
    · rw [if_pos hz] at h0; omega
    · rw [if_neg hz]; exact ⟨c1, c2, by omega⟩
  · dsimp only
    intro i hi ho
    by_cases hz : s.rest - n = 0
    · rw [if_pos hz] at ho ⊢
      rcases ho with ho | ho
      · by_cases e : s.cur.toNat = i
        · rw [e, ho] at c2; cases c2
        · rw [nth_set_ne e]; exact h.open_ i hi (.inl ho)
      · omega
    · rw [if_neg hz] at ho ⊢; exact h.open_ i hi ho
  · dsimp only
    intro i hi hb hne
    by_cases hz : s.rest - n = 0
    · rw [if_pos hz] at hne ⊢
      by_cases e : s.cur.toNat = i
      · subst e
        rw [nth_set_self (by rw [h.dlen]; omega)]
        have := h.time _ hi hb
        omega
      · rw [nth_set_ne e]; exact h.shut i hi hb (by omega)
    · rw [if_neg hz] at hne ⊢; exact h.shut i hi hb hne
  · dsimp only
    by_cases hz : s.rest - n = 0
    · rw [if_pos hz]
      intro k hk hd i hik hr
      by_cases e : s.cur.toNat = k
      · subst e
        rw [nth_set_self (by rw [h.dlen]; omega), nth_set_ne (by omega)]
        have := h.shut i (by omega) (h.ord _ hk c2 i hik hr) (by omega)
        omega
      · rw [nth_set_ne e] at hd ⊢
        have h1 := h.dord k hk hd i hik hr
        by_cases e2 : s.cur.toNat = i
        · have := h.open_ i (by omega) (.inr (by omega))
          omega
        · rw [nth_set_ne e2]; exact h1
    · rw [if_neg hz]; exact h.dord
  · dsimp only
    rw [hcol, hsum]
    by_cases hz : s.rest - n = 0
    · rw [if_pos hz, if_neg (by omega)]; omega
    · rw [if_neg hz, if_pos hc]; omega
  · intro c u hc' hu
    by_cases e : f = c
    · subst e; rw [nth_set_self hf, nth_set_ne (by omega)]
    · rw [nth_set_ne e]

/-- the end of a tick: all bytes are gone, or nothing waits -/
theorem Wk.inner (hg : Fair ps ch good rel) (hs : ∀ p ∈ ps, 1 ≤ p.size) (hfl : ∀ p ∈ ps, 0 ≤ p.flow ∧ p.flow < classes) {t : Nat} : ∀ (j : Nat) (s : RS σ), Wk ps classes good rel (t + 1) s → s.ms.now = t → 0 ≤ s.ms.left → s.ms.left ≤ j →
    ∃ s', inner ps ch t j s = s' ∧ Wk ps classes good rel (t + 1) s' ∧ s'.ms.now = t ∧ 0 ≤ s'.ms.left ∧ colSum s'.sent (t + 1) = colSum s.sent (t + 1) + (s.ms.left - s'.ms.left) ∧
      (s'.ms.left = 0 ∨ s'.cur < 0 ∧ (Busy ps ch good → ∀ i, i < ps.length → (nth ps i).time ≤ (t : Int) → nth s'.ms.begun i = true)) ∧ ∀ c u, c < classes → u < t + 1 → nth (nth s'.sent c) u = nth (nth s.sent c) u
  | 0, s, h, hn, h0, hj => ⟨s, rfl, h, hn, h0, by omega, .inl (by omega), fun _ _ _ _ => rfl⟩
  | j + 1, s, h, hn, h0, hj => by
    simp only [M.inner]
    by_cases hl : s.ms.left ≤ 0
    · rw [if_pos hl]
      exact ⟨s, rfl, h, hn, h0, by omega, .inl (by omega), fun _ _ _ _ => rfl⟩
    · rw [if_neg hl]
      have hp := h.pickup hg hs
      obtain ⟨e1, e2, e3, e4⟩ := pickup_same ps ch s
      by_cases hc : (M.pickup ps ch s).cur < 0
      · rw [if_pos hc]
        refine ⟨_, rfl, hp, by rw [e2]; exact hn, by rw [e1]; exact h0, by rw [e1, e3]; omega, .inr ⟨hc, fun hb => ?_⟩, fun c u _ _ => by rw [e3]⟩
        intro i hi ht
        unfold M.pickup at hc ⊢
        by_cases hc0 : 0 ≤ s.cur
        · rw [if_pos hc0] at hc; omega
        · rw [if_neg hc0] at hc ⊢
          by_cases hr : (ch s.ms s.sg).1 < 0
          · simp only [hr, if_true]
            exact hb _ _ h.good h.blen hr i hi (by omega)
          · simp only [hr, if_false] at hc
      · rw [if_neg hc]
        obtain ⟨g1, g2, g3, g4, g5, g6⟩ := hp.send hfl hg.free (by rw [e2]; exact hn) (by omega) (by rw [e1]; omega)
        obtain ⟨s', k1, k2, k3, k4, k5, k6, k7⟩ := Wk.inner hg hs hfl j _ g1 (by rw [g5, e2]; exact hn) g3 (by omega)
        refine ⟨s', k1, k2, k3, k4, ?_, k6, fun c u hc' hu => by rw [k7 c u hc' hu, g6 c u hc' hu, e3]⟩
        rw [k5, g2, e1, e3]; omega
theorem Wk.tick (hg : Fair ps ch good rel) (hs : ∀ p ∈ ps, 1 ≤ p.size) (hfl : ∀ p ∈ ps, 0 ≤ p.flow ∧ p.flow < classes) {t : Nat} {cap : Int} (hcap : 0 ≤ cap) (h : Wk ps classes good rel t s) (hnow : s.ms.now ≤ t) :
    Wk ps classes good rel (t + 1) (tick ps ch cap t s) ∧ (tick ps ch cap t s).ms.now = t ∧ (∀ c u, c < classes → u < t + 1 → nth (nth (tick ps ch cap t s).sent c) u = nth (nth s.sent c) u) ∧
      (Busy ps ch good → colSum (tick ps ch cap t s).sent (t + 1) = min (colSum s.sent t + cap) (pbytes (-1) ((t : Int) + 1) ps)) := by
  have hrow : ∀ l ∈ s.sent, nth (l ++ [nth l t]) (t + 1) = nth l t := fun l hl => by
    have := h.rlen l hl
    unfold nth List.getD
    rw [List.getElem?_append_right (by omega), this]; simp
  have hcol : colSum (s.sent.map fun l => l ++ [nth l t]) (t + 1) = colSum s.sent t := colSum_map _ hrow
  have h1 : Wk ps classes good rel (t + 1) { s with ms := { s.ms with now := t, left := cap }, sent := s.sent.map fun l => l ++ [nth l t] } := by
    refine ⟨hg.free _ _ _ _ h.good, h.dlen, h.blen, by simp [h.slen], fun l hl => ?_, h.cur, h.open_, fun i hi hb hne => ?_, fun i hi hb => ?_, h.ord, h.dord, by dsimp only; rw [hcol]; exact h.sum⟩
    · obtain ⟨l', h2, rfl⟩ := List.mem_map.1 hl
      simp [h.rlen l' h2]
    · have := h.shut i hi hb hne
      dsimp only; omega
    · have := h.time i hi hb
      dsimp only; omega
  obtain ⟨s', k1, k2, k3, k4, k5, k6, k7⟩ := Wk.inner hg hs hfl (t := t) cap.toNat _ h1 rfl hcap (by dsimp only; omega)
  unfold M.tick
  rw [k1]
  refine ⟨k2, k3, fun c u hc hu => ?_, fun hb => ?_⟩
  · rw [k7 c u hc hu]
    dsimp only
    rw [nth_map_lt _ (by rw [h.slen]; exact hc)]
    unfold nth List.getD
    rw [List.getElem?_append_left]
    have := h.rlen _ (nth_mem (xs := s.sent) (k := c) (by rw [h.slen]; exact hc))
    unfold nth List.getD at this
    rw [this]; exact hu
  · dsimp only at k5
    rw [hcol] at k5
    have hle := begB_le (t := (t : Int)) ps s'.ms.begun k2.blen (fun p hp => by have := hs p hp; omega) (fun i hi hb' => by have := k2.time i hi hb'; omega)
    have hsum := k2.sum
    rcases k6 with h0 | ⟨hc, hall⟩
    · have hrest : 0 ≤ (if 0 ≤ s'.cur then s'.rest else 0) := by
        split
        · rename_i hc; have := (k2.cur hc).2.2; omega
        · omega
      rw [k5, h0]; omega
    · rw [if_neg (by omega)] at hsum
      have heq := begB_eq (t := (t : Int)) ps s'.ms.begun k2.blen (fun i hi => ⟨fun hb' => by have := k2.time i hi hb'; omega, hall hb i hi⟩)
      rw [hsum, heq] at k5 ⊢
      omega
theorem Wk.start {sg : σ} (hg : good (start ps classes sg).ms sg) : Wk ps classes good rel 0 (start ps classes sg) := by
  refine ⟨hg, by simp [M.start], by simp [M.start], by simp [M.start], fun l hl => ?_, fun h => by simp [M.start] at h, fun i hi _ => by simp only [M.start]; rw [nth_replicate hi], fun i hi hb => ?_, fun i hi hb => ?_, fun k hk hb => ?_, fun k hk hd => ?_, ?_⟩
  · have : l = [0] := List.eq_of_mem_replicate hl
    simp [this]
  · simp only [M.start] at hb; rw [nth_replicate hi] at hb; cases hb
  · simp only [M.start] at hb; rw [nth_replicate hi] at hb; cases hb
  · simp only [M.start] at hb; rw [nth_replicate hk] at hb; cases hb
  · simp only [M.start] at hd; rw [nth_replicate hk] at hd; omega
  · show colSum (List.replicate classes [0]) 0 = begB ps (List.replicate ps.length false) - 0
    rw [begB_none]
    clear hg
    induction classes with
    | zero => rfl
    | succ n ih => rw [List.replicate_succ, colSum, ih]; rfl
/-- what a run is: all of Wk, and the sums of all classes together -/
theorem work_run (hg : Fair ps ch good rel) (hs : ∀ p ∈ ps, 1 ≤ p.size) (hfl : ∀ p ∈ ps, 0 ≤ p.flow ∧ p.flow < classes) {cap : Int} (hcap : 0 ≤ cap) {sg : σ} (hst : good (start ps classes sg).ms sg) : ∀ (m : Nat),
    Wk ps classes good rel m (mrun ps ch cap classes m sg) ∧ (mrun ps ch cap classes m sg).ms.now ≤ m ∧
      (∀ u, u < m → ∀ c, c < classes → nth (nth (mrun ps ch cap classes m sg).sent c) u = nth (nth (mrun ps ch cap classes u sg).sent c) u) ∧
      (Busy ps ch good → ∀ u, u < m → colSum (mrun ps ch cap classes (u + 1) sg).sent (u + 1) = min (colSum (mrun ps ch cap classes u sg).sent u + cap) (pbytes (-1) ((u : Int) + 1) ps))
  | 0 => ⟨Wk.start hst, by simp [mrun, ticksFrom, start], fun u hu => by omega, fun _ u hu => by omega⟩
  | m + 1 => by
    obtain ⟨h1, h2, h3, h4⟩ := work_run hg hs hfl hcap hst m
    have e : mrun ps ch cap classes (m + 1) sg = tick ps ch cap m (mrun ps ch cap classes m sg) := by
      unfold mrun; rw [ticksFrom_snoc, Nat.zero_add]
    obtain ⟨g1, g2, g3, g4⟩ := h1.tick hg hs hfl hcap h2
    rw [e]
    refine ⟨g1, by rw [g2]; omega, fun u hu c hc => ?_, fun hb u hu => ?_⟩
    · rw [g3 c u hc (by omega)]
      by_cases hum : u = m
      · subst hum; rfl
      · exact h3 u (by omega) c hc
    · by_cases hum : u = m
      · subst hum; rw [e]; exact g4 hb
      · exact h4 hb u (by omega)
theorem colSum_congr : ∀ {a b : List (List Int)} {u : Nat}, a.length = b.length → (∀ c, c < a.length → nth (nth a c) u = nth (nth b c) u) → colSum a u = colSum b u
  | [], [], _, _, _ => rfl
  | [], _ :: _, _, h, _ => by simp at h
  | _ :: _, [], _, h, _ => by simp at h
  | x :: xs, y :: ys, u, hl, h => by
    have h0 := h 0 (by simp)
    have := colSum_congr (a := xs) (b := ys) (u := u) (by simpa using hl) (fun c hc => h (c + 1) (by simpa using hc))
    simp only [colSum, this]
    rw [show nth x u = nth y u from h0]
/-- the sums of all classes, by ticks -/
def wsum (cap : Int) (ps : List Pkt) : Nat → Int
  | 0 => 0
  | t + 1 => min (wsum cap ps t + cap) (pbytes (-1) ((t : Int) + 1) ps)
theorem work_sum (hg : Fair ps ch good rel) (hs : ∀ p ∈ ps, 1 ≤ p.size) (hfl : ∀ p ∈ ps, 0 ≤ p.flow ∧ p.flow < classes) {cap : Int} (hcap : 0 ≤ cap) {sg : σ} (hst : good (start ps classes sg).ms sg) (hb : Busy ps ch good) {m u : Nat} (hu : u ≤ m) :
    colSum (mrun ps ch cap classes m sg).sent u = wsum cap ps u := by
  have key : ∀ u, colSum (mrun ps ch cap classes u sg).sent u = wsum cap ps u := by
    intro u
    induction u with
    | zero =>
      show colSum (List.replicate classes [0]) 0 = 0
      clear hfl hst
      induction classes with
      | zero => rfl
      | succ n ih => rw [List.replicate_succ, colSum, ih]; rfl
    | succ u ih =>
      rw [(work_run hg hs hfl hcap hst (u + 1)).2.2.2 hb u (by omega), ih]; rfl
  by_cases h : u = m
  · subst h; exact key u
  · have h1 := work_run hg hs hfl hcap hst m
    have h2 := work_run hg hs hfl hcap hst u
    rw [← key u]
    refine colSum_congr (by rw [h1.1.slen, h2.1.slen]) (fun c hc => h1.2.2.1 u (by omega) c (by rw [h1.1.slen] at hc; exact hc))
end
/-! ### first in, first out -/
/-- all before 'before' have been begun -/
def goodB (ps : List Pkt) (ms : MS) : Prop := ms.before ≤ ps.length ∧ ∀ i, i < ms.before → nth ms.begun i = true
theorem skipTo_begun {l : List Bool} : ∀ {b i : Nat}, b ≤ i → i < skipTo l b → nth l i = true := by
  intro b i hb hi
  unfold skipTo at hi
  have key : ∀ (r : List Bool) (j : Nat), j < (r.takeWhile id).length → nth r j = true := by
    intro r
    induction r with
    | nil => intro j h; simp at h
    | cons x r ih =>
      intro j h
      cases x with
      | false => simp at h
      | true =>
        cases j with
        | zero => rfl
        | succ j => exact ih j (by simpa using h)
  have := key (l.drop b) (i - b) (by omega)
  unfold nth List.getD at this ⊢
  rw [List.getElem?_drop, show b + (i - b) = i by omega] at this
  exact this
theorem takeWhile_stop' : ∀ (l : List Bool), (l.takeWhile id).length < l.length → nth l (l.takeWhile id).length = false
  | [], h => by simp at h
  | false :: l, h => by simp [nth]
  | true :: l, h => by
    simp only [List.takeWhile_cons, id, if_true, List.length_cons] at h ⊢
    have := takeWhile_stop' l (by omega)
    simpa [nth, List.getD] using this
theorem skipTo_stop' {l : List Bool} {b : Nat} (h : skipTo l b < l.length) : nth l (skipTo l b) = false := by
  unfold skipTo at h ⊢
  have := takeWhile_stop' (l.drop b) (by rw [List.length_drop]; omega)
  unfold nth List.getD at this ⊢
  rw [List.getElem?_drop] at this
  exact this
theorem goodB.skip {ps : List Pkt} {ms : MS} (h : goodB ps ms) (hl : ms.begun.length = ps.length) : skipTo ms.begun ms.before ≤ ps.length ∧ ∀ i, i < skipTo ms.begun ms.before → nth ms.begun i = true := by
  refine ⟨by rw [← hl]; exact skipTo_le (by rw [hl]; exact h.1), fun i hi => ?_⟩
  by_cases h1 : i < ms.before
  · exact h.2 i h1
  · exact skipTo_begun (by omega) hi
/-- First: what it says -/
theorem firstR_some {ps : List Pkt} {ms : MS} (h : goodB ps ms) (hl : ms.begun.length = ps.length) (h0 : 0 ≤ firstR ps ms) :
    (firstR ps ms).toNat < ps.length ∧ nth ms.begun (firstR ps ms).toNat = false ∧ (nth ps (firstR ps ms).toNat).time ≤ ms.now ∧ ∀ i, i < (firstR ps ms).toNat → nth ms.begun i = true := by
  have hs := h.skip hl
  unfold firstR at h0 ⊢
  dsimp only at h0 ⊢
  split at h0
  · rename_i hh
    rw [if_pos hh]
    simp only [Int.toNat_natCast]
    exact ⟨hh.1, skipTo_stop' (by rw [hl]; exact hh.1), hh.2, hs.2⟩
  · omega
theorem firstR_none {ps : List Pkt} {ms : MS} (hsort : ps.Pairwise fun a b => a.time ≤ b.time) (h : goodB ps ms) (hl : ms.begun.length = ps.length) (h0 : firstR ps ms < 0) : ∀ i, i < ps.length → (nth ps i).time ≤ ms.now → nth ms.begun i = true := by
  have hs := h.skip hl
  unfold firstR at h0
  dsimp only at h0
  split at h0
  · omega
  · rename_i hh
    intro i hi ht
    by_cases h1 : i < skipTo ms.begun ms.before
    · exact hs.2 i h1
    · exfalso
      apply hh
      refine ⟨by omega, ?_⟩
      by_cases e : skipTo ms.begun ms.before = i
      · rw [e]; exact ht
      · have := List.pairwise_iff_getElem.1 hsort (skipTo ms.begun ms.before) i (by omega) hi (by omega)
        rw [nth_eq (by omega)]
        rw [nth_eq hi] at ht
        omega
def goodFB (ps : List Pkt) (ms : MS) (_ : Unit) : Prop := goodB ps ms
theorem goodFB_fair (ps : List Pkt) : Fair ps (fifo ps) (goodFB ps) (fun _ _ => True) where
  free := fun _ _ _ _ h => h
  idx := fun ms _ _ _ _ => (firstR_lt ps ms).1
  some := fun ms _ h hb h0 => by
    have hs := goodB.skip h hb
    refine ⟨hs.1, fun i hi => ?_⟩
    dsimp only [fifo] at hi ⊢
    by_cases e : (firstR ps ms).toNat = i
    · subst e
      have := (firstR_lt ps ms).1
      dsimp only [fifo] at h0
      rw [nth_set_self (by omega)]
    · rw [nth_set_ne e]; exact hs.2 i hi
  none := fun ms _ h hb _ => by
    have hs := goodB.skip h hb
    exact ⟨hs.1, hs.2⟩
  waits := fun ms _ h hb h0 => by
    have := firstR_some h hb h0
    exact ⟨this.2.1, this.2.2.1⟩
  ord := fun ms _ h hb h0 i hi _ => (firstR_some h hb h0).2.2.2 i hi
theorem goodFB_busy {ps : List Pkt} (hsort : ps.Pairwise fun a b => a.time ≤ b.time) : Busy ps (fifo ps) (goodFB ps) := fun _ _ h hb h0 => firstR_none hsort h hb h0
theorem goodFB_start (ps : List Pkt) (classes : Nat) : goodFB ps (start ps classes ()).ms () := ⟨Nat.zero_le _, fun i hi => by simp [start] at hi⟩
/-! ### what a line guarantees -/
/-- bytes that have arrived, tick by tick -/
def cumL (flow : Int) (ps : List Pkt) (n : Nat) : List Int := (List.range n).map fun (t : Nat) => pbytes flow (t : Int) ps
/-- the sums of all classes -/
def totL (sent : List (List Int)) (n : Nat) : List Int := (List.range n).map fun (t : Nat) => colSum sent t
theorem range_map_snoc {α : Type} (f : Nat → α) (n : Nat) : (List.range (n + 1)).map f = (List.range n).map f ++ [f n] := by rw [List.range_succ]; simp
theorem range_map_nth {α : Type} [Inhabited α] (f : Nat → α) {n i : Nat} (h : i < n) : nth ((List.range n).map f) i = f i := by
  rw [nth_eq (by simpa using h)]; simp
def oneP (p : Pkt) : Pkt := { p with flow := 0 }
/-- a curve's value, as the references have it -/
def atR (xs : List Int) (per inc t : Int) : Int :=
  if t < 0 ∨ ((xs.length : Int) ≤ t ∧ (per < 1 ∨ (xs.length : Int) < per)) then -1
  else if t < xs.length then nth xs t.toNat
  else if nth xs (t - ((t - xs.length) / per + 1) * per).toNat = 4611686018427387904 then 4611686018427387904
  else nth xs (t - ((t - xs.length) / per + 1) * per).toNat + ((t - xs.length) / per + 1) * inc
def dval (d : Int) : Int := if d < 0 then 1000 else d
end Go.Proofs.Ytnaeefefggmomaa.M

/- The references' line, plain; and that it does what the machine does, whatever the choice. No condition. -/
namespace Go.Proofs.Ytnaeefefggmomaa.M
open Go Go.Proofs.Ytnaeefefggmomaa.K

/-- the first number from a place on of which something is said -/
def findFrom (P : Nat → Bool) : Nat → Nat → Int
  | 0, _ => -1
  | k + 1, i => if P i then i else findFrom P k (i + 1)
def findN (P : Nat → Bool) (n : Nat) : Int := findFrom P n 0
theorem findFrom_cases (P : Nat → Bool) : ∀ (k a : Nat), (∃ i, a ≤ i ∧ i < a + k ∧ findFrom P k a = i ∧ P i = true ∧ ∀ j, a ≤ j → j < i → P j = false) ∨ (findFrom P k a = -1 ∧ ∀ j, a ≤ j → j < a + k → P j = false)
  | 0, a => .inr ⟨rfl, fun j h1 h2 => by omega⟩
  | k + 1, a => by
    simp only [findFrom]
    cases hp : P a with
    | true =>
      left
      exact ⟨a, Nat.le_refl _, by omega, by simp, hp, fun j h1 h2 => by omega⟩
    | false =>
      rcases findFrom_cases P k (a + 1) with ⟨i, h1, h2, h3, h4, h5⟩ | ⟨h1, h2⟩
      · left
        refine ⟨i, by omega, by omega, by simpa using h3, h4, fun j h6 h7 => ?_⟩
        by_cases e : j = a
        · subst e; exact hp
        · exact h5 j (by omega) h7
      · right
        refine ⟨by simpa using h1, fun j h6 h7 => ?_⟩
        by_cases e : j = a
        · subst e; exact hp
        · exact h2 j (by omega) (by omega)
theorem findN_cases (P : Nat → Bool) (n : Nat) : (∃ i, i < n ∧ findN P n = i ∧ P i = true ∧ ∀ j, j < i → P j = false) ∨ (findN P n = -1 ∧ ∀ j, j < n → P j = false) := by
  rcases findFrom_cases P n 0 with ⟨i, h1, h2, h3, h4, h5⟩ | ⟨h1, h2⟩
  · exact .inl ⟨i, by omega, h3, h4, fun j hj => h5 j (by omega) hj⟩
  · exact .inr ⟨h1, fun j hj => h2 j (by omega) (by omega)⟩
theorem findN_some {P : Nat → Bool} {n i : Nat} (hi : i < n) (hP : P i = true) (h : ∀ j, j < i → P j = false) : findN P n = i := by
  rcases findN_cases P n with ⟨k, h1, h2, h3, h4⟩ | ⟨h1, h2⟩
  · rcases Nat.lt_trichotomy i k with h5 | h5 | h5
    · rw [h4 i h5] at hP; cases hP
    · subst h5; exact h2
    · rw [h k h5] at h3; cases h3
  · rw [h2 i hi] at hP; cases hP
theorem findN_none {P : Nat → Bool} {n : Nat} (h : ∀ j, j < n → P j = false) : findN P n = -1 := by
  rcases findN_cases P n with ⟨k, h1, h2, h3, h4⟩ | ⟨h1, h2⟩
  · rw [h k h1] at h3; cases h3
  · exact h1

/-- the state of a reference's line -/
structure St where
  time : Nat
  given : List Int
  now : Int
  done : List Int
  sent : List (List Int)
def waits (ps : List Pkt) (st : St) (i : Nat) : Bool := decide ((nth ps i).time ≤ (st.time : Int)) && (nth st.given i == 0) && (st.now != (i : Int))
def firstW (ps : List Pkt) (st : St) (cls : Int) : Int := findN (fun i => (cls == -1 || (nth ps i).flow == cls) && waits ps st i) ps.length
def rbegin (st : St) : St := { st with sent := st.sent.map fun l => l ++ [nth l (l.length - 1)] }
def rsendN (ps : List Pkt) (most : Int) (st : St) : Int :=
  if (nth ps st.now.toNat).size - nth st.given st.now.toNat < most then (nth ps st.now.toNat).size - nth st.given st.now.toNat else most
def rsend (ps : List Pkt) (most : Int) (st : St) : St :=
  let i := st.now.toNat
  let n := rsendN ps most st
  let f := (nth ps i).flow.toNat
  let l := nth st.sent f
  let g := nth st.given i + n
  { st with given := st.given.set i g, sent := st.sent.set f (l.set (l.length - 1) (nth l (l.length - 1) + n)),
            done := if g = (nth ps i).size then st.done.set i st.time else st.done, now := if g = (nth ps i).size then -1 else st.now }
section
variable {τ : Type} (ps : List Pkt) (rc : St → τ → Int × τ)
def rpick (st : St) (g : τ) : Int × τ := if st.now = -1 then rc st g else (st.now, g)
def rinner : Nat → Int → St → τ → St × τ
  | 0, _, st, g => (st, g)
  | k + 1, left, st, g =>
    if left ≤ 0 then (st, g) else
      let r := rpick rc st g
      let st1 := { st with now := r.1 }
      if r.1 = -1 then (st1, r.2) else rinner k (left - rsendN ps left st1) (rsend ps left st1) r.2
def rtick (cap : Int) (st : St) (g : τ) : St × τ :=
  let x := rinner ps rc cap.toNat cap (rbegin st) g
  ({ x.1 with time := x.1.time + 1 }, x.2)
def rticks (cap : Int) : Nat → St → τ → St × τ
  | 0, st, g => (st, g)
  | k + 1, st, g => rticks cap k (rtick ps rc cap st g).1 (rtick ps rc cap st g).2
def rstart (classes : Nat) : St := { time := 0, given := List.replicate ps.length 0, now := -1, done := List.replicate ps.length (-1), sent := List.replicate classes [0] }
def rrun (cap : Int) (classes ticks : Nat) (g : τ) : St := (rticks ps rc cap ticks (rstart ps classes) g).1
end

structure Sm {σ : Type} (ps : List Pkt) (s : RS σ) (st : St) : Prop where
  glen : st.given.length = ps.length
  now : st.now = if s.cur < 0 then -1 else s.cur
  giv : ∀ i, i < ps.length → nth st.given i = if s.cur = i then (nth ps i).size - s.rest else if nth s.ms.begun i = true then (nth ps i).size else 0
  done : st.done = s.done
  sent : st.sent = s.sent
section
variable {σ τ : Type} {ps : List Pkt} {ch : MS → σ → Int × Nat × σ} {good : MS → σ → Prop} {rel : Nat → Nat → Prop} {classes col : Nat} {s : RS σ} {st : St} {g : τ} {rc : St → τ → Int × τ} {ρ : σ → τ → Prop}
theorem Sm.waits (h : Sm ps s st) (hw : Wk ps classes good rel col s) (hs : ∀ p ∈ ps, 1 ≤ p.size) (ht : (st.time : Int) = s.ms.now) {i : Nat} (hi : i < ps.length) : waits ps st i = (decide ((nth ps i).time ≤ s.ms.now) && !nth s.ms.begun i) := by
  have hz := hs _ (nth_mem hi)
  unfold M.waits
  rw [ht, h.giv i hi, h.now]
  by_cases hc : s.cur = i
  · have := (hw.cur (by omega)).2.1
    rw [hc] at this
    simp only [Int.toNat_natCast] at this
    have e : ((if s.cur < 0 then -1 else s.cur) != (i : Int)) = false := by rw [if_neg (show ¬ s.cur < 0 by omega)]; simp [hc]
    rw [e, this]
    simp
  · rw [if_neg hc]
    have hne : ((if s.cur < 0 then -1 else s.cur) != (i : Int)) = true := by
      split
      · simp
      · simpa using hc
    rw [hne]
    cases hb : nth s.ms.begun i with
    | true =>
      have : ((nth ps i).size == 0) = false := by simp; omega
      simp [this]
    | false => simp
/-- what a reference's choice must do beside that of the program -/
def Alike {σ τ : Type} (ps : List Pkt) (ch : MS → σ → Int × Nat × σ) (good : MS → σ → Prop) (rc : St → τ → Int × τ) (ρ : σ → τ → Prop) : Prop :=
  ∀ (ms : MS) (sg : σ) (st : St) (g : τ), good ms sg → ms.begun.length = ps.length → ρ sg g → (st.time : Int) = ms.now → st.now = -1 → (∀ i, i < ps.length → waits ps st i = (decide ((nth ps i).time ≤ ms.now) && !nth ms.begun i)) →
    (rc st g).1 = (if (ch ms sg).1 < 0 then -1 else (ch ms sg).1) ∧ ρ (ch ms sg).2.2 (rc st g).2
theorem Sm.pickup (hg : Fair ps ch good rel) (hs : ∀ p ∈ ps, 1 ≤ p.size) (hal : Alike ps ch good rc ρ) (h : Sm ps s st) (hw : Wk ps classes good rel col s) (hr : ρ s.sg g) (ht : (st.time : Int) = s.ms.now) :
    Sm ps (pickup ps ch s) { st with now := (rpick rc st g).1 } ∧ ρ (pickup ps ch s).sg (rpick rc st g).2 ∧ (rpick rc st g).1 = (if (pickup ps ch s).cur < 0 then -1 else (pickup ps ch s).cur) := by
  unfold M.pickup rpick
  have hnow := h.now
  by_cases hc : 0 ≤ s.cur
  · rw [if_pos hc]
    rw [if_neg (show ¬ s.cur < 0 by omega)] at hnow
    rw [if_neg (by omega)]
    refine ⟨⟨h.glen, ?_, h.giv, h.done, h.sent⟩, hr, ?_⟩
    · dsimp only; rw [if_neg (by omega)]; exact hnow
    · dsimp only; rw [if_neg (by omega)]; exact hnow
  · rw [if_neg hc]
    rw [if_pos (show s.cur < 0 by omega)] at hnow
    rw [if_pos hnow]
    obtain ⟨a1, a2⟩ := hal s.ms s.sg st g hw.good hw.blen hr ht hnow (fun i hi => h.waits hw hs ht hi)
    by_cases hr' : (ch s.ms s.sg).1 < 0
    · simp only [hr', if_true] at a1 ⊢
      refine ⟨⟨h.glen, by dsimp only; rw [if_pos hr', a1], fun i hi => ?_, h.done, h.sent⟩, a2, a1⟩
      dsimp only
      rw [h.giv i hi, if_neg (show ¬ s.cur = (i : Int) by omega), if_neg (show ¬ (ch s.ms s.sg).1 = (i : Int) by omega)]
    · simp only [hr', if_false] at a1 ⊢
      have hi' := hg.idx _ _ hw.good hw.blen (by omega)
      have hwt := hg.waits _ _ hw.good hw.blen (by omega)
      refine ⟨⟨h.glen, by dsimp only; rw [if_neg hr', a1], fun i hi => ?_, h.done, h.sent⟩, a2, a1⟩
      dsimp only
      rw [h.giv i hi, if_neg (show ¬ s.cur = i by omega)]
      by_cases e : (ch s.ms s.sg).1 = i
      · rw [if_pos e]
        rw [e] at hwt ⊢
        simp only [Int.toNat_natCast] at hwt ⊢
        rw [hwt.1]; simp
      · rw [if_neg e, nth_set_ne (by omega)]
theorem Sm.send {t : Nat} (h : Sm ps s st) (hw : Wk ps classes good rel (t + 1) s) (hfl : ∀ p ∈ ps, 0 ≤ p.flow ∧ p.flow < classes) (ht : (st.time : Int) = (t : Int)) (hc : 0 ≤ s.cur) :
    Sm ps (send ps t s) (rsend ps s.ms.left st) ∧ s.ms.left - rsendN ps s.ms.left st = (send ps t s).ms.left := by
  obtain ⟨c1, c2, c3⟩ := hw.cur hc
  have hi : s.cur.toNat < ps.length := by omega
  have hnow : st.now = s.cur := by rw [h.now, if_neg (by omega)]
  have hgiv : nth st.given s.cur.toNat = (nth ps s.cur.toNat).size - s.rest := by rw [h.giv _ hi, if_pos (by omega)]
  have hf : (nth ps s.cur.toNat).flow.toNat < s.sent.length := by rw [hw.slen]; have := hfl _ (nth_mem hi); omega
  have hrow := hw.rlen _ (nth_mem hf)
  have hn : rsendN ps s.ms.left st = if s.ms.left < s.rest then s.ms.left else s.rest := by
    unfold rsendN
    rw [hnow, hgiv]
    split <;> split <;> omega
  unfold rsend M.send
  rw [hn]
  generalize (if s.ms.left < s.rest then s.ms.left else s.rest) = n
  dsimp only
  rw [hnow, hgiv, h.sent]
  have hl : (nth s.sent (nth ps s.cur.toNat).flow.toNat).length - 1 = t + 1 := by omega
  rw [hl]
  have hz : ((nth ps s.cur.toNat).size - s.rest + n = (nth ps s.cur.toNat).size) ↔ s.rest - n = 0 := by omega
  refine ⟨⟨by simp [h.glen], ?_, fun i hi2 => ?_, ?_, rfl⟩, rfl⟩
  · dsimp only
    by_cases e : s.rest - n = 0
    · rw [if_pos (hz.2 e), if_pos e]; rfl
    · rw [if_neg (fun h => e (hz.1 h)), if_neg e, if_neg (by omega)]
  · dsimp only
    by_cases e2 : s.cur.toNat = i
    · subst e2
      rw [nth_set_self (by rw [h.glen]; exact hi), c2]
      by_cases e : s.rest - n = 0
      · rw [if_pos e, if_neg (by omega), if_pos rfl]; omega
      · rw [if_neg e, if_pos (by omega)]; omega
    · rw [nth_set_ne e2, h.giv i hi2, if_neg (show ¬ s.cur = (i : Int) by omega)]
      by_cases e : s.rest - n = 0
      · rw [if_pos e, if_neg (show ¬ (-1 : Int) = (i : Int) by omega)]
      · rw [if_neg e, if_neg (show ¬ s.cur = (i : Int) by omega)]
  · dsimp only
    rw [h.done, ht]
    by_cases e : s.rest - n = 0
    · rw [if_pos (hz.2 e), if_pos e]
    · rw [if_neg (fun h => e (hz.1 h)), if_neg e]
theorem Sm.inner (hg : Fair ps ch good rel) (hs : ∀ p ∈ ps, 1 ≤ p.size) (hfl : ∀ p ∈ ps, 0 ≤ p.flow ∧ p.flow < classes) (hal : Alike ps ch good rc ρ) {t : Nat} : ∀ (j : Nat) (s : RS σ) (st : St) (g : τ), Sm ps s st → Wk ps classes good rel (t + 1) s → ρ s.sg g → st.time = t → s.ms.now = t →
    Sm ps (inner ps ch t j s) (rinner ps rc j s.ms.left st g).1 ∧ ρ (inner ps ch t j s).sg (rinner ps rc j s.ms.left st g).2 ∧ (rinner ps rc j s.ms.left st g).1.time = t
  | 0, s, st, g, h, hw, hr, ht, hn => ⟨h, hr, ht⟩
  | j + 1, s, st, g, h, hw, hr, ht, hn => by
    simp only [M.inner, rinner]
    by_cases hl : s.ms.left ≤ 0
    · rw [if_pos hl, if_pos hl]; exact ⟨h, hr, ht⟩
    · rw [if_neg hl, if_neg hl]
      obtain ⟨p1, p2, p3⟩ := h.pickup hg hs hal hw hr (by omega)
      have hp := hw.pickup hg hs
      obtain ⟨e1, e2, e3, e4⟩ := pickup_same ps ch s
      by_cases hc : (M.pickup ps ch s).cur < 0
      · rw [if_pos hc] at p3 ⊢
        rw [if_pos p3]
        exact ⟨p1, p2, ht⟩
      · rw [if_neg hc] at p3 ⊢
        rw [if_neg (by omega)]
        obtain ⟨q1, q2⟩ := p1.send hp hfl (t := t) (by dsimp only; omega) (by omega)
        obtain ⟨g1, g2, g3, g4, g5, g6⟩ := hp.send hfl hg.free (by rw [e2]; exact hn) (by omega) (by rw [e1]; omega)
        rw [e1] at q1 q2
        rw [q2]
        exact Sm.inner hg hs hfl hal j _ _ _ q1 g1 p2 ht (by rw [g5, e2]; exact hn)
theorem Sm.tick (hg : Fair ps ch good rel) (hs : ∀ p ∈ ps, 1 ≤ p.size) (hfl : ∀ p ∈ ps, 0 ≤ p.flow ∧ p.flow < classes) (hal : Alike ps ch good rc ρ) {t : Nat} {cap : Int} (h : Sm ps s st) (hw : Wk ps classes good rel t s) (hr : ρ s.sg g) (ht : st.time = t) (hnow : s.ms.now ≤ t) :
    Sm ps (tick ps ch cap t s) (rtick ps rc cap st g).1 ∧ ρ (tick ps ch cap t s).sg (rtick ps rc cap st g).2 ∧ (rtick ps rc cap st g).1.time = t + 1 := by
  have h1 : Sm ps { s with ms := { s.ms with now := t, left := cap }, sent := s.sent.map fun l => l ++ [nth l t] } (rbegin st) := by
    refine ⟨h.glen, h.now, h.giv, h.done, ?_⟩
    unfold rbegin
    dsimp only
    rw [h.sent]
    apply List.map_congr_left
    intro l hl
    have := hw.rlen l hl
    rw [show l.length - 1 = t by omega]
  have hrow : ∀ l ∈ s.sent, nth (l ++ [nth l t]) (t + 1) = nth l t := fun l hl => by
    have := hw.rlen l hl
    unfold nth List.getD
    rw [List.getElem?_append_right (by omega), this]; simp
  have h2 : Wk ps classes good rel (t + 1) { s with ms := { s.ms with now := t, left := cap }, sent := s.sent.map fun l => l ++ [nth l t] } := by
    refine ⟨hg.free _ _ _ _ hw.good, hw.dlen, hw.blen, by simp [hw.slen], fun l hl => ?_, hw.cur, hw.open_, fun i hi hb hne => ?_, fun i hi hb => ?_, hw.ord, hw.dord, by dsimp only; rw [colSum_map _ hrow]; exact hw.sum⟩
    · obtain ⟨l', h2, rfl⟩ := List.mem_map.1 hl
      simp [hw.rlen l' h2]
    · have := hw.shut i hi hb hne
      dsimp only; omega
    · have := hw.time i hi hb
      dsimp only; omega
  obtain ⟨k1, k2, k3⟩ := Sm.inner hg hs hfl hal (t := t) cap.toNat _ (rbegin st) g h1 h2 hr ht rfl
  unfold M.tick rtick
  dsimp only at k1 k2 k3 ⊢
  exact ⟨⟨k1.glen, k1.now, k1.giv, k1.done, k1.sent⟩, k2, by omega⟩
end
/-! ### first in, first out -/
def fifoR (ps : List Pkt) (st : St) (_ : Unit) : Int × Unit := (firstW ps st (-1), ())
end Go.Proofs.Ytnaeefefggmomaa.M

/- What stays true in a reference's run, plain. No condition. -/
namespace Go.Proofs.Ytnaeefefggmomaa.M
open Go Go.Proofs.Ytnaeefefggmomaa.K

structure RInv (ps : List Pkt) (classes len : Nat) (B : Int) (st : St) : Prop where
  glen : st.given.length = ps.length
  dlen : st.done.length = ps.length
  slen : st.sent.length = classes
  rows : ∀ l ∈ st.sent, l.length = len ∧ ∀ x ∈ l, 0 ≤ x ∧ x ≤ B
  now : st.now = -1 ∨ (0 ≤ st.now ∧ st.now < ps.length ∧ nth st.given st.now.toNat < (nth ps st.now.toNat).size)
  giv : ∀ i, i < ps.length → 0 ≤ nth st.given i ∧ nth st.given i ≤ (nth ps i).size
section
variable {ps : List Pkt} {classes len : Nat} {B : Int} {st : St}
theorem RInv.mono {B' : Int} (h : RInv ps classes len B st) (hb : B ≤ B') : RInv ps classes len B' st :=
  ⟨h.glen, h.dlen, h.slen, fun l hl => ⟨(h.rows l hl).1, fun x hx => by have := (h.rows l hl).2 x hx; omega⟩, h.now, h.giv⟩
theorem RInv.start (hs : ∀ p ∈ ps, 1 ≤ p.size) : RInv ps classes 1 0 (rstart ps classes) := by
  refine ⟨by simp [rstart], by simp [rstart], by simp [rstart], fun l hl => ?_, .inl rfl, fun i hi => ?_⟩
  · have : l = [0] := List.eq_of_mem_replicate hl
    subst this
    exact ⟨rfl, fun x hx => by simp at hx; omega⟩
  · have := hs _ (nth_mem hi)
    simp only [rstart]
    rw [nth_replicate hi]; omega
theorem RInv.begin (h : RInv ps classes len B st) (hl : 0 < len) : RInv ps classes (len + 1) B (rbegin st) := by
  refine ⟨h.glen, h.dlen, by simp [rbegin, h.slen], fun l hl' => ?_, h.now, h.giv⟩
  obtain ⟨l', h1, rfl⟩ := List.mem_map.1 hl'
  have h2 := h.rows l' h1
  refine ⟨by simp [h2.1], fun x hx => ?_⟩
  rcases List.mem_append.1 hx with hx | hx
  · exact h2.2 x hx
  · obtain rfl : x = nth l' (l'.length - 1) := by simpa using hx
    exact h2.2 _ (nth_mem (by omega))
theorem RInv.tick (h : RInv ps classes len B st) : RInv ps classes len B { st with time := st.time + 1 } := ⟨h.glen, h.dlen, h.slen, h.rows, h.now, h.giv⟩
/-- a choice of what waits -/
def Waiting {τ : Type} (ps : List Pkt) (rc : St → τ → Int × τ) : Prop := ∀ st g, (rc st g).1 = -1 ∨ (0 ≤ (rc st g).1 ∧ (rc st g).1 < ps.length ∧ waits ps st (rc st g).1.toNat = true)
theorem RInv.pick {τ : Type} {rc : St → τ → Int × τ} {g : τ} (h : RInv ps classes len B st) (hs : ∀ p ∈ ps, 1 ≤ p.size) (hrc : Waiting ps rc) : RInv ps classes len B { st with now := (rpick rc st g).1 } := by
  refine ⟨h.glen, h.dlen, h.slen, h.rows, ?_, h.giv⟩
  unfold rpick
  split
  · rcases hrc st g with h1 | ⟨h1, h2, h3⟩
    · exact .inl h1
    · refine .inr ⟨h1, h2, ?_⟩
      unfold waits at h3
      simp only [Bool.and_eq_true, beq_iff_eq] at h3
      have := hs _ (nth_mem (xs := ps) (k := (rc st g).1.toNat) (by omega))
      dsimp only
      omega
  · exact h.now
theorem RInv.send (h : RInv ps classes len B st) (hfl : ∀ p ∈ ps, 0 ≤ p.flow ∧ p.flow < classes) (hl : 0 < len) (hn : st.now ≠ -1) {most : Int} (hm : 0 < most) :
    RInv ps classes len (B + rsendN ps most st) (rsend ps most st) ∧ 1 ≤ rsendN ps most st ∧ rsendN ps most st ≤ most := by
  obtain ⟨n1, n2, n3⟩ := h.now.resolve_left hn
  have hi : st.now.toNat < ps.length := by omega
  have hf : (nth ps st.now.toNat).flow.toNat < st.sent.length := by rw [h.slen]; have := hfl _ (nth_mem hi); omega
  have hrow := h.rows _ (nth_mem hf)
  have hg := h.giv _ hi
  have hb : 1 ≤ rsendN ps most st ∧ rsendN ps most st ≤ most ∧ nth st.given st.now.toNat + rsendN ps most st ≤ (nth ps st.now.toNat).size := by unfold rsendN; split <;> omega
  have hlast : 0 ≤ nth (nth st.sent (nth ps st.now.toNat).flow.toNat) ((nth st.sent (nth ps st.now.toNat).flow.toNat).length - 1) ∧ nth (nth st.sent (nth ps st.now.toNat).flow.toNat) ((nth st.sent (nth ps st.now.toNat).flow.toNat).length - 1) ≤ B := hrow.2 _ (nth_mem (by omega))
  refine ⟨?_, hb.1, hb.2.1⟩
  unfold rsend
  generalize rsendN ps most st = n at hb ⊢
  dsimp only
  refine ⟨by simp [h.glen], ?_, by simp [h.slen], fun l hl' => ?_, ?_, fun i hi2 => ?_⟩
  · dsimp only; split <;> simp [h.dlen]
  · rcases List.mem_or_eq_of_mem_set hl' with h1 | rfl
    · have := h.rows l h1
      exact ⟨this.1, fun x hx => by have := this.2 x hx; omega⟩
    · refine ⟨by simp [hrow.1], fun x hx => ?_⟩
      rcases List.mem_or_eq_of_mem_set hx with h2 | rfl
      · have := hrow.2 x h2; omega
      · omega
  · dsimp only
    by_cases e : nth st.given st.now.toNat + n = (nth ps st.now.toNat).size
    · rw [if_pos e]; exact .inl rfl
    · rw [if_neg e]
      refine .inr ⟨n1, n2, ?_⟩
      rw [nth_set_self (by rw [h.glen]; exact hi)]; omega
  · dsimp only
    by_cases e : st.now.toNat = i
    · subst e; rw [nth_set_self (by rw [h.glen]; exact hi)]; omega
    · rw [nth_set_ne e]; exact h.giv i hi2
end
end Go.Proofs.Ytnaeefefggmomaa.M

/- What the line answers, plain: errors and runs; queues. No condition. -/
namespace Go.Proofs.Ytnaeefefggmomaa.M
open Go Go.Proofs.Ytnaeefefggmomaa.K

/-- slices of packets, and three numbers, in a slice -/
structure SlP where
  a : Option Addr
  cap : Nat
  xs : List Pkt
instance instSlP : Inhabited SlP := ⟨⟨none, 0, []⟩⟩
def encL (s : SlP) : List Value := [.slice s.a s.xs.length s.cap]
def enc3 (x : Int × Int × Int) : List Value := [.int .i64 x.1, .int .i64 x.2.1, .int .i64 x.2.2]
def enc2 (x : Int × Int) : List Value := [.int .i64 x.1, .int .i64 x.2]
def lrunE (cap classes ticks : Int) (ps : List Pkt) : Int := if validate ps ≠ 0 then validate ps else checkE cap classes ticks ps
def lineOut (cap classes ticks : Int) (ps : List Pkt) : List Int × List (List Int) :=
  if lrunE cap classes ticks ps ≠ 0 then ([], []) else ((mrun ps (fifo ps) cap classes.toNat ticks.toNat ()).done, (mrun ps (fifo ps) cap classes.toNat ticks.toNat ()).sent)
theorem lrunE_ok {cap classes ticks : Int} {ps : List Pkt} (h : lrunE cap classes ticks ps = 0) : Ok ps ∧ validate ps = 0 ∧ checkE cap classes ticks ps = 0 ∧ 1 ≤ cap ∧ cap ≤ 4000 ∧ 1 ≤ classes ∧ classes ≤ 6 ∧ 0 ≤ ticks ∧ ticks ≤ 2000 ∧ (∀ p ∈ ps, 1 ≤ p.size ∧ p.size ≤ 1500) ∧ ∀ p ∈ ps, 0 ≤ p.flow ∧ p.flow < classes := by
  unfold lrunE at h
  split at h
  · rename_i hv; exact absurd h hv
  · rename_i hv
    have hv : validate ps = 0 := by omega
    have hok := (validate_ok ps).1 hv
    obtain ⟨h1, h2⟩ := checkE_ok h
    unfold BadC at h1
    refine ⟨hok, hv, h, by omega, by omega, by omega, by omega, by omega, by omega, fun p hp => by have := hok.at hp; omega, fun p hp => by have := hok.at hp; have := h2 p hp; omega⟩
/-! ### queues -/
def selSum (cls t : Int) : Nat → List (List Int) → Int
  | _, [] => 0
  | c, l :: ls => (if (c : Int) ≠ cls ∧ cls ≠ -1 then 0 else nth l t.toNat) + selSum cls t (c + 1) ls
end Go.Proofs.Ytnaeefefggmomaa.M

/- What a reference's line does where its choice looks at what is left of a tick, plain. No condition. -/
namespace Go.Proofs.Ytnaeefefggmomaa.M
open Go Go.Proofs.Ytnaeefefggmomaa.K

section
variable {τ : Type} (ps : List Pkt) (rc : Int → St → τ → Int × τ)
def rpickL (left : Int) (st : St) (g : τ) : Int × τ := if st.now = -1 then rc left st g else (st.now, g)
def rinnerL : Nat → Int → St → τ → St × τ
  | 0, _, st, g => (st, g)
  | k + 1, left, st, g =>
    if left ≤ 0 then (st, g) else
      let r := rpickL rc left st g
      let st1 := { st with now := r.1 }
      if r.1 = -1 then (st1, r.2) else rinnerL k (left - rsendN ps left st1) (rsend ps left st1) r.2
def rtickL (cap : Int) (st : St) (g : τ) : St × τ :=
  let x := rinnerL ps rc cap.toNat cap (rbegin st) g
  ({ x.1 with time := x.1.time + 1 }, x.2)
def rticksL (cap : Int) : Nat → St → τ → St × τ
  | 0, st, g => (st, g)
  | k + 1, st, g => rticksL cap k (rtickL ps rc cap st g).1 (rtickL ps rc cap st g).2
def rrunL (cap : Int) (classes ticks : Nat) (g : τ) : St := (rticksL ps rc cap ticks (rstart ps classes) g).1
end

section
variable {σ τ : Type} {ps : List Pkt} {ch : MS → σ → Int × Nat × σ} {good : MS → σ → Prop} {rel : Nat → Nat → Prop} {classes col : Nat} {s : RS σ} {st : St} {g : τ} {rc : Int → St → τ → Int × τ} {ρ : σ → τ → Prop}
/-- what a reference's choice must do beside that of the program -/
def AlikeL {σ τ : Type} (ps : List Pkt) (ch : MS → σ → Int × Nat × σ) (good : MS → σ → Prop) (rc : Int → St → τ → Int × τ) (ρ : σ → τ → Prop) : Prop :=
  ∀ (ms : MS) (sg : σ) (st : St) (g : τ), good ms sg → ms.begun.length = ps.length → ρ sg g → (st.time : Int) = ms.now → st.now = -1 → (∀ i, i < ps.length → M.waits ps st i = (decide ((nth ps i).time ≤ ms.now) && !nth ms.begun i)) →
    (rc ms.left st g).1 = (if (ch ms sg).1 < 0 then -1 else (ch ms sg).1) ∧ ρ (ch ms sg).2.2 (rc ms.left st g).2
end
section
variable {ps : List Pkt} {classes len : Nat} {B : Int} {st : St}
/-- a choice of what waits -/
def WaitingL {τ : Type} (ps : List Pkt) (rc : Int → St → τ → Int × τ) : Prop := ∀ l st g, (rc l st g).1 = -1 ∨ (0 ≤ (rc l st g).1 ∧ (rc l st g).1 < ps.length ∧ M.waits ps st (rc l st g).1.toNat = true)
end
end Go.Proofs.Ytnaeefefggmomaa.M

/- Choices by classes, plain: the first packet of a class that waits; weighted round robin. No condition. -/
namespace Go.Proofs.Ytnaeefefggmomaa.M
open Go Go.Proofs.Ytnaeefefggmomaa.K

/-- the first packet of a class that waits -/
def nextP (ps : List Pkt) (ms : MS) (cls : Int) (i : Nat) : Bool := decide ((nth ps i).time ≤ ms.now) && !nth ms.begun i && (nth ps i).flow == cls
def nextW (ps : List Pkt) (ms : MS) (cls : Int) : Int := findN (nextP ps ms cls) ps.length
theorem nextP_iff {ps : List Pkt} {ms : MS} {cls : Int} {i : Nat} : nextP ps ms cls i = true ↔ (nth ps i).time ≤ ms.now ∧ nth ms.begun i = false ∧ (nth ps i).flow = cls := by
  unfold nextP
  simp only [Bool.and_eq_true, decide_eq_true_eq, Bool.not_eq_true', beq_iff_eq, and_assoc]
theorem nextW_some {ps : List Pkt} {ms : MS} {cls : Int} (hsort : ps.Pairwise fun a b => a.time ≤ b.time) (h0 : 0 ≤ nextW ps ms cls) :
    (nextW ps ms cls).toNat < ps.length ∧ nth ms.begun (nextW ps ms cls).toNat = false ∧ (nth ps (nextW ps ms cls).toNat).time ≤ ms.now ∧ (nth ps (nextW ps ms cls).toNat).flow = cls ∧
      ∀ j, j < (nextW ps ms cls).toNat → (nth ps j).flow = cls → nth ms.begun j = true := by
  unfold nextW at h0 ⊢
  rcases findN_cases (nextP ps ms cls) ps.length with ⟨i, h1, h2, h3, h4⟩ | ⟨h1, _⟩
  · rw [h2, Int.toNat_natCast]
    obtain ⟨a1, a2, a3⟩ := nextP_iff.1 h3
    refine ⟨h1, a2, a1, a3, fun j hj hf => ?_⟩
    have h5 := h4 j hj
    cases hb : nth ms.begun j with
    | true => rfl
    | false =>
      have ht := List.pairwise_iff_getElem.1 hsort j i (by omega) h1 hj
      rw [← nth_eq (by omega), ← nth_eq h1] at ht
      rw [nextP_iff.2 ⟨by omega, hb, hf⟩] at h5; cases h5
  · omega
theorem nextW_lt (ps : List Pkt) (ms : MS) (cls : Int) : nextW ps ms cls < ps.length ∧ -1 ≤ nextW ps ms cls := by
  unfold nextW
  rcases findN_cases (nextP ps ms cls) ps.length with ⟨i, h1, h2, _, _⟩ | ⟨h1, _⟩
  · omega
  · omega
theorem nextW_none {ps : List Pkt} {ms : MS} {cls : Int} (h0 : nextW ps ms cls < 0) {j : Nat} (hj : j < ps.length) (ht : (nth ps j).time ≤ ms.now) (hf : (nth ps j).flow = cls) : nth ms.begun j = true := by
  unfold nextW at h0
  rcases findN_cases (nextP ps ms cls) ps.length with ⟨i, h1, h2, _, _⟩ | ⟨_, h2⟩
  · omega
  · have := h2 j hj
    cases hb : nth ms.begun j with
    | true => rfl
    | false => rw [nextP_iff.2 ⟨ht, hb, hf⟩] at this; cases this
/-! ### weighted round robin -/
def robinGo (nx : Int → Int) (w : List Int) : Nat → Nat → Int → Int × (Nat × Int)
  | 0, c, l => (-1, (c, l))
  | k + 1, c, l => if 0 ≤ nx c ∧ 0 < l then (nx c, (c, l - 1)) else robinGo nx w k ((c + 1) % w.length) (nth w ((c + 1) % w.length))
def robinCh (ps : List Pkt) (w : List Int) (ms : MS) (s : Nat × Int) : Int × Nat × (Nat × Int) :=
  if firstR ps ms < 0 then (-1, skipTo ms.begun ms.before, s)
  else ((robinGo (nextW ps ms) w (w.length + 1) s.1 s.2).1, skipTo ms.begun ms.before, (robinGo (nextW ps ms) w (w.length + 1) s.1 s.2).2)
def robinRc (ps : List Pkt) (w : List Int) (st : St) (g : Nat × Int) : Int × (Nat × Int) :=
  if 0 ≤ firstW ps st (-1) then robinGo (firstW ps st) w (w.length + 1) g.1 g.2 else (-1, g)
/-- within so many steps something is found -/
def Soon (nx : Int → Int) (n k c : Nat) (l : Int) : Prop := ∃ j, j < k ∧ 0 ≤ nx (((c + j) % n : Nat) : Int) ∧ (0 < j ∨ 0 < l)
def goodRb (ps : List Pkt) (n : Nat) (ms : MS) (s : Nat × Int) : Prop := goodB ps ms ∧ s.1 < n ∧ 0 ≤ s.2 ∧ s.2 ≤ 20
theorem goodB_skip {ps : List Pkt} {ms : MS} (h : goodB ps ms) (hb : ms.begun.length = ps.length) : goodB ps { ms with before := skipTo ms.begun ms.before } := h.skip hb
theorem goodB_begin {ps : List Pkt} {ms : MS} (h : goodB ps ms) (hb : ms.begun.length = ps.length) (i : Nat) : goodB ps { ms with before := skipTo ms.begun ms.before, begun := ms.begun.set i true } := by
  have hs := h.skip hb
  refine ⟨hs.1, fun j hj => ?_⟩
  dsimp only at hj ⊢
  by_cases e : i = j
  · subst e; rw [nth_set_self (by omega)]
  · rw [nth_set_ne e]; exact hs.2 j hj
def sameFlow (ps : List Pkt) (i k : Nat) : Prop := (nth ps i).flow = (nth ps k).flow
/-- weights that are in their range -/
def okW (hi : Int) (w : List Int) : Bool := w.all fun x => decide (1 ≤ x) && decide (x ≤ hi)
def wrunE (hi cap ticks : Int) (w : List Int) (ps : List Pkt) : Int := if lrunE cap w.length ticks ps ≠ 0 then lrunE cap w.length ticks ps else if okW hi w = true then 0 else 2
def outOf {σ : Type} (e : Int) (s : RS σ) : List Int × List (List Int) := if e ≠ 0 then ([], []) else (s.done, s.sent)
end Go.Proofs.Ytnaeefefggmomaa.M

/- Priorities, plain: the choice of the program and of the reference. No condition. -/
namespace Go.Proofs.Ytnaeefefggmomaa.M
open Go Go.Proofs.Ytnaeefefggmomaa.K

/-- the first class from c on in which something waits -/
def prioFrom (nx : Int → Int) : Nat → Nat → Int
  | 0, _ => -1
  | k + 1, c => if 0 ≤ nx c then nx c else prioFrom nx k (c + 1)
def prioCh (ps : List Pkt) (n : Nat) (ms : MS) (_ : Unit) : Int × Nat × Unit := (prioFrom (nextW ps ms) n 0, skipTo ms.begun ms.before, ())
def prioRc (ps : List Pkt) (n : Nat) (_ : Int) (st : St) (_ : Unit) : Int × Unit := (prioFrom (firstW ps st) n 0, ())
theorem prioFrom_some {nx : Int → Int} : ∀ {k c : Nat}, 0 ≤ prioFrom nx k c → ∃ d : Nat, c ≤ d ∧ d < c + k ∧ prioFrom nx k c = nx d ∧ ∀ j : Nat, c ≤ j → j < d → nx j < 0
  | 0, c, h => by simp [prioFrom] at h
  | k + 1, c, h => by
    simp only [prioFrom] at h ⊢
    by_cases h0 : 0 ≤ nx c
    · rw [if_pos h0]
      exact ⟨c, Nat.le_refl _, by omega, rfl, fun j h1 h2 => by omega⟩
    · rw [if_neg h0] at h ⊢
      obtain ⟨d, h1, h2, h3, h4⟩ := prioFrom_some h
      refine ⟨d, by omega, by omega, h3, fun j h5 h6 => ?_⟩
      by_cases e : j = c
      · subst e; omega
      · exact h4 j (by omega) h6
theorem prioFrom_none {nx : Int → Int} : ∀ {k c : Nat}, prioFrom nx k c < 0 → ∀ j : Nat, c ≤ j → j < c + k → nx j < 0
  | 0, c, h, j, h1, h2 => by omega
  | k + 1, c, h, j, h1, h2 => by
    simp only [prioFrom] at h
    by_cases h0 : 0 ≤ nx c
    · rw [if_pos h0] at h; omega
    · rw [if_neg h0] at h
      by_cases e : j = c
      · subst e; omega
      · exact prioFrom_none h j (by omega) (by omega)
section
variable {ps : List Pkt} {n : Nat}
theorem prio_fair (hsort : ps.Pairwise fun a b => a.time ≤ b.time) : Fair ps (prioCh ps n) (fun ms _ => goodB ps ms) (sameFlow ps) where
  free := fun _ _ _ _ h => h
  idx := fun ms s hg hb h0 => by
    obtain ⟨d, _, _, h, _⟩ := prioFrom_some (show 0 ≤ prioFrom (nextW ps ms) n 0 from h0)
    show prioFrom (nextW ps ms) n 0 < _
    rw [h]; exact (nextW_lt _ _ _).1
  some := fun ms s hg hb h0 => goodB_begin hg hb _
  none := fun ms s hg hb h0 => goodB_skip hg hb
  waits := fun ms s hg hb h0 => by
    obtain ⟨d, _, _, h, _⟩ := prioFrom_some (show 0 ≤ prioFrom (nextW ps ms) n 0 from h0)
    have h0 : 0 ≤ prioFrom (nextW ps ms) n 0 := h0
    show nth ms.begun (prioFrom (nextW ps ms) n 0).toNat = false ∧ (nth ps (prioFrom (nextW ps ms) n 0).toNat).time ≤ ms.now
    rw [h] at h0 ⊢
    have := nextW_some hsort h0
    exact ⟨this.2.1, this.2.2.1⟩
  ord := fun ms s hg hb h0 i hi hr => by
    obtain ⟨d, _, _, h, _⟩ := prioFrom_some (show 0 ≤ prioFrom (nextW ps ms) n 0 from h0)
    have h0 : 0 ≤ prioFrom (nextW ps ms) n 0 := h0
    have hi : i < (prioFrom (nextW ps ms) n 0).toNat := hi
    have hr : sameFlow ps i (prioFrom (nextW ps ms) n 0).toNat := hr
    rw [h] at h0 hi hr
    have := nextW_some hsort h0
    exact this.2.2.2.2 i hi (by unfold sameFlow at hr; rw [hr]; exact this.2.2.2.1)
theorem prio_busy (hfl : ∀ p ∈ ps, 0 ≤ p.flow ∧ p.flow < n) : Busy ps (prioCh ps n) (fun ms _ => goodB ps ms) := fun ms s hg hb h0 i hi ht => by
  have hf := hfl _ (nth_mem hi)
  have h1 := prioFrom_none (show prioFrom (nextW ps ms) n 0 < 0 from h0) (nth ps i).flow.toNat (Nat.zero_le _) (by omega)
  exact nextW_none h1 hi ht (by omega)
theorem prio_start (classes : Nat) : goodB ps (start ps classes ()).ms := ⟨Nat.zero_le _, fun i hi => by simp [start] at hi⟩
/-- before which packet all have been begun, when so many classes have been looked at -/
def bfN (ms : MS) (c : Nat) : Nat := if c = 0 then ms.before else skipTo ms.begun ms.before
theorem bfN_skip {ms : MS} (hg : goodB ps ms) (hb : ms.begun.length = ps.length) (c : Nat) : skipTo ms.begun (bfN ms c) = skipTo ms.begun ms.before := by
  unfold bfN
  split
  · rfl
  · by_cases h : skipTo ms.begun ms.before < ms.begun.length
    · exact skipTo_false h (skipTo_stop' h)
    · exact skipTo_end (by omega)
theorem bfN_good {ms : MS} (hg : goodB ps ms) (hb : ms.begun.length = ps.length) (c : Nat) : goodB ps { ms with before := bfN ms c } := by
  unfold bfN
  split
  · exact hg
  · exact goodB_skip hg hb
end
end Go.Proofs.Ytnaeefefggmomaa.M

/- What a class is sent while it is backlogged, plain, whatever the choice: an invariant of the rounds is carried from tick to tick. No condition. -/
namespace Go.Proofs.Ytnaeefefggmomaa.M
open Go Go.Proofs.Ytnaeefefggmomaa.K

/-- the bytes of a class that have been begun -/
def begK (k : Int) : List Pkt → List Bool → Int
  | p :: ps, b :: bs => (if b = true ∧ p.flow = k then p.size else 0) + begK k ps bs
  | _, _ => 0
theorem begK_set (k : Int) : ∀ (ps : List Pkt) (bs : List Bool) (i : Nat), i < ps.length → i < bs.length → nth bs i = false → begK k ps (bs.set i true) = begK k ps bs + (if (nth ps i).flow = k then (nth ps i).size else 0)
  | [], _, i, h, _, _ => by simp at h
  | _ :: _, [], i, _, h, _ => by simp at h
  | p :: ps, b :: bs, 0, _, _, hb => by
    have : b = false := hb
    subst this
    simp only [List.set_cons_zero, begK, show nth (p :: ps) 0 = p from rfl]
    simp; omega
  | p :: ps, b :: bs, i + 1, h1, h2, hb => by
    have := begK_set k ps bs i (by simpa using h1) (by simpa using h2) hb
    simp only [List.set_cons_succ, begK, this]
    rw [show nth (p :: ps) (i + 1) = nth ps i from rfl]; omega
/-- a class of which less has been begun than has arrived waits -/
theorem begK_wait {k t : Int} (hk : 0 ≤ k) : ∀ (ps : List Pkt) (bs : List Bool), bs.length = ps.length → (∀ p ∈ ps, 0 ≤ p.size) → begK k ps bs < pbytes k (t + 1) ps → ∃ i, i < ps.length ∧ nth bs i = false ∧ (nth ps i).flow = k ∧ (nth ps i).time ≤ t
  | [], _, _, _, h => by simp [begK, pbytes] at h
  | _ :: _, [], hl, _, _ => by simp at hl
  | p :: ps, b :: bs, hl, hs, h => by
    have hp := hs p (by simp)
    by_cases h0 : b = false ∧ p.flow = k ∧ p.time ≤ t
    · exact ⟨0, by simp, h0.1, h0.2.1, h0.2.2⟩
    · have h1 : begK k ps bs < pbytes k (t + 1) ps := by
        simp only [begK, pbytes] at h
        by_cases hh : hit k (t + 1) p
        · rw [if_pos hh] at h
          have hb : b = true ∧ p.flow = k := by
            unfold hit at hh
            have hf : p.flow = k := by omega
            refine ⟨?_, hf⟩
            cases b with
            | true => rfl
            | false => exact absurd ⟨rfl, hf, by omega⟩ h0
          rw [if_pos hb] at h
          omega
        · rw [if_neg hh] at h
          split at h <;> omega
      obtain ⟨i, g1, g2, g3, g4⟩ := begK_wait hk ps bs (by simpa using hl) (fun q hq => hs q (by simp [hq])) h1
      exact ⟨i + 1, by simpa using g1, g2, g3, g4⟩

/-- the sums of a class: begun, less what is still to be sent of the open packet -/
def Cl {σ : Type} (ps : List Pkt) (k : Nat) (col : Nat) (s : RS σ) : Prop :=
  nth (nth s.sent k) col = begK k ps s.ms.begun - (if 0 ≤ s.cur ∧ (nth ps s.cur.toNat).flow = k then s.rest else 0)
/-- an invariant of the rounds: of the choice's state, the open packet and what is left of it, what the class and all others have been sent -/
structure Per {σ : Type} (ps : List Pkt) (ch : MS → σ → Int × Nat × σ) (good : MS → σ → Prop) (k : Nat) (J : σ → Int → Int → Int → Int → Prop) : Prop where
  pick : ∀ ms sg r own oth, good ms sg → ms.begun.length = ps.length → (∃ i, i < ps.length ∧ nth ms.begun i = false ∧ (nth ps i).flow = k ∧ (nth ps i).time ≤ ms.now) → J sg (-1) r own oth → 0 ≤ (ch ms sg).1 → J (ch ms sg).2.2 (ch ms sg).1 (nth ps (ch ms sg).1.toNat).size own oth
  send : ∀ (sg : σ) (cur rest own oth n : Int), 0 ≤ cur → cur < ps.length → 1 ≤ n → n ≤ rest → J sg cur rest own oth →
    J sg (if rest - n = 0 then -1 else cur) (rest - n) (own + (if (nth ps cur.toNat).flow = k then n else 0)) (oth + (if (nth ps cur.toNat).flow = k then 0 else n))
  none : ∀ sg c c' r r' own oth, c < 0 → c' < 0 → J sg c r own oth → J sg c' r' own oth
section
variable {σ : Type} {ps : List Pkt} {ch : MS → σ → Int × Nat × σ} {good : MS → σ → Prop} {rel : Nat → Nat → Prop} {classes col k : Nat} {s : RS σ} {J : σ → Int → Int → Int → Int → Prop}
theorem Cl.pickup (hg : Fair ps ch good rel) (hw : Wk ps classes good rel col s) (h : Cl ps k col s) : Cl ps k col (pickup ps ch s) := by
  unfold M.pickup
  by_cases hc : 0 ≤ s.cur
  · rw [if_pos hc]; exact h
  · rw [if_neg hc]
    unfold Cl at h
    rw [if_neg (by omega)] at h
    by_cases hr : (ch s.ms s.sg).1 < 0
    · simp only [hr, if_true]
      unfold Cl
      dsimp only
      rw [if_neg (by omega)]; exact h
    · simp only [hr, if_false]
      have hi := hg.idx _ _ hw.good hw.blen (by omega)
      obtain ⟨w1, w2⟩ := hg.waits _ _ hw.good hw.blen (by omega)
      have hb := hw.blen
      unfold Cl
      dsimp only
      rw [begK_set _ _ _ _ (by omega) (by omega) w1, h]
      by_cases hf : (nth ps (ch s.ms s.sg).1.toNat).flow = k
      · rw [if_pos hf, if_pos ⟨by omega, hf⟩]; omega
      · rw [if_neg hf, if_neg (fun h => hf h.2)]; omega
/-- what is sent of the class: n or nothing -/
theorem Cl.send (hfl : ∀ p ∈ ps, 0 ≤ p.flow ∧ p.flow < classes) (hk : k < classes) {t : Nat} (hw : Wk ps classes good rel (t + 1) s) (h : Cl ps k (t + 1) s) (hc : 0 ≤ s.cur) (hl : 0 < s.ms.left) :
    ∃ n, 1 ≤ n ∧ n ≤ s.rest ∧ (M.send ps t s).ms.left = s.ms.left - n ∧ (M.send ps t s).rest = s.rest - n ∧ (M.send ps t s).cur = (if s.rest - n = 0 then -1 else s.cur) ∧ (M.send ps t s).sg = s.sg ∧ (M.send ps t s).ms.begun = s.ms.begun ∧
      nth (nth (M.send ps t s).sent k) (t + 1) = nth (nth s.sent k) (t + 1) + (if (nth ps s.cur.toNat).flow = k then n else 0) ∧ Cl ps k (t + 1) (M.send ps t s) := by
  obtain ⟨c1, c2, c3⟩ := hw.cur hc
  have hfl' := hfl _ (nth_mem (show s.cur.toNat < ps.length by omega))
  have hlen := hw.slen
  refine ⟨if s.ms.left < s.rest then s.ms.left else s.rest, by split <;> omega, by split <;> omega, rfl, rfl, rfl, rfl, rfl, ?_⟩
  have hn : (if s.ms.left < s.rest then s.ms.left else s.rest) ≤ s.rest := by split <;> omega
  have hcol : nth (nth (M.send ps t s).sent k) (t + 1) = nth (nth s.sent k) (t + 1) + (if (nth ps s.cur.toNat).flow = k then (if s.ms.left < s.rest then s.ms.left else s.rest) else 0) := by
    unfold M.send
    dsimp only
    by_cases hf : (nth ps s.cur.toNat).flow = k
    · have e : (nth ps s.cur.toNat).flow.toNat = k := by omega
      rw [if_pos hf, e, nth_set_self (by omega), nth_set_self]
      have := hw.rlen _ (nth_mem (xs := s.sent) (k := k) (by omega))
      omega
    · rw [if_neg hf, nth_set_ne (by omega)]; omega
  refine ⟨hcol, ?_⟩
  unfold Cl at h ⊢
  rw [hcol, h]
  unfold M.send
  dsimp only
  generalize (if s.ms.left < s.rest then s.ms.left else s.rest) = n at hn ⊢
  by_cases hf : (nth ps s.cur.toNat).flow = k
  · rw [if_pos ⟨hc, hf⟩, if_pos hf]
    by_cases hz : s.rest - n = 0
    · simp only [hz, if_true]; rw [if_neg (by omega)]; omega
    · simp only [hz, if_false]; rw [if_pos ⟨hc, hf⟩]; omega
  · rw [if_neg (fun h => hf h.2), if_neg hf]
    by_cases hz : s.rest - n = 0
    · simp only [hz, if_true]; rw [if_neg (by omega)]; omega
    · simp only [hz, if_false]; rw [if_neg (fun h => hf h.2)]; omega
theorem Per.inner (hg : Fair ps ch good rel) (hb : Busy ps ch good) (hJ : Per ps ch good k J) (hs : ∀ p ∈ ps, 1 ≤ p.size) (hfl : ∀ p ∈ ps, 0 ≤ p.flow ∧ p.flow < classes) (hk : k < classes) {t : Nat} : ∀ (j : Nat) (s : RS σ) (own oth : Int), Wk ps classes good rel (t + 1) s → Cl ps k (t + 1) s → s.ms.now = t → 0 ≤ s.ms.left →
    (J s.sg s.cur s.rest own oth ∨ pbytes k ((t : Int) + 1) ps ≤ nth (nth s.sent k) (t + 1)) →
    Cl ps k (t + 1) (inner ps ch t j s) ∧ nth (nth s.sent k) (t + 1) ≤ nth (nth (inner ps ch t j s).sent k) (t + 1) ∧
      (nth (nth (inner ps ch t j s).sent k) (t + 1) < pbytes k ((t : Int) + 1) ps →
        J (inner ps ch t j s).sg (inner ps ch t j s).cur (inner ps ch t j s).rest (own + (nth (nth (inner ps ch t j s).sent k) (t + 1) - nth (nth s.sent k) (t + 1))) (oth + ((colSum (inner ps ch t j s).sent (t + 1) - colSum s.sent (t + 1)) - (nth (nth (inner ps ch t j s).sent k) (t + 1) - nth (nth s.sent k) (t + 1)))))
  | 0, s, own, oth, hw, hc, hn, hl, h => by
    simp only [M.inner]
    refine ⟨hc, Int.le_refl _, fun hlt => ?_⟩
    rcases h with h | h
    · simpa using h
    · omega
  | j + 1, s, own, oth, hw, hc, hn, hl, h => by
    simp only [M.inner]
    by_cases hl0 : s.ms.left ≤ 0
    · rw [if_pos hl0]
      refine ⟨hc, Int.le_refl _, fun hlt => ?_⟩
      rcases h with h | h
      · simpa using h
      · omega
    · rw [if_neg hl0]
      have hw1 := hw.pickup hg hs
      have hc1 := hc.pickup hg hw
      obtain ⟨e1, e2, e3, e4⟩ := pickup_same ps ch s
      -- the choice
      have hJ1 : nth (nth s.sent k) (t + 1) < pbytes k ((t : Int) + 1) ps → 0 ≤ (M.pickup ps ch s).cur ∧ J (M.pickup ps ch s).sg (M.pickup ps ch s).cur (M.pickup ps ch s).rest own oth := fun hlt => by
        have h := h.resolve_right (by omega)
        by_cases hcur : 0 ≤ s.cur
        · unfold M.pickup; rw [if_pos hcur]; exact ⟨hcur, h⟩
        · unfold Cl at hc
          rw [if_neg (fun x => hcur x.1)] at hc
          obtain ⟨i, g1, g2, g3, g4⟩ := begK_wait (k := (k : Int)) (t := (t : Int)) (by omega) ps s.ms.begun hw.blen (fun p hp => by have := hs p hp; omega) (by omega)
          have hr0 : 0 ≤ (ch s.ms s.sg).1 := by
            apply Classical.byContradiction
            intro hneg
            have := hb _ _ hw.good hw.blen (by omega) i g1 (by omega)
            rw [this] at g2; cases g2
          have hp := hJ.pick s.ms s.sg s.rest own oth hw.good hw.blen ⟨i, g1, g2, g3, by omega⟩ (hJ.none _ s.cur _ s.rest _ own oth (by omega) (by omega) h) hr0
          unfold M.pickup
          rw [if_neg hcur]
          dsimp only
          rw [if_neg (by omega)]
          exact ⟨hr0, hp⟩
      by_cases hcn : (M.pickup ps ch s).cur < 0
      · rw [if_pos hcn]
        refine ⟨hc1, by rw [e3]; exact Int.le_refl _, fun hlt => ?_⟩
        rw [e3] at hlt
        have := (hJ1 hlt).1
        omega
      · rw [if_neg hcn]
        obtain ⟨n, n1, n2, n3, n4, n5, n6, n7, n8, n9⟩ := Cl.send hfl hk hw1 hc1 (by omega) (by rw [e1]; omega)
        obtain ⟨g1, g2, g3, g4, g5, g6⟩ := hw1.send hfl hg.free (by rw [e2]; exact hn) (by omega) (by rw [e1]; omega)
        have hn0 : 0 ≤ (if (nth ps (M.pickup ps ch s).cur.toNat).flow = (k : Int) then n else 0) := by split <;> omega
        have hcc := hw1.cur (by omega)
        obtain ⟨r1, r2, r3⟩ := Per.inner hg hb hJ hs hfl hk j (M.send ps t (M.pickup ps ch s)) (own + (if (nth ps (M.pickup ps ch s).cur.toNat).flow = (k : Int) then n else 0)) (oth + (if (nth ps (M.pickup ps ch s).cur.toNat).flow = (k : Int) then 0 else n)) g1 n9 (by rw [g5, e2]; exact hn) g3 (by
          by_cases hlt : nth (nth s.sent k) (t + 1) < pbytes k ((t : Int) + 1) ps
          · left
            have := hJ.send _ _ _ _ _ n (by omega) hcc.1 n1 n2 (hJ1 hlt).2
            rw [n4, n5, n6]; exact this
          · right; rw [n8, e3]; omega)
        have hcs : colSum (M.send ps t (M.pickup ps ch s)).sent (t + 1) = colSum s.sent (t + 1) + n := by rw [g2, n3, e3]; omega
        refine ⟨r1, by rw [n8, e3] at r2; omega, fun hlt => ?_⟩
        have := r3 hlt
        rw [n8, hcs, e3] at this
        have ea : own + (if (nth ps (M.pickup ps ch s).cur.toNat).flow = (k : Int) then n else 0) + (nth (nth (M.inner ps ch t j (M.send ps t (M.pickup ps ch s))).sent k) (t + 1) - (nth (nth s.sent k) (t + 1) + (if (nth ps (M.pickup ps ch s).cur.toNat).flow = (k : Int) then n else 0))) = own + (nth (nth (M.inner ps ch t j (M.send ps t (M.pickup ps ch s))).sent k) (t + 1) - nth (nth s.sent k) (t + 1)) := by omega
        rw [ea] at this
        have eb : oth + (if (nth ps (M.pickup ps ch s).cur.toNat).flow = (k : Int) then 0 else n) + ((colSum (M.inner ps ch t j (M.send ps t (M.pickup ps ch s))).sent (t + 1) - (colSum s.sent (t + 1) + n)) - (nth (nth (M.inner ps ch t j (M.send ps t (M.pickup ps ch s))).sent k) (t + 1) - (nth (nth s.sent k) (t + 1) + (if (nth ps (M.pickup ps ch s).cur.toNat).flow = (k : Int) then n else 0)))) = oth + ((colSum (M.inner ps ch t j (M.send ps t (M.pickup ps ch s))).sent (t + 1) - colSum s.sent (t + 1)) - (nth (nth (M.inner ps ch t j (M.send ps t (M.pickup ps ch s))).sent k) (t + 1) - nth (nth s.sent k) (t + 1))) := by split <;> omega
        rw [eb] at this
        exact this
/-- the state at the beginning of a tick -/
def opened (cap : Int) (t : Nat) (s : RS σ) : RS σ := { s with ms := { s.ms with now := t, left := cap }, sent := s.sent.map fun l => l ++ [nth l t] }
theorem opened_row {t : Nat} {l : List Int} (h : l.length = t + 1) : nth (l ++ [nth l t]) (t + 1) = nth l t := by
  unfold nth List.getD
  rw [List.getElem?_append_right (by omega), h]; simp
theorem Wk.opened (hg : Fair ps ch good rel) {t : Nat} {cap : Int} (h : Wk ps classes good rel t s) (hnow : s.ms.now ≤ t) : Wk ps classes good rel (t + 1) (M.opened cap t s) ∧ colSum (M.opened cap t s).sent (t + 1) = colSum s.sent t := by
  have hcol : colSum (s.sent.map fun l => l ++ [nth l t]) (t + 1) = colSum s.sent t := colSum_map _ (fun l hl => opened_row (h.rlen l hl))
  refine ⟨⟨hg.free _ _ _ _ h.good, h.dlen, h.blen, by simp [M.opened, h.slen], fun l hl => ?_, h.cur, h.open_, fun i hi hb hne => ?_, fun i hi hb => ?_, h.ord, h.dord, by unfold M.opened; dsimp only; rw [hcol]; exact h.sum⟩, hcol⟩
  · obtain ⟨l', h2, rfl⟩ := List.mem_map.1 hl
    simp [h.rlen l' h2]
  · have := h.shut i hi hb hne
    unfold M.opened; dsimp only; omega
  · have := h.time i hi hb
    unfold M.opened; dsimp only; omega
end
end Go.Proofs.Ytnaeefefggmomaa.M

/- A trial. No condition. -/
set_option linter.unusedSimpArgs false
set_option linter.unusedVariables false
namespace Go.Proofs.Ytnaeefefggmomaa
open Go Go.RowKit Go.Proofs.Ytnaeefefggmomaa.K Go.Proofs.Ytnaeefefggmomaa.M

theorem Ints_V {R : Ro} {a b : Option Addr} {ca cb : Nat} {xs ys : List Int} (ha : RS R 1 encI a xs) (hb : RS R 1 encI b ys) :
    FnV Try.prog 37 [.slice a xs.length ca, .slice b ys.length cb] R (.bool (decide (xs = ys))) := by
  have hla := ha.len
  have hlb := hb.len
  refine Fn.toV (fun w0 E => ?_)
  refine Fn.enter (n := 26) Try.func37 rfl rfl (Nat.le_of_ble_eq_true rfl) rfl ?_
  refine W.seq ?_
  refine W.region _ ?_
  refine WG.run tab_ok 1 rfl ?_
  refine WG.nil ?_
  refine WE.nxt ?_
  refine W.seq ?_
  refine W.seq ?_
  refine W.region _ ?_
  refine WG.run tab_ok 5 rfl ?_
  refine WG.nil ?_
  refine WE.nxt ?_
  refine W.condN rfl (fun hc0 => ?_) (fun hc0 => ?_)
  · try dsimp only at hc0
    refine W.seq ?_
    refine W.region _ ?_
    refine WG.run tab_ok 1 rfl ?_
    refine WG.nil ?_
    refine WE.nxt ?_
    refine W.ret ?_
    refine WE.then_ret ?_
    refine WE.retF tab_ok [_] rfl ⟨rfl, trivial⟩ (RLe.refl _) ?_
    exact ⟨congrArg Value.bool (by symm; apply decide_eq_false; rintro rfl; exact hc0 rfl), rfl⟩
  · try dsimp only at hc0
    refine W.skip ?_
    refine WE.nxt ?_
    refine W.seq ?_
    refine W.seq ?_
    refine W.region _ ?_
    refine WG.run tab_ok 1 rfl ?_
    refine WG.nil ?_
    refine WE.nxt ?_
    refine W.block ?_
    refine W.loop (β := Nat) (fun k => k ≤ xs.length ∧ ∀ i, i < k → nth xs i = nth ys i) (fun k => [(0, true, .slice a xs.length ca), (1, true, .slice b ys.length cb), (5, true, .int .i64 k)]) (fun _ => R) (fun _ => E) (fun k => xs.length - k) 0 ⟨Nat.zero_le _, fun i hi => absurd hi (Nat.not_lt_zero i)⟩ ⟨rfl, rfl, rfl, rfl⟩ (RLe.refl _) (List.Sublist.refl _) ?_
    intro st hst
    obtain ⟨hk, hpre⟩ := hst
    refine W.seq ?_
    refine W.seq ?_
    refine W.region _ ?_
    refine WG.run tab_ok 4 rfl ?_
    refine WG.nil ?_
    refine WE.nxt ?_
    refine W.condD rfl (fun hc1 => ?_) (fun hc1 => ?_)
    · try dsimp only at hc1
      refine W.skip ?_
      refine WE.nxt ?_
      refine W.seq ?_
      refine W.block ?_
      refine W.seq ?_
      refine W.regionQ _ mixed (by kernel_rfl) ?_
      refine WG.run tab_ok 2 rfl ?_
      refine WG.y rfl rfl (by decide) (Yl.indexN tab_ok rfl rfl rfl rfl rfl rfl (fun _ => rfl) (by intro _; (try dsimp only) <;> omega) (by intro _; first | exact fun _ _ _ _ => rfl | exact RS.has (by assumption) | exact fun _ _ _ _ => (by assumption) | exact HasMem.ownD 0 rfl | exact HasMem.ownD 1 rfl | exact HasMem.ownD 2 rfl | exact HasMem.ownD 3 rfl | exact HasMem.ownD 4 rfl | exact HasMem.ownD 5 rfl | exact HasMem.ownD 6 rfl | exact HasMem.ownD 7 rfl)) ?_
      refine' WG.y rfl rfl (by decide) (Yl.load1 tab_ok rfl rfl rfl (fun _ => rfl) ?r1 rfl ?h1) ?_
      case r1 => (first | (apply RS.rdD; assumption; ((try dsimp only) <;> omega)) | exact Rd.slD 0 rfl (by (try dsimp only) <;> omega) | exact Rd.slD 1 rfl (by (try dsimp only) <;> omega) | exact Rd.slD 2 rfl (by (try dsimp only) <;> omega) | exact Rd.slD 3 rfl (by (try dsimp only) <;> omega) | exact Rd.slD 4 rfl (by (try dsimp only) <;> omega) | exact Rd.slD 5 rfl (by (try dsimp only) <;> omega) | exact Rd.slD 6 rfl (by (try dsimp only) <;> omega) | exact Rd.slD 7 rfl (by (try dsimp only) <;> omega))
      case h1 => rfl
      refine WG.run tab_ok 2 rfl ?_
      refine WG.y rfl rfl (by decide) (Yl.indexN tab_ok rfl rfl rfl rfl rfl rfl (fun _ => rfl) (by intro _; (try dsimp only) <;> omega) (by intro _; first | exact fun _ _ _ _ => rfl | exact RS.has (by assumption) | exact fun _ _ _ _ => (by assumption) | exact HasMem.ownD 0 rfl | exact HasMem.ownD 1 rfl | exact HasMem.ownD 2 rfl | exact HasMem.ownD 3 rfl | exact HasMem.ownD 4 rfl | exact HasMem.ownD 5 rfl | exact HasMem.ownD 6 rfl | exact HasMem.ownD 7 rfl)) ?_
      refine' WG.y rfl rfl (by decide) (Yl.load1 tab_ok rfl rfl rfl (fun _ => rfl) ?r2 rfl ?h2) ?_
      case r2 => (first | (apply RS.rdD; assumption; ((try dsimp only) <;> omega)) | exact Rd.slD 0 rfl (by (try dsimp only) <;> omega) | exact Rd.slD 1 rfl (by (try dsimp only) <;> omega) | exact Rd.slD 2 rfl (by (try dsimp only) <;> omega) | exact Rd.slD 3 rfl (by (try dsimp only) <;> omega) | exact Rd.slD 4 rfl (by (try dsimp only) <;> omega) | exact Rd.slD 5 rfl (by (try dsimp only) <;> omega) | exact Rd.slD 6 rfl (by (try dsimp only) <;> omega) | exact Rd.slD 7 rfl (by (try dsimp only) <;> omega))
      case h2 => rfl
      refine WG.run tab_ok 1 rfl ?_
      refine WG.nil ?_
      refine WE.nxt ?_
      refine W.condN rfl (fun hc2 => ?_) (fun hc2 => ?_)
      · try dsimp only at hc2
        refine W.seq ?_
        refine W.region _ ?_
        refine WG.run tab_ok 1 rfl ?_
        refine WG.nil ?_
        refine WE.nxt ?_
        refine W.ret ?_
        refine WE.blk_ret ?_
        refine WE.then_ret ?_
        refine WE.then_ret ?_
        refine WE.blk_ret ?_
        refine WE.then_ret ?_
        refine WE.retF tab_ok [_] rfl ⟨rfl, trivial⟩ (RLe.refl _) ?_
        exact ⟨congrArg Value.bool (by symm; apply decide_eq_false; rintro rfl; exact hc2 rfl), rfl⟩
      · try dsimp only at hc2
        refine W.skip ?_
        refine WE.blk _ ?_
        refine WE.nxt ?_
        refine W.region _ ?_
        refine WG.run tab_ok 1 rfl ?_
        refine WG.y rfl rfl (by decide) (Yl.add rfl rfl rfl (fun _ => rfl) (by intro _; constructor <;> (try dsimp only) <;> omega)) ?_
        refine WG.run tab_ok 1 rfl ?_
        refine WG.nil ?_
        refine WE.again (st + 1) ⟨by omega, fun i hi => ?_⟩ (by omega) ⟨rfl, rfl, rfl, rfl⟩ (RLe.refl _) (List.Sublist.refl _)
        rcases Nat.lt_or_ge i st with h | h
        · exact hpre i h
        · obtain rfl : i = st := by omega
          exact hc2
    · try dsimp only at hc1
      refine W.exit ?_
      refine WE.then_exit ?_
      refine WE.then_exit ?_
      refine WE.blk_exit ?_
      refine WE.nxt ?_
      refine W.seq ?_
      refine W.region _ ?_
      refine WG.run tab_ok 1 rfl ?_
      refine WG.nil ?_
      refine WE.nxt ?_
      refine W.ret ?_
      refine WE.retF tab_ok [_] rfl ⟨rfl, trivial⟩ (RLe.refl _) ?_
      exact ⟨congrArg Value.bool (by symm; apply decide_eq_true; exact nth_ext (by omega) (fun i hi => hpre i (by omega))), rfl⟩

end Go.Proofs.Ytnaeefefggmomaa

/- A trial. No condition. -/
set_option linter.unusedSimpArgs false
set_option linter.unusedVariables false
namespace Go.Proofs.Ytnaeefefggmomaa
open Go Go.RowKit Go.Proofs.Ytnaeefefggmomaa.K Go.Proofs.Ytnaeefefggmomaa.M

theorem tmod_gt (x : Int) {n : Int} (h : 0 < n) : -n < x.tmod n := by
  rcases Int.le_total 0 x with h0 | h0
  · have := Int.tmod_nonneg n h0; omega
  · have h1 := Int.neg_tmod (a := x) (b := n)
    have h2 := Int.tmod_lt_of_pos (-x) h
    omega
theorem mod_pos {x n : Int} (h : 1 ≤ n) (hc : ¬ x.tmod n < 0) : x.tmod n = x % n := by
  rw [Int.tmod_eq_emod] at hc ⊢
  split at hc
  · rename_i h1; rw [if_pos h1]; omega
  · rename_i h1
    rw [if_neg h1]
    have := Int.emod_lt_of_pos x (show 0 < n by omega)
    have h2 : (n.natAbs : Int) = n := by omega
    omega
theorem mod_neg {x n : Int} (h : 1 ≤ n) (hc : x.tmod n < 0) : x.tmod n + n = x % n := by
  rw [Int.tmod_eq_emod] at hc ⊢
  split at hc
  · rename_i h1
    have := Int.emod_nonneg x (show n ≠ 0 by omega)
    omega
  · rename_i h1; rw [if_neg h1]
    have h2 : (n.natAbs : Int) = n := by omega
    omega
theorem src_end {b : Nat} {a : Option Addr} {cp : Nat} {xs : List Int} {c : Nat} (h : xs.length ≤ c) : srcE b a cp xs c = srcE b a cp xs (c + 1) := by
  unfold srcE
  rw [show min c xs.length = min (c + 1) xs.length by omega]
theorem src_next {b : Nat} {a : Option Addr} {cp : Nat} {xs : List Int} {c : Nat} (h : c < xs.length) : Ent.blk b [.slice a xs.length cp, .int .i64 (((min c xs.length : Nat) : Int) + 1)] = srcE b a cp xs (c + 1) := by
  unfold srcE
  rw [show ((min c xs.length : Nat) : Int) + 1 = ((min (c + 1) xs.length : Nat) : Int) by omega]

theorem Mod_V {R : Ro} {x n : Int} (hn : InR n) : FnV Try.prog 67 [.int .i64 x, .int .i64 n] R (.int .i64 (mod x n)) := by
  refine Fn.toV (fun w0 E => ?_)
  refine Fn.enter (n := 16) Try.func67 rfl rfl (Nat.le_of_ble_eq_true rfl) rfl ?_
  refine W.seq ?_
  refine W.region _ ?_
  refine WG.run tab_ok 1 rfl ?_
  refine WG.nil ?_
  refine WE.nxt ?_
  refine W.seq ?_
  refine W.seq ?_
  refine W.region _ ?_
  refine WG.run tab_ok 2 rfl ?_
  refine WG.nil ?_
  refine WE.nxt ?_
  refine W.condD rfl (fun hc0 => ?_) (fun hc0 => ?_)
  · try dsimp only at hc0
    refine W.seq ?_
    refine W.region _ ?_
    refine WG.run tab_ok 1 rfl ?_
    refine WG.nil ?_
    refine WE.nxt ?_
    refine W.ret ?_
    refine WE.then_ret ?_
    refine WE.retF tab_ok [_] rfl ⟨rfl, trivial⟩ (RLe.refl _) ?_
    exact ⟨by unfold mod; rw [if_pos hc0]; rfl, rfl⟩
  · try dsimp only at hc0
    refine W.skip ?_
    refine WE.nxt ?_
    refine W.seq ?_
    refine W.region _ ?_
    refine WG.run tab_ok 2 rfl ?_
    refine WG.y rfl rfl (by decide) (Yl.tmod rfl rfl rfl (fun _ => rfl) (by intro _; omega)) ?_
    refine WG.run tab_ok 1 rfl ?_
    refine WG.nil ?_
    refine WE.nxt ?_
    refine W.seq ?_
    refine W.seq ?_
    refine W.region _ ?_
    refine WG.run tab_ok 2 rfl ?_
    refine WG.nil ?_
    refine WE.nxt ?_
    refine W.condD rfl (fun hc1 => ?_) (fun hc1 => ?_)
    · try dsimp only at hc1
      refine W.region _ ?_
      refine WG.run tab_ok 2 rfl ?_
      refine WG.y rfl rfl (by decide) (Yl.add rfl rfl rfl (fun _ => rfl) (by intro _; have h9 := tmod_gt x (show (0 : Int) < n by omega); constructor <;> omega)) ?_
      refine WG.run tab_ok 1 rfl ?_
      refine WG.nil ?_
      refine WE.nxt ?_
      refine W.seq ?_
      refine W.region _ ?_
      refine WG.run tab_ok 2 rfl ?_
      refine WG.nil ?_
      refine WE.nxt ?_
      refine W.ret ?_
      refine WE.retF tab_ok [_] rfl ⟨rfl, trivial⟩ (RLe.refl _) ?_
      refine ⟨congrArg (Value.int .i64) ?_, rfl⟩
      unfold mod; rw [if_neg hc0]; exact mod_neg (by omega) hc1
    · try dsimp only at hc1
      refine W.skip ?_
      refine WE.nxt ?_
      refine W.seq ?_
      refine W.region _ ?_
      refine WG.run tab_ok 2 rfl ?_
      refine WG.nil ?_
      refine WE.nxt ?_
      refine W.ret ?_
      refine WE.retF tab_ok [_] rfl ⟨rfl, trivial⟩ (RLe.refl _) ?_
      refine ⟨congrArg (Value.int .i64) ?_, rfl⟩
      unfold mod; rw [if_neg hc0]; exact mod_pos (by omega) hc1

theorem Raw_C {R : Ro} {b : Nat} {a : Option Addr} {cp : Nat} {xs : List Int} {c : Nat} (w0 : World) (ha : RS R 1 encI a xs) : FnAt Try.prog 68 [.pointer (some ⟨b, 0, none⟩)] w0 R (srcE b a cp xs c) (RdPost (.int .i64 (nth xs c)) R (srcE b a cp xs (c + 1))) := by
  intro F
  have hla := ha.len
  refine Fn.enter (n := 31) Try.func68 rfl rfl (Nat.le_of_ble_eq_true rfl) rfl ?_
  refine W.seq ?_
  refine W.region _ ?_
  refine WG.run tab_ok 1 rfl ?_
  refine WG.nil ?_
  refine WE.nxt ?_
  refine W.seq ?_
  refine W.seq ?_
  refine W.regionQ _ mixed (by kernel_rfl) ?_
  refine WG.run tab_ok 3 rfl ?_
  refine' WG.y rfl rfl (by decide) (Yl.load1 tab_ok rfl rfl rfl (fun _ => rfl) ?r1 rfl ?h1) ?_
  case r1 => apply Rd.add; (first | exact Rd.blk 0 rfl | exact Rd.blk 1 rfl | exact Rd.blk 2 rfl | exact Rd.blk 3 rfl | exact Rd.blk 4 rfl | exact Rd.blk 5 rfl | exact Rd.blk 6 rfl | exact Rd.blk 7 rfl | (apply RS.rdD; assumption; ((try dsimp only) <;> omega)) | exact Rd.slD 0 rfl (by (try dsimp only) <;> omega) | exact Rd.slD 1 rfl (by (try dsimp only) <;> omega) | exact Rd.slD 2 rfl (by (try dsimp only) <;> omega) | exact Rd.slD 3 rfl (by (try dsimp only) <;> omega) | exact Rd.slD 4 rfl (by (try dsimp only) <;> omega) | exact Rd.slD 5 rfl (by (try dsimp only) <;> omega) | exact Rd.slD 6 rfl (by (try dsimp only) <;> omega) | exact Rd.slD 7 rfl (by (try dsimp only) <;> omega))
  case h1 => rfl
  refine WG.run tab_ok 3 rfl ?_
  refine' WG.y rfl rfl (by decide) (Yl.load1 tab_ok rfl rfl rfl (fun _ => rfl) ?r2 rfl ?h2) ?_
  case r2 => apply Rd.add; (first | exact Rd.blk 0 rfl | exact Rd.blk 1 rfl | exact Rd.blk 2 rfl | exact Rd.blk 3 rfl | exact Rd.blk 4 rfl | exact Rd.blk 5 rfl | exact Rd.blk 6 rfl | exact Rd.blk 7 rfl | (apply RS.rdD; assumption; ((try dsimp only) <;> omega)) | exact Rd.slD 0 rfl (by (try dsimp only) <;> omega) | exact Rd.slD 1 rfl (by (try dsimp only) <;> omega) | exact Rd.slD 2 rfl (by (try dsimp only) <;> omega) | exact Rd.slD 3 rfl (by (try dsimp only) <;> omega) | exact Rd.slD 4 rfl (by (try dsimp only) <;> omega) | exact Rd.slD 5 rfl (by (try dsimp only) <;> omega) | exact Rd.slD 6 rfl (by (try dsimp only) <;> omega) | exact Rd.slD 7 rfl (by (try dsimp only) <;> omega))
  case h2 => rfl
  refine WG.run tab_ok 2 rfl ?_
  refine WG.nil ?_
  refine WE.nxt ?_
  refine W.condD rfl (fun hc0 => ?_) (fun hc0 => ?_)
  · try dsimp only at hc0
    refine W.seq ?_
    refine W.region _ ?_
    refine WG.run tab_ok 1 rfl ?_
    refine WG.nil ?_
    refine WE.nxt ?_
    refine W.ret ?_
    refine WE.then_ret ?_
    refine WE.retF tab_ok [_] rfl ⟨rfl, trivial⟩ (RLe.refl _) ?_
    exact ⟨_, [], rfl, by rw [nth_out (by omega)]; rfl, rfl, src_end (by omega), rfl⟩
  · try dsimp only at hc0
    refine W.skip ?_
    refine WE.nxt ?_
    refine W.seq ?_
    refine W.region _ ?_
    refine WG.run tab_ok 3 rfl ?_
    refine' WG.y rfl rfl (by decide) (Yl.load1 tab_ok rfl rfl rfl (fun _ => rfl) ?r3 rfl ?h3) ?_
    case r3 => apply Rd.add; (first | exact Rd.blk 0 rfl | exact Rd.blk 1 rfl | exact Rd.blk 2 rfl | exact Rd.blk 3 rfl | exact Rd.blk 4 rfl | exact Rd.blk 5 rfl | exact Rd.blk 6 rfl | exact Rd.blk 7 rfl | (apply RS.rdD; assumption; ((try dsimp only) <;> omega)) | exact Rd.slD 0 rfl (by (try dsimp only) <;> omega) | exact Rd.slD 1 rfl (by (try dsimp only) <;> omega) | exact Rd.slD 2 rfl (by (try dsimp only) <;> omega) | exact Rd.slD 3 rfl (by (try dsimp only) <;> omega) | exact Rd.slD 4 rfl (by (try dsimp only) <;> omega) | exact Rd.slD 5 rfl (by (try dsimp only) <;> omega) | exact Rd.slD 6 rfl (by (try dsimp only) <;> omega) | exact Rd.slD 7 rfl (by (try dsimp only) <;> omega))
    case h3 => rfl
    refine WG.y rfl rfl (by decide) (Yl.add rfl rfl rfl (fun _ => rfl) (by intro _; constructor <;> (try dsimp only) <;> omega)) ?_
    refine WG.run tab_ok 2 rfl ?_
    first | refine WL.efN rfl rfl (Ef.store 0 tab_ok rfl rfl rfl rfl rfl rfl rfl rfl ?_) | refine WL.efN rfl rfl (Ef.store 1 tab_ok rfl rfl rfl rfl rfl rfl rfl rfl ?_) | refine WL.efN rfl rfl (Ef.store 2 tab_ok rfl rfl rfl rfl rfl rfl rfl rfl ?_) | refine WL.efN rfl rfl (Ef.store 3 tab_ok rfl rfl rfl rfl rfl rfl rfl rfl ?_) | refine WL.efN rfl rfl (Ef.store 4 tab_ok rfl rfl rfl rfl rfl rfl rfl rfl ?_) | refine WL.efN rfl rfl (Ef.store 5 tab_ok rfl rfl rfl rfl rfl rfl rfl rfl ?_) | refine WL.efN rfl rfl (Ef.store 6 tab_ok rfl rfl rfl rfl rfl rfl rfl rfl ?_) | refine WL.efN rfl rfl (Ef.store 7 tab_ok rfl rfl rfl rfl rfl rfl rfl rfl ?_)
    refine WG.nil ?_
    refine WE.nxt ?_
    refine W.seq ?_
    refine W.regionQ _ mixed (by kernel_rfl) ?_
    refine WG.run tab_ok 3 rfl ?_
    refine' WG.y rfl rfl (by decide) (Yl.load1 tab_ok rfl rfl rfl (fun _ => rfl) ?r4 rfl ?h4) ?_
    case r4 => apply Rd.add; (first | exact Rd.blk 0 rfl | exact Rd.blk 1 rfl | exact Rd.blk 2 rfl | exact Rd.blk 3 rfl | exact Rd.blk 4 rfl | exact Rd.blk 5 rfl | exact Rd.blk 6 rfl | exact Rd.blk 7 rfl | (apply RS.rdD; assumption; ((try dsimp only) <;> omega)) | exact Rd.slD 0 rfl (by (try dsimp only) <;> omega) | exact Rd.slD 1 rfl (by (try dsimp only) <;> omega) | exact Rd.slD 2 rfl (by (try dsimp only) <;> omega) | exact Rd.slD 3 rfl (by (try dsimp only) <;> omega) | exact Rd.slD 4 rfl (by (try dsimp only) <;> omega) | exact Rd.slD 5 rfl (by (try dsimp only) <;> omega) | exact Rd.slD 6 rfl (by (try dsimp only) <;> omega) | exact Rd.slD 7 rfl (by (try dsimp only) <;> omega))
    case h4 => rfl
    refine WG.run tab_ok 3 rfl ?_
    refine' WG.y rfl rfl (by decide) (Yl.load1 tab_ok rfl rfl rfl (fun _ => rfl) ?r5 rfl ?h5) ?_
    case r5 => apply Rd.add; (first | exact Rd.blk 0 rfl | exact Rd.blk 1 rfl | exact Rd.blk 2 rfl | exact Rd.blk 3 rfl | exact Rd.blk 4 rfl | exact Rd.blk 5 rfl | exact Rd.blk 6 rfl | exact Rd.blk 7 rfl | (apply RS.rdD; assumption; ((try dsimp only) <;> omega)) | exact Rd.slD 0 rfl (by (try dsimp only) <;> omega) | exact Rd.slD 1 rfl (by (try dsimp only) <;> omega) | exact Rd.slD 2 rfl (by (try dsimp only) <;> omega) | exact Rd.slD 3 rfl (by (try dsimp only) <;> omega) | exact Rd.slD 4 rfl (by (try dsimp only) <;> omega) | exact Rd.slD 5 rfl (by (try dsimp only) <;> omega) | exact Rd.slD 6 rfl (by (try dsimp only) <;> omega) | exact Rd.slD 7 rfl (by (try dsimp only) <;> omega))
    case h5 => rfl
    refine WG.y rfl rfl (by decide) (Yl.sub rfl rfl rfl (fun _ => rfl) (by intro _; constructor <;> (try dsimp only) <;> omega)) ?_
    refine WG.y rfl rfl (by decide) (Yl.index tab_ok rfl rfl rfl rfl rfl rfl (fun _ => rfl) (by intro _; constructor <;> (try dsimp only) <;> omega) (by intro _; first | exact fun _ _ _ _ => rfl | exact RS.has (by assumption) | exact fun _ _ _ _ => (by assumption) | exact HasMem.ownD 0 rfl | exact HasMem.ownD 1 rfl | exact HasMem.ownD 2 rfl | exact HasMem.ownD 3 rfl | exact HasMem.ownD 4 rfl | exact HasMem.ownD 5 rfl | exact HasMem.ownD 6 rfl | exact HasMem.ownD 7 rfl)) ?_
    refine' WG.y rfl rfl (by decide) (Yl.load1 tab_ok rfl rfl rfl (fun _ => rfl) ?r6 rfl ?h6) ?_
    case r6 => (first | (apply RS.rdD; assumption; ((try dsimp only) <;> omega)) | exact Rd.slD 0 rfl (by (try dsimp only) <;> omega) | exact Rd.slD 1 rfl (by (try dsimp only) <;> omega) | exact Rd.slD 2 rfl (by (try dsimp only) <;> omega) | exact Rd.slD 3 rfl (by (try dsimp only) <;> omega) | exact Rd.slD 4 rfl (by (try dsimp only) <;> omega) | exact Rd.slD 5 rfl (by (try dsimp only) <;> omega) | exact Rd.slD 6 rfl (by (try dsimp only) <;> omega) | exact Rd.slD 7 rfl (by (try dsimp only) <;> omega))
    case h6 => rfl
    refine WG.run tab_ok 1 rfl ?_
    refine WG.nil ?_
    refine WE.nxt ?_
    refine W.ret ?_
    refine WE.retF tab_ok [_] rfl ⟨rfl, trivial⟩ (RLe.refl _) ?_
    exact ⟨_, [], rfl, congrArg (fun i => Value.int .i64 (nth xs i)) (show _ = c by omega), rfl, src_next (by omega), rfl⟩

theorem N_C {R : Ro} {b : Nat} {a : Option Addr} {cp : Nat} {xs : List Int} {c : Nat} (w0 : World) {n : Int} (ha : RS R 1 encI a xs) (hn : InR n) : FnAt Try.prog 21 [.pointer (some ⟨b, 0, none⟩), .int .i64 n] w0 R (srcE b a cp xs c) (RdPost (.int .i64 (mod (nth xs c) n)) R (srcE b a cp xs (c + 1))) := by
  intro F
  refine Fn.enter (n := 9) Try.func21 rfl rfl (Nat.le_of_ble_eq_true rfl) rfl ?_
  refine W.seq ?_
  refine W.region _ ?_
  refine WG.run tab_ok 1 rfl ?_
  refine WG.nil ?_
  refine WE.nxt ?_
  refine W.seq ?_
  refine W.region _ ?_
  refine WG.run tab_ok 1 rfl ?_
  refine WL.callAt 0 en68 rfl rfl (by decide) (CallOp.mkT rfl rfl rfl rfl) rfl (Raw_C w0 ha _) ?_
  rintro _ _ _ _ - ⟨rfl, rfl, rfl, rfl⟩
  refine WG.run tab_ok 1 rfl ?_
  refine WG.callV en67 rfl rfl (by decide) (CallOp.mk' rfl rfl rfl rfl) (fun _ => rfl) (fun hg => Mod_V hn) ?_
  refine WG.run tab_ok 1 rfl ?_
  refine WG.nil ?_
  refine WE.nxt ?_
  refine W.ret ?_
  refine WE.retF tab_ok [_] rfl ⟨rfl, trivial⟩ (RLe.refl _) ?_
  exact ⟨_, [], rfl, rfl, rfl, rfl, rfl⟩

theorem Pick_C {R : Ro} {b : Nat} {a : Option Addr} {cp : Nat} {xs : List Int} {c : Nat} (w0 : World) {a2 : Option Addr} {c2 : Nat} {ys : List Int} {j : Nat} {F : List Ent} (ha : RS R 1 encI a xs) (hy : F[j]? = some (.sl 3 1 a2 c2 (ys.map encI))) (hne : 0 < ys.length) (hl : ys.length ≤ 1000000) :
    K.Fn Try.prog 22 [.pointer (some ⟨b, 0, none⟩), .slice a2 ys.length c2] w0 R (srcE b a cp xs c :: F) (fun v R' E' => ∃ e' N, E' = N ++ e' :: F ∧ RdPost (.int .i64 (nth ys (mod (nth xs c) ys.length).toNat)) R (srcE b a cp xs (c + 1)) v R' e' N) := by
  have hr := mod_range (nth xs c) (show (1 : Int) ≤ ys.length by omega)
  refine Fn.enter (n := 12) Try.func22 rfl rfl (Nat.le_of_ble_eq_true rfl) rfl ?_
  refine W.seq ?_
  refine W.region _ ?_
  refine WG.run tab_ok 1 rfl ?_
  refine WG.nil ?_
  refine WE.nxt ?_
  refine W.seq ?_
  refine W.region _ ?_
  refine WG.run tab_ok 4 rfl ?_
  refine WL.callAt 0 en21 rfl rfl (by decide) (CallOp.mkT rfl rfl rfl rfl) rfl (N_C w0 ha (by constructor <;> omega) _) ?_
  rintro _ _ _ _ - ⟨rfl, rfl, rfl, rfl⟩
  refine WG.y rfl rfl (by decide) (Yl.index tab_ok rfl rfl rfl rfl rfl rfl (fun _ => rfl) (by intro _; constructor <;> (try dsimp only) <;> omega) (by intro _; first | exact HasMem.ownD (j + 1) hy | exact fun _ _ _ _ => rfl | exact RS.has (by assumption) | exact fun _ _ _ _ => (by assumption) | exact HasMem.ownD 0 rfl | exact HasMem.ownD 1 rfl | exact HasMem.ownD 2 rfl | exact HasMem.ownD 3 rfl | exact HasMem.ownD 4 rfl | exact HasMem.ownD 5 rfl | exact HasMem.ownD 6 rfl | exact HasMem.ownD 7 rfl)) ?_
  refine' WG.y rfl rfl (by decide) (Yl.load1 tab_ok rfl rfl rfl (fun _ => rfl) ?r1 rfl ?h1) ?_
  case r1 => (first | exact Rd.slD (j + 1) hy (by omega) | (apply RS.rdD; assumption; ((try dsimp only) <;> omega)) | exact Rd.slD 0 rfl (by (try dsimp only) <;> omega) | exact Rd.slD 1 rfl (by (try dsimp only) <;> omega) | exact Rd.slD 2 rfl (by (try dsimp only) <;> omega) | exact Rd.slD 3 rfl (by (try dsimp only) <;> omega) | exact Rd.slD 4 rfl (by (try dsimp only) <;> omega) | exact Rd.slD 5 rfl (by (try dsimp only) <;> omega) | exact Rd.slD 6 rfl (by (try dsimp only) <;> omega) | exact Rd.slD 7 rfl (by (try dsimp only) <;> omega))
  case h1 => rfl
  refine WG.run tab_ok 1 rfl ?_
  refine WG.nil ?_
  refine WE.nxt ?_
  refine W.ret ?_
  refine WE.retF tab_ok [_] rfl ⟨rfl, trivial⟩ (RLe.refl _) ?_
  exact ⟨_, [], rfl, rfl, rfl, rfl, rfl⟩

theorem New_C {R : Ro} {a : Option Addr} {cp : Nat} {l : List Int} (w0 : World) (E : List Ent) (hc : l.length ≤ cp) :
    K.Fn Try.prog 16 [.slice a l.length cp] w0 R E (fun v R' E' => ∃ b, v = .pointer (some ⟨b, 0, none⟩) ∧ R = R' ∧ E' = srcE b a cp (l.take 2000) 0 :: E) := by
  refine Fn.enter (n := 10) Try.func16 rfl rfl (Nat.le_of_ble_eq_true rfl) rfl ?_
  refine W.seq ?_
  refine W.region _ ?_
  refine WG.run tab_ok 1 rfl ?_
  refine WG.nil ?_
  refine WE.nxt ?_
  refine W.seq ?_
  refine W.region _ ?_
  refine WG.run tab_ok 4 rfl ?_
  refine WG.y rfl rfl (by decide) (Yl.sliceH tab_ok rfl rfl rfl rfl rfl (fun _ => rfl) (by intro _; split <;> constructor <;> omega) rfl) ?_
  -- build
  refine WG.y rfl rfl (by decide) (Yl.build (parts := [(0, .tmp 7)]) tab_ok rfl rfl rfl rfl (fun _ => rfl) rfl rfl) ?_
  refine WL.ef rfl rfl (by decide) (Ef.box rfl rfl (fun b9 => ?_))
  refine WG.run tab_ok 1 rfl ?_
  refine WG.nil ?_
  refine WE.nxt ?_
  refine W.ret ?_
  refine WE.retF tab_ok [_] rfl ⟨rfl, trivial⟩ (RLe.refl _) ?_
  refine ⟨_, rfl, rfl, ?_⟩
  unfold srcE
  rw [List.length_take, Nat.min_comm 0, Nat.min_zero]
  have e1 : ((if (2000 : Int) < (l.length : Int) then 2000 else (l.length : Int))).toNat = min 2000 l.length := by split <;> omega
  exact congrArg (fun n => Ent.blk _ [Value.slice a n cp, .int .i64 0] :: E) e1

theorem Pick7_C {R : Ro} {b : Nat} {a : Option Addr} {cp : Nat} {xs : List Int} {c : Nat} (w0 : World) {a2 : Option Addr} {c2 : Nat} {j : Nat} {F : List Ent} (ha : RS R 1 encI a xs) (hy : F[j]? = some (.sl 3 1 a2 c2 ([0, 0, 0, 1, 1, 2, 7].map encI))) :
    K.Fn Try.prog 22 [.pointer (some ⟨b, 0, none⟩), .slice a2 7 c2] w0 R (srcE b a cp xs c :: F) (fun v R' E' => ∃ e' N, E' = N ++ e' :: F ∧ RdPost (.int .i64 (pick7 (mod (nth xs c) 7))) R (srcE b a cp xs (c + 1)) v R' e' N) :=
  Pick_C (ys := [0, 0, 0, 1, 1, 2, 7]) w0 ha hy (by decide) (by decide)

theorem Traffic_C {R : Ro} {b : Nat} {a : Option Addr} {cp : Nat} {xs : List Int} {c : Nat} (w0 : World) {n flows most : Int} (ha : RS R 1 encI a xs) (hn : 0 ≤ n ∧ n ≤ 1000) (hf : InR flows) (hm : 1 ≤ most ∧ most ≤ 1000000) (F : List Ent) :
    K.Fn Try.prog 17 [.pointer (some ⟨b, 0, none⟩), .int .i64 n, .int .i64 flows, .int .i64 most] w0 R (srcE b a cp xs c :: F) (fun v R' E' => ∃ e' N, E' = N ++ e' :: F ∧
      ∃ a2 c2, v = .slice a2 (traffic xs n flows most c).length c2 ∧ R = R' ∧ e' = srcE b a cp xs (c + 1 + 3 * trafficK xs n c) ∧ N = [.sl 62 3 a2 c2 ((traffic xs n flows most c).map encP)]) := by
  have hr := mod_range (nth xs c) (show (1 : Int) ≤ n + 1 by omega)
  have hK : (trafficK xs n c : Int) = mod (nth xs c) (n + 1) := by unfold trafficK; omega
  refine Fn.enter (n := 38) Try.func17 rfl rfl (Nat.le_of_ble_eq_true rfl) rfl ?_
  refine W.seq ?_
  refine W.region _ ?_
  refine WG.run tab_ok 1 rfl ?_
  refine WG.nil ?_
  refine WE.nxt ?_
  refine W.seq ?_
  refine W.region _ ?_
  refine WG.run tab_ok 1 rfl ?_
  refine WG.nil ?_
  refine WE.nxt ?_
  refine W.seq ?_
  refine W.region _ ?_
  refine WG.run tab_ok 1 rfl ?_
  refine WG.nil ?_
  refine WE.nxt ?_
  refine W.seq ?_
  refine W.seq ?_
  refine W.region _ ?_
  refine WG.run tab_ok 2 rfl ?_
  refine WG.y rfl rfl (by decide) (Yl.add rfl rfl rfl (fun _ => rfl) (by intro _; constructor <;> (try dsimp only) <;> omega)) ?_
  refine WL.callAt 0 en21 rfl rfl (by decide) (CallOp.mkT rfl rfl rfl rfl) rfl (N_C w0 ha (by constructor <;> omega) _) ?_
  rintro _ _ _ _ - ⟨rfl, rfl, rfl, rfl⟩
  refine WG.run tab_ok 1 rfl ?_
  refine WG.nil ?_
  refine WE.nxt ?_
  refine W.block ?_
  refine W.nil 62 3 (by decide) ?_
  refine W.loop (β := Nat × Nat × Int × List Pkt × Option Addr × Nat) (fun (k, c1, t, acc, a2, c2) => acc ++ trafficGo xs flows most k c1 t = traffic xs n flows most c ∧ c1 + 3 * k = c + 1 + 3 * trafficK xs n c ∧ 0 ≤ t ∧ t + 7 * k ≤ 7 * trafficK xs n c ∧ acc.length + k = trafficK xs n c) (fun (k, c1, t, acc, a2, c2) => [(0, true, .pointer (some ⟨b, 0, none⟩)), (1, true, .int .i64 n), (2, true, .int .i64 flows), (3, true, .int .i64 most), (9, true, .slice a2 acc.length c2), (10, true, .int .i64 t), (11, true, .int .i64 (k : Int))]) (fun _ => R) (fun (k, c1, t, acc, a2, c2) => .sl 62 3 a2 c2 (acc.map encP) :: srcE b a cp xs c1 :: F) (fun (k, c1, t, acc, a2, c2) => k) ((trafficK xs n c, c + 1, 0, [], none, 0)) (⟨rfl, rfl, Int.le_refl _, by omega, by simp⟩) ⟨rfl, rfl, rfl, rfl, rfl, rfl, vint hK.symm, rfl⟩ (RLe.refl _) (by (repeat (first | exact List.Sublist.refl _ | exact List.nil_sublist _ | apply List.Sublist.cons_cons | apply List.Sublist.cons)); done) ?_
  intro st hst
  obtain ⟨k, c1, t, acc, a2, c2⟩ := st
  obtain ⟨h1, h2, h3, h4, h5⟩ := hst
  dsimp only
  refine W.seq ?_
  refine W.seq ?_
  refine W.region _ ?_
  refine WG.run tab_ok 2 rfl ?_
  refine WG.nil ?_
  refine WE.nxt ?_
  refine W.condD rfl (fun hc0 => ?_) (fun hc0 => ?_)
  · try dsimp only at hc0
    obtain ⟨k, rfl⟩ : ∃ m, k = m + 1 := ⟨k - 1, by omega⟩
    have hr1 := mod_range (nth xs (c1 + 1)) (show (1 : Int) ≤ most by omega)
    have hr2 := pick7_range (mod (nth xs (c1 + 1 + 1)) 7)
    have hr3 := pick7_range (mod (nth xs (c1 + 2)) 7)
    refine W.skip ?_
    refine WE.nxt ?_
    refine W.seq ?_
    refine W.block ?_
    refine W.seq ?_
    refine W.region _ ?_
    refine WG.run tab_ok 3 rfl ?_
    refine WL.callAt 1 en21 rfl rfl (by decide) (CallOp.mkT rfl rfl rfl rfl) rfl (N_C w0 ha hf _) ?_
    rintro _ _ _ _ - ⟨rfl, rfl, rfl, rfl⟩
    refine WG.run tab_ok 3 rfl ?_
    refine WL.callAt 1 en21 rfl rfl (by decide) (CallOp.mkT rfl rfl rfl rfl) rfl (N_C w0 ha (by constructor <;> omega) _) ?_
    rintro _ _ _ _ - ⟨rfl, rfl, rfl, rfl⟩
    refine WG.y rfl rfl (by decide) (Yl.add rfl rfl rfl (fun _ => rfl) (by intro _; constructor <;> (try dsimp only) <;> omega)) ?_
    -- build
    refine WG.y rfl rfl (by decide) (Yl.build (parts := [(0, .tmp 23), (1, .tmp 24), (2, .tmp 28)]) tab_ok rfl rfl rfl rfl (fun _ => rfl) rfl rfl) ?_
    refine WL.ef rfl rfl (by decide) (Ef.buildSliceD (enc := encP) (parts := [.tmp 29]) [⟨_, _, _⟩] tab_ok rfl rfl rfl rfl rfl rfl rfl rfl (by decide) (by decide) (fun a30 => ?_))
    first | refine WL.ef rfl rfl (by decide) (Ef.appendD 1 0 tab_ok rfl rfl rfl rfl rfl rfl rfl rfl rfl rfl rfl (fun _ _ => rfl) (by simp only [List.length_cons, List.length_nil]; omega) (by simp only [List.length_cons, List.length_nil]; omega) (fun a31 c31 ha31 => ?_)) | refine WL.ef rfl rfl (by decide) (Ef.appendD 2 0 tab_ok rfl rfl rfl rfl rfl rfl rfl rfl rfl rfl rfl (fun _ _ => rfl) (by simp only [List.length_cons, List.length_nil]; omega) (by simp only [List.length_cons, List.length_nil]; omega) (fun a31 c31 ha31 => ?_)) | refine WL.ef rfl rfl (by decide) (Ef.appendD 3 0 tab_ok rfl rfl rfl rfl rfl rfl rfl rfl rfl rfl rfl (fun _ _ => rfl) (by simp only [List.length_cons, List.length_nil]; omega) (by simp only [List.length_cons, List.length_nil]; omega) (fun a31 c31 ha31 => ?_)) | refine WL.ef rfl rfl (by decide) (Ef.appendD 4 0 tab_ok rfl rfl rfl rfl rfl rfl rfl rfl rfl rfl rfl (fun _ _ => rfl) (by simp only [List.length_cons, List.length_nil]; omega) (by simp only [List.length_cons, List.length_nil]; omega) (fun a31 c31 ha31 => ?_)) | refine WL.ef rfl rfl (by decide) (Ef.appendD 5 0 tab_ok rfl rfl rfl rfl rfl rfl rfl rfl rfl rfl rfl (fun _ _ => rfl) (by simp only [List.length_cons, List.length_nil]; omega) (by simp only [List.length_cons, List.length_nil]; omega) (fun a31 c31 ha31 => ?_)) | refine WL.ef rfl rfl (by decide) (Ef.appendD 6 0 tab_ok rfl rfl rfl rfl rfl rfl rfl rfl rfl rfl rfl (fun _ _ => rfl) (by simp only [List.length_cons, List.length_nil]; omega) (by simp only [List.length_cons, List.length_nil]; omega) (fun a31 c31 ha31 => ?_)) | refine WL.ef rfl rfl (by decide) (Ef.appendD 7 0 tab_ok rfl rfl rfl rfl rfl rfl rfl rfl rfl rfl rfl (fun _ _ => rfl) (by simp only [List.length_cons, List.length_nil]; omega) (by simp only [List.length_cons, List.length_nil]; omega) (fun a31 c31 ha31 => ?_)) | refine WL.ef rfl rfl (by decide) (Ef.appendR 0 tab_ok rfl rfl rfl rfl rfl rfl rfl rfl rfl rfl (by assumption) (fun _ _ => rfl) (by (try dsimp only); omega) (by omega) (fun a31 c31 ha31 => ?_)) | refine WL.ef rfl rfl (by decide) (Ef.appendR 1 tab_ok rfl rfl rfl rfl rfl rfl rfl rfl rfl rfl (by assumption) (fun _ _ => rfl) (by (try dsimp only); omega) (by omega) (fun a31 c31 ha31 => ?_)) | refine WL.ef rfl rfl (by decide) (Ef.appendR 2 tab_ok rfl rfl rfl rfl rfl rfl rfl rfl rfl rfl (by assumption) (fun _ _ => rfl) (by (try dsimp only); omega) (by omega) (fun a31 c31 ha31 => ?_)) | refine WL.ef rfl rfl (by decide) (Ef.appendR 3 tab_ok rfl rfl rfl rfl rfl rfl rfl rfl rfl rfl (by assumption) (fun _ _ => rfl) (by (try dsimp only); omega) (by omega) (fun a31 c31 ha31 => ?_)) | refine WL.ef rfl rfl (by decide) (Ef.appendR 4 tab_ok rfl rfl rfl rfl rfl rfl rfl rfl rfl rfl (by assumption) (fun _ _ => rfl) (by (try dsimp only); omega) (by omega) (fun a31 c31 ha31 => ?_)) | refine WL.ef rfl rfl (by decide) (Ef.appendR 5 tab_ok rfl rfl rfl rfl rfl rfl rfl rfl rfl rfl (by assumption) (fun _ _ => rfl) (by (try dsimp only); omega) (by omega) (fun a31 c31 ha31 => ?_)) | refine WL.ef rfl rfl (by decide) (Ef.appendR 6 tab_ok rfl rfl rfl rfl rfl rfl rfl rfl rfl rfl (by assumption) (fun _ _ => rfl) (by (try dsimp only); omega) (by omega) (fun a31 c31 ha31 => ?_)) | refine WL.ef rfl rfl (by decide) (Ef.appendR 7 tab_ok rfl rfl rfl rfl rfl rfl rfl rfl rfl rfl (by assumption) (fun _ _ => rfl) (by (try dsimp only); omega) (by omega) (fun a31 c31 ha31 => ?_))
    refine WG.run tab_ok 1 rfl ?_
    refine WG.nil ?_
    refine WE.nxt ?_
    refine W.region _ ?_
    refine WG.run tab_ok 2 rfl ?_
    refine WL.ef rfl rfl (by decide) (Ef.buildSliceD (enc := encI) (parts := [.const (.int .i64 0), .const (.int .i64 0), .const (.int .i64 0), .const (.int .i64 1), .const (.int .i64 1), .const (.int .i64 2), .const (.int .i64 7)]) [_, _, _, _, _, _, _] tab_ok rfl rfl rfl rfl rfl rfl rfl rfl (by decide) (by decide) (fun a34 => ?_))
    refine WL.callAt 3 en22 rfl rfl (by decide) (CallOp.mkT rfl rfl rfl rfl) rfl (Pick7_C (j := 0) w0 ha rfl) ?_
    rintro _ _ _ _ - ⟨rfl, rfl, rfl, rfl⟩
    refine WG.y rfl rfl (by decide) (Yl.add rfl rfl rfl (fun _ => rfl) (by intro _; constructor <;> (try dsimp only) <;> omega)) ?_
    refine WG.run tab_ok 1 rfl ?_
    refine WG.nil ?_
    refine WE.blk _ ?_
    refine WE.nxt ?_
    refine W.region _ ?_
    refine WG.run tab_ok 1 rfl ?_
    refine WG.y rfl rfl (by decide) (Yl.sub rfl rfl rfl (fun _ => rfl) (by intro _; constructor <;> (try dsimp only) <;> omega)) ?_
    refine WG.run tab_ok 1 rfl ?_
    refine WG.nil ?_
    refine WE.again ((k, c1 + 3, t + pick7 (mod (nth xs (c1 + 2)) 7), acc ++ [⟨mod (nth xs c1) flows, t, 1 + mod (nth xs (c1 + 1)) most⟩], a31, c31)) (⟨by dsimp only; rw [← h1]; simp [trafficGo], by dsimp only; omega, by dsimp only; omega, by dsimp only; omega, by simp; omega⟩) (by (try dsimp only); omega) ⟨rfl, rfl, rfl, rfl, rfl, rfl, vint (by omega), rfl⟩ (RLe.refl _) (by (repeat (first | exact List.Sublist.refl _ | exact List.nil_sublist _ | apply List.Sublist.cons_cons | apply List.Sublist.cons)); done)
  · try dsimp only at hc0
    obtain rfl : k = 0 := by omega
    simp only [trafficGo, List.append_nil] at h1
    subst h1
    refine W.exit ?_
    refine WE.then_exit ?_
    refine WE.then_exit ?_
    refine WE.blk_exit ?_
    refine WE.nxt ?_
    refine W.seq ?_
    refine W.region _ ?_
    refine WG.run tab_ok 2 rfl ?_
    refine WG.nil ?_
    refine WE.nxt ?_
    refine W.ret ?_
    refine WE.retF tab_ok [_] rfl ⟨rfl, trivial⟩ (RLe.refl _) ?_
    exact ⟨_, [_], rfl, _, _, rfl, rfl, congrArg (srcE b a cp xs) (by omega), rfl⟩

end Go.Proofs.Ytnaeefefggmomaa

/- A trial. No condition. -/
set_option linter.unusedSimpArgs false
set_option linter.unusedVariables false
namespace Go.Proofs.Ytnaeefefggmomaa
open Go Go.RowKit Go.Proofs.Ytnaeefefggmomaa.K Go.Proofs.Ytnaeefefggmomaa.M

theorem Validate_V {R : Ro} {a : Option Addr} {c : Nat} {ps : List Pkt} (ha : RS R 3 encP a ps) : FnV Try.prog 70 [.slice a ps.length c] R (.int .i64 (validate ps)) := by
  have hla := ha.len
  refine Fn.toV (fun w0 E => ?_)
  refine Fn.enter (n := 50) Try.func70 rfl rfl (Nat.le_of_ble_eq_true rfl) rfl ?_
  refine W.seq ?_
  refine W.region _ ?_
  refine WG.run tab_ok 1 rfl ?_
  refine WG.nil ?_
  refine WE.nxt ?_
  refine W.seq ?_
  refine W.seq ?_
  refine W.region _ ?_
  refine WG.run tab_ok 3 rfl ?_
  refine WG.nil ?_
  refine WE.nxt ?_
  refine W.condD rfl (fun hc0 => ?_) (fun hc0 => ?_)
  · try dsimp only at hc0
    refine W.seq ?_
    refine W.region _ ?_
    refine WG.run tab_ok 1 rfl ?_
    refine WG.nil ?_
    refine WE.nxt ?_
    refine W.ret ?_
    refine WE.then_ret ?_
    refine WE.subE (E' := E) (by (repeat (first | exact List.Sublist.refl _ | exact List.nil_sublist _ | apply List.Sublist.cons_cons | apply List.Sublist.cons)); done) ?_
    refine WE.retF tab_ok [_] rfl ⟨rfl, trivial⟩ (RLe.refl _) ?_
    exact ⟨by unfold validate; rw [if_pos (show 60 < ps.length by omega)]; rfl, rfl⟩
  · try dsimp only at hc0
    refine W.skip ?_
    refine WE.nxt ?_
    refine W.seq ?_
    refine W.region _ ?_
    refine WG.run tab_ok 1 rfl ?_
    refine WG.nil ?_
    refine WE.nxt ?_
    refine W.seq ?_
    refine W.seq ?_
    refine W.region _ ?_
    refine WG.run tab_ok 3 rfl ?_
    refine WG.nil ?_
    refine WE.nxt ?_
    refine W.block ?_
    refine W.loop (β := Nat × Int) (fun (k, last) => k ≤ ps.length ∧ valGo last (ps.drop k) = valGo 0 ps) (fun (k, last) => [(0, true, .slice a ps.length c), (3, true, .int .i64 last), (9, true, .slice a ps.length c), (10, true, .int .i64 ps.length), (11, true, .int .i64 (k : Int))]) (fun _ => R) (fun _ => E) (fun (k, last) => ps.length - k) ((0, 0)) (⟨Nat.zero_le _, rfl⟩) ⟨rfl, rfl, rfl, rfl, rfl, rfl⟩ (RLe.refl _) (by (repeat (first | exact List.Sublist.refl _ | exact List.nil_sublist _ | apply List.Sublist.cons_cons | apply List.Sublist.cons)); done) ?_
    intro st hst
    obtain ⟨k, last⟩ := st
    obtain ⟨hk, hv⟩ := hst
    dsimp only
    refine W.seq ?_
    refine W.region _ ?_
    refine WG.run tab_ok 1 rfl ?_
    refine WG.nil ?_
    refine WE.nxt ?_
    refine W.seq ?_
    refine W.condD rfl (fun hc1 => ?_) (fun hc1 => ?_)
    · try dsimp only at hc1
      have hd := drop_nth (xs := ps) (k := k) (by omega)
      rw [hd, valGo] at hv
      refine W.skip ?_
      refine WE.nxt ?_
      refine W.seq ?_
      refine W.block ?_
      refine W.seq ?_
      refine W.region _ ?_
      refine WG.y rfl rfl (by decide) (Yl.indexN tab_ok rfl rfl rfl rfl rfl rfl (fun _ => rfl) (by intro _; (try dsimp only) <;> omega) (by intro _; first | exact fun _ _ _ _ => rfl | exact RS.has (by assumption) | exact fun _ _ _ _ => (by assumption) | exact HasMem.ownD 0 rfl | exact HasMem.ownD 1 rfl | exact HasMem.ownD 2 rfl | exact HasMem.ownD 3 rfl | exact HasMem.ownD 4 rfl | exact HasMem.ownD 5 rfl | exact HasMem.ownD 6 rfl | exact HasMem.ownD 7 rfl)) ?_
      refine' WG.y rfl rfl (by decide) (Yl.load1 tab_ok rfl rfl rfl (fun _ => rfl) ?r1 rfl ?h1) ?_
      case r1 => (first | (apply RS.rdD; assumption; ((try dsimp only) <;> omega)) | exact Rd.slD 0 rfl (by (try dsimp only) <;> omega) | exact Rd.slD 1 rfl (by (try dsimp only) <;> omega) | exact Rd.slD 2 rfl (by (try dsimp only) <;> omega) | exact Rd.slD 3 rfl (by (try dsimp only) <;> omega) | exact Rd.slD 4 rfl (by (try dsimp only) <;> omega) | exact Rd.slD 5 rfl (by (try dsimp only) <;> omega) | exact Rd.slD 6 rfl (by (try dsimp only) <;> omega) | exact Rd.slD 7 rfl (by (try dsimp only) <;> omega))
      case h1 => rfl
      refine WL.ef rfl rfl (by decide) (Ef.alloc tab_ok rfl rfl (fun b5 => ?_))
      first | refine WL.efN rfl rfl (Ef.store0 0 tab_ok rfl rfl rfl rfl rfl rfl rfl rfl ?_) | refine WL.efN rfl rfl (Ef.store0 1 tab_ok rfl rfl rfl rfl rfl rfl rfl rfl ?_) | refine WL.efN rfl rfl (Ef.store0 2 tab_ok rfl rfl rfl rfl rfl rfl rfl rfl ?_) | refine WL.efN rfl rfl (Ef.store0 3 tab_ok rfl rfl rfl rfl rfl rfl rfl rfl ?_) | refine WL.efN rfl rfl (Ef.store0 4 tab_ok rfl rfl rfl rfl rfl rfl rfl rfl ?_) | refine WL.efN rfl rfl (Ef.store0 5 tab_ok rfl rfl rfl rfl rfl rfl rfl rfl ?_) | refine WL.efN rfl rfl (Ef.store0 6 tab_ok rfl rfl rfl rfl rfl rfl rfl rfl ?_) | refine WL.efN rfl rfl (Ef.store0 7 tab_ok rfl rfl rfl rfl rfl rfl rfl rfl ?_)
      refine WG.nil ?_
      refine WE.nxt ?_
      refine W.seq ?_
      refine W.seq ?_
      refine W.region _ ?_
      refine WG.run tab_ok 1 rfl ?_
      refine' WG.y rfl rfl (by decide) (Yl.load1 tab_ok rfl rfl rfl (fun _ => rfl) ?r2 rfl ?h2) ?_
      case r2 => apply Rd.add; (first | exact Rd.blk 0 rfl | exact Rd.blk 1 rfl | exact Rd.blk 2 rfl | exact Rd.blk 3 rfl | exact Rd.blk 4 rfl | exact Rd.blk 5 rfl | exact Rd.blk 6 rfl | exact Rd.blk 7 rfl)
      case h2 => rfl
      refine WG.run tab_ok 2 rfl ?_
      refine WG.y rfl rfl (by decide) (pureV_ok tab_ok rfl (by first | exact fun _ => rfl | exact fun h => h | (intro h; simp_all))) ?_
      refine' WG.y rfl rfl (by decide) (Yl.loadG tab_ok rfl rfl rfl (by first | exact fun _ => rfl | exact fun h => h | (intro h; simp_all)) ?r3 rfl ?h3 ?g3) ?_
      case r3 => apply Rd.addC; (first | exact Rd.blkC 0 rfl | exact Rd.blkC 1 rfl | exact Rd.blkC 2 rfl | exact Rd.blkC 3 rfl | exact Rd.blkC 4 rfl | exact Rd.blkC 5 rfl | exact Rd.blkC 6 rfl | exact Rd.blkC 7 rfl)
      case h3 => rfl
      case g3 => first | exact fun _ => trivial | (intro hg; (try simp only [decide_eq_true_eq, decide_eq_false_iff_not, beq_iff_eq, bne_iff_ne, beq_eq_false_iff_ne, bne_eq_false_iff_eq, ne_eq, Bool.or_eq_true, Bool.or_eq_false_iff, Bool.and_eq_true, Bool.and_eq_false_imp, Bool.not_eq_true, Bool.not_eq_true', Bool.not_eq_false', Classical.not_not, Int.not_lt, Int.not_le, gt_iff_lt, ge_iff_le] at hg); (try dsimp only); omega)
      refine WG.y rfl rfl (by decide) (pureV_ok tab_ok rfl (by first | exact fun _ => rfl | exact fun h => h | (intro h; simp_all))) ?_
      refine WG.y rfl rfl (by decide) (Yl.por rfl rfl rfl (fun _ => rfl) (by intro h1 h2; simp_all <;> omega)) ?_
      refine WG.run tab_ok 1 rfl ?_
      refine WG.y rfl rfl (by decide) (pureV_ok tab_ok rfl (by first | exact fun _ => rfl | exact fun h => h | (intro h; simp_all))) ?_
      refine' WG.y rfl rfl (by decide) (Yl.loadG tab_ok rfl rfl rfl (by first | exact fun _ => rfl | exact fun h => h | (intro h; simp_all)) ?r4 rfl ?h4 ?g4) ?_
      case r4 => apply Rd.addC; (first | exact Rd.blkC 0 rfl | exact Rd.blkC 1 rfl | exact Rd.blkC 2 rfl | exact Rd.blkC 3 rfl | exact Rd.blkC 4 rfl | exact Rd.blkC 5 rfl | exact Rd.blkC 6 rfl | exact Rd.blkC 7 rfl)
      case h4 => rfl
      case g4 => first | exact fun _ => trivial | (intro hg; (try simp only [decide_eq_true_eq, decide_eq_false_iff_not, beq_iff_eq, bne_iff_ne, beq_eq_false_iff_ne, bne_eq_false_iff_eq, ne_eq, Bool.or_eq_true, Bool.or_eq_false_iff, Bool.and_eq_true, Bool.and_eq_false_imp, Bool.not_eq_true, Bool.not_eq_true', Bool.not_eq_false', Classical.not_not, Int.not_lt, Int.not_le, gt_iff_lt, ge_iff_le] at hg); (try dsimp only); omega)
      refine WG.y rfl rfl (by decide) (pureV_ok tab_ok rfl (by first | exact fun _ => rfl | exact fun h => h | (intro h; simp_all))) ?_
      refine WG.y rfl rfl (by decide) (Yl.por rfl rfl rfl (fun _ => rfl) (by intro h1 h2; simp_all <;> omega)) ?_
      refine WG.run tab_ok 1 rfl ?_
      refine WG.y rfl rfl (by decide) (pureV_ok tab_ok rfl (by first | exact fun _ => rfl | exact fun h => h | (intro h; simp_all))) ?_
      refine' WG.y rfl rfl (by decide) (Yl.loadG tab_ok rfl rfl rfl (by first | exact fun _ => rfl | exact fun h => h | (intro h; simp_all)) ?r5 rfl ?h5 ?g5) ?_
      case r5 => apply Rd.addC; (first | exact Rd.blkC 0 rfl | exact Rd.blkC 1 rfl | exact Rd.blkC 2 rfl | exact Rd.blkC 3 rfl | exact Rd.blkC 4 rfl | exact Rd.blkC 5 rfl | exact Rd.blkC 6 rfl | exact Rd.blkC 7 rfl)
      case h5 => rfl
      case g5 => first | exact fun _ => trivial | (intro hg; (try simp only [decide_eq_true_eq, decide_eq_false_iff_not, beq_iff_eq, bne_iff_ne, beq_eq_false_iff_ne, bne_eq_false_iff_eq, ne_eq, Bool.or_eq_true, Bool.or_eq_false_iff, Bool.and_eq_true, Bool.and_eq_false_imp, Bool.not_eq_true, Bool.not_eq_true', Bool.not_eq_false', Classical.not_not, Int.not_lt, Int.not_le, gt_iff_lt, ge_iff_le] at hg); (try dsimp only); omega)
      refine WG.y rfl rfl (by decide) (pureV_ok tab_ok rfl (by first | exact fun _ => rfl | exact fun h => h | (intro h; simp_all))) ?_
      refine WG.y rfl rfl (by decide) (Yl.por rfl rfl rfl (fun _ => rfl) (by intro h1 h2; simp_all <;> omega)) ?_
      refine WG.run tab_ok 1 rfl ?_
      refine WG.y rfl rfl (by decide) (pureV_ok tab_ok rfl (by first | exact fun _ => rfl | exact fun h => h | (intro h; simp_all))) ?_
      refine' WG.y rfl rfl (by decide) (Yl.loadG tab_ok rfl rfl rfl (by first | exact fun _ => rfl | exact fun h => h | (intro h; simp_all)) ?r6 rfl ?h6 ?g6) ?_
      case r6 => apply Rd.addC; (first | exact Rd.blkC 0 rfl | exact Rd.blkC 1 rfl | exact Rd.blkC 2 rfl | exact Rd.blkC 3 rfl | exact Rd.blkC 4 rfl | exact Rd.blkC 5 rfl | exact Rd.blkC 6 rfl | exact Rd.blkC 7 rfl)
      case h6 => rfl
      case g6 => first | exact fun _ => trivial | (intro hg; (try simp only [decide_eq_true_eq, decide_eq_false_iff_not, beq_iff_eq, bne_iff_ne, beq_eq_false_iff_ne, bne_eq_false_iff_eq, ne_eq, Bool.or_eq_true, Bool.or_eq_false_iff, Bool.and_eq_true, Bool.and_eq_false_imp, Bool.not_eq_true, Bool.not_eq_true', Bool.not_eq_false', Classical.not_not, Int.not_lt, Int.not_le, gt_iff_lt, ge_iff_le] at hg); (try dsimp only); omega)
      refine WG.y rfl rfl (by decide) (pureV_ok tab_ok rfl (by first | exact fun _ => rfl | exact fun h => h | (intro h; simp_all))) ?_
      refine WG.y rfl rfl (by decide) (Yl.por rfl rfl rfl (fun _ => rfl) (by intro h1 h2; simp_all <;> omega)) ?_
      refine WG.run tab_ok 1 rfl ?_
      refine WG.y rfl rfl (by decide) (pureV_ok tab_ok rfl (by first | exact fun _ => rfl | exact fun h => h | (intro h; simp_all))) ?_
      refine' WG.y rfl rfl (by decide) (Yl.loadG tab_ok rfl rfl rfl (by first | exact fun _ => rfl | exact fun h => h | (intro h; simp_all)) ?r7 rfl ?h7 ?g7) ?_
      case r7 => apply Rd.addC; (first | exact Rd.blkC 0 rfl | exact Rd.blkC 1 rfl | exact Rd.blkC 2 rfl | exact Rd.blkC 3 rfl | exact Rd.blkC 4 rfl | exact Rd.blkC 5 rfl | exact Rd.blkC 6 rfl | exact Rd.blkC 7 rfl)
      case h7 => rfl
      case g7 => first | exact fun _ => trivial | (intro hg; (try simp only [decide_eq_true_eq, decide_eq_false_iff_not, beq_iff_eq, bne_iff_ne, beq_eq_false_iff_ne, bne_eq_false_iff_eq, ne_eq, Bool.or_eq_true, Bool.or_eq_false_iff, Bool.and_eq_true, Bool.and_eq_false_imp, Bool.not_eq_true, Bool.not_eq_true', Bool.not_eq_false', Classical.not_not, Int.not_lt, Int.not_le, gt_iff_lt, ge_iff_le] at hg); (try dsimp only); omega)
      refine WG.y rfl rfl (by decide) (pureV_ok tab_ok rfl (by first | exact fun _ => rfl | exact fun h => h | (intro h; simp_all))) ?_
      refine WG.y rfl rfl (by decide) (Yl.por rfl rfl rfl (fun _ => rfl) (by intro h1 h2; simp_all <;> omega)) ?_
      refine WG.nil ?_
      refine WE.nxt ?_
      refine W.cond rfl (fun hc2 => ?_) (fun hc2 => ?_)
      · try simp only [decide_eq_true_eq, decide_eq_false_iff_not, beq_iff_eq, bne_iff_ne, beq_eq_false_iff_ne, bne_eq_false_iff_eq, ne_eq, Bool.or_eq_true, Bool.or_eq_false_iff, Bool.and_eq_true, Bool.and_eq_false_imp, Bool.not_eq_true, Bool.not_eq_true', Bool.not_eq_false', Classical.not_not, Int.not_lt, Int.not_le, gt_iff_lt, ge_iff_le] at hc2
        rw [if_pos (show BadP (nth ps k) by unfold BadP; omega)] at hv
        refine W.seq ?_
        refine W.region _ ?_
        refine WG.run tab_ok 1 rfl ?_
        refine WG.nil ?_
        refine WE.nxt ?_
        refine W.ret ?_
        refine WE.then_ret ?_
        refine WE.blk_ret ?_
        refine WE.then_ret ?_
        refine WE.then_ret ?_
        refine WE.blk_ret ?_
        refine WE.then_ret ?_
        refine WE.subE (E' := E) (by (repeat (first | exact List.Sublist.refl _ | exact List.nil_sublist _ | apply List.Sublist.cons_cons | apply List.Sublist.cons)); done) ?_
        refine WE.retF tab_ok [_] rfl ⟨rfl, trivial⟩ (RLe.refl _) ?_
        exact ⟨by unfold validate; rw [if_neg (show ¬ 60 < ps.length by omega), ← hv]; rfl, rfl⟩
      · try simp only [decide_eq_true_eq, decide_eq_false_iff_not, beq_iff_eq, bne_iff_ne, beq_eq_false_iff_ne, bne_eq_false_iff_eq, ne_eq, Bool.or_eq_true, Bool.or_eq_false_iff, Bool.and_eq_true, Bool.and_eq_false_imp, Bool.not_eq_true, Bool.not_eq_true', Bool.not_eq_false', Classical.not_not, Int.not_lt, Int.not_le, gt_iff_lt, ge_iff_le] at hc2
        rw [if_neg (show ¬ BadP (nth ps k) by unfold BadP; omega)] at hv
        refine W.skip ?_
        refine WE.nxt ?_
        refine W.seq ?_
        refine W.seq ?_
        refine W.region _ ?_
        refine WG.run tab_ok 1 rfl ?_
        refine' WG.y rfl rfl (by decide) (Yl.load1 tab_ok rfl rfl rfl (fun _ => rfl) ?r8 rfl ?h8) ?_
        case r8 => apply Rd.add; (first | exact Rd.blk 0 rfl | exact Rd.blk 1 rfl | exact Rd.blk 2 rfl | exact Rd.blk 3 rfl | exact Rd.blk 4 rfl | exact Rd.blk 5 rfl | exact Rd.blk 6 rfl | exact Rd.blk 7 rfl)
        case h8 => rfl
        refine WG.run tab_ok 2 rfl ?_
        refine WG.nil ?_
        refine WE.nxt ?_
        refine W.condD rfl (fun hc3 => ?_) (fun hc3 => ?_)
        · try dsimp only at hc3
          rw [if_pos hc3] at hv
          refine W.seq ?_
          refine W.region _ ?_
          refine WG.run tab_ok 1 rfl ?_
          refine WG.nil ?_
          refine WE.nxt ?_
          refine W.ret ?_
          refine WE.then_ret ?_
          refine WE.blk_ret ?_
          refine WE.then_ret ?_
          refine WE.then_ret ?_
          refine WE.blk_ret ?_
          refine WE.then_ret ?_
          refine WE.subE (E' := E) (by (repeat (first | exact List.Sublist.refl _ | exact List.nil_sublist _ | apply List.Sublist.cons_cons | apply List.Sublist.cons)); done) ?_
          refine WE.retF tab_ok [_] rfl ⟨rfl, trivial⟩ (RLe.refl _) ?_
          exact ⟨by unfold validate; rw [if_neg (show ¬ 60 < ps.length by omega), ← hv]; rfl, rfl⟩
        · try dsimp only at hc3
          rw [if_neg hc3] at hv
          refine W.skip ?_
          refine WE.nxt ?_
          refine W.region _ ?_
          refine WG.run tab_ok 1 rfl ?_
          refine' WG.y rfl rfl (by decide) (Yl.load1 tab_ok rfl rfl rfl (fun _ => rfl) ?r9 rfl ?h9) ?_
          case r9 => apply Rd.add; (first | exact Rd.blk 0 rfl | exact Rd.blk 1 rfl | exact Rd.blk 2 rfl | exact Rd.blk 3 rfl | exact Rd.blk 4 rfl | exact Rd.blk 5 rfl | exact Rd.blk 6 rfl | exact Rd.blk 7 rfl)
          case h9 => rfl
          refine WG.run tab_ok 1 rfl ?_
          refine WG.nil ?_
          refine WE.blk _ ?_
          refine WE.nxt ?_
          refine W.region _ ?_
          refine WG.y rfl rfl (by decide) (Yl.add rfl rfl rfl (fun _ => rfl) (by intro _; constructor <;> (try dsimp only) <;> omega)) ?_
          refine WG.run tab_ok 1 rfl ?_
          refine WG.nil ?_
          refine WE.again ((k + 1, (nth ps k).time)) (⟨by dsimp only; omega, hv⟩) (by (try dsimp only); omega) ⟨rfl, rfl, rfl, rfl, rfl, rfl⟩ (RLe.refl _) (by (repeat (first | exact List.Sublist.refl _ | exact List.nil_sublist _ | apply List.Sublist.cons_cons | apply List.Sublist.cons)); done)
    · try dsimp only at hc1
      obtain rfl : k = ps.length := by omega
      simp only [List.drop_length, valGo] at hv
      refine W.exit ?_
      refine WE.then_exit ?_
      refine WE.then_exit ?_
      refine WE.blk_exit ?_
      refine WE.nxt ?_
      refine W.seq ?_
      refine W.region _ ?_
      refine WG.run tab_ok 1 rfl ?_
      refine WG.nil ?_
      refine WE.nxt ?_
      refine W.ret ?_
      refine WE.subE (E' := E) (by (repeat (first | exact List.Sublist.refl _ | exact List.nil_sublist _ | apply List.Sublist.cons_cons | apply List.Sublist.cons)); done) ?_
      refine WE.retF tab_ok [_] rfl ⟨rfl, trivial⟩ (RLe.refl _) ?_
      exact ⟨by unfold validate; rw [if_neg (show ¬ 60 < ps.length by omega), ← hv]; rfl, rfl⟩

end Go.Proofs.Ytnaeefefggmomaa
