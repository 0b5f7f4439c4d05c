/- A machine that is never idle, plain: what all classes together are sent, and in which order packets end, whatever the choice. No condition. -/
import Derived.Test.YtcfnckccmkjjlaaMove
namespace Go.Proofs.Ytcfnckccmkjjlaa.M
open Go Go.Proofs.Ytcfnckccmkjjlaa.K

/-- all classes together -/
def colSum : List (List Int) → Nat → Int
  | [], _ => 0
  | l :: ls, t => nth l t + colSum ls t
/-- the bytes of the packets that have been begun -/
def begB : List Pkt → List Bool → Int
  | p :: ps, b :: bs => (if b then p.size else 0) + begB ps bs
  | _, _ => 0
theorem colSum_set : ∀ (sent : List (List Int)) (f : Nat) (l : List Int) (t : Nat), f < sent.length → colSum (sent.set f l) t = colSum sent t - nth (nth sent f) t + nth l t
  | [], f, l, t, h => by simp at h
  | x :: xs, 0, l, t, h => by simp [colSum, nth]; omega
  | x :: xs, f + 1, l, t, h => by
    have := colSum_set xs f l t (by simpa using h)
    simp only [List.set_cons_succ, colSum, this]
    rw [show nth (x :: xs) (f + 1) = nth xs f from rfl]; omega
theorem colSum_append : ∀ (a b : List (List Int)) (t : Nat), colSum (a ++ b) t = colSum a t + colSum b t
  | [], b, t => by simp [colSum]
  | x :: xs, b, t => by simp only [List.cons_append, colSum, colSum_append xs b t]; omega
theorem colSum_map {g : List Int → List Int} {t u : Nat} : ∀ (sent : List (List Int)), (∀ l ∈ sent, nth (g l) t = nth l u) → colSum (sent.map g) t = colSum sent u
  | [], _ => rfl
  | x :: xs, h => by
    simp only [List.map_cons, colSum]
    rw [h x (by simp), colSum_map xs (fun l hl => h l (by simp [hl]))]
theorem begB_set : ∀ (ps : List Pkt) (bs : List Bool) (i : Nat), i < ps.length → i < bs.length → nth bs i = false → begB ps (bs.set i true) = begB ps bs + (nth ps i).size
  | [], _, i, h, _, _ => by simp at h
  | _ :: _, [], i, _, h, _ => by simp at h
  | p :: ps, b :: bs, 0, _, _, hb => by
    have : b = false := hb
    subst this
    simp [begB, nth]; omega
  | p :: ps, b :: bs, i + 1, h1, h2, hb => by
    have := begB_set ps bs i (by simpa using h1) (by simpa using h2) hb
    simp only [List.set_cons_succ, begB, this]
    rw [show nth (p :: ps) (i + 1) = nth ps i from rfl]; omega
theorem begB_le {t : Int} : ∀ (ps : List Pkt) (bs : List Bool), bs.length = ps.length → (∀ p ∈ ps, 0 ≤ p.size) → (∀ i, i < ps.length → nth bs i = true → (nth ps i).time ≤ t) → begB ps bs ≤ pbytes (-1) (t + 1) ps
  | [], [], _, _, _ => by simp [begB, pbytes]
  | [], _ :: _, h, _, _ => by simp at h
  | _ :: _, [], h, _, _ => by simp at h
  | p :: ps, b :: bs, hl, hs, h => by
    have ih := begB_le ps bs (by simpa using hl) (fun q hq => hs q (by simp [hq])) (fun i hi hb => h (i + 1) (by simpa using hi) hb)
    have hp := hs p (by simp)
    simp only [begB, pbytes]
    have h0 : b = true → hit (-1) (t + 1) p := fun hb => by have := h 0 (by simp) hb; simp [nth] at this; unfold hit; omega
    cases b with
    | true => rw [if_pos rfl, if_pos (h0 rfl)]; omega
    | false => simp only [Bool.false_eq_true, if_false]; split <;> omega
theorem begB_eq {t : Int} : ∀ (ps : List Pkt) (bs : List Bool), bs.length = ps.length → (∀ i, i < ps.length → (nth bs i = true ↔ (nth ps i).time ≤ t)) → begB ps bs = pbytes (-1) (t + 1) ps
  | [], [], _, _ => by simp [begB, pbytes]
  | [], _ :: _, h, _ => by simp at h
  | _ :: _, [], h, _ => by simp at h
  | p :: ps, b :: bs, hl, h => by
    have ih := begB_eq ps bs (by simpa using hl) (fun i hi => h (i + 1) (by simpa using hi))
    simp only [begB, pbytes]
    have h0 := h 0 (by simp)
    simp [nth] at h0
    have h1 : b = true ↔ hit (-1) (t + 1) p := by rw [h0]; unfold hit; omega
    by_cases hb : b = true
    · rw [if_pos hb, if_pos (h1.1 hb)]; omega
    · rw [if_neg hb, if_neg (fun h => hb (h1.2 h))]; omega
theorem begB_none : ∀ (ps : List Pkt) (n : Nat), begB ps (List.replicate n false) = 0
  | [], _ => by simp [begB]
  | _ :: _, 0 => by simp [begB]
  | p :: ps, n + 1 => by simp [List.replicate_succ, begB, begB_none ps n]

/-- a choice of what waits; within rel the first -/
structure Fair {σ : Type} (ps : List Pkt) (ch : MS → σ → Int × Nat × σ) (good : MS → σ → Prop) (rel : Nat → Nat → Prop) : Prop extends Good ps ch good where
  waits : ∀ ms sg, good ms sg → ms.begun.length = ps.length → 0 ≤ (ch ms sg).1 → nth ms.begun (ch ms sg).1.toNat = false ∧ (nth ps (ch ms sg).1.toNat).time ≤ ms.now
  ord : ∀ ms sg, good ms sg → ms.begun.length = ps.length → 0 ≤ (ch ms sg).1 → ∀ i, i < (ch ms sg).1.toNat → rel i (ch ms sg).1.toNat → nth ms.begun i = true
/-- never idle while something waits -/
def Busy {σ : Type} (ps : List Pkt) (ch : MS → σ → Int × Nat × σ) (good : MS → σ → Prop) : Prop :=
  ∀ ms sg, good ms sg → ms.begun.length = ps.length → (ch ms sg).1 < 0 → ∀ i, i < ps.length → (nth ps i).time ≤ ms.now → nth ms.begun i = true

/-- what stays true: col is the column of the sums that is open -/
structure Wk {σ : Type} (ps : List Pkt) (classes : Nat) (good : MS → σ → Prop) (rel : Nat → Nat → Prop) (col : Nat) (s : RS σ) : Prop where
  good : good s.ms s.sg
  dlen : s.done.length = ps.length
  blen : s.ms.begun.length = ps.length
  slen : s.sent.length = classes
  rlen : ∀ l ∈ s.sent, l.length = col + 1
  cur : 0 ≤ s.cur → s.cur < ps.length ∧ nth s.ms.begun s.cur.toNat = true ∧ 1 ≤ s.rest
  open_ : ∀ i, i < ps.length → (nth s.ms.begun i = false ∨ s.cur = i) → nth s.done i = -1
  shut : ∀ i, i < ps.length → nth s.ms.begun i = true → s.cur ≠ i → 0 ≤ nth s.done i ∧ nth s.done i ≤ s.ms.now ∧ (nth ps i).time ≤ nth s.done i
  time : ∀ i, i < ps.length → nth s.ms.begun i = true → (nth ps i).time ≤ s.ms.now
  ord : ∀ k, k < ps.length → nth s.ms.begun k = true → ∀ i, i < k → rel i k → nth s.ms.begun i = true
  dord : ∀ k, k < ps.length → 0 ≤ nth s.done k → ∀ i, i < k → rel i k → 0 ≤ nth s.done i ∧ nth s.done i ≤ nth s.done k
  sum : colSum s.sent col = begB ps s.ms.begun - (if 0 ≤ s.cur then s.rest else 0)
section
variable {σ : Type} {ps : List Pkt} {ch : MS → σ → Int × Nat × σ} {good : MS → σ → Prop} {rel : Nat → Nat → Prop} {classes col : Nat} {s : RS σ}
theorem Wk.pickup (hg : Fair ps ch good rel) (hs : ∀ p ∈ ps, 1 ≤ p.size) (h : Wk ps classes good rel col s) : Wk ps classes good rel col (pickup ps ch s) := by
  unfold M.pickup
  by_cases hc : 0 ≤ s.cur
  · rw [if_pos hc]; exact h
  · rw [if_neg hc]
    by_cases hr : (ch s.ms s.sg).1 < 0
    · simp only [hr, if_true]
      exact ⟨hg.none _ _ h.good h.blen hr, h.dlen, h.blen, h.slen, h.rlen, fun h0 => by dsimp only at h0; omega, fun i hi ho => h.open_ i hi (by rcases ho with ho | ho; exact .inl ho; dsimp only at ho; omega),
        fun i hi hb hne => h.shut i hi hb (by omega), h.time, h.ord, h.dord, by dsimp only; rw [h.sum, if_neg hc, if_neg (by omega)]⟩
    · simp only [hr, if_false]
      have hi := hg.idx _ _ h.good h.blen (by omega)
      obtain ⟨w1, w2⟩ := hg.waits _ _ h.good h.blen (by omega)
      have w3 := hg.ord _ _ h.good h.blen (by omega)
      have hgs := hg.some _ _ h.good h.blen (by omega)
      generalize hj : (ch s.ms s.sg).1 = j at hr hi w1 w2 w3 hgs ⊢
      have hjn : j.toNat < ps.length := by omega
      have hbs : ∀ i, nth (s.ms.begun.set j.toNat true) i = true ↔ i = j.toNat ∨ nth s.ms.begun i = true := fun i => by
        by_cases e : j.toNat = i
        · subst e; rw [nth_set_self (by rw [h.blen]; exact hjn)]; simp
        · rw [nth_set_ne e]; constructor
          · exact .inr
          · rintro (e2 | h2)
            · exact absurd e2.symm e
            · exact h2
      refine ⟨hgs, h.dlen, by simp [h.blen], h.slen, h.rlen, fun _ => ⟨hi, (hbs _).2 (.inl rfl), hs _ (nth_mem hjn)⟩, fun i hi' ho => ?_, fun i hi' hb hne => ?_, fun i hi' hb => ?_, fun k hk hb i hik hr' => ?_, h.dord, ?_⟩
      · dsimp only at ho ⊢
        apply h.open_ i hi'
        left
        rcases ho with ho | ho
        · cases hb : nth s.ms.begun i with
          | false => rfl
          | true => rw [(hbs i).2 (.inr hb)] at ho; cases ho
        · rw [show i = j.toNat by omega]; exact w1
      · dsimp only at hb hne ⊢
        rcases (hbs i).1 hb with e | hb
        · omega
        · exact h.shut i hi' hb (by omega)
      · dsimp only at hb ⊢
        rcases (hbs i).1 hb with e | hb
        · subst e; exact w2
        · exact h.time i hi' hb
      · dsimp only at hb ⊢
        refine (hbs i).2 (.inr ?_)
        rcases (hbs k).1 hb with e | hb
        · subst e; exact w3 i hik hr'
        · exact h.ord k hk hb i hik hr'
      · dsimp only
        rw [h.sum, begB_set _ _ _ hjn (by rw [h.blen]; exact hjn) w1, if_neg hc, if_pos (by omega)]; omega
theorem Wk.send (hfl : ∀ p ∈ ps, 0 ≤ p.flow ∧ p.flow < classes) (hfree : ∀ ms sg n l, good ms sg → good { ms with now := n, left := l } sg) {t : Nat} (h : Wk ps classes good rel (t + 1) s) (hnow : s.ms.now = t) (hc : 0 ≤ s.cur) (hl : 0 < s.ms.left) :
    Wk ps classes good rel (t + 1) (send ps t s) ∧ colSum (send ps t s).sent (t + 1) = colSum s.sent (t + 1) + (s.ms.left - (send ps t s).ms.left) ∧ 0 ≤ (send ps t s).ms.left ∧ (send ps t s).ms.left < s.ms.left ∧ (send ps t s).ms.now = s.ms.now ∧
      ∀ c u, c < classes → u < t + 1 → nth (nth (send ps t s).sent c) u = nth (nth s.sent c) u := by
  obtain ⟨c1, c2, c3⟩ := h.cur hc
  have hfl' := hfl _ (nth_mem (show s.cur.toNat < ps.length by omega))
  have hn : 1 ≤ (if s.ms.left < s.rest then s.ms.left else s.rest) ∧ (if s.ms.left < s.rest then s.ms.left else s.rest) ≤ s.rest ∧ (if s.ms.left < s.rest then s.ms.left else s.rest) ≤ s.ms.left := by split <;> omega
  unfold M.send
  generalize (if s.ms.left < s.rest then s.ms.left else s.rest) = n at hn ⊢
  have hf : (nth ps s.cur.toNat).flow.toNat < s.sent.length := by rw [h.slen]; omega
  generalize (nth ps s.cur.toNat).flow.toNat = f at hf ⊢
  have hrow := h.rlen _ (nth_mem hf)
  have hcol : colSum (s.sent.set f ((nth s.sent f).set (t + 1) (nth (nth s.sent f) (t + 1) + n))) (t + 1) = colSum s.sent (t + 1) + n := by
    rw [colSum_set _ _ _ _ hf, nth_set_self (by omega)]; omega
  have hsum := h.sum
  rw [if_pos hc] at hsum
  dsimp only
  refine ⟨⟨hfree _ _ s.ms.now _ h.good, ?_, h.blen, by simp [h.slen], ?_, ?_, ?_, ?_, h.time, h.ord, ?_, ?_⟩, by rw [hcol]; omega, by omega, by omega, rfl, ?_⟩
  · dsimp only; split <;> simp [h.dlen]
  · dsimp only
    intro l hl'
    rcases List.mem_or_eq_of_mem_set hl' with h1 | rfl
    · exact h.rlen l h1
    · simp [hrow]
  · dsimp only
    intro h0
    by_cases hz : s.rest - n = 0
    · rw [if_pos hz] at h0; omega
    · rw [if_neg hz]; exact ⟨c1, c2, by omega⟩
  · dsimp only
    intro i hi ho
    by_cases hz : s.rest - n = 0
    · rw [if_pos hz] at ho ⊢
      rcases ho with ho | ho
      · by_cases e : s.cur.toNat = i
        · rw [e, ho] at c2; cases c2
        · rw [nth_set_ne e]; exact h.open_ i hi (.inl ho)
      · omega
    · rw [if_neg hz] at ho ⊢; exact h.open_ i hi ho
  · dsimp only
    intro i hi hb hne
    by_cases hz : s.rest - n = 0
    · rw [if_pos hz] at hne ⊢
      by_cases e : s.cur.toNat = i
      · subst e
        rw [nth_set_self (by rw [h.dlen]; omega)]
        have := h.time _ hi hb
        omega
      · rw [nth_set_ne e]; exact h.shut i hi hb (by omega)
    · rw [if_neg hz] at hne ⊢; exact h.shut i hi hb hne
  · dsimp only
    by_cases hz : s.rest - n = 0
    · rw [if_pos hz]
      intro k hk hd i hik hr
      by_cases e : s.cur.toNat = k
      · subst e
        rw [nth_set_self (by rw [h.dlen]; omega), nth_set_ne (by omega)]
        have := h.shut i (by omega) (h.ord _ hk c2 i hik hr) (by omega)
        omega
      · rw [nth_set_ne e] at hd ⊢
        have h1 := h.dord k hk hd i hik hr
        by_cases e2 : s.cur.toNat = i
        · have := h.open_ i (by omega) (.inr (by omega))
          omega
        · rw [nth_set_ne e2]; exact h1
    · rw [if_neg hz]; exact h.dord
  · dsimp only
    rw [hcol, hsum]
    by_cases hz : s.rest - n = 0
    · rw [if_pos hz, if_neg (by omega)]; omega
    · rw [if_neg hz, if_pos hc]; omega
  · intro c u hc' hu
    by_cases e : f = c
    · subst e; rw [nth_set_self hf, nth_set_ne (by omega)]
    · rw [nth_set_ne e]

/-- the end of a tick: all bytes are gone, or nothing waits -/
theorem Wk.inner (hg : Fair ps ch good rel) (hs : ∀ p ∈ ps, 1 ≤ p.size) (hfl : ∀ p ∈ ps, 0 ≤ p.flow ∧ p.flow < classes) {t : Nat} : ∀ (j : Nat) (s : RS σ), Wk ps classes good rel (t + 1) s → s.ms.now = t → 0 ≤ s.ms.left → s.ms.left ≤ j →
    ∃ s', inner ps ch t j s = s' ∧ Wk ps classes good rel (t + 1) s' ∧ s'.ms.now = t ∧ 0 ≤ s'.ms.left ∧ colSum s'.sent (t + 1) = colSum s.sent (t + 1) + (s.ms.left - s'.ms.left) ∧
      (s'.ms.left = 0 ∨ s'.cur < 0 ∧ (Busy ps ch good → ∀ i, i < ps.length → (nth ps i).time ≤ (t : Int) → nth s'.ms.begun i = true)) ∧ ∀ c u, c < classes → u < t + 1 → nth (nth s'.sent c) u = nth (nth s.sent c) u
  | 0, s, h, hn, h0, hj => ⟨s, rfl, h, hn, h0, by omega, .inl (by omega), fun _ _ _ _ => rfl⟩
  | j + 1, s, h, hn, h0, hj => by
    simp only [M.inner]
    by_cases hl : s.ms.left ≤ 0
    · rw [if_pos hl]
      exact ⟨s, rfl, h, hn, h0, by omega, .inl (by omega), fun _ _ _ _ => rfl⟩
    · rw [if_neg hl]
      have hp := h.pickup hg hs
      obtain ⟨e1, e2, e3, e4⟩ := pickup_same ps ch s
      by_cases hc : (M.pickup ps ch s).cur < 0
      · rw [if_pos hc]
        refine ⟨_, rfl, hp, by rw [e2]; exact hn, by rw [e1]; exact h0, by rw [e1, e3]; omega, .inr ⟨hc, fun hb => ?_⟩, fun c u _ _ => by rw [e3]⟩
        intro i hi ht
        unfold M.pickup at hc ⊢
        by_cases hc0 : 0 ≤ s.cur
        · rw [if_pos hc0] at hc; omega
        · rw [if_neg hc0] at hc ⊢
          by_cases hr : (ch s.ms s.sg).1 < 0
          · simp only [hr, if_true]
            exact hb _ _ h.good h.blen hr i hi (by omega)
          · simp only [hr, if_false] at hc
      · rw [if_neg hc]
        obtain ⟨g1, g2, g3, g4, g5, g6⟩ := hp.send hfl hg.free (by rw [e2]; exact hn) (by omega) (by rw [e1]; omega)
        obtain ⟨s', k1, k2, k3, k4, k5, k6, k7⟩ := Wk.inner hg hs hfl j _ g1 (by rw [g5, e2]; exact hn) g3 (by omega)
        refine ⟨s', k1, k2, k3, k4, ?_, k6, fun c u hc' hu => by rw [k7 c u hc' hu, g6 c u hc' hu, e3]⟩
        rw [k5, g2, e1, e3]; omega
theorem Wk.tick (hg : Fair ps ch good rel) (hs : ∀ p ∈ ps, 1 ≤ p.size) (hfl : ∀ p ∈ ps, 0 ≤ p.flow ∧ p.flow < classes) {t : Nat} {cap : Int} (hcap : 0 ≤ cap) (h : Wk ps classes good rel t s) (hnow : s.ms.now ≤ t) :
    Wk ps classes good rel (t + 1) (tick ps ch cap t s) ∧ (tick ps ch cap t s).ms.now = t ∧ (∀ c u, c < classes → u < t + 1 → nth (nth (tick ps ch cap t s).sent c) u = nth (nth s.sent c) u) ∧
      (Busy ps ch good → colSum (tick ps ch cap t s).sent (t + 1) = min (colSum s.sent t + cap) (pbytes (-1) ((t : Int) + 1) ps)) := by
  have hrow : ∀ l ∈ s.sent, nth (l ++ [nth l t]) (t + 1) = nth l t := fun l hl => by
    have := h.rlen l hl
    unfold nth List.getD
    rw [List.getElem?_append_right (by omega), this]; simp
  have hcol : colSum (s.sent.map fun l => l ++ [nth l t]) (t + 1) = colSum s.sent t := colSum_map _ hrow
  have h1 : Wk ps classes good rel (t + 1) { s with ms := { s.ms with now := t, left := cap }, sent := s.sent.map fun l => l ++ [nth l t] } := by
    refine ⟨hg.free _ _ _ _ h.good, h.dlen, h.blen, by simp [h.slen], fun l hl => ?_, h.cur, h.open_, fun i hi hb hne => ?_, fun i hi hb => ?_, h.ord, h.dord, by dsimp only; rw [hcol]; exact h.sum⟩
    · obtain ⟨l', h2, rfl⟩ := List.mem_map.1 hl
      simp [h.rlen l' h2]
    · have := h.shut i hi hb hne
      dsimp only; omega
    · have := h.time i hi hb
      dsimp only; omega
  obtain ⟨s', k1, k2, k3, k4, k5, k6, k7⟩ := Wk.inner hg hs hfl (t := t) cap.toNat _ h1 rfl hcap (by dsimp only; omega)
  unfold M.tick
  rw [k1]
  refine ⟨k2, k3, fun c u hc hu => ?_, fun hb => ?_⟩
  · rw [k7 c u hc hu]
    dsimp only
    rw [nth_map_lt _ (by rw [h.slen]; exact hc)]
    unfold nth List.getD
    rw [List.getElem?_append_left]
    have := h.rlen _ (nth_mem (xs := s.sent) (k := c) (by rw [h.slen]; exact hc))
    unfold nth List.getD at this
    rw [this]; exact hu
  · dsimp only at k5
    rw [hcol] at k5
    have hle := begB_le (t := (t : Int)) ps s'.ms.begun k2.blen (fun p hp => by have := hs p hp; omega) (fun i hi hb' => by have := k2.time i hi hb'; omega)
    have hsum := k2.sum
    rcases k6 with h0 | ⟨hc, hall⟩
    · have hrest : 0 ≤ (if 0 ≤ s'.cur then s'.rest else 0) := by
        split
        · rename_i hc; have := (k2.cur hc).2.2; omega
        · omega
      rw [k5, h0]; omega
    · rw [if_neg (by omega)] at hsum
      have heq := begB_eq (t := (t : Int)) ps s'.ms.begun k2.blen (fun i hi => ⟨fun hb' => by have := k2.time i hi hb'; omega, hall hb i hi⟩)
      rw [hsum, heq] at k5 ⊢
      omega
theorem Wk.start {sg : σ} (hg : good (start ps classes sg).ms sg) : Wk ps classes good rel 0 (start ps classes sg) := by
  refine ⟨hg, by simp [M.start], by simp [M.start], by simp [M.start], fun l hl => ?_, fun h => by simp [M.start] at h, fun i hi _ => by simp only [M.start]; rw [nth_replicate hi], fun i hi hb => ?_, fun i hi hb => ?_, fun k hk hb => ?_, fun k hk hd => ?_, ?_⟩
  · have : l = [0] := List.eq_of_mem_replicate hl
    simp [this]
  · simp only [M.start] at hb; rw [nth_replicate hi] at hb; cases hb
  · simp only [M.start] at hb; rw [nth_replicate hi] at hb; cases hb
  · simp only [M.start] at hb; rw [nth_replicate hk] at hb; cases hb
  · simp only [M.start] at hd; rw [nth_replicate hk] at hd; omega
  · show colSum (List.replicate classes [0]) 0 = begB ps (List.replicate ps.length false) - 0
    rw [begB_none]
    clear hg
    induction classes with
    | zero => rfl
    | succ n ih => rw [List.replicate_succ, colSum, ih]; rfl
/-- what a run is: all of Wk, and the sums of all classes together -/
theorem work_run (hg : Fair ps ch good rel) (hs : ∀ p ∈ ps, 1 ≤ p.size) (hfl : ∀ p ∈ ps, 0 ≤ p.flow ∧ p.flow < classes) {cap : Int} (hcap : 0 ≤ cap) {sg : σ} (hst : good (start ps classes sg).ms sg) : ∀ (m : Nat),
    Wk ps classes good rel m (mrun ps ch cap classes m sg) ∧ (mrun ps ch cap classes m sg).ms.now ≤ m ∧
      (∀ u, u < m → ∀ c, c < classes → nth (nth (mrun ps ch cap classes m sg).sent c) u = nth (nth (mrun ps ch cap classes u sg).sent c) u) ∧
      (Busy ps ch good → ∀ u, u < m → colSum (mrun ps ch cap classes (u + 1) sg).sent (u + 1) = min (colSum (mrun ps ch cap classes u sg).sent u + cap) (pbytes (-1) ((u : Int) + 1) ps))
  | 0 => ⟨Wk.start hst, by simp [mrun, ticksFrom, start], fun u hu => by omega, fun _ u hu => by omega⟩
  | m + 1 => by
    obtain ⟨h1, h2, h3, h4⟩ := work_run hg hs hfl hcap hst m
    have e : mrun ps ch cap classes (m + 1) sg = tick ps ch cap m (mrun ps ch cap classes m sg) := by
      unfold mrun; rw [ticksFrom_snoc, Nat.zero_add]
    obtain ⟨g1, g2, g3, g4⟩ := h1.tick hg hs hfl hcap h2
    rw [e]
    refine ⟨g1, by rw [g2]; omega, fun u hu c hc => ?_, fun hb u hu => ?_⟩
    · rw [g3 c u hc (by omega)]
      by_cases hum : u = m
      · subst hum; rfl
      · exact h3 u (by omega) c hc
    · by_cases hum : u = m
      · subst hum; rw [e]; exact g4 hb
      · exact h4 hb u (by omega)
theorem colSum_congr : ∀ {a b : List (List Int)} {u : Nat}, a.length = b.length → (∀ c, c < a.length → nth (nth a c) u = nth (nth b c) u) → colSum a u = colSum b u
  | [], [], _, _, _ => rfl
  | [], _ :: _, _, h, _ => by simp at h
  | _ :: _, [], _, h, _ => by simp at h
  | x :: xs, y :: ys, u, hl, h => by
    have h0 := h 0 (by simp)
    have := colSum_congr (a := xs) (b := ys) (u := u) (by simpa using hl) (fun c hc => h (c + 1) (by simpa using hc))
    simp only [colSum, this]
    rw [show nth x u = nth y u from h0]
/-- the sums of all classes, by ticks -/
def wsum (cap : Int) (ps : List Pkt) : Nat → Int
  | 0 => 0
  | t + 1 => min (wsum cap ps t + cap) (pbytes (-1) ((t : Int) + 1) ps)
theorem work_sum (hg : Fair ps ch good rel) (hs : ∀ p ∈ ps, 1 ≤ p.size) (hfl : ∀ p ∈ ps, 0 ≤ p.flow ∧ p.flow < classes) {cap : Int} (hcap : 0 ≤ cap) {sg : σ} (hst : good (start ps classes sg).ms sg) (hb : Busy ps ch good) {m u : Nat} (hu : u ≤ m) :
    colSum (mrun ps ch cap classes m sg).sent u = wsum cap ps u := by
  have key : ∀ u, colSum (mrun ps ch cap classes u sg).sent u = wsum cap ps u := by
    intro u
    induction u with
    | zero =>
      show colSum (List.replicate classes [0]) 0 = 0
      clear hfl hst
      induction classes with
      | zero => rfl
      | succ n ih => rw [List.replicate_succ, colSum, ih]; rfl
    | succ u ih =>
      rw [(work_run hg hs hfl hcap hst (u + 1)).2.2.2 hb u (by omega), ih]; rfl
  by_cases h : u = m
  · subst h; exact key u
  · have h1 := work_run hg hs hfl hcap hst m
    have h2 := work_run hg hs hfl hcap hst u
    rw [← key u]
    refine colSum_congr (by rw [h1.1.slen, h2.1.slen]) (fun c hc => h1.2.2.1 u (by omega) c (by rw [h1.1.slen] at hc; exact hc))
end
/-! ### first in, first out -/
/-- all before 'before' have been begun -/
def goodB (ps : List Pkt) (ms : MS) : Prop := ms.before ≤ ps.length ∧ ∀ i, i < ms.before → nth ms.begun i = true
theorem skipTo_begun {l : List Bool} : ∀ {b i : Nat}, b ≤ i → i < skipTo l b → nth l i = true := by
  intro b i hb hi
  unfold skipTo at hi
  have key : ∀ (r : List Bool) (j : Nat), j < (r.takeWhile id).length → nth r j = true := by
    intro r
    induction r with
    | nil => intro j h; simp at h
    | cons x r ih =>
      intro j h
      cases x with
      | false => simp at h
      | true =>
        cases j with
        | zero => rfl
        | succ j => exact ih j (by simpa using h)
  have := key (l.drop b) (i - b) (by omega)
  unfold nth List.getD at this ⊢
  rw [List.getElem?_drop, show b + (i - b) = i by omega] at this
  exact this
theorem takeWhile_stop' : ∀ (l : List Bool), (l.takeWhile id).length < l.length → nth l (l.takeWhile id).length = false
  | [], h => by simp at h
  | false :: l, h => by simp [nth]
  | true :: l, h => by
    simp only [List.takeWhile_cons, id, if_true, List.length_cons] at h ⊢
    have := takeWhile_stop' l (by omega)
    simpa [nth, List.getD] using this
theorem skipTo_stop' {l : List Bool} {b : Nat} (h : skipTo l b < l.length) : nth l (skipTo l b) = false := by
  unfold skipTo at h ⊢
  have := takeWhile_stop' (l.drop b) (by rw [List.length_drop]; omega)
  unfold nth List.getD at this ⊢
  rw [List.getElem?_drop] at this
  exact this
theorem goodB.skip {ps : List Pkt} {ms : MS} (h : goodB ps ms) (hl : ms.begun.length = ps.length) : skipTo ms.begun ms.before ≤ ps.length ∧ ∀ i, i < skipTo ms.begun ms.before → nth ms.begun i = true := by
  refine ⟨by rw [← hl]; exact skipTo_le (by rw [hl]; exact h.1), fun i hi => ?_⟩
  by_cases h1 : i < ms.before
  · exact h.2 i h1
  · exact skipTo_begun (by omega) hi
/-- First: what it says -/
theorem firstR_some {ps : List Pkt} {ms : MS} (h : goodB ps ms) (hl : ms.begun.length = ps.length) (h0 : 0 ≤ firstR ps ms) :
    (firstR ps ms).toNat < ps.length ∧ nth ms.begun (firstR ps ms).toNat = false ∧ (nth ps (firstR ps ms).toNat).time ≤ ms.now ∧ ∀ i, i < (firstR ps ms).toNat → nth ms.begun i = true := by
  have hs := h.skip hl
  unfold firstR at h0 ⊢
  dsimp only at h0 ⊢
  split at h0
  · rename_i hh
    rw [if_pos hh]
    simp only [Int.toNat_natCast]
    exact ⟨hh.1, skipTo_stop' (by rw [hl]; exact hh.1), hh.2, hs.2⟩
  · omega
theorem firstR_none {ps : List Pkt} {ms : MS} (hsort : ps.Pairwise fun a b => a.time ≤ b.time) (h : goodB ps ms) (hl : ms.begun.length = ps.length) (h0 : firstR ps ms < 0) : ∀ i, i < ps.length → (nth ps i).time ≤ ms.now → nth ms.begun i = true := by
  have hs := h.skip hl
  unfold firstR at h0
  dsimp only at h0
  split at h0
  · omega
  · rename_i hh
    intro i hi ht
    by_cases h1 : i < skipTo ms.begun ms.before
    · exact hs.2 i h1
    · exfalso
      apply hh
      refine ⟨by omega, ?_⟩
      by_cases e : skipTo ms.begun ms.before = i
      · rw [e]; exact ht
      · have := List.pairwise_iff_getElem.1 hsort (skipTo ms.begun ms.before) i (by omega) hi (by omega)
        rw [nth_eq (by omega)]
        rw [nth_eq hi] at ht
        omega
def goodFB (ps : List Pkt) (ms : MS) (_ : Unit) : Prop := goodB ps ms
theorem goodFB_fair (ps : List Pkt) : Fair ps (fifo ps) (goodFB ps) (fun _ _ => True) where
  free := fun _ _ _ _ h => h
  idx := fun ms _ _ _ _ => (firstR_lt ps ms).1
  some := fun ms _ h hb h0 => by
    have hs := goodB.skip h hb
    refine ⟨hs.1, fun i hi => ?_⟩
    dsimp only [fifo] at hi ⊢
    by_cases e : (firstR ps ms).toNat = i
    · subst e
      have := (firstR_lt ps ms).1
      dsimp only [fifo] at h0
      rw [nth_set_self (by omega)]
    · rw [nth_set_ne e]; exact hs.2 i hi
  none := fun ms _ h hb _ => by
    have hs := goodB.skip h hb
    exact ⟨hs.1, hs.2⟩
  waits := fun ms _ h hb h0 => by
    have := firstR_some h hb h0
    exact ⟨this.2.1, this.2.2.1⟩
  ord := fun ms _ h hb h0 i hi _ => (firstR_some h hb h0).2.2.2 i hi
theorem goodFB_busy {ps : List Pkt} (hsort : ps.Pairwise fun a b => a.time ≤ b.time) : Busy ps (fifo ps) (goodFB ps) := fun _ _ h hb h0 => firstR_none hsort h hb h0
theorem goodFB_start (ps : List Pkt) (classes : Nat) : goodFB ps (start ps classes ()).ms () := ⟨Nat.zero_le _, fun i hi => by simp [start] at hi⟩
/-! ### what a line guarantees -/
theorem pbytes_zero {flow : Int} : ∀ (ps : List Pkt), (∀ p ∈ ps, 0 ≤ p.time) → pbytes flow 0 ps = 0
  | [], _ => rfl
  | p :: ps, h => by
    have := h p (by simp)
    rw [pbytes, pbytes_zero ps (fun q hq => h q (by simp [hq])), if_neg (by unfold hit; omega)]; rfl
theorem wsum_served {cap : Int} {ps : List Pkt} (h0 : ∀ p ∈ ps, 0 ≤ p.time) : ∀ t : Nat, ∃ s : Nat, s ≤ t ∧ pbytes (-1) (s : Int) ps + cap * ((t - s : Nat) : Int) ≤ wsum cap ps t
  | 0 => ⟨0, Nat.le_refl _, by
      have := pbytes_zero (flow := -1) ps h0
      simp only [wsum]
      rw [show ((0 : Nat) : Int) = 0 from rfl, this]; simp⟩
  | t + 1 => by
    obtain ⟨s, h1, h2⟩ := wsum_served (cap := cap) h0 t
    simp only [wsum]
    rcases Int.le_total (wsum cap ps t + cap) (pbytes (-1) ((t : Int) + 1) ps) with h | h
    · refine ⟨s, by omega, ?_⟩
      rw [show t + 1 - s = (t - s) + 1 by omega, Int.min_eq_left h]
      have : cap * (((t - s) + 1 : Nat) : Int) = cap * ((t - s : Nat) : Int) + cap := by rw [Int.natCast_add, Int.mul_add]; simp
      omega
    · refine ⟨t + 1, Nat.le_refl _, ?_⟩
      rw [Int.min_eq_right h, Nat.sub_self]
      simp
theorem wsum_busy {cap : Int} {ps : List Pkt} {s : Nat} : ∀ k : Nat, (∀ u, s < u → u ≤ s + k → wsum cap ps u < pbytes (-1) (u : Int) ps) → cap * (k : Int) ≤ wsum cap ps (s + k) - wsum cap ps s
  | 0, _ => by simp
  | k + 1, h => by
    have ih := wsum_busy (cap := cap) (ps := ps) (s := s) k (fun u h1 h2 => h u h1 (by omega))
    have h3 := h (s + k + 1) (by omega) (by omega)
    have e : wsum cap ps (s + k + 1) = min (wsum cap ps (s + k) + cap) (pbytes (-1) (((s + k : Nat) : Int) + 1) ps) := rfl
    have e2 : ((s + k + 1 : Nat) : Int) = ((s + k : Nat) : Int) + 1 := by omega
    rw [e2] at h3
    have e3 : cap * ((k + 1 : Nat) : Int) = cap * (k : Int) + cap := by rw [Int.natCast_add, Int.mul_add]; simp
    rw [show s + (k + 1) = s + k + 1 by omega, e3]
    omega
theorem wsum_bound {cap : Int} {ps : List Pkt} (hc : 0 ≤ cap) (hs : ∀ p ∈ ps, 0 ≤ p.size ∧ p.size ≤ 1000000) : ∀ t : Nat, 0 ≤ wsum cap ps t ∧ wsum cap ps t ≤ 1000000 * ps.length
  | 0 => by simp only [wsum]; omega
  | t + 1 => by
    have ih := wsum_bound hc hs t
    have := pbytes_bound (-1) ((t : Int) + 1) ps hs
    simp only [wsum]
    omega
/-- bytes that have arrived, tick by tick -/
def cumL (flow : Int) (ps : List Pkt) (n : Nat) : List Int := (List.range n).map fun (t : Nat) => pbytes flow (t : Int) ps
/-- the sums of all classes -/
def totL (sent : List (List Int)) (n : Nat) : List Int := (List.range n).map fun (t : Nat) => colSum sent t
theorem range_map_snoc {α : Type} (f : Nat → α) (n : Nat) : (List.range (n + 1)).map f = (List.range n).map f ++ [f n] := by rw [List.range_succ]; simp
theorem range_map_nth {α : Type} [Inhabited α] (f : Nat → α) {n i : Nat} (h : i < n) : nth ((List.range n).map f) i = f i := by
  rw [nth_eq (by simpa using h)]; simp
def oneP (p : Pkt) : Pkt := { p with flow := 0 }
theorem one_pbytes {flow t : Int} (hf : 0 ≤ flow) : ∀ (ps : List Pkt), pbytes flow t (ps.map oneP) = if flow = 0 then pbytes (-1) t ps else 0
  | [] => by simp [pbytes]
  | p :: ps => by
    simp only [List.map_cons, pbytes, one_pbytes hf ps]
    by_cases h : flow = 0
    · subst h
      simp only [if_true]
      by_cases h2 : hit (-1) t p
      · rw [if_pos h2, if_pos (by unfold hit oneP at *; dsimp only; omega)]; rfl
      · rw [if_neg h2, if_neg (by unfold hit oneP at *; dsimp only; omega)]
    · rw [if_neg h, if_neg h, if_neg (by unfold hit oneP; dsimp only; omega)]; rfl
theorem one_ok {ps : List Pkt} (h : Ok ps) : Ok (ps.map oneP) := by
  refine ⟨by simpa using h.len, fun p hq => ?_, ?_⟩
  · obtain ⟨q, h1, rfl⟩ := List.mem_map.1 hq
    have := h.at h1
    unfold BadP oneP; dsimp only; omega
  · rw [List.pairwise_map]; exact h.sorted
/-- a curve's value, as the references have it -/
def atR (xs : List Int) (per inc t : Int) : Int :=
  if t < 0 ∨ ((xs.length : Int) ≤ t ∧ (per < 1 ∨ (xs.length : Int) < per)) then -1
  else if t < xs.length then nth xs t.toNat
  else if nth xs (t - ((t - xs.length) / per + 1) * per).toNat = 4611686018427387904 then 4611686018427387904
  else nth xs (t - ((t - xs.length) / per + 1) * per).toNat + ((t - xs.length) / per + 1) * inc
theorem at_line {cap : Int} (t : Nat) : atR [0] 1 cap (t : Int) = cap * t := by
  unfold atR
  rw [if_neg (by simp)]
  by_cases h : t = 0
  · subst h; rw [if_pos (by simp)]; simp [nth]
  · rw [if_neg (by simp; omega)]
    have e : ((t : Int) - (([0] : List Int).length : Int)) / 1 + 1 = t := by simp
    rw [e]
    have e2 : ((t : Int) - t * 1).toNat = 0 := by omega
    rw [e2]
    simp [nth, Int.mul_comm]
theorem works_serves {ps : List Pkt} {C : Int} {tl : List Int} {m : Nat} (hC : 0 ≤ C ∧ C ≤ 1000000) (hm : m ≤ 1000000) (h0 : ∀ p ∈ ps, 0 ≤ p.time) (hW : ∀ u, u ≤ m → nth tl u = wsum C ps u) :
    ∀ t : Nat, t ≤ m → ∃ s : Nat, s ≤ t ∧ atR [0] 1 C ((t : Int) - s) ≠ 4611686018427387904 ∧ pbytes ((0 : Nat) : Int) (s : Int) (ps.map oneP) + atR [0] 1 C ((t : Int) - s) ≤ nth tl t := by
  intro t ht
  obtain ⟨s, h1, h2⟩ := wsum_served (cap := C) h0 t
  refine ⟨s, h1, ?_⟩
  have e : (t : Int) - s = ((t - s : Nat) : Int) := by omega
  rw [e, at_line, one_pbytes (by omega), if_pos (show ((0 : Nat) : Int) = 0 from rfl), hW t ht]
  have h3 : C * ((t - s : Nat) : Int) ≤ 1000000 * 1000000 := Int.mul_le_mul hC.2 (by omega) (by omega) (by omega)
  exact ⟨by omega, h2⟩
theorem works_busy {ps : List Pkt} {C : Int} {tl : List Int} {m : Nat} (hW : ∀ u, u ≤ m → nth tl u = wsum C ps u) :
    ∀ s t : Nat, s < t → t ≤ m → (∀ u : Nat, s < u → u ≤ t → nth tl u < pbytes ((0 : Nat) : Int) (u : Int) (ps.map oneP)) → atR [0] 1 C ((t : Int) - s) ≠ 4611686018427387904 → atR [0] 1 C ((t : Int) - s) ≤ nth tl t - nth tl s := by
  intro s t hst ht hall _
  have e : (t : Int) - s = ((t - s : Nat) : Int) := by omega
  rw [e, at_line, hW t ht, hW s (by omega)]
  have := wsum_busy (cap := C) (ps := ps) (s := s) (t - s) (fun u h1 h2 => by
    have := hall u h1 (by omega)
    rw [one_pbytes (by omega), if_pos (show ((0 : Nat) : Int) = 0 from rfl), hW u (by omega)] at this
    exact this)
  rwa [show s + (t - s) = t by omega] at this
def dval (d : Int) : Int := if d < 0 then 1000 else d
/-- the ends of the packets of a line that takes them as they come -/
theorem works_done {ps : List Pkt} {C : Int} {m : Nat} {s : RS Unit} (hm : m ≤ 1000) (hs : s = mrun ps (fifo ps) C 3 m ()) (hsz : ∀ p ∈ ps, 1 ≤ p.size) (hfl : ∀ p ∈ ps, 0 ≤ p.flow ∧ p.flow < 3) (hC : 0 ≤ C) (htm : ∀ p ∈ ps, p.time ≤ 1000) :
    ∀ k, k < ps.length → (nth ps k).time ≤ dval (nth s.done k) ∧ ∀ i, i < k → dval (nth s.done i) ≤ dval (nth s.done k) := by
  intro k hk
  have hw := (work_run (goodFB_fair ps) hsz hfl (cap := C) hC (goodFB_start ps 3) m).1
  rw [show mrun ps (fifo ps) C 3 m () = s from hs.symm] at hw
  have hrg : ∀ d ∈ s.done, -1 ≤ d ∧ d < (m : Int) := by rw [hs]; exact done_range _ _ _ _ m _
  refine ⟨?_, fun i hi => ?_⟩
  · have ht := htm _ (nth_mem hk)
    unfold dval
    split
    · exact ht
    · rename_i hd
      by_cases hb : nth s.ms.begun k = true
      · by_cases hc : s.cur = (k : Int)
        · have := hw.open_ k hk (.inr hc); omega
        · exact (hw.shut k hk hb hc).2.2
      · have := hw.open_ k hk (.inl (by simpa using hb)); omega
  · have h1 := hrg _ (nth_mem (xs := s.done) (k := i) (by rw [hw.dlen]; omega))
    unfold dval
    by_cases hd : nth s.done k < 0
    · rw [if_pos hd]; split <;> omega
    · have := hw.dord k hk (by omega) i hi trivial
      rw [if_neg hd, if_neg (by omega)]; exact this.2
end Go.Proofs.Ytcfnckccmkjjlaa.M
