/- Rules and walks, joined from 9 texts: the first of them says: A machine that is never idle, plain: what all classes together are sent, and in which order packets end, whatever the choice. No condition. -/
import Derived.Test.YtcfnckccmkjjlaaG1
/- A machine that is never idle, plain: what all classes together are sent, and in which order packets end, whatever the choice. No condition. -/
namespace Go.Proofs.Ytcfnckccmkjjlaa.M
open Go Go.Proofs.Ytcfnckccmkjjlaa.K

/-- all classes together -/
def colSum : List (List Int) → Nat → Int
  | [], _ => 0
  | l :: ls, t => nth l t + colSum ls t
/-- the bytes of the packets that have been begun -/
def begB : List Pkt → List Bool → Int
  | p :: ps, b :: bs => (if b then p.size else 0) + begB ps bs
  | _, _ => 0
theorem colSum_set : ∀ (sent : List (List Int)) (f : Nat) (l : List Int) (t : Nat), f < sent.length → colSum (sent.set f l) t = colSum sent t - nth (nth sent f) t + nth l t
  | [], f, l, t, h => by simp at h
  | x :: xs, 0, l, t, h => by simp [colSum, nth]; omega
  | x :: xs, f + 1, l, t, h => by
    have := colSum_set xs f l t (by simpa using h)
    simp only [List.set_cons_succ, colSum, this]
    rw [show nth (x :: xs) (f + 1) = nth xs f from rfl]; omega
theorem colSum_append : ∀ (a b : List (List Int)) (t : Nat), colSum (a ++ b) t = colSum a t + colSum b t
  | [], b, t => by simp [colSum]
  | x :: xs, b, t => by simp only [List.cons_append, colSum, colSum_append xs b t]; omega
theorem colSum_map {g : List Int → List Int} {t u : Nat} : ∀ (sent : List (List Int)), (∀ l ∈ sent, nth (g l) t = nth l u) → colSum (sent.map g) t = colSum sent u
  | [], _ => rfl
  | x :: xs, h => by
    simp only [List.map_cons, colSum]
    rw [h x (by simp), colSum_map xs (fun l hl => h l (by simp [hl]))]
theorem begB_set : ∀ (ps : List Pkt) (bs : List Bool) (i : Nat), i < ps.length → i < bs.length → nth bs i = false → begB ps (bs.set i true) = begB ps bs + (nth ps i).size
  | [], _, i, h, _, _ => by simp at h
  | _ :: _, [], i, _, h, _ => by simp at h
  | p :: ps, b :: bs, 0, _, _, hb => by
    have : b = false := hb
    subst this
    simp [begB, nth]; omega
  | p :: ps, b :: bs, i + 1, h1, h2, hb => by
    have := begB_set ps bs i (by simpa using h1) (by simpa using h2) hb
    simp only [List.set_cons_succ, begB, this]
    rw [show nth (p :: ps) (i + 1) = nth ps i from rfl]; omega
theorem begB_le {t : Int} : ∀ (ps : List Pkt) (bs : List Bool), bs.length = ps.length → (∀ p ∈ ps, 0 ≤ p.size) → (∀ i, i < ps.length → nth bs i = true → (nth ps i).time ≤ t) → begB ps bs ≤ pbytes (-1) (t + 1) ps
  | [], [], _, _, _ => by simp [begB, pbytes]
  | [], _ :: _, h, _, _ => by simp at h
  | _ :: _, [], h, _, _ => by simp at h
  | p :: ps, b :: bs, hl, hs, h => by
    have ih := begB_le ps bs (by simpa using hl) (fun q hq => hs q (by simp [hq])) (fun i hi hb => h (i + 1) (by simpa using hi) hb)
    have hp := hs p (by simp)
    simp only [begB, pbytes]
    have h0 : b = true → hit (-1) (t + 1) p := fun hb => by have := h 0 (by simp) hb; simp [nth] at this; unfold hit; omega
    cases b with
    | true => rw [if_pos rfl, if_pos (h0 rfl)]; omega
    | false => simp only [Bool.false_eq_true, if_false]; split <;> omega
theorem begB_eq {t : Int} : ∀ (ps : List Pkt) (bs : List Bool), bs.length = ps.length → (∀ i, i < ps.length → (nth bs i = true ↔ (nth ps i).time ≤ t)) → begB ps bs = pbytes (-1) (t + 1) ps
  | [], [], _, _ => by simp [begB, pbytes]
  | [], _ :: _, h, _ => by simp at h
  | _ :: _, [], h, _ => by simp at h
  | p :: ps, b :: bs, hl, h => by
    have ih := begB_eq ps bs (by simpa using hl) (fun i hi => h (i + 1) (by simpa using hi))
    simp only [begB, pbytes]
    have h0 := h 0 (by simp)
    simp [nth] at h0
    have h1 : b = true ↔ hit (-1) (t + 1) p := by rw [h0]; unfold hit; omega
    by_cases hb : b = true
    · rw [if_pos hb, if_pos (h1.1 hb)]; omega
    · rw [if_neg hb, if_neg (fun h => hb (h1.2 h))]; omega
theorem begB_none : ∀ (ps : List Pkt) (n : Nat), begB ps (List.replicate n false) = 0
  | [], _ => by simp [begB]
  | _ :: _, 0 => by simp [begB]
  | p :: ps, n + 1 => by simp [List.replicate_succ, begB, begB_none ps n]

/-- a choice of what waits; within rel the first -/
structure Fair {σ : Type} (ps : List Pkt) (ch : MS → σ → Int × Nat × σ) (good : MS → σ → Prop) (rel : Nat → Nat → Prop) : Prop extends Good ps ch good where
  waits : ∀ ms sg, good ms sg → ms.begun.length = ps.length → 0 ≤ (ch ms sg).1 → nth ms.begun (ch ms sg).1.toNat = false ∧ (nth ps (ch ms sg).1.toNat).time ≤ ms.now
  ord : ∀ ms sg, good ms sg → ms.begun.length = ps.length → 0 ≤ (ch ms sg).1 → ∀ i, i < (ch ms sg).1.toNat → rel i (ch ms sg).1.toNat → nth ms.begun i = true
/-- never idle while something waits -/
def Busy {σ : Type} (ps : List Pkt) (ch : MS → σ → Int × Nat × σ) (good : MS → σ → Prop) : Prop :=
  ∀ ms sg, good ms sg → ms.begun.length = ps.length → (ch ms sg).1 < 0 → ∀ i, i < ps.length → (nth ps i).time ≤ ms.now → nth ms.begun i = true

/-- what stays true: col is the column of the sums that is open -/
structure Wk {σ : Type} (ps : List Pkt) (classes : Nat) (good : MS → σ → Prop) (rel : Nat → Nat → Prop) (col : Nat) (s : RS σ) : Prop where
  good : good s.ms s.sg
  dlen : s.done.length = ps.length
  blen : s.ms.begun.length = ps.length
  slen : s.sent.length = classes
  rlen : ∀ l ∈ s.sent, l.length = col + 1
  cur : 0 ≤ s.cur → s.cur < ps.length ∧ nth s.ms.begun s.cur.toNat = true ∧ 1 ≤ s.rest
  open_ : ∀ i, i < ps.length → (nth s.ms.begun i = false ∨ s.cur = i) → nth s.done i = -1
  shut : ∀ i, i < ps.length → nth s.ms.begun i = true → s.cur ≠ i → 0 ≤ nth s.done i ∧ nth s.done i ≤ s.ms.now ∧ (nth ps i).time ≤ nth s.done i
  time : ∀ i, i < ps.length → nth s.ms.begun i = true → (nth ps i).time ≤ s.ms.now
  ord : ∀ k, k < ps.length → nth s.ms.begun k = true → ∀ i, i < k → rel i k → nth s.ms.begun i = true
  dord : ∀ k, k < ps.length → 0 ≤ nth s.done k → ∀ i, i < k → rel i k → 0 ≤ nth s.done i ∧ nth s.done i ≤ nth s.done k
  sum : colSum s.sent col = begB ps s.ms.begun - (if 0 ≤ s.cur then s.rest else 0)
section
variable {σ : Type} {ps : List Pkt} {ch : MS → σ → Int × Nat × σ} {good : MS → σ → Prop} {rel : Nat → Nat → Prop} {classes col : Nat} {s : RS σ}
theorem Wk.pickup (hg : Fair ps ch good rel) (hs : ∀ p ∈ ps, 1 ≤ p.size) (h : Wk ps classes good rel col s) : Wk ps classes good rel col (pickup ps ch s) := by
  unfold M.pickup
  by_cases hc : 0 ≤ s.cur
  · rw [if_pos hc]; exact h
  · rw [if_neg hc]
    by_cases hr : (ch s.ms s.sg).1 < 0
    · simp only [hr, if_true]
      exact ⟨hg.none _ _ h.good h.blen hr, h.dlen, h.blen, h.slen, h.rlen, fun h0 => by dsimp only at h0; omega, fun i hi ho => h.open_ i hi (by rcases ho with ho | ho; exact .inl ho; dsimp only at ho; omega),
        fun i hi hb hne => h.shut i hi hb (by omega), h.time, h.ord, h.dord, by dsimp only; rw [h.sum, if_neg hc, if_neg (by omega)]⟩
    · simp only [hr, if_false]
      have hi := hg.idx _ _ h.good h.blen (by omega)
      obtain ⟨w1, w2⟩ := hg.waits _ _ h.good h.blen (by omega)
      have w3 := hg.ord _ _ h.good h.blen (by omega)
      have hgs := hg.some _ _ h.good h.blen (by omega)
      generalize hj : (ch s.ms s.sg).1 = j at hr hi w1 w2 w3 hgs ⊢
      have hjn : j.toNat < ps.length := by omega
      have hbs : ∀ i, nth (s.ms.begun.set j.toNat true) i = true ↔ i = j.toNat ∨ nth s.ms.begun i = true := fun i => by
        by_cases e : j.toNat = i
        · subst e; rw [nth_set_self (by rw [h.blen]; exact hjn)]; simp
        · rw [nth_set_ne e]; constructor
          · exact .inr
          · rintro (e2 | h2)
            · exact absurd e2.symm e
            · exact h2
      refine ⟨hgs, h.dlen, by simp [h.blen], h.slen, h.rlen, fun _ => ⟨hi, (hbs _).2 (.inl rfl), hs _ (nth_mem hjn)⟩, fun i hi' ho => ?_, fun i hi' hb hne => ?_, fun i hi' hb => ?_, fun k hk hb i hik hr' => ?_, h.dord, ?_⟩
      · dsimp only at ho ⊢
        apply h.open_ i hi'
        left
        rcases ho with ho | ho
        · cases hb : nth s.ms.begun i with
          | false => rfl
          | true => rw [(hbs i).2 (.inr hb)] at ho; cases ho
        · rw [show i = j.toNat by omega]; exact w1
      · dsimp only at hb hne ⊢
        rcases (hbs i).1 hb with e | hb
        · omega
        · exact h.shut i hi' hb (by omega)
      · dsimp only at hb ⊢
        rcases (hbs i).1 hb with e | hb
        · subst e; exact w2
        · exact h.time i hi' hb
      · dsimp only at hb ⊢
        refine (hbs i).2 (.inr ?_)
        rcases (hbs k).1 hb with e | hb
        · subst e; exact w3 i hik hr'
        · exact h.ord k hk hb i hik hr'
      · dsimp only
        rw [h.sum, begB_set _ _ _ hjn (by rw [h.blen]; exact hjn) w1, if_neg hc, if_pos (by omega)]; omega
theorem Wk.send (hfl : ∀ p ∈ ps, 0 ≤ p.flow ∧ p.flow < classes) (hfree : ∀ ms sg n l, good ms sg → good { ms with now := n, left := l } sg) {t : Nat} (h : Wk ps classes good rel (t + 1) s) (hnow : s.ms.now = t) (hc : 0 ≤ s.cur) (hl : 0 < s.ms.left) :
    Wk ps classes good rel (t + 1) (send ps t s) ∧ colSum (send ps t s).sent (t + 1) = colSum s.sent (t + 1) + (s.ms.left - (send ps t s).ms.left) ∧ 0 ≤ (send ps t s).ms.left ∧ (send ps t s).ms.left < s.ms.left ∧ (send ps t s).ms.now = s.ms.now ∧
      ∀ c u, c < classes → u < t + 1 → nth (nth (send ps t s).sent c) u = nth (nth s.sent c) u := by
  obtain ⟨c1, c2, c3⟩ := h.cur hc
  have hfl' := hfl _ (nth_mem (show s.cur.toNat < ps.length by omega))
  have hn : 1 ≤ (if s.ms.left < s.rest then s.ms.left else s.rest) ∧ (if s.ms.left < s.rest then s.ms.left else s.rest) ≤ s.rest ∧ (if s.ms.left < s.rest then s.ms.left else s.rest) ≤ s.ms.left := by split <;> omega
  unfold M.send
  generalize (if s.ms.left < s.rest then s.ms.left else s.rest) = n at hn ⊢
  have hf : (nth ps s.cur.toNat).flow.toNat < s.sent.length := by rw [h.slen]; omega
  generalize (nth ps s.cur.toNat).flow.toNat = f at hf ⊢
  have hrow := h.rlen _ (nth_mem hf)
  have hcol : colSum (s.sent.set f ((nth s.sent f).set (t + 1) (nth (nth s.sent f) (t + 1) + n))) (t + 1) = colSum s.sent (t + 1) + n := by
    rw [colSum_set _ _ _ _ hf, nth_set_self (by omega)]; omega
  have hsum := h.sum
  rw [if_pos hc] at hsum
  dsimp only
  refine ⟨⟨hfree _ _ s.ms.now _ h.good, ?_, h.blen, by simp [h.slen], ?_, ?_, ?_, ?_, h.time, h.ord, ?_, ?_⟩, by rw [hcol]; omega, by omega, by omega, rfl, ?_⟩
  · dsimp only; split <;> simp [h.dlen]
  · dsimp only
    intro l hl'
    rcases List.mem_or_eq_of_mem_set hl' with h1 | rfl
    · exact h.rlen l h1
    · simp [hrow]
  · dsimp only
    intro h0
    by_cases hz : s.rest - n = 0
    · rw [if_pos hz] at h0; omega
    · rw [if_neg hz]; exact ⟨c1, c2, by omega⟩
  · dsimp only
    intro i hi ho
    by_cases hz : s.rest - n = 0
    · rw [if_pos hz] at ho ⊢
      rcases ho with ho | ho
      · by_cases e : s.cur.toNat = i
        · rw [e, ho] at c2; cases c2
        · rw [nth_set_ne e]; exact h.open_ i hi (.inl ho)
      · omega
    · rw [if_neg hz] at ho ⊢; exact h.open_ i hi ho
  · dsimp only
    intro i hi hb hne
    by_cases hz : s.rest - n = 0
    · rw [if_pos hz] at hne ⊢
      by_cases e : s.cur.toNat = i
      · subst e
        rw [nth_set_self (by rw [h.dlen]; omega)]
        have := h.time _ hi hb
        omega
      · rw [nth_set_ne e]; exact h.shut i hi hb (by omega)
    · rw [if_neg hz] at hne ⊢; exact h.shut i hi hb hne
  · dsimp only
    by_cases hz : s.rest - n = 0
    · rw [if_pos hz]
      intro k hk hd i hik hr
      by_cases e : s.cur.toNat = k
      · subst e
        rw [nth_set_self (by rw [h.dlen]; omega), nth_set_ne (by omega)]
        have := h.shut i (by omega) (h.ord _ hk c2 i hik hr) (by omega)
        omega
      · rw [nth_set_ne e] at hd ⊢
        have h1 := h.dord k hk hd i hik hr
        by_cases e2 : s.cur.toNat = i
        · have := h.open_ i (by omega) (.inr (by omega))
          omega
        · rw [nth_set_ne e2]; exact h1
    · rw [if_neg hz]; exact h.dord
  · dsimp only
    rw [hcol, hsum]
    by_cases hz : s.rest - n = 0
    · rw [if_pos hz, if_neg (by omega)]; omega
    · rw [if_neg hz, if_pos hc]; omega
  · intro c u hc' hu
    by_cases e : f = c
    · subst e; rw [nth_set_self hf, nth_set_ne (by omega)]
    · rw [nth_set_ne e]

/-- the end of a tick: all bytes are gone, or nothing waits -/
theorem Wk.inner (hg : Fair ps ch good rel) (hs : ∀ p ∈ ps, 1 ≤ p.size) (hfl : ∀ p ∈ ps, 0 ≤ p.flow ∧ p.flow < classes) {t : Nat} : ∀ (j : Nat) (s : RS σ), Wk ps classes good rel (t + 1) s → s.ms.now = t → 0 ≤ s.ms.left → s.ms.left ≤ j →
    ∃ s', inner ps ch t j s = s' ∧ Wk ps classes good rel (t + 1) s' ∧ s'.ms.now = t ∧ 0 ≤ s'.ms.left ∧ colSum s'.sent (t + 1) = colSum s.sent (t + 1) + (s.ms.left - s'.ms.left) ∧
      (s'.ms.left = 0 ∨ s'.cur < 0 ∧ (Busy ps ch good → ∀ i, i < ps.length → (nth ps i).time ≤ (t : Int) → nth s'.ms.begun i = true)) ∧ ∀ c u, c < classes → u < t + 1 → nth (nth s'.sent c) u = nth (nth s.sent c) u
  | 0, s, h, hn, h0, hj => ⟨s, rfl, h, hn, h0, by omega, .inl (by omega), fun _ _ _ _ => rfl⟩
  | j + 1, s, h, hn, h0, hj => by
    simp only [M.inner]
    by_cases hl : s.ms.left ≤ 0
    · rw [if_pos hl]
      exact ⟨s, rfl, h, hn, h0, by omega, .inl (by omega), fun _ _ _ _ => rfl⟩
    · rw [if_neg hl]
      have hp := h.pickup hg hs
      obtain ⟨e1, e2, e3, e4⟩ := pickup_same ps ch s
      by_cases hc : (M.pickup ps ch s).cur < 0
      · rw [if_pos hc]
        refine ⟨_, rfl, hp, by rw [e2]; exact hn, by rw [e1]; exact h0, by rw [e1, e3]; omega, .inr ⟨hc, fun hb => ?_⟩, fun c u _ _ => by rw [e3]⟩
        intro i hi ht
        unfold M.pickup at hc ⊢
        by_cases hc0 : 0 ≤ s.cur
        · rw [if_pos hc0] at hc; omega
        · rw [if_neg hc0] at hc ⊢
          by_cases hr : (ch s.ms s.sg).1 < 0
          · simp only [hr, if_true]
            exact hb _ _ h.good h.blen hr i hi (by omega)
          · simp only [hr, if_false] at hc
      · rw [if_neg hc]
        obtain ⟨g1, g2, g3, g4, g5, g6⟩ := hp.send hfl hg.free (by rw [e2]; exact hn) (by omega) (by rw [e1]; omega)
        obtain ⟨s', k1, k2, k3, k4, k5, k6, k7⟩ := Wk.inner hg hs hfl j _ g1 (by rw [g5, e2]; exact hn) g3 (by omega)
        refine ⟨s', k1, k2, k3, k4, ?_, k6, fun c u hc' hu => by rw [k7 c u hc' hu, g6 c u hc' hu, e3]⟩
        rw [k5, g2, e1, e3]; omega
theorem Wk.tick (hg : Fair ps ch good rel) (hs : ∀ p ∈ ps, 1 ≤ p.size) (hfl : ∀ p ∈ ps, 0 ≤ p.flow ∧ p.flow < classes) {t : Nat} {cap : Int} (hcap : 0 ≤ cap) (h : Wk ps classes good rel t s) (hnow : s.ms.now ≤ t) :
    Wk ps classes good rel (t + 1) (tick ps ch cap t s) ∧ (tick ps ch cap t s).ms.now = t ∧ (∀ c u, c < classes → u < t + 1 → nth (nth (tick ps ch cap t s).sent c) u = nth (nth s.sent c) u) ∧
      (Busy ps ch good → colSum (tick ps ch cap t s).sent (t + 1) = min (colSum s.sent t + cap) (pbytes (-1) ((t : Int) + 1) ps)) := by
  have hrow : ∀ l ∈ s.sent, nth (l ++ [nth l t]) (t + 1) = nth l t := fun l hl => by
    have := h.rlen l hl
    unfold nth List.getD
    rw [List.getElem?_append_right (by omega), this]; simp
  have hcol : colSum (s.sent.map fun l => l ++ [nth l t]) (t + 1) = colSum s.sent t := colSum_map _ hrow
  have h1 : Wk ps classes good rel (t + 1) { s with ms := { s.ms with now := t, left := cap }, sent := s.sent.map fun l => l ++ [nth l t] } := by
    refine ⟨hg.free _ _ _ _ h.good, h.dlen, h.blen, by simp [h.slen], fun l hl => ?_, h.cur, h.open_, fun i hi hb hne => ?_, fun i hi hb => ?_, h.ord, h.dord, by dsimp only; rw [hcol]; exact h.sum⟩
    · obtain ⟨l', h2, rfl⟩ := List.mem_map.1 hl
      simp [h.rlen l' h2]
    · have := h.shut i hi hb hne
      dsimp only; omega
    · have := h.time i hi hb
      dsimp only; omega
  obtain ⟨s', k1, k2, k3, k4, k5, k6, k7⟩ := Wk.inner hg hs hfl (t := t) cap.toNat _ h1 rfl hcap (by dsimp only; omega)
  unfold M.tick
  rw [k1]
  refine ⟨k2, k3, fun c u hc hu => ?_, fun hb => ?_⟩
  · rw [k7 c u hc hu]
    dsimp only
    rw [nth_map_lt _ (by rw [h.slen]; exact hc)]
    unfold nth List.getD
    rw [List.getElem?_append_left]
    have := h.rlen _ (nth_mem (xs := s.sent) (k := c) (by rw [h.slen]; exact hc))
    unfold nth List.getD at this
    rw [this]; exact hu
  · dsimp only at k5
    rw [hcol] at k5
    have hle := begB_le (t := (t : Int)) ps s'.ms.begun k2.blen (fun p hp => by have := hs p hp; omega) (fun i hi hb' => by have := k2.time i hi hb'; omega)
    have hsum := k2.sum
    rcases k6 with h0 | ⟨hc, hall⟩
    · have hrest : 0 ≤ (if 0 ≤ s'.cur then s'.rest else 0) := by
        split
        · rename_i hc; have := (k2.cur hc).2.2; omega
        · omega
      rw [k5, h0]; omega
    · rw [if_neg (by omega)] at hsum
      have heq := begB_eq (t := (t : Int)) ps s'.ms.begun k2.blen (fun i hi => ⟨fun hb' => by have := k2.time i hi hb'; omega, hall hb i hi⟩)
      rw [hsum, heq] at k5 ⊢
      omega
theorem Wk.start {sg : σ} (hg : good (start ps classes sg).ms sg) : Wk ps classes good rel 0 (start ps classes sg) := by
  refine ⟨hg, by simp [M.start], by simp [M.start], by simp [M.start], fun l hl => ?_, fun h => by simp [M.start] at h, fun i hi _ => by simp only [M.start]; rw [nth_replicate hi], fun i hi hb => ?_, fun i hi hb => ?_, fun k hk hb => ?_, fun k hk hd => ?_, ?_⟩
  · have : l = [0] := List.eq_of_mem_replicate hl
    simp [this]
  · simp only [M.start] at hb; rw [nth_replicate hi] at hb; cases hb
  · simp only [M.start] at hb; rw [nth_replicate hi] at hb; cases hb
  · simp only [M.start] at hb; rw [nth_replicate hk] at hb; cases hb
  · simp only [M.start] at hd; rw [nth_replicate hk] at hd; omega
  · show colSum (List.replicate classes [0]) 0 = begB ps (List.replicate ps.length false) - 0
    rw [begB_none]
    clear hg
    induction classes with
    | zero => rfl
    | succ n ih => rw [List.replicate_succ, colSum, ih]; rfl
/-- what a run is: all of Wk, and the sums of all classes together -/
theorem work_run (hg : Fair ps ch good rel) (hs : ∀ p ∈ ps, 1 ≤ p.size) (hfl : ∀ p ∈ ps, 0 ≤ p.flow ∧ p.flow < classes) {cap : Int} (hcap : 0 ≤ cap) {sg : σ} (hst : good (start ps classes sg).ms sg) : ∀ (m : Nat),
    Wk ps classes good rel m (mrun ps ch cap classes m sg) ∧ (mrun ps ch cap classes m sg).ms.now ≤ m ∧
      (∀ u, u < m → ∀ c, c < classes → nth (nth (mrun ps ch cap classes m sg).sent c) u = nth (nth (mrun ps ch cap classes u sg).sent c) u) ∧
      (Busy ps ch good → ∀ u, u < m → colSum (mrun ps ch cap classes (u + 1) sg).sent (u + 1) = min (colSum (mrun ps ch cap classes u sg).sent u + cap) (pbytes (-1) ((u : Int) + 1) ps))
  | 0 => ⟨Wk.start hst, by simp [mrun, ticksFrom, start], fun u hu => by omega, fun _ u hu => by omega⟩
  | m + 1 => by
    obtain ⟨h1, h2, h3, h4⟩ := work_run hg hs hfl hcap hst m
    have e : mrun ps ch cap classes (m + 1) sg = tick ps ch cap m (mrun ps ch cap classes m sg) := by
      unfold mrun; rw [ticksFrom_snoc, Nat.zero_add]
    obtain ⟨g1, g2, g3, g4⟩ := h1.tick hg hs hfl hcap h2
    rw [e]
    refine ⟨g1, by rw [g2]; omega, fun u hu c hc => ?_, fun hb u hu => ?_⟩
    · rw [g3 c u hc (by omega)]
      by_cases hum : u = m
      · subst hum; rfl
      · exact h3 u (by omega) c hc
    · by_cases hum : u = m
      · subst hum; rw [e]; exact g4 hb
      · exact h4 hb u (by omega)
theorem colSum_congr : ∀ {a b : List (List Int)} {u : Nat}, a.length = b.length → (∀ c, c < a.length → nth (nth a c) u = nth (nth b c) u) → colSum a u = colSum b u
  | [], [], _, _, _ => rfl
  | [], _ :: _, _, h, _ => by simp at h
  | _ :: _, [], _, h, _ => by simp at h
  | x :: xs, y :: ys, u, hl, h => by
    have h0 := h 0 (by simp)
    have := colSum_congr (a := xs) (b := ys) (u := u) (by simpa using hl) (fun c hc => h (c + 1) (by simpa using hc))
    simp only [colSum, this]
    rw [show nth x u = nth y u from h0]
/-- the sums of all classes, by ticks -/
def wsum (cap : Int) (ps : List Pkt) : Nat → Int
  | 0 => 0
  | t + 1 => min (wsum cap ps t + cap) (pbytes (-1) ((t : Int) + 1) ps)
theorem work_sum (hg : Fair ps ch good rel) (hs : ∀ p ∈ ps, 1 ≤ p.size) (hfl : ∀ p ∈ ps, 0 ≤ p.flow ∧ p.flow < classes) {cap : Int} (hcap : 0 ≤ cap) {sg : σ} (hst : good (start ps classes sg).ms sg) (hb : Busy ps ch good) {m u : Nat} (hu : u ≤ m) :
    colSum (mrun ps ch cap classes m sg).sent u = wsum cap ps u := by
  have key : ∀ u, colSum (mrun ps ch cap classes u sg).sent u = wsum cap ps u := by
    intro u
    induction u with
    | zero =>
      show colSum (List.replicate classes [0]) 0 = 0
      clear hfl hst
      induction classes with
      | zero => rfl
      | succ n ih => rw [List.replicate_succ, colSum, ih]; rfl
    | succ u ih =>
      rw [(work_run hg hs hfl hcap hst (u + 1)).2.2.2 hb u (by omega), ih]; rfl
  by_cases h : u = m
  · subst h; exact key u
  · have h1 := work_run hg hs hfl hcap hst m
    have h2 := work_run hg hs hfl hcap hst u
    rw [← key u]
    refine colSum_congr (by rw [h1.1.slen, h2.1.slen]) (fun c hc => h1.2.2.1 u (by omega) c (by rw [h1.1.slen] at hc; exact hc))
end
/-! ### first in, first out -/
/-- all before 'before' have been begun -/
def goodB (ps : List Pkt) (ms : MS) : Prop := ms.before ≤ ps.length ∧ ∀ i, i < ms.before → nth ms.begun i = true
theorem skipTo_begun {l : List Bool} : ∀ {b i : Nat}, b ≤ i → i < skipTo l b → nth l i = true := by
  intro b i hb hi
  unfold skipTo at hi
  have key : ∀ (r : List Bool) (j : Nat), j < (r.takeWhile id).length → nth r j = true := by
    intro r
    induction r with
    | nil => intro j h; simp at h
    | cons x r ih =>
      intro j h
      cases x with
      | false => simp at h
      | true =>
        cases j with
        | zero => rfl
        | succ j => exact ih j (by simpa using h)
  have := key (l.drop b) (i - b) (by omega)
  unfold nth List.getD at this ⊢
  rw [List.getElem?_drop, show b + (i - b) = i by omega] at this
  exact this
theorem takeWhile_stop' : ∀ (l : List Bool), (l.takeWhile id).length < l.length → nth l (l.takeWhile id).length = false
  | [], h => by simp at h
  | false :: l, h => by simp [nth]
  | true :: l, h => by
    simp only [List.takeWhile_cons, id, if_true, List.length_cons] at h ⊢
    have := takeWhile_stop' l (by omega)
    simpa [nth, List.getD] using this
theorem skipTo_stop' {l : List Bool} {b : Nat} (h : skipTo l b < l.length) : nth l (skipTo l b) = false := by
  unfold skipTo at h ⊢
  have := takeWhile_stop' (l.drop b) (by rw [List.length_drop]; omega)
  unfold nth List.getD at this ⊢
  rw [List.getElem?_drop] at this
  exact this
theorem goodB.skip {ps : List Pkt} {ms : MS} (h : goodB ps ms) (hl : ms.begun.length = ps.length) : skipTo ms.begun ms.before ≤ ps.length ∧ ∀ i, i < skipTo ms.begun ms.before → nth ms.begun i = true := by
  refine ⟨by rw [← hl]; exact skipTo_le (by rw [hl]; exact h.1), fun i hi => ?_⟩
  by_cases h1 : i < ms.before
  · exact h.2 i h1
  · exact skipTo_begun (by omega) hi
/-- First: what it says -/
theorem firstR_some {ps : List Pkt} {ms : MS} (h : goodB ps ms) (hl : ms.begun.length = ps.length) (h0 : 0 ≤ firstR ps ms) :
    (firstR ps ms).toNat < ps.length ∧ nth ms.begun (firstR ps ms).toNat = false ∧ (nth ps (firstR ps ms).toNat).time ≤ ms.now ∧ ∀ i, i < (firstR ps ms).toNat → nth ms.begun i = true := by
  have hs := h.skip hl
  unfold firstR at h0 ⊢
  dsimp only at h0 ⊢
  split at h0
  · rename_i hh
    rw [if_pos hh]
    simp only [Int.toNat_natCast]
    exact ⟨hh.1, skipTo_stop' (by rw [hl]; exact hh.1), hh.2, hs.2⟩
  · omega
theorem firstR_none {ps : List Pkt} {ms : MS} (hsort : ps.Pairwise fun a b => a.time ≤ b.time) (h : goodB ps ms) (hl : ms.begun.length = ps.length) (h0 : firstR ps ms < 0) : ∀ i, i < ps.length → (nth ps i).time ≤ ms.now → nth ms.begun i = true := by
  have hs := h.skip hl
  unfold firstR at h0
  dsimp only at h0
  split at h0
  · omega
  · rename_i hh
    intro i hi ht
    by_cases h1 : i < skipTo ms.begun ms.before
    · exact hs.2 i h1
    · exfalso
      apply hh
      refine ⟨by omega, ?_⟩
      by_cases e : skipTo ms.begun ms.before = i
      · rw [e]; exact ht
      · have := List.pairwise_iff_getElem.1 hsort (skipTo ms.begun ms.before) i (by omega) hi (by omega)
        rw [nth_eq (by omega)]
        rw [nth_eq hi] at ht
        omega
def goodFB (ps : List Pkt) (ms : MS) (_ : Unit) : Prop := goodB ps ms
theorem goodFB_fair (ps : List Pkt) : Fair ps (fifo ps) (goodFB ps) (fun _ _ => True) where
  free := fun _ _ _ _ h => h
  idx := fun ms _ _ _ _ => (firstR_lt ps ms).1
  some := fun ms _ h hb h0 => by
    have hs := goodB.skip h hb
    refine ⟨hs.1, fun i hi => ?_⟩
    dsimp only [fifo] at hi ⊢
    by_cases e : (firstR ps ms).toNat = i
    · subst e
      have := (firstR_lt ps ms).1
      dsimp only [fifo] at h0
      rw [nth_set_self (by omega)]
    · rw [nth_set_ne e]; exact hs.2 i hi
  none := fun ms _ h hb _ => by
    have hs := goodB.skip h hb
    exact ⟨hs.1, hs.2⟩
  waits := fun ms _ h hb h0 => by
    have := firstR_some h hb h0
    exact ⟨this.2.1, this.2.2.1⟩
  ord := fun ms _ h hb h0 i hi _ => (firstR_some h hb h0).2.2.2 i hi
theorem goodFB_busy {ps : List Pkt} (hsort : ps.Pairwise fun a b => a.time ≤ b.time) : Busy ps (fifo ps) (goodFB ps) := fun _ _ h hb h0 => firstR_none hsort h hb h0
theorem goodFB_start (ps : List Pkt) (classes : Nat) : goodFB ps (start ps classes ()).ms () := ⟨Nat.zero_le _, fun i hi => by simp [start] at hi⟩
/-! ### what a line guarantees -/
/-- bytes that have arrived, tick by tick -/
def cumL (flow : Int) (ps : List Pkt) (n : Nat) : List Int := (List.range n).map fun (t : Nat) => pbytes flow (t : Int) ps
/-- the sums of all classes -/
def totL (sent : List (List Int)) (n : Nat) : List Int := (List.range n).map fun (t : Nat) => colSum sent t
theorem range_map_snoc {α : Type} (f : Nat → α) (n : Nat) : (List.range (n + 1)).map f = (List.range n).map f ++ [f n] := by rw [List.range_succ]; simp
theorem range_map_nth {α : Type} [Inhabited α] (f : Nat → α) {n i : Nat} (h : i < n) : nth ((List.range n).map f) i = f i := by
  rw [nth_eq (by simpa using h)]; simp
def oneP (p : Pkt) : Pkt := { p with flow := 0 }
/-- a curve's value, as the references have it -/
def atR (xs : List Int) (per inc t : Int) : Int :=
  if t < 0 ∨ ((xs.length : Int) ≤ t ∧ (per < 1 ∨ (xs.length : Int) < per)) then -1
  else if t < xs.length then nth xs t.toNat
  else if nth xs (t - ((t - xs.length) / per + 1) * per).toNat = 4611686018427387904 then 4611686018427387904
  else nth xs (t - ((t - xs.length) / per + 1) * per).toNat + ((t - xs.length) / per + 1) * inc
def dval (d : Int) : Int := if d < 0 then 1000 else d
end Go.Proofs.Ytcfnckccmkjjlaa.M

/- The references' line, plain; and that it does what the machine does, whatever the choice. No condition. -/
namespace Go.Proofs.Ytcfnckccmkjjlaa.M
open Go Go.Proofs.Ytcfnckccmkjjlaa.K

/-- the first number from a place on of which something is said -/
def findFrom (P : Nat → Bool) : Nat → Nat → Int
  | 0, _ => -1
  | k + 1, i => if P i then i else findFrom P k (i + 1)
def findN (P : Nat → Bool) (n : Nat) : Int := findFrom P n 0
theorem findFrom_cases (P : Nat → Bool) : ∀ (k a : Nat), (∃ i, a ≤ i ∧ i < a + k ∧ findFrom P k a = i ∧ P i = true ∧ ∀ j, a ≤ j → j < i → P j = false) ∨ (findFrom P k a = -1 ∧ ∀ j, a ≤ j → j < a + k → P j = false)
  | 0, a => .inr ⟨rfl, fun j h1 h2 => by omega⟩
  | k + 1, a => by
    simp only [findFrom]
    cases hp : P a with
    | true =>
      left
      exact ⟨a, Nat.le_refl _, by omega, by simp, hp, fun j h1 h2 => by omega⟩
    | false =>
      rcases findFrom_cases P k (a + 1) with ⟨i, h1, h2, h3, h4, h5⟩ | ⟨h1, h2⟩
      · left
        refine ⟨i, by omega, by omega, by simpa using h3, h4, fun j h6 h7 => ?_⟩
        by_cases e : j = a
        · subst e; exact hp
        · exact h5 j (by omega) h7
      · right
        refine ⟨by simpa using h1, fun j h6 h7 => ?_⟩
        by_cases e : j = a
        · subst e; exact hp
        · exact h2 j (by omega) (by omega)
theorem findN_cases (P : Nat → Bool) (n : Nat) : (∃ i, i < n ∧ findN P n = i ∧ P i = true ∧ ∀ j, j < i → P j = false) ∨ (findN P n = -1 ∧ ∀ j, j < n → P j = false) := by
  rcases findFrom_cases P n 0 with ⟨i, h1, h2, h3, h4, h5⟩ | ⟨h1, h2⟩
  · exact .inl ⟨i, by omega, h3, h4, fun j hj => h5 j (by omega) hj⟩
  · exact .inr ⟨h1, fun j hj => h2 j (by omega) (by omega)⟩
theorem findN_some {P : Nat → Bool} {n i : Nat} (hi : i < n) (hP : P i = true) (h : ∀ j, j < i → P j = false) : findN P n = i := by
  rcases findN_cases P n with ⟨k, h1, h2, h3, h4⟩ | ⟨h1, h2⟩
  · rcases Nat.lt_trichotomy i k with h5 | h5 | h5
    · rw [h4 i h5] at hP; cases hP
    · subst h5; exact h2
    · rw [h k h5] at h3; cases h3
  · rw [h2 i hi] at hP; cases hP
theorem findN_none {P : Nat → Bool} {n : Nat} (h : ∀ j, j < n → P j = false) : findN P n = -1 := by
  rcases findN_cases P n with ⟨k, h1, h2, h3, h4⟩ | ⟨h1, h2⟩
  · rw [h k h1] at h3; cases h3
  · exact h1

/-- the state of a reference's line -/
structure St where
  time : Nat
  given : List Int
  now : Int
  done : List Int
  sent : List (List Int)
def waits (ps : List Pkt) (st : St) (i : Nat) : Bool := decide ((nth ps i).time ≤ (st.time : Int)) && (nth st.given i == 0) && (st.now != (i : Int))
def firstW (ps : List Pkt) (st : St) (cls : Int) : Int := findN (fun i => (cls == -1 || (nth ps i).flow == cls) && waits ps st i) ps.length
def rbegin (st : St) : St := { st with sent := st.sent.map fun l => l ++ [nth l (l.length - 1)] }
def rsendN (ps : List Pkt) (most : Int) (st : St) : Int :=
  if (nth ps st.now.toNat).size - nth st.given st.now.toNat < most then (nth ps st.now.toNat).size - nth st.given st.now.toNat else most
def rsend (ps : List Pkt) (most : Int) (st : St) : St :=
  let i := st.now.toNat
  let n := rsendN ps most st
  let f := (nth ps i).flow.toNat
  let l := nth st.sent f
  let g := nth st.given i + n
  { st with given := st.given.set i g, sent := st.sent.set f (l.set (l.length - 1) (nth l (l.length - 1) + n)),
            done := if g = (nth ps i).size then st.done.set i st.time else st.done, now := if g = (nth ps i).size then -1 else st.now }
section
variable {τ : Type} (ps : List Pkt) (rc : St → τ → Int × τ)
def rpick (st : St) (g : τ) : Int × τ := if st.now = -1 then rc st g else (st.now, g)
def rinner : Nat → Int → St → τ → St × τ
  | 0, _, st, g => (st, g)
  | k + 1, left, st, g =>
    if left ≤ 0 then (st, g) else
      let r := rpick rc st g
      let st1 := { st with now := r.1 }
      if r.1 = -1 then (st1, r.2) else rinner k (left - rsendN ps left st1) (rsend ps left st1) r.2
def rtick (cap : Int) (st : St) (g : τ) : St × τ :=
  let x := rinner ps rc cap.toNat cap (rbegin st) g
  ({ x.1 with time := x.1.time + 1 }, x.2)
def rticks (cap : Int) : Nat → St → τ → St × τ
  | 0, st, g => (st, g)
  | k + 1, st, g => rticks cap k (rtick ps rc cap st g).1 (rtick ps rc cap st g).2
def rstart (classes : Nat) : St := { time := 0, given := List.replicate ps.length 0, now := -1, done := List.replicate ps.length (-1), sent := List.replicate classes [0] }
def rrun (cap : Int) (classes ticks : Nat) (g : τ) : St := (rticks ps rc cap ticks (rstart ps classes) g).1
end

structure Sm {σ : Type} (ps : List Pkt) (s : RS σ) (st : St) : Prop where
  glen : st.given.length = ps.length
  now : st.now = if s.cur < 0 then -1 else s.cur
  giv : ∀ i, i < ps.length → nth st.given i = if s.cur = i then (nth ps i).size - s.rest else if nth s.ms.begun i = true then (nth ps i).size else 0
  done : st.done = s.done
  sent : st.sent = s.sent
section
variable {σ τ : Type} {ps : List Pkt} {ch : MS → σ → Int × Nat × σ} {good : MS → σ → Prop} {rel : Nat → Nat → Prop} {classes col : Nat} {s : RS σ} {st : St} {g : τ} {rc : St → τ → Int × τ} {ρ : σ → τ → Prop}
theorem Sm.waits (h : Sm ps s st) (hw : Wk ps classes good rel col s) (hs : ∀ p ∈ ps, 1 ≤ p.size) (ht : (st.time : Int) = s.ms.now) {i : Nat} (hi : i < ps.length) : waits ps st i = (decide ((nth ps i).time ≤ s.ms.now) && !nth s.ms.begun i) := by
  have hz := hs _ (nth_mem hi)
  unfold M.waits
  rw [ht, h.giv i hi, h.now]
  by_cases hc : s.cur = i
  · have := (hw.cur (by omega)).2.1
    rw [hc] at this
    simp only [Int.toNat_natCast] at this
    have e : ((if s.cur < 0 then -1 else s.cur) != (i : Int)) = false := by rw [if_neg (show ¬ s.cur < 0 by omega)]; simp [hc]
    rw [e, this]
    simp
  · rw [if_neg hc]
    have hne : ((if s.cur < 0 then -1 else s.cur) != (i : Int)) = true := by
      split
      · simp
      · simpa using hc
    rw [hne]
    cases hb : nth s.ms.begun i with
    | true =>
      have : ((nth ps i).size == 0) = false := by simp; omega
      simp [this]
    | false => simp
/-- what a reference's choice must do beside that of the program -/
def Alike {σ τ : Type} (ps : List Pkt) (ch : MS → σ → Int × Nat × σ) (good : MS → σ → Prop) (rc : St → τ → Int × τ) (ρ : σ → τ → Prop) : Prop :=
  ∀ (ms : MS) (sg : σ) (st : St) (g : τ), good ms sg → ms.begun.length = ps.length → ρ sg g → (st.time : Int) = ms.now → st.now = -1 → (∀ i, i < ps.length → waits ps st i = (decide ((nth ps i).time ≤ ms.now) && !nth ms.begun i)) →
    (rc st g).1 = (if (ch ms sg).1 < 0 then -1 else (ch ms sg).1) ∧ ρ (ch ms sg).2.2 (rc st g).2
theorem Sm.pickup (hg : Fair ps ch good rel) (hs : ∀ p ∈ ps, 1 ≤ p.size) (hal : Alike ps ch good rc ρ) (h : Sm ps s st) (hw : Wk ps classes good rel col s) (hr : ρ s.sg g) (ht : (st.time : Int) = s.ms.now) :
    Sm ps (pickup ps ch s) { st with now := (rpick rc st g).1 } ∧ ρ (pickup ps ch s).sg (rpick rc st g).2 ∧ (rpick rc st g).1 = (if (pickup ps ch s).cur < 0 then -1 else (pickup ps ch s).cur) := by
  unfold M.pickup rpick
  have hnow := h.now
  by_cases hc : 0 ≤ s.cur
  · rw [if_pos hc]
    rw [if_neg (show ¬ s.cur < 0 by omega)] at hnow
    rw [if_neg (by omega)]
    refine ⟨⟨h.glen, ?_, h.giv, h.done, h.sent⟩, hr, ?_⟩
    · dsimp only; rw [if_neg (by omega)]; exact hnow
    · dsimp only; rw [if_neg (by omega)]; exact hnow
  · rw [if_neg hc]
    rw [if_pos (show s.cur < 0 by omega)] at hnow
    rw [if_pos hnow]
    obtain ⟨a1, a2⟩ := hal s.ms s.sg st g hw.good hw.blen hr ht hnow (fun i hi => h.waits hw hs ht hi)
    by_cases hr' : (ch s.ms s.sg).1 < 0
    · simp only [hr', if_true] at a1 ⊢
      refine ⟨⟨h.glen, by dsimp only; rw [if_pos hr', a1], fun i hi => ?_, h.done, h.sent⟩, a2, a1⟩
      dsimp only
      rw [h.giv i hi, if_neg (show ¬ s.cur = (i : Int) by omega), if_neg (show ¬ (ch s.ms s.sg).1 = (i : Int) by omega)]
    · simp only [hr', if_false] at a1 ⊢
      have hi' := hg.idx _ _ hw.good hw.blen (by omega)
      have hwt := hg.waits _ _ hw.good hw.blen (by omega)
      refine ⟨⟨h.glen, by dsimp only; rw [if_neg hr', a1], fun i hi => ?_, h.done, h.sent⟩, a2, a1⟩
      dsimp only
      rw [h.giv i hi, if_neg (show ¬ s.cur = i by omega)]
      by_cases e : (ch s.ms s.sg).1 = i
      · rw [if_pos e]
        rw [e] at hwt ⊢
        simp only [Int.toNat_natCast] at hwt ⊢
        rw [hwt.1]; simp
      · rw [if_neg e, nth_set_ne (by omega)]
theorem Sm.send {t : Nat} (h : Sm ps s st) (hw : Wk ps classes good rel (t + 1) s) (hfl : ∀ p ∈ ps, 0 ≤ p.flow ∧ p.flow < classes) (ht : (st.time : Int) = (t : Int)) (hc : 0 ≤ s.cur) :
    Sm ps (send ps t s) (rsend ps s.ms.left st) ∧ s.ms.left - rsendN ps s.ms.left st = (send ps t s).ms.left := by
  obtain ⟨c1, c2, c3⟩ := hw.cur hc
  have hi : s.cur.toNat < ps.length := by omega
  have hnow : st.now = s.cur := by rw [h.now, if_neg (by omega)]
  have hgiv : nth st.given s.cur.toNat = (nth ps s.cur.toNat).size - s.rest := by rw [h.giv _ hi, if_pos (by omega)]
  have hf : (nth ps s.cur.toNat).flow.toNat < s.sent.length := by rw [hw.slen]; have := hfl _ (nth_mem hi); omega
  have hrow := hw.rlen _ (nth_mem hf)
  have hn : rsendN ps s.ms.left st = if s.ms.left < s.rest then s.ms.left else s.rest := by
    unfold rsendN
    rw [hnow, hgiv]
    split <;> split <;> omega
  unfold rsend M.send
  rw [hn]
  generalize (if s.ms.left < s.rest then s.ms.left else s.rest) = n
  dsimp only
  rw [hnow, hgiv, h.sent]
  have hl : (nth s.sent (nth ps s.cur.toNat).flow.toNat).length - 1 = t + 1 := by omega
  rw [hl]
  have hz : ((nth ps s.cur.toNat).size - s.rest + n = (nth ps s.cur.toNat).size) ↔ s.rest - n = 0 := by omega
  refine ⟨⟨by simp [h.glen], ?_, fun i hi2 => ?_, ?_, rfl⟩, rfl⟩
  · dsimp only
    by_cases e : s.rest - n = 0
    · rw [if_pos (hz.2 e), if_pos e]; rfl
    · rw [if_neg (fun h => e (hz.1 h)), if_neg e, if_neg (by omega)]
  · dsimp only
    by_cases e2 : s.cur.toNat = i
    · subst e2
      rw [nth_set_self (by rw [h.glen]; exact hi), c2]
      by_cases e : s.rest - n = 0
      · rw [if_pos e, if_neg (by omega), if_pos rfl]; omega
      · rw [if_neg e, if_pos (by omega)]; omega
    · rw [nth_set_ne e2, h.giv i hi2, if_neg (show ¬ s.cur = (i : Int) by omega)]
      by_cases e : s.rest - n = 0
      · rw [if_pos e, if_neg (show ¬ (-1 : Int) = (i : Int) by omega)]
      · rw [if_neg e, if_neg (show ¬ s.cur = (i : Int) by omega)]
  · dsimp only
    rw [h.done, ht]
    by_cases e : s.rest - n = 0
    · rw [if_pos (hz.2 e), if_pos e]
    · rw [if_neg (fun h => e (hz.1 h)), if_neg e]
theorem Sm.inner (hg : Fair ps ch good rel) (hs : ∀ p ∈ ps, 1 ≤ p.size) (hfl : ∀ p ∈ ps, 0 ≤ p.flow ∧ p.flow < classes) (hal : Alike ps ch good rc ρ) {t : Nat} : ∀ (j : Nat) (s : RS σ) (st : St) (g : τ), Sm ps s st → Wk ps classes good rel (t + 1) s → ρ s.sg g → st.time = t → s.ms.now = t →
    Sm ps (inner ps ch t j s) (rinner ps rc j s.ms.left st g).1 ∧ ρ (inner ps ch t j s).sg (rinner ps rc j s.ms.left st g).2 ∧ (rinner ps rc j s.ms.left st g).1.time = t
  | 0, s, st, g, h, hw, hr, ht, hn => ⟨h, hr, ht⟩
  | j + 1, s, st, g, h, hw, hr, ht, hn => by
    simp only [M.inner, rinner]
    by_cases hl : s.ms.left ≤ 0
    · rw [if_pos hl, if_pos hl]; exact ⟨h, hr, ht⟩
    · rw [if_neg hl, if_neg hl]
      obtain ⟨p1, p2, p3⟩ := h.pickup hg hs hal hw hr (by omega)
      have hp := hw.pickup hg hs
      obtain ⟨e1, e2, e3, e4⟩ := pickup_same ps ch s
      by_cases hc : (M.pickup ps ch s).cur < 0
      · rw [if_pos hc] at p3 ⊢
        rw [if_pos p3]
        exact ⟨p1, p2, ht⟩
      · rw [if_neg hc] at p3 ⊢
        rw [if_neg (by omega)]
        obtain ⟨q1, q2⟩ := p1.send hp hfl (t := t) (by dsimp only; omega) (by omega)
        obtain ⟨g1, g2, g3, g4, g5, g6⟩ := hp.send hfl hg.free (by rw [e2]; exact hn) (by omega) (by rw [e1]; omega)
        rw [e1] at q1 q2
        rw [q2]
        exact Sm.inner hg hs hfl hal j _ _ _ q1 g1 p2 ht (by rw [g5, e2]; exact hn)
theorem Sm.tick (hg : Fair ps ch good rel) (hs : ∀ p ∈ ps, 1 ≤ p.size) (hfl : ∀ p ∈ ps, 0 ≤ p.flow ∧ p.flow < classes) (hal : Alike ps ch good rc ρ) {t : Nat} {cap : Int} (h : Sm ps s st) (hw : Wk ps classes good rel t s) (hr : ρ s.sg g) (ht : st.time = t) (hnow : s.ms.now ≤ t) :
    Sm ps (tick ps ch cap t s) (rtick ps rc cap st g).1 ∧ ρ (tick ps ch cap t s).sg (rtick ps rc cap st g).2 ∧ (rtick ps rc cap st g).1.time = t + 1 := by
  have h1 : Sm ps { s with ms := { s.ms with now := t, left := cap }, sent := s.sent.map fun l => l ++ [nth l t] } (rbegin st) := by
    refine ⟨h.glen, h.now, h.giv, h.done, ?_⟩
    unfold rbegin
    dsimp only
    rw [h.sent]
    apply List.map_congr_left
    intro l hl
    have := hw.rlen l hl
    rw [show l.length - 1 = t by omega]
  have hrow : ∀ l ∈ s.sent, nth (l ++ [nth l t]) (t + 1) = nth l t := fun l hl => by
    have := hw.rlen l hl
    unfold nth List.getD
    rw [List.getElem?_append_right (by omega), this]; simp
  have h2 : Wk ps classes good rel (t + 1) { s with ms := { s.ms with now := t, left := cap }, sent := s.sent.map fun l => l ++ [nth l t] } := by
    refine ⟨hg.free _ _ _ _ hw.good, hw.dlen, hw.blen, by simp [hw.slen], fun l hl => ?_, hw.cur, hw.open_, fun i hi hb hne => ?_, fun i hi hb => ?_, hw.ord, hw.dord, by dsimp only; rw [colSum_map _ hrow]; exact hw.sum⟩
    · obtain ⟨l', h2, rfl⟩ := List.mem_map.1 hl
      simp [hw.rlen l' h2]
    · have := hw.shut i hi hb hne
      dsimp only; omega
    · have := hw.time i hi hb
      dsimp only; omega
  obtain ⟨k1, k2, k3⟩ := Sm.inner hg hs hfl hal (t := t) cap.toNat _ (rbegin st) g h1 h2 hr ht rfl
  unfold M.tick rtick
  dsimp only at k1 k2 k3 ⊢
  exact ⟨⟨k1.glen, k1.now, k1.giv, k1.done, k1.sent⟩, k2, by omega⟩
end
/-! ### first in, first out -/
def fifoR (ps : List Pkt) (st : St) (_ : Unit) : Int × Unit := (firstW ps st (-1), ())
end Go.Proofs.Ytcfnckccmkjjlaa.M

/- What stays true in a reference's run, plain. No condition. -/
namespace Go.Proofs.Ytcfnckccmkjjlaa.M
open Go Go.Proofs.Ytcfnckccmkjjlaa.K

structure RInv (ps : List Pkt) (classes len : Nat) (B : Int) (st : St) : Prop where
  glen : st.given.length = ps.length
  dlen : st.done.length = ps.length
  slen : st.sent.length = classes
  rows : ∀ l ∈ st.sent, l.length = len ∧ ∀ x ∈ l, 0 ≤ x ∧ x ≤ B
  now : st.now = -1 ∨ (0 ≤ st.now ∧ st.now < ps.length ∧ nth st.given st.now.toNat < (nth ps st.now.toNat).size)
  giv : ∀ i, i < ps.length → 0 ≤ nth st.given i ∧ nth st.given i ≤ (nth ps i).size
section
variable {ps : List Pkt} {classes len : Nat} {B : Int} {st : St}
theorem RInv.mono {B' : Int} (h : RInv ps classes len B st) (hb : B ≤ B') : RInv ps classes len B' st :=
  ⟨h.glen, h.dlen, h.slen, fun l hl => ⟨(h.rows l hl).1, fun x hx => by have := (h.rows l hl).2 x hx; omega⟩, h.now, h.giv⟩
theorem RInv.start (hs : ∀ p ∈ ps, 1 ≤ p.size) : RInv ps classes 1 0 (rstart ps classes) := by
  refine ⟨by simp [rstart], by simp [rstart], by simp [rstart], fun l hl => ?_, .inl rfl, fun i hi => ?_⟩
  · have : l = [0] := List.eq_of_mem_replicate hl
    subst this
    exact ⟨rfl, fun x hx => by simp at hx; omega⟩
  · have := hs _ (nth_mem hi)
    simp only [rstart]
    rw [nth_replicate hi]; omega
theorem RInv.begin (h : RInv ps classes len B st) (hl : 0 < len) : RInv ps classes (len + 1) B (rbegin st) := by
  refine ⟨h.glen, h.dlen, by simp [rbegin, h.slen], fun l hl' => ?_, h.now, h.giv⟩
  obtain ⟨l', h1, rfl⟩ := List.mem_map.1 hl'
  have h2 := h.rows l' h1
  refine ⟨by simp [h2.1], fun x hx => ?_⟩
  rcases List.mem_append.1 hx with hx | hx
  · exact h2.2 x hx
  · obtain rfl : x = nth l' (l'.length - 1) := by simpa using hx
    exact h2.2 _ (nth_mem (by omega))
theorem RInv.tick (h : RInv ps classes len B st) : RInv ps classes len B { st with time := st.time + 1 } := ⟨h.glen, h.dlen, h.slen, h.rows, h.now, h.giv⟩
/-- a choice of what waits -/
def Waiting {τ : Type} (ps : List Pkt) (rc : St → τ → Int × τ) : Prop := ∀ st g, (rc st g).1 = -1 ∨ (0 ≤ (rc st g).1 ∧ (rc st g).1 < ps.length ∧ waits ps st (rc st g).1.toNat = true)
theorem RInv.pick {τ : Type} {rc : St → τ → Int × τ} {g : τ} (h : RInv ps classes len B st) (hs : ∀ p ∈ ps, 1 ≤ p.size) (hrc : Waiting ps rc) : RInv ps classes len B { st with now := (rpick rc st g).1 } := by
  refine ⟨h.glen, h.dlen, h.slen, h.rows, ?_, h.giv⟩
  unfold rpick
  split
  · rcases hrc st g with h1 | ⟨h1, h2, h3⟩
    · exact .inl h1
    · refine .inr ⟨h1, h2, ?_⟩
      unfold waits at h3
      simp only [Bool.and_eq_true, beq_iff_eq] at h3
      have := hs _ (nth_mem (xs := ps) (k := (rc st g).1.toNat) (by omega))
      dsimp only
      omega
  · exact h.now
theorem RInv.send (h : RInv ps classes len B st) (hfl : ∀ p ∈ ps, 0 ≤ p.flow ∧ p.flow < classes) (hl : 0 < len) (hn : st.now ≠ -1) {most : Int} (hm : 0 < most) :
    RInv ps classes len (B + rsendN ps most st) (rsend ps most st) ∧ 1 ≤ rsendN ps most st ∧ rsendN ps most st ≤ most := by
  obtain ⟨n1, n2, n3⟩ := h.now.resolve_left hn
  have hi : st.now.toNat < ps.length := by omega
  have hf : (nth ps st.now.toNat).flow.toNat < st.sent.length := by rw [h.slen]; have := hfl _ (nth_mem hi); omega
  have hrow := h.rows _ (nth_mem hf)
  have hg := h.giv _ hi
  have hb : 1 ≤ rsendN ps most st ∧ rsendN ps most st ≤ most ∧ nth st.given st.now.toNat + rsendN ps most st ≤ (nth ps st.now.toNat).size := by unfold rsendN; split <;> omega
  have hlast : 0 ≤ nth (nth st.sent (nth ps st.now.toNat).flow.toNat) ((nth st.sent (nth ps st.now.toNat).flow.toNat).length - 1) ∧ nth (nth st.sent (nth ps st.now.toNat).flow.toNat) ((nth st.sent (nth ps st.now.toNat).flow.toNat).length - 1) ≤ B := hrow.2 _ (nth_mem (by omega))
  refine ⟨?_, hb.1, hb.2.1⟩
  unfold rsend
  generalize rsendN ps most st = n at hb ⊢
  dsimp only
  refine ⟨by simp [h.glen], ?_, by simp [h.slen], fun l hl' => ?_, ?_, fun i hi2 => ?_⟩
  · dsimp only; split <;> simp [h.dlen]
  · rcases List.mem_or_eq_of_mem_set hl' with h1 | rfl
    · have := h.rows l h1
      exact ⟨this.1, fun x hx => by have := this.2 x hx; omega⟩
    · refine ⟨by simp [hrow.1], fun x hx => ?_⟩
      rcases List.mem_or_eq_of_mem_set hx with h2 | rfl
      · have := hrow.2 x h2; omega
      · omega
  · dsimp only
    by_cases e : nth st.given st.now.toNat + n = (nth ps st.now.toNat).size
    · rw [if_pos e]; exact .inl rfl
    · rw [if_neg e]
      refine .inr ⟨n1, n2, ?_⟩
      rw [nth_set_self (by rw [h.glen]; exact hi)]; omega
  · dsimp only
    by_cases e : st.now.toNat = i
    · subst e; rw [nth_set_self (by rw [h.glen]; exact hi)]; omega
    · rw [nth_set_ne e]; exact h.giv i hi2
end
end Go.Proofs.Ytcfnckccmkjjlaa.M

/- What the line answers, plain: errors and runs; queues. No condition. -/
namespace Go.Proofs.Ytcfnckccmkjjlaa.M
open Go Go.Proofs.Ytcfnckccmkjjlaa.K

/-- slices of packets, and three numbers, in a slice -/
structure SlP where
  a : Option Addr
  cap : Nat
  xs : List Pkt
instance instSlP : Inhabited SlP := ⟨⟨none, 0, []⟩⟩
def encL (s : SlP) : List Value := [.slice s.a s.xs.length s.cap]
def enc3 (x : Int × Int × Int) : List Value := [.int .i64 x.1, .int .i64 x.2.1, .int .i64 x.2.2]
def enc2 (x : Int × Int) : List Value := [.int .i64 x.1, .int .i64 x.2]
def lrunE (cap classes ticks : Int) (ps : List Pkt) : Int := if validate ps ≠ 0 then validate ps else checkE cap classes ticks ps
def lineOut (cap classes ticks : Int) (ps : List Pkt) : List Int × List (List Int) :=
  if lrunE cap classes ticks ps ≠ 0 then ([], []) else ((mrun ps (fifo ps) cap classes.toNat ticks.toNat ()).done, (mrun ps (fifo ps) cap classes.toNat ticks.toNat ()).sent)
theorem lrunE_ok {cap classes ticks : Int} {ps : List Pkt} (h : lrunE cap classes ticks ps = 0) : Ok ps ∧ validate ps = 0 ∧ checkE cap classes ticks ps = 0 ∧ 1 ≤ cap ∧ cap ≤ 4000 ∧ 1 ≤ classes ∧ classes ≤ 6 ∧ 0 ≤ ticks ∧ ticks ≤ 2000 ∧ (∀ p ∈ ps, 1 ≤ p.size ∧ p.size ≤ 1500) ∧ ∀ p ∈ ps, 0 ≤ p.flow ∧ p.flow < classes := by
  unfold lrunE at h
  split at h
  · rename_i hv; exact absurd h hv
  · rename_i hv
    have hv : validate ps = 0 := by omega
    have hok := (validate_ok ps).1 hv
    obtain ⟨h1, h2⟩ := checkE_ok h
    unfold BadC at h1
    refine ⟨hok, hv, h, by omega, by omega, by omega, by omega, by omega, by omega, fun p hp => by have := hok.at hp; omega, fun p hp => by have := hok.at hp; have := h2 p hp; omega⟩
/-! ### queues -/
def selSum (cls t : Int) : Nat → List (List Int) → Int
  | _, [] => 0
  | c, l :: ls => (if (c : Int) ≠ cls ∧ cls ≠ -1 then 0 else nth l t.toNat) + selSum cls t (c + 1) ls
end Go.Proofs.Ytcfnckccmkjjlaa.M

/- A trial. No condition. -/
set_option linter.unusedSimpArgs false
set_option linter.unusedVariables false
namespace Go.Proofs.Ytcfnckccmkjjlaa
open Go Go.RowKit Go.Proofs.Ytcfnckccmkjjlaa.K Go.Proofs.Ytcfnckccmkjjlaa.M

theorem Ints_V {R : Ro} {a b : Option Addr} {ca cb : Nat} {xs ys : List Int} (ha : RS R 1 encI a xs) (hb : RS R 1 encI b ys) :
    FnV Try.prog 40 [.slice a xs.length ca, .slice b ys.length cb] R (.bool (decide (xs = ys))) := by
  have hla := ha.len
  have hlb := hb.len
  refine Fn.toV (fun w0 E => ?_)
  refine Fn.enter (n := 26) Try.func40 rfl rfl (Nat.le_of_ble_eq_true rfl) rfl ?_
  refine W.seq ?_
  refine W.region _ ?_
  refine WG.run tab_ok 1 rfl ?_
  refine WG.nil ?_
  refine WE.nxt ?_
  refine W.seq ?_
  refine W.seq ?_
  refine W.region _ ?_
  refine WG.run tab_ok 5 rfl ?_
  refine WG.nil ?_
  refine WE.nxt ?_
  refine W.condN rfl (fun hc0 => ?_) (fun hc0 => ?_)
  · try dsimp only at hc0
    refine W.seq ?_
    refine W.region _ ?_
    refine WG.run tab_ok 1 rfl ?_
    refine WG.nil ?_
    refine WE.nxt ?_
    refine W.ret ?_
    refine WE.then_ret ?_
    refine WE.retF tab_ok [_] rfl ⟨rfl, trivial⟩ (RLe.refl _) ?_
    exact ⟨congrArg Value.bool (by symm; apply decide_eq_false; rintro rfl; exact hc0 rfl), rfl⟩
  · try dsimp only at hc0
    refine W.skip ?_
    refine WE.nxt ?_
    refine W.seq ?_
    refine W.seq ?_
    refine W.region _ ?_
    refine WG.run tab_ok 1 rfl ?_
    refine WG.nil ?_
    refine WE.nxt ?_
    refine W.block ?_
    refine W.loop (β := Nat) (fun k => k ≤ xs.length ∧ ∀ i, i < k → nth xs i = nth ys i) (fun k => [(0, true, .slice a xs.length ca), (1, true, .slice b ys.length cb), (5, true, .int .i64 k)]) (fun _ => R) (fun _ => E) (fun k => xs.length - k) 0 ⟨Nat.zero_le _, fun i hi => absurd hi (Nat.not_lt_zero i)⟩ ⟨rfl, rfl, rfl, rfl⟩ (RLe.refl _) (List.Sublist.refl _) ?_
    intro st hst
    obtain ⟨hk, hpre⟩ := hst
    refine W.seq ?_
    refine W.seq ?_
    refine W.region _ ?_
    refine WG.run tab_ok 4 rfl ?_
    refine WG.nil ?_
    refine WE.nxt ?_
    refine W.condD rfl (fun hc1 => ?_) (fun hc1 => ?_)
    · try dsimp only at hc1
      refine W.skip ?_
      refine WE.nxt ?_
      refine W.seq ?_
      refine W.block ?_
      refine W.seq ?_
      refine W.regionQ _ mixed (by kernel_rfl) ?_
      refine WG.run tab_ok 2 rfl ?_
      refine WG.y rfl rfl (by decide) (Yl.indexN tab_ok rfl rfl rfl rfl rfl rfl (fun _ => rfl) (by intro _; (try dsimp only) <;> omega) (by intro _; first | exact fun _ _ _ _ => rfl | exact RS.has (by assumption) | exact fun _ _ _ _ => (by assumption) | exact HasMem.ownD 0 rfl | exact HasMem.ownD 1 rfl | exact HasMem.ownD 2 rfl | exact HasMem.ownD 3 rfl | exact HasMem.ownD 4 rfl | exact HasMem.ownD 5 rfl | exact HasMem.ownD 6 rfl | exact HasMem.ownD 7 rfl)) ?_
      refine' WG.y rfl rfl (by decide) (Yl.load1 tab_ok rfl rfl rfl (fun _ => rfl) ?r1 rfl ?h1) ?_
      case r1 => (first | (apply RS.rdD; assumption; ((try dsimp only) <;> omega)) | exact Rd.slD 0 rfl (by (try dsimp only) <;> omega) | exact Rd.slD 1 rfl (by (try dsimp only) <;> omega) | exact Rd.slD 2 rfl (by (try dsimp only) <;> omega) | exact Rd.slD 3 rfl (by (try dsimp only) <;> omega) | exact Rd.slD 4 rfl (by (try dsimp only) <;> omega) | exact Rd.slD 5 rfl (by (try dsimp only) <;> omega) | exact Rd.slD 6 rfl (by (try dsimp only) <;> omega) | exact Rd.slD 7 rfl (by (try dsimp only) <;> omega))
      case h1 => rfl
      refine WG.run tab_ok 2 rfl ?_
      refine WG.y rfl rfl (by decide) (Yl.indexN tab_ok rfl rfl rfl rfl rfl rfl (fun _ => rfl) (by intro _; (try dsimp only) <;> omega) (by intro _; first | exact fun _ _ _ _ => rfl | exact RS.has (by assumption) | exact fun _ _ _ _ => (by assumption) | exact HasMem.ownD 0 rfl | exact HasMem.ownD 1 rfl | exact HasMem.ownD 2 rfl | exact HasMem.ownD 3 rfl | exact HasMem.ownD 4 rfl | exact HasMem.ownD 5 rfl | exact HasMem.ownD 6 rfl | exact HasMem.ownD 7 rfl)) ?_
      refine' WG.y rfl rfl (by decide) (Yl.load1 tab_ok rfl rfl rfl (fun _ => rfl) ?r2 rfl ?h2) ?_
      case r2 => (first | (apply RS.rdD; assumption; ((try dsimp only) <;> omega)) | exact Rd.slD 0 rfl (by (try dsimp only) <;> omega) | exact Rd.slD 1 rfl (by (try dsimp only) <;> omega) | exact Rd.slD 2 rfl (by (try dsimp only) <;> omega) | exact Rd.slD 3 rfl (by (try dsimp only) <;> omega) | exact Rd.slD 4 rfl (by (try dsimp only) <;> omega) | exact Rd.slD 5 rfl (by (try dsimp only) <;> omega) | exact Rd.slD 6 rfl (by (try dsimp only) <;> omega) | exact Rd.slD 7 rfl (by (try dsimp only) <;> omega))
      case h2 => rfl
      refine WG.run tab_ok 1 rfl ?_
      refine WG.nil ?_
      refine WE.nxt ?_
      refine W.condN rfl (fun hc2 => ?_) (fun hc2 => ?_)
      · try dsimp only at hc2
        refine W.seq ?_
        refine W.region _ ?_
        refine WG.run tab_ok 1 rfl ?_
        refine WG.nil ?_
        refine WE.nxt ?_
        refine W.ret ?_
        refine WE.blk_ret ?_
        refine WE.then_ret ?_
        refine WE.then_ret ?_
        refine WE.blk_ret ?_
        refine WE.then_ret ?_
        refine WE.retF tab_ok [_] rfl ⟨rfl, trivial⟩ (RLe.refl _) ?_
        exact ⟨congrArg Value.bool (by symm; apply decide_eq_false; rintro rfl; exact hc2 rfl), rfl⟩
      · try dsimp only at hc2
        refine W.skip ?_
        refine WE.blk _ ?_
        refine WE.nxt ?_
        refine W.region _ ?_
        refine WG.run tab_ok 1 rfl ?_
        refine WG.y rfl rfl (by decide) (Yl.add rfl rfl rfl (fun _ => rfl) (by intro _; constructor <;> (try dsimp only) <;> omega)) ?_
        refine WG.run tab_ok 1 rfl ?_
        refine WG.nil ?_
        refine WE.again (st + 1) ⟨by omega, fun i hi => ?_⟩ (by omega) ⟨rfl, rfl, rfl, rfl⟩ (RLe.refl _) (List.Sublist.refl _)
        rcases Nat.lt_or_ge i st with h | h
        · exact hpre i h
        · obtain rfl : i = st := by omega
          exact hc2
    · try dsimp only at hc1
      refine W.exit ?_
      refine WE.then_exit ?_
      refine WE.then_exit ?_
      refine WE.blk_exit ?_
      refine WE.nxt ?_
      refine W.seq ?_
      refine W.region _ ?_
      refine WG.run tab_ok 1 rfl ?_
      refine WG.nil ?_
      refine WE.nxt ?_
      refine W.ret ?_
      refine WE.retF tab_ok [_] rfl ⟨rfl, trivial⟩ (RLe.refl _) ?_
      exact ⟨congrArg Value.bool (by symm; apply decide_eq_true; exact nth_ext (by omega) (fun i hi => hpre i (by omega))), rfl⟩

end Go.Proofs.Ytcfnckccmkjjlaa

/- A trial. No condition. -/
set_option linter.unusedSimpArgs false
set_option linter.unusedVariables false
namespace Go.Proofs.Ytcfnckccmkjjlaa
open Go Go.RowKit Go.Proofs.Ytcfnckccmkjjlaa.K Go.Proofs.Ytcfnckccmkjjlaa.M

theorem tmod_gt (x : Int) {n : Int} (h : 0 < n) : -n < x.tmod n := by
  rcases Int.le_total 0 x with h0 | h0
  · have := Int.tmod_nonneg n h0; omega
  · have h1 := Int.neg_tmod (a := x) (b := n)
    have h2 := Int.tmod_lt_of_pos (-x) h
    omega
theorem mod_pos {x n : Int} (h : 1 ≤ n) (hc : ¬ x.tmod n < 0) : x.tmod n = x % n := by
  rw [Int.tmod_eq_emod] at hc ⊢
  split at hc
  · rename_i h1; rw [if_pos h1]; omega
  · rename_i h1
    rw [if_neg h1]
    have := Int.emod_lt_of_pos x (show 0 < n by omega)
    have h2 : (n.natAbs : Int) = n := by omega
    omega
theorem mod_neg {x n : Int} (h : 1 ≤ n) (hc : x.tmod n < 0) : x.tmod n + n = x % n := by
  rw [Int.tmod_eq_emod] at hc ⊢
  split at hc
  · rename_i h1
    have := Int.emod_nonneg x (show n ≠ 0 by omega)
    omega
  · rename_i h1; rw [if_neg h1]
    have h2 : (n.natAbs : Int) = n := by omega
    omega
theorem src_end {b : Nat} {a : Option Addr} {cp : Nat} {xs : List Int} {c : Nat} (h : xs.length ≤ c) : srcE b a cp xs c = srcE b a cp xs (c + 1) := by
  unfold srcE
  rw [show min c xs.length = min (c + 1) xs.length by omega]
theorem src_next {b : Nat} {a : Option Addr} {cp : Nat} {xs : List Int} {c : Nat} (h : c < xs.length) : Ent.blk b [.slice a xs.length cp, .int .i64 (((min c xs.length : Nat) : Int) + 1)] = srcE b a cp xs (c + 1) := by
  unfold srcE
  rw [show ((min c xs.length : Nat) : Int) + 1 = ((min (c + 1) xs.length : Nat) : Int) by omega]

theorem Mod_V {R : Ro} {x n : Int} (hn : InR n) : FnV Try.prog 58 [.int .i64 x, .int .i64 n] R (.int .i64 (mod x n)) := by
  refine Fn.toV (fun w0 E => ?_)
  refine Fn.enter (n := 16) Try.func58 rfl rfl (Nat.le_of_ble_eq_true rfl) rfl ?_
  refine W.seq ?_
  refine W.region _ ?_
  refine WG.run tab_ok 1 rfl ?_
  refine WG.nil ?_
  refine WE.nxt ?_
  refine W.seq ?_
  refine W.seq ?_
  refine W.region _ ?_
  refine WG.run tab_ok 2 rfl ?_
  refine WG.nil ?_
  refine WE.nxt ?_
  refine W.condD rfl (fun hc0 => ?_) (fun hc0 => ?_)
  · try dsimp only at hc0
    refine W.seq ?_
    refine W.region _ ?_
    refine WG.run tab_ok 1 rfl ?_
    refine WG.nil ?_
    refine WE.nxt ?_
    refine W.ret ?_
    refine WE.then_ret ?_
    refine WE.retF tab_ok [_] rfl ⟨rfl, trivial⟩ (RLe.refl _) ?_
    exact ⟨by unfold mod; rw [if_pos hc0]; rfl, rfl⟩
  · try dsimp only at hc0
    refine W.skip ?_
    refine WE.nxt ?_
    refine W.seq ?_
    refine W.region _ ?_
    refine WG.run tab_ok 2 rfl ?_
    refine WG.y rfl rfl (by decide) (Yl.tmod rfl rfl rfl (fun _ => rfl) (by intro _; omega)) ?_
    refine WG.run tab_ok 1 rfl ?_
    refine WG.nil ?_
    refine WE.nxt ?_
    refine W.seq ?_
    refine W.seq ?_
    refine W.region _ ?_
    refine WG.run tab_ok 2 rfl ?_
    refine WG.nil ?_
    refine WE.nxt ?_
    refine W.condD rfl (fun hc1 => ?_) (fun hc1 => ?_)
    · try dsimp only at hc1
      refine W.region _ ?_
      refine WG.run tab_ok 2 rfl ?_
      refine WG.y rfl rfl (by decide) (Yl.add rfl rfl rfl (fun _ => rfl) (by intro _; have h9 := tmod_gt x (show (0 : Int) < n by omega); constructor <;> omega)) ?_
      refine WG.run tab_ok 1 rfl ?_
      refine WG.nil ?_
      refine WE.nxt ?_
      refine W.seq ?_
      refine W.region _ ?_
      refine WG.run tab_ok 2 rfl ?_
      refine WG.nil ?_
      refine WE.nxt ?_
      refine W.ret ?_
      refine WE.retF tab_ok [_] rfl ⟨rfl, trivial⟩ (RLe.refl _) ?_
      refine ⟨congrArg (Value.int .i64) ?_, rfl⟩
      unfold mod; rw [if_neg hc0]; exact mod_neg (by omega) hc1
    · try dsimp only at hc1
      refine W.skip ?_
      refine WE.nxt ?_
      refine W.seq ?_
      refine W.region _ ?_
      refine WG.run tab_ok 2 rfl ?_
      refine WG.nil ?_
      refine WE.nxt ?_
      refine W.ret ?_
      refine WE.retF tab_ok [_] rfl ⟨rfl, trivial⟩ (RLe.refl _) ?_
      refine ⟨congrArg (Value.int .i64) ?_, rfl⟩
      unfold mod; rw [if_neg hc0]; exact mod_pos (by omega) hc1

theorem Raw_C {R : Ro} {b : Nat} {a : Option Addr} {cp : Nat} {xs : List Int} {c : Nat} (w0 : World) (ha : RS R 1 encI a xs) : FnAt Try.prog 59 [.pointer (some ⟨b, 0, none⟩)] w0 R (srcE b a cp xs c) (RdPost (.int .i64 (nth xs c)) R (srcE b a cp xs (c + 1))) := by
  intro F
  have hla := ha.len
  refine Fn.enter (n := 31) Try.func59 rfl rfl (Nat.le_of_ble_eq_true rfl) rfl ?_
  refine W.seq ?_
  refine W.region _ ?_
  refine WG.run tab_ok 1 rfl ?_
  refine WG.nil ?_
  refine WE.nxt ?_
  refine W.seq ?_
  refine W.seq ?_
  refine W.regionQ _ mixed (by kernel_rfl) ?_
  refine WG.run tab_ok 3 rfl ?_
  refine' WG.y rfl rfl (by decide) (Yl.load1 tab_ok rfl rfl rfl (fun _ => rfl) ?r1 rfl ?h1) ?_
  case r1 => apply Rd.add; (first | exact Rd.blk 0 rfl | exact Rd.blk 1 rfl | exact Rd.blk 2 rfl | exact Rd.blk 3 rfl | exact Rd.blk 4 rfl | exact Rd.blk 5 rfl | exact Rd.blk 6 rfl | exact Rd.blk 7 rfl | (apply RS.rdD; assumption; ((try dsimp only) <;> omega)) | exact Rd.slD 0 rfl (by (try dsimp only) <;> omega) | exact Rd.slD 1 rfl (by (try dsimp only) <;> omega) | exact Rd.slD 2 rfl (by (try dsimp only) <;> omega) | exact Rd.slD 3 rfl (by (try dsimp only) <;> omega) | exact Rd.slD 4 rfl (by (try dsimp only) <;> omega) | exact Rd.slD 5 rfl (by (try dsimp only) <;> omega) | exact Rd.slD 6 rfl (by (try dsimp only) <;> omega) | exact Rd.slD 7 rfl (by (try dsimp only) <;> omega))
  case h1 => rfl
  refine WG.run tab_ok 3 rfl ?_
  refine' WG.y rfl rfl (by decide) (Yl.load1 tab_ok rfl rfl rfl (fun _ => rfl) ?r2 rfl ?h2) ?_
  case r2 => apply Rd.add; (first | exact Rd.blk 0 rfl | exact Rd.blk 1 rfl | exact Rd.blk 2 rfl | exact Rd.blk 3 rfl | exact Rd.blk 4 rfl | exact Rd.blk 5 rfl | exact Rd.blk 6 rfl | exact Rd.blk 7 rfl | (apply RS.rdD; assumption; ((try dsimp only) <;> omega)) | exact Rd.slD 0 rfl (by (try dsimp only) <;> omega) | exact Rd.slD 1 rfl (by (try dsimp only) <;> omega) | exact Rd.slD 2 rfl (by (try dsimp only) <;> omega) | exact Rd.slD 3 rfl (by (try dsimp only) <;> omega) | exact Rd.slD 4 rfl (by (try dsimp only) <;> omega) | exact Rd.slD 5 rfl (by (try dsimp only) <;> omega) | exact Rd.slD 6 rfl (by (try dsimp only) <;> omega) | exact Rd.slD 7 rfl (by (try dsimp only) <;> omega))
  case h2 => rfl
  refine WG.run tab_ok 2 rfl ?_
  refine WG.nil ?_
  refine WE.nxt ?_
  refine W.condD rfl (fun hc0 => ?_) (fun hc0 => ?_)
  · try dsimp only at hc0
    refine W.seq ?_
    refine W.region _ ?_
    refine WG.run tab_ok 1 rfl ?_
    refine WG.nil ?_
    refine WE.nxt ?_
    refine W.ret ?_
    refine WE.then_ret ?_
    refine WE.retF tab_ok [_] rfl ⟨rfl, trivial⟩ (RLe.refl _) ?_
    exact ⟨_, [], rfl, by rw [nth_out (by omega)]; rfl, rfl, src_end (by omega), rfl⟩
  · try dsimp only at hc0
    refine W.skip ?_
    refine WE.nxt ?_
    refine W.seq ?_
    refine W.region _ ?_
    refine WG.run tab_ok 3 rfl ?_
    refine' WG.y rfl rfl (by decide) (Yl.load1 tab_ok rfl rfl rfl (fun _ => rfl) ?r3 rfl ?h3) ?_
    case r3 => apply Rd.add; (first | exact Rd.blk 0 rfl | exact Rd.blk 1 rfl | exact Rd.blk 2 rfl | exact Rd.blk 3 rfl | exact Rd.blk 4 rfl | exact Rd.blk 5 rfl | exact Rd.blk 6 rfl | exact Rd.blk 7 rfl | (apply RS.rdD; assumption; ((try dsimp only) <;> omega)) | exact Rd.slD 0 rfl (by (try dsimp only) <;> omega) | exact Rd.slD 1 rfl (by (try dsimp only) <;> omega) | exact Rd.slD 2 rfl (by (try dsimp only) <;> omega) | exact Rd.slD 3 rfl (by (try dsimp only) <;> omega) | exact Rd.slD 4 rfl (by (try dsimp only) <;> omega) | exact Rd.slD 5 rfl (by (try dsimp only) <;> omega) | exact Rd.slD 6 rfl (by (try dsimp only) <;> omega) | exact Rd.slD 7 rfl (by (try dsimp only) <;> omega))
    case h3 => rfl
    refine WG.y rfl rfl (by decide) (Yl.add rfl rfl rfl (fun _ => rfl) (by intro _; constructor <;> (try dsimp only) <;> omega)) ?_
    refine WG.run tab_ok 2 rfl ?_
    first | refine WL.efN rfl rfl (Ef.store 0 tab_ok rfl rfl rfl rfl rfl rfl rfl rfl ?_) | refine WL.efN rfl rfl (Ef.store 1 tab_ok rfl rfl rfl rfl rfl rfl rfl rfl ?_) | refine WL.efN rfl rfl (Ef.store 2 tab_ok rfl rfl rfl rfl rfl rfl rfl rfl ?_) | refine WL.efN rfl rfl (Ef.store 3 tab_ok rfl rfl rfl rfl rfl rfl rfl rfl ?_) | refine WL.efN rfl rfl (Ef.store 4 tab_ok rfl rfl rfl rfl rfl rfl rfl rfl ?_) | refine WL.efN rfl rfl (Ef.store 5 tab_ok rfl rfl rfl rfl rfl rfl rfl rfl ?_) | refine WL.efN rfl rfl (Ef.store 6 tab_ok rfl rfl rfl rfl rfl rfl rfl rfl ?_) | refine WL.efN rfl rfl (Ef.store 7 tab_ok rfl rfl rfl rfl rfl rfl rfl rfl ?_)
    refine WG.nil ?_
    refine WE.nxt ?_
    refine W.seq ?_
    refine W.regionQ _ mixed (by kernel_rfl) ?_
    refine WG.run tab_ok 3 rfl ?_
    refine' WG.y rfl rfl (by decide) (Yl.load1 tab_ok rfl rfl rfl (fun _ => rfl) ?r4 rfl ?h4) ?_
    case r4 => apply Rd.add; (first | exact Rd.blk 0 rfl | exact Rd.blk 1 rfl | exact Rd.blk 2 rfl | exact Rd.blk 3 rfl | exact Rd.blk 4 rfl | exact Rd.blk 5 rfl | exact Rd.blk 6 rfl | exact Rd.blk 7 rfl | (apply RS.rdD; assumption; ((try dsimp only) <;> omega)) | exact Rd.slD 0 rfl (by (try dsimp only) <;> omega) | exact Rd.slD 1 rfl (by (try dsimp only) <;> omega) | exact Rd.slD 2 rfl (by (try dsimp only) <;> omega) | exact Rd.slD 3 rfl (by (try dsimp only) <;> omega) | exact Rd.slD 4 rfl (by (try dsimp only) <;> omega) | exact Rd.slD 5 rfl (by (try dsimp only) <;> omega) | exact Rd.slD 6 rfl (by (try dsimp only) <;> omega) | exact Rd.slD 7 rfl (by (try dsimp only) <;> omega))
    case h4 => rfl
    refine WG.run tab_ok 3 rfl ?_
    refine' WG.y rfl rfl (by decide) (Yl.load1 tab_ok rfl rfl rfl (fun _ => rfl) ?r5 rfl ?h5) ?_
    case r5 => apply Rd.add; (first | exact Rd.blk 0 rfl | exact Rd.blk 1 rfl | exact Rd.blk 2 rfl | exact Rd.blk 3 rfl | exact Rd.blk 4 rfl | exact Rd.blk 5 rfl | exact Rd.blk 6 rfl | exact Rd.blk 7 rfl | (apply RS.rdD; assumption; ((try dsimp only) <;> omega)) | exact Rd.slD 0 rfl (by (try dsimp only) <;> omega) | exact Rd.slD 1 rfl (by (try dsimp only) <;> omega) | exact Rd.slD 2 rfl (by (try dsimp only) <;> omega) | exact Rd.slD 3 rfl (by (try dsimp only) <;> omega) | exact Rd.slD 4 rfl (by (try dsimp only) <;> omega) | exact Rd.slD 5 rfl (by (try dsimp only) <;> omega) | exact Rd.slD 6 rfl (by (try dsimp only) <;> omega) | exact Rd.slD 7 rfl (by (try dsimp only) <;> omega))
    case h5 => rfl
    refine WG.y rfl rfl (by decide) (Yl.sub rfl rfl rfl (fun _ => rfl) (by intro _; constructor <;> (try dsimp only) <;> omega)) ?_
    refine WG.y rfl rfl (by decide) (Yl.index tab_ok rfl rfl rfl rfl rfl rfl (fun _ => rfl) (by intro _; constructor <;> (try dsimp only) <;> omega) (by intro _; first | exact fun _ _ _ _ => rfl | exact RS.has (by assumption) | exact fun _ _ _ _ => (by assumption) | exact HasMem.ownD 0 rfl | exact HasMem.ownD 1 rfl | exact HasMem.ownD 2 rfl | exact HasMem.ownD 3 rfl | exact HasMem.ownD 4 rfl | exact HasMem.ownD 5 rfl | exact HasMem.ownD 6 rfl | exact HasMem.ownD 7 rfl)) ?_
    refine' WG.y rfl rfl (by decide) (Yl.load1 tab_ok rfl rfl rfl (fun _ => rfl) ?r6 rfl ?h6) ?_
    case r6 => (first | (apply RS.rdD; assumption; ((try dsimp only) <;> omega)) | exact Rd.slD 0 rfl (by (try dsimp only) <;> omega) | exact Rd.slD 1 rfl (by (try dsimp only) <;> omega) | exact Rd.slD 2 rfl (by (try dsimp only) <;> omega) | exact Rd.slD 3 rfl (by (try dsimp only) <;> omega) | exact Rd.slD 4 rfl (by (try dsimp only) <;> omega) | exact Rd.slD 5 rfl (by (try dsimp only) <;> omega) | exact Rd.slD 6 rfl (by (try dsimp only) <;> omega) | exact Rd.slD 7 rfl (by (try dsimp only) <;> omega))
    case h6 => rfl
    refine WG.run tab_ok 1 rfl ?_
    refine WG.nil ?_
    refine WE.nxt ?_
    refine W.ret ?_
    refine WE.retF tab_ok [_] rfl ⟨rfl, trivial⟩ (RLe.refl _) ?_
    exact ⟨_, [], rfl, congrArg (fun i => Value.int .i64 (nth xs i)) (show _ = c by omega), rfl, src_next (by omega), rfl⟩

theorem N_C {R : Ro} {b : Nat} {a : Option Addr} {cp : Nat} {xs : List Int} {c : Nat} (w0 : World) {n : Int} (ha : RS R 1 encI a xs) (hn : InR n) : FnAt Try.prog 21 [.pointer (some ⟨b, 0, none⟩), .int .i64 n] w0 R (srcE b a cp xs c) (RdPost (.int .i64 (mod (nth xs c) n)) R (srcE b a cp xs (c + 1))) := by
  intro F
  refine Fn.enter (n := 9) Try.func21 rfl rfl (Nat.le_of_ble_eq_true rfl) rfl ?_
  refine W.seq ?_
  refine W.region _ ?_
  refine WG.run tab_ok 1 rfl ?_
  refine WG.nil ?_
  refine WE.nxt ?_
  refine W.seq ?_
  refine W.region _ ?_
  refine WG.run tab_ok 1 rfl ?_
  refine WL.callAt 0 en59 rfl rfl (by decide) (CallOp.mkT rfl rfl rfl rfl) rfl (Raw_C w0 ha _) ?_
  rintro _ _ _ _ - ⟨rfl, rfl, rfl, rfl⟩
  refine WG.run tab_ok 1 rfl ?_
  refine WG.callV en58 rfl rfl (by decide) (CallOp.mk' rfl rfl rfl rfl) (fun _ => rfl) (fun hg => Mod_V hn) ?_
  refine WG.run tab_ok 1 rfl ?_
  refine WG.nil ?_
  refine WE.nxt ?_
  refine W.ret ?_
  refine WE.retF tab_ok [_] rfl ⟨rfl, trivial⟩ (RLe.refl _) ?_
  exact ⟨_, [], rfl, rfl, rfl, rfl, rfl⟩

theorem Pick_C {R : Ro} {b : Nat} {a : Option Addr} {cp : Nat} {xs : List Int} {c : Nat} (w0 : World) {a2 : Option Addr} {c2 : Nat} {ys : List Int} {j : Nat} {F : List Ent} (ha : RS R 1 encI a xs) (hy : F[j]? = some (.sl 3 1 a2 c2 (ys.map encI))) (hne : 0 < ys.length) (hl : ys.length ≤ 1000000) :
    K.Fn Try.prog 22 [.pointer (some ⟨b, 0, none⟩), .slice a2 ys.length c2] w0 R (srcE b a cp xs c :: F) (fun v R' E' => ∃ e' N, E' = N ++ e' :: F ∧ RdPost (.int .i64 (nth ys (mod (nth xs c) ys.length).toNat)) R (srcE b a cp xs (c + 1)) v R' e' N) := by
  have hr := mod_range (nth xs c) (show (1 : Int) ≤ ys.length by omega)
  refine Fn.enter (n := 12) Try.func22 rfl rfl (Nat.le_of_ble_eq_true rfl) rfl ?_
  refine W.seq ?_
  refine W.region _ ?_
  refine WG.run tab_ok 1 rfl ?_
  refine WG.nil ?_
  refine WE.nxt ?_
  refine W.seq ?_
  refine W.region _ ?_
  refine WG.run tab_ok 4 rfl ?_
  refine WL.callAt 0 en21 rfl rfl (by decide) (CallOp.mkT rfl rfl rfl rfl) rfl (N_C w0 ha (by constructor <;> omega) _) ?_
  rintro _ _ _ _ - ⟨rfl, rfl, rfl, rfl⟩
  refine WG.y rfl rfl (by decide) (Yl.index tab_ok rfl rfl rfl rfl rfl rfl (fun _ => rfl) (by intro _; constructor <;> (try dsimp only) <;> omega) (by intro _; first | exact HasMem.ownD (j + 1) hy | exact fun _ _ _ _ => rfl | exact RS.has (by assumption) | exact fun _ _ _ _ => (by assumption) | exact HasMem.ownD 0 rfl | exact HasMem.ownD 1 rfl | exact HasMem.ownD 2 rfl | exact HasMem.ownD 3 rfl | exact HasMem.ownD 4 rfl | exact HasMem.ownD 5 rfl | exact HasMem.ownD 6 rfl | exact HasMem.ownD 7 rfl)) ?_
  refine' WG.y rfl rfl (by decide) (Yl.load1 tab_ok rfl rfl rfl (fun _ => rfl) ?r1 rfl ?h1) ?_
  case r1 => (first | exact Rd.slD (j + 1) hy (by omega) | (apply RS.rdD; assumption; ((try dsimp only) <;> omega)) | exact Rd.slD 0 rfl (by (try dsimp only) <;> omega) | exact Rd.slD 1 rfl (by (try dsimp only) <;> omega) | exact Rd.slD 2 rfl (by (try dsimp only) <;> omega) | exact Rd.slD 3 rfl (by (try dsimp only) <;> omega) | exact Rd.slD 4 rfl (by (try dsimp only) <;> omega) | exact Rd.slD 5 rfl (by (try dsimp only) <;> omega) | exact Rd.slD 6 rfl (by (try dsimp only) <;> omega) | exact Rd.slD 7 rfl (by (try dsimp only) <;> omega))
  case h1 => rfl
  refine WG.run tab_ok 1 rfl ?_
  refine WG.nil ?_
  refine WE.nxt ?_
  refine W.ret ?_
  refine WE.retF tab_ok [_] rfl ⟨rfl, trivial⟩ (RLe.refl _) ?_
  exact ⟨_, [], rfl, rfl, rfl, rfl, rfl⟩

theorem New_C {R : Ro} {a : Option Addr} {cp : Nat} {l : List Int} (w0 : World) (E : List Ent) (hc : l.length ≤ cp) :
    K.Fn Try.prog 16 [.slice a l.length cp] w0 R E (fun v R' E' => ∃ b, v = .pointer (some ⟨b, 0, none⟩) ∧ R = R' ∧ E' = srcE b a cp (l.take 2000) 0 :: E) := by
  refine Fn.enter (n := 10) Try.func16 rfl rfl (Nat.le_of_ble_eq_true rfl) rfl ?_
  refine W.seq ?_
  refine W.region _ ?_
  refine WG.run tab_ok 1 rfl ?_
  refine WG.nil ?_
  refine WE.nxt ?_
  refine W.seq ?_
  refine W.region _ ?_
  refine WG.run tab_ok 4 rfl ?_
  refine WG.y rfl rfl (by decide) (Yl.sliceH tab_ok rfl rfl rfl rfl rfl (fun _ => rfl) (by intro _; split <;> constructor <;> omega) rfl) ?_
  -- build
  refine WG.y rfl rfl (by decide) (Yl.build (parts := [(0, .tmp 7)]) tab_ok rfl rfl rfl rfl (fun _ => rfl) rfl rfl) ?_
  refine WL.ef rfl rfl (by decide) (Ef.box rfl rfl (fun b9 => ?_))
  refine WG.run tab_ok 1 rfl ?_
  refine WG.nil ?_
  refine WE.nxt ?_
  refine W.ret ?_
  refine WE.retF tab_ok [_] rfl ⟨rfl, trivial⟩ (RLe.refl _) ?_
  refine ⟨_, rfl, rfl, ?_⟩
  unfold srcE
  rw [List.length_take, Nat.min_comm 0, Nat.min_zero]
  have e1 : ((if (2000 : Int) < (l.length : Int) then 2000 else (l.length : Int))).toNat = min 2000 l.length := by split <;> omega
  exact congrArg (fun n => Ent.blk _ [Value.slice a n cp, .int .i64 0] :: E) e1

theorem Pick7_C {R : Ro} {b : Nat} {a : Option Addr} {cp : Nat} {xs : List Int} {c : Nat} (w0 : World) {a2 : Option Addr} {c2 : Nat} {j : Nat} {F : List Ent} (ha : RS R 1 encI a xs) (hy : F[j]? = some (.sl 3 1 a2 c2 ([0, 0, 0, 1, 1, 2, 7].map encI))) :
    K.Fn Try.prog 22 [.pointer (some ⟨b, 0, none⟩), .slice a2 7 c2] w0 R (srcE b a cp xs c :: F) (fun v R' E' => ∃ e' N, E' = N ++ e' :: F ∧ RdPost (.int .i64 (pick7 (mod (nth xs c) 7))) R (srcE b a cp xs (c + 1)) v R' e' N) :=
  Pick_C (ys := [0, 0, 0, 1, 1, 2, 7]) w0 ha hy (by decide) (by decide)

theorem Traffic_C {R : Ro} {b : Nat} {a : Option Addr} {cp : Nat} {xs : List Int} {c : Nat} (w0 : World) {n flows most : Int} (ha : RS R 1 encI a xs) (hn : 0 ≤ n ∧ n ≤ 1000) (hf : InR flows) (hm : 1 ≤ most ∧ most ≤ 1000000) (F : List Ent) :
    K.Fn Try.prog 17 [.pointer (some ⟨b, 0, none⟩), .int .i64 n, .int .i64 flows, .int .i64 most] w0 R (srcE b a cp xs c :: F) (fun v R' E' => ∃ e' N, E' = N ++ e' :: F ∧
      ∃ a2 c2, v = .slice a2 (traffic xs n flows most c).length c2 ∧ R = R' ∧ e' = srcE b a cp xs (c + 1 + 3 * trafficK xs n c) ∧ N = [.sl 66 3 a2 c2 ((traffic xs n flows most c).map encP)]) := by
  have hr := mod_range (nth xs c) (show (1 : Int) ≤ n + 1 by omega)
  have hK : (trafficK xs n c : Int) = mod (nth xs c) (n + 1) := by unfold trafficK; omega
  refine Fn.enter (n := 38) Try.func17 rfl rfl (Nat.le_of_ble_eq_true rfl) rfl ?_
  refine W.seq ?_
  refine W.region _ ?_
  refine WG.run tab_ok 1 rfl ?_
  refine WG.nil ?_
  refine WE.nxt ?_
  refine W.seq ?_
  refine W.region _ ?_
  refine WG.run tab_ok 1 rfl ?_
  refine WG.nil ?_
  refine WE.nxt ?_
  refine W.seq ?_
  refine W.region _ ?_
  refine WG.run tab_ok 1 rfl ?_
  refine WG.nil ?_
  refine WE.nxt ?_
  refine W.seq ?_
  refine W.seq ?_
  refine W.region _ ?_
  refine WG.run tab_ok 2 rfl ?_
  refine WG.y rfl rfl (by decide) (Yl.add rfl rfl rfl (fun _ => rfl) (by intro _; constructor <;> (try dsimp only) <;> omega)) ?_
  refine WL.callAt 0 en21 rfl rfl (by decide) (CallOp.mkT rfl rfl rfl rfl) rfl (N_C w0 ha (by constructor <;> omega) _) ?_
  rintro _ _ _ _ - ⟨rfl, rfl, rfl, rfl⟩
  refine WG.run tab_ok 1 rfl ?_
  refine WG.nil ?_
  refine WE.nxt ?_
  refine W.block ?_
  refine W.nil 66 3 (by decide) ?_
  refine W.loop (β := Nat × Nat × Int × List Pkt × Option Addr × Nat) (fun (k, c1, t, acc, a2, c2) => acc ++ trafficGo xs flows most k c1 t = traffic xs n flows most c ∧ c1 + 3 * k = c + 1 + 3 * trafficK xs n c ∧ 0 ≤ t ∧ t + 7 * k ≤ 7 * trafficK xs n c ∧ acc.length + k = trafficK xs n c) (fun (k, c1, t, acc, a2, c2) => [(0, true, .pointer (some ⟨b, 0, none⟩)), (1, true, .int .i64 n), (2, true, .int .i64 flows), (3, true, .int .i64 most), (9, true, .slice a2 acc.length c2), (10, true, .int .i64 t), (11, true, .int .i64 (k : Int))]) (fun _ => R) (fun (k, c1, t, acc, a2, c2) => .sl 66 3 a2 c2 (acc.map encP) :: srcE b a cp xs c1 :: F) (fun (k, c1, t, acc, a2, c2) => k) ((trafficK xs n c, c + 1, 0, [], none, 0)) (⟨rfl, rfl, Int.le_refl _, by omega, by simp⟩) ⟨rfl, rfl, rfl, rfl, rfl, rfl, vint hK.symm, rfl⟩ (RLe.refl _) (by (repeat (first | exact List.Sublist.refl _ | exact List.nil_sublist _ | apply List.Sublist.cons_cons | apply List.Sublist.cons)); done) ?_
  intro st hst
  obtain ⟨k, c1, t, acc, a2, c2⟩ := st
  obtain ⟨h1, h2, h3, h4, h5⟩ := hst
  dsimp only
  refine W.seq ?_
  refine W.seq ?_
  refine W.region _ ?_
  refine WG.run tab_ok 2 rfl ?_
  refine WG.nil ?_
  refine WE.nxt ?_
  refine W.condD rfl (fun hc0 => ?_) (fun hc0 => ?_)
  · try dsimp only at hc0
    obtain ⟨k, rfl⟩ : ∃ m, k = m + 1 := ⟨k - 1, by omega⟩
    have hr1 := mod_range (nth xs (c1 + 1)) (show (1 : Int) ≤ most by omega)
    have hr2 := pick7_range (mod (nth xs (c1 + 1 + 1)) 7)
    have hr3 := pick7_range (mod (nth xs (c1 + 2)) 7)
    refine W.skip ?_
    refine WE.nxt ?_
    refine W.seq ?_
    refine W.block ?_
    refine W.seq ?_
    refine W.region _ ?_
    refine WG.run tab_ok 3 rfl ?_
    refine WL.callAt 1 en21 rfl rfl (by decide) (CallOp.mkT rfl rfl rfl rfl) rfl (N_C w0 ha hf _) ?_
    rintro _ _ _ _ - ⟨rfl, rfl, rfl, rfl⟩
    refine WG.run tab_ok 3 rfl ?_
    refine WL.callAt 1 en21 rfl rfl (by decide) (CallOp.mkT rfl rfl rfl rfl) rfl (N_C w0 ha (by constructor <;> omega) _) ?_
    rintro _ _ _ _ - ⟨rfl, rfl, rfl, rfl⟩
    refine WG.y rfl rfl (by decide) (Yl.add rfl rfl rfl (fun _ => rfl) (by intro _; constructor <;> (try dsimp only) <;> omega)) ?_
    -- build
    refine WG.y rfl rfl (by decide) (Yl.build (parts := [(0, .tmp 23), (1, .tmp 24), (2, .tmp 28)]) tab_ok rfl rfl rfl rfl (fun _ => rfl) rfl rfl) ?_
    refine WL.ef rfl rfl (by decide) (Ef.buildSliceD (enc := encP) (parts := [.tmp 29]) [⟨_, _, _⟩] tab_ok rfl rfl rfl rfl rfl rfl rfl rfl (by decide) (by decide) (fun a30 => ?_))
    first | refine WL.ef rfl rfl (by decide) (Ef.appendD 1 0 tab_ok rfl rfl rfl rfl rfl rfl rfl rfl rfl rfl rfl (fun _ _ => rfl) (by simp only [List.length_cons, List.length_nil]; omega) (by simp only [List.length_cons, List.length_nil]; omega) (fun a31 c31 ha31 => ?_)) | refine WL.ef rfl rfl (by decide) (Ef.appendD 2 0 tab_ok rfl rfl rfl rfl rfl rfl rfl rfl rfl rfl rfl (fun _ _ => rfl) (by simp only [List.length_cons, List.length_nil]; omega) (by simp only [List.length_cons, List.length_nil]; omega) (fun a31 c31 ha31 => ?_)) | refine WL.ef rfl rfl (by decide) (Ef.appendD 3 0 tab_ok rfl rfl rfl rfl rfl rfl rfl rfl rfl rfl rfl (fun _ _ => rfl) (by simp only [List.length_cons, List.length_nil]; omega) (by simp only [List.length_cons, List.length_nil]; omega) (fun a31 c31 ha31 => ?_)) | refine WL.ef rfl rfl (by decide) (Ef.appendD 4 0 tab_ok rfl rfl rfl rfl rfl rfl rfl rfl rfl rfl rfl (fun _ _ => rfl) (by simp only [List.length_cons, List.length_nil]; omega) (by simp only [List.length_cons, List.length_nil]; omega) (fun a31 c31 ha31 => ?_)) | refine WL.ef rfl rfl (by decide) (Ef.appendD 5 0 tab_ok rfl rfl rfl rfl rfl rfl rfl rfl rfl rfl rfl (fun _ _ => rfl) (by simp only [List.length_cons, List.length_nil]; omega) (by simp only [List.length_cons, List.length_nil]; omega) (fun a31 c31 ha31 => ?_)) | refine WL.ef rfl rfl (by decide) (Ef.appendD 6 0 tab_ok rfl rfl rfl rfl rfl rfl rfl rfl rfl rfl rfl (fun _ _ => rfl) (by simp only [List.length_cons, List.length_nil]; omega) (by simp only [List.length_cons, List.length_nil]; omega) (fun a31 c31 ha31 => ?_)) | refine WL.ef rfl rfl (by decide) (Ef.appendD 7 0 tab_ok rfl rfl rfl rfl rfl rfl rfl rfl rfl rfl rfl (fun _ _ => rfl) (by simp only [List.length_cons, List.length_nil]; omega) (by simp only [List.length_cons, List.length_nil]; omega) (fun a31 c31 ha31 => ?_)) | refine WL.ef rfl rfl (by decide) (Ef.appendR 0 tab_ok rfl rfl rfl rfl rfl rfl rfl rfl rfl rfl (by assumption) (fun _ _ => rfl) (by (try dsimp only); omega) (by omega) (fun a31 c31 ha31 => ?_)) | refine WL.ef rfl rfl (by decide) (Ef.appendR 1 tab_ok rfl rfl rfl rfl rfl rfl rfl rfl rfl rfl (by assumption) (fun _ _ => rfl) (by (try dsimp only); omega) (by omega) (fun a31 c31 ha31 => ?_)) | refine WL.ef rfl rfl (by decide) (Ef.appendR 2 tab_ok rfl rfl rfl rfl rfl rfl rfl rfl rfl rfl (by assumption) (fun _ _ => rfl) (by (try dsimp only); omega) (by omega) (fun a31 c31 ha31 => ?_)) | refine WL.ef rfl rfl (by decide) (Ef.appendR 3 tab_ok rfl rfl rfl rfl rfl rfl rfl rfl rfl rfl (by assumption) (fun _ _ => rfl) (by (try dsimp only); omega) (by omega) (fun a31 c31 ha31 => ?_)) | refine WL.ef rfl rfl (by decide) (Ef.appendR 4 tab_ok rfl rfl rfl rfl rfl rfl rfl rfl rfl rfl (by assumption) (fun _ _ => rfl) (by (try dsimp only); omega) (by omega) (fun a31 c31 ha31 => ?_)) | refine WL.ef rfl rfl (by decide) (Ef.appendR 5 tab_ok rfl rfl rfl rfl rfl rfl rfl rfl rfl rfl (by assumption) (fun _ _ => rfl) (by (try dsimp only); omega) (by omega) (fun a31 c31 ha31 => ?_)) | refine WL.ef rfl rfl (by decide) (Ef.appendR 6 tab_ok rfl rfl rfl rfl rfl rfl rfl rfl rfl rfl (by assumption) (fun _ _ => rfl) (by (try dsimp only); omega) (by omega) (fun a31 c31 ha31 => ?_)) | refine WL.ef rfl rfl (by decide) (Ef.appendR 7 tab_ok rfl rfl rfl rfl rfl rfl rfl rfl rfl rfl (by assumption) (fun _ _ => rfl) (by (try dsimp only); omega) (by omega) (fun a31 c31 ha31 => ?_))
    refine WG.run tab_ok 1 rfl ?_
    refine WG.nil ?_
    refine WE.nxt ?_
    refine W.region _ ?_
    refine WG.run tab_ok 2 rfl ?_
    refine WL.ef rfl rfl (by decide) (Ef.buildSliceD (enc := encI) (parts := [.const (.int .i64 0), .const (.int .i64 0), .const (.int .i64 0), .const (.int .i64 1), .const (.int .i64 1), .const (.int .i64 2), .const (.int .i64 7)]) [_, _, _, _, _, _, _] tab_ok rfl rfl rfl rfl rfl rfl rfl rfl (by decide) (by decide) (fun a34 => ?_))
    refine WL.callAt 3 en22 rfl rfl (by decide) (CallOp.mkT rfl rfl rfl rfl) rfl (Pick7_C (j := 0) w0 ha rfl) ?_
    rintro _ _ _ _ - ⟨rfl, rfl, rfl, rfl⟩
    refine WG.y rfl rfl (by decide) (Yl.add rfl rfl rfl (fun _ => rfl) (by intro _; constructor <;> (try dsimp only) <;> omega)) ?_
    refine WG.run tab_ok 1 rfl ?_
    refine WG.nil ?_
    refine WE.blk _ ?_
    refine WE.nxt ?_
    refine W.region _ ?_
    refine WG.run tab_ok 1 rfl ?_
    refine WG.y rfl rfl (by decide) (Yl.sub rfl rfl rfl (fun _ => rfl) (by intro _; constructor <;> (try dsimp only) <;> omega)) ?_
    refine WG.run tab_ok 1 rfl ?_
    refine WG.nil ?_
    refine WE.again ((k, c1 + 3, t + pick7 (mod (nth xs (c1 + 2)) 7), acc ++ [⟨mod (nth xs c1) flows, t, 1 + mod (nth xs (c1 + 1)) most⟩], a31, c31)) (⟨by dsimp only; rw [← h1]; simp [trafficGo], by dsimp only; omega, by dsimp only; omega, by dsimp only; omega, by simp; omega⟩) (by (try dsimp only); omega) ⟨rfl, rfl, rfl, rfl, rfl, rfl, vint (by omega), rfl⟩ (RLe.refl _) (by (repeat (first | exact List.Sublist.refl _ | exact List.nil_sublist _ | apply List.Sublist.cons_cons | apply List.Sublist.cons)); done)
  · try dsimp only at hc0
    obtain rfl : k = 0 := by omega
    simp only [trafficGo, List.append_nil] at h1
    subst h1
    refine W.exit ?_
    refine WE.then_exit ?_
    refine WE.then_exit ?_
    refine WE.blk_exit ?_
    refine WE.nxt ?_
    refine W.seq ?_
    refine W.region _ ?_
    refine WG.run tab_ok 2 rfl ?_
    refine WG.nil ?_
    refine WE.nxt ?_
    refine W.ret ?_
    refine WE.retF tab_ok [_] rfl ⟨rfl, trivial⟩ (RLe.refl _) ?_
    exact ⟨_, [_], rfl, _, _, rfl, rfl, congrArg (srcE b a cp xs) (by omega), rfl⟩

end Go.Proofs.Ytcfnckccmkjjlaa

/- A trial. No condition. -/
set_option linter.unusedSimpArgs false
set_option linter.unusedVariables false
namespace Go.Proofs.Ytcfnckccmkjjlaa
open Go Go.RowKit Go.Proofs.Ytcfnckccmkjjlaa.K Go.Proofs.Ytcfnckccmkjjlaa.M

theorem Validate_V {R : Ro} {a : Option Addr} {c : Nat} {ps : List Pkt} (ha : RS R 3 encP a ps) : FnV Try.prog 60 [.slice a ps.length c] R (.int .i64 (validate ps)) := by
  have hla := ha.len
  refine Fn.toV (fun w0 E => ?_)
  refine Fn.enter (n := 50) Try.func60 rfl rfl (Nat.le_of_ble_eq_true rfl) rfl ?_
  refine W.seq ?_
  refine W.region _ ?_
  refine WG.run tab_ok 1 rfl ?_
  refine WG.nil ?_
  refine WE.nxt ?_
  refine W.seq ?_
  refine W.seq ?_
  refine W.region _ ?_
  refine WG.run tab_ok 3 rfl ?_
  refine WG.nil ?_
  refine WE.nxt ?_
  refine W.condD rfl (fun hc0 => ?_) (fun hc0 => ?_)
  · try dsimp only at hc0
    refine W.seq ?_
    refine W.region _ ?_
    refine WG.run tab_ok 1 rfl ?_
    refine WG.nil ?_
    refine WE.nxt ?_
    refine W.ret ?_
    refine WE.then_ret ?_
    refine WE.subE (E' := E) (by (repeat (first | exact List.Sublist.refl _ | exact List.nil_sublist _ | apply List.Sublist.cons_cons | apply List.Sublist.cons)); done) ?_
    refine WE.retF tab_ok [_] rfl ⟨rfl, trivial⟩ (RLe.refl _) ?_
    exact ⟨by unfold validate; rw [if_pos (show 60 < ps.length by omega)]; rfl, rfl⟩
  · try dsimp only at hc0
    refine W.skip ?_
    refine WE.nxt ?_
    refine W.seq ?_
    refine W.region _ ?_
    refine WG.run tab_ok 1 rfl ?_
    refine WG.nil ?_
    refine WE.nxt ?_
    refine W.seq ?_
    refine W.seq ?_
    refine W.region _ ?_
    refine WG.run tab_ok 3 rfl ?_
    refine WG.nil ?_
    refine WE.nxt ?_
    refine W.block ?_
    refine W.loop (β := Nat × Int) (fun (k, last) => k ≤ ps.length ∧ valGo last (ps.drop k) = valGo 0 ps) (fun (k, last) => [(0, true, .slice a ps.length c), (3, true, .int .i64 last), (9, true, .slice a ps.length c), (10, true, .int .i64 ps.length), (11, true, .int .i64 (k : Int))]) (fun _ => R) (fun _ => E) (fun (k, last) => ps.length - k) ((0, 0)) (⟨Nat.zero_le _, rfl⟩) ⟨rfl, rfl, rfl, rfl, rfl, rfl⟩ (RLe.refl _) (by (repeat (first | exact List.Sublist.refl _ | exact List.nil_sublist _ | apply List.Sublist.cons_cons | apply List.Sublist.cons)); done) ?_
    intro st hst
    obtain ⟨k, last⟩ := st
    obtain ⟨hk, hv⟩ := hst
    dsimp only
    refine W.seq ?_
    refine W.region _ ?_
    refine WG.run tab_ok 1 rfl ?_
    refine WG.nil ?_
    refine WE.nxt ?_
    refine W.seq ?_
    refine W.condD rfl (fun hc1 => ?_) (fun hc1 => ?_)
    · try dsimp only at hc1
      have hd := drop_nth (xs := ps) (k := k) (by omega)
      rw [hd, valGo] at hv
      refine W.skip ?_
      refine WE.nxt ?_
      refine W.seq ?_
      refine W.block ?_
      refine W.seq ?_
      refine W.region _ ?_
      refine WG.y rfl rfl (by decide) (Yl.indexN tab_ok rfl rfl rfl rfl rfl rfl (fun _ => rfl) (by intro _; (try dsimp only) <;> omega) (by intro _; first | exact fun _ _ _ _ => rfl | exact RS.has (by assumption) | exact fun _ _ _ _ => (by assumption) | exact HasMem.ownD 0 rfl | exact HasMem.ownD 1 rfl | exact HasMem.ownD 2 rfl | exact HasMem.ownD 3 rfl | exact HasMem.ownD 4 rfl | exact HasMem.ownD 5 rfl | exact HasMem.ownD 6 rfl | exact HasMem.ownD 7 rfl)) ?_
      refine' WG.y rfl rfl (by decide) (Yl.load1 tab_ok rfl rfl rfl (fun _ => rfl) ?r1 rfl ?h1) ?_
      case r1 => (first | (apply RS.rdD; assumption; ((try dsimp only) <;> omega)) | exact Rd.slD 0 rfl (by (try dsimp only) <;> omega) | exact Rd.slD 1 rfl (by (try dsimp only) <;> omega) | exact Rd.slD 2 rfl (by (try dsimp only) <;> omega) | exact Rd.slD 3 rfl (by (try dsimp only) <;> omega) | exact Rd.slD 4 rfl (by (try dsimp only) <;> omega) | exact Rd.slD 5 rfl (by (try dsimp only) <;> omega) | exact Rd.slD 6 rfl (by (try dsimp only) <;> omega) | exact Rd.slD 7 rfl (by (try dsimp only) <;> omega))
      case h1 => rfl
      refine WL.ef rfl rfl (by decide) (Ef.alloc tab_ok rfl rfl (fun b5 => ?_))
      first | refine WL.efN rfl rfl (Ef.store0 0 tab_ok rfl rfl rfl rfl rfl rfl rfl rfl ?_) | refine WL.efN rfl rfl (Ef.store0 1 tab_ok rfl rfl rfl rfl rfl rfl rfl rfl ?_) | refine WL.efN rfl rfl (Ef.store0 2 tab_ok rfl rfl rfl rfl rfl rfl rfl rfl ?_) | refine WL.efN rfl rfl (Ef.store0 3 tab_ok rfl rfl rfl rfl rfl rfl rfl rfl ?_) | refine WL.efN rfl rfl (Ef.store0 4 tab_ok rfl rfl rfl rfl rfl rfl rfl rfl ?_) | refine WL.efN rfl rfl (Ef.store0 5 tab_ok rfl rfl rfl rfl rfl rfl rfl rfl ?_) | refine WL.efN rfl rfl (Ef.store0 6 tab_ok rfl rfl rfl rfl rfl rfl rfl rfl ?_) | refine WL.efN rfl rfl (Ef.store0 7 tab_ok rfl rfl rfl rfl rfl rfl rfl rfl ?_)
      refine WG.nil ?_
      refine WE.nxt ?_
      refine W.seq ?_
      refine W.seq ?_
      refine W.region _ ?_
      refine WG.run tab_ok 1 rfl ?_
      refine' WG.y rfl rfl (by decide) (Yl.load1 tab_ok rfl rfl rfl (fun _ => rfl) ?r2 rfl ?h2) ?_
      case r2 => apply Rd.add; (first | exact Rd.blk 0 rfl | exact Rd.blk 1 rfl | exact Rd.blk 2 rfl | exact Rd.blk 3 rfl | exact Rd.blk 4 rfl | exact Rd.blk 5 rfl | exact Rd.blk 6 rfl | exact Rd.blk 7 rfl)
      case h2 => rfl
      refine WG.run tab_ok 2 rfl ?_
      refine WG.y rfl rfl (by decide) (pureV_ok tab_ok rfl (by first | exact fun _ => rfl | exact fun h => h | (intro h; simp_all))) ?_
      refine' WG.y rfl rfl (by decide) (Yl.loadG tab_ok rfl rfl rfl (by first | exact fun _ => rfl | exact fun h => h | (intro h; simp_all)) ?r3 rfl ?h3 ?g3) ?_
      case r3 => apply Rd.addC; (first | exact Rd.blkC 0 rfl | exact Rd.blkC 1 rfl | exact Rd.blkC 2 rfl | exact Rd.blkC 3 rfl | exact Rd.blkC 4 rfl | exact Rd.blkC 5 rfl | exact Rd.blkC 6 rfl | exact Rd.blkC 7 rfl)
      case h3 => rfl
      case g3 => first | exact fun _ => trivial | (intro hg; (try simp only [decide_eq_true_eq, decide_eq_false_iff_not, beq_iff_eq, bne_iff_ne, beq_eq_false_iff_ne, bne_eq_false_iff_eq, ne_eq, Bool.or_eq_true, Bool.or_eq_false_iff, Bool.and_eq_true, Bool.and_eq_false_imp, Bool.not_eq_true, Bool.not_eq_true', Bool.not_eq_false', Classical.not_not, Int.not_lt, Int.not_le, gt_iff_lt, ge_iff_le] at hg); (try dsimp only); omega)
      refine WG.y rfl rfl (by decide) (pureV_ok tab_ok rfl (by first | exact fun _ => rfl | exact fun h => h | (intro h; simp_all))) ?_
      refine WG.y rfl rfl (by decide) (Yl.por rfl rfl rfl (fun _ => rfl) (by intro h1 h2; simp_all <;> omega)) ?_
      refine WG.run tab_ok 1 rfl ?_
      refine WG.y rfl rfl (by decide) (pureV_ok tab_ok rfl (by first | exact fun _ => rfl | exact fun h => h | (intro h; simp_all))) ?_
      refine' WG.y rfl rfl (by decide) (Yl.loadG tab_ok rfl rfl rfl (by first | exact fun _ => rfl | exact fun h => h | (intro h; simp_all)) ?r4 rfl ?h4 ?g4) ?_
      case r4 => apply Rd.addC; (first | exact Rd.blkC 0 rfl | exact Rd.blkC 1 rfl | exact Rd.blkC 2 rfl | exact Rd.blkC 3 rfl | exact Rd.blkC 4 rfl | exact Rd.blkC 5 rfl | exact Rd.blkC 6 rfl | exact Rd.blkC 7 rfl)
      case h4 => rfl
      case g4 => first | exact fun _ => trivial | (intro hg; (try simp only [decide_eq_true_eq, decide_eq_false_iff_not, beq_iff_eq, bne_iff_ne, beq_eq_false_iff_ne, bne_eq_false_iff_eq, ne_eq, Bool.or_eq_true, Bool.or_eq_false_iff, Bool.and_eq_true, Bool.and_eq_false_imp, Bool.not_eq_true, Bool.not_eq_true', Bool.not_eq_false', Classical.not_not, Int.not_lt, Int.not_le, gt_iff_lt, ge_iff_le] at hg); (try dsimp only); omega)
      refine WG.y rfl rfl (by decide) (pureV_ok tab_ok rfl (by first | exact fun _ => rfl | exact fun h => h | (intro h; simp_all))) ?_
      refine WG.y rfl rfl (by decide) (Yl.por rfl rfl rfl (fun _ => rfl) (by intro h1 h2; simp_all <;> omega)) ?_
      refine WG.run tab_ok 1 rfl ?_
      refine WG.y rfl rfl (by decide) (pureV_ok tab_ok rfl (by first | exact fun _ => rfl | exact fun h => h | (intro h; simp_all))) ?_
      refine' WG.y rfl rfl (by decide) (Yl.loadG tab_ok rfl rfl rfl (by first | exact fun _ => rfl | exact fun h => h | (intro h; simp_all)) ?r5 rfl ?h5 ?g5) ?_
      case r5 => apply Rd.addC; (first | exact Rd.blkC 0 rfl | exact Rd.blkC 1 rfl | exact Rd.blkC 2 rfl | exact Rd.blkC 3 rfl | exact Rd.blkC 4 rfl | exact Rd.blkC 5 rfl | exact Rd.blkC 6 rfl | exact Rd.blkC 7 rfl)
      case h5 => rfl
      case g5 => first | exact fun _ => trivial | (intro hg; (try simp only [decide_eq_true_eq, decide_eq_false_iff_not, beq_iff_eq, bne_iff_ne, beq_eq_false_iff_ne, bne_eq_false_iff_eq, ne_eq, Bool.or_eq_true, Bool.or_eq_false_iff, Bool.and_eq_true, Bool.and_eq_false_imp, Bool.not_eq_true, Bool.not_eq_true', Bool.not_eq_false', Classical.not_not, Int.not_lt, Int.not_le, gt_iff_lt, ge_iff_le] at hg); (try dsimp only); omega)
      refine WG.y rfl rfl (by decide) (pureV_ok tab_ok rfl (by first | exact fun _ => rfl | exact fun h => h | (intro h; simp_all))) ?_
      refine WG.y rfl rfl (by decide) (Yl.por rfl rfl rfl (fun _ => rfl) (by intro h1 h2; simp_all <;> omega)) ?_
      refine WG.run tab_ok 1 rfl ?_
      refine WG.y rfl rfl (by decide) (pureV_ok tab_ok rfl (by first | exact fun _ => rfl | exact fun h => h | (intro h; simp_all))) ?_
      refine' WG.y rfl rfl (by decide) (Yl.loadG tab_ok rfl rfl rfl (by first | exact fun _ => rfl | exact fun h => h | (intro h; simp_all)) ?r6 rfl ?h6 ?g6) ?_
      case r6 => apply Rd.addC; (first | exact Rd.blkC 0 rfl | exact Rd.blkC 1 rfl | exact Rd.blkC 2 rfl | exact Rd.blkC 3 rfl | exact Rd.blkC 4 rfl | exact Rd.blkC 5 rfl | exact Rd.blkC 6 rfl | exact Rd.blkC 7 rfl)
      case h6 => rfl
      case g6 => first | exact fun _ => trivial | (intro hg; (try simp only [decide_eq_true_eq, decide_eq_false_iff_not, beq_iff_eq, bne_iff_ne, beq_eq_false_iff_ne, bne_eq_false_iff_eq, ne_eq, Bool.or_eq_true, Bool.or_eq_false_iff, Bool.and_eq_true, Bool.and_eq_false_imp, Bool.not_eq_true, Bool.not_eq_true', Bool.not_eq_false', Classical.not_not, Int.not_lt, Int.not_le, gt_iff_lt, ge_iff_le] at hg); (try dsimp only); omega)
      refine WG.y rfl rfl (by decide) (pureV_ok tab_ok rfl (by first | exact fun _ => rfl | exact fun h => h | (intro h; simp_all))) ?_
      refine WG.y rfl rfl (by decide) (Yl.por rfl rfl rfl (fun _ => rfl) (by intro h1 h2; simp_all <;> omega)) ?_
      refine WG.run tab_ok 1 rfl ?_
      refine WG.y rfl rfl (by decide) (pureV_ok tab_ok rfl (by first | exact fun _ => rfl | exact fun h => h | (intro h; simp_all))) ?_
      refine' WG.y rfl rfl (by decide) (Yl.loadG tab_ok rfl rfl rfl (by first | exact fun _ => rfl | exact fun h => h | (intro h; simp_all)) ?r7 rfl ?h7 ?g7) ?_
      case r7 => apply Rd.addC; (first | exact Rd.blkC 0 rfl | exact Rd.blkC 1 rfl | exact Rd.blkC 2 rfl | exact Rd.blkC 3 rfl | exact Rd.blkC 4 rfl | exact Rd.blkC 5 rfl | exact Rd.blkC 6 rfl | exact Rd.blkC 7 rfl)
      case h7 => rfl
      case g7 => first | exact fun _ => trivial | (intro hg; (try simp only [decide_eq_true_eq, decide_eq_false_iff_not, beq_iff_eq, bne_iff_ne, beq_eq_false_iff_ne, bne_eq_false_iff_eq, ne_eq, Bool.or_eq_true, Bool.or_eq_false_iff, Bool.and_eq_true, Bool.and_eq_false_imp, Bool.not_eq_true, Bool.not_eq_true', Bool.not_eq_false', Classical.not_not, Int.not_lt, Int.not_le, gt_iff_lt, ge_iff_le] at hg); (try dsimp only); omega)
      refine WG.y rfl rfl (by decide) (pureV_ok tab_ok rfl (by first | exact fun _ => rfl | exact fun h => h | (intro h; simp_all))) ?_
      refine WG.y rfl rfl (by decide) (Yl.por rfl rfl rfl (fun _ => rfl) (by intro h1 h2; simp_all <;> omega)) ?_
      refine WG.nil ?_
      refine WE.nxt ?_
      refine W.cond rfl (fun hc2 => ?_) (fun hc2 => ?_)
      · try simp only [decide_eq_true_eq, decide_eq_false_iff_not, beq_iff_eq, bne_iff_ne, beq_eq_false_iff_ne, bne_eq_false_iff_eq, ne_eq, Bool.or_eq_true, Bool.or_eq_false_iff, Bool.and_eq_true, Bool.and_eq_false_imp, Bool.not_eq_true, Bool.not_eq_true', Bool.not_eq_false', Classical.not_not, Int.not_lt, Int.not_le, gt_iff_lt, ge_iff_le] at hc2
        rw [if_pos (show BadP (nth ps k) by unfold BadP; omega)] at hv
        refine W.seq ?_
        refine W.region _ ?_
        refine WG.run tab_ok 1 rfl ?_
        refine WG.nil ?_
        refine WE.nxt ?_
        refine W.ret ?_
        refine WE.then_ret ?_
        refine WE.blk_ret ?_
        refine WE.then_ret ?_
        refine WE.then_ret ?_
        refine WE.blk_ret ?_
        refine WE.then_ret ?_
        refine WE.subE (E' := E) (by (repeat (first | exact List.Sublist.refl _ | exact List.nil_sublist _ | apply List.Sublist.cons_cons | apply List.Sublist.cons)); done) ?_
        refine WE.retF tab_ok [_] rfl ⟨rfl, trivial⟩ (RLe.refl _) ?_
        exact ⟨by unfold validate; rw [if_neg (show ¬ 60 < ps.length by omega), ← hv]; rfl, rfl⟩
      · try simp only [decide_eq_true_eq, decide_eq_false_iff_not, beq_iff_eq, bne_iff_ne, beq_eq_false_iff_ne, bne_eq_false_iff_eq, ne_eq, Bool.or_eq_true, Bool.or_eq_false_iff, Bool.and_eq_true, Bool.and_eq_false_imp, Bool.not_eq_true, Bool.not_eq_true', Bool.not_eq_false', Classical.not_not, Int.not_lt, Int.not_le, gt_iff_lt, ge_iff_le] at hc2
        rw [if_neg (show ¬ BadP (nth ps k) by unfold BadP; omega)] at hv
        refine W.skip ?_
        refine WE.nxt ?_
        refine W.seq ?_
        refine W.seq ?_
        refine W.region _ ?_
        refine WG.run tab_ok 1 rfl ?_
        refine' WG.y rfl rfl (by decide) (Yl.load1 tab_ok rfl rfl rfl (fun _ => rfl) ?r8 rfl ?h8) ?_
        case r8 => apply Rd.add; (first | exact Rd.blk 0 rfl | exact Rd.blk 1 rfl | exact Rd.blk 2 rfl | exact Rd.blk 3 rfl | exact Rd.blk 4 rfl | exact Rd.blk 5 rfl | exact Rd.blk 6 rfl | exact Rd.blk 7 rfl)
        case h8 => rfl
        refine WG.run tab_ok 2 rfl ?_
        refine WG.nil ?_
        refine WE.nxt ?_
        refine W.condD rfl (fun hc3 => ?_) (fun hc3 => ?_)
        · try dsimp only at hc3
          rw [if_pos hc3] at hv
          refine W.seq ?_
          refine W.region _ ?_
          refine WG.run tab_ok 1 rfl ?_
          refine WG.nil ?_
          refine WE.nxt ?_
          refine W.ret ?_
          refine WE.then_ret ?_
          refine WE.blk_ret ?_
          refine WE.then_ret ?_
          refine WE.then_ret ?_
          refine WE.blk_ret ?_
          refine WE.then_ret ?_
          refine WE.subE (E' := E) (by (repeat (first | exact List.Sublist.refl _ | exact List.nil_sublist _ | apply List.Sublist.cons_cons | apply List.Sublist.cons)); done) ?_
          refine WE.retF tab_ok [_] rfl ⟨rfl, trivial⟩ (RLe.refl _) ?_
          exact ⟨by unfold validate; rw [if_neg (show ¬ 60 < ps.length by omega), ← hv]; rfl, rfl⟩
        · try dsimp only at hc3
          rw [if_neg hc3] at hv
          refine W.skip ?_
          refine WE.nxt ?_
          refine W.region _ ?_
          refine WG.run tab_ok 1 rfl ?_
          refine' WG.y rfl rfl (by decide) (Yl.load1 tab_ok rfl rfl rfl (fun _ => rfl) ?r9 rfl ?h9) ?_
          case r9 => apply Rd.add; (first | exact Rd.blk 0 rfl | exact Rd.blk 1 rfl | exact Rd.blk 2 rfl | exact Rd.blk 3 rfl | exact Rd.blk 4 rfl | exact Rd.blk 5 rfl | exact Rd.blk 6 rfl | exact Rd.blk 7 rfl)
          case h9 => rfl
          refine WG.run tab_ok 1 rfl ?_
          refine WG.nil ?_
          refine WE.blk _ ?_
          refine WE.nxt ?_
          refine W.region _ ?_
          refine WG.y rfl rfl (by decide) (Yl.add rfl rfl rfl (fun _ => rfl) (by intro _; constructor <;> (try dsimp only) <;> omega)) ?_
          refine WG.run tab_ok 1 rfl ?_
          refine WG.nil ?_
          refine WE.again ((k + 1, (nth ps k).time)) (⟨by dsimp only; omega, hv⟩) (by (try dsimp only); omega) ⟨rfl, rfl, rfl, rfl, rfl, rfl⟩ (RLe.refl _) (by (repeat (first | exact List.Sublist.refl _ | exact List.nil_sublist _ | apply List.Sublist.cons_cons | apply List.Sublist.cons)); done)
    · try dsimp only at hc1
      obtain rfl : k = ps.length := by omega
      simp only [List.drop_length, valGo] at hv
      refine W.exit ?_
      refine WE.then_exit ?_
      refine WE.then_exit ?_
      refine WE.blk_exit ?_
      refine WE.nxt ?_
      refine W.seq ?_
      refine W.region _ ?_
      refine WG.run tab_ok 1 rfl ?_
      refine WG.nil ?_
      refine WE.nxt ?_
      refine W.ret ?_
      refine WE.subE (E' := E) (by (repeat (first | exact List.Sublist.refl _ | exact List.nil_sublist _ | apply List.Sublist.cons_cons | apply List.Sublist.cons)); done) ?_
      refine WE.retF tab_ok [_] rfl ⟨rfl, trivial⟩ (RLe.refl _) ?_
      exact ⟨by unfold validate; rw [if_neg (show ¬ 60 < ps.length by omega), ← hv]; rfl, rfl⟩

end Go.Proofs.Ytcfnckccmkjjlaa

/- A trial. No condition. -/
set_option linter.unusedSimpArgs false
set_option linter.unusedVariables false
namespace Go.Proofs.Ytcfnckccmkjjlaa
open Go Go.RowKit Go.Proofs.Ytcfnckccmkjjlaa.K Go.Proofs.Ytcfnckccmkjjlaa.M

theorem First_C {R : Ro} {sb : Nat} {pa : Option Addr} {pc bg : Nat} {ps : List Pkt} {ms : MS} (w0 : World) (hp : RS R 3 encP pa ps) (hb : ms.begun.length = ps.length) (hbf : ms.before ≤ ps.length) (F : List Ent) :
    K.Fn Try.prog 65 [.pointer (some ⟨sb, 0, none⟩)] w0 R (stE sb pa ps.length pc bg ms :: .sl 4 1 (some ⟨bg, 0, none⟩) ps.length (ms.begun.map encB) :: F)
      (fun v R' E' => v = .int .i64 (firstR ps ms) ∧ R = R' ∧ E' = stE sb pa ps.length pc bg { ms with before := skipTo ms.begun ms.before } :: .sl 4 1 (some ⟨bg, 0, none⟩) ps.length (ms.begun.map encB) :: F) := by
  have hla := hp.len
  refine Fn.enter (n := 64) Try.func65 rfl rfl (Nat.le_of_ble_eq_true rfl) rfl ?_
  refine W.seq ?_
  refine W.region _ ?_
  refine WG.run tab_ok 1 rfl ?_
  refine WG.nil ?_
  refine WE.nxt ?_
  refine W.seq ?_
  refine W.block ?_
  refine W.loop (β := Nat) (fun k => k ≤ ps.length ∧ skipTo ms.begun k = skipTo ms.begun ms.before) (fun k => [(0, true, .pointer (some ⟨sb, 0, none⟩))]) (fun _ => R) (fun k => stE sb pa ps.length pc bg { ms with before := k } :: .sl 4 1 (some ⟨bg, 0, none⟩) ps.length (ms.begun.map encB) :: F) (fun k => ps.length - k) (ms.before) (⟨hbf, rfl⟩) ⟨rfl, rfl⟩ (RLe.refl _) (by (repeat (first | exact List.Sublist.refl _ | exact List.nil_sublist _ | apply List.Sublist.cons_cons | apply List.Sublist.cons)); done) ?_
  intro st hst
  obtain ⟨hk, hsk⟩ := hst
  refine W.seq ?_
  refine W.seq ?_
  refine W.regionQ _ mixed (by kernel_rfl) ?_
  refine WG.run tab_ok 3 rfl ?_
  refine' WG.y rfl rfl (by decide) (Yl.load1 tab_ok rfl rfl rfl (fun _ => rfl) ?r1 rfl ?h1) ?_
  case r1 => apply Rd.add; (first | exact Rd.blk 0 rfl | exact Rd.blk 1 rfl | exact Rd.blk 2 rfl | exact Rd.blk 3 rfl | exact Rd.blk 4 rfl | exact Rd.blk 5 rfl | exact Rd.blk 6 rfl | exact Rd.blk 7 rfl | (apply RS.rdD; assumption; ((try dsimp only) <;> omega)) | exact Rd.slD 0 rfl (by (try dsimp only) <;> omega) | exact Rd.slD 1 rfl (by (try dsimp only) <;> omega) | exact Rd.slD 2 rfl (by (try dsimp only) <;> omega) | exact Rd.slD 3 rfl (by (try dsimp only) <;> omega) | exact Rd.slD 4 rfl (by (try dsimp only) <;> omega) | exact Rd.slD 5 rfl (by (try dsimp only) <;> omega) | exact Rd.slD 6 rfl (by (try dsimp only) <;> omega) | exact Rd.slD 7 rfl (by (try dsimp only) <;> omega))
  case h1 => rfl
  refine WG.run tab_ok 3 rfl ?_
  refine' WG.y rfl rfl (by decide) (Yl.load1 tab_ok rfl rfl rfl (fun _ => rfl) ?r2 rfl ?h2) ?_
  case r2 => apply Rd.add; (first | exact Rd.blk 0 rfl | exact Rd.blk 1 rfl | exact Rd.blk 2 rfl | exact Rd.blk 3 rfl | exact Rd.blk 4 rfl | exact Rd.blk 5 rfl | exact Rd.blk 6 rfl | exact Rd.blk 7 rfl | (apply RS.rdD; assumption; ((try dsimp only) <;> omega)) | exact Rd.slD 0 rfl (by (try dsimp only) <;> omega) | exact Rd.slD 1 rfl (by (try dsimp only) <;> omega) | exact Rd.slD 2 rfl (by (try dsimp only) <;> omega) | exact Rd.slD 3 rfl (by (try dsimp only) <;> omega) | exact Rd.slD 4 rfl (by (try dsimp only) <;> omega) | exact Rd.slD 5 rfl (by (try dsimp only) <;> omega) | exact Rd.slD 6 rfl (by (try dsimp only) <;> omega) | exact Rd.slD 7 rfl (by (try dsimp only) <;> omega))
  case h2 => rfl
  refine WG.run tab_ok 3 rfl ?_
  refine WG.y rfl rfl (by decide) (pureV_ok tab_ok rfl (by first | exact fun _ => rfl | exact fun h => h | (intro h; simp_all))) ?_
  refine WG.y rfl rfl (by decide) (pureV_ok tab_ok rfl (by first | exact fun _ => rfl | exact fun h => h | (intro h; simp_all))) ?_
  refine WG.y rfl rfl (by decide) (pureV_ok tab_ok rfl (by first | exact fun _ => rfl | exact fun h => h | (intro h; simp_all))) ?_
  refine' WG.y rfl rfl (by decide) (Yl.loadG tab_ok rfl rfl rfl (by first | exact fun _ => rfl | exact fun h => h | (intro h; simp_all)) ?r3 rfl ?h3 ?g3) ?_
  case r3 => apply Rd.addC; (first | exact Rd.blkC 0 rfl | exact Rd.blkC 1 rfl | exact Rd.blkC 2 rfl | exact Rd.blkC 3 rfl | exact Rd.blkC 4 rfl | exact Rd.blkC 5 rfl | exact Rd.blkC 6 rfl | exact Rd.blkC 7 rfl | (apply RS.rdC; assumption) | exact Rd.slC 0 rfl | exact Rd.slC 1 rfl | exact Rd.slC 2 rfl | exact Rd.slC 3 rfl | exact Rd.slC 4 rfl | exact Rd.slC 5 rfl | exact Rd.slC 6 rfl | exact Rd.slC 7 rfl)
  case h3 => rfl
  case g3 => first | exact fun _ => trivial | (intro hg; (try simp only [decide_eq_true_eq, decide_eq_false_iff_not, beq_iff_eq, bne_iff_ne, beq_eq_false_iff_ne, bne_eq_false_iff_eq, ne_eq, Bool.or_eq_true, Bool.or_eq_false_iff, Bool.and_eq_true, Bool.and_eq_false_imp, Bool.not_eq_true, Bool.not_eq_true', Bool.not_eq_false', Classical.not_not, Int.not_lt, Int.not_le, gt_iff_lt, ge_iff_le] at hg); (try dsimp only); omega)
  refine WG.y rfl rfl (by decide) (pureV_ok tab_ok rfl (by first | exact fun _ => rfl | exact fun h => h | (intro h; simp_all))) ?_
  refine WG.y rfl rfl (by decide) (pureV_ok tab_ok rfl (by first | exact fun _ => rfl | exact fun h => h | (intro h; simp_all))) ?_
  refine WG.y rfl rfl (by decide) (pureV_ok tab_ok rfl (by first | exact fun _ => rfl | exact fun h => h | (intro h; simp_all))) ?_
  refine' WG.y rfl rfl (by decide) (Yl.loadG tab_ok rfl rfl rfl (by first | exact fun _ => rfl | exact fun h => h | (intro h; simp_all)) ?r4 rfl ?h4 ?g4) ?_
  case r4 => apply Rd.addC; (first | exact Rd.blkC 0 rfl | exact Rd.blkC 1 rfl | exact Rd.blkC 2 rfl | exact Rd.blkC 3 rfl | exact Rd.blkC 4 rfl | exact Rd.blkC 5 rfl | exact Rd.blkC 6 rfl | exact Rd.blkC 7 rfl | (apply RS.rdC; assumption) | exact Rd.slC 0 rfl | exact Rd.slC 1 rfl | exact Rd.slC 2 rfl | exact Rd.slC 3 rfl | exact Rd.slC 4 rfl | exact Rd.slC 5 rfl | exact Rd.slC 6 rfl | exact Rd.slC 7 rfl)
  case h4 => rfl
  case g4 => first | exact fun _ => trivial | (intro hg; (try simp only [decide_eq_true_eq, decide_eq_false_iff_not, beq_iff_eq, bne_iff_ne, beq_eq_false_iff_ne, bne_eq_false_iff_eq, ne_eq, Bool.or_eq_true, Bool.or_eq_false_iff, Bool.and_eq_true, Bool.and_eq_false_imp, Bool.not_eq_true, Bool.not_eq_true', Bool.not_eq_false', Classical.not_not, Int.not_lt, Int.not_le, gt_iff_lt, ge_iff_le] at hg); (try dsimp only); omega)
  refine WG.y rfl rfl (by decide) (Yl.indexN tab_ok rfl rfl rfl rfl rfl rfl (by first | exact fun _ => rfl | exact fun h => h | (intro h; simp_all)) (by intro hg; (try simp only [decide_eq_true_eq, decide_eq_false_iff_not, beq_iff_eq, bne_iff_ne, beq_eq_false_iff_ne, bne_eq_false_iff_eq, ne_eq, Bool.or_eq_true, Bool.or_eq_false_iff, Bool.and_eq_true, Bool.and_eq_false_imp, Bool.not_eq_true, Bool.not_eq_true', Bool.not_eq_false', Classical.not_not, Int.not_lt, Int.not_le, gt_iff_lt, ge_iff_le] at hg); (try dsimp only) <;> omega) (by intro hg; (try simp only [decide_eq_true_eq, decide_eq_false_iff_not, beq_iff_eq, bne_iff_ne, beq_eq_false_iff_ne, bne_eq_false_iff_eq, ne_eq, Bool.or_eq_true, Bool.or_eq_false_iff, Bool.and_eq_true, Bool.and_eq_false_imp, Bool.not_eq_true, Bool.not_eq_true', Bool.not_eq_false', Classical.not_not, Int.not_lt, Int.not_le, gt_iff_lt, ge_iff_le] at hg); first | exact fun _ _ _ _ => rfl | exact RS.has (by assumption) | exact fun _ _ _ _ => (by assumption) | exact HasMem.ownD 0 rfl | exact HasMem.ownD 1 rfl | exact HasMem.ownD 2 rfl | exact HasMem.ownD 3 rfl | exact HasMem.ownD 4 rfl | exact HasMem.ownD 5 rfl | exact HasMem.ownD 6 rfl | exact HasMem.ownD 7 rfl)) ?_
  refine' WG.y rfl rfl (by decide) (Yl.loadG tab_ok rfl rfl rfl (by first | exact fun _ => rfl | exact fun h => h | (intro h; simp_all)) ?r5 rfl ?h5 ?g5) ?_
  case r5 => (first | (apply RS.rdC; assumption) | exact Rd.slC 0 rfl | exact Rd.slC 1 rfl | exact Rd.slC 2 rfl | exact Rd.slC 3 rfl | exact Rd.slC 4 rfl | exact Rd.slC 5 rfl | exact Rd.slC 6 rfl | exact Rd.slC 7 rfl)
  case h5 => rfl
  case g5 => first | exact fun _ => trivial | (intro hg; (try simp only [decide_eq_true_eq, decide_eq_false_iff_not, beq_iff_eq, bne_iff_ne, beq_eq_false_iff_ne, bne_eq_false_iff_eq, ne_eq, Bool.or_eq_true, Bool.or_eq_false_iff, Bool.and_eq_true, Bool.and_eq_false_imp, Bool.not_eq_true, Bool.not_eq_true', Bool.not_eq_false', Classical.not_not, Int.not_lt, Int.not_le, gt_iff_lt, ge_iff_le] at hg); (try dsimp only); omega)
  refine WG.y rfl rfl (by decide) (Yl.pand rfl rfl rfl (fun _ => rfl) (by intro h1 h2; simp_all <;> omega)) ?_
  refine WG.nil ?_
  refine WE.nxt ?_
  refine W.cond rfl (fun hc0 => ?_) (fun hc0 => ?_)
  · try simp only [decide_eq_true_eq, decide_eq_false_iff_not, beq_iff_eq, bne_iff_ne, beq_eq_false_iff_ne, bne_eq_false_iff_eq, ne_eq, Bool.or_eq_true, Bool.or_eq_false_iff, Bool.and_eq_true, Bool.and_eq_false_imp, Bool.not_eq_true, Bool.not_eq_true', Bool.not_eq_false', Classical.not_not, Int.not_lt, Int.not_le, gt_iff_lt, ge_iff_le] at hc0
    obtain ⟨hc1, hc2⟩ := hc0
    have hs := skipTo_true (l := ms.begun) (b := st) (by omega) hc2
    refine W.skip ?_
    refine WE.nxt ?_
    refine W.block ?_
    refine W.region _ ?_
    refine WG.run tab_ok 3 rfl ?_
    refine' WG.y rfl rfl (by decide) (Yl.load1 tab_ok rfl rfl rfl (fun _ => rfl) ?r6 rfl ?h6) ?_
    case r6 => apply Rd.add; (first | exact Rd.blk 0 rfl | exact Rd.blk 1 rfl | exact Rd.blk 2 rfl | exact Rd.blk 3 rfl | exact Rd.blk 4 rfl | exact Rd.blk 5 rfl | exact Rd.blk 6 rfl | exact Rd.blk 7 rfl | (apply RS.rdD; assumption; ((try dsimp only) <;> omega)) | exact Rd.slD 0 rfl (by (try dsimp only) <;> omega) | exact Rd.slD 1 rfl (by (try dsimp only) <;> omega) | exact Rd.slD 2 rfl (by (try dsimp only) <;> omega) | exact Rd.slD 3 rfl (by (try dsimp only) <;> omega) | exact Rd.slD 4 rfl (by (try dsimp only) <;> omega) | exact Rd.slD 5 rfl (by (try dsimp only) <;> omega) | exact Rd.slD 6 rfl (by (try dsimp only) <;> omega) | exact Rd.slD 7 rfl (by (try dsimp only) <;> omega))
    case h6 => rfl
    refine WG.y rfl rfl (by decide) (Yl.add rfl rfl rfl (fun _ => rfl) (by intro _; constructor <;> (try dsimp only) <;> omega)) ?_
    refine WG.run tab_ok 2 rfl ?_
    first | refine WL.efN rfl rfl (Ef.store 0 tab_ok rfl rfl rfl rfl rfl rfl rfl rfl ?_) | refine WL.efN rfl rfl (Ef.store 1 tab_ok rfl rfl rfl rfl rfl rfl rfl rfl ?_) | refine WL.efN rfl rfl (Ef.store 2 tab_ok rfl rfl rfl rfl rfl rfl rfl rfl ?_) | refine WL.efN rfl rfl (Ef.store 3 tab_ok rfl rfl rfl rfl rfl rfl rfl rfl ?_) | refine WL.efN rfl rfl (Ef.store 4 tab_ok rfl rfl rfl rfl rfl rfl rfl rfl ?_) | refine WL.efN rfl rfl (Ef.store 5 tab_ok rfl rfl rfl rfl rfl rfl rfl rfl ?_) | refine WL.efN rfl rfl (Ef.store 6 tab_ok rfl rfl rfl rfl rfl rfl rfl rfl ?_) | refine WL.efN rfl rfl (Ef.store 7 tab_ok rfl rfl rfl rfl rfl rfl rfl rfl ?_)
    refine WG.nil ?_
    refine WE.blk _ ?_
    refine WE.again (st + 1) (⟨by omega, by rw [hs, hsk]⟩) (by (try dsimp only); omega) ⟨rfl, rfl⟩ (RLe.refl _) (by (repeat (first | exact List.Sublist.refl _ | exact List.nil_sublist _ | apply List.Sublist.cons_cons | apply List.Sublist.cons)); done)
  · try simp only [decide_eq_true_eq, decide_eq_false_iff_not, beq_iff_eq, bne_iff_ne, beq_eq_false_iff_ne, bne_eq_false_iff_eq, ne_eq, Bool.or_eq_true, Bool.or_eq_false_iff, Bool.and_eq_true, Bool.and_eq_false_imp, Bool.not_eq_true, Bool.not_eq_true', Bool.not_eq_false', Classical.not_not, Int.not_lt, Int.not_le, gt_iff_lt, ge_iff_le] at hc0
    have hs : skipTo ms.begun st = st := by
      by_cases hlt : st < ps.length
      · exact skipTo_false (by omega) (hc0 (by omega))
      · exact skipTo_end (by omega)
    rw [hs] at hsk
    have hfr : firstR ps ms = if st < ps.length ∧ (nth ps st).time ≤ ms.now then (st : Int) else -1 := by unfold firstR; rw [← hsk]
    refine W.exit ?_
    refine WE.then_exit ?_
    refine WE.then_exit ?_
    refine WE.blk_exit ?_
    refine WE.nxt ?_
    refine W.seq ?_
    refine W.seq ?_
    refine W.regionQ _ mixed (by kernel_rfl) ?_
    refine WG.run tab_ok 3 rfl ?_
    refine' WG.y rfl rfl (by decide) (Yl.load1 tab_ok rfl rfl rfl (fun _ => rfl) ?r7 rfl ?h7) ?_
    case r7 => apply Rd.add; (first | exact Rd.blk 0 rfl | exact Rd.blk 1 rfl | exact Rd.blk 2 rfl | exact Rd.blk 3 rfl | exact Rd.blk 4 rfl | exact Rd.blk 5 rfl | exact Rd.blk 6 rfl | exact Rd.blk 7 rfl | (apply RS.rdD; assumption; ((try dsimp only) <;> omega)) | exact Rd.slD 0 rfl (by (try dsimp only) <;> omega) | exact Rd.slD 1 rfl (by (try dsimp only) <;> omega) | exact Rd.slD 2 rfl (by (try dsimp only) <;> omega) | exact Rd.slD 3 rfl (by (try dsimp only) <;> omega) | exact Rd.slD 4 rfl (by (try dsimp only) <;> omega) | exact Rd.slD 5 rfl (by (try dsimp only) <;> omega) | exact Rd.slD 6 rfl (by (try dsimp only) <;> omega) | exact Rd.slD 7 rfl (by (try dsimp only) <;> omega))
    case h7 => rfl
    refine WG.run tab_ok 3 rfl ?_
    refine' WG.y rfl rfl (by decide) (Yl.load1 tab_ok rfl rfl rfl (fun _ => rfl) ?r8 rfl ?h8) ?_
    case r8 => apply Rd.add; (first | exact Rd.blk 0 rfl | exact Rd.blk 1 rfl | exact Rd.blk 2 rfl | exact Rd.blk 3 rfl | exact Rd.blk 4 rfl | exact Rd.blk 5 rfl | exact Rd.blk 6 rfl | exact Rd.blk 7 rfl | (apply RS.rdD; assumption; ((try dsimp only) <;> omega)) | exact Rd.slD 0 rfl (by (try dsimp only) <;> omega) | exact Rd.slD 1 rfl (by (try dsimp only) <;> omega) | exact Rd.slD 2 rfl (by (try dsimp only) <;> omega) | exact Rd.slD 3 rfl (by (try dsimp only) <;> omega) | exact Rd.slD 4 rfl (by (try dsimp only) <;> omega) | exact Rd.slD 5 rfl (by (try dsimp only) <;> omega) | exact Rd.slD 6 rfl (by (try dsimp only) <;> omega) | exact Rd.slD 7 rfl (by (try dsimp only) <;> omega))
    case h8 => rfl
    refine WG.run tab_ok 3 rfl ?_
    refine WG.y rfl rfl (by decide) (pureV_ok tab_ok rfl (by first | exact fun _ => rfl | exact fun h => h | (intro h; simp_all))) ?_
    refine WG.y rfl rfl (by decide) (pureV_ok tab_ok rfl (by first | exact fun _ => rfl | exact fun h => h | (intro h; simp_all))) ?_
    refine WG.y rfl rfl (by decide) (pureV_ok tab_ok rfl (by first | exact fun _ => rfl | exact fun h => h | (intro h; simp_all))) ?_
    refine' WG.y rfl rfl (by decide) (Yl.loadG tab_ok rfl rfl rfl (by first | exact fun _ => rfl | exact fun h => h | (intro h; simp_all)) ?r9 rfl ?h9 ?g9) ?_
    case r9 => apply Rd.addC; (first | exact Rd.blkC 0 rfl | exact Rd.blkC 1 rfl | exact Rd.blkC 2 rfl | exact Rd.blkC 3 rfl | exact Rd.blkC 4 rfl | exact Rd.blkC 5 rfl | exact Rd.blkC 6 rfl | exact Rd.blkC 7 rfl | (apply RS.rdC; assumption) | exact Rd.slC 0 rfl | exact Rd.slC 1 rfl | exact Rd.slC 2 rfl | exact Rd.slC 3 rfl | exact Rd.slC 4 rfl | exact Rd.slC 5 rfl | exact Rd.slC 6 rfl | exact Rd.slC 7 rfl)
    case h9 => rfl
    case g9 => first | exact fun _ => trivial | (intro hg; (try simp only [decide_eq_true_eq, decide_eq_false_iff_not, beq_iff_eq, bne_iff_ne, beq_eq_false_iff_ne, bne_eq_false_iff_eq, ne_eq, Bool.or_eq_true, Bool.or_eq_false_iff, Bool.and_eq_true, Bool.and_eq_false_imp, Bool.not_eq_true, Bool.not_eq_true', Bool.not_eq_false', Classical.not_not, Int.not_lt, Int.not_le, gt_iff_lt, ge_iff_le] at hg); (try dsimp only); omega)
    refine WG.y rfl rfl (by decide) (pureV_ok tab_ok rfl (by first | exact fun _ => rfl | exact fun h => h | (intro h; simp_all))) ?_
    refine WG.y rfl rfl (by decide) (pureV_ok tab_ok rfl (by first | exact fun _ => rfl | exact fun h => h | (intro h; simp_all))) ?_
    refine WG.y rfl rfl (by decide) (pureV_ok tab_ok rfl (by first | exact fun _ => rfl | exact fun h => h | (intro h; simp_all))) ?_
    refine' WG.y rfl rfl (by decide) (Yl.loadG tab_ok rfl rfl rfl (by first | exact fun _ => rfl | exact fun h => h | (intro h; simp_all)) ?r10 rfl ?h10 ?g10) ?_
    case r10 => apply Rd.addC; (first | exact Rd.blkC 0 rfl | exact Rd.blkC 1 rfl | exact Rd.blkC 2 rfl | exact Rd.blkC 3 rfl | exact Rd.blkC 4 rfl | exact Rd.blkC 5 rfl | exact Rd.blkC 6 rfl | exact Rd.blkC 7 rfl | (apply RS.rdC; assumption) | exact Rd.slC 0 rfl | exact Rd.slC 1 rfl | exact Rd.slC 2 rfl | exact Rd.slC 3 rfl | exact Rd.slC 4 rfl | exact Rd.slC 5 rfl | exact Rd.slC 6 rfl | exact Rd.slC 7 rfl)
    case h10 => rfl
    case g10 => first | exact fun _ => trivial | (intro hg; (try simp only [decide_eq_true_eq, decide_eq_false_iff_not, beq_iff_eq, bne_iff_ne, beq_eq_false_iff_ne, bne_eq_false_iff_eq, ne_eq, Bool.or_eq_true, Bool.or_eq_false_iff, Bool.and_eq_true, Bool.and_eq_false_imp, Bool.not_eq_true, Bool.not_eq_true', Bool.not_eq_false', Classical.not_not, Int.not_lt, Int.not_le, gt_iff_lt, ge_iff_le] at hg); (try dsimp only); omega)
    refine WG.y rfl rfl (by decide) (Yl.indexN tab_ok rfl rfl rfl rfl rfl rfl (by first | exact fun _ => rfl | exact fun h => h | (intro h; simp_all)) (by intro hg; (try simp only [decide_eq_true_eq, decide_eq_false_iff_not, beq_iff_eq, bne_iff_ne, beq_eq_false_iff_ne, bne_eq_false_iff_eq, ne_eq, Bool.or_eq_true, Bool.or_eq_false_iff, Bool.and_eq_true, Bool.and_eq_false_imp, Bool.not_eq_true, Bool.not_eq_true', Bool.not_eq_false', Classical.not_not, Int.not_lt, Int.not_le, gt_iff_lt, ge_iff_le] at hg); (try dsimp only) <;> omega) (by intro hg; (try simp only [decide_eq_true_eq, decide_eq_false_iff_not, beq_iff_eq, bne_iff_ne, beq_eq_false_iff_ne, bne_eq_false_iff_eq, ne_eq, Bool.or_eq_true, Bool.or_eq_false_iff, Bool.and_eq_true, Bool.and_eq_false_imp, Bool.not_eq_true, Bool.not_eq_true', Bool.not_eq_false', Classical.not_not, Int.not_lt, Int.not_le, gt_iff_lt, ge_iff_le] at hg); first | exact fun _ _ _ _ => rfl | exact RS.has (by assumption) | exact fun _ _ _ _ => (by assumption) | exact HasMem.ownD 0 rfl | exact HasMem.ownD 1 rfl | exact HasMem.ownD 2 rfl | exact HasMem.ownD 3 rfl | exact HasMem.ownD 4 rfl | exact HasMem.ownD 5 rfl | exact HasMem.ownD 6 rfl | exact HasMem.ownD 7 rfl)) ?_
    refine WG.y rfl rfl (by decide) (pureV_ok tab_ok rfl (by first | exact fun _ => rfl | exact fun h => h | (intro h; simp_all))) ?_
    refine' WG.y rfl rfl (by decide) (Yl.loadG tab_ok rfl rfl rfl (by first | exact fun _ => rfl | exact fun h => h | (intro h; simp_all)) ?r11 rfl ?h11 ?g11) ?_
    case r11 => apply Rd.addC; (first | (apply RS.rdC; assumption) | exact Rd.slC 0 rfl | exact Rd.slC 1 rfl | exact Rd.slC 2 rfl | exact Rd.slC 3 rfl | exact Rd.slC 4 rfl | exact Rd.slC 5 rfl | exact Rd.slC 6 rfl | exact Rd.slC 7 rfl)
    case h11 => rfl
    case g11 => first | exact fun _ => trivial | (intro hg; (try simp only [decide_eq_true_eq, decide_eq_false_iff_not, beq_iff_eq, bne_iff_ne, beq_eq_false_iff_ne, bne_eq_false_iff_eq, ne_eq, Bool.or_eq_true, Bool.or_eq_false_iff, Bool.and_eq_true, Bool.and_eq_false_imp, Bool.not_eq_true, Bool.not_eq_true', Bool.not_eq_false', Classical.not_not, Int.not_lt, Int.not_le, gt_iff_lt, ge_iff_le] at hg); (try dsimp only); omega)
    refine WG.y rfl rfl (by decide) (pureV_ok tab_ok rfl (by first | exact fun _ => rfl | exact fun h => h | (intro h; simp_all))) ?_
    refine WG.y rfl rfl (by decide) (pureV_ok tab_ok rfl (by first | exact fun _ => rfl | exact fun h => h | (intro h; simp_all))) ?_
    refine WG.y rfl rfl (by decide) (pureV_ok tab_ok rfl (by first | exact fun _ => rfl | exact fun h => h | (intro h; simp_all))) ?_
    refine' WG.y rfl rfl (by decide) (Yl.loadG tab_ok rfl rfl rfl (by first | exact fun _ => rfl | exact fun h => h | (intro h; simp_all)) ?r12 rfl ?h12 ?g12) ?_
    case r12 => apply Rd.addC; (first | exact Rd.blkC 0 rfl | exact Rd.blkC 1 rfl | exact Rd.blkC 2 rfl | exact Rd.blkC 3 rfl | exact Rd.blkC 4 rfl | exact Rd.blkC 5 rfl | exact Rd.blkC 6 rfl | exact Rd.blkC 7 rfl | (apply RS.rdC; assumption) | exact Rd.slC 0 rfl | exact Rd.slC 1 rfl | exact Rd.slC 2 rfl | exact Rd.slC 3 rfl | exact Rd.slC 4 rfl | exact Rd.slC 5 rfl | exact Rd.slC 6 rfl | exact Rd.slC 7 rfl)
    case h12 => rfl
    case g12 => first | exact fun _ => trivial | (intro hg; (try simp only [decide_eq_true_eq, decide_eq_false_iff_not, beq_iff_eq, bne_iff_ne, beq_eq_false_iff_ne, bne_eq_false_iff_eq, ne_eq, Bool.or_eq_true, Bool.or_eq_false_iff, Bool.and_eq_true, Bool.and_eq_false_imp, Bool.not_eq_true, Bool.not_eq_true', Bool.not_eq_false', Classical.not_not, Int.not_lt, Int.not_le, gt_iff_lt, ge_iff_le] at hg); (try dsimp only); omega)
    refine WG.y rfl rfl (by decide) (pureV_ok tab_ok rfl (by first | exact fun _ => rfl | exact fun h => h | (intro h; simp_all))) ?_
    refine WG.y rfl rfl (by decide) (Yl.pand rfl rfl rfl (fun _ => rfl) (by intro h1 h2; simp_all <;> omega)) ?_
    refine WG.nil ?_
    refine WE.nxt ?_
    refine W.cond rfl (fun hc1 => ?_) (fun hc1 => ?_)
    · try simp only [decide_eq_true_eq, decide_eq_false_iff_not, beq_iff_eq, bne_iff_ne, beq_eq_false_iff_ne, bne_eq_false_iff_eq, ne_eq, Bool.or_eq_true, Bool.or_eq_false_iff, Bool.and_eq_true, Bool.and_eq_false_imp, Bool.not_eq_true, Bool.not_eq_true', Bool.not_eq_false', Classical.not_not, Int.not_lt, Int.not_le, gt_iff_lt, ge_iff_le] at hc1
      refine W.seq ?_
      refine W.region _ ?_
      refine WG.run tab_ok 3 rfl ?_
      refine' WG.y rfl rfl (by decide) (Yl.load1 tab_ok rfl rfl rfl (fun _ => rfl) ?r13 rfl ?h13) ?_
      case r13 => apply Rd.add; (first | exact Rd.blk 0 rfl | exact Rd.blk 1 rfl | exact Rd.blk 2 rfl | exact Rd.blk 3 rfl | exact Rd.blk 4 rfl | exact Rd.blk 5 rfl | exact Rd.blk 6 rfl | exact Rd.blk 7 rfl | (apply RS.rdD; assumption; ((try dsimp only) <;> omega)) | exact Rd.slD 0 rfl (by (try dsimp only) <;> omega) | exact Rd.slD 1 rfl (by (try dsimp only) <;> omega) | exact Rd.slD 2 rfl (by (try dsimp only) <;> omega) | exact Rd.slD 3 rfl (by (try dsimp only) <;> omega) | exact Rd.slD 4 rfl (by (try dsimp only) <;> omega) | exact Rd.slD 5 rfl (by (try dsimp only) <;> omega) | exact Rd.slD 6 rfl (by (try dsimp only) <;> omega) | exact Rd.slD 7 rfl (by (try dsimp only) <;> omega))
      case h13 => rfl
      refine WG.run tab_ok 1 rfl ?_
      refine WG.nil ?_
      refine WE.nxt ?_
      refine W.ret ?_
      refine WE.then_ret ?_
      refine WE.retF tab_ok [_] rfl ⟨rfl, trivial⟩ (RLe.refl _) ?_
      exact ⟨by rw [hfr, if_pos (by omega)]; rfl, rfl, by rw [← hsk]⟩
    · try simp only [decide_eq_true_eq, decide_eq_false_iff_not, beq_iff_eq, bne_iff_ne, beq_eq_false_iff_ne, bne_eq_false_iff_eq, ne_eq, Bool.or_eq_true, Bool.or_eq_false_iff, Bool.and_eq_true, Bool.and_eq_false_imp, Bool.not_eq_true, Bool.not_eq_true', Bool.not_eq_false', Classical.not_not, Int.not_lt, Int.not_le, gt_iff_lt, ge_iff_le] at hc1
      refine W.skip ?_
      refine WE.nxt ?_
      refine W.seq ?_
      refine W.region _ ?_
      refine WG.run tab_ok 1 rfl ?_
      refine WG.nil ?_
      refine WE.nxt ?_
      refine W.ret ?_
      refine WE.retF tab_ok [_] rfl ⟨rfl, trivial⟩ (RLe.refl _) ?_
      exact ⟨by rw [hfr, if_neg (by omega)]; rfl, rfl, by rw [← hsk]⟩

theorem MRun_C {R : Ro} {pa : Option Addr} {pc : Nat} {ps : List Pkt} {cap : Int} {classes ticks : Nat} {g : FuncId} {first capd : Array Value} {σ : Type} {ch : MS → σ → Int × Nat × σ} {good : MS → σ → Prop} {X : σ → List Ent} {sg : σ} (w0 : World)
    (hp : RS R 3 encP pa ps) (hg : M.Good ps ch good) (hf : Fit ps classes) (h0 : good (M.start ps classes sg).ms sg) (hcap : 1 ≤ cap ∧ cap ≤ 1000000) (hcl : classes ≤ 1000) (htk : ticks ≤ 1000000) (hen : Enters Try.prog g)
    (hch : ∀ (sb bg : Nat) (ms : MS) (sg : σ) (F : List Ent), good ms sg → ms.begun.length = ps.length → 0 < ms.left → ms.left ≤ cap → 0 ≤ ms.now → ms.now < ticks →
      K.Fn Try.prog g (first.toList ++ [.pointer (some ⟨sb, 0, none⟩)] ++ capd.toList) w0 R (stE sb pa ps.length pc bg ms :: .sl 4 1 (some ⟨bg, 0, none⟩) ps.length (ms.begun.map encB) :: (X sg ++ F))
        (fun v R' E' => v = .int .i64 (ch ms sg).1 ∧ R = R' ∧ E' = stE sb pa ps.length pc bg { ms with before := (ch ms sg).2.1 } :: .sl 4 1 (some ⟨bg, 0, none⟩) ps.length (ms.begun.map encB) :: (X (ch ms sg).2.2 ++ F)))
    (F : List Ent) :
    K.Fn Try.prog 63 [.int .i64 cap, .int .i64 classes, .slice pa ps.length pc, .int .i64 ticks, .func (.func g) first capd] w0 R (X sg ++ F)
      (fun v R' E' => ∃ (rows : List Sl) (gd go : Nat) (s : M.RS σ), s = mrun ps ch cap classes ticks sg ∧ v = .agg #[.slice (some ⟨gd, 0, none⟩) ps.length ps.length, .slice (some ⟨go, 0, none⟩) classes classes] ∧ R = R' ∧ rows.map Sl.xs = s.sent ∧ (∀ r ∈ rows, r.a.isSome = true) ∧ Inv ps classes good (ticks + 1) (ticks * cap) s ∧
        (.sl 3 1 (some ⟨gd, 0, none⟩) ps.length (s.done.map encI) :: .sl 23 1 (some ⟨go, 0, none⟩) classes (rows.map encS) :: (rows.map (rowE 3) ++ (X s.sg ++ F))).Sublist E') := by
  have hlp := hf.len
  refine Fn.enter (n := 160) Try.func63 rfl rfl (Nat.le_of_ble_eq_true rfl) rfl ?_
  refine W.seq ?_
  refine W.region _ ?_
  refine WL.ef rfl rfl (by decide) (Ef.alloc tab_ok rfl rfl (fun b10 => ?_))
  refine WG.nil ?_
  refine WE.nxt ?_
  refine W.seqCut (β := Nat × Nat × Nat) (fun (b11, gd, go) => True) (fun (b11, gd, go) => [(0, true, .int .i64 cap), (1, true, .int .i64 classes), (2, true, .slice pa ps.length pc), (3, true, .int .i64 ticks), (4, true, .func (.func g) first capd), (10, true, .pointer (some ⟨b10, 0, none⟩)), (11, true, .pointer (some ⟨b11, 0, none⟩))]) (fun _ => R) (fun (b11, gd, go) => .blk b11 [.slice (some ⟨gd, 0, none⟩) ps.length ps.length, .slice (some ⟨go, 0, none⟩) classes classes] :: .sl 3 1 (some ⟨gd, 0, none⟩) ps.length ((List.replicate ps.length 0).map encI) :: .sl 23 1 (some ⟨go, 0, none⟩) classes ((List.replicate classes (⟨none, 0, []⟩ : Sl)).map encS) :: .blk b10 [.slice none 0 0, .slice none 0 0] :: (X sg ++ F)) ?_ ?_
  ·
    intro st hst
    obtain ⟨b11, gd, go⟩ := st
    dsimp only
    refine W.seq ?_
    refine W.seq ?_
    refine W.region _ ?_
    refine WG.run tab_ok 1 rfl ?_
    refine' WG.y rfl rfl (by decide) (Yl.load1 tab_ok rfl rfl rfl (fun _ => rfl) ?r1 rfl ?h1) ?_
    case r1 => apply Rd.add; (first | exact Rd.blk 0 rfl | exact Rd.blk 1 rfl | exact Rd.blk 2 rfl | exact Rd.blk 3 rfl | exact Rd.blk 4 rfl | exact Rd.blk 5 rfl | exact Rd.blk 6 rfl | exact Rd.blk 7 rfl | exact Rd.blk 8 rfl)
    case h1 => rfl
    refine WG.run tab_ok 2 rfl ?_
    refine WG.nil ?_
    refine WE.nxt ?_
    refine W.block ?_
    refine W.loop (β := Nat × List Int) (fun (k, l) => l.length = ps.length ∧ k ≤ ps.length ∧ ∀ j, j < k → nth l j = -1) (fun (k, l) => [(0, true, .int .i64 cap), (1, true, .int .i64 classes), (2, true, .slice pa ps.length pc), (3, true, .int .i64 ticks), (4, true, .func (.func g) first capd), (10, true, .pointer (some ⟨b10, 0, none⟩)), (11, true, .pointer (some ⟨b11, 0, none⟩)), (28, true, .int .i64 ps.length), (29, true, .int .i64 (k : Int))]) (fun _ => R) (fun (k, l) => .blk b11 [.slice (some ⟨gd, 0, none⟩) ps.length ps.length, .slice (some ⟨go, 0, none⟩) classes classes] :: .sl 3 1 (some ⟨gd, 0, none⟩) ps.length (l.map encI) :: .sl 23 1 (some ⟨go, 0, none⟩) classes ((List.replicate classes (⟨none, 0, []⟩ : Sl)).map encS) :: .blk b10 [.slice none 0 0, .slice none 0 0] :: (X sg ++ F)) (fun (k, l) => ps.length - k) ((0, List.replicate ps.length 0)) (⟨by simp, Nat.zero_le _, fun j hj => by omega⟩) ⟨rfl, rfl, rfl, rfl, rfl, rfl, rfl, rfl, rfl, rfl⟩ (RLe.refl _) (by (repeat (first | exact List.Sublist.refl _ | exact List.nil_sublist _ | apply List.Sublist.cons_cons | apply List.Sublist.cons)); done) ?_
    intro st hst
    obtain ⟨k, l⟩ := st
    obtain ⟨h1, h2, h3⟩ := hst
    dsimp only at h1 h2 h3 ⊢
    refine W.seq ?_
    refine W.region _ ?_
    refine WG.run tab_ok 1 rfl ?_
    refine WG.nil ?_
    refine WE.nxt ?_
    refine W.seq ?_
    refine W.condD rfl (fun hc0 => ?_) (fun hc0 => ?_)
    · try dsimp only at hc0
      refine W.skip ?_
      refine WE.nxt ?_
      refine W.seq ?_
      refine W.block ?_
      refine W.seq ?_
      refine W.region _ ?_
      refine WG.run tab_ok 2 rfl ?_
      refine WG.nil ?_
      refine WE.nxt ?_
      refine W.region _ ?_
      refine WG.run tab_ok 1 rfl ?_
      refine' WG.y rfl rfl (by decide) (Yl.load1 tab_ok rfl rfl rfl (fun _ => rfl) ?r2 rfl ?h2) ?_
      case r2 => apply Rd.add; (first | exact Rd.blk 0 rfl | exact Rd.blk 1 rfl | exact Rd.blk 2 rfl | exact Rd.blk 3 rfl | exact Rd.blk 4 rfl | exact Rd.blk 5 rfl | exact Rd.blk 6 rfl | exact Rd.blk 7 rfl | exact Rd.blk 8 rfl)
      case h2 => rfl
      refine WG.run tab_ok 1 rfl ?_
      refine WG.y rfl rfl (by decide) (Yl.indexN tab_ok rfl rfl rfl rfl rfl rfl (fun _ => rfl) (by intro _; (try dsimp only) <;> omega) (by intro _; first | exact fun _ _ _ _ => rfl | exact RS.has (by assumption) | exact fun _ _ _ _ => (by assumption) | exact HasMem.ownD 0 rfl | exact HasMem.ownD 1 rfl | exact HasMem.ownD 2 rfl | exact HasMem.ownD 3 rfl | exact HasMem.ownD 4 rfl | exact HasMem.ownD 5 rfl | exact HasMem.ownD 6 rfl | exact HasMem.ownD 7 rfl | exact HasMem.ownD 8 rfl)) ?_
      first | refine WL.efN rfl rfl (Ef.storeD _ 0 tab_ok rfl rfl rfl rfl rfl (by (try dsimp only) <;> omega) rfl rfl rfl rfl ?_) | refine WL.efN rfl rfl (Ef.storeD _ 1 tab_ok rfl rfl rfl rfl rfl (by (try dsimp only) <;> omega) rfl rfl rfl rfl ?_) | refine WL.efN rfl rfl (Ef.storeD _ 2 tab_ok rfl rfl rfl rfl rfl (by (try dsimp only) <;> omega) rfl rfl rfl rfl ?_) | refine WL.efN rfl rfl (Ef.storeD _ 3 tab_ok rfl rfl rfl rfl rfl (by (try dsimp only) <;> omega) rfl rfl rfl rfl ?_) | refine WL.efN rfl rfl (Ef.storeD _ 4 tab_ok rfl rfl rfl rfl rfl (by (try dsimp only) <;> omega) rfl rfl rfl rfl ?_) | refine WL.efN rfl rfl (Ef.storeD _ 5 tab_ok rfl rfl rfl rfl rfl (by (try dsimp only) <;> omega) rfl rfl rfl rfl ?_) | refine WL.efN rfl rfl (Ef.storeD _ 6 tab_ok rfl rfl rfl rfl rfl (by (try dsimp only) <;> omega) rfl rfl rfl rfl ?_) | refine WL.efN rfl rfl (Ef.storeD _ 7 tab_ok rfl rfl rfl rfl rfl (by (try dsimp only) <;> omega) rfl rfl rfl rfl ?_) | refine WL.efN rfl rfl (Ef.storeD _ 8 tab_ok rfl rfl rfl rfl rfl (by (try dsimp only) <;> omega) rfl rfl rfl rfl ?_)
      refine WG.nil ?_
      refine WE.blk _ ?_
      refine WE.nxt ?_
      refine W.region _ ?_
      refine WG.y rfl rfl (by decide) (Yl.add rfl rfl rfl (fun _ => rfl) (by intro _; constructor <;> (try dsimp only) <;> omega)) ?_
      refine WG.run tab_ok 1 rfl ?_
      refine WG.nil ?_
      refine WE.again ((k + 1, l.set k (-1))) (⟨by simp [h1], by omega, fill_step (p := (· = -1)) (by omega) h3 rfl⟩) (by (try dsimp only); omega) ⟨rfl, rfl, rfl, rfl, rfl, rfl, rfl, rfl, rfl, rfl⟩ (RLe.refl _) (by (repeat (first | exact List.Sublist.refl _ | exact List.nil_sublist _ | apply List.Sublist.cons_cons | apply List.Sublist.cons)); done)
    · try dsimp only at hc0
      have hk : k = ps.length := by omega
      subst k
      obtain rfl := replicate_of h1 h3
      refine W.exit ?_
      refine WE.then_exit ?_
      refine WE.then_exit ?_
      refine WE.blk_exit ?_
      refine WE.nxt ?_
      refine W.seq ?_
      refine W.seq ?_
      refine W.region _ ?_
      refine WG.run tab_ok 1 rfl ?_
      refine' WG.y rfl rfl (by decide) (Yl.load1 tab_ok rfl rfl rfl (fun _ => rfl) ?r3 rfl ?h3) ?_
      case r3 => apply Rd.add; (first | exact Rd.blk 0 rfl | exact Rd.blk 1 rfl | exact Rd.blk 2 rfl | exact Rd.blk 3 rfl | exact Rd.blk 4 rfl | exact Rd.blk 5 rfl | exact Rd.blk 6 rfl | exact Rd.blk 7 rfl | exact Rd.blk 8 rfl)
      case h3 => rfl
      refine WG.run tab_ok 2 rfl ?_
      refine WG.nil ?_
      refine WE.nxt ?_
      refine W.block ?_
      refine W.loop (β := Nat × List Sl) (fun (k, rows) => rows.length = classes ∧ k ≤ classes ∧ ∀ j, j < k → (nth (rows : List Sl) j).a.isSome = true ∧ (nth rows j).xs = [0]) (fun (k, rows) => [(0, true, .int .i64 cap), (1, true, .int .i64 classes), (2, true, .slice pa ps.length pc), (3, true, .int .i64 ticks), (4, true, .func (.func g) first capd), (10, true, .pointer (some ⟨b10, 0, none⟩)), (11, true, .pointer (some ⟨b11, 0, none⟩)), (39, true, .int .i64 classes), (40, true, .int .i64 (k : Int))]) (fun _ => R) (fun (k, rows) => .blk b11 [.slice (some ⟨gd, 0, none⟩) ps.length ps.length, .slice (some ⟨go, 0, none⟩) classes classes] :: .sl 3 1 (some ⟨gd, 0, none⟩) ps.length ((List.replicate ps.length (-1)).map encI) :: .sl 23 1 (some ⟨go, 0, none⟩) classes (rows.map encS) :: .blk b10 [.slice none 0 0, .slice none 0 0] :: ((rows.take k).map (rowE 3) ++ (X sg ++ F))) (fun (k, rows) => classes - k) ((0, List.replicate classes ⟨none, 0, []⟩)) (⟨by simp, Nat.zero_le _, fun j hj => by omega⟩) ⟨rfl, rfl, rfl, rfl, rfl, rfl, rfl, rfl, rfl, rfl⟩ (RLe.refl _) (by (repeat (first | exact List.Sublist.refl _ | exact List.nil_sublist _ | apply List.Sublist.cons_cons | apply List.Sublist.cons)); done) ?_
      intro st hst
      obtain ⟨k, rows⟩ := st
      obtain ⟨h1, h2, h3⟩ := hst
      dsimp only at h1 h2 h3 ⊢
      refine W.seq ?_
      refine W.region _ ?_
      refine WG.run tab_ok 1 rfl ?_
      refine WG.nil ?_
      refine WE.nxt ?_
      refine W.seq ?_
      refine W.condD rfl (fun hc1 => ?_) (fun hc1 => ?_)
      · try dsimp only at hc1
        refine W.skip ?_
        refine WE.nxt ?_
        refine W.seq ?_
        refine W.block ?_
        refine W.seq ?_
        refine W.region _ ?_
        refine WG.run tab_ok 2 rfl ?_
        refine WG.nil ?_
        refine WE.nxt ?_
        refine W.regionH _ (ES := [.blk b11 [.slice (some ⟨gd, 0, none⟩) ps.length ps.length, .slice (some ⟨go, 0, none⟩) classes classes]]) mixed ?_
        refine WA.take 0 rfl (by kernel_rfl) (by kernel_rfl) (by kernel_rfl) rfl rfl (by decide) (pureV_ok tab_ok rfl (fun _ => rfl)) (by (repeat (first | exact List.Sublist.refl _ | exact List.nil_sublist _ | apply List.Sublist.cons_cons | apply List.Sublist.cons)); done) (by first | exact RLe.refl _ | assumption) ?_
        refine' WA.take 1 rfl (by kernel_rfl) (by kernel_rfl) (by kernel_rfl) rfl rfl (by decide) (Yl.load1 tab_ok rfl rfl rfl (fun _ => rfl) ?r4 rfl ?h4) (by (repeat (first | exact List.Sublist.refl _ | exact List.nil_sublist _ | apply List.Sublist.cons_cons | apply List.Sublist.cons)); done) (by first | exact RLe.refl _ | assumption) ?_
        case r4 => apply Rd.add; (first | exact Rd.blk 0 rfl | exact Rd.blk 1 rfl | exact Rd.blk 2 rfl | exact Rd.blk 3 rfl | exact Rd.blk 4 rfl | exact Rd.blk 5 rfl | exact Rd.blk 6 rfl | exact Rd.blk 7 rfl | exact Rd.blk 8 rfl)
        case h4 => rfl
        refine WA.take 2 rfl (by kernel_rfl) (by kernel_rfl) (by kernel_rfl) rfl rfl (by decide) (pureV_ok tab_ok rfl (fun _ => rfl)) (by (repeat (first | exact List.Sublist.refl _ | exact List.nil_sublist _ | apply List.Sublist.cons_cons | apply List.Sublist.cons)); done) (by first | exact RLe.refl _ | assumption) ?_
        refine WA.take 3 rfl (by kernel_rfl) (by kernel_rfl) (by kernel_rfl) rfl rfl (by decide) (pureV_ok tab_ok rfl (fun _ => rfl)) (by (repeat (first | exact List.Sublist.refl _ | exact List.nil_sublist _ | apply List.Sublist.cons_cons | apply List.Sublist.cons)); done) (by first | exact RLe.refl _ | assumption) ?_
        refine WA.take 4 rfl (by kernel_rfl) (by kernel_rfl) (by kernel_rfl) rfl rfl (by decide) (Yl.add rfl rfl rfl (fun _ => rfl) (by intro _; constructor <;> (try dsimp only) <;> omega)) (by (repeat (first | exact List.Sublist.refl _ | exact List.nil_sublist _ | apply List.Sublist.cons_cons | apply List.Sublist.cons)); done) (by first | exact RLe.refl _ | assumption) ?_
        refine WA.eff 5 rfl (by kernel_rfl) rfl rfl (by decide) (Ef.makeSliceD (enc := encI) 0 tab_ok rfl rfl rfl rfl rfl rfl (by (try dsimp only) <;> omega) (by (try dsimp only) <;> omega) (by (try dsimp only) <;> omega) (by (try dsimp only) <;> omega) (by decide) rfl rfl (fun a48 => ?_))
        refine ⟨by first | exact RLe.refl _ | assumption, (by (repeat (first | exact List.Sublist.refl _ | exact List.nil_sublist _ | apply List.Sublist.cons_cons | apply List.Sublist.cons)); done), ?_⟩
        refine WA.take 6 rfl (by kernel_rfl) (by kernel_rfl) (by kernel_rfl) rfl rfl (by decide) (Yl.indexN tab_ok rfl rfl rfl rfl rfl rfl (fun _ => rfl) (by intro _; (try dsimp only) <;> omega) (by intro _; first | exact fun _ _ _ _ => rfl | exact RS.has (by assumption) | exact fun _ _ _ _ => (by assumption) | exact HasMem.ownD 0 rfl | exact HasMem.ownD 1 rfl | exact HasMem.ownD 2 rfl | exact HasMem.ownD 3 rfl | exact HasMem.ownD 4 rfl | exact HasMem.ownD 5 rfl | exact HasMem.ownD 6 rfl | exact HasMem.ownD 7 rfl | exact HasMem.ownD 8 rfl)) (by (repeat (first | exact List.Sublist.refl _ | exact List.nil_sublist _ | apply List.Sublist.cons_cons | apply List.Sublist.cons)); done) (by first | exact RLe.refl _ | assumption) ?_
        refine WA.effN 7 rfl (by kernel_rfl) rfl rfl (Ef.storeD (⟨some ⟨a48, 0, none⟩, ticks + 1, [0]⟩ : Sl) 3 tab_ok rfl rfl rfl rfl rfl (by omega) rfl rfl rfl rfl ?_)
        refine ⟨by first | exact RLe.refl _ | assumption, (by (repeat (first | exact List.Sublist.refl _ | exact List.nil_sublist _ | apply List.Sublist.cons_cons | apply List.Sublist.cons)); done), ?_⟩
        refine WA.done (by kernel_rfl) ?_
        refine WE.blk _ ?_
        refine WE.nxt ?_
        refine W.region _ ?_
        refine WG.y rfl rfl (by decide) (Yl.add rfl rfl rfl (fun _ => rfl) (by intro _; constructor <;> (try dsimp only) <;> omega)) ?_
        refine WG.run tab_ok 1 rfl ?_
        refine WG.nil ?_
        refine WE.againP (k + 1, rows.set k ⟨some ⟨a48, 0, none⟩, ticks + 1, [0]⟩) ⟨by simp [h1], by omega, fill_step (p := fun r : Sl => r.a.isSome = true ∧ r.xs = [0]) (by omega) h3 ⟨rfl, rfl⟩⟩ (by dsimp only; omega) ⟨rfl, rfl, rfl, rfl, rfl, rfl, rfl, rfl, rfl, rfl⟩ (RLe.refl _) ⟨_, perm_row, by dsimp only; rw [← take_set_map (by omega)]; exact List.Sublist.refl _⟩
      · try dsimp only at hc1
        have hk : k = classes := by omega
        subst k
        rw [List.take_of_length_le (by omega)]
        have hra : ∀ r ∈ rows, r.a.isSome = true := all_of_nth (fun j hj => (h3 j (by omega)).1)
        have hrx : rows.map Sl.xs = (M.start ps classes sg).sent := List.eq_replicate_iff.2 ⟨by simp [h1], fun x hx => by
          obtain ⟨r, hr, rfl⟩ := List.mem_map.1 hx
          exact all_of_nth (p := fun r => r.xs = [0]) (fun j hj => (h3 j (by omega)).2) r hr⟩
        refine W.exit ?_
        refine WE.then_exit ?_
        refine WE.then_exit ?_
        refine WE.blk_exit ?_
        refine WE.nxt ?_
        refine W.seq ?_
        refine W.region _ ?_
        refine WG.run tab_ok 3 rfl ?_
        refine WL.ef rfl rfl (by decide) (Ef.makeSliceD (enc := encB) false tab_ok rfl rfl rfl rfl rfl rfl (by (try dsimp only) <;> omega) (by (try dsimp only) <;> omega) (by (try dsimp only) <;> omega) (by (try dsimp only) <;> omega) (by decide) rfl rfl (fun a54 => ?_))
        -- build
        refine WG.y rfl rfl (by decide) (Yl.build (parts := [(2, .tmp 51), (3, .tmp 54)]) tab_ok rfl rfl rfl rfl (fun _ => rfl) rfl rfl) ?_
        refine WL.ef rfl rfl (by decide) (Ef.box rfl rfl (fun b56 => ?_))
        refine WG.run tab_ok 1 rfl ?_
        refine WG.nil ?_
        refine WE.nxt ?_
        refine W.seq ?_
        refine W.region _ ?_
        refine WG.run tab_ok 2 rfl ?_
        refine WG.nil ?_
        refine WE.nxt ?_
        refine W.seq ?_
        refine W.seq ?_
        refine W.region _ ?_
        refine WG.run tab_ok 2 rfl ?_
        refine WG.nil ?_
        refine WE.nxt ?_
        refine W.block ?_
        refine W.loop (β := Nat × M.RS σ × List Sl) (fun (t, s, rows) => t ≤ ticks ∧ ticksFrom ps ch cap t (ticks - t) s = mrun ps ch cap classes ticks sg ∧ Inv ps classes good (t + 1) (t * cap) s ∧ rows.map Sl.xs = s.sent ∧ ∀ r ∈ rows, r.a.isSome = true) (fun (t, s, rows) => [(0, true, .int .i64 cap), (1, true, .int .i64 classes), (2, true, .slice pa ps.length pc), (3, true, .int .i64 ticks), (4, true, .func (.func g) first capd), (10, true, .pointer (some ⟨b10, 0, none⟩)), (11, true, .pointer (some ⟨b11, 0, none⟩)), (14, true, .pointer (some ⟨b56, 0, none⟩)), (15, true, .int .i64 s.cur), (16, true, .int .i64 s.rest), (57, true, .int .i64 ticks), (58, true, .int .i64 (t : Int))]) (fun _ => R) (fun (t, s, rows) => stE b56 pa ps.length pc a54 s.ms :: .sl 4 1 (some ⟨a54, 0, none⟩) ps.length (s.ms.begun.map encB) :: .blk b11 [.slice (some ⟨gd, 0, none⟩) ps.length ps.length, .slice (some ⟨go, 0, none⟩) classes classes] :: .sl 3 1 (some ⟨gd, 0, none⟩) ps.length (s.done.map encI) :: .sl 23 1 (some ⟨go, 0, none⟩) classes (rows.map encS) :: .blk b10 [.slice none 0 0, .slice none 0 0] :: (rows.map (rowE 3) ++ (X s.sg ++ F))) (fun (t, s, rows) => ticks - t) ((0, M.start ps classes sg, rows)) (⟨Nat.zero_le _, rfl, by simpa using Inv.start h0, hrx, hra⟩) ⟨rfl, rfl, rfl, rfl, rfl, rfl, rfl, rfl, rfl, rfl, rfl, rfl, rfl⟩ (RLe.refl _) (by (repeat (first | exact List.Sublist.refl _ | exact List.nil_sublist _ | apply List.Sublist.cons_cons | apply List.Sublist.cons)); done) ?_
        intro st hst
        obtain ⟨t, s, rows⟩ := st
        obtain ⟨h1, h2, h3, h4, h5⟩ := hst
        dsimp only at h1 h2 h3 h4 h5 ⊢
        refine W.seq ?_
        refine W.region _ ?_
        refine WG.run tab_ok 1 rfl ?_
        refine WG.nil ?_
        refine WE.nxt ?_
        refine W.seq ?_
        refine W.condD rfl (fun hc2 => ?_) (fun hc2 => ?_)
        · try dsimp only at hc2
          have hbig : ((t : Int) + 1) * cap ≤ 1000000 * 1000000 := Int.mul_le_mul (by omega) hcap.2 (by omega) (by omega)
          refine W.skip ?_
          refine WE.nxt ?_
          refine W.seq ?_
          refine W.block ?_
          refine W.seq ?_
          refine W.region _ ?_
          refine WG.run tab_ok 2 rfl ?_
          refine WG.nil ?_
          refine WE.nxt ?_
          refine W.seq ?_
          refine W.region _ ?_
          refine WG.run tab_ok 6 rfl ?_
          first | refine WL.efN rfl rfl (Ef.store 0 tab_ok rfl rfl rfl rfl rfl rfl rfl rfl ?_) | refine WL.efN rfl rfl (Ef.store 1 tab_ok rfl rfl rfl rfl rfl rfl rfl rfl ?_) | refine WL.efN rfl rfl (Ef.store 2 tab_ok rfl rfl rfl rfl rfl rfl rfl rfl ?_) | refine WL.efN rfl rfl (Ef.store 3 tab_ok rfl rfl rfl rfl rfl rfl rfl rfl ?_) | refine WL.efN rfl rfl (Ef.store 4 tab_ok rfl rfl rfl rfl rfl rfl rfl rfl ?_) | refine WL.efN rfl rfl (Ef.store 5 tab_ok rfl rfl rfl rfl rfl rfl rfl rfl ?_) | refine WL.efN rfl rfl (Ef.store 6 tab_ok rfl rfl rfl rfl rfl rfl rfl rfl ?_) | refine WL.efN rfl rfl (Ef.store 7 tab_ok rfl rfl rfl rfl rfl rfl rfl rfl ?_) | refine WL.efN rfl rfl (Ef.store 8 tab_ok rfl rfl rfl rfl rfl rfl rfl rfl ?_)
          refine WG.run tab_ok 2 rfl ?_
          first | refine WL.efN rfl rfl (Ef.store 0 tab_ok rfl rfl rfl rfl rfl rfl rfl rfl ?_) | refine WL.efN rfl rfl (Ef.store 1 tab_ok rfl rfl rfl rfl rfl rfl rfl rfl ?_) | refine WL.efN rfl rfl (Ef.store 2 tab_ok rfl rfl rfl rfl rfl rfl rfl rfl ?_) | refine WL.efN rfl rfl (Ef.store 3 tab_ok rfl rfl rfl rfl rfl rfl rfl rfl ?_) | refine WL.efN rfl rfl (Ef.store 4 tab_ok rfl rfl rfl rfl rfl rfl rfl rfl ?_) | refine WL.efN rfl rfl (Ef.store 5 tab_ok rfl rfl rfl rfl rfl rfl rfl rfl ?_) | refine WL.efN rfl rfl (Ef.store 6 tab_ok rfl rfl rfl rfl rfl rfl rfl rfl ?_) | refine WL.efN rfl rfl (Ef.store 7 tab_ok rfl rfl rfl rfl rfl rfl rfl rfl ?_) | refine WL.efN rfl rfl (Ef.store 8 tab_ok rfl rfl rfl rfl rfl rfl rfl rfl ?_)
          refine WG.nil ?_
          refine WE.nxt ?_
          refine W.seq ?_
          refine W.seq ?_
          refine W.region _ ?_
          refine WG.run tab_ok 1 rfl ?_
          refine' WG.y rfl rfl (by decide) (Yl.load1 tab_ok rfl rfl rfl (fun _ => rfl) ?r5 rfl ?h5) ?_
          case r5 => apply Rd.add; (first | exact Rd.blk 0 rfl | exact Rd.blk 1 rfl | exact Rd.blk 2 rfl | exact Rd.blk 3 rfl | exact Rd.blk 4 rfl | exact Rd.blk 5 rfl | exact Rd.blk 6 rfl | exact Rd.blk 7 rfl | exact Rd.blk 8 rfl)
          case h5 => rfl
          refine WG.run tab_ok 2 rfl ?_
          refine WG.nil ?_
          refine WE.nxt ?_
          refine W.block ?_
          refine W.loop (β := Nat × List Sl) (fun (c, rws) => c ≤ classes ∧ rws.map Sl.xs = (s.sent.take c).map (fun l => l ++ [nth l t]) ++ s.sent.drop c ∧ ∀ r ∈ rws, r.a.isSome = true) (fun (c, rws) => [(0, true, .int .i64 cap), (1, true, .int .i64 classes), (2, true, .slice pa ps.length pc), (3, true, .int .i64 ticks), (4, true, .func (.func g) first capd), (10, true, .pointer (some ⟨b10, 0, none⟩)), (11, true, .pointer (some ⟨b11, 0, none⟩)), (14, true, .pointer (some ⟨b56, 0, none⟩)), (15, true, .int .i64 s.cur), (16, true, .int .i64 s.rest), (57, true, .int .i64 ticks), (58, true, .int .i64 (t : Int)), (17, true, .int .i64 (t : Int)), (71, true, .int .i64 classes), (72, true, .int .i64 (c : Int))]) (fun _ => R) (fun (c, rws) => stE b56 pa ps.length pc a54 { s.ms with now := (t : Int), left := cap } :: .sl 4 1 (some ⟨a54, 0, none⟩) ps.length (s.ms.begun.map encB) :: .blk b11 [.slice (some ⟨gd, 0, none⟩) ps.length ps.length, .slice (some ⟨go, 0, none⟩) classes classes] :: .sl 3 1 (some ⟨gd, 0, none⟩) ps.length (s.done.map encI) :: .sl 23 1 (some ⟨go, 0, none⟩) classes (rws.map encS) :: .blk b10 [.slice none 0 0, .slice none 0 0] :: (rws.map (rowE 3) ++ (X s.sg ++ F))) (fun (c, rws) => classes - c) ((0, rows)) (⟨Nat.zero_le _, by simpa using h4, h5⟩) ⟨rfl, rfl, rfl, rfl, rfl, rfl, rfl, rfl, rfl, rfl, rfl, rfl, rfl, rfl, rfl, rfl⟩ (RLe.refl _) (by (repeat (first | exact List.Sublist.refl _ | exact List.nil_sublist _ | apply List.Sublist.cons_cons | apply List.Sublist.cons)); done) ?_
          intro st hst
          obtain ⟨c, rws⟩ := st
          obtain ⟨g1, g2, g3⟩ := hst
          dsimp only at g1 g2 g3 ⊢
          have hsl := h3.sent
          have hlen : rws.length = classes := by
            have := congrArg List.length g2
            simp only [List.length_map, List.length_append, List.length_take, List.length_drop] at this
            omega
          refine W.seq ?_
          refine W.region _ ?_
          refine WG.run tab_ok 1 rfl ?_
          refine WG.nil ?_
          refine WE.nxt ?_
          refine W.seq ?_
          refine W.condD rfl (fun hc3 => ?_) (fun hc3 => ?_)
          · try dsimp only at hc3
            have hxs : (nth rws c).xs = nth s.sent c := by rw [nth_map_xs g2 (by omega), ext_nth (by omega)]
            have hsome : (nth rws c).a.isSome = true := g3 _ (nth_mem (by omega))
            have hxl : (nth rws c).xs.length = t + 1 := by rw [hxs]; exact (h3.row (by omega)).1
            have hrow := rows_get (e := 3) (G := X s.sg ++ F) (rows := rws) (c := c) (by omega)
            refine W.skip ?_
            refine WE.nxt ?_
            refine W.seq ?_
            refine W.block ?_
            refine W.seq ?_
            refine W.region _ ?_
            refine WG.run tab_ok 2 rfl ?_
            refine WG.nil ?_
            refine WE.nxt ?_
            refine W.regionH _ (ES := [.blk b11 [.slice (some ⟨gd, 0, none⟩) ps.length ps.length, .slice (some ⟨go, 0, none⟩) classes classes]]) mixed ?_
            refine WA.take 0 rfl (by kernel_rfl) (by kernel_rfl) (by kernel_rfl) rfl rfl (by decide) (pureV_ok tab_ok rfl (fun _ => rfl)) (by (repeat (first | exact List.Sublist.refl _ | exact List.nil_sublist _ | apply List.Sublist.cons_cons | apply List.Sublist.cons)); done) (by first | exact RLe.refl _ | assumption) ?_
            refine' WA.take 1 rfl (by kernel_rfl) (by kernel_rfl) (by kernel_rfl) rfl rfl (by decide) (Yl.load1 tab_ok rfl rfl rfl (fun _ => rfl) ?r6 rfl ?h6) (by (repeat (first | exact List.Sublist.refl _ | exact List.nil_sublist _ | apply List.Sublist.cons_cons | apply List.Sublist.cons)); done) (by first | exact RLe.refl _ | assumption) ?_
            case r6 => apply Rd.add; (first | exact Rd.blk 0 rfl | exact Rd.blk 1 rfl | exact Rd.blk 2 rfl | exact Rd.blk 3 rfl | exact Rd.blk 4 rfl | exact Rd.blk 5 rfl | exact Rd.blk 6 rfl | exact Rd.blk 7 rfl | exact Rd.blk 8 rfl)
            case h6 => rfl
            refine WA.take 2 rfl (by kernel_rfl) (by kernel_rfl) (by kernel_rfl) rfl rfl (by decide) (pureV_ok tab_ok rfl (fun _ => rfl)) (by (repeat (first | exact List.Sublist.refl _ | exact List.nil_sublist _ | apply List.Sublist.cons_cons | apply List.Sublist.cons)); done) (by first | exact RLe.refl _ | assumption) ?_
            refine WA.take 3 rfl (by kernel_rfl) (by kernel_rfl) (by kernel_rfl) rfl rfl (by decide) (pureV_ok tab_ok rfl (fun _ => rfl)) (by (repeat (first | exact List.Sublist.refl _ | exact List.nil_sublist _ | apply List.Sublist.cons_cons | apply List.Sublist.cons)); done) (by first | exact RLe.refl _ | assumption) ?_
            refine' WA.take 4 rfl (by kernel_rfl) (by kernel_rfl) (by kernel_rfl) rfl rfl (by decide) (Yl.load1 tab_ok rfl rfl rfl (fun _ => rfl) ?r7 rfl ?h7) (by (repeat (first | exact List.Sublist.refl _ | exact List.nil_sublist _ | apply List.Sublist.cons_cons | apply List.Sublist.cons)); done) (by first | exact RLe.refl _ | assumption) ?_
            case r7 => apply Rd.add; (first | exact Rd.blk 0 rfl | exact Rd.blk 1 rfl | exact Rd.blk 2 rfl | exact Rd.blk 3 rfl | exact Rd.blk 4 rfl | exact Rd.blk 5 rfl | exact Rd.blk 6 rfl | exact Rd.blk 7 rfl | exact Rd.blk 8 rfl)
            case h7 => rfl
            refine WA.take 5 rfl (by kernel_rfl) (by kernel_rfl) (by kernel_rfl) rfl rfl (by decide) (pureV_ok tab_ok rfl (fun _ => rfl)) (by (repeat (first | exact List.Sublist.refl _ | exact List.nil_sublist _ | apply List.Sublist.cons_cons | apply List.Sublist.cons)); done) (by first | exact RLe.refl _ | assumption) ?_
            refine WA.take 6 rfl (by kernel_rfl) (by kernel_rfl) (by kernel_rfl) rfl rfl (by decide) (Yl.indexN tab_ok rfl rfl rfl rfl rfl rfl (fun _ => rfl) (by intro _; (try dsimp only) <;> omega) (by intro _; first | exact fun _ _ _ _ => rfl | exact RS.has (by assumption) | exact fun _ _ _ _ => (by assumption) | exact HasMem.ownD 0 rfl | exact HasMem.ownD 1 rfl | exact HasMem.ownD 2 rfl | exact HasMem.ownD 3 rfl | exact HasMem.ownD 4 rfl | exact HasMem.ownD 5 rfl | exact HasMem.ownD 6 rfl | exact HasMem.ownD 7 rfl | exact HasMem.ownD 8 rfl)) (by (repeat (first | exact List.Sublist.refl _ | exact List.nil_sublist _ | apply List.Sublist.cons_cons | apply List.Sublist.cons)); done) (by first | exact RLe.refl _ | assumption) ?_
            refine WA.take 8 rfl (by kernel_rfl) (by kernel_rfl) (by kernel_rfl) rfl rfl (by decide) (pureV_ok tab_ok rfl (fun _ => rfl)) (by (repeat (first | exact List.Sublist.refl _ | exact List.nil_sublist _ | apply List.Sublist.cons_cons | apply List.Sublist.cons)); done) (by first | exact RLe.refl _ | assumption) ?_
            refine' WA.take 9 rfl (by kernel_rfl) (by kernel_rfl) (by kernel_rfl) rfl rfl (by decide) (Yl.load1 tab_ok rfl rfl rfl (fun _ => rfl) ?r8 rfl ?h8) (by (repeat (first | exact List.Sublist.refl _ | exact List.nil_sublist _ | apply List.Sublist.cons_cons | apply List.Sublist.cons)); done) (by first | exact RLe.refl _ | assumption) ?_
            case r8 => apply Rd.add; (first | exact Rd.blk 0 rfl | exact Rd.blk 1 rfl | exact Rd.blk 2 rfl | exact Rd.blk 3 rfl | exact Rd.blk 4 rfl | exact Rd.blk 5 rfl | exact Rd.blk 6 rfl | exact Rd.blk 7 rfl | exact Rd.blk 8 rfl)
            case h8 => rfl
            refine WA.take 10 rfl (by kernel_rfl) (by kernel_rfl) (by kernel_rfl) rfl rfl (by decide) (pureV_ok tab_ok rfl (fun _ => rfl)) (by (repeat (first | exact List.Sublist.refl _ | exact List.nil_sublist _ | apply List.Sublist.cons_cons | apply List.Sublist.cons)); done) (by first | exact RLe.refl _ | assumption) ?_
            refine WA.take 11 rfl (by kernel_rfl) (by kernel_rfl) (by kernel_rfl) rfl rfl (by decide) (Yl.indexN tab_ok rfl rfl rfl rfl rfl rfl (fun _ => rfl) (by intro _; (try dsimp only) <;> omega) (by intro _; first | exact fun _ _ _ _ => rfl | exact RS.has (by assumption) | exact fun _ _ _ _ => (by assumption) | exact HasMem.ownD 0 rfl | exact HasMem.ownD 1 rfl | exact HasMem.ownD 2 rfl | exact HasMem.ownD 3 rfl | exact HasMem.ownD 4 rfl | exact HasMem.ownD 5 rfl | exact HasMem.ownD 6 rfl | exact HasMem.ownD 7 rfl | exact HasMem.ownD 8 rfl)) (by (repeat (first | exact List.Sublist.refl _ | exact List.nil_sublist _ | apply List.Sublist.cons_cons | apply List.Sublist.cons)); done) (by first | exact RLe.refl _ | assumption) ?_
            refine WA.take 13 rfl (by kernel_rfl) (by kernel_rfl) (by kernel_rfl) rfl rfl (by decide) (pureV_ok tab_ok rfl (fun _ => rfl)) (by (repeat (first | exact List.Sublist.refl _ | exact List.nil_sublist _ | apply List.Sublist.cons_cons | apply List.Sublist.cons)); done) (by first | exact RLe.refl _ | assumption) ?_
            refine WA.br2 (i := 7) (j := 12) (by kernel_rfl) ?_ ?_
            ·
              refine' WS.yl rfl rfl rfl (by decide) (Yl.load1 tab_ok rfl rfl rfl (fun _ => rfl) ?r9 rfl ?h9) (by (repeat (first | exact List.Sublist.refl _ | exact List.nil_sublist _ | apply List.Sublist.cons_cons | apply List.Sublist.cons)); done) (RLe.refl _) ?_
              case r9 => (first | (apply RS.rdD; assumption; ((try dsimp only) <;> omega)) | exact Rd.slD 0 rfl (by (try dsimp only) <;> omega) | exact Rd.slD 1 rfl (by (try dsimp only) <;> omega) | exact Rd.slD 2 rfl (by (try dsimp only) <;> omega) | exact Rd.slD 3 rfl (by (try dsimp only) <;> omega) | exact Rd.slD 4 rfl (by (try dsimp only) <;> omega) | exact Rd.slD 5 rfl (by (try dsimp only) <;> omega) | exact Rd.slD 6 rfl (by (try dsimp only) <;> omega) | exact Rd.slD 7 rfl (by (try dsimp only) <;> omega) | exact Rd.slD 8 rfl (by (try dsimp only) <;> omega))
              case h9 => rfl
              refine' WA.yl 12 rfl (by kernel_rfl) rfl rfl (by decide) (Yl.load1 tab_ok rfl rfl rfl (fun _ => rfl) ?r10 rfl ?h10) (by (repeat (first | exact List.Sublist.refl _ | exact List.nil_sublist _ | apply List.Sublist.cons_cons | apply List.Sublist.cons)); done) (RLe.refl _) ?_
              case r10 => (first | (apply RS.rdD; assumption; ((try dsimp only) <;> omega)) | exact Rd.slD 0 rfl (by (try dsimp only) <;> omega) | exact Rd.slD 1 rfl (by (try dsimp only) <;> omega) | exact Rd.slD 2 rfl (by (try dsimp only) <;> omega) | exact Rd.slD 3 rfl (by (try dsimp only) <;> omega) | exact Rd.slD 4 rfl (by (try dsimp only) <;> omega) | exact Rd.slD 5 rfl (by (try dsimp only) <;> omega) | exact Rd.slD 6 rfl (by (try dsimp only) <;> omega) | exact Rd.slD 7 rfl (by (try dsimp only) <;> omega) | exact Rd.slD 8 rfl (by (try dsimp only) <;> omega))
              case h10 => rfl
              refine WA.take 14 rfl (by kernel_rfl) (by kernel_rfl) (by kernel_rfl) rfl rfl (by decide) (Yl.indexN tab_ok rfl rfl rfl rfl rfl rfl (fun _ => rfl) (by intro _; (try dsimp only) <;> omega) (by intro _; first | exact fun _ _ _ _ => rfl | exact RS.has (by assumption) | exact fun _ _ _ _ => (by assumption) | exact HasMem.ownD 0 rfl | exact HasMem.ownD 1 rfl | exact HasMem.ownD 2 rfl | exact HasMem.ownD 3 rfl | exact HasMem.ownD 4 rfl | exact HasMem.ownD 5 rfl | exact HasMem.ownD 6 rfl | exact HasMem.ownD 7 rfl | exact HasMem.ownD 8 rfl)) (by (repeat (first | exact List.Sublist.refl _ | exact List.nil_sublist _ | apply List.Sublist.cons_cons | apply List.Sublist.cons)); done) (by first | exact RLe.refl _ | assumption) ?_
              refine' WA.yl 15 rfl (by kernel_rfl) rfl rfl (by decide) (Yl.load1 tab_ok rfl rfl rfl (fun _ => rfl) ?r11 rfl ?h11) (by (repeat (first | exact List.Sublist.refl _ | exact List.nil_sublist _ | apply List.Sublist.cons_cons | apply List.Sublist.cons)); done) (RLe.refl _) ?_
              case r11 => exact Rd.slD (c + 6) hrow (by omega)
              case h11 => rfl
              refine WA.eff 16 rfl (by kernel_rfl) rfl rfl (by decide) (Ef.buildSliceD (enc := encI) (parts := [.tmp 90]) [_] tab_ok rfl rfl rfl rfl rfl rfl rfl rfl (by decide) (by decide) (fun a91 => ?_))
              refine ⟨by first | exact RLe.refl _ | assumption, (by (repeat (first | exact List.Sublist.refl _ | exact List.nil_sublist _ | apply List.Sublist.cons_cons | apply List.Sublist.cons)); done), ?_⟩
              refine WA.eff 17 rfl (by kernel_rfl) rfl rfl (by decide) (Ef.appendD (c + 7) 0 tab_ok rfl rfl rfl rfl rfl rfl hrow rfl rfl rfl rfl (fun _ _ => rfl) (by simp only [List.length_cons, List.length_nil]; omega) (by simp only [List.length_cons, List.length_nil]; omega) (fun a92 c92 ha92 => ?_))
              refine ⟨by first | exact RLe.refl _ | assumption, (by (repeat (first | exact List.Sublist.refl _ | exact List.nil_sublist _ | apply List.Sublist.cons_cons | apply List.Sublist.cons)); done), ?_⟩
              refine WA.take 18 rfl (by kernel_rfl) (by kernel_rfl) (by kernel_rfl) rfl rfl (by decide) (Yl.indexN tab_ok rfl rfl rfl rfl rfl rfl (fun _ => rfl) (by intro _; (try dsimp only) <;> omega) (by intro _; first | exact fun _ _ _ _ => rfl | exact RS.has (by assumption) | exact fun _ _ _ _ => (by assumption) | exact HasMem.ownD 0 rfl | exact HasMem.ownD 1 rfl | exact HasMem.ownD 2 rfl | exact HasMem.ownD 3 rfl | exact HasMem.ownD 4 rfl | exact HasMem.ownD 5 rfl | exact HasMem.ownD 6 rfl | exact HasMem.ownD 7 rfl | exact HasMem.ownD 8 rfl)) (by (repeat (first | exact List.Sublist.refl _ | exact List.nil_sublist _ | apply List.Sublist.cons_cons | apply List.Sublist.cons)); done) (by first | exact RLe.refl _ | assumption) ?_
              refine WA.effN 19 rfl (by kernel_rfl) rfl rfl (Ef.storeD (⟨a92, c92, (nth rws c).xs ++ [nth (nth rws c).xs t]⟩ : Sl) 5 tab_ok rfl rfl rfl rfl rfl (by omega) rfl rfl rfl rfl ?_)
              refine ⟨by first | exact RLe.refl _ | assumption, (by (repeat (first | exact List.Sublist.refl _ | exact List.nil_sublist _ | apply List.Sublist.cons_cons | apply List.Sublist.cons)); done), ?_⟩
              refine WA.done (by kernel_rfl) ?_
              refine WE.blk _ ?_
              refine WE.nxt ?_
              refine W.region _ ?_
              refine WG.y rfl rfl (by decide) (Yl.add rfl rfl rfl (fun _ => rfl) (by intro _; constructor <;> (try dsimp only) <;> omega)) ?_
              refine WG.run tab_ok 1 rfl ?_
              refine WG.nil ?_
              refine WE.again (c + 1, rws.set c ⟨a92, c92, (nth rws c).xs ++ [nth (nth rws c).xs t]⟩) ⟨by dsimp only; omega, by dsimp only; rw [List.map_set, g2]; dsimp only; rw [hxs]; exact ext_step (by omega), all_set g3 (ha92 (by simp))⟩ (by dsimp only; omega) ⟨rfl, rfl, rfl, rfl, rfl, rfl, rfl, rfl, rfl, rfl, rfl, rfl, rfl, rfl, rfl, rfl⟩ (RLe.refl _) (by dsimp only; rw [← rows_set (by omega)]; exact List.Sublist.cons _ (List.Sublist.refl _))
            ·
              refine' WS.yl rfl rfl rfl (by decide) (Yl.load1 tab_ok rfl rfl rfl (fun _ => rfl) ?r12 rfl ?h12) (by (repeat (first | exact List.Sublist.refl _ | exact List.nil_sublist _ | apply List.Sublist.cons_cons | apply List.Sublist.cons)); done) (RLe.refl _) ?_
              case r12 => (first | (apply RS.rdD; assumption; ((try dsimp only) <;> omega)) | exact Rd.slD 0 rfl (by (try dsimp only) <;> omega) | exact Rd.slD 1 rfl (by (try dsimp only) <;> omega) | exact Rd.slD 2 rfl (by (try dsimp only) <;> omega) | exact Rd.slD 3 rfl (by (try dsimp only) <;> omega) | exact Rd.slD 4 rfl (by (try dsimp only) <;> omega) | exact Rd.slD 5 rfl (by (try dsimp only) <;> omega) | exact Rd.slD 6 rfl (by (try dsimp only) <;> omega) | exact Rd.slD 7 rfl (by (try dsimp only) <;> omega) | exact Rd.slD 8 rfl (by (try dsimp only) <;> omega))
              case h12 => rfl
              refine WA.take 14 rfl (by kernel_rfl) (by kernel_rfl) (by kernel_rfl) rfl rfl (by decide) (Yl.indexN tab_ok rfl rfl rfl rfl rfl rfl (fun _ => rfl) (by intro _; (try dsimp only) <;> omega) (by intro _; first | exact fun _ _ _ _ => rfl | exact RS.has (by assumption) | exact fun _ _ _ _ => (by assumption) | exact HasMem.ownD 0 rfl | exact HasMem.ownD 1 rfl | exact HasMem.ownD 2 rfl | exact HasMem.ownD 3 rfl | exact HasMem.ownD 4 rfl | exact HasMem.ownD 5 rfl | exact HasMem.ownD 6 rfl | exact HasMem.ownD 7 rfl | exact HasMem.ownD 8 rfl)) (by (repeat (first | exact List.Sublist.refl _ | exact List.nil_sublist _ | apply List.Sublist.cons_cons | apply List.Sublist.cons)); done) (by first | exact RLe.refl _ | assumption) ?_
              refine WA.br2 (i := 7) (j := 15) (by kernel_rfl) ?_ ?_
              ·
                refine' WS.yl rfl rfl rfl (by decide) (Yl.load1 tab_ok rfl rfl rfl (fun _ => rfl) ?r13 rfl ?h13) (by (repeat (first | exact List.Sublist.refl _ | exact List.nil_sublist _ | apply List.Sublist.cons_cons | apply List.Sublist.cons)); done) (RLe.refl _) ?_
                case r13 => (first | (apply RS.rdD; assumption; ((try dsimp only) <;> omega)) | exact Rd.slD 0 rfl (by (try dsimp only) <;> omega) | exact Rd.slD 1 rfl (by (try dsimp only) <;> omega) | exact Rd.slD 2 rfl (by (try dsimp only) <;> omega) | exact Rd.slD 3 rfl (by (try dsimp only) <;> omega) | exact Rd.slD 4 rfl (by (try dsimp only) <;> omega) | exact Rd.slD 5 rfl (by (try dsimp only) <;> omega) | exact Rd.slD 6 rfl (by (try dsimp only) <;> omega) | exact Rd.slD 7 rfl (by (try dsimp only) <;> omega) | exact Rd.slD 8 rfl (by (try dsimp only) <;> omega))
                case h13 => rfl
                refine' WA.yl 15 rfl (by kernel_rfl) rfl rfl (by decide) (Yl.load1 tab_ok rfl rfl rfl (fun _ => rfl) ?r14 rfl ?h14) (by (repeat (first | exact List.Sublist.refl _ | exact List.nil_sublist _ | apply List.Sublist.cons_cons | apply List.Sublist.cons)); done) (RLe.refl _) ?_
                case r14 => exact Rd.slD (c + 6) hrow (by omega)
                case h14 => rfl
                refine WA.eff 16 rfl (by kernel_rfl) rfl rfl (by decide) (Ef.buildSliceD (enc := encI) (parts := [.tmp 90]) [_] tab_ok rfl rfl rfl rfl rfl rfl rfl rfl (by decide) (by decide) (fun a91 => ?_))
                refine ⟨by first | exact RLe.refl _ | assumption, (by (repeat (first | exact List.Sublist.refl _ | exact List.nil_sublist _ | apply List.Sublist.cons_cons | apply List.Sublist.cons)); done), ?_⟩
                refine WA.eff 17 rfl (by kernel_rfl) rfl rfl (by decide) (Ef.appendD (c + 7) 0 tab_ok rfl rfl rfl rfl rfl rfl hrow rfl rfl rfl rfl (fun _ _ => rfl) (by simp only [List.length_cons, List.length_nil]; omega) (by simp only [List.length_cons, List.length_nil]; omega) (fun a92 c92 ha92 => ?_))
                refine ⟨by first | exact RLe.refl _ | assumption, (by (repeat (first | exact List.Sublist.refl _ | exact List.nil_sublist _ | apply List.Sublist.cons_cons | apply List.Sublist.cons)); done), ?_⟩
                refine WA.take 18 rfl (by kernel_rfl) (by kernel_rfl) (by kernel_rfl) rfl rfl (by decide) (Yl.indexN tab_ok rfl rfl rfl rfl rfl rfl (fun _ => rfl) (by intro _; (try dsimp only) <;> omega) (by intro _; first | exact fun _ _ _ _ => rfl | exact RS.has (by assumption) | exact fun _ _ _ _ => (by assumption) | exact HasMem.ownD 0 rfl | exact HasMem.ownD 1 rfl | exact HasMem.ownD 2 rfl | exact HasMem.ownD 3 rfl | exact HasMem.ownD 4 rfl | exact HasMem.ownD 5 rfl | exact HasMem.ownD 6 rfl | exact HasMem.ownD 7 rfl | exact HasMem.ownD 8 rfl)) (by (repeat (first | exact List.Sublist.refl _ | exact List.nil_sublist _ | apply List.Sublist.cons_cons | apply List.Sublist.cons)); done) (by first | exact RLe.refl _ | assumption) ?_
                refine WA.effN 19 rfl (by kernel_rfl) rfl rfl (Ef.storeD (⟨a92, c92, (nth rws c).xs ++ [nth (nth rws c).xs t]⟩ : Sl) 5 tab_ok rfl rfl rfl rfl rfl (by omega) rfl rfl rfl rfl ?_)
                refine ⟨by first | exact RLe.refl _ | assumption, (by (repeat (first | exact List.Sublist.refl _ | exact List.nil_sublist _ | apply List.Sublist.cons_cons | apply List.Sublist.cons)); done), ?_⟩
                refine WA.done (by kernel_rfl) ?_
                refine WE.blk _ ?_
                refine WE.nxt ?_
                refine W.region _ ?_
                refine WG.y rfl rfl (by decide) (Yl.add rfl rfl rfl (fun _ => rfl) (by intro _; constructor <;> (try dsimp only) <;> omega)) ?_
                refine WG.run tab_ok 1 rfl ?_
                refine WG.nil ?_
                refine WE.again (c + 1, rws.set c ⟨a92, c92, (nth rws c).xs ++ [nth (nth rws c).xs t]⟩) ⟨by dsimp only; omega, by dsimp only; rw [List.map_set, g2]; dsimp only; rw [hxs]; exact ext_step (by omega), all_set g3 (ha92 (by simp))⟩ (by dsimp only; omega) ⟨rfl, rfl, rfl, rfl, rfl, rfl, rfl, rfl, rfl, rfl, rfl, rfl, rfl, rfl, rfl, rfl⟩ (RLe.refl _) (by dsimp only; rw [← rows_set (by omega)]; exact List.Sublist.cons _ (List.Sublist.refl _))
              ·
                refine' WS.yl rfl rfl rfl (by decide) (Yl.load1 tab_ok rfl rfl rfl (fun _ => rfl) ?r15 rfl ?h15) (by (repeat (first | exact List.Sublist.refl _ | exact List.nil_sublist _ | apply List.Sublist.cons_cons | apply List.Sublist.cons)); done) (RLe.refl _) ?_
                case r15 => exact Rd.slD (c + 6) hrow (by omega)
                case h15 => rfl
                refine WA.br2 (i := 7) (j := 16) (by kernel_rfl) ?_ ?_
                ·
                  refine' WS.yl rfl rfl rfl (by decide) (Yl.load1 tab_ok rfl rfl rfl (fun _ => rfl) ?r16 rfl ?h16) (by (repeat (first | exact List.Sublist.refl _ | exact List.nil_sublist _ | apply List.Sublist.cons_cons | apply List.Sublist.cons)); done) (RLe.refl _) ?_
                  case r16 => (first | (apply RS.rdD; assumption; ((try dsimp only) <;> omega)) | exact Rd.slD 0 rfl (by (try dsimp only) <;> omega) | exact Rd.slD 1 rfl (by (try dsimp only) <;> omega) | exact Rd.slD 2 rfl (by (try dsimp only) <;> omega) | exact Rd.slD 3 rfl (by (try dsimp only) <;> omega) | exact Rd.slD 4 rfl (by (try dsimp only) <;> omega) | exact Rd.slD 5 rfl (by (try dsimp only) <;> omega) | exact Rd.slD 6 rfl (by (try dsimp only) <;> omega) | exact Rd.slD 7 rfl (by (try dsimp only) <;> omega) | exact Rd.slD 8 rfl (by (try dsimp only) <;> omega))
                  case h16 => rfl
                  refine WA.eff 16 rfl (by kernel_rfl) rfl rfl (by decide) (Ef.buildSliceD (enc := encI) (parts := [.tmp 90]) [_] tab_ok rfl rfl rfl rfl rfl rfl rfl rfl (by decide) (by decide) (fun a91 => ?_))
                  refine ⟨by first | exact RLe.refl _ | assumption, (by (repeat (first | exact List.Sublist.refl _ | exact List.nil_sublist _ | apply List.Sublist.cons_cons | apply List.Sublist.cons)); done), ?_⟩
                  refine WA.eff 17 rfl (by kernel_rfl) rfl rfl (by decide) (Ef.appendD (c + 7) 0 tab_ok rfl rfl rfl rfl rfl rfl hrow rfl rfl rfl rfl (fun _ _ => rfl) (by simp only [List.length_cons, List.length_nil]; omega) (by simp only [List.length_cons, List.length_nil]; omega) (fun a92 c92 ha92 => ?_))
                  refine ⟨by first | exact RLe.refl _ | assumption, (by (repeat (first | exact List.Sublist.refl _ | exact List.nil_sublist _ | apply List.Sublist.cons_cons | apply List.Sublist.cons)); done), ?_⟩
                  refine WA.take 18 rfl (by kernel_rfl) (by kernel_rfl) (by kernel_rfl) rfl rfl (by decide) (Yl.indexN tab_ok rfl rfl rfl rfl rfl rfl (fun _ => rfl) (by intro _; (try dsimp only) <;> omega) (by intro _; first | exact fun _ _ _ _ => rfl | exact RS.has (by assumption) | exact fun _ _ _ _ => (by assumption) | exact HasMem.ownD 0 rfl | exact HasMem.ownD 1 rfl | exact HasMem.ownD 2 rfl | exact HasMem.ownD 3 rfl | exact HasMem.ownD 4 rfl | exact HasMem.ownD 5 rfl | exact HasMem.ownD 6 rfl | exact HasMem.ownD 7 rfl | exact HasMem.ownD 8 rfl)) (by (repeat (first | exact List.Sublist.refl _ | exact List.nil_sublist _ | apply List.Sublist.cons_cons | apply List.Sublist.cons)); done) (by first | exact RLe.refl _ | assumption) ?_
                  refine WA.effN 19 rfl (by kernel_rfl) rfl rfl (Ef.storeD (⟨a92, c92, (nth rws c).xs ++ [nth (nth rws c).xs t]⟩ : Sl) 5 tab_ok rfl rfl rfl rfl rfl (by omega) rfl rfl rfl rfl ?_)
                  refine ⟨by first | exact RLe.refl _ | assumption, (by (repeat (first | exact List.Sublist.refl _ | exact List.nil_sublist _ | apply List.Sublist.cons_cons | apply List.Sublist.cons)); done), ?_⟩
                  refine WA.done (by kernel_rfl) ?_
                  refine WE.blk _ ?_
                  refine WE.nxt ?_
                  refine W.region _ ?_
                  refine WG.y rfl rfl (by decide) (Yl.add rfl rfl rfl (fun _ => rfl) (by intro _; constructor <;> (try dsimp only) <;> omega)) ?_
                  refine WG.run tab_ok 1 rfl ?_
                  refine WG.nil ?_
                  refine WE.again (c + 1, rws.set c ⟨a92, c92, (nth rws c).xs ++ [nth (nth rws c).xs t]⟩) ⟨by dsimp only; omega, by dsimp only; rw [List.map_set, g2]; dsimp only; rw [hxs]; exact ext_step (by omega), all_set g3 (ha92 (by simp))⟩ (by dsimp only; omega) ⟨rfl, rfl, rfl, rfl, rfl, rfl, rfl, rfl, rfl, rfl, rfl, rfl, rfl, rfl, rfl, rfl⟩ (RLe.refl _) (by dsimp only; rw [← rows_set (by omega)]; exact List.Sublist.cons _ (List.Sublist.refl _))
                ·
                  refine WS.eff rfl rfl rfl (by decide) (Ef.buildSliceD (enc := encI) (parts := [.tmp 90]) [_] tab_ok rfl rfl rfl rfl rfl rfl rfl rfl (by decide) (by decide) (fun a91 => ?_))
                  refine ⟨RLe.refl _, (by (repeat (first | exact List.Sublist.refl _ | exact List.nil_sublist _ | apply List.Sublist.cons_cons | apply List.Sublist.cons)); done), ?_⟩
                  refine' WA.yl 7 rfl (by kernel_rfl) rfl rfl (by decide) (Yl.load1 tab_ok rfl rfl rfl (fun _ => rfl) ?r17 rfl ?h17) (by (repeat (first | exact List.Sublist.refl _ | exact List.nil_sublist _ | apply List.Sublist.cons_cons | apply List.Sublist.cons)); done) (RLe.refl _) ?_
                  case r17 => (first | (apply RS.rdD; assumption; ((try dsimp only) <;> omega)) | exact Rd.slD 0 rfl (by (try dsimp only) <;> omega) | exact Rd.slD 1 rfl (by (try dsimp only) <;> omega) | exact Rd.slD 2 rfl (by (try dsimp only) <;> omega) | exact Rd.slD 3 rfl (by (try dsimp only) <;> omega) | exact Rd.slD 4 rfl (by (try dsimp only) <;> omega) | exact Rd.slD 5 rfl (by (try dsimp only) <;> omega) | exact Rd.slD 6 rfl (by (try dsimp only) <;> omega) | exact Rd.slD 7 rfl (by (try dsimp only) <;> omega) | exact Rd.slD 8 rfl (by (try dsimp only) <;> omega))
                  case h17 => rfl
                  refine WA.eff 17 rfl (by kernel_rfl) rfl rfl (by decide) (Ef.appendD (c + 7) 0 tab_ok rfl rfl rfl rfl rfl rfl hrow rfl rfl rfl rfl (fun _ _ => rfl) (by simp only [List.length_cons, List.length_nil]; omega) (by simp only [List.length_cons, List.length_nil]; omega) (fun a92 c92 ha92 => ?_))
                  refine ⟨by first | exact RLe.refl _ | assumption, (by (repeat (first | exact List.Sublist.refl _ | exact List.nil_sublist _ | apply List.Sublist.cons_cons | apply List.Sublist.cons)); done), ?_⟩
                  refine WA.take 18 rfl (by kernel_rfl) (by kernel_rfl) (by kernel_rfl) rfl rfl (by decide) (Yl.indexN tab_ok rfl rfl rfl rfl rfl rfl (fun _ => rfl) (by intro _; (try dsimp only) <;> omega) (by intro _; first | exact fun _ _ _ _ => rfl | exact RS.has (by assumption) | exact fun _ _ _ _ => (by assumption) | exact HasMem.ownD 0 rfl | exact HasMem.ownD 1 rfl | exact HasMem.ownD 2 rfl | exact HasMem.ownD 3 rfl | exact HasMem.ownD 4 rfl | exact HasMem.ownD 5 rfl | exact HasMem.ownD 6 rfl | exact HasMem.ownD 7 rfl | exact HasMem.ownD 8 rfl)) (by (repeat (first | exact List.Sublist.refl _ | exact List.nil_sublist _ | apply List.Sublist.cons_cons | apply List.Sublist.cons)); done) (by first | exact RLe.refl _ | assumption) ?_
                  refine WA.effN 19 rfl (by kernel_rfl) rfl rfl (Ef.storeD (⟨a92, c92, (nth rws c).xs ++ [nth (nth rws c).xs t]⟩ : Sl) 5 tab_ok rfl rfl rfl rfl rfl (by omega) rfl rfl rfl rfl ?_)
                  refine ⟨by first | exact RLe.refl _ | assumption, (by (repeat (first | exact List.Sublist.refl _ | exact List.nil_sublist _ | apply List.Sublist.cons_cons | apply List.Sublist.cons)); done), ?_⟩
                  refine WA.done (by kernel_rfl) ?_
                  refine WE.blk _ ?_
                  refine WE.nxt ?_
                  refine W.region _ ?_
                  refine WG.y rfl rfl (by decide) (Yl.add rfl rfl rfl (fun _ => rfl) (by intro _; constructor <;> (try dsimp only) <;> omega)) ?_
                  refine WG.run tab_ok 1 rfl ?_
                  refine WG.nil ?_
                  refine WE.again (c + 1, rws.set c ⟨a92, c92, (nth rws c).xs ++ [nth (nth rws c).xs t]⟩) ⟨by dsimp only; omega, by dsimp only; rw [List.map_set, g2]; dsimp only; rw [hxs]; exact ext_step (by omega), all_set g3 (ha92 (by simp))⟩ (by dsimp only; omega) ⟨rfl, rfl, rfl, rfl, rfl, rfl, rfl, rfl, rfl, rfl, rfl, rfl, rfl, rfl, rfl, rfl⟩ (RLe.refl _) (by dsimp only; rw [← rows_set (by omega)]; exact List.Sublist.cons _ (List.Sublist.refl _))
          · try dsimp only at hc3
            have hc : c = classes := by omega
            subst c
            have hrx1 : rws.map Sl.xs = s.sent.map (fun l => l ++ [nth l t]) := by rw [g2, List.take_of_length_le (by omega), List.drop_eq_nil_of_le (by omega), List.append_nil]
            refine W.exit ?_
            refine WE.then_exit ?_
            refine WE.then_exit ?_
            refine WE.blk_exit ?_
            refine WE.nxt ?_
            refine W.block ?_
            refine W.loop (β := M.RS σ × List Sl) (fun (s1, rws) => (∃ k : Nat, inner ps ch t k s1 = tick ps ch cap t s ∧ s1.ms.left ≤ k) ∧ (∃ B, Inv ps classes good (t + 2) B s1 ∧ B + s1.ms.left ≤ (t + 1) * cap) ∧ 0 ≤ s1.ms.left ∧ s1.ms.left ≤ cap ∧ s1.ms.now = t ∧ rws.map Sl.xs = s1.sent ∧ ∀ r ∈ rws, r.a.isSome = true) (fun (s1, rws) => [(0, true, .int .i64 cap), (1, true, .int .i64 classes), (2, true, .slice pa ps.length pc), (3, true, .int .i64 ticks), (4, true, .func (.func g) first capd), (10, true, .pointer (some ⟨b10, 0, none⟩)), (11, true, .pointer (some ⟨b11, 0, none⟩)), (14, true, .pointer (some ⟨b56, 0, none⟩)), (15, true, .int .i64 s1.cur), (16, true, .int .i64 s1.rest), (57, true, .int .i64 ticks), (58, true, .int .i64 (t : Int)), (17, true, .int .i64 (t : Int))]) (fun _ => R) (fun (s1, rws) => stE b56 pa ps.length pc a54 s1.ms :: .sl 4 1 (some ⟨a54, 0, none⟩) ps.length (s1.ms.begun.map encB) :: .blk b11 [.slice (some ⟨gd, 0, none⟩) ps.length ps.length, .slice (some ⟨go, 0, none⟩) classes classes] :: .sl 3 1 (some ⟨gd, 0, none⟩) ps.length (s1.done.map encI) :: .sl 23 1 (some ⟨go, 0, none⟩) classes (rws.map encS) :: .blk b10 [.slice none 0 0, .slice none 0 0] :: (rws.map (rowE 3) ++ (X s1.sg ++ F))) (fun (s1, rws) => s1.ms.left.toNat) ((({ s with ms := { s.ms with now := (t : Int), left := cap }, sent := s.sent.map fun l => l ++ [nth l t] } : M.RS σ), rws)) (⟨⟨cap.toNat, rfl, by dsimp only; omega⟩, ⟨_, h3.open hg.free, by dsimp only; rw [Int.add_mul]; omega⟩, by dsimp only; omega, by dsimp only; omega, rfl, hrx1, g3⟩) ⟨rfl, rfl, rfl, rfl, rfl, rfl, rfl, rfl, rfl, rfl, rfl, rfl, rfl, rfl⟩ (RLe.refl _) (by (repeat (first | exact List.Sublist.refl _ | exact List.nil_sublist _ | apply List.Sublist.cons_cons | apply List.Sublist.cons)); done) ?_
            intro st hst
            obtain ⟨s1, rws⟩ := st
            obtain ⟨⟨k, hin, hkk⟩, ⟨B, hinv, hB⟩, hl0, hlc, hnow, hrx1, hra1⟩ := hst
            dsimp only at hin hkk hinv hB hl0 hlc hnow hrx1 hra1 ⊢
            refine W.seq ?_
            refine W.seq ?_
            refine W.region _ ?_
            refine WG.run tab_ok 3 rfl ?_
            refine' WG.y rfl rfl (by decide) (Yl.load1 tab_ok rfl rfl rfl (fun _ => rfl) ?r18 rfl ?h18) ?_
            case r18 => apply Rd.add; (first | exact Rd.blk 0 rfl | exact Rd.blk 1 rfl | exact Rd.blk 2 rfl | exact Rd.blk 3 rfl | exact Rd.blk 4 rfl | exact Rd.blk 5 rfl | exact Rd.blk 6 rfl | exact Rd.blk 7 rfl | exact Rd.blk 8 rfl)
            case h18 => rfl
            refine WG.run tab_ok 1 rfl ?_
            refine WG.nil ?_
            refine WE.nxt ?_
            refine W.condD rfl (fun hc4 => ?_) (fun hc4 => ?_)
            · try dsimp only at hc4
              refine W.skip ?_
              refine WE.nxt ?_
              refine W.block ?_
              refine W.seqCut (β := M.RS σ) (fun s2 => s2 = pickup ps ch s1 ∧ 0 ≤ s2.cur) (fun s2 => [(0, true, .int .i64 cap), (1, true, .int .i64 classes), (2, true, .slice pa ps.length pc), (3, true, .int .i64 ticks), (4, true, .func (.func g) first capd), (10, true, .pointer (some ⟨b10, 0, none⟩)), (11, true, .pointer (some ⟨b11, 0, none⟩)), (14, true, .pointer (some ⟨b56, 0, none⟩)), (15, true, .int .i64 s2.cur), (16, true, .int .i64 s2.rest), (57, true, .int .i64 ticks), (58, true, .int .i64 (t : Int)), (17, true, .int .i64 (t : Int))]) (fun _ => R) (fun s2 => stE b56 pa ps.length pc a54 s2.ms :: .sl 4 1 (some ⟨a54, 0, none⟩) ps.length (s2.ms.begun.map encB) :: .blk b11 [.slice (some ⟨gd, 0, none⟩) ps.length ps.length, .slice (some ⟨go, 0, none⟩) classes classes] :: .sl 3 1 (some ⟨gd, 0, none⟩) ps.length (s2.done.map encI) :: .sl 23 1 (some ⟨go, 0, none⟩) classes (rws.map encS) :: .blk b10 [.slice none 0 0, .slice none 0 0] :: (rws.map (rowE 3) ++ (X s2.sg ++ F))) ?_ ?_
              ·
                intro s2 hst
                obtain ⟨hs2, hcur⟩ := hst
                obtain ⟨e1, e2, e3, e4⟩ := pickup_same ps ch s1
                have hI : Inv ps classes good (t + 2) B s2 := by rw [hs2]; exact hinv.pickup hg hf
                rw [← hs2] at e1 e2 e3 e4
                obtain ⟨c1, c2, c3⟩ := hI.cur hcur
                have hat := hf.at (i := s2.cur.toNat) (by omega)
                have hrx2 : rws.map Sl.xs = s2.sent := by rw [e3]; exact hrx1
                have hlen : rws.length = classes := by rw [← hI.sent, ← hrx2, List.length_map]
                have hf0 : (nth ps s2.cur.toNat).flow.toNat < rws.length := by omega
                have hxs := nth_map_xs hrx2 hf0
                have hsome : (nth rws (nth ps s2.cur.toNat).flow.toNat).a.isSome = true := hra1 _ (nth_mem hf0)
                have hrw := hI.row (i := (nth ps s2.cur.toNat).flow.toNat) (by omega)
                have hxl : (nth rws (nth ps s2.cur.toNat).flow.toNat).xs.length = t + 2 := by rw [hxs]; exact hrw.1
                have hcell : 0 ≤ nth (nth rws (nth ps s2.cur.toNat).flow.toNat).xs (t + 1) ∧ nth (nth rws (nth ps s2.cur.toNat).flow.toNat).xs (t + 1) ≤ B := by rw [hxs]; exact hrw.2 _ (nth_mem (by rw [hrw.1]; omega))
                have hrow := rows_get (e := 3) (G := X s2.sg ++ F) (rows := rws) (c := (nth ps s2.cur.toNat).flow.toNat) hf0
                have hn0 : 1 ≤ (if s2.ms.left < s2.rest then s2.ms.left else s2.rest) ∧ (if s2.ms.left < s2.rest then s2.ms.left else s2.rest) ≤ s2.rest ∧ (if s2.ms.left < s2.rest then s2.ms.left else s2.rest) ≤ s2.ms.left := by split <;> omega
                have hdl := hI.done
                refine W.seq ?_
                refine W.region _ ?_
                refine WG.run tab_ok 4 rfl ?_
                refine' WG.y rfl rfl (by decide) (Yl.load1 tab_ok rfl rfl rfl (fun _ => rfl) ?r19 rfl ?h19) ?_
                case r19 => apply Rd.add; (first | exact Rd.blk 0 rfl | exact Rd.blk 1 rfl | exact Rd.blk 2 rfl | exact Rd.blk 3 rfl | exact Rd.blk 4 rfl | exact Rd.blk 5 rfl | exact Rd.blk 6 rfl | exact Rd.blk 7 rfl | exact Rd.blk 8 rfl)
                case h19 => rfl
                refine WG.run tab_ok 2 rfl ?_
                refine WG.nil ?_
                refine WE.nxt ?_
                refine W.seq ?_
                refine W.regionH _ (ES := [.blk b11 [.slice (some ⟨gd, 0, none⟩) ps.length ps.length, .slice (some ⟨go, 0, none⟩) classes classes], .sl 23 1 (some ⟨go, 0, none⟩) classes (rws.map encS)]) mixed ?_
                refine WA.take 0 rfl (by kernel_rfl) (by kernel_rfl) (by kernel_rfl) rfl rfl (by decide) (pureV_ok tab_ok rfl (fun _ => rfl)) (by (repeat (first | exact List.Sublist.refl _ | exact List.nil_sublist _ | apply List.Sublist.cons_cons | apply List.Sublist.cons)); done) (by first | exact RLe.refl _ | assumption) ?_
                refine' WA.take 1 rfl (by kernel_rfl) (by kernel_rfl) (by kernel_rfl) rfl rfl (by decide) (Yl.load1 tab_ok rfl rfl rfl (fun _ => rfl) ?r20 rfl ?h20) (by (repeat (first | exact List.Sublist.refl _ | exact List.nil_sublist _ | apply List.Sublist.cons_cons | apply List.Sublist.cons)); done) (by first | exact RLe.refl _ | assumption) ?_
                case r20 => apply Rd.add; (first | exact Rd.blk 0 rfl | exact Rd.blk 1 rfl | exact Rd.blk 2 rfl | exact Rd.blk 3 rfl | exact Rd.blk 4 rfl | exact Rd.blk 5 rfl | exact Rd.blk 6 rfl | exact Rd.blk 7 rfl | exact Rd.blk 8 rfl)
                case h20 => rfl
                refine WA.take 2 rfl (by kernel_rfl) (by kernel_rfl) (by kernel_rfl) rfl rfl (by decide) (pureV_ok tab_ok rfl (fun _ => rfl)) (by (repeat (first | exact List.Sublist.refl _ | exact List.nil_sublist _ | apply List.Sublist.cons_cons | apply List.Sublist.cons)); done) (by first | exact RLe.refl _ | assumption) ?_
                refine WA.take 3 rfl (by kernel_rfl) (by kernel_rfl) (by kernel_rfl) rfl rfl (by decide) (pureV_ok tab_ok rfl (fun _ => rfl)) (by (repeat (first | exact List.Sublist.refl _ | exact List.nil_sublist _ | apply List.Sublist.cons_cons | apply List.Sublist.cons)); done) (by first | exact RLe.refl _ | assumption) ?_
                refine WA.take 4 rfl (by kernel_rfl) (by kernel_rfl) (by kernel_rfl) rfl rfl (by decide) (Yl.index tab_ok rfl rfl rfl rfl rfl rfl (fun _ => rfl) (by intro _; constructor <;> (try dsimp only) <;> omega) (by intro _; first | exact fun _ _ _ _ => rfl | exact RS.has (by assumption) | exact fun _ _ _ _ => (by assumption) | exact HasMem.ownD 0 rfl | exact HasMem.ownD 1 rfl | exact HasMem.ownD 2 rfl | exact HasMem.ownD 3 rfl | exact HasMem.ownD 4 rfl | exact HasMem.ownD 5 rfl | exact HasMem.ownD 6 rfl | exact HasMem.ownD 7 rfl | exact HasMem.ownD 8 rfl)) (by (repeat (first | exact List.Sublist.refl _ | exact List.nil_sublist _ | apply List.Sublist.cons_cons | apply List.Sublist.cons)); done) (by first | exact RLe.refl _ | assumption) ?_
                refine WA.take 5 rfl (by kernel_rfl) (by kernel_rfl) (by kernel_rfl) rfl rfl (by decide) (pureV_ok tab_ok rfl (fun _ => rfl)) (by (repeat (first | exact List.Sublist.refl _ | exact List.nil_sublist _ | apply List.Sublist.cons_cons | apply List.Sublist.cons)); done) (by first | exact RLe.refl _ | assumption) ?_
                refine' WA.take 6 rfl (by kernel_rfl) (by kernel_rfl) (by kernel_rfl) rfl rfl (by decide) (Yl.load1 tab_ok rfl rfl rfl (fun _ => rfl) ?r21 rfl ?h21) (by (repeat (first | exact List.Sublist.refl _ | exact List.nil_sublist _ | apply List.Sublist.cons_cons | apply List.Sublist.cons)); done) (by first | exact RLe.refl _ | assumption) ?_
                case r21 => apply Rd.add; (first | (apply RS.rdD; assumption; ((try dsimp only) <;> omega)) | exact Rd.slD 0 rfl (by (try dsimp only) <;> omega) | exact Rd.slD 1 rfl (by (try dsimp only) <;> omega) | exact Rd.slD 2 rfl (by (try dsimp only) <;> omega) | exact Rd.slD 3 rfl (by (try dsimp only) <;> omega) | exact Rd.slD 4 rfl (by (try dsimp only) <;> omega) | exact Rd.slD 5 rfl (by (try dsimp only) <;> omega) | exact Rd.slD 6 rfl (by (try dsimp only) <;> omega) | exact Rd.slD 7 rfl (by (try dsimp only) <;> omega) | exact Rd.slD 8 rfl (by (try dsimp only) <;> omega))
                case h21 => rfl
                refine WA.take 7 rfl (by kernel_rfl) (by kernel_rfl) (by kernel_rfl) rfl rfl (by decide) (Yl.index tab_ok rfl rfl rfl rfl rfl rfl (fun _ => rfl) (by intro _; constructor <;> (try dsimp only) <;> omega) (by intro _; first | exact fun _ _ _ _ => rfl | exact RS.has (by assumption) | exact fun _ _ _ _ => (by assumption) | exact HasMem.ownD 0 rfl | exact HasMem.ownD 1 rfl | exact HasMem.ownD 2 rfl | exact HasMem.ownD 3 rfl | exact HasMem.ownD 4 rfl | exact HasMem.ownD 5 rfl | exact HasMem.ownD 6 rfl | exact HasMem.ownD 7 rfl | exact HasMem.ownD 8 rfl)) (by (repeat (first | exact List.Sublist.refl _ | exact List.nil_sublist _ | apply List.Sublist.cons_cons | apply List.Sublist.cons)); done) (by first | exact RLe.refl _ | assumption) ?_
                refine' WA.take 8 rfl (by kernel_rfl) (by kernel_rfl) (by kernel_rfl) rfl rfl (by decide) (Yl.load1 tab_ok rfl rfl rfl (fun _ => rfl) ?r22 rfl ?h22) (by (repeat (first | exact List.Sublist.refl _ | exact List.nil_sublist _ | apply List.Sublist.cons_cons | apply List.Sublist.cons)); done) (by first | exact RLe.refl _ | assumption) ?_
                case r22 => (first | (apply RS.rdD; assumption; ((try dsimp only) <;> omega)) | exact Rd.slD 0 rfl (by (try dsimp only) <;> omega) | exact Rd.slD 1 rfl (by (try dsimp only) <;> omega) | exact Rd.slD 2 rfl (by (try dsimp only) <;> omega) | exact Rd.slD 3 rfl (by (try dsimp only) <;> omega) | exact Rd.slD 4 rfl (by (try dsimp only) <;> omega) | exact Rd.slD 5 rfl (by (try dsimp only) <;> omega) | exact Rd.slD 6 rfl (by (try dsimp only) <;> omega) | exact Rd.slD 7 rfl (by (try dsimp only) <;> omega) | exact Rd.slD 8 rfl (by (try dsimp only) <;> omega))
                case h22 => rfl
                refine WA.take 9 rfl (by kernel_rfl) (by kernel_rfl) (by kernel_rfl) rfl rfl (by decide) (pureV_ok tab_ok rfl (fun _ => rfl)) (by (repeat (first | exact List.Sublist.refl _ | exact List.nil_sublist _ | apply List.Sublist.cons_cons | apply List.Sublist.cons)); done) (by first | exact RLe.refl _ | assumption) ?_
                refine WA.take 10 rfl (by kernel_rfl) (by kernel_rfl) (by kernel_rfl) rfl rfl (by decide) (Yl.add rfl rfl rfl (fun _ => rfl) (by intro _; constructor <;> (try dsimp only) <;> omega)) (by (repeat (first | exact List.Sublist.refl _ | exact List.nil_sublist _ | apply List.Sublist.cons_cons | apply List.Sublist.cons)); done) (by first | exact RLe.refl _ | assumption) ?_
                refine WA.take 11 rfl (by kernel_rfl) (by kernel_rfl) (by kernel_rfl) rfl rfl (by decide) (Yl.index tab_ok rfl rfl rfl rfl rfl rfl (fun _ => rfl) (by intro _; constructor <;> (try dsimp only) <;> omega) (by intro _; first | exact fun _ _ _ _ => rfl | exact RS.has (by assumption) | exact fun _ _ _ _ => (by assumption) | exact HasMem.ownD 0 rfl | exact HasMem.ownD 1 rfl | exact HasMem.ownD 2 rfl | exact HasMem.ownD 3 rfl | exact HasMem.ownD 4 rfl | exact HasMem.ownD 5 rfl | exact HasMem.ownD 6 rfl | exact HasMem.ownD 7 rfl | exact HasMem.ownD 8 rfl)) (by (repeat (first | exact List.Sublist.refl _ | exact List.nil_sublist _ | apply List.Sublist.cons_cons | apply List.Sublist.cons)); done) (by first | exact RLe.refl _ | assumption) ?_
                refine WA.take 13 rfl (by kernel_rfl) (by kernel_rfl) (by kernel_rfl) rfl rfl (by decide) (pureV_ok tab_ok rfl (fun _ => rfl)) (by (repeat (first | exact List.Sublist.refl _ | exact List.nil_sublist _ | apply List.Sublist.cons_cons | apply List.Sublist.cons)); done) (by first | exact RLe.refl _ | assumption) ?_
                refine' WA.yl 12 rfl (by kernel_rfl) rfl rfl (by decide) (Yl.load1 tab_ok rfl rfl rfl (fun _ => rfl) ?r23 rfl ?h23) (by (repeat (first | exact List.Sublist.refl _ | exact List.nil_sublist _ | apply List.Sublist.cons_cons | apply List.Sublist.cons)); done) (RLe.refl _) ?_
                case r23 => exact Rd.slD ((nth ps s2.cur.toNat).flow.toNat + 6) hrow (show ((t : Int) + 1).toNat < _ by omega)
                case h23 => rfl
                refine WA.take 14 rfl (by kernel_rfl) (by kernel_rfl) (by kernel_rfl) rfl rfl (by decide) (Yl.add rfl rfl rfl (fun _ => rfl) (by intro _; have hq : ((t : Int) + 1).toNat = t + 1 := (by omega); constructor <;> (rw [hq]; omega))) (by (repeat (first | exact List.Sublist.refl _ | exact List.nil_sublist _ | apply List.Sublist.cons_cons | apply List.Sublist.cons)); done) (by first | exact RLe.refl _ | assumption) ?_
                refine WA.take 15 rfl (by kernel_rfl) (by kernel_rfl) (by kernel_rfl) rfl rfl (by decide) (Yl.index tab_ok rfl rfl rfl rfl rfl rfl (fun _ => rfl) (by intro _; constructor <;> (try dsimp only) <;> omega) (by intro _; first | exact fun _ _ _ _ => rfl | exact RS.has (by assumption) | exact fun _ _ _ _ => (by assumption) | exact HasMem.ownD 0 rfl | exact HasMem.ownD 1 rfl | exact HasMem.ownD 2 rfl | exact HasMem.ownD 3 rfl | exact HasMem.ownD 4 rfl | exact HasMem.ownD 5 rfl | exact HasMem.ownD 6 rfl | exact HasMem.ownD 7 rfl | exact HasMem.ownD 8 rfl)) (by (repeat (first | exact List.Sublist.refl _ | exact List.nil_sublist _ | apply List.Sublist.cons_cons | apply List.Sublist.cons)); done) (by first | exact RLe.refl _ | assumption) ?_
                refine WA.effN 16 rfl (by kernel_rfl) rfl rfl (Ef.storeD (enc := encI) (xs := (nth rws (nth ps s2.cur.toNat).flow.toNat).xs) (nth (nth rws (nth ps s2.cur.toNat).flow.toNat).xs (t + 1) + (if s2.ms.left < s2.rest then s2.ms.left else s2.rest)) ((nth ps s2.cur.toNat).flow.toNat + 6) tab_ok rfl rfl rfl rfl hrow (show ((t : Int) + 1).toNat < _ by omega) rfl rfl rfl rfl ?_)
                refine ⟨by first | exact RLe.refl _ | assumption, (by (repeat (first | exact List.Sublist.refl _ | exact List.nil_sublist _ | apply List.Sublist.cons_cons | apply List.Sublist.cons)); done), ?_⟩
                refine WA.done (by kernel_rfl) ?_
                refine WE.nxt ?_
                refine W.perm (E' := stE b56 pa ps.length pc a54 s2.ms :: .sl 4 1 (some ⟨a54, 0, none⟩) ps.length (s2.ms.begun.map encB) :: .blk b11 [.slice (some ⟨gd, 0, none⟩) ps.length ps.length, .slice (some ⟨go, 0, none⟩) classes classes] :: .sl 3 1 (some ⟨gd, 0, none⟩) ps.length (s2.done.map encI) :: .sl 23 1 (some ⟨go, 0, none⟩) classes ((rws.set (nth ps s2.cur.toNat).flow.toNat ⟨(nth rws (nth ps s2.cur.toNat).flow.toNat).a, (nth rws (nth ps s2.cur.toNat).flow.toNat).cap, (nth rws (nth ps s2.cur.toNat).flow.toNat).xs.set (t + 1) (nth (nth rws (nth ps s2.cur.toNat).flow.toNat).xs (t + 1) + (if s2.ms.left < s2.rest then s2.ms.left else s2.rest))⟩).map encS) :: .blk b10 [.slice none 0 0, .slice none 0 0] :: ((rws.set (nth ps s2.cur.toNat).flow.toNat ⟨(nth rws (nth ps s2.cur.toNat).flow.toNat).a, (nth rws (nth ps s2.cur.toNat).flow.toNat).cap, (nth rws (nth ps s2.cur.toNat).flow.toNat).xs.set (t + 1) (nth (nth rws (nth ps s2.cur.toNat).flow.toNat).xs (t + 1) + (if s2.ms.left < s2.rest then s2.ms.left else s2.rest))⟩).map (rowE 3) ++ (X s2.sg ++ F))) (by rw [← rows_set hf0, encS_set hf0 (by simp)] <;> exact List.Perm.refl _) ?_
                refine W.seq ?_
                refine W.region _ ?_
                refine WG.run tab_ok 2 rfl ?_
                refine WG.y rfl rfl (by decide) (Yl.sub rfl rfl rfl (fun _ => rfl) (by intro _; constructor <;> (try dsimp only) <;> omega)) ?_
                refine WG.run tab_ok 1 rfl ?_
                refine WG.nil ?_
                refine WE.nxt ?_
                refine W.seq ?_
                refine W.region _ ?_
                refine WG.run tab_ok 3 rfl ?_
                refine' WG.y rfl rfl (by decide) (Yl.load1 tab_ok rfl rfl rfl (fun _ => rfl) ?r24 rfl ?h24) ?_
                case r24 => apply Rd.add; (first | exact Rd.blk 0 rfl | exact Rd.blk 1 rfl | exact Rd.blk 2 rfl | exact Rd.blk 3 rfl | exact Rd.blk 4 rfl | exact Rd.blk 5 rfl | exact Rd.blk 6 rfl | exact Rd.blk 7 rfl | exact Rd.blk 8 rfl)
                case h24 => rfl
                refine WG.run tab_ok 1 rfl ?_
                refine WG.y rfl rfl (by decide) (Yl.sub rfl rfl rfl (fun _ => rfl) (by intro _; constructor <;> (try dsimp only) <;> omega)) ?_
                refine WG.run tab_ok 2 rfl ?_
                first | refine WL.efN rfl rfl (Ef.store 0 tab_ok rfl rfl rfl rfl rfl rfl rfl rfl ?_) | refine WL.efN rfl rfl (Ef.store 1 tab_ok rfl rfl rfl rfl rfl rfl rfl rfl ?_) | refine WL.efN rfl rfl (Ef.store 2 tab_ok rfl rfl rfl rfl rfl rfl rfl rfl ?_) | refine WL.efN rfl rfl (Ef.store 3 tab_ok rfl rfl rfl rfl rfl rfl rfl rfl ?_) | refine WL.efN rfl rfl (Ef.store 4 tab_ok rfl rfl rfl rfl rfl rfl rfl rfl ?_) | refine WL.efN rfl rfl (Ef.store 5 tab_ok rfl rfl rfl rfl rfl rfl rfl rfl ?_) | refine WL.efN rfl rfl (Ef.store 6 tab_ok rfl rfl rfl rfl rfl rfl rfl rfl ?_) | refine WL.efN rfl rfl (Ef.store 7 tab_ok rfl rfl rfl rfl rfl rfl rfl rfl ?_) | refine WL.efN rfl rfl (Ef.store 8 tab_ok rfl rfl rfl rfl rfl rfl rfl rfl ?_)
                refine WG.nil ?_
                refine WE.nxt ?_
                refine W.seq ?_
                refine W.region _ ?_
                refine WG.run tab_ok 2 rfl ?_
                refine WG.nil ?_
                refine WE.nxt ?_
                refine W.condE rfl (fun hc5 => ?_) (fun hc5 => ?_)
                · try dsimp only at hc5
                  refine W.seq ?_
                  refine W.region _ ?_
                  refine WG.run tab_ok 1 rfl ?_
                  refine' WG.y rfl rfl (by decide) (Yl.load1 tab_ok rfl rfl rfl (fun _ => rfl) ?r25 rfl ?h25) ?_
                  case r25 => apply Rd.add; (first | exact Rd.blk 0 rfl | exact Rd.blk 1 rfl | exact Rd.blk 2 rfl | exact Rd.blk 3 rfl | exact Rd.blk 4 rfl | exact Rd.blk 5 rfl | exact Rd.blk 6 rfl | exact Rd.blk 7 rfl | exact Rd.blk 8 rfl)
                  case h25 => rfl
                  refine WG.run tab_ok 2 rfl ?_
                  refine WG.y rfl rfl (by decide) (Yl.index tab_ok rfl rfl rfl rfl rfl rfl (fun _ => rfl) (by intro _; constructor <;> (try dsimp only) <;> omega) (by intro _; first | exact fun _ _ _ _ => rfl | exact RS.has (by assumption) | exact fun _ _ _ _ => (by assumption) | exact HasMem.ownD 0 rfl | exact HasMem.ownD 1 rfl | exact HasMem.ownD 2 rfl | exact HasMem.ownD 3 rfl | exact HasMem.ownD 4 rfl | exact HasMem.ownD 5 rfl | exact HasMem.ownD 6 rfl | exact HasMem.ownD 7 rfl | exact HasMem.ownD 8 rfl)) ?_
                  first | refine WL.efN rfl rfl (Ef.storeD _ 0 tab_ok rfl rfl rfl rfl rfl (by (try dsimp only) <;> omega) rfl rfl rfl rfl ?_) | refine WL.efN rfl rfl (Ef.storeD _ 1 tab_ok rfl rfl rfl rfl rfl (by (try dsimp only) <;> omega) rfl rfl rfl rfl ?_) | refine WL.efN rfl rfl (Ef.storeD _ 2 tab_ok rfl rfl rfl rfl rfl (by (try dsimp only) <;> omega) rfl rfl rfl rfl ?_) | refine WL.efN rfl rfl (Ef.storeD _ 3 tab_ok rfl rfl rfl rfl rfl (by (try dsimp only) <;> omega) rfl rfl rfl rfl ?_) | refine WL.efN rfl rfl (Ef.storeD _ 4 tab_ok rfl rfl rfl rfl rfl (by (try dsimp only) <;> omega) rfl rfl rfl rfl ?_) | refine WL.efN rfl rfl (Ef.storeD _ 5 tab_ok rfl rfl rfl rfl rfl (by (try dsimp only) <;> omega) rfl rfl rfl rfl ?_) | refine WL.efN rfl rfl (Ef.storeD _ 6 tab_ok rfl rfl rfl rfl rfl (by (try dsimp only) <;> omega) rfl rfl rfl rfl ?_) | refine WL.efN rfl rfl (Ef.storeD _ 7 tab_ok rfl rfl rfl rfl rfl (by (try dsimp only) <;> omega) rfl rfl rfl rfl ?_) | refine WL.efN rfl rfl (Ef.storeD _ 8 tab_ok rfl rfl rfl rfl rfl (by (try dsimp only) <;> omega) rfl rfl rfl rfl ?_)
                  refine WG.nil ?_
                  refine WE.nxt ?_
                  refine W.region _ ?_
                  refine WG.run tab_ok 1 rfl ?_
                  refine WG.nil ?_
                  refine WE.blk _ ?_
                  have hsend : send ps t s2 = ({ s2 with sent := s2.sent.set (nth ps s2.cur.toNat).flow.toNat ((nth s2.sent (nth ps s2.cur.toNat).flow.toNat).set (t + 1) (nth (nth s2.sent (nth ps s2.cur.toNat).flow.toNat) (t + 1) + (if s2.ms.left < s2.rest then s2.ms.left else s2.rest))), rest := s2.rest - (if s2.ms.left < s2.rest then s2.ms.left else s2.rest), ms := { s2.ms with left := s2.ms.left - (if s2.ms.left < s2.rest then s2.ms.left else s2.rest) }, done := s2.done.set s2.cur.toNat t, cur := -1 } : M.RS σ) := by unfold M.send; dsimp only; simp only [if_pos hc5]
                  refine WE.again (({ s2 with sent := s2.sent.set (nth ps s2.cur.toNat).flow.toNat ((nth s2.sent (nth ps s2.cur.toNat).flow.toNat).set (t + 1) (nth (nth s2.sent (nth ps s2.cur.toNat).flow.toNat) (t + 1) + (if s2.ms.left < s2.rest then s2.ms.left else s2.rest))), rest := s2.rest - (if s2.ms.left < s2.rest then s2.ms.left else s2.rest), ms := { s2.ms with left := s2.ms.left - (if s2.ms.left < s2.rest then s2.ms.left else s2.rest) }, done := s2.done.set s2.cur.toNat t, cur := -1 } : M.RS σ), (rws.set (nth ps s2.cur.toNat).flow.toNat ⟨(nth rws (nth ps s2.cur.toNat).flow.toNat).a, (nth rws (nth ps s2.cur.toNat).flow.toNat).cap, (nth rws (nth ps s2.cur.toNat).flow.toNat).xs.set (t + 1) (nth (nth rws (nth ps s2.cur.toNat).flow.toNat).xs (t + 1) + (if s2.ms.left < s2.rest then s2.ms.left else s2.rest))⟩)) ⟨⟨k - 1, by dsimp only; rw [← hsend, hs2, ← inner_some hkk hc4 (by rw [← hs2]; exact hcur)]; exact hin, by dsimp only; omega⟩, ⟨_, by dsimp only; rw [← hsend]; exact (hI.send hf hg.free (t := t) (by omega) hcur (by omega)).1, by dsimp only; rw [hsend]; dsimp only; omega⟩, by dsimp only; omega, by dsimp only; omega, by dsimp only; omega, by dsimp only; rw [List.map_set, hrx2, ← hxs], all_set hra1 hsome⟩ (by dsimp only; omega) ⟨rfl, rfl, rfl, rfl, rfl, rfl, rfl, rfl, rfl, rfl, rfl, rfl, rfl, rfl⟩ (RLe.refl _) (by (repeat (first | exact List.Sublist.refl _ | exact List.nil_sublist _ | apply List.Sublist.cons_cons | apply List.Sublist.cons)); done)
                · try dsimp only at hc5
                  refine W.skip ?_
                  refine WE.blk _ ?_
                  have hsend : send ps t s2 = ({ s2 with sent := s2.sent.set (nth ps s2.cur.toNat).flow.toNat ((nth s2.sent (nth ps s2.cur.toNat).flow.toNat).set (t + 1) (nth (nth s2.sent (nth ps s2.cur.toNat).flow.toNat) (t + 1) + (if s2.ms.left < s2.rest then s2.ms.left else s2.rest))), rest := s2.rest - (if s2.ms.left < s2.rest then s2.ms.left else s2.rest), ms := { s2.ms with left := s2.ms.left - (if s2.ms.left < s2.rest then s2.ms.left else s2.rest) }, done := s2.done, cur := s2.cur } : M.RS σ) := by unfold M.send; dsimp only; simp only [if_neg hc5]
                  refine WE.again (({ s2 with sent := s2.sent.set (nth ps s2.cur.toNat).flow.toNat ((nth s2.sent (nth ps s2.cur.toNat).flow.toNat).set (t + 1) (nth (nth s2.sent (nth ps s2.cur.toNat).flow.toNat) (t + 1) + (if s2.ms.left < s2.rest then s2.ms.left else s2.rest))), rest := s2.rest - (if s2.ms.left < s2.rest then s2.ms.left else s2.rest), ms := { s2.ms with left := s2.ms.left - (if s2.ms.left < s2.rest then s2.ms.left else s2.rest) }, done := s2.done, cur := s2.cur } : M.RS σ), (rws.set (nth ps s2.cur.toNat).flow.toNat ⟨(nth rws (nth ps s2.cur.toNat).flow.toNat).a, (nth rws (nth ps s2.cur.toNat).flow.toNat).cap, (nth rws (nth ps s2.cur.toNat).flow.toNat).xs.set (t + 1) (nth (nth rws (nth ps s2.cur.toNat).flow.toNat).xs (t + 1) + (if s2.ms.left < s2.rest then s2.ms.left else s2.rest))⟩)) ⟨⟨k - 1, by dsimp only; rw [← hsend, hs2, ← inner_some hkk hc4 (by rw [← hs2]; exact hcur)]; exact hin, by dsimp only; omega⟩, ⟨_, by dsimp only; rw [← hsend]; exact (hI.send hf hg.free (t := t) (by omega) hcur (by omega)).1, by dsimp only; rw [hsend]; dsimp only; omega⟩, by dsimp only; omega, by dsimp only; omega, by dsimp only; omega, by dsimp only; rw [List.map_set, hrx2, ← hxs], all_set hra1 hsome⟩ (by dsimp only; omega) ⟨rfl, rfl, rfl, rfl, rfl, rfl, rfl, rfl, rfl, rfl, rfl, rfl, rfl, rfl⟩ (RLe.refl _) (by (repeat (first | exact List.Sublist.refl _ | exact List.nil_sublist _ | apply List.Sublist.cons_cons | apply List.Sublist.cons)); done)
              ·
                refine W.seq ?_
                refine W.region _ ?_
                refine WG.run tab_ok 2 rfl ?_
                refine WG.nil ?_
                refine WE.nxt ?_
                refine W.condD rfl (fun hc6 => ?_) (fun hc6 => ?_)
                · try dsimp only at hc6
                  refine W.seq ?_
                  refine W.seq ?_
                  refine W.region _ ?_
                  refine WG.run tab_ok 2 rfl ?_
                  refine WL.perm perm_choice ?_
                  refine WL.call hen rfl rfl (by decide) (CallOp.mkT rfl rfl rfl rfl) (hch _ _ s1.ms s1.sg _ hinv.good hinv.begun hc4 hlc (by omega) (by omega)) ?_
                  rintro _ _ _ - ⟨rfl, rfl, rfl⟩
                  refine WL.perm perm_choice.symm ?_
                  refine WG.run tab_ok 1 rfl ?_
                  refine WG.nil ?_
                  refine WE.nxt ?_
                  refine W.seq ?_
                  refine W.region _ ?_
                  refine WG.run tab_ok 2 rfl ?_
                  refine WG.nil ?_
                  refine WE.nxt ?_
                  refine W.condD rfl (fun hc7 => ?_) (fun hc7 => ?_)
                  · try dsimp only at hc7
                    have hpick : pickup ps ch s1 = ({ s1 with cur := (ch s1.ms s1.sg).1, ms := { s1.ms with before := (ch s1.ms s1.sg).2.1 }, sg := (ch s1.ms s1.sg).2.2 } : M.RS σ) := by unfold M.pickup; rw [if_neg (by omega)]; dsimp only; rw [if_pos hc7]
                    have htk1 : tick ps ch cap t s = ({ s1 with cur := (ch s1.ms s1.sg).1, ms := { s1.ms with before := (ch s1.ms s1.sg).2.1 }, sg := (ch s1.ms s1.sg).2.2 } : M.RS σ) := by rw [← hpick, ← hin, inner_none hkk hc4 (by rw [hpick]; exact hc7)]
                    refine W.exit ?_
                    refine WE.then_exit ?_
                    refine WE.then_exit ?_
                    refine WE.blk_other rfl ?_
                    refine WE.then_exit ?_
                    refine WE.blk_exit ?_
                    refine WE.blk _ ?_
                    refine WE.nxt ?_
                    refine W.region _ ?_
                    refine WG.y rfl rfl (by decide) (Yl.add rfl rfl rfl (fun _ => rfl) (by intro _; constructor <;> (try dsimp only) <;> omega)) ?_
                    refine WG.run tab_ok 1 rfl ?_
                    refine WG.nil ?_
                    have hI2 : Inv ps classes good (t + 2) ((t + 1) * cap) ({ s1 with cur := (ch s1.ms s1.sg).1, ms := { s1.ms with before := (ch s1.ms s1.sg).2.1 }, sg := (ch s1.ms s1.sg).2.2 } : M.RS σ) := by rw [← hpick]; exact (hinv.pickup hg hf).mono (by omega)
                    refine WE.again (t + 1, ({ s1 with cur := (ch s1.ms s1.sg).1, ms := { s1.ms with before := (ch s1.ms s1.sg).2.1 }, sg := (ch s1.ms s1.sg).2.2 } : M.RS σ), rws) ⟨by dsimp only; omega, by dsimp only; rw [← htk1, ← h2, show ticks - t = (ticks - (t + 1)) + 1 by omega, ticksFrom], by dsimp only; simpa using hI2, hrx1, hra1⟩ (by dsimp only; omega) ⟨rfl, rfl, rfl, rfl, rfl, rfl, rfl, rfl, rfl, rfl, rfl, rfl, rfl⟩ (RLe.refl _) (by (repeat (first | exact List.Sublist.refl _ | exact List.nil_sublist _ | apply List.Sublist.cons_cons | apply List.Sublist.cons)); done)
                  · try dsimp only at hc7
                    have hpick : pickup ps ch s1 = ({ s1 with cur := (ch s1.ms s1.sg).1, rest := (nth ps (ch s1.ms s1.sg).1.toNat).size, ms := { s1.ms with before := (ch s1.ms s1.sg).2.1, begun := s1.ms.begun.set (ch s1.ms s1.sg).1.toNat true }, sg := (ch s1.ms s1.sg).2.2 } : M.RS σ) := by unfold M.pickup; rw [if_neg (by omega)]; dsimp only; rw [if_neg hc7]
                    have hidx := hg.idx _ _ hinv.good hinv.begun (by omega)
                    have hbl := hinv.begun
                    refine W.skip ?_
                    refine WE.nxt ?_
                    refine W.regionH _ (ES := [stE b56 pa ps.length pc a54 { s1.ms with before := (ch s1.ms s1.sg).2.1 }]) mixed ?_
                    refine WA.take 0 rfl (by kernel_rfl) (by kernel_rfl) (by kernel_rfl) rfl rfl (by decide) (pureV_ok tab_ok rfl (fun _ => rfl)) (by (repeat (first | exact List.Sublist.refl _ | exact List.nil_sublist _ | apply List.Sublist.cons_cons | apply List.Sublist.cons)); done) (by first | exact RLe.refl _ | assumption) ?_
                    refine WA.take 1 rfl (by kernel_rfl) (by kernel_rfl) (by kernel_rfl) rfl rfl (by decide) (pureV_ok tab_ok rfl (fun _ => rfl)) (by (repeat (first | exact List.Sublist.refl _ | exact List.nil_sublist _ | apply List.Sublist.cons_cons | apply List.Sublist.cons)); done) (by first | exact RLe.refl _ | assumption) ?_
                    refine WA.take 2 rfl (by kernel_rfl) (by kernel_rfl) (by kernel_rfl) rfl rfl (by decide) (pureV_ok tab_ok rfl (fun _ => rfl)) (by (repeat (first | exact List.Sublist.refl _ | exact List.nil_sublist _ | apply List.Sublist.cons_cons | apply List.Sublist.cons)); done) (by first | exact RLe.refl _ | assumption) ?_
                    refine' WA.take 3 rfl (by kernel_rfl) (by kernel_rfl) (by kernel_rfl) rfl rfl (by decide) (Yl.load1 tab_ok rfl rfl rfl (fun _ => rfl) ?r26 rfl ?h26) (by (repeat (first | exact List.Sublist.refl _ | exact List.nil_sublist _ | apply List.Sublist.cons_cons | apply List.Sublist.cons)); done) (by first | exact RLe.refl _ | assumption) ?_
                    case r26 => apply Rd.add; (first | exact Rd.blk 0 rfl | exact Rd.blk 1 rfl | exact Rd.blk 2 rfl | exact Rd.blk 3 rfl | exact Rd.blk 4 rfl | exact Rd.blk 5 rfl | exact Rd.blk 6 rfl | exact Rd.blk 7 rfl | exact Rd.blk 8 rfl)
                    case h26 => rfl
                    refine WA.take 4 rfl (by kernel_rfl) (by kernel_rfl) (by kernel_rfl) rfl rfl (by decide) (pureV_ok tab_ok rfl (fun _ => rfl)) (by (repeat (first | exact List.Sublist.refl _ | exact List.nil_sublist _ | apply List.Sublist.cons_cons | apply List.Sublist.cons)); done) (by first | exact RLe.refl _ | assumption) ?_
                    refine WA.take 5 rfl (by kernel_rfl) (by kernel_rfl) (by kernel_rfl) rfl rfl (by decide) (pureV_ok tab_ok rfl (fun _ => rfl)) (by (repeat (first | exact List.Sublist.refl _ | exact List.nil_sublist _ | apply List.Sublist.cons_cons | apply List.Sublist.cons)); done) (by first | exact RLe.refl _ | assumption) ?_
                    refine WA.take 6 rfl (by kernel_rfl) (by kernel_rfl) (by kernel_rfl) rfl rfl (by decide) (pureV_ok tab_ok rfl (fun _ => rfl)) (by (repeat (first | exact List.Sublist.refl _ | exact List.nil_sublist _ | apply List.Sublist.cons_cons | apply List.Sublist.cons)); done) (by first | exact RLe.refl _ | assumption) ?_
                    refine WA.take 7 rfl (by kernel_rfl) (by kernel_rfl) (by kernel_rfl) rfl rfl (by decide) (Yl.index tab_ok rfl rfl rfl rfl rfl rfl (fun _ => rfl) (by intro _; constructor <;> (try dsimp only) <;> omega) (by intro _; first | exact fun _ _ _ _ => rfl | exact RS.has (by assumption) | exact fun _ _ _ _ => (by assumption) | exact HasMem.ownD 0 rfl | exact HasMem.ownD 1 rfl | exact HasMem.ownD 2 rfl | exact HasMem.ownD 3 rfl | exact HasMem.ownD 4 rfl | exact HasMem.ownD 5 rfl | exact HasMem.ownD 6 rfl | exact HasMem.ownD 7 rfl | exact HasMem.ownD 8 rfl)) (by (repeat (first | exact List.Sublist.refl _ | exact List.nil_sublist _ | apply List.Sublist.cons_cons | apply List.Sublist.cons)); done) (by first | exact RLe.refl _ | assumption) ?_
                    refine WA.take 8 rfl (by kernel_rfl) (by kernel_rfl) (by kernel_rfl) rfl rfl (by decide) (pureV_ok tab_ok rfl (fun _ => rfl)) (by (repeat (first | exact List.Sublist.refl _ | exact List.nil_sublist _ | apply List.Sublist.cons_cons | apply List.Sublist.cons)); done) (by first | exact RLe.refl _ | assumption) ?_
                    refine' WA.take 9 rfl (by kernel_rfl) (by kernel_rfl) (by kernel_rfl) rfl rfl (by decide) (Yl.load1 tab_ok rfl rfl rfl (fun _ => rfl) ?r27 rfl ?h27) (by (repeat (first | exact List.Sublist.refl _ | exact List.nil_sublist _ | apply List.Sublist.cons_cons | apply List.Sublist.cons)); done) (by first | exact RLe.refl _ | assumption) ?_
                    case r27 => apply Rd.add; (first | (apply RS.rdD; assumption; ((try dsimp only) <;> omega)) | exact Rd.slD 0 rfl (by (try dsimp only) <;> omega) | exact Rd.slD 1 rfl (by (try dsimp only) <;> omega) | exact Rd.slD 2 rfl (by (try dsimp only) <;> omega) | exact Rd.slD 3 rfl (by (try dsimp only) <;> omega) | exact Rd.slD 4 rfl (by (try dsimp only) <;> omega) | exact Rd.slD 5 rfl (by (try dsimp only) <;> omega) | exact Rd.slD 6 rfl (by (try dsimp only) <;> omega) | exact Rd.slD 7 rfl (by (try dsimp only) <;> omega) | exact Rd.slD 8 rfl (by (try dsimp only) <;> omega))
                    case h27 => rfl
                    refine WA.take 10 rfl (by kernel_rfl) (by kernel_rfl) (by kernel_rfl) rfl rfl (by decide) (Yl.index tab_ok rfl rfl rfl rfl rfl rfl (fun _ => rfl) (by intro _; constructor <;> (try dsimp only) <;> omega) (by intro _; first | exact fun _ _ _ _ => rfl | exact RS.has (by assumption) | exact fun _ _ _ _ => (by assumption) | exact HasMem.ownD 0 rfl | exact HasMem.ownD 1 rfl | exact HasMem.ownD 2 rfl | exact HasMem.ownD 3 rfl | exact HasMem.ownD 4 rfl | exact HasMem.ownD 5 rfl | exact HasMem.ownD 6 rfl | exact HasMem.ownD 7 rfl | exact HasMem.ownD 8 rfl)) (by (repeat (first | exact List.Sublist.refl _ | exact List.nil_sublist _ | apply List.Sublist.cons_cons | apply List.Sublist.cons)); done) (by first | exact RLe.refl _ | assumption) ?_
                    first | refine WA.effN 11 rfl (by kernel_rfl) rfl rfl (Ef.storeD _ 0 tab_ok rfl rfl rfl rfl rfl (by (try dsimp only) <;> omega) rfl rfl rfl rfl ?_) | refine WA.effN 11 rfl (by kernel_rfl) rfl rfl (Ef.storeD _ 1 tab_ok rfl rfl rfl rfl rfl (by (try dsimp only) <;> omega) rfl rfl rfl rfl ?_) | refine WA.effN 11 rfl (by kernel_rfl) rfl rfl (Ef.storeD _ 2 tab_ok rfl rfl rfl rfl rfl (by (try dsimp only) <;> omega) rfl rfl rfl rfl ?_) | refine WA.effN 11 rfl (by kernel_rfl) rfl rfl (Ef.storeD _ 3 tab_ok rfl rfl rfl rfl rfl (by (try dsimp only) <;> omega) rfl rfl rfl rfl ?_) | refine WA.effN 11 rfl (by kernel_rfl) rfl rfl (Ef.storeD _ 4 tab_ok rfl rfl rfl rfl rfl (by (try dsimp only) <;> omega) rfl rfl rfl rfl ?_) | refine WA.effN 11 rfl (by kernel_rfl) rfl rfl (Ef.storeD _ 5 tab_ok rfl rfl rfl rfl rfl (by (try dsimp only) <;> omega) rfl rfl rfl rfl ?_) | refine WA.effN 11 rfl (by kernel_rfl) rfl rfl (Ef.storeD _ 6 tab_ok rfl rfl rfl rfl rfl (by (try dsimp only) <;> omega) rfl rfl rfl rfl ?_) | refine WA.effN 11 rfl (by kernel_rfl) rfl rfl (Ef.storeD _ 7 tab_ok rfl rfl rfl rfl rfl (by (try dsimp only) <;> omega) rfl rfl rfl rfl ?_) | refine WA.effN 11 rfl (by kernel_rfl) rfl rfl (Ef.storeD _ 8 tab_ok rfl rfl rfl rfl rfl (by (try dsimp only) <;> omega) rfl rfl rfl rfl ?_)
                    refine ⟨by first | exact RLe.refl _ | assumption, (by (repeat (first | exact List.Sublist.refl _ | exact List.nil_sublist _ | apply List.Sublist.cons_cons | apply List.Sublist.cons)); done), ?_⟩
                    refine WA.take 12 rfl (by kernel_rfl) (by kernel_rfl) (by kernel_rfl) rfl rfl (by decide) (pureV_ok tab_ok rfl (fun _ => rfl)) (by (repeat (first | exact List.Sublist.refl _ | exact List.nil_sublist _ | apply List.Sublist.cons_cons | apply List.Sublist.cons)); done) (by first | exact RLe.refl _ | assumption) ?_
                    refine WA.done (by kernel_rfl) ?_
                    refine WE.cut ({ s1 with cur := (ch s1.ms s1.sg).1, rest := (nth ps (ch s1.ms s1.sg).1.toNat).size, ms := { s1.ms with before := (ch s1.ms s1.sg).2.1, begun := s1.ms.begun.set (ch s1.ms s1.sg).1.toNat true }, sg := (ch s1.ms s1.sg).2.2 } : M.RS σ) ⟨hpick.symm, by dsimp only; omega⟩ ⟨rfl, rfl, rfl, rfl, rfl, rfl, rfl, rfl, rfl, rfl, rfl, rfl, rfl, rfl⟩ (RLe.refl _) (by (repeat (first | exact List.Sublist.refl _ | exact List.nil_sublist _ | apply List.Sublist.cons_cons | apply List.Sublist.cons)); done)
                · try dsimp only at hc6
                  refine W.skip ?_
                  refine WE.cut s1 ⟨by unfold M.pickup; rw [if_pos (by omega)], by omega⟩ ⟨rfl, rfl, rfl, rfl, rfl, rfl, rfl, rfl, rfl, rfl, rfl, rfl, rfl, rfl⟩ (RLe.refl _) (by (repeat (first | exact List.Sublist.refl _ | exact List.nil_sublist _ | apply List.Sublist.cons_cons | apply List.Sublist.cons)); done)
            · try dsimp only at hc4
              have htk1 : tick ps ch cap t s = s1 := by rw [← hin, inner_stop (by omega)]
              refine W.exit ?_
              refine WE.then_exit ?_
              refine WE.then_exit ?_
              refine WE.blk_exit ?_
              refine WE.blk _ ?_
              refine WE.nxt ?_
              refine W.region _ ?_
              refine WG.y rfl rfl (by decide) (Yl.add rfl rfl rfl (fun _ => rfl) (by intro _; constructor <;> (try dsimp only) <;> omega)) ?_
              refine WG.run tab_ok 1 rfl ?_
              refine WG.nil ?_
              have hI2 : Inv ps classes good (t + 2) ((t + 1) * cap) s1 := hinv.mono (by omega)
              refine WE.again (t + 1, s1, rws) ⟨by dsimp only; omega, by dsimp only; rw [← htk1, ← h2, show ticks - t = (ticks - (t + 1)) + 1 by omega, ticksFrom], by dsimp only; simpa using hI2, hrx1, hra1⟩ (by dsimp only; omega) ⟨rfl, rfl, rfl, rfl, rfl, rfl, rfl, rfl, rfl, rfl, rfl, rfl, rfl⟩ (RLe.refl _) (by (repeat (first | exact List.Sublist.refl _ | exact List.nil_sublist _ | apply List.Sublist.cons_cons | apply List.Sublist.cons)); done)
        · try dsimp only at hc2
          have ht : t = ticks := by omega
          subst t
          rw [Nat.sub_self] at h2
          refine W.exit ?_
          refine WE.then_exit ?_
          refine WE.then_exit ?_
          refine WE.blk_exit ?_
          refine WE.nxt ?_
          refine W.seq ?_
          refine W.region _ ?_
          refine' WG.y rfl rfl (by decide) (Yl.load1 tab_ok rfl rfl rfl (fun _ => rfl) ?r28 rfl ?h28) ?_
          case r28 => (first | exact Rd.blk 0 rfl | exact Rd.blk 1 rfl | exact Rd.blk 2 rfl | exact Rd.blk 3 rfl | exact Rd.blk 4 rfl | exact Rd.blk 5 rfl | exact Rd.blk 6 rfl | exact Rd.blk 7 rfl | exact Rd.blk 8 rfl)
          case h28 => rfl
          first | refine WL.efN rfl rfl (Ef.store0 0 tab_ok rfl rfl rfl rfl rfl rfl rfl rfl ?_) | refine WL.efN rfl rfl (Ef.store0 1 tab_ok rfl rfl rfl rfl rfl rfl rfl rfl ?_) | refine WL.efN rfl rfl (Ef.store0 2 tab_ok rfl rfl rfl rfl rfl rfl rfl rfl ?_) | refine WL.efN rfl rfl (Ef.store0 3 tab_ok rfl rfl rfl rfl rfl rfl rfl rfl ?_) | refine WL.efN rfl rfl (Ef.store0 4 tab_ok rfl rfl rfl rfl rfl rfl rfl rfl ?_) | refine WL.efN rfl rfl (Ef.store0 5 tab_ok rfl rfl rfl rfl rfl rfl rfl rfl ?_) | refine WL.efN rfl rfl (Ef.store0 6 tab_ok rfl rfl rfl rfl rfl rfl rfl rfl ?_) | refine WL.efN rfl rfl (Ef.store0 7 tab_ok rfl rfl rfl rfl rfl rfl rfl rfl ?_) | refine WL.efN rfl rfl (Ef.store0 8 tab_ok rfl rfl rfl rfl rfl rfl rfl rfl ?_)
          refine WG.nil ?_
          refine WE.nxt ?_
          refine W.ret ?_
          refine WE.retF tab_ok [_] rfl ⟨⟨_, _, _, rfl, rfl, rfl, (Rd.blk 5 rfl), rfl⟩, trivial⟩ (RLe.refl _) ?_
          exact ⟨rows, gd, go, s, h2, rfl, rfl, h4, h5, h3, (by (repeat (first | exact List.Sublist.refl _ | exact List.nil_sublist _ | apply List.Sublist.cons_cons | apply List.Sublist.cons)); done)⟩
  ·
    refine W.regionH _ (ES := []) mixed ?_
    refine WA.take 0 rfl (by kernel_rfl) (by kernel_rfl) (by kernel_rfl) rfl rfl (by decide) (pureV_ok tab_ok rfl (fun _ => rfl)) (by (repeat (first | exact List.Sublist.refl _ | exact List.nil_sublist _ | apply List.Sublist.cons_cons | apply List.Sublist.cons)); done) (by first | exact RLe.refl _ | assumption) ?_
    refine WA.take 1 rfl (by kernel_rfl) (by kernel_rfl) (by kernel_rfl) rfl rfl (by decide) (pureV_ok tab_ok rfl (fun _ => rfl)) (by (repeat (first | exact List.Sublist.refl _ | exact List.nil_sublist _ | apply List.Sublist.cons_cons | apply List.Sublist.cons)); done) (by first | exact RLe.refl _ | assumption) ?_
    refine WA.take 3 rfl (by kernel_rfl) (by kernel_rfl) (by kernel_rfl) rfl rfl (by decide) (pureV_ok tab_ok rfl (fun _ => rfl)) (by (repeat (first | exact List.Sublist.refl _ | exact List.nil_sublist _ | apply List.Sublist.cons_cons | apply List.Sublist.cons)); done) (by first | exact RLe.refl _ | assumption) ?_
    refine WA.br3 (i := 2) (j := 4) (k := 6) (by kernel_rfl) ?_ ?_ ?_
    ·
      refine WS.eff rfl rfl rfl (by decide) (Ef.makeSliceD (enc := encI) 0 tab_ok rfl rfl rfl rfl rfl rfl (by (try dsimp only) <;> omega) (by (try dsimp only) <;> omega) (by (try dsimp only) <;> omega) (by (try dsimp only) <;> omega) (by decide) rfl rfl (fun a22 => ?_))
      refine ⟨RLe.refl _, (by (repeat (first | exact List.Sublist.refl _ | exact List.nil_sublist _ | apply List.Sublist.cons_cons | apply List.Sublist.cons)); done), ?_⟩
      refine WA.br2 (i := 4) (j := 6) (by kernel_rfl) ?_ ?_
      ·
        refine WS.eff rfl rfl rfl (by decide) (Ef.makeSliceD (enc := encS) ⟨none, 0, []⟩ tab_ok rfl rfl rfl rfl rfl rfl (by (try dsimp only) <;> omega) (by (try dsimp only) <;> omega) (by (try dsimp only) <;> omega) (by (try dsimp only) <;> omega) (by decide) rfl rfl (fun a24 => ?_))
        refine ⟨RLe.refl _, (by (repeat (first | exact List.Sublist.refl _ | exact List.nil_sublist _ | apply List.Sublist.cons_cons | apply List.Sublist.cons)); done), ?_⟩
        -- build
        refine WA.take 5 rfl (by kernel_rfl) (by kernel_rfl) (by kernel_rfl) rfl rfl (by decide) (Yl.build (parts := [(0, .tmp 22), (1, .tmp 24)]) tab_ok rfl rfl rfl rfl (fun _ => rfl) rfl rfl) (by (repeat (first | exact List.Sublist.refl _ | exact List.nil_sublist _ | apply List.Sublist.cons_cons | apply List.Sublist.cons)); done) (by first | exact RLe.refl _ | assumption) ?_
        refine WA.eff 6 rfl (by kernel_rfl) rfl rfl (by decide) (Ef.alloc tab_ok rfl rfl (fun b11 => ?_))
        refine ⟨by first | exact RLe.refl _ | assumption, (by (repeat (first | exact List.Sublist.refl _ | exact List.nil_sublist _ | apply List.Sublist.cons_cons | apply List.Sublist.cons)); done), ?_⟩
        first | refine WA.effN 7 rfl (by kernel_rfl) rfl rfl (Ef.store0 0 tab_ok rfl rfl rfl rfl rfl rfl rfl rfl ?_) | refine WA.effN 7 rfl (by kernel_rfl) rfl rfl (Ef.store0 1 tab_ok rfl rfl rfl rfl rfl rfl rfl rfl ?_) | refine WA.effN 7 rfl (by kernel_rfl) rfl rfl (Ef.store0 2 tab_ok rfl rfl rfl rfl rfl rfl rfl rfl ?_) | refine WA.effN 7 rfl (by kernel_rfl) rfl rfl (Ef.store0 3 tab_ok rfl rfl rfl rfl rfl rfl rfl rfl ?_) | refine WA.effN 7 rfl (by kernel_rfl) rfl rfl (Ef.store0 4 tab_ok rfl rfl rfl rfl rfl rfl rfl rfl ?_) | refine WA.effN 7 rfl (by kernel_rfl) rfl rfl (Ef.store0 5 tab_ok rfl rfl rfl rfl rfl rfl rfl rfl ?_) | refine WA.effN 7 rfl (by kernel_rfl) rfl rfl (Ef.store0 6 tab_ok rfl rfl rfl rfl rfl rfl rfl rfl ?_) | refine WA.effN 7 rfl (by kernel_rfl) rfl rfl (Ef.store0 7 tab_ok rfl rfl rfl rfl rfl rfl rfl rfl ?_) | refine WA.effN 7 rfl (by kernel_rfl) rfl rfl (Ef.store0 8 tab_ok rfl rfl rfl rfl rfl rfl rfl rfl ?_)
        refine ⟨by first | exact RLe.refl _ | assumption, (by (repeat (first | exact List.Sublist.refl _ | exact List.nil_sublist _ | apply List.Sublist.cons_cons | apply List.Sublist.cons)); done), ?_⟩
        refine WA.done (by kernel_rfl) ?_
        refine WE.cutP (b11, a22, a24) trivial ⟨rfl, rfl, rfl, rfl, rfl, rfl, rfl, rfl⟩ (RLe.refl _) (by first | exact List.Perm.refl _ | exact perm3a _ _ _ _ | exact perm3b _ _ _ _ | exact perm3c _ _ _ _ | exact perm3d _ _ _ _ | exact perm3e _ _ _ _)
      ·
        refine WS.eff rfl rfl rfl (by decide) (Ef.alloc tab_ok rfl rfl (fun b11 => ?_))
        refine ⟨RLe.refl _, (by (repeat (first | exact List.Sublist.refl _ | exact List.nil_sublist _ | apply List.Sublist.cons_cons | apply List.Sublist.cons)); done), ?_⟩
        refine WA.eff 4 rfl (by kernel_rfl) rfl rfl (by decide) (Ef.makeSliceD (enc := encS) ⟨none, 0, []⟩ tab_ok rfl rfl rfl rfl rfl rfl (by (try dsimp only) <;> omega) (by (try dsimp only) <;> omega) (by (try dsimp only) <;> omega) (by (try dsimp only) <;> omega) (by decide) rfl rfl (fun a24 => ?_))
        refine ⟨by first | exact RLe.refl _ | assumption, (by (repeat (first | exact List.Sublist.refl _ | exact List.nil_sublist _ | apply List.Sublist.cons_cons | apply List.Sublist.cons)); done), ?_⟩
        -- build
        refine WA.take 5 rfl (by kernel_rfl) (by kernel_rfl) (by kernel_rfl) rfl rfl (by decide) (Yl.build (parts := [(0, .tmp 22), (1, .tmp 24)]) tab_ok rfl rfl rfl rfl (fun _ => rfl) rfl rfl) (by (repeat (first | exact List.Sublist.refl _ | exact List.nil_sublist _ | apply List.Sublist.cons_cons | apply List.Sublist.cons)); done) (by first | exact RLe.refl _ | assumption) ?_
        first | refine WA.effN 7 rfl (by kernel_rfl) rfl rfl (Ef.store0 0 tab_ok rfl rfl rfl rfl rfl rfl rfl rfl ?_) | refine WA.effN 7 rfl (by kernel_rfl) rfl rfl (Ef.store0 1 tab_ok rfl rfl rfl rfl rfl rfl rfl rfl ?_) | refine WA.effN 7 rfl (by kernel_rfl) rfl rfl (Ef.store0 2 tab_ok rfl rfl rfl rfl rfl rfl rfl rfl ?_) | refine WA.effN 7 rfl (by kernel_rfl) rfl rfl (Ef.store0 3 tab_ok rfl rfl rfl rfl rfl rfl rfl rfl ?_) | refine WA.effN 7 rfl (by kernel_rfl) rfl rfl (Ef.store0 4 tab_ok rfl rfl rfl rfl rfl rfl rfl rfl ?_) | refine WA.effN 7 rfl (by kernel_rfl) rfl rfl (Ef.store0 5 tab_ok rfl rfl rfl rfl rfl rfl rfl rfl ?_) | refine WA.effN 7 rfl (by kernel_rfl) rfl rfl (Ef.store0 6 tab_ok rfl rfl rfl rfl rfl rfl rfl rfl ?_) | refine WA.effN 7 rfl (by kernel_rfl) rfl rfl (Ef.store0 7 tab_ok rfl rfl rfl rfl rfl rfl rfl rfl ?_) | refine WA.effN 7 rfl (by kernel_rfl) rfl rfl (Ef.store0 8 tab_ok rfl rfl rfl rfl rfl rfl rfl rfl ?_)
        refine ⟨by first | exact RLe.refl _ | assumption, (by (repeat (first | exact List.Sublist.refl _ | exact List.nil_sublist _ | apply List.Sublist.cons_cons | apply List.Sublist.cons)); done), ?_⟩
        refine WA.done (by kernel_rfl) ?_
        refine WE.cutP (b11, a22, a24) trivial ⟨rfl, rfl, rfl, rfl, rfl, rfl, rfl, rfl⟩ (RLe.refl _) (by first | exact List.Perm.refl _ | exact perm3a _ _ _ _ | exact perm3b _ _ _ _ | exact perm3c _ _ _ _ | exact perm3d _ _ _ _ | exact perm3e _ _ _ _)
    ·
      refine WS.eff rfl rfl rfl (by decide) (Ef.makeSliceD (enc := encS) ⟨none, 0, []⟩ tab_ok rfl rfl rfl rfl rfl rfl (by (try dsimp only) <;> omega) (by (try dsimp only) <;> omega) (by (try dsimp only) <;> omega) (by (try dsimp only) <;> omega) (by decide) rfl rfl (fun a24 => ?_))
      refine ⟨RLe.refl _, (by (repeat (first | exact List.Sublist.refl _ | exact List.nil_sublist _ | apply List.Sublist.cons_cons | apply List.Sublist.cons)); done), ?_⟩
      refine WA.br2 (i := 2) (j := 6) (by kernel_rfl) ?_ ?_
      ·
        refine WS.eff rfl rfl rfl (by decide) (Ef.makeSliceD (enc := encI) 0 tab_ok rfl rfl rfl rfl rfl rfl (by (try dsimp only) <;> omega) (by (try dsimp only) <;> omega) (by (try dsimp only) <;> omega) (by (try dsimp only) <;> omega) (by decide) rfl rfl (fun a22 => ?_))
        refine ⟨RLe.refl _, (by (repeat (first | exact List.Sublist.refl _ | exact List.nil_sublist _ | apply List.Sublist.cons_cons | apply List.Sublist.cons)); done), ?_⟩
        -- build
        refine WA.take 5 rfl (by kernel_rfl) (by kernel_rfl) (by kernel_rfl) rfl rfl (by decide) (Yl.build (parts := [(0, .tmp 22), (1, .tmp 24)]) tab_ok rfl rfl rfl rfl (fun _ => rfl) rfl rfl) (by (repeat (first | exact List.Sublist.refl _ | exact List.nil_sublist _ | apply List.Sublist.cons_cons | apply List.Sublist.cons)); done) (by first | exact RLe.refl _ | assumption) ?_
        refine WA.eff 6 rfl (by kernel_rfl) rfl rfl (by decide) (Ef.alloc tab_ok rfl rfl (fun b11 => ?_))
        refine ⟨by first | exact RLe.refl _ | assumption, (by (repeat (first | exact List.Sublist.refl _ | exact List.nil_sublist _ | apply List.Sublist.cons_cons | apply List.Sublist.cons)); done), ?_⟩
        first | refine WA.effN 7 rfl (by kernel_rfl) rfl rfl (Ef.store0 0 tab_ok rfl rfl rfl rfl rfl rfl rfl rfl ?_) | refine WA.effN 7 rfl (by kernel_rfl) rfl rfl (Ef.store0 1 tab_ok rfl rfl rfl rfl rfl rfl rfl rfl ?_) | refine WA.effN 7 rfl (by kernel_rfl) rfl rfl (Ef.store0 2 tab_ok rfl rfl rfl rfl rfl rfl rfl rfl ?_) | refine WA.effN 7 rfl (by kernel_rfl) rfl rfl (Ef.store0 3 tab_ok rfl rfl rfl rfl rfl rfl rfl rfl ?_) | refine WA.effN 7 rfl (by kernel_rfl) rfl rfl (Ef.store0 4 tab_ok rfl rfl rfl rfl rfl rfl rfl rfl ?_) | refine WA.effN 7 rfl (by kernel_rfl) rfl rfl (Ef.store0 5 tab_ok rfl rfl rfl rfl rfl rfl rfl rfl ?_) | refine WA.effN 7 rfl (by kernel_rfl) rfl rfl (Ef.store0 6 tab_ok rfl rfl rfl rfl rfl rfl rfl rfl ?_) | refine WA.effN 7 rfl (by kernel_rfl) rfl rfl (Ef.store0 7 tab_ok rfl rfl rfl rfl rfl rfl rfl rfl ?_) | refine WA.effN 7 rfl (by kernel_rfl) rfl rfl (Ef.store0 8 tab_ok rfl rfl rfl rfl rfl rfl rfl rfl ?_)
        refine ⟨by first | exact RLe.refl _ | assumption, (by (repeat (first | exact List.Sublist.refl _ | exact List.nil_sublist _ | apply List.Sublist.cons_cons | apply List.Sublist.cons)); done), ?_⟩
        refine WA.done (by kernel_rfl) ?_
        refine WE.cutP (b11, a22, a24) trivial ⟨rfl, rfl, rfl, rfl, rfl, rfl, rfl, rfl⟩ (RLe.refl _) (by first | exact List.Perm.refl _ | exact perm3a _ _ _ _ | exact perm3b _ _ _ _ | exact perm3c _ _ _ _ | exact perm3d _ _ _ _ | exact perm3e _ _ _ _)
      ·
        refine WS.eff rfl rfl rfl (by decide) (Ef.alloc tab_ok rfl rfl (fun b11 => ?_))
        refine ⟨RLe.refl _, (by (repeat (first | exact List.Sublist.refl _ | exact List.nil_sublist _ | apply List.Sublist.cons_cons | apply List.Sublist.cons)); done), ?_⟩
        refine WA.eff 2 rfl (by kernel_rfl) rfl rfl (by decide) (Ef.makeSliceD (enc := encI) 0 tab_ok rfl rfl rfl rfl rfl rfl (by (try dsimp only) <;> omega) (by (try dsimp only) <;> omega) (by (try dsimp only) <;> omega) (by (try dsimp only) <;> omega) (by decide) rfl rfl (fun a22 => ?_))
        refine ⟨by first | exact RLe.refl _ | assumption, (by (repeat (first | exact List.Sublist.refl _ | exact List.nil_sublist _ | apply List.Sublist.cons_cons | apply List.Sublist.cons)); done), ?_⟩
        -- build
        refine WA.take 5 rfl (by kernel_rfl) (by kernel_rfl) (by kernel_rfl) rfl rfl (by decide) (Yl.build (parts := [(0, .tmp 22), (1, .tmp 24)]) tab_ok rfl rfl rfl rfl (fun _ => rfl) rfl rfl) (by (repeat (first | exact List.Sublist.refl _ | exact List.nil_sublist _ | apply List.Sublist.cons_cons | apply List.Sublist.cons)); done) (by first | exact RLe.refl _ | assumption) ?_
        first | refine WA.effN 7 rfl (by kernel_rfl) rfl rfl (Ef.store0 0 tab_ok rfl rfl rfl rfl rfl rfl rfl rfl ?_) | refine WA.effN 7 rfl (by kernel_rfl) rfl rfl (Ef.store0 1 tab_ok rfl rfl rfl rfl rfl rfl rfl rfl ?_) | refine WA.effN 7 rfl (by kernel_rfl) rfl rfl (Ef.store0 2 tab_ok rfl rfl rfl rfl rfl rfl rfl rfl ?_) | refine WA.effN 7 rfl (by kernel_rfl) rfl rfl (Ef.store0 3 tab_ok rfl rfl rfl rfl rfl rfl rfl rfl ?_) | refine WA.effN 7 rfl (by kernel_rfl) rfl rfl (Ef.store0 4 tab_ok rfl rfl rfl rfl rfl rfl rfl rfl ?_) | refine WA.effN 7 rfl (by kernel_rfl) rfl rfl (Ef.store0 5 tab_ok rfl rfl rfl rfl rfl rfl rfl rfl ?_) | refine WA.effN 7 rfl (by kernel_rfl) rfl rfl (Ef.store0 6 tab_ok rfl rfl rfl rfl rfl rfl rfl rfl ?_) | refine WA.effN 7 rfl (by kernel_rfl) rfl rfl (Ef.store0 7 tab_ok rfl rfl rfl rfl rfl rfl rfl rfl ?_) | refine WA.effN 7 rfl (by kernel_rfl) rfl rfl (Ef.store0 8 tab_ok rfl rfl rfl rfl rfl rfl rfl rfl ?_)
        refine ⟨by first | exact RLe.refl _ | assumption, (by (repeat (first | exact List.Sublist.refl _ | exact List.nil_sublist _ | apply List.Sublist.cons_cons | apply List.Sublist.cons)); done), ?_⟩
        refine WA.done (by kernel_rfl) ?_
        refine WE.cutP (b11, a22, a24) trivial ⟨rfl, rfl, rfl, rfl, rfl, rfl, rfl, rfl⟩ (RLe.refl _) (by first | exact List.Perm.refl _ | exact perm3a _ _ _ _ | exact perm3b _ _ _ _ | exact perm3c _ _ _ _ | exact perm3d _ _ _ _ | exact perm3e _ _ _ _)
    ·
      refine WS.eff rfl rfl rfl (by decide) (Ef.alloc tab_ok rfl rfl (fun b11 => ?_))
      refine ⟨RLe.refl _, (by (repeat (first | exact List.Sublist.refl _ | exact List.nil_sublist _ | apply List.Sublist.cons_cons | apply List.Sublist.cons)); done), ?_⟩
      refine WA.br2 (i := 2) (j := 4) (by kernel_rfl) ?_ ?_
      ·
        refine WS.eff rfl rfl rfl (by decide) (Ef.makeSliceD (enc := encI) 0 tab_ok rfl rfl rfl rfl rfl rfl (by (try dsimp only) <;> omega) (by (try dsimp only) <;> omega) (by (try dsimp only) <;> omega) (by (try dsimp only) <;> omega) (by decide) rfl rfl (fun a22 => ?_))
        refine ⟨RLe.refl _, (by (repeat (first | exact List.Sublist.refl _ | exact List.nil_sublist _ | apply List.Sublist.cons_cons | apply List.Sublist.cons)); done), ?_⟩
        refine WA.eff 4 rfl (by kernel_rfl) rfl rfl (by decide) (Ef.makeSliceD (enc := encS) ⟨none, 0, []⟩ tab_ok rfl rfl rfl rfl rfl rfl (by (try dsimp only) <;> omega) (by (try dsimp only) <;> omega) (by (try dsimp only) <;> omega) (by (try dsimp only) <;> omega) (by decide) rfl rfl (fun a24 => ?_))
        refine ⟨by first | exact RLe.refl _ | assumption, (by (repeat (first | exact List.Sublist.refl _ | exact List.nil_sublist _ | apply List.Sublist.cons_cons | apply List.Sublist.cons)); done), ?_⟩
        -- build
        refine WA.take 5 rfl (by kernel_rfl) (by kernel_rfl) (by kernel_rfl) rfl rfl (by decide) (Yl.build (parts := [(0, .tmp 22), (1, .tmp 24)]) tab_ok rfl rfl rfl rfl (fun _ => rfl) rfl rfl) (by (repeat (first | exact List.Sublist.refl _ | exact List.nil_sublist _ | apply List.Sublist.cons_cons | apply List.Sublist.cons)); done) (by first | exact RLe.refl _ | assumption) ?_
        first | refine WA.effN 7 rfl (by kernel_rfl) rfl rfl (Ef.store0 0 tab_ok rfl rfl rfl rfl rfl rfl rfl rfl ?_) | refine WA.effN 7 rfl (by kernel_rfl) rfl rfl (Ef.store0 1 tab_ok rfl rfl rfl rfl rfl rfl rfl rfl ?_) | refine WA.effN 7 rfl (by kernel_rfl) rfl rfl (Ef.store0 2 tab_ok rfl rfl rfl rfl rfl rfl rfl rfl ?_) | refine WA.effN 7 rfl (by kernel_rfl) rfl rfl (Ef.store0 3 tab_ok rfl rfl rfl rfl rfl rfl rfl rfl ?_) | refine WA.effN 7 rfl (by kernel_rfl) rfl rfl (Ef.store0 4 tab_ok rfl rfl rfl rfl rfl rfl rfl rfl ?_) | refine WA.effN 7 rfl (by kernel_rfl) rfl rfl (Ef.store0 5 tab_ok rfl rfl rfl rfl rfl rfl rfl rfl ?_) | refine WA.effN 7 rfl (by kernel_rfl) rfl rfl (Ef.store0 6 tab_ok rfl rfl rfl rfl rfl rfl rfl rfl ?_) | refine WA.effN 7 rfl (by kernel_rfl) rfl rfl (Ef.store0 7 tab_ok rfl rfl rfl rfl rfl rfl rfl rfl ?_) | refine WA.effN 7 rfl (by kernel_rfl) rfl rfl (Ef.store0 8 tab_ok rfl rfl rfl rfl rfl rfl rfl rfl ?_)
        refine ⟨by first | exact RLe.refl _ | assumption, (by (repeat (first | exact List.Sublist.refl _ | exact List.nil_sublist _ | apply List.Sublist.cons_cons | apply List.Sublist.cons)); done), ?_⟩
        refine WA.done (by kernel_rfl) ?_
        refine WE.cutP (b11, a22, a24) trivial ⟨rfl, rfl, rfl, rfl, rfl, rfl, rfl, rfl⟩ (RLe.refl _) (by first | exact List.Perm.refl _ | exact perm3a _ _ _ _ | exact perm3b _ _ _ _ | exact perm3c _ _ _ _ | exact perm3d _ _ _ _ | exact perm3e _ _ _ _)
      ·
        refine WS.eff rfl rfl rfl (by decide) (Ef.makeSliceD (enc := encS) ⟨none, 0, []⟩ tab_ok rfl rfl rfl rfl rfl rfl (by (try dsimp only) <;> omega) (by (try dsimp only) <;> omega) (by (try dsimp only) <;> omega) (by (try dsimp only) <;> omega) (by decide) rfl rfl (fun a24 => ?_))
        refine ⟨RLe.refl _, (by (repeat (first | exact List.Sublist.refl _ | exact List.nil_sublist _ | apply List.Sublist.cons_cons | apply List.Sublist.cons)); done), ?_⟩
        refine WA.eff 2 rfl (by kernel_rfl) rfl rfl (by decide) (Ef.makeSliceD (enc := encI) 0 tab_ok rfl rfl rfl rfl rfl rfl (by (try dsimp only) <;> omega) (by (try dsimp only) <;> omega) (by (try dsimp only) <;> omega) (by (try dsimp only) <;> omega) (by decide) rfl rfl (fun a22 => ?_))
        refine ⟨by first | exact RLe.refl _ | assumption, (by (repeat (first | exact List.Sublist.refl _ | exact List.nil_sublist _ | apply List.Sublist.cons_cons | apply List.Sublist.cons)); done), ?_⟩
        -- build
        refine WA.take 5 rfl (by kernel_rfl) (by kernel_rfl) (by kernel_rfl) rfl rfl (by decide) (Yl.build (parts := [(0, .tmp 22), (1, .tmp 24)]) tab_ok rfl rfl rfl rfl (fun _ => rfl) rfl rfl) (by (repeat (first | exact List.Sublist.refl _ | exact List.nil_sublist _ | apply List.Sublist.cons_cons | apply List.Sublist.cons)); done) (by first | exact RLe.refl _ | assumption) ?_
        first | refine WA.effN 7 rfl (by kernel_rfl) rfl rfl (Ef.store0 0 tab_ok rfl rfl rfl rfl rfl rfl rfl rfl ?_) | refine WA.effN 7 rfl (by kernel_rfl) rfl rfl (Ef.store0 1 tab_ok rfl rfl rfl rfl rfl rfl rfl rfl ?_) | refine WA.effN 7 rfl (by kernel_rfl) rfl rfl (Ef.store0 2 tab_ok rfl rfl rfl rfl rfl rfl rfl rfl ?_) | refine WA.effN 7 rfl (by kernel_rfl) rfl rfl (Ef.store0 3 tab_ok rfl rfl rfl rfl rfl rfl rfl rfl ?_) | refine WA.effN 7 rfl (by kernel_rfl) rfl rfl (Ef.store0 4 tab_ok rfl rfl rfl rfl rfl rfl rfl rfl ?_) | refine WA.effN 7 rfl (by kernel_rfl) rfl rfl (Ef.store0 5 tab_ok rfl rfl rfl rfl rfl rfl rfl rfl ?_) | refine WA.effN 7 rfl (by kernel_rfl) rfl rfl (Ef.store0 6 tab_ok rfl rfl rfl rfl rfl rfl rfl rfl ?_) | refine WA.effN 7 rfl (by kernel_rfl) rfl rfl (Ef.store0 7 tab_ok rfl rfl rfl rfl rfl rfl rfl rfl ?_) | refine WA.effN 7 rfl (by kernel_rfl) rfl rfl (Ef.store0 8 tab_ok rfl rfl rfl rfl rfl rfl rfl rfl ?_)
        refine ⟨by first | exact RLe.refl _ | assumption, (by (repeat (first | exact List.Sublist.refl _ | exact List.nil_sublist _ | apply List.Sublist.cons_cons | apply List.Sublist.cons)); done), ?_⟩
        refine WA.done (by kernel_rfl) ?_
        refine WE.cutP (b11, a22, a24) trivial ⟨rfl, rfl, rfl, rfl, rfl, rfl, rfl, rfl⟩ (RLe.refl _) (by first | exact List.Perm.refl _ | exact perm3a _ _ _ _ | exact perm3b _ _ _ _ | exact perm3c _ _ _ _ | exact perm3d _ _ _ _ | exact perm3e _ _ _ _)

end Go.Proofs.Ytcfnckccmkjjlaa

/- A trial. No condition. -/
set_option linter.unusedSimpArgs false
set_option linter.unusedVariables false
namespace Go.Proofs.Ytcfnckccmkjjlaa
open Go Go.RowKit Go.Proofs.Ytcfnckccmkjjlaa.K Go.Proofs.Ytcfnckccmkjjlaa.M

end Go.Proofs.Ytcfnckccmkjjlaa
