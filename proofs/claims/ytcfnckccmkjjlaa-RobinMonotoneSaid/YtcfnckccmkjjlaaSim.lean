/- The references' line, plain; and that it does what the machine does, whatever the choice. No condition. -/
import Derived.Test.YtcfnckccmkjjlaaWork
namespace Go.Proofs.Ytcfnckccmkjjlaa.M
open Go Go.Proofs.Ytcfnckccmkjjlaa.K

/-- the first number from a place on of which something is said -/
def findFrom (P : Nat → Bool) : Nat → Nat → Int
  | 0, _ => -1
  | k + 1, i => if P i then i else findFrom P k (i + 1)
def findN (P : Nat → Bool) (n : Nat) : Int := findFrom P n 0
theorem findFrom_cases (P : Nat → Bool) : ∀ (k a : Nat), (∃ i, a ≤ i ∧ i < a + k ∧ findFrom P k a = i ∧ P i = true ∧ ∀ j, a ≤ j → j < i → P j = false) ∨ (findFrom P k a = -1 ∧ ∀ j, a ≤ j → j < a + k → P j = false)
  | 0, a => .inr ⟨rfl, fun j h1 h2 => by omega⟩
  | k + 1, a => by
    simp only [findFrom]
    cases hp : P a with
    | true =>
      left
      exact ⟨a, Nat.le_refl _, by omega, by simp, hp, fun j h1 h2 => by omega⟩
    | false =>
      rcases findFrom_cases P k (a + 1) with ⟨i, h1, h2, h3, h4, h5⟩ | ⟨h1, h2⟩
      · left
        refine ⟨i, by omega, by omega, by simpa using h3, h4, fun j h6 h7 => ?_⟩
        by_cases e : j = a
        · subst e; exact hp
        · exact h5 j (by omega) h7
      · right
        refine ⟨by simpa using h1, fun j h6 h7 => ?_⟩
        by_cases e : j = a
        · subst e; exact hp
        · exact h2 j (by omega) (by omega)
theorem findN_cases (P : Nat → Bool) (n : Nat) : (∃ i, i < n ∧ findN P n = i ∧ P i = true ∧ ∀ j, j < i → P j = false) ∨ (findN P n = -1 ∧ ∀ j, j < n → P j = false) := by
  rcases findFrom_cases P n 0 with ⟨i, h1, h2, h3, h4, h5⟩ | ⟨h1, h2⟩
  · exact .inl ⟨i, by omega, h3, h4, fun j hj => h5 j (by omega) hj⟩
  · exact .inr ⟨h1, fun j hj => h2 j (by omega) (by omega)⟩
theorem findN_some {P : Nat → Bool} {n i : Nat} (hi : i < n) (hP : P i = true) (h : ∀ j, j < i → P j = false) : findN P n = i := by
  rcases findN_cases P n with ⟨k, h1, h2, h3, h4⟩ | ⟨h1, h2⟩
  · rcases Nat.lt_trichotomy i k with h5 | h5 | h5
    · rw [h4 i h5] at hP; cases hP
    · subst h5; exact h2
    · rw [h k h5] at h3; cases h3
  · rw [h2 i hi] at hP; cases hP
theorem findN_none {P : Nat → Bool} {n : Nat} (h : ∀ j, j < n → P j = false) : findN P n = -1 := by
  rcases findN_cases P n with ⟨k, h1, h2, h3, h4⟩ | ⟨h1, h2⟩
  · rw [h k h1] at h3; cases h3
  · exact h1

/-- the state of a reference's line -/
structure St where
  time : Nat
  given : List Int
  now : Int
  done : List Int
  sent : List (List Int)
def waits (ps : List Pkt) (st : St) (i : Nat) : Bool := decide ((nth ps i).time ≤ (st.time : Int)) && (nth st.given i == 0) && (st.now != (i : Int))
def firstW (ps : List Pkt) (st : St) (cls : Int) : Int := findN (fun i => (cls == -1 || (nth ps i).flow == cls) && waits ps st i) ps.length
def rbegin (st : St) : St := { st with sent := st.sent.map fun l => l ++ [nth l (l.length - 1)] }
def rsendN (ps : List Pkt) (most : Int) (st : St) : Int :=
  if (nth ps st.now.toNat).size - nth st.given st.now.toNat < most then (nth ps st.now.toNat).size - nth st.given st.now.toNat else most
def rsend (ps : List Pkt) (most : Int) (st : St) : St :=
  let i := st.now.toNat
  let n := rsendN ps most st
  let f := (nth ps i).flow.toNat
  let l := nth st.sent f
  let g := nth st.given i + n
  { st with given := st.given.set i g, sent := st.sent.set f (l.set (l.length - 1) (nth l (l.length - 1) + n)),
            done := if g = (nth ps i).size then st.done.set i st.time else st.done, now := if g = (nth ps i).size then -1 else st.now }
section
variable {τ : Type} (ps : List Pkt) (rc : St → τ → Int × τ)
def rpick (st : St) (g : τ) : Int × τ := if st.now = -1 then rc st g else (st.now, g)
def rinner : Nat → Int → St → τ → St × τ
  | 0, _, st, g => (st, g)
  | k + 1, left, st, g =>
    if left ≤ 0 then (st, g) else
      let r := rpick rc st g
      let st1 := { st with now := r.1 }
      if r.1 = -1 then (st1, r.2) else rinner k (left - rsendN ps left st1) (rsend ps left st1) r.2
def rtick (cap : Int) (st : St) (g : τ) : St × τ :=
  let x := rinner ps rc cap.toNat cap (rbegin st) g
  ({ x.1 with time := x.1.time + 1 }, x.2)
def rticks (cap : Int) : Nat → St → τ → St × τ
  | 0, st, g => (st, g)
  | k + 1, st, g => rticks cap k (rtick ps rc cap st g).1 (rtick ps rc cap st g).2
def rstart (classes : Nat) : St := { time := 0, given := List.replicate ps.length 0, now := -1, done := List.replicate ps.length (-1), sent := List.replicate classes [0] }
def rrun (cap : Int) (classes ticks : Nat) (g : τ) : St := (rticks ps rc cap ticks (rstart ps classes) g).1
end

structure Sm {σ : Type} (ps : List Pkt) (s : RS σ) (st : St) : Prop where
  glen : st.given.length = ps.length
  now : st.now = if s.cur < 0 then -1 else s.cur
  giv : ∀ i, i < ps.length → nth st.given i = if s.cur = i then (nth ps i).size - s.rest else if nth s.ms.begun i = true then (nth ps i).size else 0
  done : st.done = s.done
  sent : st.sent = s.sent
section
variable {σ τ : Type} {ps : List Pkt} {ch : MS → σ → Int × Nat × σ} {good : MS → σ → Prop} {rel : Nat → Nat → Prop} {classes col : Nat} {s : RS σ} {st : St} {g : τ} {rc : St → τ → Int × τ} {ρ : σ → τ → Prop}
theorem Sm.waits (h : Sm ps s st) (hw : Wk ps classes good rel col s) (hs : ∀ p ∈ ps, 1 ≤ p.size) (ht : (st.time : Int) = s.ms.now) {i : Nat} (hi : i < ps.length) : waits ps st i = (decide ((nth ps i).time ≤ s.ms.now) && !nth s.ms.begun i) := by
  have hz := hs _ (nth_mem hi)
  unfold M.waits
  rw [ht, h.giv i hi, h.now]
  by_cases hc : s.cur = i
  · have := (hw.cur (by omega)).2.1
    rw [hc] at this
    simp only [Int.toNat_natCast] at this
    have e : ((if s.cur < 0 then -1 else s.cur) != (i : Int)) = false := by rw [if_neg (show ¬ s.cur < 0 by omega)]; simp [hc]
    rw [e, this]
    simp
  · rw [if_neg hc]
    have hne : ((if s.cur < 0 then -1 else s.cur) != (i : Int)) = true := by
      split
      · simp
      · simpa using hc
    rw [hne]
    cases hb : nth s.ms.begun i with
    | true =>
      have : ((nth ps i).size == 0) = false := by simp; omega
      simp [this]
    | false => simp
/-- what a reference's choice must do beside that of the program -/
def Alike {σ τ : Type} (ps : List Pkt) (ch : MS → σ → Int × Nat × σ) (good : MS → σ → Prop) (rc : St → τ → Int × τ) (ρ : σ → τ → Prop) : Prop :=
  ∀ (ms : MS) (sg : σ) (st : St) (g : τ), good ms sg → ms.begun.length = ps.length → ρ sg g → (st.time : Int) = ms.now → st.now = -1 → (∀ i, i < ps.length → waits ps st i = (decide ((nth ps i).time ≤ ms.now) && !nth ms.begun i)) →
    (rc st g).1 = (if (ch ms sg).1 < 0 then -1 else (ch ms sg).1) ∧ ρ (ch ms sg).2.2 (rc st g).2
theorem Sm.pickup (hg : Fair ps ch good rel) (hs : ∀ p ∈ ps, 1 ≤ p.size) (hal : Alike ps ch good rc ρ) (h : Sm ps s st) (hw : Wk ps classes good rel col s) (hr : ρ s.sg g) (ht : (st.time : Int) = s.ms.now) :
    Sm ps (pickup ps ch s) { st with now := (rpick rc st g).1 } ∧ ρ (pickup ps ch s).sg (rpick rc st g).2 ∧ (rpick rc st g).1 = (if (pickup ps ch s).cur < 0 then -1 else (pickup ps ch s).cur) := by
  unfold M.pickup rpick
  have hnow := h.now
  by_cases hc : 0 ≤ s.cur
  · rw [if_pos hc]
    rw [if_neg (show ¬ s.cur < 0 by omega)] at hnow
    rw [if_neg (by omega)]
    refine ⟨⟨h.glen, ?_, h.giv, h.done, h.sent⟩, hr, ?_⟩
    · dsimp only; rw [if_neg (by omega)]; exact hnow
    · dsimp only; rw [if_neg (by omega)]; exact hnow
  · rw [if_neg hc]
    rw [if_pos (show s.cur < 0 by omega)] at hnow
    rw [if_pos hnow]
    obtain ⟨a1, a2⟩ := hal s.ms s.sg st g hw.good hw.blen hr ht hnow (fun i hi => h.waits hw hs ht hi)
    by_cases hr' : (ch s.ms s.sg).1 < 0
    · simp only [hr', if_true] at a1 ⊢
      refine ⟨⟨h.glen, by dsimp only; rw [if_pos hr', a1], fun i hi => ?_, h.done, h.sent⟩, a2, a1⟩
      dsimp only
      rw [h.giv i hi, if_neg (show ¬ s.cur = (i : Int) by omega), if_neg (show ¬ (ch s.ms s.sg).1 = (i : Int) by omega)]
    · simp only [hr', if_false] at a1 ⊢
      have hi' := hg.idx _ _ hw.good hw.blen (by omega)
      have hwt := hg.waits _ _ hw.good hw.blen (by omega)
      refine ⟨⟨h.glen, by dsimp only; rw [if_neg hr', a1], fun i hi => ?_, h.done, h.sent⟩, a2, a1⟩
      dsimp only
      rw [h.giv i hi, if_neg (show ¬ s.cur = i by omega)]
      by_cases e : (ch s.ms s.sg).1 = i
      · rw [if_pos e]
        rw [e] at hwt ⊢
        simp only [Int.toNat_natCast] at hwt ⊢
        rw [hwt.1]; simp
      · rw [if_neg e, nth_set_ne (by omega)]
theorem Sm.send {t : Nat} (h : Sm ps s st) (hw : Wk ps classes good rel (t + 1) s) (hfl : ∀ p ∈ ps, 0 ≤ p.flow ∧ p.flow < classes) (ht : (st.time : Int) = (t : Int)) (hc : 0 ≤ s.cur) :
    Sm ps (send ps t s) (rsend ps s.ms.left st) ∧ s.ms.left - rsendN ps s.ms.left st = (send ps t s).ms.left := by
  obtain ⟨c1, c2, c3⟩ := hw.cur hc
  have hi : s.cur.toNat < ps.length := by omega
  have hnow : st.now = s.cur := by rw [h.now, if_neg (by omega)]
  have hgiv : nth st.given s.cur.toNat = (nth ps s.cur.toNat).size - s.rest := by rw [h.giv _ hi, if_pos (by omega)]
  have hf : (nth ps s.cur.toNat).flow.toNat < s.sent.length := by rw [hw.slen]; have := hfl _ (nth_mem hi); omega
  have hrow := hw.rlen _ (nth_mem hf)
  have hn : rsendN ps s.ms.left st = if s.ms.left < s.rest then s.ms.left else s.rest := by
    unfold rsendN
    rw [hnow, hgiv]
    split <;> split <;> omega
  unfold rsend M.send
  rw [hn]
  generalize (if s.ms.left < s.rest then s.ms.left else s.rest) = n
  dsimp only
  rw [hnow, hgiv, h.sent]
  have hl : (nth s.sent (nth ps s.cur.toNat).flow.toNat).length - 1 = t + 1 := by omega
  rw [hl]
  have hz : ((nth ps s.cur.toNat).size - s.rest + n = (nth ps s.cur.toNat).size) ↔ s.rest - n = 0 := by omega
  refine ⟨⟨by simp [h.glen], ?_, fun i hi2 => ?_, ?_, rfl⟩, rfl⟩
  · dsimp only
    by_cases e : s.rest - n = 0
    · rw [if_pos (hz.2 e), if_pos e]; rfl
    · rw [if_neg (fun h => e (hz.1 h)), if_neg e, if_neg (by omega)]
  · dsimp only
    by_cases e2 : s.cur.toNat = i
    · subst e2
      rw [nth_set_self (by rw [h.glen]; exact hi), c2]
      by_cases e : s.rest - n = 0
      · rw [if_pos e, if_neg (by omega), if_pos rfl]; omega
      · rw [if_neg e, if_pos (by omega)]; omega
    · rw [nth_set_ne e2, h.giv i hi2, if_neg (show ¬ s.cur = (i : Int) by omega)]
      by_cases e : s.rest - n = 0
      · rw [if_pos e, if_neg (show ¬ (-1 : Int) = (i : Int) by omega)]
      · rw [if_neg e, if_neg (show ¬ s.cur = (i : Int) by omega)]
  · dsimp only
    rw [h.done, ht]
    by_cases e : s.rest - n = 0
    · rw [if_pos (hz.2 e), if_pos e]
    · rw [if_neg (fun h => e (hz.1 h)), if_neg e]
theorem rsend_time (ps : List Pkt) (l : Int) (st : St) : (rsend ps l st).time = st.time := rfl
theorem Sm.inner (hg : Fair ps ch good rel) (hs : ∀ p ∈ ps, 1 ≤ p.size) (hfl : ∀ p ∈ ps, 0 ≤ p.flow ∧ p.flow < classes) (hal : Alike ps ch good rc ρ) {t : Nat} : ∀ (j : Nat) (s : RS σ) (st : St) (g : τ), Sm ps s st → Wk ps classes good rel (t + 1) s → ρ s.sg g → st.time = t → s.ms.now = t →
    Sm ps (inner ps ch t j s) (rinner ps rc j s.ms.left st g).1 ∧ ρ (inner ps ch t j s).sg (rinner ps rc j s.ms.left st g).2 ∧ (rinner ps rc j s.ms.left st g).1.time = t
  | 0, s, st, g, h, hw, hr, ht, hn => ⟨h, hr, ht⟩
  | j + 1, s, st, g, h, hw, hr, ht, hn => by
    simp only [M.inner, rinner]
    by_cases hl : s.ms.left ≤ 0
    · rw [if_pos hl, if_pos hl]; exact ⟨h, hr, ht⟩
    · rw [if_neg hl, if_neg hl]
      obtain ⟨p1, p2, p3⟩ := h.pickup hg hs hal hw hr (by omega)
      have hp := hw.pickup hg hs
      obtain ⟨e1, e2, e3, e4⟩ := pickup_same ps ch s
      by_cases hc : (M.pickup ps ch s).cur < 0
      · rw [if_pos hc] at p3 ⊢
        rw [if_pos p3]
        exact ⟨p1, p2, ht⟩
      · rw [if_neg hc] at p3 ⊢
        rw [if_neg (by omega)]
        obtain ⟨q1, q2⟩ := p1.send hp hfl (t := t) (by dsimp only; omega) (by omega)
        obtain ⟨g1, g2, g3, g4, g5, g6⟩ := hp.send hfl hg.free (by rw [e2]; exact hn) (by omega) (by rw [e1]; omega)
        rw [e1] at q1 q2
        rw [q2]
        exact Sm.inner hg hs hfl hal j _ _ _ q1 g1 p2 ht (by rw [g5, e2]; exact hn)
theorem Sm.tick (hg : Fair ps ch good rel) (hs : ∀ p ∈ ps, 1 ≤ p.size) (hfl : ∀ p ∈ ps, 0 ≤ p.flow ∧ p.flow < classes) (hal : Alike ps ch good rc ρ) {t : Nat} {cap : Int} (h : Sm ps s st) (hw : Wk ps classes good rel t s) (hr : ρ s.sg g) (ht : st.time = t) (hnow : s.ms.now ≤ t) :
    Sm ps (tick ps ch cap t s) (rtick ps rc cap st g).1 ∧ ρ (tick ps ch cap t s).sg (rtick ps rc cap st g).2 ∧ (rtick ps rc cap st g).1.time = t + 1 := by
  have h1 : Sm ps { s with ms := { s.ms with now := t, left := cap }, sent := s.sent.map fun l => l ++ [nth l t] } (rbegin st) := by
    refine ⟨h.glen, h.now, h.giv, h.done, ?_⟩
    unfold rbegin
    dsimp only
    rw [h.sent]
    apply List.map_congr_left
    intro l hl
    have := hw.rlen l hl
    rw [show l.length - 1 = t by omega]
  have hrow : ∀ l ∈ s.sent, nth (l ++ [nth l t]) (t + 1) = nth l t := fun l hl => by
    have := hw.rlen l hl
    unfold nth List.getD
    rw [List.getElem?_append_right (by omega), this]; simp
  have h2 : Wk ps classes good rel (t + 1) { s with ms := { s.ms with now := t, left := cap }, sent := s.sent.map fun l => l ++ [nth l t] } := by
    refine ⟨hg.free _ _ _ _ hw.good, hw.dlen, hw.blen, by simp [hw.slen], fun l hl => ?_, hw.cur, hw.open_, fun i hi hb hne => ?_, fun i hi hb => ?_, hw.ord, hw.dord, by dsimp only; rw [colSum_map _ hrow]; exact hw.sum⟩
    · obtain ⟨l', h2, rfl⟩ := List.mem_map.1 hl
      simp [hw.rlen l' h2]
    · have := hw.shut i hi hb hne
      dsimp only; omega
    · have := hw.time i hi hb
      dsimp only; omega
  obtain ⟨k1, k2, k3⟩ := Sm.inner hg hs hfl hal (t := t) cap.toNat _ (rbegin st) g h1 h2 hr ht rfl
  unfold M.tick rtick
  dsimp only at k1 k2 k3 ⊢
  exact ⟨⟨k1.glen, k1.now, k1.giv, k1.done, k1.sent⟩, k2, by omega⟩
theorem sim_ticks (hg : Fair ps ch good rel) (hs : ∀ p ∈ ps, 1 ≤ p.size) (hfl : ∀ p ∈ ps, 0 ≤ p.flow ∧ p.flow < classes) (hal : Alike ps ch good rc ρ) {cap : Int} (hcap : 0 ≤ cap) : ∀ (m t : Nat) (s : RS σ) (st : St) (g : τ), Sm ps s st → Wk ps classes good rel t s → ρ s.sg g → st.time = t → s.ms.now ≤ t →
    Sm ps (ticksFrom ps ch cap t m s) (rticks ps rc cap m st g).1
  | 0, t, s, st, g, h, hw, hr, ht, hn => h
  | m + 1, t, s, st, g, h, hw, hr, ht, hn => by
    obtain ⟨k1, k2, k3⟩ := h.tick hg hs hfl hal (cap := cap) hw hr ht hn
    obtain ⟨g1, g2, g3, g4⟩ := hw.tick hg hs hfl hcap hn
    exact sim_ticks hg hs hfl hal hcap m (t + 1) _ _ _ k1 g1 k2 k3 (by rw [g2]; omega)
/-- the reference's run is the program's -/
theorem sim_run (hg : Fair ps ch good rel) (hs : ∀ p ∈ ps, 1 ≤ p.size) (hfl : ∀ p ∈ ps, 0 ≤ p.flow ∧ p.flow < classes) (hal : Alike ps ch good rc ρ) {cap : Int} (hcap : 0 ≤ cap) {sg : σ} {g : τ} (hst : good (start ps classes sg).ms sg) (hr : ρ sg g) (m : Nat) :
    (rrun ps rc cap classes m g).done = (mrun ps ch cap classes m sg).done ∧ (rrun ps rc cap classes m g).sent = (mrun ps ch cap classes m sg).sent := by
  have h0 : Sm ps (start ps classes sg) (rstart ps classes) := by
    refine ⟨by simp [rstart], by simp [start, rstart], fun i hi => ?_, rfl, rfl⟩
    show nth (List.replicate ps.length 0) i = if (-1 : Int) = (i : Int) then (nth ps i).size - 0 else if nth (List.replicate ps.length false) i = true then (nth ps i).size else 0
    rw [nth_replicate hi, nth_replicate hi, if_neg (show ¬ (-1 : Int) = (i : Int) by omega)]
    simp
  have := sim_ticks hg hs hfl hal hcap m 0 _ _ _ h0 (Wk.start hst) hr rfl (by simp [start])
  exact ⟨this.done, this.sent⟩
end
/-! ### first in, first out -/
def fifoR (ps : List Pkt) (st : St) (_ : Unit) : Int × Unit := (firstW ps st (-1), ())
theorem first_any {ps : List Pkt} {ms : MS} {st : St} (hsort : ps.Pairwise fun a b => a.time ≤ b.time) (hgd : goodB ps ms) (hbl : ms.begun.length = ps.length)
    (hw : ∀ i, i < ps.length → waits ps st i = (decide ((nth ps i).time ≤ ms.now) && !nth ms.begun i)) : firstW ps st (-1) = if firstR ps ms < 0 then -1 else firstR ps ms := by
  by_cases h0 : firstR ps ms < 0
  · rw [if_pos h0]
    refine findN_none fun j hj => ?_
    rw [hw j hj]
    by_cases ht : (nth ps j).time ≤ ms.now
    · rw [firstR_none hsort hgd hbl h0 j hj ht]; simp
    · simp [ht]
  · rw [if_neg h0]
    obtain ⟨h1, h2, h3, h4⟩ := firstR_some hgd hbl (by omega)
    have : firstW ps st (-1) = ((firstR ps ms).toNat : Int) := by
      refine findN_some h1 ?_ fun j hj => ?_
      · rw [hw _ h1, h2]; simp [h3]
      · rw [hw j (by omega), h4 j hj]; simp
    rw [this]; omega
theorem fifo_alike {ps : List Pkt} (hsort : ps.Pairwise fun a b => a.time ≤ b.time) : Alike ps (fifo ps) (goodFB ps) (fifoR ps) (fun _ _ => True) :=
  fun _ _ _ _ hgd hbl _ _ _ hw => ⟨first_any hsort hgd hbl hw, trivial⟩
end Go.Proofs.Ytcfnckccmkjjlaa.M
