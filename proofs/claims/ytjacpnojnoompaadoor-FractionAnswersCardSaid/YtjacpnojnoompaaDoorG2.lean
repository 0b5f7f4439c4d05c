/- Rules and walks, joined from 14 texts: the first of them says: The references' line, plain; and that it does what the machine does, whatever the choice. No condition. -/
import Derived.Test.YtjacpnojnoompaaDoorG1
import Derived.Shelf.Strconv.AtoiAll
import Derived.Lib.AtoiTie
import Derived.Shelf.Strconv.Itoa3
import Derived.Shelf.Strconv.Atoi
import Derived.Shelf.Strings.Cut
/- The references' line, plain; and that it does what the machine does, whatever the choice. No condition. -/
namespace Go.Proofs.YtjacpnojnoompaaDoor.M
open Go Go.Proofs.YtjacpnojnoompaaDoor.K

/-- the first number from a place on of which something is said -/
def findFrom (P : Nat → Bool) : Nat → Nat → Int
  | 0, _ => -1
  | k + 1, i => if P i then i else findFrom P k (i + 1)
def findN (P : Nat → Bool) (n : Nat) : Int := findFrom P n 0
theorem findFrom_cases (P : Nat → Bool) : ∀ (k a : Nat), (∃ i, a ≤ i ∧ i < a + k ∧ findFrom P k a = i ∧ P i = true ∧ ∀ j, a ≤ j → j < i → P j = false) ∨ (findFrom P k a = -1 ∧ ∀ j, a ≤ j → j < a + k → P j = false)
  | 0, a => .inr ⟨rfl, fun j h1 h2 => by omega⟩
  | k + 1, a => by
    simp only [findFrom]
    cases hp : P a with
    | true =>
      left
      exact ⟨a, Nat.le_refl _, by omega, by simp, hp, fun j h1 h2 => by omega⟩
    | false =>
      rcases findFrom_cases P k (a + 1) with ⟨i, h1, h2, h3, h4, h5⟩ | ⟨h1, h2⟩
      · left
        refine ⟨i, by omega, by omega, by simpa using h3, h4, fun j h6 h7 => ?_⟩
        by_cases e : j = a
        · subst e; exact hp
        · exact h5 j (by omega) h7
      · right
        refine ⟨by simpa using h1, fun j h6 h7 => ?_⟩
        by_cases e : j = a
        · subst e; exact hp
        · exact h2 j (by omega) (by omega)
theorem findN_cases (P : Nat → Bool) (n : Nat) : (∃ i, i < n ∧ findN P n = i ∧ P i = true ∧ ∀ j, j < i → P j = false) ∨ (findN P n = -1 ∧ ∀ j, j < n → P j = false) := by
  rcases findFrom_cases P n 0 with ⟨i, h1, h2, h3, h4, h5⟩ | ⟨h1, h2⟩
  · exact .inl ⟨i, by omega, h3, h4, fun j hj => h5 j (by omega) hj⟩
  · exact .inr ⟨h1, fun j hj => h2 j (by omega) (by omega)⟩
theorem findN_some {P : Nat → Bool} {n i : Nat} (hi : i < n) (hP : P i = true) (h : ∀ j, j < i → P j = false) : findN P n = i := by
  rcases findN_cases P n with ⟨k, h1, h2, h3, h4⟩ | ⟨h1, h2⟩
  · rcases Nat.lt_trichotomy i k with h5 | h5 | h5
    · rw [h4 i h5] at hP; cases hP
    · subst h5; exact h2
    · rw [h k h5] at h3; cases h3
  · rw [h2 i hi] at hP; cases hP
theorem findN_none {P : Nat → Bool} {n : Nat} (h : ∀ j, j < n → P j = false) : findN P n = -1 := by
  rcases findN_cases P n with ⟨k, h1, h2, h3, h4⟩ | ⟨h1, h2⟩
  · rw [h k h1] at h3; cases h3
  · exact h1

/-- the state of a reference's line -/
structure St where
  time : Nat
  given : List Int
  now : Int
  done : List Int
  sent : List (List Int)
def waits (ps : List Pkt) (st : St) (i : Nat) : Bool := decide ((nth ps i).time ≤ (st.time : Int)) && (nth st.given i == 0) && (st.now != (i : Int))
def firstW (ps : List Pkt) (st : St) (cls : Int) : Int := findN (fun i => (cls == -1 || (nth ps i).flow == cls) && waits ps st i) ps.length
def rbegin (st : St) : St := { st with sent := st.sent.map fun l => l ++ [nth l (l.length - 1)] }
def rsendN (ps : List Pkt) (most : Int) (st : St) : Int :=
  if (nth ps st.now.toNat).size - nth st.given st.now.toNat < most then (nth ps st.now.toNat).size - nth st.given st.now.toNat else most
def rsend (ps : List Pkt) (most : Int) (st : St) : St :=
  let i := st.now.toNat
  let n := rsendN ps most st
  let f := (nth ps i).flow.toNat
  let l := nth st.sent f
  let g := nth st.given i + n
  { st with given := st.given.set i g, sent := st.sent.set f (l.set (l.length - 1) (nth l (l.length - 1) + n)),
            done := if g = (nth ps i).size then st.done.set i st.time else st.done, now := if g = (nth ps i).size then -1 else st.now }
section
variable {τ : Type} (ps : List Pkt) (rc : St → τ → Int × τ)
def rpick (st : St) (g : τ) : Int × τ := if st.now = -1 then rc st g else (st.now, g)
def rinner : Nat → Int → St → τ → St × τ
  | 0, _, st, g => (st, g)
  | k + 1, left, st, g =>
    if left ≤ 0 then (st, g) else
      let r := rpick rc st g
      let st1 := { st with now := r.1 }
      if r.1 = -1 then (st1, r.2) else rinner k (left - rsendN ps left st1) (rsend ps left st1) r.2
def rtick (cap : Int) (st : St) (g : τ) : St × τ :=
  let x := rinner ps rc cap.toNat cap (rbegin st) g
  ({ x.1 with time := x.1.time + 1 }, x.2)
def rticks (cap : Int) : Nat → St → τ → St × τ
  | 0, st, g => (st, g)
  | k + 1, st, g => rticks cap k (rtick ps rc cap st g).1 (rtick ps rc cap st g).2
def rstart (classes : Nat) : St := { time := 0, given := List.replicate ps.length 0, now := -1, done := List.replicate ps.length (-1), sent := List.replicate classes [0] }
def rrun (cap : Int) (classes ticks : Nat) (g : τ) : St := (rticks ps rc cap ticks (rstart ps classes) g).1
end

structure Sm {σ : Type} (ps : List Pkt) (s : RS σ) (st : St) : Prop where
  glen : st.given.length = ps.length
  now : st.now = if s.cur < 0 then -1 else s.cur
  giv : ∀ i, i < ps.length → nth st.given i = if s.cur = i then (nth ps i).size - s.rest else if nth s.ms.begun i = true then (nth ps i).size else 0
  done : st.done = s.done
  sent : st.sent = s.sent
section
variable {σ τ : Type} {ps : List Pkt} {ch : MS → σ → Int × Nat × σ} {good : MS → σ → Prop} {rel : Nat → Nat → Prop} {classes col : Nat} {s : RS σ} {st : St} {g : τ} {rc : St → τ → Int × τ} {ρ : σ → τ → Prop}
theorem Sm.waits (h : Sm ps s st) (hw : Wk ps classes good rel col s) (hs : ∀ p ∈ ps, 1 ≤ p.size) (ht : (st.time : Int) = s.ms.now) {i : Nat} (hi : i < ps.length) : waits ps st i = (decide ((nth ps i).time ≤ s.ms.now) && !nth s.ms.begun i) := by
  have hz := hs _ (nth_mem hi)
  unfold M.waits
  rw [ht, h.giv i hi, h.now]
  by_cases hc : s.cur = i
  · have := (hw.cur (by omega)).2.1
    rw [hc] at this
    simp only [Int.toNat_natCast] at this
    have e : ((if s.cur < 0 then -1 else s.cur) != (i : Int)) = false := by rw [if_neg (show ¬ s.cur < 0 by omega)]; simp [hc]
    rw [e, this]
    simp
  · rw [if_neg hc]
    have hne : ((if s.cur < 0 then -1 else s.cur) != (i : Int)) = true := by
      split
      · simp
      · simpa using hc
    rw [hne]
    cases hb : nth s.ms.begun i with
    | true =>
      have : ((nth ps i).size == 0) = false := by simp; omega
      simp [this]
    | false => simp
/-- what a reference's choice must do beside that of the program -/
def Alike {σ τ : Type} (ps : List Pkt) (ch : MS → σ → Int × Nat × σ) (good : MS → σ → Prop) (rc : St → τ → Int × τ) (ρ : σ → τ → Prop) : Prop :=
  ∀ (ms : MS) (sg : σ) (st : St) (g : τ), good ms sg → ms.begun.length = ps.length → ρ sg g → (st.time : Int) = ms.now → st.now = -1 → (∀ i, i < ps.length → waits ps st i = (decide ((nth ps i).time ≤ ms.now) && !nth ms.begun i)) →
    (rc st g).1 = (if (ch ms sg).1 < 0 then -1 else (ch ms sg).1) ∧ ρ (ch ms sg).2.2 (rc st g).2
theorem Sm.pickup (hg : Fair ps ch good rel) (hs : ∀ p ∈ ps, 1 ≤ p.size) (hal : Alike ps ch good rc ρ) (h : Sm ps s st) (hw : Wk ps classes good rel col s) (hr : ρ s.sg g) (ht : (st.time : Int) = s.ms.now) :
    Sm ps (pickup ps ch s) { st with now := (rpick rc st g).1 } ∧ ρ (pickup ps ch s).sg (rpick rc st g).2 ∧ (rpick rc st g).1 = (if (pickup ps ch s).cur < 0 then -1 else (pickup ps ch s).cur) := by
  unfold M.pickup rpick
  have hnow := h.now
  by_cases hc : 0 ≤ s.cur
  · rw [if_pos hc]
    rw [if_neg (show ¬ s.cur < 0 by omega)] at hnow
    rw [if_neg (by omega)]
    refine ⟨⟨h.glen, ?_, h.giv, h.done, h.sent⟩, hr, ?_⟩
    · dsimp only; rw [if_neg (by omega)]; exact hnow
    · dsimp only; rw [if_neg (by omega)]; exact hnow
  · rw [if_neg hc]
    rw [if_pos (show s.cur < 0 by omega)] at hnow
    rw [if_pos hnow]
    obtain ⟨a1, a2⟩ := hal s.ms s.sg st g hw.good hw.blen hr ht hnow (fun i hi => h.waits hw hs ht hi)
    by_cases hr' : (ch s.ms s.sg).1 < 0
    · simp only [hr', if_true] at a1 ⊢
      refine ⟨⟨h.glen, by dsimp only; rw [if_pos hr', a1], fun i hi => ?_, h.done, h.sent⟩, a2, a1⟩
      dsimp only
      rw [h.giv i hi, if_neg (show ¬ s.cur = (i : Int) by omega), if_neg (show ¬ (ch s.ms s.sg).1 = (i : Int) by omega)]
    · simp only [hr', if_false] at a1 ⊢
      have hi' := hg.idx _ _ hw.good hw.blen (by omega)
      have hwt := hg.waits _ _ hw.good hw.blen (by omega)
      refine ⟨⟨h.glen, by dsimp only; rw [if_neg hr', a1], fun i hi => ?_, h.done, h.sent⟩, a2, a1⟩
      dsimp only
      rw [h.giv i hi, if_neg (show ¬ s.cur = i by omega)]
      by_cases e : (ch s.ms s.sg).1 = i
      · rw [if_pos e]
        rw [e] at hwt ⊢
        simp only [Int.toNat_natCast] at hwt ⊢
        rw [hwt.1]; simp
      · rw [if_neg e, nth_set_ne (by omega)]
theorem Sm.send {t : Nat} (h : Sm ps s st) (hw : Wk ps classes good rel (t + 1) s) (hfl : ∀ p ∈ ps, 0 ≤ p.flow ∧ p.flow < classes) (ht : (st.time : Int) = (t : Int)) (hc : 0 ≤ s.cur) :
    Sm ps (send ps t s) (rsend ps s.ms.left st) ∧ s.ms.left - rsendN ps s.ms.left st = (send ps t s).ms.left := by
  obtain ⟨c1, c2, c3⟩ := hw.cur hc
  have hi : s.cur.toNat < ps.length := by omega
  have hnow : st.now = s.cur := by rw [h.now, if_neg (by omega)]
  have hgiv : nth st.given s.cur.toNat = (nth ps s.cur.toNat).size - s.rest := by rw [h.giv _ hi, if_pos (by omega)]
  have hf : (nth ps s.cur.toNat).flow.toNat < s.sent.length := by rw [hw.slen]; have := hfl _ (nth_mem hi); omega
  have hrow := hw.rlen _ (nth_mem hf)
  have hn : rsendN ps s.ms.left st = if s.ms.left < s.rest then s.ms.left else s.rest := by
    unfold rsendN
    rw [hnow, hgiv]
    split <;> split <;> omega
  unfold rsend M.send
  rw [hn]
  generalize (if s.ms.left < s.rest then s.ms.left else s.rest) = n
  dsimp only
  rw [hnow, hgiv, h.sent]
  have hl : (nth s.sent (nth ps s.cur.toNat).flow.toNat).length - 1 = t + 1 := by omega
  rw [hl]
  have hz : ((nth ps s.cur.toNat).size - s.rest + n = (nth ps s.cur.toNat).size) ↔ s.rest - n = 0 := by omega
  refine ⟨⟨by simp [h.glen], ?_, fun i hi2 => ?_, ?_, rfl⟩, rfl⟩
  · dsimp only
    by_cases e : s.rest - n = 0
    · rw [if_pos (hz.2 e), if_pos e]; rfl
    · rw [if_neg (fun h => e (hz.1 h)), if_neg e, if_neg (by omega)]
  · dsimp only
    by_cases e2 : s.cur.toNat = i
    · subst e2
      rw [nth_set_self (by rw [h.glen]; exact hi), c2]
      by_cases e : s.rest - n = 0
      · rw [if_pos e, if_neg (by omega), if_pos rfl]; omega
      · rw [if_neg e, if_pos (by omega)]; omega
    · rw [nth_set_ne e2, h.giv i hi2, if_neg (show ¬ s.cur = (i : Int) by omega)]
      by_cases e : s.rest - n = 0
      · rw [if_pos e, if_neg (show ¬ (-1 : Int) = (i : Int) by omega)]
      · rw [if_neg e, if_neg (show ¬ s.cur = (i : Int) by omega)]
  · dsimp only
    rw [h.done, ht]
    by_cases e : s.rest - n = 0
    · rw [if_pos (hz.2 e), if_pos e]
    · rw [if_neg (fun h => e (hz.1 h)), if_neg e]
theorem Sm.inner (hg : Fair ps ch good rel) (hs : ∀ p ∈ ps, 1 ≤ p.size) (hfl : ∀ p ∈ ps, 0 ≤ p.flow ∧ p.flow < classes) (hal : Alike ps ch good rc ρ) {t : Nat} : ∀ (j : Nat) (s : RS σ) (st : St) (g : τ), Sm ps s st → Wk ps classes good rel (t + 1) s → ρ s.sg g → st.time = t → s.ms.now = t →
    Sm ps (inner ps ch t j s) (rinner ps rc j s.ms.left st g).1 ∧ ρ (inner ps ch t j s).sg (rinner ps rc j s.ms.left st g).2 ∧ (rinner ps rc j s.ms.left st g).1.time = t
  | 0, s, st, g, h, hw, hr, ht, hn => ⟨h, hr, ht⟩
  | j + 1, s, st, g, h, hw, hr, ht, hn => by
    simp only [M.inner, rinner]
    by_cases hl : s.ms.left ≤ 0
    · rw [if_pos hl, if_pos hl]; exact ⟨h, hr, ht⟩
    · rw [if_neg hl, if_neg hl]
      obtain ⟨p1, p2, p3⟩ := h.pickup hg hs hal hw hr (by omega)
      have hp := hw.pickup hg hs
      obtain ⟨e1, e2, e3, e4⟩ := pickup_same ps ch s
      by_cases hc : (M.pickup ps ch s).cur < 0
      · rw [if_pos hc] at p3 ⊢
        rw [if_pos p3]
        exact ⟨p1, p2, ht⟩
      · rw [if_neg hc] at p3 ⊢
        rw [if_neg (by omega)]
        obtain ⟨q1, q2⟩ := p1.send hp hfl (t := t) (by dsimp only; omega) (by omega)
        obtain ⟨g1, g2, g3, g4, g5, g6⟩ := hp.send hfl hg.free (by rw [e2]; exact hn) (by omega) (by rw [e1]; omega)
        rw [e1] at q1 q2
        rw [q2]
        exact Sm.inner hg hs hfl hal j _ _ _ q1 g1 p2 ht (by rw [g5, e2]; exact hn)
theorem Sm.tick (hg : Fair ps ch good rel) (hs : ∀ p ∈ ps, 1 ≤ p.size) (hfl : ∀ p ∈ ps, 0 ≤ p.flow ∧ p.flow < classes) (hal : Alike ps ch good rc ρ) {t : Nat} {cap : Int} (h : Sm ps s st) (hw : Wk ps classes good rel t s) (hr : ρ s.sg g) (ht : st.time = t) (hnow : s.ms.now ≤ t) :
    Sm ps (tick ps ch cap t s) (rtick ps rc cap st g).1 ∧ ρ (tick ps ch cap t s).sg (rtick ps rc cap st g).2 ∧ (rtick ps rc cap st g).1.time = t + 1 := by
  have h1 : Sm ps { s with ms := { s.ms with now := t, left := cap }, sent := s.sent.map fun l => l ++ [nth l t] } (rbegin st) := by
    refine ⟨h.glen, h.now, h.giv, h.done, ?_⟩
    unfold rbegin
    dsimp only
    rw [h.sent]
    apply List.map_congr_left
    intro l hl
    have := hw.rlen l hl
    rw [show l.length - 1 = t by omega]
  have hrow : ∀ l ∈ s.sent, nth (l ++ [nth l t]) (t + 1) = nth l t := fun l hl => by
    have := hw.rlen l hl
    unfold nth List.getD
    rw [List.getElem?_append_right (by omega), this]; simp
  have h2 : Wk ps classes good rel (t + 1) { s with ms := { s.ms with now := t, left := cap }, sent := s.sent.map fun l => l ++ [nth l t] } := by
    refine ⟨hg.free _ _ _ _ hw.good, hw.dlen, hw.blen, by simp [hw.slen], fun l hl => ?_, hw.cur, hw.open_, fun i hi hb hne => ?_, fun i hi hb => ?_, hw.ord, hw.dord, by dsimp only; rw [colSum_map _ hrow]; exact hw.sum⟩
    · obtain ⟨l', h2, rfl⟩ := List.mem_map.1 hl
      simp [hw.rlen l' h2]
    · have := hw.shut i hi hb hne
      dsimp only; omega
    · have := hw.time i hi hb
      dsimp only; omega
  obtain ⟨k1, k2, k3⟩ := Sm.inner hg hs hfl hal (t := t) cap.toNat _ (rbegin st) g h1 h2 hr ht rfl
  unfold M.tick rtick
  dsimp only at k1 k2 k3 ⊢
  exact ⟨⟨k1.glen, k1.now, k1.giv, k1.done, k1.sent⟩, k2, by omega⟩
end
/-! ### first in, first out -/
def fifoR (ps : List Pkt) (st : St) (_ : Unit) : Int × Unit := (firstW ps st (-1), ())
end Go.Proofs.YtjacpnojnoompaaDoor.M

/- What stays true in a reference's run, plain. No condition. -/
namespace Go.Proofs.YtjacpnojnoompaaDoor.M
open Go Go.Proofs.YtjacpnojnoompaaDoor.K

structure RInv (ps : List Pkt) (classes len : Nat) (B : Int) (st : St) : Prop where
  glen : st.given.length = ps.length
  dlen : st.done.length = ps.length
  slen : st.sent.length = classes
  rows : ∀ l ∈ st.sent, l.length = len ∧ ∀ x ∈ l, 0 ≤ x ∧ x ≤ B
  now : st.now = -1 ∨ (0 ≤ st.now ∧ st.now < ps.length ∧ nth st.given st.now.toNat < (nth ps st.now.toNat).size)
  giv : ∀ i, i < ps.length → 0 ≤ nth st.given i ∧ nth st.given i ≤ (nth ps i).size
section
variable {ps : List Pkt} {classes len : Nat} {B : Int} {st : St}
theorem RInv.mono {B' : Int} (h : RInv ps classes len B st) (hb : B ≤ B') : RInv ps classes len B' st :=
  ⟨h.glen, h.dlen, h.slen, fun l hl => ⟨(h.rows l hl).1, fun x hx => by have := (h.rows l hl).2 x hx; omega⟩, h.now, h.giv⟩
theorem RInv.start (hs : ∀ p ∈ ps, 1 ≤ p.size) : RInv ps classes 1 0 (rstart ps classes) := by
  refine ⟨by simp [rstart], by simp [rstart], by simp [rstart], fun l hl => ?_, .inl rfl, fun i hi => ?_⟩
  · have : l = [0] := List.eq_of_mem_replicate hl
    subst this
    exact ⟨rfl, fun x hx => by simp at hx; omega⟩
  · have := hs _ (nth_mem hi)
    simp only [rstart]
    rw [nth_replicate hi]; omega
theorem RInv.begin (h : RInv ps classes len B st) (hl : 0 < len) : RInv ps classes (len + 1) B (rbegin st) := by
  refine ⟨h.glen, h.dlen, by simp [rbegin, h.slen], fun l hl' => ?_, h.now, h.giv⟩
  obtain ⟨l', h1, rfl⟩ := List.mem_map.1 hl'
  have h2 := h.rows l' h1
  refine ⟨by simp [h2.1], fun x hx => ?_⟩
  rcases List.mem_append.1 hx with hx | hx
  · exact h2.2 x hx
  · obtain rfl : x = nth l' (l'.length - 1) := by simpa using hx
    exact h2.2 _ (nth_mem (by omega))
theorem RInv.tick (h : RInv ps classes len B st) : RInv ps classes len B { st with time := st.time + 1 } := ⟨h.glen, h.dlen, h.slen, h.rows, h.now, h.giv⟩
/-- a choice of what waits -/
def Waiting {τ : Type} (ps : List Pkt) (rc : St → τ → Int × τ) : Prop := ∀ st g, (rc st g).1 = -1 ∨ (0 ≤ (rc st g).1 ∧ (rc st g).1 < ps.length ∧ waits ps st (rc st g).1.toNat = true)
theorem RInv.pick {τ : Type} {rc : St → τ → Int × τ} {g : τ} (h : RInv ps classes len B st) (hs : ∀ p ∈ ps, 1 ≤ p.size) (hrc : Waiting ps rc) : RInv ps classes len B { st with now := (rpick rc st g).1 } := by
  refine ⟨h.glen, h.dlen, h.slen, h.rows, ?_, h.giv⟩
  unfold rpick
  split
  · rcases hrc st g with h1 | ⟨h1, h2, h3⟩
    · exact .inl h1
    · refine .inr ⟨h1, h2, ?_⟩
      unfold waits at h3
      simp only [Bool.and_eq_true, beq_iff_eq] at h3
      have := hs _ (nth_mem (xs := ps) (k := (rc st g).1.toNat) (by omega))
      dsimp only
      omega
  · exact h.now
theorem RInv.send (h : RInv ps classes len B st) (hfl : ∀ p ∈ ps, 0 ≤ p.flow ∧ p.flow < classes) (hl : 0 < len) (hn : st.now ≠ -1) {most : Int} (hm : 0 < most) :
    RInv ps classes len (B + rsendN ps most st) (rsend ps most st) ∧ 1 ≤ rsendN ps most st ∧ rsendN ps most st ≤ most := by
  obtain ⟨n1, n2, n3⟩ := h.now.resolve_left hn
  have hi : st.now.toNat < ps.length := by omega
  have hf : (nth ps st.now.toNat).flow.toNat < st.sent.length := by rw [h.slen]; have := hfl _ (nth_mem hi); omega
  have hrow := h.rows _ (nth_mem hf)
  have hg := h.giv _ hi
  have hb : 1 ≤ rsendN ps most st ∧ rsendN ps most st ≤ most ∧ nth st.given st.now.toNat + rsendN ps most st ≤ (nth ps st.now.toNat).size := by unfold rsendN; split <;> omega
  have hlast : 0 ≤ nth (nth st.sent (nth ps st.now.toNat).flow.toNat) ((nth st.sent (nth ps st.now.toNat).flow.toNat).length - 1) ∧ nth (nth st.sent (nth ps st.now.toNat).flow.toNat) ((nth st.sent (nth ps st.now.toNat).flow.toNat).length - 1) ≤ B := hrow.2 _ (nth_mem (by omega))
  refine ⟨?_, hb.1, hb.2.1⟩
  unfold rsend
  generalize rsendN ps most st = n at hb ⊢
  dsimp only
  refine ⟨by simp [h.glen], ?_, by simp [h.slen], fun l hl' => ?_, ?_, fun i hi2 => ?_⟩
  · dsimp only; split <;> simp [h.dlen]
  · rcases List.mem_or_eq_of_mem_set hl' with h1 | rfl
    · have := h.rows l h1
      exact ⟨this.1, fun x hx => by have := this.2 x hx; omega⟩
    · refine ⟨by simp [hrow.1], fun x hx => ?_⟩
      rcases List.mem_or_eq_of_mem_set hx with h2 | rfl
      · have := hrow.2 x h2; omega
      · omega
  · dsimp only
    by_cases e : nth st.given st.now.toNat + n = (nth ps st.now.toNat).size
    · rw [if_pos e]; exact .inl rfl
    · rw [if_neg e]
      refine .inr ⟨n1, n2, ?_⟩
      rw [nth_set_self (by rw [h.glen]; exact hi)]; omega
  · dsimp only
    by_cases e : st.now.toNat = i
    · subst e; rw [nth_set_self (by rw [h.glen]; exact hi)]; omega
    · rw [nth_set_ne e]; exact h.giv i hi2
end
end Go.Proofs.YtjacpnojnoompaaDoor.M

/- Curves, plain: normal forms of functions that repeat. No condition. -/
namespace Go.Proofs.YtjacpnojnoompaaDoor.M
open Go Go.Proofs.YtjacpnojnoompaaDoor.K

def INF : Int := 4611686018427387904
def MAXV : Int := 1073741824
/-- the first values of a function -/
def fvals (F : Nat → Int) (n : Nat) : List Int := (List.range n).map F
theorem fvals_len (F : Nat → Int) (n : Nat) : (fvals F n).length = n := by simp [fvals]
theorem fvals_nth (F : Nat → Int) {n i : Nat} (h : i < n) : nth (fvals F n) i = F i := range_map_nth F h
theorem fvals_take (F : Nat → Int) {n k : Nat} (h : k ≤ n) : (fvals F n).take k = fvals F k := by
  refine nth_ext (by simp [fvals]; omega) (fun i hi => ?_)
  have hi' : i < k := by simp [fvals] at hi; omega
  rw [fvals_nth F hi']
  unfold nth List.getD
  rw [List.getElem?_take, if_pos hi']
  exact fvals_nth F (by omega)
theorem fvals_drop (F : Nat → Int) {n k : Nat} (h : k ≤ n) : (fvals F n).drop k = fvals (fun t => F (k + t)) (n - k) := by
  refine nth_ext (by simp [fvals]) (fun i hi => ?_)
  have hi' : i < n - k := by simp [fvals] at hi; omega
  rw [fvals_nth _ hi']
  unfold nth List.getD
  rw [List.getElem?_drop]
  exact fvals_nth F (by omega)
/-! ### the least period and the start -/
/-- it grows by I in P ticks from S on -/
def Grows (F : Nat → Int) (S P : Nat) (I : Int) : Prop := ∀ t, S ≤ t → F (t + P) = F t + I
theorem Grows.mono {F : Nat → Int} {S S' P : Nat} {I : Int} (h : Grows F S P I) (hs : S ≤ S') : Grows F S' P I := fun t ht => h t (by omega)
theorem Grows.mul {F : Nat → Int} {S P : Nat} {I : Int} (h : Grows F S P I) : ∀ (k t : Nat), S ≤ t → F (t + k * P) = F t + k * I
  | 0, t, _ => by simp
  | k + 1, t, ht => by
    rw [show t + (k + 1) * P = (t + k * P) + P by rw [Nat.add_mul]; omega, h _ (by omega), Grows.mul h k t ht, Int.natCast_add, Int.add_mul]
    simp; omega
/-- a window shows it -/
def PerOk (F : Nat → Int) (S P : Nat) (I : Int) (p : Nat) : Prop := P % p = 0 ∧ (I * p) % P = 0 ∧ ∀ t, S ≤ t → t < S + P → F (t + p) = F t + I * p / P
theorem PerOk.all {F : Nat → Int} {S P : Nat} {I : Int} {p : Nat} (hP : 0 < P) (hg : Grows F S P I) (h : PerOk F S P I p) : Grows F S p (I * p / P) := by
  intro t
  induction t using Nat.strongRecOn with
  | _ t ih =>
    intro ht
    by_cases hw : t < S + P
    · exact h.2.2 t ht hw
    · have h1 := ih (t - P) (by omega) (by omega)
      have h2 := hg (t - P) (by omega)
      have h3 := hg (t - P + p) (by omega)
      rw [show t - P + P = t by omega] at h2
      rw [show t - P + p + P = t + p by omega] at h3
      omega
theorem PerOk.move {F : Nat → Int} {S S' P : Nat} {I : Int} {p : Nat} (hP : 0 < P) (hg : Grows F S P I) (hg' : Grows F S' P I) (h : PerOk F S P I p) : PerOk F S' P I p := by
  refine ⟨h.1, h.2.1, fun t ht _ => ?_⟩
  have ha := h.all hP hg (t + S * P) (by have := Nat.le_mul_of_pos_right S hP; omega)
  have h1 := hg'.mul S t ht
  have h2 := hg'.mul S (t + p) (by omega)
  rw [show t + S * P + p = t + p + S * P by omega] at ha
  omega
theorem PerOk.self {F : Nat → Int} {S P : Nat} {I : Int} (hP : 0 < P) (hg : Grows F S P I) : PerOk F S P I P := by
  refine ⟨Nat.mod_self P, Int.mul_emod_left I P, fun t ht _ => ?_⟩
  rw [Int.mul_ediv_cancel _ (by omega)]
  exact hg t ht
/-- the least number from 1 on -/
def LeastN (Q : Nat → Prop) (p : Nat) : Prop := 1 ≤ p ∧ Q p ∧ ∀ r, 1 ≤ r → r < p → ¬ Q r
theorem LeastN.unique {Q Q' : Nat → Prop} {p p' : Nat} (h : LeastN Q p) (h' : LeastN Q' p') (hq : ∀ r, Q r ↔ Q' r) : p = p' := by
  rcases Nat.lt_trichotomy p p' with h1 | h1 | h1
  · exact absurd ((hq p).1 h.2.1) (h'.2.2 p h.1 h1)
  · exact h1
  · exact absurd ((hq p').2 h'.2.1) (h.2.2 p' h'.1 h1)
/-- from where on it grows so -/
def Starts (F : Nat → Int) (p : Nat) (q : Int) (s : Nat) : Prop := Grows F s p q ∧ (s = 0 ∨ F (s - 1 + p) ≠ F (s - 1) + q)
theorem Starts.unique {F : Nat → Int} {p : Nat} {q : Int} {s s' : Nat} (h : Starts F p q s) (h' : Starts F p q s') : s = s' := by
  rcases Nat.lt_trichotomy s s' with h1 | h1 | h1
  · rcases h'.2 with h2 | h2
    · omega
    · exact absurd (h.1 (s' - 1) (by omega)) h2
  · exact h1
  · rcases h.2 with h2 | h2
    · omega
    · exact absurd (h'.1 (s - 1) (by omega)) h2

/-! ### what the program does -/
def leastOk (v : List Int) (inc : Int) (p : Nat) : Bool :=
  v.length % p == 0 && (inc * p) % v.length == 0 && (List.range v.length).all fun i => (if i + p < v.length then nth v (i + p) else nth v (i + p - v.length) + inc) == nth v i + inc * p / v.length
def leastL (v : List Int) (inc : Int) : Nat :=
  if findFrom (leastOk v inc) (v.length - 1) 1 = -1 then v.length else (findFrom (leastOk v inc) (v.length - 1) 1).toNat
def downL (v : List Int) (p : Nat) (q : Int) : Nat → Nat
  | 0 => 0
  | s + 1 => if nth v s + q = nth v (s + p) then downL v p q s else s + 1
/-- a curve: values, period, increment -/
structure Cv where
  vals : List Int
  per : Int
  inc : Int
def zcv : Cv := ⟨[], 0, 0⟩
def checkedE (v : List Int) : Int := if 400 < v.length ∨ (v.any fun x => x != INF && decide (x > MAXV)) = true then 3 else 0
def checkedL (v : List Int) (p : Int) (q : Int) : Cv × Int := if checkedE v = 3 then (zcv, 3) else (⟨v, p, q⟩, 0)
def finL (v : List Int) (S P : Nat) (I : Int) : Cv × Int :=
  let p := leastL (v.drop S) I
  let q := I * p / P
  let s := downL v p q S
  if 120 < p ∨ MAXV < q then (zcv, 3) else checkedL (v.take (s + p)) p q
def infAt (F : Nat → Int) (n : Nat) : Int := findFrom (fun t => F t == INF) n 0
def mbuild (F : Nat → Int) (S P : Nat) (I : Int) : Cv × Int :=
  if infAt F (S + P) = -1 then finL (fvals F (S + P)) S P I else checkedL (fvals F ((infAt F (S + P)).toNat + 1)) 1 0

theorem leastOk_iff {F : Nat → Int} {S P : Nat} {I : Int} {p : Nat} (hg : Grows F S P I) (hp : p ≤ P) : leastOk (fvals (fun t => F (S + t)) P) I p = true ↔ PerOk F S P I p := by
  unfold leastOk PerOk
  simp only [fvals_len, Bool.and_eq_true, beq_iff_eq, List.all_eq_true, List.mem_range]
  have key : ∀ i, i < P → (if i + p < P then nth (fvals (fun t => F (S + t)) P) (i + p) else nth (fvals (fun t => F (S + t)) P) (i + p - P) + I) = F (S + i + p) := fun i hi => by
    split
    · rename_i h; rw [fvals_nth _ h, Nat.add_assoc]
    · rename_i h
      rw [fvals_nth _ (by omega), ← hg _ (by omega)]
      congr 1; omega
  constructor
  · rintro ⟨⟨h1, h2⟩, h3⟩
    refine ⟨h1, h2, fun t ht htp => ?_⟩
    have := h3 (t - S) (by omega)
    rw [key _ (by omega), fvals_nth _ (by omega), show S + (t - S) = t by omega] at this
    exact this
  · rintro ⟨h1, h2, h3⟩
    refine ⟨⟨h1, h2⟩, fun i hi => ?_⟩
    rw [key i hi, fvals_nth _ hi]
    exact h3 _ (by omega) (by omega)
theorem leastL_is {F : Nat → Int} {S P : Nat} {I : Int} (hP : 0 < P) (hg : Grows F S P I) : LeastN (PerOk F S P I) (leastL (fvals (fun t => F (S + t)) P) I) ∧ leastL (fvals (fun t => F (S + t)) P) I ≤ P := by
  unfold leastL
  rw [fvals_len]
  rcases findFrom_cases (leastOk (fvals (fun t => F (S + t)) P) I) (P - 1) 1 with ⟨i, h1, h2, h3, h4, h5⟩ | ⟨h1, h2⟩
  · rw [h3, if_neg (by omega), Int.toNat_natCast]
    refine ⟨⟨h1, (leastOk_iff hg (by omega)).1 h4, fun r hr hri hq => ?_⟩, by omega⟩
    have := h5 r hr hri
    rw [(leastOk_iff hg (by omega)).2 hq] at this
    cases this
  · rw [h1, if_pos rfl]
    refine ⟨⟨hP, PerOk.self hP hg, fun r hr hri hq => ?_⟩, Nat.le_refl _⟩
    have := h2 r hr (by omega)
    rw [(leastOk_iff hg (by omega)).2 hq] at this
    cases this
theorem downL_is {F : Nat → Int} {p n : Nat} {q : Int} : ∀ (s : Nat), s + p ≤ n → Grows F s p q → Starts F p q (downL (fvals F n) p q s) ∧ downL (fvals F n) p q s ≤ s
  | 0, _, h => ⟨⟨h, .inl rfl⟩, Nat.le_refl _⟩
  | s + 1, hn, h => by
    simp only [downL]
    rw [fvals_nth F (show s < n by omega)]
    by_cases hp : s + p < n
    · rw [fvals_nth F hp]
      split
      · rename_i he
        have := downL_is (F := F) (p := p) (n := n) (q := q) s (by omega) (fun t ht => by
          by_cases hts : t = s
          · subst hts; exact he.symm
          · exact h t (by omega))
        exact ⟨this.1, by omega⟩
      · rename_i he
        exact ⟨⟨h, .inr (by simpa using fun h => he h.symm)⟩, Nat.le_refl _⟩
    · omega

/-! ### what it is -/
/-- the normal form of a finite function -/
structure NF (F : Nat → Int) (S P : Nat) (I : Int) (p s : Nat) : Prop where
  least : LeastN (PerOk F S P I) p
  starts : Starts F p (I * p / P) s
theorem NF.unique {F : Nat → Int} {S S' P : Nat} {I : Int} {p p' s s' : Nat} (hP : 0 < P) (hg : Grows F S P I) (hg' : Grows F S' P I) (h : NF F S P I p s) (h' : NF F S' P I p' s') : p = p' ∧ s = s' := by
  have hp := h.least.unique h'.least (fun r => ⟨fun hr => hr.move hP hg hg', fun hr => hr.move hP hg' hg⟩)
  subst hp
  exact ⟨rfl, h.starts.unique h'.starts⟩
def nfE (F : Nat → Int) (p s : Nat) (q : Int) : Int := if 120 < p ∨ MAXV < q ∨ 400 < s + p ∨ ((List.range (s + p)).any fun i => decide (F i > MAXV)) = true then 3 else 0
def nfC (F : Nat → Int) (p s : Nat) (q : Int) : Cv × Int := if nfE F p s q = 3 then (zcv, 3) else (⟨fvals F (s + p), p, q⟩, 0)
theorem finL_nf {F : Nat → Int} {S P : Nat} {I : Int} (hP : 0 < P) (hg : Grows F S P I) (hf : ∀ t, t < S + P → F t ≠ INF) :
    ∃ p s, NF F S P I p s ∧ p ≤ P ∧ s ≤ S ∧ finL (fvals F (S + P)) S P I = nfC F p s (I * p / P) := by
  have hd : (fvals F (S + P)).drop S = fvals (fun t => F (S + t)) P := by rw [fvals_drop F (by omega)]; congr 1; omega
  obtain ⟨h1, h2⟩ := leastL_is hP hg
  have h3 := h1.2.1.all hP hg
  obtain ⟨h4, h5⟩ := downL_is (n := S + P) S (by omega) h3
  refine ⟨_, _, ⟨h1, h4⟩, h2, h5, ?_⟩
  unfold finL
  rw [hd]
  generalize leastL (fvals (fun t => F (S + t)) P) I = p at h1 h2 h3 h4 h5 ⊢
  generalize hs : downL (fvals F (S + P)) p (I * p / P) S = s at h4 h5 ⊢
  dsimp only
  rw [hs, fvals_take F (by omega)]
  unfold nfC nfE checkedL checkedE
  rw [fvals_len]
  have hany : (fvals F (s + p)).any (fun x => x != INF && decide (x > MAXV)) = (List.range (s + p)).any fun i => decide (F i > MAXV) := by
    unfold fvals
    rw [List.any_map, Bool.eq_iff_iff]
    simp only [List.any_eq_true, List.mem_range, Function.comp, Bool.and_eq_true, decide_eq_true_eq]
    constructor
    · rintro ⟨i, h1, h2⟩; exact ⟨i, h1, h2.2⟩
    · rintro ⟨i, h1, h2⟩; exact ⟨i, h1, by simpa using hf i (by omega), h2⟩
  rw [hany]
  by_cases a : 120 < p ∨ MAXV < I * p / P
  · rw [if_pos a, if_pos (by rw [if_pos]; rcases a with a | a; exact .inl a; exact .inr (.inl a))]
  · rw [if_neg a]
    by_cases b : 400 < s + p ∨ ((List.range (s + p)).any fun i => decide (F i > MAXV)) = true
    · rw [if_pos (if_pos b), if_pos (if_pos (.inr (.inr b)))]
    · rw [if_neg (show ¬ (if 400 < s + p ∨ ((List.range (s + p)).any fun i => decide (F i > MAXV)) = true then (3 : Int) else 0) = 3 by rw [if_neg b]; decide),
        if_neg (show ¬ (if 120 < p ∨ MAXV < I * p / P ∨ 400 < s + p ∨ ((List.range (s + p)).any fun i => decide (F i > MAXV)) = true then (3 : Int) else 0) = 3 by
          rw [if_neg (fun h => by rcases h with h | h | h; exact a (.inl h); exact a (.inr h); exact b h)]; decide)]

/-! ### what the references do -/
def perR (c : Cv) (start : Int) (p : Int) : Bool :=
  c.per.tmod p == 0 && (c.inc * p).tmod c.per == 0 && (List.range c.per.toNat).all fun i => atR c.vals c.per c.inc (start + i + p) == atR c.vals c.per c.inc (start + i) + c.inc * p / c.per
def leastR (c : Cv) : Nat := (findFrom (fun p => perR c (c.vals.length - c.per) p) (c.per.toNat) 1).toNat
def downR (c : Cv) (p : Int) (q : Int) : Nat → Nat
  | 0 => 0
  | s + 1 => if atR c.vals c.per c.inc ((s : Int) + p) = atR c.vals c.per c.inc s + q then downR c p q s else s + 1
def infL (l : List Int) : Int := findFrom (fun i => nth l i == INF) l.length 0
def normR (c : Cv) : Cv :=
  if infL c.vals = -1 then
    let p := leastR c
    let q := c.inc * p / c.per
    let s := downR c p q (c.vals.length - c.per).toNat
    ⟨(List.range (s + p)).map fun (t : Nat) => atR c.vals c.per c.inc (t : Int), p, q⟩
  else ⟨c.vals.take ((infL c.vals).toNat + 1), 1, 0⟩
def sortedB : Int → List Int → Bool
  | _, [] => true
  | a, x :: xs => decide (a ≤ x) && sortedB x xs
def validB (c : Cv) : Bool :=
  decide (1 ≤ c.vals.length) && decide (c.vals.length ≤ 400) && decide (1 ≤ c.per) && decide (c.per ≤ 120) && decide (c.per ≤ c.vals.length) && decide (0 ≤ c.inc) && decide (c.inc ≤ MAXV) &&
  (List.range c.vals.length).all (fun i => (nth c.vals i == INF || (decide (0 ≤ nth c.vals i) && decide (nth c.vals i ≤ MAXV))) && (i == 0 || decide (nth c.vals (i - 1) ≤ nth c.vals i))) &&
  (if nth c.vals (c.vals.length - 1) = INF then c.per == 1 && c.inc == 0 else decide (nth c.vals (c.vals.length - 1) ≤ nth c.vals (c.vals.length - c.per.toNat) + c.inc))
def madeR (c : Cv) : Cv × Int := if validB (normR c) then (normR c, 0) else (zcv, 3)

section
variable {F : Nat → Int} {S P : Nat} {I : Int}
theorem atR_fvals (hP : 0 < P) (hg : Grows F S P I) (hf : ∀ t, t < S + P → F t ≠ INF) (t : Nat) : atR (fvals F (S + P)) P I (t : Int) = F t := by
  unfold atR
  rw [fvals_len, if_neg (by omega)]
  by_cases h : t < S + P
  · rw [if_pos (by omega), Int.toNat_natCast, fvals_nth F h]
  · rw [if_neg (by omega)]
    obtain ⟨d, rfl⟩ : ∃ d, t = S + P + d := ⟨t - (S + P), by omega⟩
    have e1 : (((S + P + d : Nat) : Int) - ((S + P : Nat) : Int)) / (P : Int) = ((d / P : Nat) : Int) := by
      rw [show ((S + P + d : Nat) : Int) - ((S + P : Nat) : Int) = (d : Int) by omega]; rfl
    rw [e1]
    have h1 : d / P * P ≤ d := Nat.div_mul_le_self d P
    have h2 : d < (d / P + 1) * P := Nat.lt_mul_of_div_lt (Nat.lt_succ_self _) hP
    have h3 : (d / P + 1) * P = d / P * P + P := by rw [Nat.add_mul]; omega
    have e2 : (((S + P + d : Nat) : Int) - (((d / P : Nat) : Int) + 1) * (P : Int)).toNat = S + d - d / P * P := by
      have : (((d / P : Nat) : Int) + 1) * (P : Int) = (((d / P + 1) * P : Nat) : Int) := by simp
      rw [this, h3]; omega
    rw [e2, fvals_nth F (show S + d - d / P * P < S + P by omega)]
    have hne : ¬ F (S + d - d / P * P) = 4611686018427387904 := hf _ (by omega)
    rw [if_neg hne]
    have := hg.mul (d / P + 1) (S + d - d / P * P) (by omega)
    rw [show S + d - d / P * P + (d / P + 1) * P = S + P + d by omega] at this
    rw [this]; simp
theorem tmod_zero {a : Int} {b : Nat} (ha : 0 ≤ a) : (a.tmod (b : Int) == 0) = decide (a % (b : Int) = 0) := by
  rw [Int.tmod_eq_emod_of_nonneg ha]
  rfl
theorem perR_iff (hP : 0 < P) (hI : 0 ≤ I) (hg : Grows F S P I) (hf : ∀ t, t < S + P → F t ≠ INF) (p : Nat) : perR ⟨fvals F (S + P), P, I⟩ ((((fvals F (S + P)).length : Nat) : Int) - (P : Int)) (p : Int) = true ↔ PerOk F S P I p := by
  unfold perR PerOk
  dsimp only
  rw [fvals_len, show ((S + P : Nat) : Int) - (P : Int) = (S : Int) by omega, tmod_zero (by omega), tmod_zero (Int.mul_nonneg hI (by omega)), Int.toNat_natCast]
  simp only [Bool.and_eq_true, decide_eq_true_eq, List.all_eq_true, List.mem_range, beq_iff_eq]
  have e : ∀ i : Nat, atR (fvals F (S + P)) P I ((S : Int) + i + p) = F (S + i + p) ∧ atR (fvals F (S + P)) P I ((S : Int) + i) = F (S + i) := fun i => by
    have h1 := atR_fvals hP hg hf (S + i + p)
    have h2 := atR_fvals hP hg hf (S + i)
    simp only [Int.natCast_add] at h1 h2
    exact ⟨h1, h2⟩
  have e3 : ((P : Int) % (p : Int) = 0) ↔ P % p = 0 := by omega
  rw [e3, and_assoc]
  constructor
  · rintro ⟨h1, h2, h3⟩
    refine ⟨h1, h2, fun t ht htp => ?_⟩
    have := h3 (t - S) (by omega)
    rw [(e _).1, (e _).2, show S + (t - S) = t by omega] at this
    exact this
  · rintro ⟨h1, h2, h3⟩
    refine ⟨h1, h2, fun i hi => ?_⟩
    rw [(e i).1, (e i).2]
    exact h3 _ (by omega) (by omega)
theorem leastR_is (hP : 0 < P) (hI : 0 ≤ I) (hg : Grows F S P I) (hf : ∀ t, t < S + P → F t ≠ INF) : LeastN (PerOk F S P I) (leastR ⟨fvals F (S + P), P, I⟩) ∧ leastR ⟨fvals F (S + P), P, I⟩ ≤ P := by
  unfold leastR
  dsimp only
  rw [Int.toNat_natCast]
  rcases findFrom_cases (fun p => perR ⟨fvals F (S + P), P, I⟩ ((((fvals F (S + P)).length : Nat) : Int) - (P : Int)) (p : Int)) P 1 with ⟨i, h1, h2, h3, h4, h5⟩ | ⟨h1, h2⟩
  · rw [h3, Int.toNat_natCast]
    refine ⟨⟨h1, (perR_iff hP hI hg hf i).1 h4, fun r hr hri hq => ?_⟩, by omega⟩
    have := h5 r hr hri
    rw [(perR_iff hP hI hg hf r).2 hq] at this
    cases this
  · have := h2 P (by omega) (by omega)
    rw [(perR_iff hP hI hg hf P).2 (PerOk.self hP hg)] at this
    cases this
theorem downR_is (hP : 0 < P) (hg : Grows F S P I) (hf : ∀ t, t < S + P → F t ≠ INF) {p : Nat} {q : Int} : ∀ (s : Nat), Grows F s p q → Starts F p q (downR ⟨fvals F (S + P), P, I⟩ (p : Int) q s) ∧ downR ⟨fvals F (S + P), P, I⟩ (p : Int) q s ≤ s
  | 0, h => ⟨⟨h, .inl rfl⟩, Nat.le_refl _⟩
  | s + 1, h => by
    simp only [downR]
    have h1 := atR_fvals hP hg hf (s + p)
    have h2 := atR_fvals hP hg hf s
    simp only [Int.natCast_add] at h1
    rw [h1, h2]
    split
    · rename_i he
      have := downR_is hP hg hf (p := p) (q := q) s (fun t ht => by
        by_cases hts : t = s
        · subst hts; exact he
        · exact h t (by omega))
      exact ⟨this.1, by omega⟩
    · rename_i he
      exact ⟨⟨h, .inr (by simpa using he)⟩, Nat.le_refl _⟩
theorem infL_fvals (n : Nat) (hf : ∀ t, t < n → F t ≠ INF) : infL (fvals F n) = -1 := by
  unfold infL
  rw [fvals_len]
  rcases findFrom_cases (fun i => nth (fvals F n) i == INF) n 0 with ⟨i, h1, h2, h3, h4, h5⟩ | ⟨h1, h2⟩
  · rw [fvals_nth F (by omega)] at h4
    exact absurd (by simpa using h4) (hf i (by omega))
  · exact h1
theorem normR_nf (hP : 0 < P) (hI : 0 ≤ I) (hg : Grows F S P I) (hf : ∀ t, t < S + P → F t ≠ INF) : ∃ p s, NF F S P I p s ∧ p ≤ P ∧ s ≤ S ∧ normR ⟨fvals F (S + P), P, I⟩ = ⟨fvals F (s + p), p, I * p / P⟩ := by
  obtain ⟨h1, h2⟩ := leastR_is hP hI hg hf
  have h3 := h1.2.1.all hP hg
  obtain ⟨h4, h5⟩ := downR_is hP hg hf S h3
  refine ⟨_, _, ⟨h1, h4⟩, h2, h5, ?_⟩
  unfold normR
  dsimp only
  rw [if_pos (infL_fvals _ hf), fvals_len, show (((S + P : Nat) : Int) - (P : Int)).toNat = S by omega]
  congr 1
  unfold fvals
  apply List.map_congr_left
  intro t _
  exact atR_fvals hP hg hf t
theorem mono_le (hm : ∀ t, F t ≤ F (t + 1)) {a b : Nat} (h : a ≤ b) : F a ≤ F b := by
  induction b with
  | zero =>
    obtain rfl : a = 0 := by omega
    exact Int.le_refl _
  | succ b ih =>
    by_cases e : a = b + 1
    · subst e; omega
    · have := ih (by omega); have := hm b; omega
theorem madeR_nf (hP : 0 < P) (hI : 0 ≤ I) (hg : Grows F S P I) (hm : ∀ t, F t ≤ F (t + 1)) (h0 : 0 ≤ F 0) (hf : ∀ t, t < S + P → F t < INF) : ∃ p s, NF F S P I p s ∧ p ≤ P ∧ s ≤ S ∧ madeR ⟨fvals F (S + P), P, I⟩ = nfC F p s (I * p / P) := by
  have hne : ∀ t, t < S + P → F t ≠ INF := fun t ht => by have := hf t ht; omega
  obtain ⟨p, s, hnf, h1, h2, h3⟩ := normR_nf hP hI hg hne
  refine ⟨p, s, hnf, h1, h2, ?_⟩
  unfold madeR
  rw [h3]
  have hp := hnf.least.1
  have hq : 0 ≤ I * (p : Int) / (P : Int) := Int.ediv_nonneg (Int.mul_nonneg hI (by omega)) (by omega)
  have hgr := hnf.starts.1 s (Nat.le_refl _)
  generalize I * (p : Int) / (P : Int) = q at hq hgr ⊢
  have hnn : ∀ t, 0 ≤ F t := fun t => by have := mono_le hm (Nat.zero_le t); omega
  have hval : validB ⟨fvals F (s + p), p, q⟩ = decide (¬ nfE F p s q = 3) := by
    unfold validB nfE
    dsimp only
    rw [fvals_len, fvals_nth F (show s + p - 1 < s + p by omega), if_neg (hne _ (by omega)), Int.toNat_natCast, show s + p - p = s by omega, fvals_nth F (show s < s + p by omega), ← hgr]
    have hlast : decide (F (s + p - 1) ≤ F (s + p)) = true := decide_eq_true (mono_le hm (by omega))
    rw [hlast]
    have hall : ((List.range (s + p)).all fun i => (nth (fvals F (s + p)) i == INF || (decide (0 ≤ nth (fvals F (s + p)) i) && decide (nth (fvals F (s + p)) i ≤ MAXV))) && (i == 0 || decide (nth (fvals F (s + p)) (i - 1) ≤ nth (fvals F (s + p)) i))) = !((List.range (s + p)).any fun i => decide (F i > MAXV)) := by
      rw [List.all_eq_not_any_not]
      congr 1
      rw [Bool.eq_iff_iff]
      simp only [List.any_eq_true, List.mem_range]
      constructor
      · rintro ⟨i, hi, h⟩
        refine ⟨i, hi, ?_⟩
        rw [fvals_nth F hi] at h
        have e1 : (F i == INF) = false := by simpa using hne i (by omega)
        have e2 : decide (0 ≤ F i) = true := decide_eq_true (hnn i)
        have e3 : (i == 0 || decide (nth (fvals F (s + p)) (i - 1) ≤ F i)) = true := by
          by_cases hi0 : i = 0
          · simp [hi0]
          · rw [fvals_nth F (by omega)]; simp [mono_le hm (show i - 1 ≤ i by omega)]
        rw [e1, e2, e3] at h
        simp at h
        exact decide_eq_true (by omega)
      · rintro ⟨i, hi, h⟩
        refine ⟨i, hi, ?_⟩
        rw [fvals_nth F hi]
        have e1 : (F i == INF) = false := by simpa using hne i (by omega)
        have h' := of_decide_eq_true h
        have e4 : decide (F i ≤ MAXV) = false := decide_eq_false (by omega)
        rw [e1, e4]; simp
    rw [hall]
    generalize ((List.range (s + p)).any fun i => decide (F i > MAXV)) = b
    rw [Bool.eq_iff_iff]
    simp only [Bool.and_eq_true, decide_eq_true_eq, Bool.not_eq_true', and_true]
    constructor
    · rintro ⟨⟨⟨⟨⟨⟨⟨a1, a2⟩, a3⟩, a4⟩, a5⟩, a6⟩, a7⟩, a8⟩ h
      rw [if_neg] at h
      · omega
      · rintro (h | h | h | h)
        · omega
        · omega
        · omega
        · rw [a8] at h; cases h
    · intro h
      have h' : ¬ (120 < p ∨ MAXV < q ∨ 400 < s + p ∨ b = true) := fun hh => h (if_pos hh)
      refine ⟨⟨⟨⟨⟨⟨⟨by omega, by omega⟩, by omega⟩, by omega⟩, by omega⟩, hq⟩, by omega⟩, ?_⟩
      cases b with
      | false => rfl
      | true => exact absurd (.inr (.inr (.inr rfl))) h'
  rw [hval]
  unfold nfC
  by_cases h : nfE F p s q = 3
  · rw [if_pos h, if_neg (by simp [h])]
  · rw [if_neg h, if_pos (by simp [h])]
/-- the program's normal form is the references', wherever they begin -/
theorem build_made {S' : Nat} (hP : 0 < P) (hI : 0 ≤ I) (hg : Grows F S P I) (hg' : Grows F S' P I) (hm : ∀ t, F t ≤ F (t + 1)) (h0 : 0 ≤ F 0) (hf : ∀ t, t < S + P → F t < INF) (hf' : ∀ t, t < S' + P → F t < INF) : finL (fvals F (S + P)) S P I = madeR ⟨fvals F (S' + P), P, I⟩ := by
  have hne : ∀ t, t < S + P → F t ≠ INF := fun t ht => by have := hf t ht; omega
  obtain ⟨p, s, h1, _, _, h2⟩ := finL_nf hP hg hne
  obtain ⟨p', s', h3, _, _, h4⟩ := madeR_nf hP hI hg' hm h0 hf'
  obtain ⟨rfl, rfl⟩ := h1.unique hP hg hg' h3
  rw [h2, h4]
theorem mbuild_fin (hf : ∀ t, t < S + P → F t ≠ INF) : mbuild F S P I = finL (fvals F (S + P)) S P I := by
  unfold mbuild
  rw [if_pos]
  unfold infAt
  rcases findFrom_cases (fun t => F t == INF) (S + P) 0 with ⟨i, h1, h2, h3, h4, h5⟩ | ⟨h1, h2⟩
  · exact absurd (by simpa using h4) (hf i (by omega))
  · exact h1
end
end Go.Proofs.YtjacpnojnoompaaDoor.M

/- What the line answers, plain: errors and runs; queues. No condition. -/
namespace Go.Proofs.YtjacpnojnoompaaDoor.M
open Go Go.Proofs.YtjacpnojnoompaaDoor.K

/-- slices of packets, and three numbers, in a slice -/
structure SlP where
  a : Option Addr
  cap : Nat
  xs : List Pkt
instance instSlP : Inhabited SlP := ⟨⟨none, 0, []⟩⟩
def encL (s : SlP) : List Value := [.slice s.a s.xs.length s.cap]
def enc3 (x : Int × Int × Int) : List Value := [.int .i64 x.1, .int .i64 x.2.1, .int .i64 x.2.2]
def enc2 (x : Int × Int) : List Value := [.int .i64 x.1, .int .i64 x.2]
def lrunE (cap classes ticks : Int) (ps : List Pkt) : Int := if validate ps ≠ 0 then validate ps else checkE cap classes ticks ps
def lineOut (cap classes ticks : Int) (ps : List Pkt) : List Int × List (List Int) :=
  if lrunE cap classes ticks ps ≠ 0 then ([], []) else ((mrun ps (fifo ps) cap classes.toNat ticks.toNat ()).done, (mrun ps (fifo ps) cap classes.toNat ticks.toNat ()).sent)
/-! ### queues -/
def selSum (cls t : Int) : Nat → List (List Int) → Int
  | _, [] => 0
  | c, l :: ls => (if (c : Int) ≠ cls ∧ cls ≠ -1 then 0 else nth l t.toNat) + selSum cls t (c + 1) ls
end Go.Proofs.YtjacpnojnoompaaDoor.M

/- Choices by classes, plain: the first packet of a class that waits; weighted round robin. No condition. -/
namespace Go.Proofs.YtjacpnojnoompaaDoor.M
open Go Go.Proofs.YtjacpnojnoompaaDoor.K

/-- the first packet of a class that waits -/
def nextP (ps : List Pkt) (ms : MS) (cls : Int) (i : Nat) : Bool := decide ((nth ps i).time ≤ ms.now) && !nth ms.begun i && (nth ps i).flow == cls
def nextW (ps : List Pkt) (ms : MS) (cls : Int) : Int := findN (nextP ps ms cls) ps.length
/-! ### weighted round robin -/
def robinGo (nx : Int → Int) (w : List Int) : Nat → Nat → Int → Int × (Nat × Int)
  | 0, c, l => (-1, (c, l))
  | k + 1, c, l => if 0 ≤ nx c ∧ 0 < l then (nx c, (c, l - 1)) else robinGo nx w k ((c + 1) % w.length) (nth w ((c + 1) % w.length))
def robinCh (ps : List Pkt) (w : List Int) (ms : MS) (s : Nat × Int) : Int × Nat × (Nat × Int) :=
  if firstR ps ms < 0 then (-1, skipTo ms.begun ms.before, s)
  else ((robinGo (nextW ps ms) w (w.length + 1) s.1 s.2).1, skipTo ms.begun ms.before, (robinGo (nextW ps ms) w (w.length + 1) s.1 s.2).2)
def robinRc (ps : List Pkt) (w : List Int) (st : St) (g : Nat × Int) : Int × (Nat × Int) :=
  if 0 ≤ firstW ps st (-1) then robinGo (firstW ps st) w (w.length + 1) g.1 g.2 else (-1, g)
/-- within so many steps something is found -/
def Soon (nx : Int → Int) (n k c : Nat) (l : Int) : Prop := ∃ j, j < k ∧ 0 ≤ nx (((c + j) % n : Nat) : Int) ∧ (0 < j ∨ 0 < l)
def goodRb (ps : List Pkt) (n : Nat) (ms : MS) (s : Nat × Int) : Prop := goodB ps ms ∧ s.1 < n ∧ 0 ≤ s.2 ∧ s.2 ≤ 20
def sameFlow (ps : List Pkt) (i k : Nat) : Prop := (nth ps i).flow = (nth ps k).flow
/-- weights that are in their range -/
def okW (hi : Int) (w : List Int) : Bool := w.all fun x => decide (1 ≤ x) && decide (x ≤ hi)
def wrunE (hi cap ticks : Int) (w : List Int) (ps : List Pkt) : Int := if lrunE cap w.length ticks ps ≠ 0 then lrunE cap w.length ticks ps else if okW hi w = true then 0 else 2
def outOf {σ : Type} (e : Int) (s : RS σ) : List Int × List (List Int) := if e ≠ 0 then ([], []) else (s.done, s.sent)
end Go.Proofs.YtjacpnojnoompaaDoor.M

/- Curves of schedulers, plain: sizes, rounds, what a class is left. No condition. -/
namespace Go.Proofs.YtjacpnojnoompaaDoor.M
open Go Go.Proofs.YtjacpnojnoompaaDoor.K

structure Sz where
  least : Int
  most : Int
instance instSz : Inhabited Sz := ⟨⟨0, 0⟩⟩
def encZ (s : Sz) : List Value := [.int .i64 s.least, .int .i64 s.most]
def zOk (z : List Sz) : Bool := z.all fun s => decide (0 ≤ s.least) && decide (s.least ≤ s.most) && decide (s.most ≤ 1500)
def chk18 (cap cls : Int) (z : List Sz) : Int := if cap < 1 ∨ 4000 < cap ∨ (z.length : Int) < 1 ∨ (6 : Int) < z.length ∨ zOk z = false ∨ cls < 0 ∨ (z.length : Int) ≤ cls then 2 else 0
def chkW (hi cap cls : Int) (w : List Int) (z : List Sz) : Int := if chk18 cap cls z ≠ 0 then 2 else if w.length ≠ z.length ∨ okW hi w = false then 2 else 0
/-- what others send in a round at most -/
def qSum (k : Int) (w : List Int) (z : List Sz) : Nat → Int
  | 0 => 0
  | n + 1 => qSum k w z n + (if (n : Int) ≠ k then nth w n * (nth z n).most else 0)
def shortN (low cap : Nat) : Int := findFrom (fun s => decide (s / Nat.gcd s cap ≤ 120)) (120 * cap + 1 - low) low
def robinOthers (hi k : Int) (w : List Int) (z : List Sz) (own : Int) : Int :=
  if chkW hi 1 k w z ≠ 0 ∨ (nth z k.toNat).least < 1 ∨ own < 0 ∨ MAXV < own then 0 else qSum k w z w.length * (own / (nth w k.toNat * (nth z k.toNat).least) + 1)
/-- the least number that is enough -/
def leastY (H : Nat → Bool) (bound : Nat) : Nat := (findFrom H (bound + 1) 0).toNat
theorem leastY_is {H : Nat → Bool} {b : Nat} (h : H b = true) : leastY H b ≤ b ∧ H (leastY H b) = true ∧ ∀ j, j < leastY H b → H j = false := by
  unfold leastY
  rcases findFrom_cases H (b + 1) 0 with ⟨i, h1, h2, h3, h4, h5⟩ | ⟨_, h2⟩
  · rw [h3, Int.toNat_natCast]
    exact ⟨by omega, h4, fun j hj => h5 j (by omega) hj⟩
  · rw [h2 b (by omega) (by omega)] at h; cases h
def robinH (cap s r : Int) (t y : Nat) : Bool := decide ((y : Int) + (s - r) * ((y : Int) / r + 1) ≥ cap * t)
def robinF (cap s r : Int) (t : Nat) : Int := leastY (robinH cap s r t) (cap * t).toNat
def robinC (cap k : Int) (w : List Int) (z : List Sz) : Cv × Int :=
  if chkW 20 cap k w z ≠ 0 then (zcv, chkW 20 cap k w z) else if (nth z k.toNat).least < 1 then (zcv, 5) else
    let r := nth w k.toNat * (nth z k.toNat).least
    let s := shortN (r + qSum k w z w.length).toNat cap.toNat
    if s = -1 then (zcv, 3) else
      let p := s.toNat / Nat.gcd s.toNat cap.toNat
      mbuild (robinF cap s r) 0 p (cap * p / s * r)
theorem robinH_bound {cap s r : Int} (hr : 0 < r) (hs : r ≤ s) (t : Nat) (hc : 0 ≤ cap) : robinH cap s r t (cap * t).toNat = true := by
  unfold robinH
  have h1 : 0 ≤ cap * (t : Int) := Int.mul_nonneg hc (by omega)
  have h2 : 0 ≤ (s - r) * ((((cap * t).toNat : Nat) : Int) / r + 1) := Int.mul_nonneg (by omega) (by have := Int.ediv_nonneg (a := (((cap * t).toNat : Nat) : Int)) (b := r) (by omega) (by omega); omega)
  exact decide_eq_true (by omega)
/-! ### valid curves -/
theorem validB_iff {c : Cv} : validB c = true ↔ (1 ≤ c.vals.length ∧ c.vals.length ≤ 400 ∧ 1 ≤ c.per ∧ c.per ≤ 120 ∧ c.per ≤ c.vals.length ∧ 0 ≤ c.inc ∧ c.inc ≤ MAXV) ∧
    (∀ i, i < c.vals.length → (nth c.vals i = INF ∨ (0 ≤ nth c.vals i ∧ nth c.vals i ≤ MAXV)) ∧ (i = 0 ∨ nth c.vals (i - 1) ≤ nth c.vals i)) ∧
    (if nth c.vals (c.vals.length - 1) = INF then c.per = 1 ∧ c.inc = 0 else nth c.vals (c.vals.length - 1) ≤ nth c.vals (c.vals.length - c.per.toNat) + c.inc) := by
  unfold validB
  by_cases h : nth c.vals (c.vals.length - 1) = INF
  · rw [if_pos h, if_pos h]
    simp only [Bool.and_eq_true, decide_eq_true_eq, List.all_eq_true, List.mem_range, Bool.or_eq_true, beq_iff_eq, and_assoc]
  · rw [if_neg h, if_neg h]
    simp only [Bool.and_eq_true, decide_eq_true_eq, List.all_eq_true, List.mem_range, Bool.or_eq_true, beq_iff_eq, and_assoc]
end Go.Proofs.YtjacpnojnoompaaDoor.M

/- Curves of schedulers, plain: what the walks of rounds, the first enough and the build want. No condition. -/
namespace Go.Proofs.YtjacpnojnoompaaDoor.M
open Go Go.Proofs.YtjacpnojnoompaaDoor.K

theorem findFrom_some {P : Nat → Bool} {k a i : Nat} (h1 : a ≤ i) (h2 : i < a + k) (hP : P i = true) (h : ∀ j, a ≤ j → j < i → P j = false) : findFrom P k a = i := by
  rcases findFrom_cases P k a with ⟨r, r1, r2, r3, r4, r5⟩ | ⟨_, r2⟩
  · rcases Nat.lt_trichotomy i r with h5 | h5 | h5
    · rw [r5 i h1 h5] at hP; cases hP
    · subst h5; exact r3
    · rw [h r r1 h5] at r4; cases r4
  · rw [r2 i h1 h2] at hP; cases hP
theorem gcd_step (x y : Nat) : Nat.gcd y (x % y) = Nat.gcd x y := by
  rw [Nat.gcd_comm y (x % y), ← Nat.gcd_rec, Nat.gcd_comm]
def shortP (cap : Nat) (s : Nat) : Bool := decide (s / Nat.gcd s cap ≤ 120)
def rvR (s : Int) (cap : Nat) : Value := .tuple #[.int .i64 (if s = -1 then 0 else s), .int .i64 (if s = -1 then 0 else ((s.toNat / Nat.gcd s.toNat cap : Nat) : Int)), .bool (s != -1)]
def svR (s : Int) : Value := .tuple #[.int .i64 (if s = -1 then 0 else s), .bool (s != -1)]
theorem leastY_eq {H : Nat → Bool} {b lo : Nat} (hb : H b = true) (h1 : H lo = true) (h2 : ∀ j, j < lo → H j = false) : leastY H b = lo := by
  obtain ⟨a1, a2, a3⟩ := leastY_is hb
  rcases Nat.lt_trichotomy lo (leastY H b) with h | h | h
  · rw [a3 _ h] at h1; cases h1
  · exact h.symm
  · rw [h2 _ h] at a2; cases a2
def partV (F : Nat → Int) (t n : Nat) : List Int := fvals F t ++ List.replicate (n - t) 0
def cvV (f : Option Addr) (fc : Nat) (x : Cv × Int) : Value := .tuple #[.agg #[.slice f x.1.vals.length fc, .int .i64 x.1.per, .int .i64 x.1.inc], .int .i64 x.2]
def cuV (f : Option Addr) (fc : Nat) (x : Cv) : Value := .agg #[.slice f x.vals.length fc, .int .i64 x.per, .int .i64 x.inc]
/-- the pattern of `least`, one place of the row -/
def leastC (v : List Int) (inc : Int) (p i : Nat) : Bool := (if i + p < v.length then nth v (i + p) else nth v (i + p - v.length) + inc) == nth v i + inc * p / v.length
end Go.Proofs.YtjacpnojnoompaaDoor.M

/- Fractions, plain: what the functions of the chapter compute. No condition. -/
namespace Go.Proofs.YtjacpnojnoompaaDoor.M
open Go Go.Proofs.YtjacpnojnoompaaDoor.K

abbrev Fr := Int × Int
def MT : Int := 1073741824
def validF (x : Fr) : Bool := decide (1 ≤ x.2 ∧ x.2 ≤ MT ∧ -MT ≤ x.1 ∧ x.1 ≤ MT ∧ Nat.gcd x.1.natAbs x.2.natAbs = 1)
def newF (a b : Int) : Fr × Int :=
  if b = 0 then ((0, 0), 2)
  else if MT < (a.natAbs : Int) / (Nat.gcd a.natAbs b.natAbs : Int) ∨ MT < (b.natAbs : Int) / (Nat.gcd a.natAbs b.natAbs : Int) then ((0, 0), 3)
  else ((if decide (a < 0) = decide (b < 0) then (a.natAbs : Int) / (Nat.gcd a.natAbs b.natAbs : Int) else -((a.natAbs : Int) / (Nat.gcd a.natAbs b.natAbs : Int)), (b.natAbs : Int) / (Nat.gcd a.natAbs b.natAbs : Int)), 0)
def addF (x y : Fr) : Fr × Int := if validF x = true ∧ validF y = true then newF (x.1 * y.2 + y.1 * x.2) (x.2 * y.2) else ((0, 0), 2)
def subF (x y : Fr) : Fr × Int := if validF x = true ∧ validF y = true then newF (x.1 * y.2 - y.1 * x.2) (x.2 * y.2) else ((0, 0), 2)
def mulF (x y : Fr) : Fr × Int := if validF x = true ∧ validF y = true then newF (x.1 * y.1) (x.2 * y.2) else ((0, 0), 2)
def divF (x y : Fr) : Fr × Int := if validF x = true ∧ validF y = true ∧ y.1 ≠ 0 then newF (x.1 * y.2) (x.2 * y.1) else ((0, 0), 2)
def cmpF (x y : Fr) : Int := if validF x = true ∧ validF y = true then (if x.1 * y.2 < y.1 * x.2 then -1 else if x.1 * y.2 > y.1 * x.2 then 1 else 0) else 0
def floorF (x : Fr) : Int := if validF x = true then x.1 / x.2 else 0
def ceilF (x : Fr) : Int := if validF x = true then -((-x.1) / x.2) else 0
def frC (x : Fr) : Value := .agg #[.int .i64 x.1, .int .i64 x.2]
def frV (x : Fr × Int) : Value := .tuple #[.agg #[.int .i64 x.1.1, .int .i64 x.1.2], .int .i64 x.2]
theorem validF_iff {x : Fr} : validF x = true ↔ 1 ≤ x.2 ∧ x.2 ≤ 1073741824 ∧ -1073741824 ≤ x.1 ∧ x.1 ≤ 1073741824 ∧ Nat.gcd x.1.natAbs x.2.natAbs = 1 := by
  unfold validF MT; rw [decide_eq_true_iff]
theorem mul_in {a b A B : Int} (ha : -A ≤ a ∧ a ≤ A) (hb : -B ≤ b ∧ b ≤ B) : -(A * B) ≤ a * b ∧ a * b ≤ A * B := by
  have h : (a * b).natAbs ≤ A.natAbs * B.natAbs := by
    rw [Int.natAbs_mul]; exact Nat.mul_le_mul (by omega) (by omega)
  have h2 : ((A.natAbs * B.natAbs : Nat) : Int) = A * B := by
    rw [Int.natCast_mul, Int.natAbs_of_nonneg (by omega), Int.natAbs_of_nonneg (by omega)]
  omega
/-- rounding towards zero, then down -/
theorem tdiv_floor {a b : Int} (hb : 0 < b) : a / b = if a < a.tdiv b * b then a.tdiv b - 1 else a.tdiv b := by
  have h1 := Int.tmod_add_mul_tdiv a b
  have h2 := Int.tmod_lt_of_pos a hb
  have h3 : -b < a.tmod b := by
    rcases Int.lt_or_le a 0 with h | h
    · have e : (-a).tmod b = -(a.tmod b) := Int.neg_tmod a b
      have := Int.tmod_lt_of_pos (-a) hb
      omega
    · have := Int.tmod_nonneg b h
      omega
  have h4 : a < 0 → a.tmod b ≤ 0 := fun h => by
    have e : (-a).tmod b = -(a.tmod b) := Int.neg_tmod a b
    have := Int.tmod_nonneg b (a := -a) (by omega)
    omega
  have h5 : 0 ≤ a → 0 ≤ a.tmod b := fun h => Int.tmod_nonneg b h
  have hm : b * a.tdiv b = a.tdiv b * b := Int.mul_comm _ _
  split
  · rw [Int.ediv_eq_iff_of_pos hb]
    rw [Int.sub_mul, Int.one_mul]
    constructor
    · omega
    · have e : (a.tdiv b - 1 + 1) * b = a.tdiv b * b := by rw [Int.sub_add_cancel]
      omega
  · rw [Int.ediv_eq_iff_of_pos hb]
    constructor
    · omega
    · omega
theorem tdiv_ceil {a b : Int} (hb : 0 < b) : -((-a) / b) = if a.tdiv b * b < a then a.tdiv b + 1 else a.tdiv b := by
  have h := tdiv_floor (a := -a) hb
  rw [h, Int.neg_tdiv, Int.neg_mul]
  split <;> split <;> omega
theorem tdiv_in {a b : Int} (hb : 0 < b) : -(a.natAbs : Int) ≤ a.tdiv b ∧ a.tdiv b ≤ a.natAbs := by
  have h : (a.tdiv b).natAbs ≤ a.natAbs := by rw [Int.natAbs_tdiv]; exact Nat.div_le_self _ _
  omega
end Go.Proofs.YtjacpnojnoompaaDoor.M

/- Fractions, plain: they are the rational numbers. No condition. -/
namespace Go.Proofs.YtjacpnojnoompaaDoor.M
open Go Go.Proofs.YtjacpnojnoompaaDoor.K

def frQ (r : Rat) : Fr := (r.num, (r.den : Int))
/-- numerator and denominator within bounds -/
def InQ (r : Rat) (N D : Nat) : Prop := r.num.natAbs ≤ N ∧ r.den ≤ D
theorem newF_rat {a b : Int} (hb : b ≠ 0) (ha : a.natAbs ≤ 1073741824) (hb2 : b.natAbs ≤ 1073741824) :
    newF a b = (frQ (Rat.divInt a b), 0) ∧ InQ (Rat.divInt a b) a.natAbs b.natAbs := by
  have hn := Rat.num_divInt a b
  have hd := Rat.den_divInt a b
  rw [if_neg hb] at hd
  have hg : Int.gcd b a = Nat.gcd a.natAbs b.natAbs := by unfold Int.gcd; exact Nat.gcd_comm _ _
  rw [hg] at hn hd
  have hg0 : 0 < Nat.gcd a.natAbs b.natAbs := Nat.gcd_pos_of_pos_right _ (by omega)
  have hdv : ((Nat.gcd a.natAbs b.natAbs : Nat) : Int) ∣ (a.natAbs : Int) := Int.natCast_dvd_natCast.2 (Nat.gcd_dvd_left _ _)
  have e1 : (a.natAbs : Int) / (Nat.gcd a.natAbs b.natAbs : Int) ≤ a.natAbs := Int.ediv_le_self _ (by omega)
  have e2 : (b.natAbs : Int) / (Nat.gcd a.natAbs b.natAbs : Int) ≤ b.natAbs := Int.ediv_le_self _ (by omega)
  have e0 : 0 ≤ (a.natAbs : Int) / (Nat.gcd a.natAbs b.natAbs : Int) := Int.ediv_nonneg (by omega) (by omega)
  have hden : ((Rat.divInt a b).den : Int) = (b.natAbs : Int) / (Nat.gcd a.natAbs b.natAbs : Int) := by rw [hd]; rfl
  have hnum : (Rat.divInt a b).num = if decide (a < 0) = decide (b < 0) then (a.natAbs : Int) / (Nat.gcd a.natAbs b.natAbs : Int) else -((a.natAbs : Int) / (Nat.gcd a.natAbs b.natAbs : Int)) := by
    rw [hn]
    generalize ((Nat.gcd a.natAbs b.natAbs : Nat) : Int) = g at hdv
    rcases Int.lt_or_gt_of_ne hb with hb | hb
    · rw [Int.sign_eq_neg_one_of_neg hb]
      by_cases h : a < 0
      · rw [if_pos (by simp [h, hb]), show (-1 : Int) * a = (a.natAbs : Int) by omega]
      · rw [if_neg (by simp [h, hb]), show (-1 : Int) * a = -(a.natAbs : Int) by omega, Int.neg_ediv_of_dvd hdv]
    · rw [Int.sign_eq_one_of_pos hb]
      by_cases h : a < 0
      · rw [if_neg (by simp [h]; omega), show (1 : Int) * a = -(a.natAbs : Int) by omega, Int.neg_ediv_of_dvd hdv]
      · rw [if_pos (by simp [h]; omega), show (1 : Int) * a = (a.natAbs : Int) by omega]
  refine ⟨?_, ?_, ?_⟩
  · unfold newF MT frQ
    rw [if_neg hb, if_neg (by omega), hnum, hden]
  · rw [hnum]; split <;> omega
  · omega
theorem validF_rat {x : Fr} (h : validF x = true) : ∃ r : Rat, x = frQ r ∧ InQ r x.1.natAbs x.2.toNat := by
  obtain ⟨h1, h2, h3, h4, h5⟩ := validF_iff.1 h
  have e : x.2.natAbs = x.2.toNat := by omega
  refine ⟨⟨x.1, x.2.toNat, by omega, by rw [e] at h5; exact h5⟩, ?_, Nat.le_refl _, Nat.le_refl _⟩
  unfold frQ
  exact Prod.ext rfl (by show x.2 = ((x.2.toNat : Nat) : Int); omega)
theorem InQ.mono {r : Rat} {N D N' D' : Nat} (h : InQ r N D) (h1 : N ≤ N') (h2 : D ≤ D') : InQ r N' D' := ⟨Nat.le_trans h.1 h1, Nat.le_trans h.2 h2⟩
theorem den0 (r : Rat) : (r.den : Int) ≠ 0 := by have := r.den_nz; omega
section
variable {a b : Rat} {N D M K : Nat}
end
def sgnQ (a b : Rat) : Int := if a < b then -1 else if b < a then 1 else 0
/-- rounding -/
theorem floor_rat {r : Rat} (hv : validF (frQ r) = true) : floorF (frQ r) * r.den ≤ r.num ∧ r.num < floorF (frQ r) * r.den + r.den := by
  unfold floorF
  rw [if_pos hv]
  show r.num / (r.den : Int) * r.den ≤ r.num ∧ r.num < r.num / (r.den : Int) * r.den + r.den
  have := (Int.ediv_eq_iff_of_pos (k := (r.den : Int)) (x := r.num) (y := r.num / (r.den : Int)) (by have := den0 r; omega)).1 rfl
  exact this
theorem ceil_rat {r : Rat} (hv : validF (frQ r) = true) : r.num ≤ ceilF (frQ r) * r.den ∧ ceilF (frQ r) * r.den < r.num + r.den := by
  unfold ceilF
  rw [if_pos hv]
  show r.num ≤ -((-r.num) / (r.den : Int)) * r.den ∧ -((-r.num) / (r.den : Int)) * r.den < r.num + r.den
  have := (Int.ediv_eq_iff_of_pos (k := (r.den : Int)) (x := -r.num) (y := -r.num / (r.den : Int)) (by have := den0 r; omega)).1 rfl
  rw [Int.neg_mul]
  omega
theorem small_round {r : Rat} {N D : Nat} (h : InQ r N D) (hv : validF (frQ r) = true) : (floorF (frQ r)).natAbs ≤ N + 1 ∧ (ceilF (frQ r)).natAbs ≤ N + 1 := by
  obtain ⟨f1, f2⟩ := floor_rat hv
  obtain ⟨c1, c2⟩ := ceil_rat hv
  have hd : 0 < (r.den : Int) := by have := den0 r; omega
  have h1 := h.1
  generalize floorF (frQ r) = f at f1 f2 ⊢
  generalize ceilF (frQ r) = c at c1 c2 ⊢
  have key : ∀ x : Int, x * r.den ≤ r.num + r.den → r.num - r.den ≤ x * r.den → x.natAbs ≤ N + 1 := fun x a b => by
    rcases Int.lt_or_le x 0 with hx | hx
    · have h2 : x * (r.den : Int) + r.den ≥ r.num := by omega
      have h3 : (x + 1) * (r.den : Int) ≤ (x + 1) * 1 := Int.mul_le_mul_of_nonpos_left (by omega) (by omega)
      rw [Int.add_mul] at h3
      omega
    · by_cases h0 : x = 0
      · omega
      · have h3 : (x - 1) * 1 ≤ (x - 1) * (r.den : Int) := Int.mul_le_mul_of_nonneg_left (by omega) (by omega)
        rw [Int.sub_mul, Int.sub_mul] at h3
        omega
  exact ⟨key f (by omega) (by omega), key c (by omega) (by omega)⟩
/-- a fraction that is drawn -/
def ratS (top most : Int) (xs : List Int) (c : Nat) : Fr :=
  ((mod (nth xs c) (top * most + 1)) / (Nat.gcd (mod (nth xs c) (top * most + 1)).natAbs (1 + mod (nth xs (c + 1)) most).natAbs : Int), (1 + mod (nth xs (c + 1)) most) / (Nat.gcd (mod (nth xs c) (top * most + 1)).natAbs (1 + mod (nth xs (c + 1)) most).natAbs : Int))
theorem ratS_rat {top most : Int} (ht : 0 ≤ top * most) (ht2 : top * most ≤ 1073741824) (hm : 1 ≤ most ∧ most ≤ 1073741824) (xs : List Int) (c : Nat) : ∃ r : Rat, ratS top most xs c = frQ r ∧ InQ r (top * most).toNat most.toNat ∧ 0 ≤ r.num := by
  have h1 := mod_range (nth xs c) (show (1 : Int) ≤ top * most + 1 by omega)
  have h2 := mod_range (nth xs (c + 1)) (show (1 : Int) ≤ most by omega)
  unfold ratS
  generalize mod (nth xs c) (top * most + 1) = A at h1 ⊢
  generalize mod (nth xs (c + 1)) most = B at h2 ⊢
  obtain ⟨e1, e2⟩ := newF_rat (a := A) (b := 1 + B) (by omega) (by omega) (by omega)
  refine ⟨Rat.divInt A (1 + B), ?_, e2.mono (by omega) (by omega), ?_⟩
  · have e3 : newF A (1 + B) = ((A / (Nat.gcd A.natAbs (1 + B).natAbs : Int), (1 + B) / (Nat.gcd A.natAbs (1 + B).natAbs : Int)), 0) := by
      have q1 : (A.natAbs : Int) / (Nat.gcd A.natAbs (1 + B).natAbs : Int) ≤ A.natAbs := Int.ediv_le_self _ (by omega)
      have q2 : ((1 + B).natAbs : Int) / (Nat.gcd A.natAbs (1 + B).natAbs : Int) ≤ (1 + B).natAbs := Int.ediv_le_self _ (by omega)
      unfold newF MT
      rw [if_neg (by omega), if_neg (by omega), if_pos (by rw [decide_eq_false (by omega), decide_eq_false (by omega)])]
      rw [show ((A.natAbs : Nat) : Int) = A by omega, show (((1 + B).natAbs : Nat) : Int) = 1 + B by omega]
    rw [e3] at e1
    exact (Prod.mk.inj e1).1
  · rw [Rat.num_divInt]
    exact Int.ediv_nonneg (by rw [Int.sign_eq_one_of_pos (by omega)]; omega) (by omega)
end Go.Proofs.YtjacpnojnoompaaDoor.M

/- The contracts of the library that the walks take, laid at this translation. No condition. -/
namespace Go.Proofs.YtjacpnojnoompaaDoor
open Go.Shelf
def sh_laysC172_ren : Go.Shelf.Ren := ⟨fun | 172 => 68 | 244 => 80 | 245 => 81 | 247 => 88 | 279 => 89 | 280 => 90 | 281 => 91 | 282 => 92 | 287 => 101 | 316 => 102 | 171 => 69 | 205 => 103 | 321 => 111 | 322 => 112 | 243 => 82 | 246 => 93 | 283 => 104 | 284 => 105 | 285 => 106 | 286 => 107 | 129 => 114 | 317 => 113 | 318 => 115 | 319 => 116 | 320 => 117 | 337 => 118 | 338 => 119 | n => n, fun | 9 => 9 | 3 => 3 | 75 => 82 | 76 => 84 | 4 => 4 | 5 => 5 | 167 => 99 | 37 => 30 | 0 => 0 | 85 => 100 | 2 => 2 | 168 => 102 | 53 => 88 | 175 => 109 | 46 => 76 | 210 => 113 | 127 => 93 | 145 => 126 | 143 => 124 | 21 => 21 | 171 => 115 | 173 => 118 | 212 => 128 | 51 => 120 | 20 => 20 | 213 => 129 | 232 => 137 | 233 => 138 | 80 => 86 | n => n, fun | 15 => 1 | 16 => 2 | 17 => 3 | 18 => 6 | 19 => 7 | n => n⟩
theorem sh_laysC172 : Go.Proofs.LaysC.n172 Tryd.prog sh_laysC172_ren := {
  mixed := by kernel_rfl
  f129 := Tryd.func114.trans (congrArg some (by kernel_rfl))
  f171 := Tryd.func69.trans (congrArg some (by kernel_rfl))
  f172 := Tryd.func68.trans (congrArg some (by kernel_rfl))
  f205 := Tryd.func103.trans (congrArg some (by kernel_rfl))
  f243 := Tryd.func82.trans (congrArg some (by kernel_rfl))
  f244 := Tryd.func80.trans (congrArg some (by kernel_rfl))
  f245 := Tryd.func81.trans (congrArg some (by kernel_rfl))
  f246 := Tryd.func93.trans (congrArg some (by kernel_rfl))
  f247 := Tryd.func88.trans (congrArg some (by kernel_rfl))
  f279 := Tryd.func89.trans (congrArg some (by kernel_rfl))
  f280 := Tryd.func90.trans (congrArg some (by kernel_rfl))
  f281 := Tryd.func91.trans (congrArg some (by kernel_rfl))
  f282 := Tryd.func92.trans (congrArg some (by kernel_rfl))
  f283 := Tryd.func104.trans (congrArg some (by kernel_rfl))
  f284 := Tryd.func105.trans (congrArg some (by kernel_rfl))
  f285 := Tryd.func106.trans (congrArg some (by kernel_rfl))
  f286 := Tryd.func107.trans (congrArg some (by kernel_rfl))
  f287 := Tryd.func101.trans (congrArg some (by kernel_rfl))
  f316 := Tryd.func102.trans (congrArg some (by kernel_rfl))
  f317 := Tryd.func113.trans (congrArg some (by kernel_rfl))
  f318 := Tryd.func115.trans (congrArg some (by kernel_rfl))
  f319 := Tryd.func116.trans (congrArg some (by kernel_rfl))
  f320 := Tryd.func117.trans (congrArg some (by kernel_rfl))
  f321 := Tryd.func111.trans (congrArg some (by kernel_rfl))
  f322 := Tryd.func112.trans (congrArg some (by kernel_rfl))
  f337 := Tryd.func118.trans (congrArg some (by kernel_rfl))
  f338 := Tryd.func119.trans (congrArg some (by kernel_rfl))
  t0 := Tryd.underlying0
  a0 := Tryd.isAgg0
  z0 := Tryd.sizeOf0
  v0 := Tryd.zeroValue0
  t2 := Tryd.underlying2
  a2 := Tryd.isAgg2
  z2 := Tryd.sizeOf2
  v2 := Tryd.zeroValue2
  t3 := Tryd.underlying3
  a3 := Tryd.isAgg3
  z3 := Tryd.sizeOf3
  v3 := Tryd.zeroValue3
  t4 := Tryd.underlying4
  a4 := Tryd.isAgg4
  z4 := Tryd.sizeOf4
  v4 := Tryd.zeroValue4
  t5 := Tryd.underlying5
  a5 := Tryd.isAgg5
  z5 := Tryd.sizeOf5
  v5 := Tryd.zeroValue5
  t9 := Tryd.underlying9
  a9 := Tryd.isAgg9
  z9 := Tryd.sizeOf9
  v9 := Tryd.zeroValue9
  t20 := Tryd.underlying20
  a20 := Tryd.isAgg20
  z20 := Tryd.sizeOf20
  v20 := Tryd.zeroValue20
  t21 := Tryd.underlying21
  a21 := Tryd.isAgg21
  z21 := Tryd.sizeOf21
  v21 := Tryd.zeroValue21
  t37 := Tryd.underlying30
  a37 := Tryd.isAgg30
  z37 := Tryd.sizeOf30
  v37 := Tryd.zeroValue30
  t46 := Tryd.underlying76
  a46 := Tryd.isAgg76
  z46 := Tryd.sizeOf76
  v46 := Tryd.zeroValue76
  t51 := Tryd.underlying120
  a51 := Tryd.isAgg120
  z51 := Tryd.sizeOf120
  v51 := Tryd.zeroValue120
  t53 := Tryd.underlying88
  a53 := Tryd.isAgg88
  z53 := Tryd.sizeOf88
  v53 := Tryd.zeroValue88
  t75 := Tryd.underlying82
  a75 := Tryd.isAgg82
  z75 := Tryd.sizeOf82
  v75 := Tryd.zeroValue82
  t76 := Tryd.underlying84
  a76 := Tryd.isAgg84
  z76 := Tryd.sizeOf84
  v76 := Tryd.zeroValue84
  t85 := Tryd.underlying100
  a85 := Tryd.isAgg100
  z85 := Tryd.sizeOf100
  v85 := Tryd.zeroValue100
  t127 := Tryd.underlying93
  a127 := Tryd.isAgg93
  z127 := Tryd.sizeOf93
  v127 := Tryd.zeroValue93
  t143 := Tryd.underlying124
  a143 := Tryd.isAgg124
  z143 := Tryd.sizeOf124
  v143 := Tryd.zeroValue124
  t145 := Tryd.underlying126
  a145 := Tryd.isAgg126
  z145 := Tryd.sizeOf126
  v145 := Tryd.zeroValue126
  t167 := Tryd.underlying99
  a167 := Tryd.isAgg99
  z167 := Tryd.sizeOf99
  v167 := Tryd.zeroValue99
  t168 := Tryd.underlying102
  a168 := Tryd.isAgg102
  z168 := Tryd.sizeOf102
  v168 := Tryd.zeroValue102
  t171 := Tryd.underlying115
  a171 := Tryd.isAgg115
  z171 := Tryd.sizeOf115
  v171 := Tryd.zeroValue115
  t173 := Tryd.underlying118
  a173 := Tryd.isAgg118
  z173 := Tryd.sizeOf118
  v173 := Tryd.zeroValue118
  t175 := Tryd.underlying109
  a175 := Tryd.isAgg109
  z175 := Tryd.sizeOf109
  v175 := Tryd.zeroValue109
  t210 := Tryd.underlying113
  a210 := Tryd.isAgg113
  z210 := Tryd.sizeOf113
  v210 := Tryd.zeroValue113
  t212 := Tryd.underlying128
  a212 := Tryd.isAgg128
  z212 := Tryd.sizeOf128
  v212 := Tryd.zeroValue128
  t213 := Tryd.underlying129
  a213 := Tryd.isAgg129
  z213 := Tryd.sizeOf129
  t232 := Tryd.underlying137
  a232 := Tryd.isAgg137
  z232 := Tryd.sizeOf137
  v232 := Tryd.zeroValue137
  t233 := Tryd.underlying138
  a233 := Tryd.isAgg138
  z233 := Tryd.sizeOf138
  v233 := Tryd.zeroValue138
  g15 := by kernel_rfl
  g16 := by kernel_rfl
  g17 := by kernel_rfl
  g18 := by kernel_rfl
  g19 := by kernel_rfl
  t80 := Tryd.underlying86
  a80 := Tryd.isAgg86
  z80 := Tryd.sizeOf86
  v80 := Tryd.zeroValue86
  i0 := by kernel_rfl
  i2 := by kernel_rfl
  i3 := by kernel_rfl
  i4 := by kernel_rfl
  i5 := by kernel_rfl
  i9 := by kernel_rfl
  i20 := by kernel_rfl
  i21 := by kernel_rfl
  i37 := by kernel_rfl
  i46 := by kernel_rfl
  i51 := by kernel_rfl
  i53 := by kernel_rfl
  i75 := by kernel_rfl
  i76 := by kernel_rfl
  i80 := by kernel_rfl
  i85 := by kernel_rfl
  i127 := by kernel_rfl
  i143 := by kernel_rfl
  i145 := by kernel_rfl
  i167 := by kernel_rfl
  i168 := by kernel_rfl
  i171 := by kernel_rfl
  i173 := by kernel_rfl
  i175 := by kernel_rfl
  i210 := by kernel_rfl
  i212 := by kernel_rfl
  i232 := by kernel_rfl
  i233 := by kernel_rfl
  m15 := by kernel_rfl
  m16 := by kernel_rfl
  m17 := by kernel_rfl
  m18 := by kernel_rfl
  m19 := by kernel_rfl
  c0 := by kernel_rfl
  c2 := by kernel_rfl
  c3 := by kernel_rfl
  c4 := by kernel_rfl
  c5 := by kernel_rfl
  c9 := by kernel_rfl
  c20 := by kernel_rfl
  c21 := by kernel_rfl
  c37 := by kernel_rfl
  c46 := by kernel_rfl
  c51 := by kernel_rfl
  c53 := by kernel_rfl
  c75 := by kernel_rfl
  c76 := by kernel_rfl
  c80 := by kernel_rfl
  c85 := by kernel_rfl
  c127 := by kernel_rfl
  c143 := by kernel_rfl
  c145 := by kernel_rfl
  c167 := by kernel_rfl
  c168 := by kernel_rfl
  c171 := by kernel_rfl
  c173 := by kernel_rfl
  c175 := by kernel_rfl
  c210 := by kernel_rfl
  c212 := by kernel_rfl
  c213 := by kernel_rfl
  c232 := by kernel_rfl
  c233 := by kernel_rfl }
open Go.RowKit in
theorem sh_strconv_Atoi_ok (s : ByteArray) (hmax : s.size ≤ 9223372036854775806) (v : Int) (h : Lib.atoiAll s.data.toList = .ok v) (w : World) :
    Calls Tryd.prog 68 #[.string s] w fun e w' => e = .returned (.tuple #[.int .i64 v, .nilIface]) ∧ (w' = w ∨ ∃ t, w' = Lib.bytesWorld w 5 t) := Any.strconv_Atoi_ok sh_laysC172 s hmax v h w
open Go.RowKit in
theorem sh_strconv_Atoi_syntax (s : ByteArray) (hlim : s.size ≤ 281474976710656) (h : Lib.atoiAll s.data.toList = (Lib.NumEnd.ofOption none)) (ev : Value) (w : World) (hv : w.cell? ⟨1, 0, none⟩ = some ev) (hev : ev = .nilIface ∨ ∃ te pe, ev = .iface te pe) :
    Calls Tryd.prog 68 #[.string s] w fun e w' => ∃ N, e = .returned (.tuple #[.int .i64 (0), .iface 102 (.pointer (some ⟨N, 0, none⟩))]) ∧ w.heap.size ≤ N ∧ w'.heap[N]? = some (.cells #[.string ⟨#[65, 116, 111, 105]⟩, .string s, ev] 113 (0, 0)) ∧ Below w.heap.size w w' := Any.strconv_Atoi_syntax sh_laysC172 s hlim h ev w hv hev
open Go.RowKit in
theorem sh_strconv_Atoi_range (s : ByteArray) (hlim : s.size ≤ 281474976710656) (h : Lib.atoiAll s.data.toList = .range) (ev : Value) (w : World) (hv : w.cell? ⟨2, 0, none⟩ = some ev) (hev : ev = .nilIface ∨ ∃ te pe, ev = .iface te pe) :
    Calls Tryd.prog 68 #[.string s] w fun e w' => ∃ N, e = .returned (.tuple #[.int .i64 (Lib.atoiSat s.data.toList), .iface 102 (.pointer (some ⟨N, 0, none⟩))]) ∧ w.heap.size ≤ N ∧ w'.heap[N]? = some (.cells #[.string ⟨#[65, 116, 111, 105]⟩, .string s, ev] 113 (0, 0)) ∧ Below w.heap.size w w' := Any.strconv_Atoi_range sh_laysC172 s hlim h ev w hv hev
end Go.Proofs.YtjacpnojnoompaaDoor

/- The contracts of the library that the walks take, laid at this translation. No condition. -/
namespace Go.Proofs.YtjacpnojnoompaaDoor
open Go.Shelf
def sh_lays172_ren : Go.Shelf.Ren := ⟨fun | 172 => 68 | 244 => 80 | 245 => 81 | 247 => 88 | 279 => 89 | 280 => 90 | 281 => 91 | 282 => 92 | 287 => 101 | 316 => 102 | 171 => 69 | 205 => 103 | 321 => 111 | 322 => 112 | 243 => 82 | 246 => 93 | 283 => 104 | 284 => 105 | 285 => 106 | 286 => 107 | 129 => 114 | 317 => 113 | 318 => 115 | 319 => 116 | 320 => 117 | 337 => 118 | 338 => 119 | n => n, fun | 9 => 9 | 3 => 3 | 75 => 82 | 76 => 84 | 4 => 4 | 5 => 5 | 167 => 99 | 37 => 30 | 0 => 0 | 85 => 100 | 2 => 2 | 168 => 102 | 53 => 88 | 175 => 109 | 46 => 76 | 210 => 113 | 127 => 93 | 145 => 126 | 143 => 124 | 21 => 21 | 171 => 115 | 173 => 118 | 212 => 128 | 51 => 120 | 20 => 20 | 213 => 129 | 232 => 137 | 233 => 138 | 80 => 86 | n => n, fun | 15 => 1 | 16 => 2 | 17 => 3 | 18 => 6 | 19 => 7 | n => n⟩
theorem sh_lays172 : Go.Proofs.Lays.n172 Tryd.prog sh_lays172_ren := {
  mixed := by kernel_rfl
  f129 := Tryd.func114.trans (congrArg some (by kernel_rfl))
  f171 := Tryd.func69.trans (congrArg some (by kernel_rfl))
  f172 := Tryd.func68.trans (congrArg some (by kernel_rfl))
  f205 := Tryd.func103.trans (congrArg some (by kernel_rfl))
  f243 := Tryd.func82.trans (congrArg some (by kernel_rfl))
  f244 := Tryd.func80.trans (congrArg some (by kernel_rfl))
  f245 := Tryd.func81.trans (congrArg some (by kernel_rfl))
  f246 := Tryd.func93.trans (congrArg some (by kernel_rfl))
  f247 := Tryd.func88.trans (congrArg some (by kernel_rfl))
  f279 := Tryd.func89.trans (congrArg some (by kernel_rfl))
  f280 := Tryd.func90.trans (congrArg some (by kernel_rfl))
  f281 := Tryd.func91.trans (congrArg some (by kernel_rfl))
  f282 := Tryd.func92.trans (congrArg some (by kernel_rfl))
  f283 := Tryd.func104.trans (congrArg some (by kernel_rfl))
  f284 := Tryd.func105.trans (congrArg some (by kernel_rfl))
  f285 := Tryd.func106.trans (congrArg some (by kernel_rfl))
  f286 := Tryd.func107.trans (congrArg some (by kernel_rfl))
  f287 := Tryd.func101.trans (congrArg some (by kernel_rfl))
  f316 := Tryd.func102.trans (congrArg some (by kernel_rfl))
  f317 := Tryd.func113.trans (congrArg some (by kernel_rfl))
  f318 := Tryd.func115.trans (congrArg some (by kernel_rfl))
  f319 := Tryd.func116.trans (congrArg some (by kernel_rfl))
  f320 := Tryd.func117.trans (congrArg some (by kernel_rfl))
  f321 := Tryd.func111.trans (congrArg some (by kernel_rfl))
  f322 := Tryd.func112.trans (congrArg some (by kernel_rfl))
  f337 := Tryd.func118.trans (congrArg some (by kernel_rfl))
  f338 := Tryd.func119.trans (congrArg some (by kernel_rfl))
  t0 := Tryd.underlying0
  a0 := Tryd.isAgg0
  z0 := Tryd.sizeOf0
  v0 := Tryd.zeroValue0
  t2 := Tryd.underlying2
  a2 := Tryd.isAgg2
  z2 := Tryd.sizeOf2
  v2 := Tryd.zeroValue2
  t3 := Tryd.underlying3
  a3 := Tryd.isAgg3
  z3 := Tryd.sizeOf3
  v3 := Tryd.zeroValue3
  t4 := Tryd.underlying4
  a4 := Tryd.isAgg4
  z4 := Tryd.sizeOf4
  v4 := Tryd.zeroValue4
  t5 := Tryd.underlying5
  a5 := Tryd.isAgg5
  z5 := Tryd.sizeOf5
  v5 := Tryd.zeroValue5
  t9 := Tryd.underlying9
  a9 := Tryd.isAgg9
  z9 := Tryd.sizeOf9
  v9 := Tryd.zeroValue9
  t20 := Tryd.underlying20
  a20 := Tryd.isAgg20
  z20 := Tryd.sizeOf20
  v20 := Tryd.zeroValue20
  t21 := Tryd.underlying21
  a21 := Tryd.isAgg21
  z21 := Tryd.sizeOf21
  v21 := Tryd.zeroValue21
  t37 := Tryd.underlying30
  a37 := Tryd.isAgg30
  z37 := Tryd.sizeOf30
  v37 := Tryd.zeroValue30
  t46 := Tryd.underlying76
  a46 := Tryd.isAgg76
  z46 := Tryd.sizeOf76
  v46 := Tryd.zeroValue76
  t51 := Tryd.underlying120
  a51 := Tryd.isAgg120
  z51 := Tryd.sizeOf120
  v51 := Tryd.zeroValue120
  t53 := Tryd.underlying88
  a53 := Tryd.isAgg88
  z53 := Tryd.sizeOf88
  v53 := Tryd.zeroValue88
  t75 := Tryd.underlying82
  a75 := Tryd.isAgg82
  z75 := Tryd.sizeOf82
  v75 := Tryd.zeroValue82
  t76 := Tryd.underlying84
  a76 := Tryd.isAgg84
  z76 := Tryd.sizeOf84
  v76 := Tryd.zeroValue84
  t85 := Tryd.underlying100
  a85 := Tryd.isAgg100
  z85 := Tryd.sizeOf100
  v85 := Tryd.zeroValue100
  t127 := Tryd.underlying93
  a127 := Tryd.isAgg93
  z127 := Tryd.sizeOf93
  v127 := Tryd.zeroValue93
  t143 := Tryd.underlying124
  a143 := Tryd.isAgg124
  z143 := Tryd.sizeOf124
  v143 := Tryd.zeroValue124
  t145 := Tryd.underlying126
  a145 := Tryd.isAgg126
  z145 := Tryd.sizeOf126
  v145 := Tryd.zeroValue126
  t167 := Tryd.underlying99
  a167 := Tryd.isAgg99
  z167 := Tryd.sizeOf99
  v167 := Tryd.zeroValue99
  t168 := Tryd.underlying102
  a168 := Tryd.isAgg102
  z168 := Tryd.sizeOf102
  v168 := Tryd.zeroValue102
  t171 := Tryd.underlying115
  a171 := Tryd.isAgg115
  z171 := Tryd.sizeOf115
  v171 := Tryd.zeroValue115
  t173 := Tryd.underlying118
  a173 := Tryd.isAgg118
  z173 := Tryd.sizeOf118
  v173 := Tryd.zeroValue118
  t175 := Tryd.underlying109
  a175 := Tryd.isAgg109
  z175 := Tryd.sizeOf109
  v175 := Tryd.zeroValue109
  t210 := Tryd.underlying113
  a210 := Tryd.isAgg113
  z210 := Tryd.sizeOf113
  v210 := Tryd.zeroValue113
  t212 := Tryd.underlying128
  a212 := Tryd.isAgg128
  z212 := Tryd.sizeOf128
  v212 := Tryd.zeroValue128
  t213 := Tryd.underlying129
  a213 := Tryd.isAgg129
  z213 := Tryd.sizeOf129
  t232 := Tryd.underlying137
  a232 := Tryd.isAgg137
  z232 := Tryd.sizeOf137
  v232 := Tryd.zeroValue137
  t233 := Tryd.underlying138
  a233 := Tryd.isAgg138
  z233 := Tryd.sizeOf138
  v233 := Tryd.zeroValue138
  g15 := by kernel_rfl
  g16 := by kernel_rfl
  g17 := by kernel_rfl
  g18 := by kernel_rfl
  g19 := by kernel_rfl }
open Go.RowKit in
theorem sh_strconv_Atoi (s : ByteArray) (n : Int) (hl : s.size ≤ 18) (h : Lib.atoi s.data.toList = some n) (w : World) :
    Calls Tryd.prog 68 #[.string s] w fun e w' => e = .returned (.tuple #[.int .i64 n, .nilIface]) ∧ ∃ t, w' = Lib.bytesWorld w 5 t := Any.strconv_Atoi sh_lays172 s n hl h w
def sh_laysM171_ren : Go.Shelf.Ren := ⟨fun | 171 => 69 | 243 => 82 | 246 => 93 | 283 => 104 | 284 => 105 | 285 => 106 | 286 => 107 | 129 => 114 | 317 => 113 | 318 => 115 | 319 => 116 | 320 => 117 | 337 => 118 | 338 => 119 | n => n, fun | 3 => 3 | 9 => 9 | 2 => 2 | 4 => 4 | 171 => 115 | 0 => 0 | 53 => 88 | 37 => 30 | 5 => 5 | 173 => 118 | 212 => 128 | 51 => 120 | 20 => 20 | 213 => 129 | 46 => 76 | 232 => 137 | 233 => 138 | n => n, fun | 17 => 3 | 18 => 6 | 19 => 7 | n => n⟩
theorem sh_laysM171 : Go.Proofs.LaysM.n171 Tryd.prog sh_laysM171_ren := {
  mixed := by kernel_rfl
  f129 := Tryd.func114.trans (congrArg some (by kernel_rfl))
  f171 := Tryd.func69.trans (congrArg some (by kernel_rfl))
  f243 := Tryd.func82.trans (congrArg some (by kernel_rfl))
  f246 := Tryd.func93.trans (congrArg some (by kernel_rfl))
  f283 := Tryd.func104.trans (congrArg some (by kernel_rfl))
  f284 := Tryd.func105.trans (congrArg some (by kernel_rfl))
  f285 := Tryd.func106.trans (congrArg some (by kernel_rfl))
  f286 := Tryd.func107.trans (congrArg some (by kernel_rfl))
  f317 := Tryd.func113.trans (congrArg some (by kernel_rfl))
  f318 := Tryd.func115.trans (congrArg some (by kernel_rfl))
  f319 := Tryd.func116.trans (congrArg some (by kernel_rfl))
  f320 := Tryd.func117.trans (congrArg some (by kernel_rfl))
  f337 := Tryd.func118.trans (congrArg some (by kernel_rfl))
  f338 := Tryd.func119.trans (congrArg some (by kernel_rfl))
  t0 := Tryd.underlying0
  a0 := Tryd.isAgg0
  z0 := Tryd.sizeOf0
  v0 := Tryd.zeroValue0
  t2 := Tryd.underlying2
  a2 := Tryd.isAgg2
  z2 := Tryd.sizeOf2
  v2 := Tryd.zeroValue2
  t3 := Tryd.underlying3
  a3 := Tryd.isAgg3
  z3 := Tryd.sizeOf3
  v3 := Tryd.zeroValue3
  t4 := Tryd.underlying4
  a4 := Tryd.isAgg4
  z4 := Tryd.sizeOf4
  v4 := Tryd.zeroValue4
  t5 := Tryd.underlying5
  a5 := Tryd.isAgg5
  z5 := Tryd.sizeOf5
  v5 := Tryd.zeroValue5
  t9 := Tryd.underlying9
  a9 := Tryd.isAgg9
  z9 := Tryd.sizeOf9
  v9 := Tryd.zeroValue9
  t20 := Tryd.underlying20
  a20 := Tryd.isAgg20
  z20 := Tryd.sizeOf20
  v20 := Tryd.zeroValue20
  t37 := Tryd.underlying30
  a37 := Tryd.isAgg30
  z37 := Tryd.sizeOf30
  v37 := Tryd.zeroValue30
  t46 := Tryd.underlying76
  a46 := Tryd.isAgg76
  z46 := Tryd.sizeOf76
  v46 := Tryd.zeroValue76
  t51 := Tryd.underlying120
  a51 := Tryd.isAgg120
  z51 := Tryd.sizeOf120
  v51 := Tryd.zeroValue120
  t53 := Tryd.underlying88
  a53 := Tryd.isAgg88
  z53 := Tryd.sizeOf88
  v53 := Tryd.zeroValue88
  t171 := Tryd.underlying115
  a171 := Tryd.isAgg115
  z171 := Tryd.sizeOf115
  v171 := Tryd.zeroValue115
  t173 := Tryd.underlying118
  a173 := Tryd.isAgg118
  z173 := Tryd.sizeOf118
  v173 := Tryd.zeroValue118
  t212 := Tryd.underlying128
  a212 := Tryd.isAgg128
  z212 := Tryd.sizeOf128
  v212 := Tryd.zeroValue128
  t213 := Tryd.underlying129
  a213 := Tryd.isAgg129
  z213 := Tryd.sizeOf129
  t232 := Tryd.underlying137
  a232 := Tryd.isAgg137
  z232 := Tryd.sizeOf137
  v232 := Tryd.zeroValue137
  t233 := Tryd.underlying138
  a233 := Tryd.isAgg138
  z233 := Tryd.sizeOf138
  v233 := Tryd.zeroValue138
  g17 := by kernel_rfl
  g18 := by kernel_rfl
  g19 := by kernel_rfl
  i0 := by kernel_rfl
  i2 := by kernel_rfl
  i3 := by kernel_rfl
  i4 := by kernel_rfl
  i5 := by kernel_rfl
  i9 := by kernel_rfl
  i20 := by kernel_rfl
  i37 := by kernel_rfl
  i46 := by kernel_rfl
  i51 := by kernel_rfl
  i53 := by kernel_rfl
  i171 := by kernel_rfl
  i173 := by kernel_rfl
  i212 := by kernel_rfl
  i232 := by kernel_rfl
  i233 := by kernel_rfl
  m17 := by kernel_rfl
  m18 := by kernel_rfl
  m19 := by kernel_rfl }
open Go.RowKit Go.Sort Go.Lib in
theorem sh_strconv_Itoa (n : Int) (h0 : -9223372036854775808 ≤ n) (h1 : n ≤ 9223372036854775807) (w : World) (htab : Lib.TabIs Tryd.prog w "internal/strconv.uint64pow10" .u64 Lib.pow10Tab) :
    Calls Tryd.prog 69 #[.int .i64 n] w fun e w' => e = .returned (.string ⟨(Lib.itoa n).toArray⟩) ∧ ∃ k os, w' = grow (w.drewN k) os := Any.strconv_Itoa sh_laysM171 n h0 h1 w htab
def sh_lays171_ren : Go.Shelf.Ren := ⟨fun | 171 => 69 | 243 => 82 | 246 => 93 | 283 => 104 | 284 => 105 | 285 => 106 | 286 => 107 | 129 => 114 | 317 => 113 | 318 => 115 | 319 => 116 | 320 => 117 | 337 => 118 | 338 => 119 | n => n, fun | 3 => 3 | 9 => 9 | 2 => 2 | 4 => 4 | 171 => 115 | 0 => 0 | 53 => 88 | 37 => 30 | 5 => 5 | 173 => 118 | 212 => 128 | 51 => 120 | 20 => 20 | 213 => 129 | 46 => 76 | 232 => 137 | 233 => 138 | n => n, fun | 17 => 3 | 18 => 6 | 19 => 7 | n => n⟩
open Go.RowKit Go.Sort Go.Lib in
def sh_lays145_ren : Go.Shelf.Ren := ⟨fun | 145 => 57 | 220 => 77 | 219 => 83 | 217 => 94 | 225 => 95 | 224 => 96 | 267 => 97 | 266 => 108 | 314 => 109 | n => n, fun | 9 => 9 | 4 => 4 | 59 => 70 | 3 => 3 | 5 => 5 | 46 => 76 | 146 => 121 | 51 => 120 | n => n, fun | 1 => 0 | n => n⟩
theorem sh_lays145 : Go.Proofs.Lays.n145 Tryd.prog sh_lays145_ren := {
  mixed := by kernel_rfl
  f145 := Tryd.func57.trans (congrArg some (by kernel_rfl))
  f217 := Tryd.func94.trans (congrArg some (by kernel_rfl))
  f219 := Tryd.func83.trans (congrArg some (by kernel_rfl))
  f220 := Tryd.func77.trans (congrArg some (by kernel_rfl))
  f224 := Tryd.func96.trans (congrArg some (by kernel_rfl))
  f225 := Tryd.func95.trans (congrArg some (by kernel_rfl))
  f266 := Tryd.func108.trans (congrArg some (by kernel_rfl))
  f267 := Tryd.func97.trans (congrArg some (by kernel_rfl))
  f314 := Tryd.func109.trans (congrArg some (by kernel_rfl))
  t3 := Tryd.underlying3
  a3 := Tryd.isAgg3
  z3 := Tryd.sizeOf3
  v3 := Tryd.zeroValue3
  t4 := Tryd.underlying4
  a4 := Tryd.isAgg4
  z4 := Tryd.sizeOf4
  v4 := Tryd.zeroValue4
  t5 := Tryd.underlying5
  a5 := Tryd.isAgg5
  z5 := Tryd.sizeOf5
  v5 := Tryd.zeroValue5
  t9 := Tryd.underlying9
  a9 := Tryd.isAgg9
  z9 := Tryd.sizeOf9
  v9 := Tryd.zeroValue9
  t46 := Tryd.underlying76
  a46 := Tryd.isAgg76
  z46 := Tryd.sizeOf76
  v46 := Tryd.zeroValue76
  t51 := Tryd.underlying120
  a51 := Tryd.isAgg120
  z51 := Tryd.sizeOf120
  v51 := Tryd.zeroValue120
  t59 := Tryd.underlying70
  a59 := Tryd.isAgg70
  z59 := Tryd.sizeOf70
  v59 := Tryd.zeroValue70
  t146 := Tryd.underlying121
  a146 := Tryd.isAgg121
  z146 := Tryd.sizeOf121
  v146 := Tryd.zeroValue121
  g1 := by kernel_rfl }
open Go.RowKit Go.Lib in
theorem sh_strings_Cut (s sep : ByteArray) (m : Int) (w : World) (hs : s.size < 4294967281) (hm : w.cell? ⟨0, 0, none⟩ = some (.int .i64 m)) :
    Calls Tryd.prog 57 #[.string s, .string sep] w fun e w' => e = .returned (.tuple #[.string ⟨(Lib.cut s.data.toList sep.data.toList).1.toArray⟩, .string ⟨(Lib.cut s.data.toList sep.data.toList).2.1.toArray⟩, .bool (Lib.cut s.data.toList sep.data.toList).2.2]) ∧ ∃ n, w' = w.drewN n := Any.strings_Cut sh_lays145 s sep m w hs hm
end Go.Proofs.YtjacpnojnoompaaDoor

/- Fractions: the functions that compute. No condition. -/
set_option linter.unusedSimpArgs false
set_option linter.unusedVariables false
namespace Go.Proofs.YtjacpnojnoompaaDoor
open Go Go.RowKit Go.Proofs.YtjacpnojnoompaaDoor.K Go.Proofs.YtjacpnojnoompaaDoor.M

theorem duo51 : Duo Tryd.prog 51 := ⟨_, _, Tryd.underlying51, by kernel_rfl, by kernel_rfl, by decide, by decide, rfl, rfl, ⟨_, Tryd.underlying3⟩, ⟨_, Tryd.underlying3⟩, fun xs w v h => run_part_plain w (by kernel_rfl) h, fun xs w v h => run_part_plain w (by kernel_rfl) h⟩

theorem Divisor_V {R : Ro} {a b : Nat} (ha : a ≤ 18446744073709551615) (hb : b ≤ 18446744073709551615) : FnV Tryd.prog 70 [.int .u64 (a : Int), .int .u64 (b : Int)] R (.int .u64 (Nat.gcd a b : Int)) := by
  refine Fn.toV (fun w0 E => ?_)
  refine Fn.enter (n := 12) Tryd.func70 rfl rfl (Nat.le_of_ble_eq_true rfl) rfl ?_
  refine W.seq ?_
  refine W.region _ ?_
  refine WG.run tab_ok 1 rfl ?_
  refine WG.nil ?_
  refine WE.nxt ?_
  refine W.seq ?_
  refine W.block ?_
  refine W.loopK (β := Nat × Nat) (fun (x, y) => Nat.gcd x y = Nat.gcd a b) (fun (x, y) => [(0, true, .int .u64 (x : Int)), (1, true, .int .u64 (y : Int))]) [] [] [] _ rfl (fun (x, y) => []) (fun (x, y) => y) ((a, b)) (rfl) ⟨rfl, rfl, rfl⟩ (by (repeat (first | exact List.Sublist.refl _ | exact List.nil_sublist _ | apply List.Sublist.cons_cons | apply List.Sublist.cons)); done) ?_
  intro st hst
  obtain ⟨x, y⟩ := st
  dsimp only [zipE, setAll, List.cons_append, List.nil_append, List.set_cons_zero, List.set_cons_succ] at hst ⊢
  
  refine W.seq ?_
  refine W.seq ?_
  refine W.region _ ?_
  refine WG.run tab_ok 2 rfl ?_
  refine WG.nil ?_
  refine WE.nxt ?_
  refine W.condN rfl (fun hc0 => ?_) (fun hc0 => ?_)
  · try dsimp only at hc0
    refine W.skip ?_
    refine WE.nxt ?_
    refine W.block ?_
    refine W.regionQ _ mixed (by kernel_rfl) ?_
    refine WG.run tab_ok 3 rfl ?_
    refine WG.y rfl rfl (by decide) (Yl.remU rfl rfl rfl (fun _ => rfl) (by intro _; (try dsimp only) <;> omega) (by intro _; (try dsimp only) <;> omega)) ?_
    refine WG.run tab_ok 2 rfl ?_
    refine WG.nil ?_
    refine WE.blk _ ?_
    refine WE.again ((y, x % y)) ((gcd_step x y).trans hst) (by dsimp only; exact Nat.mod_lt _ (by omega)) ⟨rfl, rfl, rfl⟩ (RLe.refl _) (by (repeat (first | exact List.Sublist.refl _ | exact List.nil_sublist _ | apply List.Sublist.cons_cons | apply List.Sublist.cons)); done)
  · try dsimp only at hc0
    obtain rfl : y = 0 := by omega
    rw [Nat.gcd_zero_right] at hst
    subst hst
    refine W.exit ?_
    refine WE.then_exit ?_
    refine WE.then_exit ?_
    refine WE.blk_exit ?_
    refine WE.nxt ?_
    refine W.seq ?_
    refine W.region _ ?_
    refine WG.run tab_ok 2 rfl ?_
    refine WG.nil ?_
    refine WE.nxt ?_
    refine W.ret ?_
    refine WE.subE (E' := E) (by (repeat (first | exact List.Sublist.refl _ | exact List.nil_sublist _ | apply List.Sublist.cons_cons | apply List.Sublist.cons)); done) ?_
    refine WE.retF tab_ok [_] rfl ⟨rfl, trivial⟩ (RLe.refl _) ?_
    exact ⟨rfl, rfl⟩

theorem Size_V {R : Ro} {a : Int} (ha : InR a) : FnV Tryd.prog 71 [.int .i64 a] R (.int .u64 (a.natAbs : Int)) := by
  refine Fn.toV (fun w0 E => ?_)
  refine Fn.enter (n := 12) Tryd.func71 rfl rfl (Nat.le_of_ble_eq_true rfl) rfl ?_
  refine W.seq ?_
  refine W.region _ ?_
  refine WG.run tab_ok 1 rfl ?_
  refine WG.nil ?_
  refine WE.nxt ?_
  refine W.seq ?_
  refine W.seq ?_
  refine W.region _ ?_
  refine WG.run tab_ok 2 rfl ?_
  refine WG.nil ?_
  refine WE.nxt ?_
  refine W.condD rfl (fun hc0 => ?_) (fun hc0 => ?_)
  · try dsimp only at hc0
    refine W.seq ?_
    refine W.region _ ?_
    refine WG.run tab_ok 1 rfl ?_
    refine WG.y rfl rfl (by decide) (Yl.add rfl rfl rfl (fun _ => rfl) (by intro _; constructor <;> (try dsimp only) <;> omega)) ?_
    refine WG.y rfl rfl (by decide) (Yl.neg rfl rfl (fun _ => rfl) (by intro _; constructor <;> (try dsimp only) <;> omega)) ?_
    refine WG.y rfl rfl (by decide) (Yl.convId tab_ok rfl rfl rfl rfl rfl rfl (fun _ => rfl) (by intro _; (try dsimp only); first | exact u64_id ⟨by omega, by omega⟩ | exact i64_wrap ⟨by omega, by omega⟩)) ?_
    refine WG.y rfl rfl (by decide) (Yl.addU rfl rfl rfl (fun _ => rfl) (by intro _; constructor <;> (try dsimp only) <;> omega)) ?_
    refine WG.run tab_ok 1 rfl ?_
    refine WG.nil ?_
    refine WE.nxt ?_
    refine W.ret ?_
    refine WE.then_ret ?_
    refine WE.subE (E' := E) (by (repeat (first | exact List.Sublist.refl _ | exact List.nil_sublist _ | apply List.Sublist.cons_cons | apply List.Sublist.cons)); done) ?_
    refine WE.retF tab_ok [_] rfl ⟨rfl, trivial⟩ (RLe.refl _) ?_
    exact ⟨congrArg (Value.int .u64) (by omega), rfl⟩
  · try dsimp only at hc0
    refine W.skip ?_
    refine WE.nxt ?_
    refine W.seq ?_
    refine W.region _ ?_
    refine WG.run tab_ok 1 rfl ?_
    refine WG.y rfl rfl (by decide) (Yl.convId tab_ok rfl rfl rfl rfl rfl rfl (fun _ => rfl) (by intro _; (try dsimp only); first | exact u64_id ⟨by omega, by omega⟩ | exact i64_wrap ⟨by omega, by omega⟩)) ?_
    refine WG.run tab_ok 1 rfl ?_
    refine WG.nil ?_
    refine WE.nxt ?_
    refine W.ret ?_
    refine WE.subE (E' := E) (by (repeat (first | exact List.Sublist.refl _ | exact List.nil_sublist _ | apply List.Sublist.cons_cons | apply List.Sublist.cons)); done) ?_
    refine WE.retF tab_ok [_] rfl ⟨rfl, trivial⟩ (RLe.refl _) ?_
    exact ⟨congrArg (Value.int .u64) (by omega), rfl⟩

theorem Valid01_V {R : Ro} {x : Fr} (hx : InR x.1 ∧ InR x.2) : FnV Tryd.prog 35 [.agg #[.int .i64 x.1, .int .i64 x.2]] R (.bool (validF x)) := by
  refine Fn.toV (fun w0 E => ?_)
  refine Fn.enter (n := 31) Tryd.func35 rfl rfl (Nat.le_of_ble_eq_true rfl) rfl ?_
  refine W.seq ?_
  refine W.region _ ?_
  refine WL.ef rfl rfl (by decide) (Ef.box rfl rfl (fun b1 => ?_))
  refine WG.run tab_ok 1 rfl ?_
  refine WG.nil ?_
  refine WE.nxt ?_
  refine W.seq ?_
  refine W.regionQ _ mixed (by kernel_rfl) ?_
  refine WG.run tab_ok 1 rfl ?_
  refine' WG.y rfl rfl (by decide) (Yl.load1 tab_ok rfl rfl rfl (fun _ => rfl) ?r1 rfl ?h1) ?_
  case r1 => apply Rd.add; (first | exact Rd.blk 0 rfl)
  case h1 => rfl
  refine WG.run tab_ok 2 rfl ?_
  refine WG.y rfl rfl (by decide) (pureV_ok tab_ok rfl (by first | exact fun _ => rfl | exact fun h => h | (intro h; simp_all))) ?_
  refine' WG.y rfl rfl (by decide) (Yl.loadG tab_ok rfl rfl rfl (by first | exact fun _ => rfl | exact fun h => h | (intro h; simp_all)) ?r2 rfl ?h2 ?g2) ?_
  case r2 => apply Rd.addC; (first | exact Rd.blkC 0 rfl)
  case h2 => rfl
  case g2 => first | exact fun _ => trivial | (intro hg; (try simp only [decide_eq_true_eq, decide_eq_false_iff_not, beq_iff_eq, bne_iff_ne, beq_eq_false_iff_ne, bne_eq_false_iff_eq, ne_eq, Bool.or_eq_true, Bool.or_eq_false_iff, Bool.and_eq_true, Bool.and_eq_false_imp, Bool.not_eq_true, Bool.not_eq_true', Bool.not_eq_false', Classical.not_not, Int.not_lt, Int.not_le, gt_iff_lt, ge_iff_le] at hg); (try dsimp only); omega)
  refine WG.y rfl rfl (by decide) (pureV_ok tab_ok rfl (by first | exact fun _ => rfl | exact fun h => h | (intro h; simp_all))) ?_
  refine WG.y rfl rfl (by decide) (Yl.pand rfl rfl rfl (fun _ => rfl) (by intro h1 h2; simp_all <;> omega)) ?_
  refine WG.run tab_ok 1 rfl ?_
  refine WG.y rfl rfl (by decide) (pureV_ok tab_ok rfl (by first | exact fun _ => rfl | exact fun h => h | (intro h; simp_all))) ?_
  refine' WG.y rfl rfl (by decide) (Yl.loadG tab_ok rfl rfl rfl (by first | exact fun _ => rfl | exact fun h => h | (intro h; simp_all)) ?r3 rfl ?h3 ?g3) ?_
  case r3 => apply Rd.addC; (first | exact Rd.blkC 0 rfl)
  case h3 => rfl
  case g3 => first | exact fun _ => trivial | (intro hg; (try simp only [decide_eq_true_eq, decide_eq_false_iff_not, beq_iff_eq, bne_iff_ne, beq_eq_false_iff_ne, bne_eq_false_iff_eq, ne_eq, Bool.or_eq_true, Bool.or_eq_false_iff, Bool.and_eq_true, Bool.and_eq_false_imp, Bool.not_eq_true, Bool.not_eq_true', Bool.not_eq_false', Classical.not_not, Int.not_lt, Int.not_le, gt_iff_lt, ge_iff_le] at hg); (try dsimp only); omega)
  refine WG.y rfl rfl (by decide) (pureV_ok tab_ok rfl (by first | exact fun _ => rfl | exact fun h => h | (intro h; simp_all))) ?_
  refine WG.y rfl rfl (by decide) (Yl.pand rfl rfl rfl (fun _ => rfl) (by intro h1 h2; simp_all <;> omega)) ?_
  refine WG.run tab_ok 1 rfl ?_
  refine WG.y rfl rfl (by decide) (pureV_ok tab_ok rfl (by first | exact fun _ => rfl | exact fun h => h | (intro h; simp_all))) ?_
  refine' WG.y rfl rfl (by decide) (Yl.loadG tab_ok rfl rfl rfl (by first | exact fun _ => rfl | exact fun h => h | (intro h; simp_all)) ?r4 rfl ?h4 ?g4) ?_
  case r4 => apply Rd.addC; (first | exact Rd.blkC 0 rfl)
  case h4 => rfl
  case g4 => first | exact fun _ => trivial | (intro hg; (try simp only [decide_eq_true_eq, decide_eq_false_iff_not, beq_iff_eq, bne_iff_ne, beq_eq_false_iff_ne, bne_eq_false_iff_eq, ne_eq, Bool.or_eq_true, Bool.or_eq_false_iff, Bool.and_eq_true, Bool.and_eq_false_imp, Bool.not_eq_true, Bool.not_eq_true', Bool.not_eq_false', Classical.not_not, Int.not_lt, Int.not_le, gt_iff_lt, ge_iff_le] at hg); (try dsimp only); omega)
  refine WG.y rfl rfl (by decide) (pureV_ok tab_ok rfl (by first | exact fun _ => rfl | exact fun h => h | (intro h; simp_all))) ?_
  refine WG.y rfl rfl (by decide) (Yl.pand rfl rfl rfl (fun _ => rfl) (by intro h1 h2; simp_all <;> omega)) ?_
  refine WG.run tab_ok 1 rfl ?_
  refine WG.y rfl rfl (by decide) (pureV_ok tab_ok rfl (by first | exact fun _ => rfl | exact fun h => h | (intro h; simp_all))) ?_
  refine' WG.y rfl rfl (by decide) (Yl.loadG tab_ok rfl rfl rfl (by first | exact fun _ => rfl | exact fun h => h | (intro h; simp_all)) ?r5 rfl ?h5 ?g5) ?_
  case r5 => apply Rd.addC; (first | exact Rd.blkC 0 rfl)
  case h5 => rfl
  case g5 => first | exact fun _ => trivial | (intro hg; (try simp only [decide_eq_true_eq, decide_eq_false_iff_not, beq_iff_eq, bne_iff_ne, beq_eq_false_iff_ne, bne_eq_false_iff_eq, ne_eq, Bool.or_eq_true, Bool.or_eq_false_iff, Bool.and_eq_true, Bool.and_eq_false_imp, Bool.not_eq_true, Bool.not_eq_true', Bool.not_eq_false', Classical.not_not, Int.not_lt, Int.not_le, gt_iff_lt, ge_iff_le] at hg); (try dsimp only); omega)
  refine WG.callV en71 rfl rfl (by decide) (CallOp.mk' rfl rfl rfl rfl) (by first | exact fun _ => rfl | exact fun h => h | (intro h; simp_all)) (fun hg => Size_V hx.1) ?_
  refine WG.y rfl rfl (by decide) (pureV_ok tab_ok rfl (by first | exact fun _ => rfl | exact fun h => h | (intro h; simp_all))) ?_
  refine' WG.y rfl rfl (by decide) (Yl.loadG tab_ok rfl rfl rfl (by first | exact fun _ => rfl | exact fun h => h | (intro h; simp_all)) ?r6 rfl ?h6 ?g6) ?_
  case r6 => apply Rd.addC; (first | exact Rd.blkC 0 rfl)
  case h6 => rfl
  case g6 => first | exact fun _ => trivial | (intro hg; (try simp only [decide_eq_true_eq, decide_eq_false_iff_not, beq_iff_eq, bne_iff_ne, beq_eq_false_iff_ne, bne_eq_false_iff_eq, ne_eq, Bool.or_eq_true, Bool.or_eq_false_iff, Bool.and_eq_true, Bool.and_eq_false_imp, Bool.not_eq_true, Bool.not_eq_true', Bool.not_eq_false', Classical.not_not, Int.not_lt, Int.not_le, gt_iff_lt, ge_iff_le] at hg); (try dsimp only); omega)
  refine WG.y rfl rfl (by decide) (Yl.convId tab_ok rfl rfl rfl rfl rfl rfl (by first | exact fun _ => rfl | exact fun h => h | (intro h; simp_all)) (by intro hg; (try simp only [decide_eq_true_eq, decide_eq_false_iff_not, beq_iff_eq, bne_iff_ne, beq_eq_false_iff_ne, bne_eq_false_iff_eq, ne_eq, Bool.or_eq_true, Bool.or_eq_false_iff, Bool.and_eq_true, Bool.and_eq_false_imp, Bool.not_eq_true, Bool.not_eq_true', Bool.not_eq_false', Classical.not_not, Int.not_lt, Int.not_le, gt_iff_lt, ge_iff_le] at hg); (try dsimp only); first | exact u64_id ⟨by omega, by omega⟩ | exact i64_wrap ⟨by omega, by omega⟩)) ?_
  refine WG.callV (v := .int .u64 (Nat.gcd x.1.natAbs x.2.natAbs : Int)) en70 rfl rfl (by decide) (CallOp.mk' rfl rfl rfl rfl) (by first | exact fun _ => rfl | exact fun h => h | (intro h; simp_all)) (fun hg => by
    have h := Divisor_V (R := R) (a := x.1.natAbs) (b := x.2.natAbs) (by omega) (by omega)
    rw [show ((x.2.natAbs : Nat) : Int) = x.2 by (have hd : 1 ≤ x.2 := (by by_cases h9 : x.2 ≥ 1; exact h9; simp [h9] at hg); omega)] at h
    exact h) ?_
  refine WG.y rfl rfl (by decide) (pureV_ok tab_ok rfl (by first | exact fun _ => rfl | exact fun h => h | (intro h; simp_all))) ?_
  refine WG.y rfl rfl (by decide) (Yl.pand rfl rfl rfl (fun _ => rfl) (by intro h1 h2; simp_all <;> omega)) ?_
  refine WG.run tab_ok 1 rfl ?_
  refine WG.nil ?_
  refine WE.nxt ?_
  refine W.ret ?_
  refine WE.subE (E' := E) (by (repeat (first | exact List.Sublist.refl _ | exact List.nil_sublist _ | apply List.Sublist.cons_cons | apply List.Sublist.cons)); done) ?_
  refine WE.retF tab_ok [_] rfl ⟨rfl, trivial⟩ (RLe.refl _) ?_
  exact ⟨congrArg Value.bool (by
    unfold validF MT
    by_cases h1 : 1 ≤ x.2 <;> by_cases h2 : x.2 ≤ 1073741824 <;> by_cases h3 : -1073741824 ≤ x.1 <;> by_cases h4 : x.1 ≤ 1073741824 <;> by_cases h5 : Nat.gcd x.1.natAbs x.2.natAbs = 1 <;> simp [h1, h2, h3, h4, h5] <;> omega), rfl⟩

theorem New01_V {R : Ro} {a b : Int} (ha : InR a) (hb : InR b) : FnV Tryd.prog 36 [.int .i64 a, .int .i64 b] R (frV (newF a b)) := by
  refine Fn.toVS (fun w0 E => ?_)
  refine Fn.enter (n := 48) Tryd.func36 rfl rfl (Nat.le_of_ble_eq_true rfl) rfl ?_
  refine W.seq ?_
  refine W.region _ ?_
  refine WL.ef rfl rfl (by decide) (Ef.alloc tab_ok rfl rfl (fun b4 => ?_))
  refine WG.run tab_ok 1 rfl ?_
  refine WG.nil ?_
  refine WE.nxt ?_
  refine W.seq ?_
  refine W.seq ?_
  refine W.region _ ?_
  refine WG.run tab_ok 2 rfl ?_
  refine WG.nil ?_
  refine WE.nxt ?_
  refine W.condE rfl (fun hc0 => ?_) (fun hc0 => ?_)
  · try dsimp only at hc0
    refine W.seq ?_
    refine W.region _ ?_
    -- build
    refine WG.y rfl rfl (by decide) (Yl.build (parts := []) tab_ok rfl rfl rfl rfl (fun _ => rfl) rfl rfl) ?_
    first | refine WL.efN rfl rfl (Ef.store0 0 tab_ok rfl rfl rfl rfl rfl rfl rfl rfl ?_) | refine WL.efN rfl rfl (Ef.store0 1 tab_ok rfl rfl rfl rfl rfl rfl rfl rfl ?_)
    refine WG.run tab_ok 1 rfl ?_
    refine WG.nil ?_
    refine WE.nxt ?_
    refine W.ret ?_
    refine WE.then_ret ?_
    refine WE.retF tab_ok [_, _] rfl ⟨⟨_, _, _, rfl, rfl, rfl, (Rd.blk 0 rfl), rfl⟩, rfl, trivial⟩ (RLe.refl _) ?_
    exact ⟨by unfold newF; rw [if_pos (by omega)]; rfl, (by (repeat (first | exact List.Sublist.refl _ | exact List.nil_sublist _ | apply List.Sublist.cons_cons | apply List.Sublist.cons)); done)⟩
  · try dsimp only at hc0
    have hg0 : 0 < Nat.gcd a.natAbs b.natAbs := Nat.gcd_pos_of_pos_right _ (by omega)
    have hq1 : 0 ≤ (a.natAbs : Int) / ((Nat.gcd a.natAbs b.natAbs : Nat) : Int) ∧ (a.natAbs : Int) / ((Nat.gcd a.natAbs b.natAbs : Nat) : Int) ≤ a.natAbs := ⟨Int.ediv_nonneg (by omega) (by omega), Int.ediv_le_self _ (by omega)⟩
    have hq2 : 0 ≤ (b.natAbs : Int) / ((Nat.gcd a.natAbs b.natAbs : Nat) : Int) ∧ (b.natAbs : Int) / ((Nat.gcd a.natAbs b.natAbs : Nat) : Int) ≤ b.natAbs := ⟨Int.ediv_nonneg (by omega) (by omega), Int.ediv_le_self _ (by omega)⟩
    refine W.skip ?_
    refine WE.nxt ?_
    refine W.seq ?_
    refine W.region _ ?_
    refine WG.run tab_ok 1 rfl ?_
    refine WG.callV en71 rfl rfl (by decide) (CallOp.mk' rfl rfl rfl rfl) (fun _ => rfl) (fun hg => Size_V ha) ?_
    refine WG.run tab_ok 1 rfl ?_
    refine WG.callV en71 rfl rfl (by decide) (CallOp.mk' rfl rfl rfl rfl) (fun _ => rfl) (fun hg => Size_V hb) ?_
    refine WG.run tab_ok 2 rfl ?_
    refine WG.nil ?_
    refine WE.nxt ?_
    refine W.seq ?_
    refine W.region _ ?_
    refine WG.run tab_ok 2 rfl ?_
    refine WG.callV en70 rfl rfl (by decide) (CallOp.mk' rfl rfl rfl rfl) (fun _ => rfl) (fun hg => Divisor_V (by omega) (by omega)) ?_
    refine WG.run tab_ok 1 rfl ?_
    refine WG.nil ?_
    refine WE.nxt ?_
    refine W.seq ?_
    refine W.regionQ _ mixed (by kernel_rfl) ?_
    refine WG.run tab_ok 2 rfl ?_
    refine WG.y rfl rfl (by decide) (Yl.quoU rfl rfl rfl (fun _ => rfl) (by intro _; constructor <;> (try dsimp only) <;> omega) (by intro _; omega)) ?_
    refine WG.run tab_ok 2 rfl ?_
    refine WG.y rfl rfl (by decide) (Yl.quoU rfl rfl rfl (fun _ => rfl) (by intro _; constructor <;> (try dsimp only) <;> omega) (by intro _; omega)) ?_
    refine WG.run tab_ok 2 rfl ?_
    refine WG.nil ?_
    refine WE.nxt ?_
    refine W.seq ?_
    refine W.seq ?_
    refine W.region _ ?_
    refine WG.run tab_ok 3 rfl ?_
    refine WG.y rfl rfl (by decide) (pureV_ok tab_ok rfl (by first | exact fun _ => rfl | exact fun h => h | (intro h; simp_all))) ?_
    refine WG.y rfl rfl (by decide) (pureV_ok tab_ok rfl (by first | exact fun _ => rfl | exact fun h => h | (intro h; simp_all))) ?_
    refine WG.y rfl rfl (by decide) (Yl.por rfl rfl rfl (fun _ => rfl) (by intro h1 h2; simp_all <;> omega)) ?_
    refine WG.nil ?_
    refine WE.nxt ?_
    refine W.cond rfl (fun hc1 => ?_) (fun hc1 => ?_)
    · try simp only [decide_eq_true_eq, decide_eq_false_iff_not, beq_iff_eq, bne_iff_ne, beq_eq_false_iff_ne, bne_eq_false_iff_eq, ne_eq, Bool.or_eq_true, Bool.or_eq_false_iff, Bool.and_eq_true, Bool.and_eq_false_imp, Bool.not_eq_true, Bool.not_eq_true', Bool.not_eq_false', Classical.not_not, Int.not_lt, Int.not_le, gt_iff_lt, ge_iff_le] at hc1
      refine W.seq ?_
      refine W.region _ ?_
      -- build
      refine WG.y rfl rfl (by decide) (Yl.build (parts := []) tab_ok rfl rfl rfl rfl (fun _ => rfl) rfl rfl) ?_
      first | refine WL.efN rfl rfl (Ef.store0 0 tab_ok rfl rfl rfl rfl rfl rfl rfl rfl ?_) | refine WL.efN rfl rfl (Ef.store0 1 tab_ok rfl rfl rfl rfl rfl rfl rfl rfl ?_)
      refine WG.run tab_ok 1 rfl ?_
      refine WG.nil ?_
      refine WE.nxt ?_
      refine W.ret ?_
      refine WE.then_ret ?_
      refine WE.retF tab_ok [_, _] rfl ⟨⟨_, _, _, rfl, rfl, rfl, (Rd.blk 0 rfl), rfl⟩, rfl, trivial⟩ (RLe.refl _) ?_
      exact ⟨by unfold newF MT; rw [if_neg (by omega), if_pos (by omega)]; rfl, (by (repeat (first | exact List.Sublist.refl _ | exact List.nil_sublist _ | apply List.Sublist.cons_cons | apply List.Sublist.cons)); done)⟩
    · try simp only [decide_eq_true_eq, decide_eq_false_iff_not, beq_iff_eq, bne_iff_ne, beq_eq_false_iff_ne, bne_eq_false_iff_eq, ne_eq, Bool.or_eq_true, Bool.or_eq_false_iff, Bool.and_eq_true, Bool.and_eq_false_imp, Bool.not_eq_true, Bool.not_eq_true', Bool.not_eq_false', Classical.not_not, Int.not_lt, Int.not_le, gt_iff_lt, ge_iff_le] at hc1
      refine W.skip ?_
      refine WE.nxt ?_
      refine W.seq ?_
      refine W.seq ?_
      refine W.region _ ?_
      refine WG.run tab_ok 4 rfl ?_
      refine WG.y rfl rfl (by decide) (Yl.neB tab_ok rfl rfl rfl rfl rfl (fun _ => rfl)) ?_
      refine WG.nil ?_
      refine WE.nxt ?_
      refine W.cond rfl (fun hc2 => ?_) (fun hc2 => ?_)
      · try simp only [decide_eq_true_eq, decide_eq_false_iff_not, beq_iff_eq, bne_iff_ne, beq_eq_false_iff_ne, bne_eq_false_iff_eq, ne_eq, Bool.or_eq_true, Bool.or_eq_false_iff, Bool.and_eq_true, Bool.and_eq_false_imp, Bool.not_eq_true, Bool.not_eq_true', Bool.not_eq_false', Classical.not_not, Int.not_lt, Int.not_le, gt_iff_lt, ge_iff_le] at hc2
        simp at hc2
        refine W.seq ?_
        refine W.region _ ?_
        refine WG.run tab_ok 1 rfl ?_
        refine WG.y rfl rfl (by decide) (Yl.convId tab_ok rfl rfl rfl rfl rfl rfl (fun _ => rfl) (by intro _; (try dsimp only); first | exact u64_id ⟨by omega, by omega⟩ | exact i64_wrap ⟨by omega, by omega⟩)) ?_
        refine WG.y rfl rfl (by decide) (Yl.neg rfl rfl (fun _ => rfl) (by intro _; constructor <;> (try dsimp only) <;> omega)) ?_
        refine WG.run tab_ok 1 rfl ?_
        refine WG.y rfl rfl (by decide) (Yl.convId tab_ok rfl rfl rfl rfl rfl rfl (fun _ => rfl) (by intro _; (try dsimp only); first | exact u64_id ⟨by omega, by omega⟩ | exact i64_wrap ⟨by omega, by omega⟩)) ?_
        -- build
        refine WG.y rfl rfl (by decide) (Yl.build (parts := [(0, .tmp 39), (1, .tmp 41)]) tab_ok rfl rfl rfl rfl (fun _ => rfl) rfl rfl) ?_
        first | refine WL.efN rfl rfl (Ef.store0 0 tab_ok rfl rfl rfl rfl rfl rfl rfl rfl ?_) | refine WL.efN rfl rfl (Ef.store0 1 tab_ok rfl rfl rfl rfl rfl rfl rfl rfl ?_)
        refine WG.run tab_ok 1 rfl ?_
        refine WG.nil ?_
        refine WE.nxt ?_
        refine W.ret ?_
        refine WE.then_ret ?_
        refine WE.retF tab_ok [_, _] rfl ⟨⟨_, _, _, rfl, rfl, rfl, (Rd.blk 0 rfl), rfl⟩, rfl, trivial⟩ (RLe.refl _) ?_
        exact ⟨by unfold newF MT; rw [if_neg (by omega), if_neg (by omega), if_neg (by intro h; have := congrArg (· = true) h; simp at this; omega)]; rfl, (by (repeat (first | exact List.Sublist.refl _ | exact List.nil_sublist _ | apply List.Sublist.cons_cons | apply List.Sublist.cons)); done)⟩
      · try simp only [decide_eq_true_eq, decide_eq_false_iff_not, beq_iff_eq, bne_iff_ne, beq_eq_false_iff_ne, bne_eq_false_iff_eq, ne_eq, Bool.or_eq_true, Bool.or_eq_false_iff, Bool.and_eq_true, Bool.and_eq_false_imp, Bool.not_eq_true, Bool.not_eq_true', Bool.not_eq_false', Classical.not_not, Int.not_lt, Int.not_le, gt_iff_lt, ge_iff_le] at hc2
        simp at hc2
        refine W.skip ?_
        refine WE.nxt ?_
        refine W.seq ?_
        refine W.region _ ?_
        refine WG.run tab_ok 1 rfl ?_
        refine WG.y rfl rfl (by decide) (Yl.convId tab_ok rfl rfl rfl rfl rfl rfl (fun _ => rfl) (by intro _; (try dsimp only); first | exact u64_id ⟨by omega, by omega⟩ | exact i64_wrap ⟨by omega, by omega⟩)) ?_
        refine WG.run tab_ok 1 rfl ?_
        refine WG.y rfl rfl (by decide) (Yl.convId tab_ok rfl rfl rfl rfl rfl rfl (fun _ => rfl) (by intro _; (try dsimp only); first | exact u64_id ⟨by omega, by omega⟩ | exact i64_wrap ⟨by omega, by omega⟩)) ?_
        -- build
        refine WG.y rfl rfl (by decide) (Yl.build (parts := [(0, .tmp 44), (1, .tmp 46)]) tab_ok rfl rfl rfl rfl (fun _ => rfl) rfl rfl) ?_
        first | refine WL.efN rfl rfl (Ef.store0 0 tab_ok rfl rfl rfl rfl rfl rfl rfl rfl ?_) | refine WL.efN rfl rfl (Ef.store0 1 tab_ok rfl rfl rfl rfl rfl rfl rfl rfl ?_)
        refine WG.run tab_ok 1 rfl ?_
        refine WG.nil ?_
        refine WE.nxt ?_
        refine W.ret ?_
        refine WE.retF tab_ok [_, _] rfl ⟨⟨_, _, _, rfl, rfl, rfl, (Rd.blk 0 rfl), rfl⟩, rfl, trivial⟩ (RLe.refl _) ?_
        exact ⟨by unfold newF MT; rw [if_neg (by omega), if_neg (by omega), if_pos (decide_eq_decide.2 (by omega))]; rfl, (by (repeat (first | exact List.Sublist.refl _ | exact List.nil_sublist _ | apply List.Sublist.cons_cons | apply List.Sublist.cons)); done)⟩

theorem Add01_V {R : Ro} {x y : Fr} (hx : InR x.1 ∧ InR x.2) (hy : InR y.1 ∧ InR y.2) : FnV Tryd.prog 41 [.agg #[.int .i64 x.1, .int .i64 x.2], .agg #[.int .i64 y.1, .int .i64 y.2]] R (frV (addF x y)) := by
  refine Fn.toVS (fun w0 E => ?_)
  refine Fn.enter (n := 34) Tryd.func41 rfl rfl (Nat.le_of_ble_eq_true rfl) rfl ?_
  refine W.seq ?_
  refine W.region _ ?_
  refine WL.ef rfl rfl (by decide) (Ef.box rfl rfl (fun b2 => ?_))
  refine WL.ef rfl rfl (by decide) (Ef.box rfl rfl (fun b3 => ?_))
  refine WL.ef rfl rfl (by decide) (Ef.alloc tab_ok rfl rfl (fun b4 => ?_))
  refine WG.run tab_ok 1 rfl ?_
  refine WG.nil ?_
  refine WE.nxt ?_
  refine W.seq ?_
  refine W.seq ?_
  refine W.region _ ?_
  refine' WG.y rfl rfl (by decide) (Yl.load1 tab_ok rfl rfl rfl (fun _ => rfl) ?r1 rfl ?h1) ?_
  case r1 => (first | exact Rd.blk 0 rfl | exact Rd.blk 1 rfl | exact Rd.blk 2 rfl)
  case h1 => rfl
  refine WG.callV en35 rfl rfl (by decide) (CallOp.mk' rfl rfl rfl rfl) (fun _ => rfl) (fun hg => Valid01_V hx) ?_
  refine WG.run tab_ok 2 rfl ?_
  refine' WG.y rfl rfl (by decide) (Yl.loadG tab_ok rfl rfl rfl (by first | exact fun _ => rfl | exact fun h => h | (intro h; simp_all)) ?r2 rfl ?h2 ?g2) ?_
  case r2 => (first | exact Rd.blkC 0 rfl | exact Rd.blkC 1 rfl | exact Rd.blkC 2 rfl)
  case h2 => rfl
  case g2 => first | exact fun _ => trivial | (intro hg; (try simp only [decide_eq_true_eq, decide_eq_false_iff_not, beq_iff_eq, bne_iff_ne, beq_eq_false_iff_ne, bne_eq_false_iff_eq, ne_eq, Bool.or_eq_true, Bool.or_eq_false_iff, Bool.and_eq_true, Bool.and_eq_false_imp, Bool.not_eq_true, Bool.not_eq_true', Bool.not_eq_false', Classical.not_not, Int.not_lt, Int.not_le, gt_iff_lt, ge_iff_le] at hg); (try dsimp only); omega)
  refine WG.callV en35 rfl rfl (by decide) (CallOp.mk' rfl rfl rfl rfl) (by first | exact fun _ => rfl | exact fun h => h | (intro h; simp_all)) (fun hg => Valid01_V hy) ?_
  refine WG.y rfl rfl (by decide) (pureV_ok tab_ok rfl (by first | exact fun _ => rfl | exact fun h => h | (intro h; simp_all))) ?_
  refine WG.y rfl rfl (by decide) (Yl.por rfl rfl rfl (fun _ => rfl) (by intro h1 h2; simp_all <;> omega)) ?_
  refine WG.nil ?_
  refine WE.nxt ?_
  refine W.cond rfl (fun hc0 => ?_) (fun hc0 => ?_)
  · try simp only [decide_eq_true_eq, decide_eq_false_iff_not, beq_iff_eq, bne_iff_ne, beq_eq_false_iff_ne, bne_eq_false_iff_eq, ne_eq, Bool.or_eq_true, Bool.or_eq_false_iff, Bool.and_eq_true, Bool.and_eq_false_imp, Bool.not_eq_true, Bool.not_eq_true', Bool.not_eq_false', Classical.not_not, Int.not_lt, Int.not_le, gt_iff_lt, ge_iff_le] at hc0
    have hno : ¬ (validF x = true ∧ validF y = true) := by revert hc0; cases validF x <;> cases validF y <;> simp
    refine W.seq ?_
    refine W.region _ ?_
    -- build
    refine WG.y rfl rfl (by decide) (Yl.build (parts := []) tab_ok rfl rfl rfl rfl (fun _ => rfl) rfl rfl) ?_
    first | refine WL.efN rfl rfl (Ef.store0 0 tab_ok rfl rfl rfl rfl rfl rfl rfl rfl ?_) | refine WL.efN rfl rfl (Ef.store0 1 tab_ok rfl rfl rfl rfl rfl rfl rfl rfl ?_) | refine WL.efN rfl rfl (Ef.store0 2 tab_ok rfl rfl rfl rfl rfl rfl rfl rfl ?_)
    refine WG.run tab_ok 1 rfl ?_
    refine WG.nil ?_
    refine WE.nxt ?_
    refine W.ret ?_
    refine WE.then_ret ?_
    refine WE.retF tab_ok [_, _] rfl ⟨⟨_, _, _, rfl, rfl, rfl, (Rd.blk 0 rfl), rfl⟩, rfl, trivial⟩ (RLe.refl _) ?_
    exact ⟨by unfold addF; rw [if_neg hno]; rfl, (by (repeat (first | exact List.Sublist.refl _ | exact List.nil_sublist _ | apply List.Sublist.cons_cons | apply List.Sublist.cons)); done)⟩
  · try simp only [decide_eq_true_eq, decide_eq_false_iff_not, beq_iff_eq, bne_iff_ne, beq_eq_false_iff_ne, bne_eq_false_iff_eq, ne_eq, Bool.or_eq_true, Bool.or_eq_false_iff, Bool.and_eq_true, Bool.and_eq_false_imp, Bool.not_eq_true, Bool.not_eq_true', Bool.not_eq_false', Classical.not_not, Int.not_lt, Int.not_le, gt_iff_lt, ge_iff_le] at hc0
    have hvx : validF x = true := by revert hc0; cases validF x <;> simp
    have hvy : validF y = true := by revert hc0; cases validF x <;> cases validF y <;> simp
    have hv := validF_iff.1 hvx
    have hw := validF_iff.1 hvy
    have p12 := mul_in (a := x.1) (b := y.2) (A := 1073741824) (B := 1073741824) (by omega) (by omega)
    have p21 := mul_in (a := y.1) (b := x.2) (A := 1073741824) (B := 1073741824) (by omega) (by omega)
    have p22 := mul_in (a := x.2) (b := y.2) (A := 1073741824) (B := 1073741824) (by omega) (by omega)
    have p21b := mul_in (a := x.2) (b := y.1) (A := 1073741824) (B := 1073741824) (by omega) (by omega)
    have p11 := mul_in (a := x.1) (b := y.1) (A := 1073741824) (B := 1073741824) (by omega) (by omega)
    refine W.skip ?_
    refine WE.nxt ?_
    refine W.seq ?_
    refine W.region _ ?_
    refine WG.run tab_ok 1 rfl ?_
    refine' WG.y rfl rfl (by decide) (Yl.load1 tab_ok rfl rfl rfl (fun _ => rfl) ?r3 rfl ?h3) ?_
    case r3 => apply Rd.add; (first | exact Rd.blk 0 rfl | exact Rd.blk 1 rfl | exact Rd.blk 2 rfl)
    case h3 => rfl
    refine WG.run tab_ok 1 rfl ?_
    refine' WG.y rfl rfl (by decide) (Yl.load1 tab_ok rfl rfl rfl (fun _ => rfl) ?r4 rfl ?h4) ?_
    case r4 => apply Rd.add; (first | exact Rd.blk 0 rfl | exact Rd.blk 1 rfl | exact Rd.blk 2 rfl)
    case h4 => rfl
    refine WG.y rfl rfl (by decide) (Yl.mul rfl rfl rfl (fun _ => rfl) (by intro _; constructor <;> (try dsimp only) <;> omega)) ?_
    refine WG.run tab_ok 1 rfl ?_
    refine' WG.y rfl rfl (by decide) (Yl.load1 tab_ok rfl rfl rfl (fun _ => rfl) ?r5 rfl ?h5) ?_
    case r5 => apply Rd.add; (first | exact Rd.blk 0 rfl | exact Rd.blk 1 rfl | exact Rd.blk 2 rfl)
    case h5 => rfl
    refine WG.run tab_ok 1 rfl ?_
    refine' WG.y rfl rfl (by decide) (Yl.load1 tab_ok rfl rfl rfl (fun _ => rfl) ?r6 rfl ?h6) ?_
    case r6 => apply Rd.add; (first | exact Rd.blk 0 rfl | exact Rd.blk 1 rfl | exact Rd.blk 2 rfl)
    case h6 => rfl
    refine WG.y rfl rfl (by decide) (Yl.mul rfl rfl rfl (fun _ => rfl) (by intro _; constructor <;> (try dsimp only) <;> omega)) ?_
    refine WG.y rfl rfl (by decide) (Yl.add rfl rfl rfl (fun _ => rfl) (by intro _; constructor <;> (try dsimp only) <;> omega)) ?_
    refine WG.run tab_ok 1 rfl ?_
    refine' WG.y rfl rfl (by decide) (Yl.load1 tab_ok rfl rfl rfl (fun _ => rfl) ?r7 rfl ?h7) ?_
    case r7 => apply Rd.add; (first | exact Rd.blk 0 rfl | exact Rd.blk 1 rfl | exact Rd.blk 2 rfl)
    case h7 => rfl
    refine WG.run tab_ok 1 rfl ?_
    refine' WG.y rfl rfl (by decide) (Yl.load1 tab_ok rfl rfl rfl (fun _ => rfl) ?r8 rfl ?h8) ?_
    case r8 => apply Rd.add; (first | exact Rd.blk 0 rfl | exact Rd.blk 1 rfl | exact Rd.blk 2 rfl)
    case h8 => rfl
    refine WG.y rfl rfl (by decide) (Yl.mul rfl rfl rfl (fun _ => rfl) (by intro _; constructor <;> (try dsimp only) <;> omega)) ?_
    refine WG.callV en36 rfl rfl (by decide) (CallOp.mk' rfl rfl rfl rfl) (fun _ => rfl) (fun hg => New01_V (a := x.1 * y.2 + y.1 * x.2) (b := x.2 * y.2) (by omega) (by omega)) ?_
    refine WG.run tab_ok 2 rfl ?_
    first | refine WL.efN rfl rfl (Ef.store0 0 tab_ok rfl rfl rfl rfl rfl rfl rfl rfl ?_) | refine WL.efN rfl rfl (Ef.store0 1 tab_ok rfl rfl rfl rfl rfl rfl rfl rfl ?_) | refine WL.efN rfl rfl (Ef.store0 2 tab_ok rfl rfl rfl rfl rfl rfl rfl rfl ?_)
    refine WG.run tab_ok 1 rfl ?_
    refine WG.nil ?_
    refine WE.nxt ?_
    refine W.ret ?_
    refine WE.retF tab_ok [_, _] rfl ⟨⟨_, _, _, rfl, rfl, rfl, (Rd.blk 0 rfl), rfl⟩, rfl, trivial⟩ (RLe.refl _) ?_
    exact ⟨by unfold addF; rw [if_pos ⟨hvx, hvy⟩]; rfl, (by (repeat (first | exact List.Sublist.refl _ | exact List.nil_sublist _ | apply List.Sublist.cons_cons | apply List.Sublist.cons)); done)⟩

theorem Sub01_V {R : Ro} {x y : Fr} (hx : InR x.1 ∧ InR x.2) (hy : InR y.1 ∧ InR y.2) : FnV Tryd.prog 39 [.agg #[.int .i64 x.1, .int .i64 x.2], .agg #[.int .i64 y.1, .int .i64 y.2]] R (frV (subF x y)) := by
  refine Fn.toVS (fun w0 E => ?_)
  refine Fn.enter (n := 34) Tryd.func39 rfl rfl (Nat.le_of_ble_eq_true rfl) rfl ?_
  refine W.seq ?_
  refine W.region _ ?_
  refine WL.ef rfl rfl (by decide) (Ef.box rfl rfl (fun b2 => ?_))
  refine WL.ef rfl rfl (by decide) (Ef.box rfl rfl (fun b3 => ?_))
  refine WL.ef rfl rfl (by decide) (Ef.alloc tab_ok rfl rfl (fun b4 => ?_))
  refine WG.run tab_ok 1 rfl ?_
  refine WG.nil ?_
  refine WE.nxt ?_
  refine W.seq ?_
  refine W.seq ?_
  refine W.region _ ?_
  refine' WG.y rfl rfl (by decide) (Yl.load1 tab_ok rfl rfl rfl (fun _ => rfl) ?r1 rfl ?h1) ?_
  case r1 => (first | exact Rd.blk 0 rfl | exact Rd.blk 1 rfl | exact Rd.blk 2 rfl)
  case h1 => rfl
  refine WG.callV en35 rfl rfl (by decide) (CallOp.mk' rfl rfl rfl rfl) (fun _ => rfl) (fun hg => Valid01_V hx) ?_
  refine WG.run tab_ok 2 rfl ?_
  refine' WG.y rfl rfl (by decide) (Yl.loadG tab_ok rfl rfl rfl (by first | exact fun _ => rfl | exact fun h => h | (intro h; simp_all)) ?r2 rfl ?h2 ?g2) ?_
  case r2 => (first | exact Rd.blkC 0 rfl | exact Rd.blkC 1 rfl | exact Rd.blkC 2 rfl)
  case h2 => rfl
  case g2 => first | exact fun _ => trivial | (intro hg; (try simp only [decide_eq_true_eq, decide_eq_false_iff_not, beq_iff_eq, bne_iff_ne, beq_eq_false_iff_ne, bne_eq_false_iff_eq, ne_eq, Bool.or_eq_true, Bool.or_eq_false_iff, Bool.and_eq_true, Bool.and_eq_false_imp, Bool.not_eq_true, Bool.not_eq_true', Bool.not_eq_false', Classical.not_not, Int.not_lt, Int.not_le, gt_iff_lt, ge_iff_le] at hg); (try dsimp only); omega)
  refine WG.callV en35 rfl rfl (by decide) (CallOp.mk' rfl rfl rfl rfl) (by first | exact fun _ => rfl | exact fun h => h | (intro h; simp_all)) (fun hg => Valid01_V hy) ?_
  refine WG.y rfl rfl (by decide) (pureV_ok tab_ok rfl (by first | exact fun _ => rfl | exact fun h => h | (intro h; simp_all))) ?_
  refine WG.y rfl rfl (by decide) (Yl.por rfl rfl rfl (fun _ => rfl) (by intro h1 h2; simp_all <;> omega)) ?_
  refine WG.nil ?_
  refine WE.nxt ?_
  refine W.cond rfl (fun hc0 => ?_) (fun hc0 => ?_)
  · try simp only [decide_eq_true_eq, decide_eq_false_iff_not, beq_iff_eq, bne_iff_ne, beq_eq_false_iff_ne, bne_eq_false_iff_eq, ne_eq, Bool.or_eq_true, Bool.or_eq_false_iff, Bool.and_eq_true, Bool.and_eq_false_imp, Bool.not_eq_true, Bool.not_eq_true', Bool.not_eq_false', Classical.not_not, Int.not_lt, Int.not_le, gt_iff_lt, ge_iff_le] at hc0
    have hno : ¬ (validF x = true ∧ validF y = true) := by revert hc0; cases validF x <;> cases validF y <;> simp
    refine W.seq ?_
    refine W.region _ ?_
    -- build
    refine WG.y rfl rfl (by decide) (Yl.build (parts := []) tab_ok rfl rfl rfl rfl (fun _ => rfl) rfl rfl) ?_
    first | refine WL.efN rfl rfl (Ef.store0 0 tab_ok rfl rfl rfl rfl rfl rfl rfl rfl ?_) | refine WL.efN rfl rfl (Ef.store0 1 tab_ok rfl rfl rfl rfl rfl rfl rfl rfl ?_) | refine WL.efN rfl rfl (Ef.store0 2 tab_ok rfl rfl rfl rfl rfl rfl rfl rfl ?_)
    refine WG.run tab_ok 1 rfl ?_
    refine WG.nil ?_
    refine WE.nxt ?_
    refine W.ret ?_
    refine WE.then_ret ?_
    refine WE.retF tab_ok [_, _] rfl ⟨⟨_, _, _, rfl, rfl, rfl, (Rd.blk 0 rfl), rfl⟩, rfl, trivial⟩ (RLe.refl _) ?_
    exact ⟨by unfold subF; rw [if_neg hno]; rfl, (by (repeat (first | exact List.Sublist.refl _ | exact List.nil_sublist _ | apply List.Sublist.cons_cons | apply List.Sublist.cons)); done)⟩
  · try simp only [decide_eq_true_eq, decide_eq_false_iff_not, beq_iff_eq, bne_iff_ne, beq_eq_false_iff_ne, bne_eq_false_iff_eq, ne_eq, Bool.or_eq_true, Bool.or_eq_false_iff, Bool.and_eq_true, Bool.and_eq_false_imp, Bool.not_eq_true, Bool.not_eq_true', Bool.not_eq_false', Classical.not_not, Int.not_lt, Int.not_le, gt_iff_lt, ge_iff_le] at hc0
    have hvx : validF x = true := by revert hc0; cases validF x <;> simp
    have hvy : validF y = true := by revert hc0; cases validF x <;> cases validF y <;> simp
    have hv := validF_iff.1 hvx
    have hw := validF_iff.1 hvy
    have p12 := mul_in (a := x.1) (b := y.2) (A := 1073741824) (B := 1073741824) (by omega) (by omega)
    have p21 := mul_in (a := y.1) (b := x.2) (A := 1073741824) (B := 1073741824) (by omega) (by omega)
    have p22 := mul_in (a := x.2) (b := y.2) (A := 1073741824) (B := 1073741824) (by omega) (by omega)
    have p21b := mul_in (a := x.2) (b := y.1) (A := 1073741824) (B := 1073741824) (by omega) (by omega)
    have p11 := mul_in (a := x.1) (b := y.1) (A := 1073741824) (B := 1073741824) (by omega) (by omega)
    refine W.skip ?_
    refine WE.nxt ?_
    refine W.seq ?_
    refine W.region _ ?_
    refine WG.run tab_ok 1 rfl ?_
    refine' WG.y rfl rfl (by decide) (Yl.load1 tab_ok rfl rfl rfl (fun _ => rfl) ?r3 rfl ?h3) ?_
    case r3 => apply Rd.add; (first | exact Rd.blk 0 rfl | exact Rd.blk 1 rfl | exact Rd.blk 2 rfl)
    case h3 => rfl
    refine WG.run tab_ok 1 rfl ?_
    refine' WG.y rfl rfl (by decide) (Yl.load1 tab_ok rfl rfl rfl (fun _ => rfl) ?r4 rfl ?h4) ?_
    case r4 => apply Rd.add; (first | exact Rd.blk 0 rfl | exact Rd.blk 1 rfl | exact Rd.blk 2 rfl)
    case h4 => rfl
    refine WG.y rfl rfl (by decide) (Yl.mul rfl rfl rfl (fun _ => rfl) (by intro _; constructor <;> (try dsimp only) <;> omega)) ?_
    refine WG.run tab_ok 1 rfl ?_
    refine' WG.y rfl rfl (by decide) (Yl.load1 tab_ok rfl rfl rfl (fun _ => rfl) ?r5 rfl ?h5) ?_
    case r5 => apply Rd.add; (first | exact Rd.blk 0 rfl | exact Rd.blk 1 rfl | exact Rd.blk 2 rfl)
    case h5 => rfl
    refine WG.run tab_ok 1 rfl ?_
    refine' WG.y rfl rfl (by decide) (Yl.load1 tab_ok rfl rfl rfl (fun _ => rfl) ?r6 rfl ?h6) ?_
    case r6 => apply Rd.add; (first | exact Rd.blk 0 rfl | exact Rd.blk 1 rfl | exact Rd.blk 2 rfl)
    case h6 => rfl
    refine WG.y rfl rfl (by decide) (Yl.mul rfl rfl rfl (fun _ => rfl) (by intro _; constructor <;> (try dsimp only) <;> omega)) ?_
    refine WG.y rfl rfl (by decide) (Yl.sub rfl rfl rfl (fun _ => rfl) (by intro _; constructor <;> (try dsimp only) <;> omega)) ?_
    refine WG.run tab_ok 1 rfl ?_
    refine' WG.y rfl rfl (by decide) (Yl.load1 tab_ok rfl rfl rfl (fun _ => rfl) ?r7 rfl ?h7) ?_
    case r7 => apply Rd.add; (first | exact Rd.blk 0 rfl | exact Rd.blk 1 rfl | exact Rd.blk 2 rfl)
    case h7 => rfl
    refine WG.run tab_ok 1 rfl ?_
    refine' WG.y rfl rfl (by decide) (Yl.load1 tab_ok rfl rfl rfl (fun _ => rfl) ?r8 rfl ?h8) ?_
    case r8 => apply Rd.add; (first | exact Rd.blk 0 rfl | exact Rd.blk 1 rfl | exact Rd.blk 2 rfl)
    case h8 => rfl
    refine WG.y rfl rfl (by decide) (Yl.mul rfl rfl rfl (fun _ => rfl) (by intro _; constructor <;> (try dsimp only) <;> omega)) ?_
    refine WG.callV en36 rfl rfl (by decide) (CallOp.mk' rfl rfl rfl rfl) (fun _ => rfl) (fun hg => New01_V (a := x.1 * y.2 - y.1 * x.2) (b := x.2 * y.2) (by omega) (by omega)) ?_
    refine WG.run tab_ok 2 rfl ?_
    first | refine WL.efN rfl rfl (Ef.store0 0 tab_ok rfl rfl rfl rfl rfl rfl rfl rfl ?_) | refine WL.efN rfl rfl (Ef.store0 1 tab_ok rfl rfl rfl rfl rfl rfl rfl rfl ?_) | refine WL.efN rfl rfl (Ef.store0 2 tab_ok rfl rfl rfl rfl rfl rfl rfl rfl ?_)
    refine WG.run tab_ok 1 rfl ?_
    refine WG.nil ?_
    refine WE.nxt ?_
    refine W.ret ?_
    refine WE.retF tab_ok [_, _] rfl ⟨⟨_, _, _, rfl, rfl, rfl, (Rd.blk 0 rfl), rfl⟩, rfl, trivial⟩ (RLe.refl _) ?_
    exact ⟨by unfold subF; rw [if_pos ⟨hvx, hvy⟩]; rfl, (by (repeat (first | exact List.Sublist.refl _ | exact List.nil_sublist _ | apply List.Sublist.cons_cons | apply List.Sublist.cons)); done)⟩

theorem Mul01_V {R : Ro} {x y : Fr} (hx : InR x.1 ∧ InR x.2) (hy : InR y.1 ∧ InR y.2) : FnV Tryd.prog 42 [.agg #[.int .i64 x.1, .int .i64 x.2], .agg #[.int .i64 y.1, .int .i64 y.2]] R (frV (mulF x y)) := by
  refine Fn.toVS (fun w0 E => ?_)
  refine Fn.enter (n := 28) Tryd.func42 rfl rfl (Nat.le_of_ble_eq_true rfl) rfl ?_
  refine W.seq ?_
  refine W.region _ ?_
  refine WL.ef rfl rfl (by decide) (Ef.box rfl rfl (fun b2 => ?_))
  refine WL.ef rfl rfl (by decide) (Ef.box rfl rfl (fun b3 => ?_))
  refine WL.ef rfl rfl (by decide) (Ef.alloc tab_ok rfl rfl (fun b4 => ?_))
  refine WG.run tab_ok 1 rfl ?_
  refine WG.nil ?_
  refine WE.nxt ?_
  refine W.seq ?_
  refine W.seq ?_
  refine W.region _ ?_
  refine' WG.y rfl rfl (by decide) (Yl.load1 tab_ok rfl rfl rfl (fun _ => rfl) ?r1 rfl ?h1) ?_
  case r1 => (first | exact Rd.blk 0 rfl | exact Rd.blk 1 rfl | exact Rd.blk 2 rfl)
  case h1 => rfl
  refine WG.callV en35 rfl rfl (by decide) (CallOp.mk' rfl rfl rfl rfl) (fun _ => rfl) (fun hg => Valid01_V hx) ?_
  refine WG.run tab_ok 2 rfl ?_
  refine' WG.y rfl rfl (by decide) (Yl.loadG tab_ok rfl rfl rfl (by first | exact fun _ => rfl | exact fun h => h | (intro h; simp_all)) ?r2 rfl ?h2 ?g2) ?_
  case r2 => (first | exact Rd.blkC 0 rfl | exact Rd.blkC 1 rfl | exact Rd.blkC 2 rfl)
  case h2 => rfl
  case g2 => first | exact fun _ => trivial | (intro hg; (try simp only [decide_eq_true_eq, decide_eq_false_iff_not, beq_iff_eq, bne_iff_ne, beq_eq_false_iff_ne, bne_eq_false_iff_eq, ne_eq, Bool.or_eq_true, Bool.or_eq_false_iff, Bool.and_eq_true, Bool.and_eq_false_imp, Bool.not_eq_true, Bool.not_eq_true', Bool.not_eq_false', Classical.not_not, Int.not_lt, Int.not_le, gt_iff_lt, ge_iff_le] at hg); (try dsimp only); omega)
  refine WG.callV en35 rfl rfl (by decide) (CallOp.mk' rfl rfl rfl rfl) (by first | exact fun _ => rfl | exact fun h => h | (intro h; simp_all)) (fun hg => Valid01_V hy) ?_
  refine WG.y rfl rfl (by decide) (pureV_ok tab_ok rfl (by first | exact fun _ => rfl | exact fun h => h | (intro h; simp_all))) ?_
  refine WG.y rfl rfl (by decide) (Yl.por rfl rfl rfl (fun _ => rfl) (by intro h1 h2; simp_all <;> omega)) ?_
  refine WG.nil ?_
  refine WE.nxt ?_
  refine W.cond rfl (fun hc0 => ?_) (fun hc0 => ?_)
  · try simp only [decide_eq_true_eq, decide_eq_false_iff_not, beq_iff_eq, bne_iff_ne, beq_eq_false_iff_ne, bne_eq_false_iff_eq, ne_eq, Bool.or_eq_true, Bool.or_eq_false_iff, Bool.and_eq_true, Bool.and_eq_false_imp, Bool.not_eq_true, Bool.not_eq_true', Bool.not_eq_false', Classical.not_not, Int.not_lt, Int.not_le, gt_iff_lt, ge_iff_le] at hc0
    have hno : ¬ (validF x = true ∧ validF y = true) := by revert hc0; cases validF x <;> cases validF y <;> simp
    refine W.seq ?_
    refine W.region _ ?_
    -- build
    refine WG.y rfl rfl (by decide) (Yl.build (parts := []) tab_ok rfl rfl rfl rfl (fun _ => rfl) rfl rfl) ?_
    first | refine WL.efN rfl rfl (Ef.store0 0 tab_ok rfl rfl rfl rfl rfl rfl rfl rfl ?_) | refine WL.efN rfl rfl (Ef.store0 1 tab_ok rfl rfl rfl rfl rfl rfl rfl rfl ?_) | refine WL.efN rfl rfl (Ef.store0 2 tab_ok rfl rfl rfl rfl rfl rfl rfl rfl ?_)
    refine WG.run tab_ok 1 rfl ?_
    refine WG.nil ?_
    refine WE.nxt ?_
    refine W.ret ?_
    refine WE.then_ret ?_
    refine WE.retF tab_ok [_, _] rfl ⟨⟨_, _, _, rfl, rfl, rfl, (Rd.blk 0 rfl), rfl⟩, rfl, trivial⟩ (RLe.refl _) ?_
    exact ⟨by unfold mulF; rw [if_neg hno]; rfl, (by (repeat (first | exact List.Sublist.refl _ | exact List.nil_sublist _ | apply List.Sublist.cons_cons | apply List.Sublist.cons)); done)⟩
  · try simp only [decide_eq_true_eq, decide_eq_false_iff_not, beq_iff_eq, bne_iff_ne, beq_eq_false_iff_ne, bne_eq_false_iff_eq, ne_eq, Bool.or_eq_true, Bool.or_eq_false_iff, Bool.and_eq_true, Bool.and_eq_false_imp, Bool.not_eq_true, Bool.not_eq_true', Bool.not_eq_false', Classical.not_not, Int.not_lt, Int.not_le, gt_iff_lt, ge_iff_le] at hc0
    have hvx : validF x = true := by revert hc0; cases validF x <;> simp
    have hvy : validF y = true := by revert hc0; cases validF x <;> cases validF y <;> simp
    have hv := validF_iff.1 hvx
    have hw := validF_iff.1 hvy
    have p12 := mul_in (a := x.1) (b := y.2) (A := 1073741824) (B := 1073741824) (by omega) (by omega)
    have p21 := mul_in (a := y.1) (b := x.2) (A := 1073741824) (B := 1073741824) (by omega) (by omega)
    have p22 := mul_in (a := x.2) (b := y.2) (A := 1073741824) (B := 1073741824) (by omega) (by omega)
    have p21b := mul_in (a := x.2) (b := y.1) (A := 1073741824) (B := 1073741824) (by omega) (by omega)
    have p11 := mul_in (a := x.1) (b := y.1) (A := 1073741824) (B := 1073741824) (by omega) (by omega)
    refine W.skip ?_
    refine WE.nxt ?_
    refine W.seq ?_
    refine W.region _ ?_
    refine WG.run tab_ok 1 rfl ?_
    refine' WG.y rfl rfl (by decide) (Yl.load1 tab_ok rfl rfl rfl (fun _ => rfl) ?r3 rfl ?h3) ?_
    case r3 => apply Rd.add; (first | exact Rd.blk 0 rfl | exact Rd.blk 1 rfl | exact Rd.blk 2 rfl)
    case h3 => rfl
    refine WG.run tab_ok 1 rfl ?_
    refine' WG.y rfl rfl (by decide) (Yl.load1 tab_ok rfl rfl rfl (fun _ => rfl) ?r4 rfl ?h4) ?_
    case r4 => apply Rd.add; (first | exact Rd.blk 0 rfl | exact Rd.blk 1 rfl | exact Rd.blk 2 rfl)
    case h4 => rfl
    refine WG.y rfl rfl (by decide) (Yl.mul rfl rfl rfl (fun _ => rfl) (by intro _; constructor <;> (try dsimp only) <;> omega)) ?_
    refine WG.run tab_ok 1 rfl ?_
    refine' WG.y rfl rfl (by decide) (Yl.load1 tab_ok rfl rfl rfl (fun _ => rfl) ?r5 rfl ?h5) ?_
    case r5 => apply Rd.add; (first | exact Rd.blk 0 rfl | exact Rd.blk 1 rfl | exact Rd.blk 2 rfl)
    case h5 => rfl
    refine WG.run tab_ok 1 rfl ?_
    refine' WG.y rfl rfl (by decide) (Yl.load1 tab_ok rfl rfl rfl (fun _ => rfl) ?r6 rfl ?h6) ?_
    case r6 => apply Rd.add; (first | exact Rd.blk 0 rfl | exact Rd.blk 1 rfl | exact Rd.blk 2 rfl)
    case h6 => rfl
    refine WG.y rfl rfl (by decide) (Yl.mul rfl rfl rfl (fun _ => rfl) (by intro _; constructor <;> (try dsimp only) <;> omega)) ?_
    refine WG.callV en36 rfl rfl (by decide) (CallOp.mk' rfl rfl rfl rfl) (fun _ => rfl) (fun hg => New01_V (a := x.1 * y.1) (b := x.2 * y.2) (by omega) (by omega)) ?_
    refine WG.run tab_ok 2 rfl ?_
    first | refine WL.efN rfl rfl (Ef.store0 0 tab_ok rfl rfl rfl rfl rfl rfl rfl rfl ?_) | refine WL.efN rfl rfl (Ef.store0 1 tab_ok rfl rfl rfl rfl rfl rfl rfl rfl ?_) | refine WL.efN rfl rfl (Ef.store0 2 tab_ok rfl rfl rfl rfl rfl rfl rfl rfl ?_)
    refine WG.run tab_ok 1 rfl ?_
    refine WG.nil ?_
    refine WE.nxt ?_
    refine W.ret ?_
    refine WE.retF tab_ok [_, _] rfl ⟨⟨_, _, _, rfl, rfl, rfl, (Rd.blk 0 rfl), rfl⟩, rfl, trivial⟩ (RLe.refl _) ?_
    exact ⟨by unfold mulF; rw [if_pos ⟨hvx, hvy⟩]; rfl, (by (repeat (first | exact List.Sublist.refl _ | exact List.nil_sublist _ | apply List.Sublist.cons_cons | apply List.Sublist.cons)); done)⟩

theorem Div01_V {R : Ro} {x y : Fr} (hx : InR x.1 ∧ InR x.2) (hy : InR y.1 ∧ InR y.2) : FnV Tryd.prog 43 [.agg #[.int .i64 x.1, .int .i64 x.2], .agg #[.int .i64 y.1, .int .i64 y.2]] R (frV (divF x y)) := by
  refine Fn.toVS (fun w0 E => ?_)
  refine Fn.enter (n := 33) Tryd.func43 rfl rfl (Nat.le_of_ble_eq_true rfl) rfl ?_
  refine W.seq ?_
  refine W.region _ ?_
  refine WL.ef rfl rfl (by decide) (Ef.box rfl rfl (fun b2 => ?_))
  refine WL.ef rfl rfl (by decide) (Ef.box rfl rfl (fun b3 => ?_))
  refine WL.ef rfl rfl (by decide) (Ef.alloc tab_ok rfl rfl (fun b4 => ?_))
  refine WG.run tab_ok 1 rfl ?_
  refine WG.nil ?_
  refine WE.nxt ?_
  refine W.seq ?_
  refine W.seq ?_
  refine W.region _ ?_
  refine' WG.y rfl rfl (by decide) (Yl.load1 tab_ok rfl rfl rfl (fun _ => rfl) ?r1 rfl ?h1) ?_
  case r1 => (first | exact Rd.blk 0 rfl | exact Rd.blk 1 rfl | exact Rd.blk 2 rfl)
  case h1 => rfl
  refine WG.callV en35 rfl rfl (by decide) (CallOp.mk' rfl rfl rfl rfl) (fun _ => rfl) (fun hg => Valid01_V hx) ?_
  refine WG.run tab_ok 2 rfl ?_
  refine' WG.y rfl rfl (by decide) (Yl.loadG tab_ok rfl rfl rfl (by first | exact fun _ => rfl | exact fun h => h | (intro h; simp_all)) ?r2 rfl ?h2 ?g2) ?_
  case r2 => (first | exact Rd.blkC 0 rfl | exact Rd.blkC 1 rfl | exact Rd.blkC 2 rfl)
  case h2 => rfl
  case g2 => first | exact fun _ => trivial | (intro hg; (try simp only [decide_eq_true_eq, decide_eq_false_iff_not, beq_iff_eq, bne_iff_ne, beq_eq_false_iff_ne, bne_eq_false_iff_eq, ne_eq, Bool.or_eq_true, Bool.or_eq_false_iff, Bool.and_eq_true, Bool.and_eq_false_imp, Bool.not_eq_true, Bool.not_eq_true', Bool.not_eq_false', Classical.not_not, Int.not_lt, Int.not_le, gt_iff_lt, ge_iff_le] at hg); (try dsimp only); omega)
  refine WG.callV en35 rfl rfl (by decide) (CallOp.mk' rfl rfl rfl rfl) (by first | exact fun _ => rfl | exact fun h => h | (intro h; simp_all)) (fun hg => Valid01_V hy) ?_
  refine WG.y rfl rfl (by decide) (pureV_ok tab_ok rfl (by first | exact fun _ => rfl | exact fun h => h | (intro h; simp_all))) ?_
  refine WG.y rfl rfl (by decide) (Yl.por rfl rfl rfl (fun _ => rfl) (by intro h1 h2; simp_all <;> omega)) ?_
  refine WG.run tab_ok 1 rfl ?_
  refine WG.y rfl rfl (by decide) (pureV_ok tab_ok rfl (by first | exact fun _ => rfl | exact fun h => h | (intro h; simp_all))) ?_
  refine' WG.y rfl rfl (by decide) (Yl.loadG tab_ok rfl rfl rfl (by first | exact fun _ => rfl | exact fun h => h | (intro h; simp_all)) ?r3 rfl ?h3 ?g3) ?_
  case r3 => apply Rd.addC; (first | exact Rd.blkC 0 rfl | exact Rd.blkC 1 rfl | exact Rd.blkC 2 rfl)
  case h3 => rfl
  case g3 => first | exact fun _ => trivial | (intro hg; (try simp only [decide_eq_true_eq, decide_eq_false_iff_not, beq_iff_eq, bne_iff_ne, beq_eq_false_iff_ne, bne_eq_false_iff_eq, ne_eq, Bool.or_eq_true, Bool.or_eq_false_iff, Bool.and_eq_true, Bool.and_eq_false_imp, Bool.not_eq_true, Bool.not_eq_true', Bool.not_eq_false', Classical.not_not, Int.not_lt, Int.not_le, gt_iff_lt, ge_iff_le] at hg); (try dsimp only); omega)
  refine WG.y rfl rfl (by decide) (pureV_ok tab_ok rfl (by first | exact fun _ => rfl | exact fun h => h | (intro h; simp_all))) ?_
  refine WG.y rfl rfl (by decide) (Yl.por rfl rfl rfl (fun _ => rfl) (by intro h1 h2; simp_all <;> omega)) ?_
  refine WG.nil ?_
  refine WE.nxt ?_
  refine W.cond rfl (fun hc0 => ?_) (fun hc0 => ?_)
  · try simp only [decide_eq_true_eq, decide_eq_false_iff_not, beq_iff_eq, bne_iff_ne, beq_eq_false_iff_ne, bne_eq_false_iff_eq, ne_eq, Bool.or_eq_true, Bool.or_eq_false_iff, Bool.and_eq_true, Bool.and_eq_false_imp, Bool.not_eq_true, Bool.not_eq_true', Bool.not_eq_false', Classical.not_not, Int.not_lt, Int.not_le, gt_iff_lt, ge_iff_le] at hc0
    have hno : ¬ (validF x = true ∧ validF y = true ∧ y.1 ≠ 0) := by
      rintro ⟨h1, h2, h3⟩
      rw [h1, h2] at hc0
      simp [h3] at hc0
    refine W.seq ?_
    refine W.region _ ?_
    -- build
    refine WG.y rfl rfl (by decide) (Yl.build (parts := []) tab_ok rfl rfl rfl rfl (fun _ => rfl) rfl rfl) ?_
    first | refine WL.efN rfl rfl (Ef.store0 0 tab_ok rfl rfl rfl rfl rfl rfl rfl rfl ?_) | refine WL.efN rfl rfl (Ef.store0 1 tab_ok rfl rfl rfl rfl rfl rfl rfl rfl ?_) | refine WL.efN rfl rfl (Ef.store0 2 tab_ok rfl rfl rfl rfl rfl rfl rfl rfl ?_)
    refine WG.run tab_ok 1 rfl ?_
    refine WG.nil ?_
    refine WE.nxt ?_
    refine W.ret ?_
    refine WE.then_ret ?_
    refine WE.retF tab_ok [_, _] rfl ⟨⟨_, _, _, rfl, rfl, rfl, (Rd.blk 0 rfl), rfl⟩, rfl, trivial⟩ (RLe.refl _) ?_
    exact ⟨by unfold divF; rw [if_neg hno]; rfl, (by (repeat (first | exact List.Sublist.refl _ | exact List.nil_sublist _ | apply List.Sublist.cons_cons | apply List.Sublist.cons)); done)⟩
  · try simp only [decide_eq_true_eq, decide_eq_false_iff_not, beq_iff_eq, bne_iff_ne, beq_eq_false_iff_ne, bne_eq_false_iff_eq, ne_eq, Bool.or_eq_true, Bool.or_eq_false_iff, Bool.and_eq_true, Bool.and_eq_false_imp, Bool.not_eq_true, Bool.not_eq_true', Bool.not_eq_false', Classical.not_not, Int.not_lt, Int.not_le, gt_iff_lt, ge_iff_le] at hc0
    have hvx : validF x = true := by revert hc0; cases validF x <;> simp
    have hvy : validF y = true := by revert hc0; cases validF x <;> cases validF y <;> simp
    have hy0 : y.1 ≠ 0 := by rw [hvx, hvy] at hc0; simpa using hc0
    have hv := validF_iff.1 hvx
    have hw := validF_iff.1 hvy
    have p12 := mul_in (a := x.1) (b := y.2) (A := 1073741824) (B := 1073741824) (by omega) (by omega)
    have p21 := mul_in (a := y.1) (b := x.2) (A := 1073741824) (B := 1073741824) (by omega) (by omega)
    have p22 := mul_in (a := x.2) (b := y.2) (A := 1073741824) (B := 1073741824) (by omega) (by omega)
    have p21b := mul_in (a := x.2) (b := y.1) (A := 1073741824) (B := 1073741824) (by omega) (by omega)
    have p11 := mul_in (a := x.1) (b := y.1) (A := 1073741824) (B := 1073741824) (by omega) (by omega)
    refine W.skip ?_
    refine WE.nxt ?_
    refine W.seq ?_
    refine W.region _ ?_
    refine WG.run tab_ok 1 rfl ?_
    refine' WG.y rfl rfl (by decide) (Yl.load1 tab_ok rfl rfl rfl (fun _ => rfl) ?r4 rfl ?h4) ?_
    case r4 => apply Rd.add; (first | exact Rd.blk 0 rfl | exact Rd.blk 1 rfl | exact Rd.blk 2 rfl)
    case h4 => rfl
    refine WG.run tab_ok 1 rfl ?_
    refine' WG.y rfl rfl (by decide) (Yl.load1 tab_ok rfl rfl rfl (fun _ => rfl) ?r5 rfl ?h5) ?_
    case r5 => apply Rd.add; (first | exact Rd.blk 0 rfl | exact Rd.blk 1 rfl | exact Rd.blk 2 rfl)
    case h5 => rfl
    refine WG.y rfl rfl (by decide) (Yl.mul rfl rfl rfl (fun _ => rfl) (by intro _; constructor <;> (try dsimp only) <;> omega)) ?_
    refine WG.run tab_ok 1 rfl ?_
    refine' WG.y rfl rfl (by decide) (Yl.load1 tab_ok rfl rfl rfl (fun _ => rfl) ?r6 rfl ?h6) ?_
    case r6 => apply Rd.add; (first | exact Rd.blk 0 rfl | exact Rd.blk 1 rfl | exact Rd.blk 2 rfl)
    case h6 => rfl
    refine WG.run tab_ok 1 rfl ?_
    refine' WG.y rfl rfl (by decide) (Yl.load1 tab_ok rfl rfl rfl (fun _ => rfl) ?r7 rfl ?h7) ?_
    case r7 => apply Rd.add; (first | exact Rd.blk 0 rfl | exact Rd.blk 1 rfl | exact Rd.blk 2 rfl)
    case h7 => rfl
    refine WG.y rfl rfl (by decide) (Yl.mul rfl rfl rfl (fun _ => rfl) (by intro _; constructor <;> (try dsimp only) <;> omega)) ?_
    refine WG.callV en36 rfl rfl (by decide) (CallOp.mk' rfl rfl rfl rfl) (fun _ => rfl) (fun hg => New01_V (a := x.1 * y.2) (b := x.2 * y.1) (by omega) (by omega)) ?_
    refine WG.run tab_ok 2 rfl ?_
    first | refine WL.efN rfl rfl (Ef.store0 0 tab_ok rfl rfl rfl rfl rfl rfl rfl rfl ?_) | refine WL.efN rfl rfl (Ef.store0 1 tab_ok rfl rfl rfl rfl rfl rfl rfl rfl ?_) | refine WL.efN rfl rfl (Ef.store0 2 tab_ok rfl rfl rfl rfl rfl rfl rfl rfl ?_)
    refine WG.run tab_ok 1 rfl ?_
    refine WG.nil ?_
    refine WE.nxt ?_
    refine W.ret ?_
    refine WE.retF tab_ok [_, _] rfl ⟨⟨_, _, _, rfl, rfl, rfl, (Rd.blk 0 rfl), rfl⟩, rfl, trivial⟩ (RLe.refl _) ?_
    exact ⟨by unfold divF; rw [if_pos ⟨hvx, hvy, hy0⟩]; rfl, (by (repeat (first | exact List.Sublist.refl _ | exact List.nil_sublist _ | apply List.Sublist.cons_cons | apply List.Sublist.cons)); done)⟩

theorem Compare01_V {R : Ro} {x y : Fr} (hx : InR x.1 ∧ InR x.2) (hy : InR y.1 ∧ InR y.2) : FnV Tryd.prog 40 [.agg #[.int .i64 x.1, .int .i64 x.2], .agg #[.int .i64 y.1, .int .i64 y.2]] R (.int .i64 (cmpF x y)) := by
  refine Fn.toV (fun w0 E => ?_)
  refine Fn.enter (n := 33) Tryd.func40 rfl rfl (Nat.le_of_ble_eq_true rfl) rfl ?_
  refine W.seq ?_
  refine W.region _ ?_
  refine WL.ef rfl rfl (by decide) (Ef.box rfl rfl (fun b2 => ?_))
  refine WL.ef rfl rfl (by decide) (Ef.box rfl rfl (fun b3 => ?_))
  refine WG.run tab_ok 1 rfl ?_
  refine WG.nil ?_
  refine WE.nxt ?_
  refine W.seq ?_
  refine W.seq ?_
  refine W.region _ ?_
  refine' WG.y rfl rfl (by decide) (Yl.load1 tab_ok rfl rfl rfl (fun _ => rfl) ?r1 rfl ?h1) ?_
  case r1 => (first | exact Rd.blk 0 rfl | exact Rd.blk 1 rfl | exact Rd.blk 2 rfl)
  case h1 => rfl
  refine WG.callV en35 rfl rfl (by decide) (CallOp.mk' rfl rfl rfl rfl) (fun _ => rfl) (fun hg => Valid01_V hx) ?_
  refine WG.run tab_ok 2 rfl ?_
  refine' WG.y rfl rfl (by decide) (Yl.loadG tab_ok rfl rfl rfl (by first | exact fun _ => rfl | exact fun h => h | (intro h; simp_all)) ?r2 rfl ?h2 ?g2) ?_
  case r2 => (first | exact Rd.blkC 0 rfl | exact Rd.blkC 1 rfl | exact Rd.blkC 2 rfl)
  case h2 => rfl
  case g2 => first | exact fun _ => trivial | (intro hg; (try simp only [decide_eq_true_eq, decide_eq_false_iff_not, beq_iff_eq, bne_iff_ne, beq_eq_false_iff_ne, bne_eq_false_iff_eq, ne_eq, Bool.or_eq_true, Bool.or_eq_false_iff, Bool.and_eq_true, Bool.and_eq_false_imp, Bool.not_eq_true, Bool.not_eq_true', Bool.not_eq_false', Classical.not_not, Int.not_lt, Int.not_le, gt_iff_lt, ge_iff_le] at hg); (try dsimp only); omega)
  refine WG.callV en35 rfl rfl (by decide) (CallOp.mk' rfl rfl rfl rfl) (by first | exact fun _ => rfl | exact fun h => h | (intro h; simp_all)) (fun hg => Valid01_V hy) ?_
  refine WG.y rfl rfl (by decide) (pureV_ok tab_ok rfl (by first | exact fun _ => rfl | exact fun h => h | (intro h; simp_all))) ?_
  refine WG.y rfl rfl (by decide) (Yl.por rfl rfl rfl (fun _ => rfl) (by intro h1 h2; simp_all <;> omega)) ?_
  refine WG.nil ?_
  refine WE.nxt ?_
  refine W.cond rfl (fun hc0 => ?_) (fun hc0 => ?_)
  · try simp only [decide_eq_true_eq, decide_eq_false_iff_not, beq_iff_eq, bne_iff_ne, beq_eq_false_iff_ne, bne_eq_false_iff_eq, ne_eq, Bool.or_eq_true, Bool.or_eq_false_iff, Bool.and_eq_true, Bool.and_eq_false_imp, Bool.not_eq_true, Bool.not_eq_true', Bool.not_eq_false', Classical.not_not, Int.not_lt, Int.not_le, gt_iff_lt, ge_iff_le] at hc0
    have hno : ¬ (validF x = true ∧ validF y = true) := by revert hc0; cases validF x <;> cases validF y <;> simp
    refine W.seq ?_
    refine W.region _ ?_
    refine WG.run tab_ok 1 rfl ?_
    refine WG.nil ?_
    refine WE.nxt ?_
    refine W.ret ?_
    refine WE.then_ret ?_
    refine WE.subE (E' := E) (by (repeat (first | exact List.Sublist.refl _ | exact List.nil_sublist _ | apply List.Sublist.cons_cons | apply List.Sublist.cons)); done) ?_
    refine WE.retF tab_ok [_] rfl ⟨rfl, trivial⟩ (RLe.refl _) ?_
    exact ⟨by unfold cmpF; rw [if_neg hno]; rfl, rfl⟩
  · try simp only [decide_eq_true_eq, decide_eq_false_iff_not, beq_iff_eq, bne_iff_ne, beq_eq_false_iff_ne, bne_eq_false_iff_eq, ne_eq, Bool.or_eq_true, Bool.or_eq_false_iff, Bool.and_eq_true, Bool.and_eq_false_imp, Bool.not_eq_true, Bool.not_eq_true', Bool.not_eq_false', Classical.not_not, Int.not_lt, Int.not_le, gt_iff_lt, ge_iff_le] at hc0
    have hvx : validF x = true := by revert hc0; cases validF x <;> simp
    have hvy : validF y = true := by revert hc0; cases validF x <;> cases validF y <;> simp
    have hv := validF_iff.1 hvx
    have hw := validF_iff.1 hvy
    have p12 := mul_in (a := x.1) (b := y.2) (A := 1073741824) (B := 1073741824) (by omega) (by omega)
    have p21 := mul_in (a := y.1) (b := x.2) (A := 1073741824) (B := 1073741824) (by omega) (by omega)
    have p22 := mul_in (a := x.2) (b := y.2) (A := 1073741824) (B := 1073741824) (by omega) (by omega)
    have p21b := mul_in (a := x.2) (b := y.1) (A := 1073741824) (B := 1073741824) (by omega) (by omega)
    have p11 := mul_in (a := x.1) (b := y.1) (A := 1073741824) (B := 1073741824) (by omega) (by omega)
    refine W.skip ?_
    refine WE.nxt ?_
    refine W.seq ?_
    refine W.regionQ _ mixed (by kernel_rfl) ?_
    refine WG.run tab_ok 1 rfl ?_
    refine' WG.y rfl rfl (by decide) (Yl.load1 tab_ok rfl rfl rfl (fun _ => rfl) ?r3 rfl ?h3) ?_
    case r3 => apply Rd.add; (first | exact Rd.blk 0 rfl | exact Rd.blk 1 rfl | exact Rd.blk 2 rfl)
    case h3 => rfl
    refine WG.run tab_ok 1 rfl ?_
    refine' WG.y rfl rfl (by decide) (Yl.load1 tab_ok rfl rfl rfl (fun _ => rfl) ?r4 rfl ?h4) ?_
    case r4 => apply Rd.add; (first | exact Rd.blk 0 rfl | exact Rd.blk 1 rfl | exact Rd.blk 2 rfl)
    case h4 => rfl
    refine WG.y rfl rfl (by decide) (Yl.mul rfl rfl rfl (fun _ => rfl) (by intro _; constructor <;> (try dsimp only) <;> omega)) ?_
    refine WG.run tab_ok 1 rfl ?_
    refine' WG.y rfl rfl (by decide) (Yl.load1 tab_ok rfl rfl rfl (fun _ => rfl) ?r5 rfl ?h5) ?_
    case r5 => apply Rd.add; (first | exact Rd.blk 0 rfl | exact Rd.blk 1 rfl | exact Rd.blk 2 rfl)
    case h5 => rfl
    refine WG.run tab_ok 1 rfl ?_
    refine' WG.y rfl rfl (by decide) (Yl.load1 tab_ok rfl rfl rfl (fun _ => rfl) ?r6 rfl ?h6) ?_
    case r6 => apply Rd.add; (first | exact Rd.blk 0 rfl | exact Rd.blk 1 rfl | exact Rd.blk 2 rfl)
    case h6 => rfl
    refine WG.y rfl rfl (by decide) (Yl.mul rfl rfl rfl (fun _ => rfl) (by intro _; constructor <;> (try dsimp only) <;> omega)) ?_
    refine WG.run tab_ok 2 rfl ?_
    refine WG.nil ?_
    refine WE.nxt ?_
    refine W.seq ?_
    refine W.block ?_
    refine W.seq ?_
    refine W.region _ ?_
    refine WG.run tab_ok 4 rfl ?_
    refine WG.nil ?_
    refine WE.nxt ?_
    refine W.condD rfl (fun hc1 => ?_) (fun hc1 => ?_)
    · try dsimp only at hc1
      refine W.seq ?_
      refine W.region _ ?_
      refine WG.run tab_ok 1 rfl ?_
      refine WG.nil ?_
      refine WE.nxt ?_
      refine W.ret ?_
      refine WE.blk_ret ?_
      refine WE.then_ret ?_
      refine WE.subE (E' := E) (by (repeat (first | exact List.Sublist.refl _ | exact List.nil_sublist _ | apply List.Sublist.cons_cons | apply List.Sublist.cons)); done) ?_
      refine WE.retF tab_ok [_] rfl ⟨rfl, trivial⟩ (RLe.refl _) ?_
      exact ⟨by unfold cmpF; rw [if_pos ⟨hvx, hvy⟩, if_pos (by omega)]; rfl, rfl⟩
    · try dsimp only at hc1
      refine W.seq ?_
      refine W.region _ ?_
      refine WG.run tab_ok 4 rfl ?_
      refine WG.nil ?_
      refine WE.nxt ?_
      refine W.condD rfl (fun hc2 => ?_) (fun hc2 => ?_)
      · try dsimp only at hc2
        refine W.seq ?_
        refine W.region _ ?_
        refine WG.run tab_ok 1 rfl ?_
        refine WG.nil ?_
        refine WE.nxt ?_
        refine W.ret ?_
        refine WE.blk_ret ?_
        refine WE.then_ret ?_
        refine WE.subE (E' := E) (by (repeat (first | exact List.Sublist.refl _ | exact List.nil_sublist _ | apply List.Sublist.cons_cons | apply List.Sublist.cons)); done) ?_
        refine WE.retF tab_ok [_] rfl ⟨rfl, trivial⟩ (RLe.refl _) ?_
        exact ⟨by unfold cmpF; rw [if_pos ⟨hvx, hvy⟩, if_neg (by omega), if_pos (by omega)]; rfl, rfl⟩
      · try dsimp only at hc2
        refine W.skip ?_
        refine WE.blk _ ?_
        refine WE.nxt ?_
        refine W.seq ?_
        refine W.region _ ?_
        refine WG.run tab_ok 1 rfl ?_
        refine WG.nil ?_
        refine WE.nxt ?_
        refine W.ret ?_
        refine WE.subE (E' := E) (by (repeat (first | exact List.Sublist.refl _ | exact List.nil_sublist _ | apply List.Sublist.cons_cons | apply List.Sublist.cons)); done) ?_
        refine WE.retF tab_ok [_] rfl ⟨rfl, trivial⟩ (RLe.refl _) ?_
        exact ⟨by unfold cmpF; rw [if_pos ⟨hvx, hvy⟩, if_neg (by omega), if_neg (by omega)]; rfl, rfl⟩

theorem Floor01_V {R : Ro} {x : Fr} (hx : InR x.1 ∧ InR x.2) : FnV Tryd.prog 37 [.agg #[.int .i64 x.1, .int .i64 x.2]] R (.int .i64 (floorF x)) := by
  refine Fn.toV (fun w0 E => ?_)
  refine Fn.enter (n := 22) Tryd.func37 rfl rfl (Nat.le_of_ble_eq_true rfl) rfl ?_
  refine W.seq ?_
  refine W.region _ ?_
  refine WL.ef rfl rfl (by decide) (Ef.box rfl rfl (fun b1 => ?_))
  refine WG.run tab_ok 1 rfl ?_
  refine WG.nil ?_
  refine WE.nxt ?_
  refine W.seq ?_
  refine W.seq ?_
  refine W.region _ ?_
  refine' WG.y rfl rfl (by decide) (Yl.load1 tab_ok rfl rfl rfl (fun _ => rfl) ?r1 rfl ?h1) ?_
  case r1 => (first | exact Rd.blk 0 rfl | exact Rd.blk 1 rfl)
  case h1 => rfl
  refine WG.callV en35 rfl rfl (by decide) (CallOp.mk' rfl rfl rfl rfl) (fun _ => rfl) (fun hg => Valid01_V hx) ?_
  refine WG.run tab_ok 1 rfl ?_
  refine WG.nil ?_
  refine WE.nxt ?_
  refine W.cond rfl (fun hc0 => ?_) (fun hc0 => ?_)
  · try simp only [decide_eq_true_eq, decide_eq_false_iff_not, beq_iff_eq, bne_iff_ne, beq_eq_false_iff_ne, bne_eq_false_iff_eq, ne_eq, Bool.or_eq_true, Bool.or_eq_false_iff, Bool.and_eq_true, Bool.and_eq_false_imp, Bool.not_eq_true, Bool.not_eq_true', Bool.not_eq_false', Classical.not_not, Int.not_lt, Int.not_le, gt_iff_lt, ge_iff_le] at hc0
    have hvx : ¬ validF x = true := by simpa using hc0
    refine W.seq ?_
    refine W.region _ ?_
    refine WG.run tab_ok 1 rfl ?_
    refine WG.nil ?_
    refine WE.nxt ?_
    refine W.ret ?_
    refine WE.then_ret ?_
    refine WE.subE (E' := E) (by (repeat (first | exact List.Sublist.refl _ | exact List.nil_sublist _ | apply List.Sublist.cons_cons | apply List.Sublist.cons)); done) ?_
    refine WE.retF tab_ok [_] rfl ⟨rfl, trivial⟩ (RLe.refl _) ?_
    exact ⟨by unfold floorF; rw [if_neg hvx]; rfl, rfl⟩
  · try simp only [decide_eq_true_eq, decide_eq_false_iff_not, beq_iff_eq, bne_iff_ne, beq_eq_false_iff_ne, bne_eq_false_iff_eq, ne_eq, Bool.or_eq_true, Bool.or_eq_false_iff, Bool.and_eq_true, Bool.and_eq_false_imp, Bool.not_eq_true, Bool.not_eq_true', Bool.not_eq_false', Classical.not_not, Int.not_lt, Int.not_le, gt_iff_lt, ge_iff_le] at hc0
    have hvx : validF x = true := by simpa using hc0
    have hv := validF_iff.1 hvx
    have ht := tdiv_in (a := x.1) (b := x.2) (by omega)
    have hp := mul_in (a := x.1.tdiv x.2) (b := x.2) (A := 1073741824) (B := 1073741824) (by omega) (by omega)
    have hl := tdiv_floor (a := x.1) (b := x.2) (by omega)
    refine W.skip ?_
    refine WE.nxt ?_
    refine W.seq ?_
    refine W.region _ ?_
    refine WG.run tab_ok 1 rfl ?_
    refine' WG.y rfl rfl (by decide) (Yl.load1 tab_ok rfl rfl rfl (fun _ => rfl) ?r2 rfl ?h2) ?_
    case r2 => apply Rd.add; (first | exact Rd.blk 0 rfl | exact Rd.blk 1 rfl)
    case h2 => rfl
    refine WG.run tab_ok 1 rfl ?_
    refine' WG.y rfl rfl (by decide) (Yl.load1 tab_ok rfl rfl rfl (fun _ => rfl) ?r3 rfl ?h3) ?_
    case r3 => apply Rd.add; (first | exact Rd.blk 0 rfl | exact Rd.blk 1 rfl)
    case h3 => rfl
    refine WG.y rfl rfl (by decide) (Yl.tdiv rfl rfl rfl (fun _ => rfl) (by intro _; omega) (by intro _; constructor <;> (try dsimp only) <;> omega)) ?_
    refine WG.run tab_ok 1 rfl ?_
    refine WG.nil ?_
    refine WE.nxt ?_
    refine W.seq ?_
    refine W.seq ?_
    refine W.region _ ?_
    refine WG.run tab_ok 1 rfl ?_
    refine' WG.y rfl rfl (by decide) (Yl.load1 tab_ok rfl rfl rfl (fun _ => rfl) ?r4 rfl ?h4) ?_
    case r4 => apply Rd.add; (first | exact Rd.blk 0 rfl | exact Rd.blk 1 rfl)
    case h4 => rfl
    refine WG.run tab_ok 2 rfl ?_
    refine' WG.y rfl rfl (by decide) (Yl.load1 tab_ok rfl rfl rfl (fun _ => rfl) ?r5 rfl ?h5) ?_
    case r5 => apply Rd.add; (first | exact Rd.blk 0 rfl | exact Rd.blk 1 rfl)
    case h5 => rfl
    refine WG.y rfl rfl (by decide) (Yl.mul rfl rfl rfl (fun _ => rfl) (by intro _; constructor <;> (try dsimp only) <;> omega)) ?_
    refine WG.run tab_ok 1 rfl ?_
    refine WG.nil ?_
    refine WE.nxt ?_
    refine W.condD rfl (fun hc1 => ?_) (fun hc1 => ?_)
    · try dsimp only at hc1
      refine W.region _ ?_
      refine WG.run tab_ok 1 rfl ?_
      refine WG.y rfl rfl (by decide) (Yl.sub rfl rfl rfl (fun _ => rfl) (by intro _; constructor <;> (try dsimp only) <;> omega)) ?_
      refine WG.run tab_ok 1 rfl ?_
      refine WG.nil ?_
      refine WE.nxt ?_
      refine W.seq ?_
      refine W.region _ ?_
      refine WG.run tab_ok 2 rfl ?_
      refine WG.nil ?_
      refine WE.nxt ?_
      refine W.ret ?_
      refine WE.subE (E' := E) (by (repeat (first | exact List.Sublist.refl _ | exact List.nil_sublist _ | apply List.Sublist.cons_cons | apply List.Sublist.cons)); done) ?_
      refine WE.retF tab_ok [_] rfl ⟨rfl, trivial⟩ (RLe.refl _) ?_
      exact ⟨by unfold floorF; rw [if_pos hvx, hl, if_pos (by omega)]; rfl, rfl⟩
    · try dsimp only at hc1
      refine W.skip ?_
      refine WE.nxt ?_
      refine W.seq ?_
      refine W.region _ ?_
      refine WG.run tab_ok 2 rfl ?_
      refine WG.nil ?_
      refine WE.nxt ?_
      refine W.ret ?_
      refine WE.subE (E' := E) (by (repeat (first | exact List.Sublist.refl _ | exact List.nil_sublist _ | apply List.Sublist.cons_cons | apply List.Sublist.cons)); done) ?_
      refine WE.retF tab_ok [_] rfl ⟨rfl, trivial⟩ (RLe.refl _) ?_
      exact ⟨by unfold floorF; rw [if_pos hvx, hl, if_neg (by omega)]; rfl, rfl⟩

theorem Ceil01_V {R : Ro} {x : Fr} (hx : InR x.1 ∧ InR x.2) : FnV Tryd.prog 38 [.agg #[.int .i64 x.1, .int .i64 x.2]] R (.int .i64 (ceilF x)) := by
  refine Fn.toV (fun w0 E => ?_)
  refine Fn.enter (n := 22) Tryd.func38 rfl rfl (Nat.le_of_ble_eq_true rfl) rfl ?_
  refine W.seq ?_
  refine W.region _ ?_
  refine WL.ef rfl rfl (by decide) (Ef.box rfl rfl (fun b1 => ?_))
  refine WG.run tab_ok 1 rfl ?_
  refine WG.nil ?_
  refine WE.nxt ?_
  refine W.seq ?_
  refine W.seq ?_
  refine W.region _ ?_
  refine' WG.y rfl rfl (by decide) (Yl.load1 tab_ok rfl rfl rfl (fun _ => rfl) ?r1 rfl ?h1) ?_
  case r1 => (first | exact Rd.blk 0 rfl | exact Rd.blk 1 rfl)
  case h1 => rfl
  refine WG.callV en35 rfl rfl (by decide) (CallOp.mk' rfl rfl rfl rfl) (fun _ => rfl) (fun hg => Valid01_V hx) ?_
  refine WG.run tab_ok 1 rfl ?_
  refine WG.nil ?_
  refine WE.nxt ?_
  refine W.cond rfl (fun hc0 => ?_) (fun hc0 => ?_)
  · try simp only [decide_eq_true_eq, decide_eq_false_iff_not, beq_iff_eq, bne_iff_ne, beq_eq_false_iff_ne, bne_eq_false_iff_eq, ne_eq, Bool.or_eq_true, Bool.or_eq_false_iff, Bool.and_eq_true, Bool.and_eq_false_imp, Bool.not_eq_true, Bool.not_eq_true', Bool.not_eq_false', Classical.not_not, Int.not_lt, Int.not_le, gt_iff_lt, ge_iff_le] at hc0
    have hvx : ¬ validF x = true := by simpa using hc0
    refine W.seq ?_
    refine W.region _ ?_
    refine WG.run tab_ok 1 rfl ?_
    refine WG.nil ?_
    refine WE.nxt ?_
    refine W.ret ?_
    refine WE.then_ret ?_
    refine WE.subE (E' := E) (by (repeat (first | exact List.Sublist.refl _ | exact List.nil_sublist _ | apply List.Sublist.cons_cons | apply List.Sublist.cons)); done) ?_
    refine WE.retF tab_ok [_] rfl ⟨rfl, trivial⟩ (RLe.refl _) ?_
    exact ⟨by unfold ceilF; rw [if_neg hvx]; rfl, rfl⟩
  · try simp only [decide_eq_true_eq, decide_eq_false_iff_not, beq_iff_eq, bne_iff_ne, beq_eq_false_iff_ne, bne_eq_false_iff_eq, ne_eq, Bool.or_eq_true, Bool.or_eq_false_iff, Bool.and_eq_true, Bool.and_eq_false_imp, Bool.not_eq_true, Bool.not_eq_true', Bool.not_eq_false', Classical.not_not, Int.not_lt, Int.not_le, gt_iff_lt, ge_iff_le] at hc0
    have hvx : validF x = true := by simpa using hc0
    have hv := validF_iff.1 hvx
    have ht := tdiv_in (a := x.1) (b := x.2) (by omega)
    have hp := mul_in (a := x.1.tdiv x.2) (b := x.2) (A := 1073741824) (B := 1073741824) (by omega) (by omega)
    have hl := tdiv_ceil (a := x.1) (b := x.2) (by omega)
    refine W.skip ?_
    refine WE.nxt ?_
    refine W.seq ?_
    refine W.region _ ?_
    refine WG.run tab_ok 1 rfl ?_
    refine' WG.y rfl rfl (by decide) (Yl.load1 tab_ok rfl rfl rfl (fun _ => rfl) ?r2 rfl ?h2) ?_
    case r2 => apply Rd.add; (first | exact Rd.blk 0 rfl | exact Rd.blk 1 rfl)
    case h2 => rfl
    refine WG.run tab_ok 1 rfl ?_
    refine' WG.y rfl rfl (by decide) (Yl.load1 tab_ok rfl rfl rfl (fun _ => rfl) ?r3 rfl ?h3) ?_
    case r3 => apply Rd.add; (first | exact Rd.blk 0 rfl | exact Rd.blk 1 rfl)
    case h3 => rfl
    refine WG.y rfl rfl (by decide) (Yl.tdiv rfl rfl rfl (fun _ => rfl) (by intro _; omega) (by intro _; constructor <;> (try dsimp only) <;> omega)) ?_
    refine WG.run tab_ok 1 rfl ?_
    refine WG.nil ?_
    refine WE.nxt ?_
    refine W.seq ?_
    refine W.seq ?_
    refine W.region _ ?_
    refine WG.run tab_ok 1 rfl ?_
    refine' WG.y rfl rfl (by decide) (Yl.load1 tab_ok rfl rfl rfl (fun _ => rfl) ?r4 rfl ?h4) ?_
    case r4 => apply Rd.add; (first | exact Rd.blk 0 rfl | exact Rd.blk 1 rfl)
    case h4 => rfl
    refine WG.run tab_ok 2 rfl ?_
    refine' WG.y rfl rfl (by decide) (Yl.load1 tab_ok rfl rfl rfl (fun _ => rfl) ?r5 rfl ?h5) ?_
    case r5 => apply Rd.add; (first | exact Rd.blk 0 rfl | exact Rd.blk 1 rfl)
    case h5 => rfl
    refine WG.y rfl rfl (by decide) (Yl.mul rfl rfl rfl (fun _ => rfl) (by intro _; constructor <;> (try dsimp only) <;> omega)) ?_
    refine WG.run tab_ok 1 rfl ?_
    refine WG.nil ?_
    refine WE.nxt ?_
    refine W.condD rfl (fun hc1 => ?_) (fun hc1 => ?_)
    · try dsimp only at hc1
      refine W.region _ ?_
      refine WG.run tab_ok 1 rfl ?_
      refine WG.y rfl rfl (by decide) (Yl.add rfl rfl rfl (fun _ => rfl) (by intro _; constructor <;> (try dsimp only) <;> omega)) ?_
      refine WG.run tab_ok 1 rfl ?_
      refine WG.nil ?_
      refine WE.nxt ?_
      refine W.seq ?_
      refine W.region _ ?_
      refine WG.run tab_ok 2 rfl ?_
      refine WG.nil ?_
      refine WE.nxt ?_
      refine W.ret ?_
      refine WE.subE (E' := E) (by (repeat (first | exact List.Sublist.refl _ | exact List.nil_sublist _ | apply List.Sublist.cons_cons | apply List.Sublist.cons)); done) ?_
      refine WE.retF tab_ok [_] rfl ⟨rfl, trivial⟩ (RLe.refl _) ?_
      exact ⟨by unfold ceilF; rw [if_pos hvx, hl, if_pos (by omega)]; rfl, rfl⟩
    · try dsimp only at hc1
      refine W.skip ?_
      refine WE.nxt ?_
      refine W.seq ?_
      refine W.region _ ?_
      refine WG.run tab_ok 2 rfl ?_
      refine WG.nil ?_
      refine WE.nxt ?_
      refine W.ret ?_
      refine WE.subE (E' := E) (by (repeat (first | exact List.Sublist.refl _ | exact List.nil_sublist _ | apply List.Sublist.cons_cons | apply List.Sublist.cons)); done) ?_
      refine WE.retF tab_ok [_] rfl ⟨rfl, trivial⟩ (RLe.refl _) ?_
      exact ⟨by unfold ceilF; rw [if_pos hvx, hl, if_neg (by omega)]; rfl, rfl⟩

end Go.Proofs.YtjacpnojnoompaaDoor

/- Fractions: their texts, and the examples of the chapter. No condition. -/
set_option linter.unusedSimpArgs false
set_option linter.unusedVariables false
namespace Go.Proofs.YtjacpnojnoompaaDoor
open Go Go.RowKit Go.Proofs.YtjacpnojnoompaaDoor.K Go.Proofs.YtjacpnojnoompaaDoor.M

theorem nilI82 : Tryd.prog.underlying 82 = some (.interface (Tryd.prog.methodsAt 82)) := by kernel_rfl
structure Glob (R : Ro) : Prop where
  m : ∃ (m : Int) (rest : List Value), R 0 = some (.int .i64 m :: rest)
  pow : R 3 = some (Lib.pow10Tab.map fun z => Value.int .u64 z)
theorem Glob.mono {R R' : Ro} (h : Glob R) (hR : RLe R R') : Glob R' := ⟨by obtain ⟨m, rest, hm⟩ := h.m; exact ⟨m, rest, hR _ _ hm⟩, hR _ _ h.pow⟩
theorem Itoa_V {R : Ro} (hG : Glob R) {n : Int} (hn : InR n) : FnV Tryd.prog 69 [.int .i64 n] R (.string (str (Lib.itoa n))) := by
  refine FnV.of (fun w0 E w hm => ?_)
  refine (sh_strconv_Itoa n hn.1 hn.2 w (hm.tabIs (by kernel_rfl) hG.pow)).mono ?_
  rintro e w' ⟨rfl, k, os, rfl⟩
  exact ⟨rfl, Lib.below_grow _ w (Nat.le_refl _) k os⟩
theorem Atoi_V {R : Ro} {s : ByteArray} {n : Int} (hl : s.size ≤ 18) (h : Lib.atoi s.data.toList = some n) : FnV Tryd.prog 68 [.string s] R (.tuple #[.int .i64 n, .nilIface]) := by
  refine FnV.of (fun w0 E w hm => ?_)
  refine (sh_strconv_Atoi s n hl h w).mono ?_
  rintro e w' ⟨rfl, t, rfl⟩
  exact ⟨rfl, Lib.bytesWorld_below w _ t⟩
theorem Cut_V {R : Ro} (hG : Glob R) {s sep : ByteArray} (hs : s.size < 4294967281) : FnV Tryd.prog 57 [.string s, .string sep] R (.tuple #[.string (str (Lib.cut s.data.toList sep.data.toList).1), .string (str (Lib.cut s.data.toList sep.data.toList).2.1), .bool (Lib.cut s.data.toList sep.data.toList).2.2]) := by
  obtain ⟨m, rest, hm0⟩ := hG.m
  refine FnV.of (fun w0 E w hm => ?_)
  refine (sh_strings_Cut s sep m w hs (hm.cell hm0)).mono ?_
  rintro e w' ⟨rfl, n, rfl⟩
  exact ⟨rfl, below_drewN w n⟩
def fmtF (x : Fr) : List UInt8 := if validF x = true then Lib.itoa x.1 ++ (if x.2 = 1 then [] else 47 :: Lib.itoa x.2) else []
theorem fmtF_le {x : Fr} (h : validF x = true) : (fmtF x).length ≤ 3000000000 := by
  obtain ⟨h1, h2, h3, h4, _⟩ := validF_iff.1 h
  have a := itoa_le x.1
  have b := itoa_le x.2
  unfold fmtF
  rw [if_pos h]
  split <;> simp only [List.length_append, List.length_cons, List.length_nil] <;> omega

theorem Format01_V {R : Ro} (hG : Glob R) {x : Fr} (hx : InR x.1 ∧ InR x.2) : FnV Tryd.prog 34 [.agg #[.int .i64 x.1, .int .i64 x.2]] R (.string (str (fmtF x))) := by
  refine Fn.toV (fun w0 E => ?_)
  refine Fn.enter (n := 20) Tryd.func34 rfl rfl (Nat.le_of_ble_eq_true rfl) rfl ?_
  refine W.seq ?_
  refine W.region _ ?_
  refine WL.ef rfl rfl (by decide) (Ef.box rfl rfl (fun b1 => ?_))
  refine WG.run tab_ok 1 rfl ?_
  refine WG.nil ?_
  refine WE.nxt ?_
  refine W.seq ?_
  refine W.seq ?_
  refine W.region _ ?_
  refine' WG.y rfl rfl (by decide) (Yl.load1 tab_ok rfl rfl rfl (fun _ => rfl) ?r1 rfl ?h1) ?_
  case r1 => (first | exact Rd.blk 0 rfl | exact Rd.blk 1 rfl)
  case h1 => rfl
  refine WG.callV en35 rfl rfl (by decide) (CallOp.mk' rfl rfl rfl rfl) (fun _ => rfl) (fun hg => Valid01_V hx) ?_
  refine WG.run tab_ok 1 rfl ?_
  refine WG.nil ?_
  refine WE.nxt ?_
  refine W.cond rfl (fun hc0 => ?_) (fun hc0 => ?_)
  · try simp only [decide_eq_true_eq, decide_eq_false_iff_not, beq_iff_eq, bne_iff_ne, beq_eq_false_iff_ne, bne_eq_false_iff_eq, ne_eq, Bool.or_eq_true, Bool.or_eq_false_iff, Bool.and_eq_true, Bool.and_eq_false_imp, Bool.not_eq_true, Bool.not_eq_true', Bool.not_eq_false', Classical.not_not, Int.not_lt, Int.not_le, gt_iff_lt, ge_iff_le] at hc0
    have hvx : ¬ validF x = true := by simpa using hc0
    refine W.seq ?_
    refine W.region _ ?_
    refine WG.run tab_ok 1 rfl ?_
    refine WG.nil ?_
    refine WE.nxt ?_
    refine W.ret ?_
    refine WE.then_ret ?_
    refine WE.subE (E' := E) (by (repeat (first | exact List.Sublist.refl _ | exact List.nil_sublist _ | apply List.Sublist.cons_cons | apply List.Sublist.cons)); done) ?_
    refine WE.retF tab_ok [_] rfl ⟨rfl, trivial⟩ (RLe.refl _) ?_
    exact ⟨by unfold fmtF; rw [if_neg hvx]; rfl, rfl⟩
  · try simp only [decide_eq_true_eq, decide_eq_false_iff_not, beq_iff_eq, bne_iff_ne, beq_eq_false_iff_ne, bne_eq_false_iff_eq, ne_eq, Bool.or_eq_true, Bool.or_eq_false_iff, Bool.and_eq_true, Bool.and_eq_false_imp, Bool.not_eq_true, Bool.not_eq_true', Bool.not_eq_false', Classical.not_not, Int.not_lt, Int.not_le, gt_iff_lt, ge_iff_le] at hc0
    have hvx : validF x = true := by simpa using hc0
    have hv := validF_iff.1 hvx
    have l1 := itoa_le x.1
    have l2 := itoa_le x.2
    have s1 := str_size (Lib.itoa x.1)
    have s2 := str_size (Lib.itoa x.2)
    have s3 : (⟨#[47]⟩ : ByteArray).size = 1 := rfl
    have s4 : ((⟨#[47]⟩ : ByteArray) ++ str (Lib.itoa x.2)).size = 1 + (Lib.itoa x.2).length := by rw [show (⟨#[47]⟩ : ByteArray) = str [47] from rfl, str_append, str_size]; simp; omega
    refine W.skip ?_
    refine WE.nxt ?_
    refine W.seq ?_
    refine W.region _ ?_
    refine WG.run tab_ok 1 rfl ?_
    refine' WG.y rfl rfl (by decide) (Yl.load1 tab_ok rfl rfl rfl (fun _ => rfl) ?r2 rfl ?h2) ?_
    case r2 => apply Rd.add; (first | exact Rd.blk 0 rfl | exact Rd.blk 1 rfl)
    case h2 => rfl
    refine WG.callV en69 rfl rfl (by decide) (CallOp.mk' rfl rfl rfl rfl) (fun _ => rfl) (fun hg => Itoa_V hG (by constructor <;> omega)) ?_
    refine WG.run tab_ok 1 rfl ?_
    refine WG.nil ?_
    refine WE.nxt ?_
    refine W.seq ?_
    refine W.seq ?_
    refine W.region _ ?_
    refine WG.run tab_ok 1 rfl ?_
    refine' WG.y rfl rfl (by decide) (Yl.load1 tab_ok rfl rfl rfl (fun _ => rfl) ?r3 rfl ?h3) ?_
    case r3 => apply Rd.add; (first | exact Rd.blk 0 rfl | exact Rd.blk 1 rfl)
    case h3 => rfl
    refine WG.run tab_ok 1 rfl ?_
    refine WG.nil ?_
    refine WE.nxt ?_
    refine W.condN rfl (fun hc1 => ?_) (fun hc1 => ?_)
    · try dsimp only at hc1
      refine W.region _ ?_
      refine WG.run tab_ok 2 rfl ?_
      refine' WG.y rfl rfl (by decide) (Yl.load1 tab_ok rfl rfl rfl (fun _ => rfl) ?r4 rfl ?h4) ?_
      case r4 => apply Rd.add; (first | exact Rd.blk 0 rfl | exact Rd.blk 1 rfl)
      case h4 => rfl
      refine WG.callV en69 rfl rfl (by decide) (CallOp.mk' rfl rfl rfl rfl) (fun _ => rfl) (fun hg => Itoa_V hG (by constructor <;> omega)) ?_
      refine WG.y rfl rfl (by decide) (Yl.cat rfl rfl rfl (fun _ => rfl) (by intro _; omega)) ?_
      refine WG.y rfl rfl (by decide) (Yl.cat rfl rfl rfl (fun _ => rfl) (by intro _; omega)) ?_
      refine WG.run tab_ok 1 rfl ?_
      refine WG.nil ?_
      refine WE.nxt ?_
      refine W.seq ?_
      refine W.region _ ?_
      refine WG.run tab_ok 2 rfl ?_
      refine WG.nil ?_
      refine WE.nxt ?_
      refine W.ret ?_
      refine WE.subE (E' := E) (by (repeat (first | exact List.Sublist.refl _ | exact List.nil_sublist _ | apply List.Sublist.cons_cons | apply List.Sublist.cons)); done) ?_
      refine WE.retF tab_ok [_] rfl ⟨rfl, trivial⟩ (RLe.refl _) ?_
      exact ⟨by unfold fmtF; rw [if_pos hvx, if_neg (by omega)]; show Value.string (str (Lib.itoa x.1) ++ (str [47] ++ str (Lib.itoa x.2))) = _; rw [str_append, str_append]; rfl, rfl⟩
    · try dsimp only at hc1
      refine W.skip ?_
      refine WE.nxt ?_
      refine W.seq ?_
      refine W.region _ ?_
      refine WG.run tab_ok 2 rfl ?_
      refine WG.nil ?_
      refine WE.nxt ?_
      refine W.ret ?_
      refine WE.subE (E' := E) (by (repeat (first | exact List.Sublist.refl _ | exact List.nil_sublist _ | apply List.Sublist.cons_cons | apply List.Sublist.cons)); done) ?_
      refine WE.retF tab_ok [_] rfl ⟨rfl, trivial⟩ (RLe.refl _) ?_
      exact ⟨by unfold fmtF; rw [if_pos hvx, if_pos (by omega), List.append_nil]; rfl, rfl⟩

theorem Parse42_V {R : Ro} (hG : Glob R) : FnV Tryd.prog 33 [.string ⟨#[52, 47, 50]⟩] R (.tuple #[.agg #[.int .i64 0, .int .i64 0], .int .i64 4]) := by
  refine Fn.toVS (fun w0 E => ?_)
  refine Fn.enter (n := 48) Tryd.func33 rfl rfl (Nat.le_of_ble_eq_true rfl) rfl ?_
  refine W.seq ?_
  refine W.region _ ?_
  refine WL.ef rfl rfl (by decide) (Ef.alloc tab_ok rfl rfl (fun b2 => ?_))
  refine WG.run tab_ok 1 rfl ?_
  refine WG.nil ?_
  refine WE.nxt ?_
  refine W.seq ?_
  refine W.region _ ?_
  refine WG.run tab_ok 1 rfl ?_
  refine WG.callV (v := .tuple #[.string (str [52]), .string (str [50]), .bool true]) en57 rfl rfl (by decide) (CallOp.mk' rfl rfl rfl rfl) (fun _ => rfl) (fun hg => by
    have h := Cut_V (R := R) hG (s := ⟨#[52, 47, 50]⟩) (sep := ⟨#[47]⟩) (by decide)
    rw [show Lib.cut (⟨#[52, 47, 50]⟩ : ByteArray).data.toList (⟨#[47]⟩ : ByteArray).data.toList = ([52], [50], true) from by kernel_rfl] at h
    exact h) ?_
  refine WG.run tab_ok 7 rfl ?_
  refine WG.nil ?_
  refine WE.nxt ?_
  refine W.seq ?_
  refine W.region _ ?_
  -- build
  refine WG.y rfl rfl (by decide) (Yl.build (parts := [(1, .const (.int .i64 1))]) tab_ok rfl rfl rfl rfl (fun _ => rfl) rfl rfl) ?_
  refine WL.ef rfl rfl (by decide) (Ef.alloc tab_ok rfl rfl (fun b7 => ?_))
  first | refine WL.efN rfl rfl (Ef.store0 0 tab_ok rfl rfl rfl rfl rfl rfl rfl rfl ?_) | refine WL.efN rfl rfl (Ef.store0 1 tab_ok rfl rfl rfl rfl rfl rfl rfl rfl ?_) | refine WL.efN rfl rfl (Ef.store0 2 tab_ok rfl rfl rfl rfl rfl rfl rfl rfl ?_) | refine WL.efN rfl rfl (Ef.store0 3 tab_ok rfl rfl rfl rfl rfl rfl rfl rfl ?_) | refine WL.efN rfl rfl (Ef.store0 4 tab_ok rfl rfl rfl rfl rfl rfl rfl rfl ?_)
  refine WG.nil ?_
  refine WE.nxt ?_
  refine W.seq ?_
  refine W.region _ ?_
  refine WG.run tab_ok 1 rfl ?_
  refine WG.callV en68 rfl rfl (by decide) (CallOp.mk' rfl rfl rfl rfl) (fun _ => rfl) (fun hg => Atoi_V (s := str [52]) (n := 4) (by decide) (by kernel_rfl)) ?_
  refine WG.run tab_ok 5 rfl ?_
  refine WG.nil ?_
  refine WE.nxt ?_
  refine W.seq ?_
  refine W.seq ?_
  refine W.region _ ?_
  refine WG.run tab_ok 1 rfl ?_
  refine WG.y rfl rfl (by decide) (Yl.neNilI nilI82 rfl rfl rfl (fun _ => rfl) (by first | exact .inl ⟨rfl, rfl⟩ | exact .inr ⟨⟨_, _, rfl⟩, rfl⟩)) ?_
  refine WG.nil ?_
  refine WE.nxt ?_
  refine W.cond rfl (fun hc0 => ?_) (fun hc0 => ?_)
  · try simp only [decide_eq_true_eq, decide_eq_false_iff_not, beq_iff_eq, bne_iff_ne, beq_eq_false_iff_ne, bne_eq_false_iff_eq, ne_eq, Bool.or_eq_true, Bool.or_eq_false_iff, Bool.and_eq_true, Bool.and_eq_false_imp, Bool.not_eq_true, Bool.not_eq_true', Bool.not_eq_false', Classical.not_not, Int.not_lt, Int.not_le, gt_iff_lt, ge_iff_le] at hc0
    first | done | exact absurd hc0 (by decide) | simp at hc0
  · try simp only [decide_eq_true_eq, decide_eq_false_iff_not, beq_iff_eq, bne_iff_ne, beq_eq_false_iff_ne, bne_eq_false_iff_eq, ne_eq, Bool.or_eq_true, Bool.or_eq_false_iff, Bool.and_eq_true, Bool.and_eq_false_imp, Bool.not_eq_true, Bool.not_eq_true', Bool.not_eq_false', Classical.not_not, Int.not_lt, Int.not_le, gt_iff_lt, ge_iff_le] at hc0
    refine W.skip ?_
    refine WE.nxt ?_
    refine W.seq ?_
    refine W.region _ ?_
    refine WG.run tab_ok 2 rfl ?_
    first | refine WL.efN rfl rfl (Ef.store 0 tab_ok rfl rfl rfl rfl rfl rfl rfl rfl ?_) | refine WL.efN rfl rfl (Ef.store 1 tab_ok rfl rfl rfl rfl rfl rfl rfl rfl ?_) | refine WL.efN rfl rfl (Ef.store 2 tab_ok rfl rfl rfl rfl rfl rfl rfl rfl ?_) | refine WL.efN rfl rfl (Ef.store 3 tab_ok rfl rfl rfl rfl rfl rfl rfl rfl ?_) | refine WL.efN rfl rfl (Ef.store 4 tab_ok rfl rfl rfl rfl rfl rfl rfl rfl ?_)
    refine WG.nil ?_
    refine WE.nxt ?_
    refine W.seq ?_
    refine W.seq ?_
    refine W.region _ ?_
    refine WG.run tab_ok 1 rfl ?_
    refine WG.nil ?_
    refine WE.nxt ?_
    refine W.cond rfl (fun hc1 => ?_) (fun hc1 => ?_)
    · try simp only [decide_eq_true_eq, decide_eq_false_iff_not, beq_iff_eq, bne_iff_ne, beq_eq_false_iff_ne, bne_eq_false_iff_eq, ne_eq, Bool.or_eq_true, Bool.or_eq_false_iff, Bool.and_eq_true, Bool.and_eq_false_imp, Bool.not_eq_true, Bool.not_eq_true', Bool.not_eq_false', Classical.not_not, Int.not_lt, Int.not_le, gt_iff_lt, ge_iff_le] at hc1
      refine W.seq ?_
      refine W.region _ ?_
      refine WG.run tab_ok 1 rfl ?_
      refine WG.callV en68 rfl rfl (by decide) (CallOp.mk' rfl rfl rfl rfl) (fun _ => rfl) (fun hg => Atoi_V (s := str [50]) (n := 2) (by decide) (by kernel_rfl)) ?_
      refine WG.run tab_ok 4 rfl ?_
      first | refine WL.efN rfl rfl (Ef.store 0 tab_ok rfl rfl rfl rfl rfl rfl rfl rfl ?_) | refine WL.efN rfl rfl (Ef.store 1 tab_ok rfl rfl rfl rfl rfl rfl rfl rfl ?_) | refine WL.efN rfl rfl (Ef.store 2 tab_ok rfl rfl rfl rfl rfl rfl rfl rfl ?_) | refine WL.efN rfl rfl (Ef.store 3 tab_ok rfl rfl rfl rfl rfl rfl rfl rfl ?_) | refine WL.efN rfl rfl (Ef.store 4 tab_ok rfl rfl rfl rfl rfl rfl rfl rfl ?_)
      refine WG.run tab_ok 1 rfl ?_
      refine WG.nil ?_
      refine WE.nxt ?_
      refine W.seq ?_
      refine W.region _ ?_
      refine WG.run tab_ok 1 rfl ?_
      refine WG.y rfl rfl (by decide) (Yl.neNilI nilI82 rfl rfl rfl (fun _ => rfl) (by first | exact .inl ⟨rfl, rfl⟩ | exact .inr ⟨⟨_, _, rfl⟩, rfl⟩)) ?_
      refine WG.nil ?_
      refine WE.nxt ?_
      refine W.cond rfl (fun hc2 => ?_) (fun hc2 => ?_)
      · try simp only [decide_eq_true_eq, decide_eq_false_iff_not, beq_iff_eq, bne_iff_ne, beq_eq_false_iff_ne, bne_eq_false_iff_eq, ne_eq, Bool.or_eq_true, Bool.or_eq_false_iff, Bool.and_eq_true, Bool.and_eq_false_imp, Bool.not_eq_true, Bool.not_eq_true', Bool.not_eq_false', Classical.not_not, Int.not_lt, Int.not_le, gt_iff_lt, ge_iff_le] at hc2
        first | done | exact absurd hc2 (by decide) | simp at hc2
      · try simp only [decide_eq_true_eq, decide_eq_false_iff_not, beq_iff_eq, bne_iff_ne, beq_eq_false_iff_ne, bne_eq_false_iff_eq, ne_eq, Bool.or_eq_true, Bool.or_eq_false_iff, Bool.and_eq_true, Bool.and_eq_false_imp, Bool.not_eq_true, Bool.not_eq_true', Bool.not_eq_false', Classical.not_not, Int.not_lt, Int.not_le, gt_iff_lt, ge_iff_le] at hc2
        refine W.skip ?_
        refine WE.nxt ?_
        refine W.seq ?_
        refine W.seq ?_
        refine W.region _ ?_
        refine' WG.y rfl rfl (by decide) (Yl.load1 tab_ok rfl rfl rfl (fun _ => rfl) ?r1 rfl ?h1) ?_
        case r1 => (first | exact Rd.blk 0 rfl | exact Rd.blk 1 rfl | exact Rd.blk 2 rfl | exact Rd.blk 3 rfl | exact Rd.blk 4 rfl)
        case h1 => rfl
        refine WG.callV (v := .bool false) en35 rfl rfl (by decide) (CallOp.mk' rfl rfl rfl rfl) (fun _ => rfl) (fun hg => by
          have h := Valid01_V (R := R) (x := (4, 2)) ⟨by constructor <;> decide, by constructor <;> decide⟩
          rw [show validF (4, 2) = false from by kernel_rfl] at h
          exact h) ?_
        refine WG.run tab_ok 2 rfl ?_
        refine' WG.y rfl rfl (by decide) (Yl.loadG tab_ok rfl rfl rfl (by first | exact fun _ => rfl | exact fun h => h | (intro h; simp_all)) ?r2 rfl ?h2 ?g2) ?_
        case r2 => (first | exact Rd.blkC 0 rfl | exact Rd.blkC 1 rfl | exact Rd.blkC 2 rfl | exact Rd.blkC 3 rfl | exact Rd.blkC 4 rfl)
        case h2 => rfl
        case g2 => first | exact fun _ => trivial | (intro hg; (try simp only [decide_eq_true_eq, decide_eq_false_iff_not, beq_iff_eq, bne_iff_ne, beq_eq_false_iff_ne, bne_eq_false_iff_eq, ne_eq, Bool.or_eq_true, Bool.or_eq_false_iff, Bool.and_eq_true, Bool.and_eq_false_imp, Bool.not_eq_true, Bool.not_eq_true', Bool.not_eq_false', Classical.not_not, Int.not_lt, Int.not_le, gt_iff_lt, ge_iff_le] at hg); (try dsimp only); omega)
        refine WG.callV (v := .string (str [])) en34 rfl rfl (by decide) (CallOp.mk' rfl rfl rfl rfl) (by first | exact fun _ => rfl | exact fun h => h | (intro h; simp_all)) (fun hg => absurd hg (by decide)) ?_
        refine WG.y rfl rfl (by decide) (pureV_ok tab_ok rfl (by first | exact fun _ => rfl | exact fun h => h | (intro h; simp_all))) ?_
        refine WG.y rfl rfl (by decide) (Yl.neS rfl rfl rfl (by first | exact fun _ => rfl | exact fun h => h | (intro h; simp_all))) ?_
        refine WG.y rfl rfl (by decide) (Yl.por rfl rfl rfl (fun _ => rfl) (by intro h1 h2; simp_all <;> omega)) ?_
        refine WG.nil ?_
        refine WE.nxt ?_
        refine W.cond rfl (fun hc3 => ?_) (fun hc3 => ?_)
        · try simp only [decide_eq_true_eq, decide_eq_false_iff_not, beq_iff_eq, bne_iff_ne, beq_eq_false_iff_ne, bne_eq_false_iff_eq, ne_eq, Bool.or_eq_true, Bool.or_eq_false_iff, Bool.and_eq_true, Bool.and_eq_false_imp, Bool.not_eq_true, Bool.not_eq_true', Bool.not_eq_false', Classical.not_not, Int.not_lt, Int.not_le, gt_iff_lt, ge_iff_le] at hc3
          refine W.seq ?_
          refine W.region _ ?_
          -- build
          refine WG.y rfl rfl (by decide) (Yl.build (parts := []) tab_ok rfl rfl rfl rfl (fun _ => rfl) rfl rfl) ?_
          first | refine WL.efN rfl rfl (Ef.store0 0 tab_ok rfl rfl rfl rfl rfl rfl rfl rfl ?_) | refine WL.efN rfl rfl (Ef.store0 1 tab_ok rfl rfl rfl rfl rfl rfl rfl rfl ?_) | refine WL.efN rfl rfl (Ef.store0 2 tab_ok rfl rfl rfl rfl rfl rfl rfl rfl ?_) | refine WL.efN rfl rfl (Ef.store0 3 tab_ok rfl rfl rfl rfl rfl rfl rfl rfl ?_) | refine WL.efN rfl rfl (Ef.store0 4 tab_ok rfl rfl rfl rfl rfl rfl rfl rfl ?_)
          refine WG.run tab_ok 1 rfl ?_
          refine WG.nil ?_
          refine WE.nxt ?_
          refine W.ret ?_
          refine WE.then_ret ?_
          refine WE.retF tab_ok [_, _] rfl ⟨⟨_, _, _, rfl, rfl, rfl, ((by first | exact Rd.blk 0 rfl | exact Rd.blk 1 rfl | exact Rd.blk 2 rfl | exact Rd.blk 3 rfl | exact Rd.blk 4 rfl)), rfl⟩, rfl, trivial⟩ (RLe.refl _) ?_
          exact ⟨rfl, (by (repeat (first | exact List.Sublist.refl _ | exact List.nil_sublist _ | apply List.Sublist.cons_cons | apply List.Sublist.cons)); done)⟩
        · try simp only [decide_eq_true_eq, decide_eq_false_iff_not, beq_iff_eq, bne_iff_ne, beq_eq_false_iff_ne, bne_eq_false_iff_eq, ne_eq, Bool.or_eq_true, Bool.or_eq_false_iff, Bool.and_eq_true, Bool.and_eq_false_imp, Bool.not_eq_true, Bool.not_eq_true', Bool.not_eq_false', Classical.not_not, Int.not_lt, Int.not_le, gt_iff_lt, ge_iff_le] at hc3
          simp at hc3
    · try simp only [decide_eq_true_eq, decide_eq_false_iff_not, beq_iff_eq, bne_iff_ne, beq_eq_false_iff_ne, bne_eq_false_iff_eq, ne_eq, Bool.or_eq_true, Bool.or_eq_false_iff, Bool.and_eq_true, Bool.and_eq_false_imp, Bool.not_eq_true, Bool.not_eq_true', Bool.not_eq_false', Classical.not_not, Int.not_lt, Int.not_le, gt_iff_lt, ge_iff_le] at hc1
      first | done | exact absurd hc1 (by decide) | simp at hc1

theorem Awake01_C {R : Ro} (hG : Glob R) (w0 : World) (E : List Ent) : K.Fn Tryd.prog 31 [] w0 R E (fun v R' E' => v = .bool true ∧ E.Sublist E') := by
  refine Fn.enter (n := 39) Tryd.func31 rfl rfl (Nat.le_of_ble_eq_true rfl) rfl ?_
  refine W.seq ?_
  refine W.region _ ?_
  refine WG.run tab_ok 1 rfl ?_
  refine WG.nil ?_
  refine WE.nxt ?_
  refine W.seq ?_
  refine W.region _ ?_
  refine WG.callV (v := .tuple #[.agg #[.int .i64 (-3), .int .i64 2], .int .i64 0]) en36 rfl rfl (by decide) (CallOp.mk' rfl rfl rfl rfl) (fun _ => rfl) (fun hg => by
    have h := New01_V (R := R) (a := 6) (b := -4) (by constructor <;> decide) (by constructor <;> decide)
    rw [show newF 6 (-4) = ((-3, 2), 0) from by kernel_rfl] at h
    exact h) ?_
  refine WG.run tab_ok 3 rfl ?_
  refine WL.ef rfl rfl (by decide) (Ef.alloc tab_ok rfl rfl (fun b1 => ?_))
  first | refine WL.efN rfl rfl (Ef.store0 0 tab_ok rfl rfl rfl rfl rfl rfl rfl rfl ?_) | refine WL.efN rfl rfl (Ef.store0 1 tab_ok rfl rfl rfl rfl rfl rfl rfl rfl ?_) | refine WL.efN rfl rfl (Ef.store0 2 tab_ok rfl rfl rfl rfl rfl rfl rfl rfl ?_) | refine WL.efN rfl rfl (Ef.store0 3 tab_ok rfl rfl rfl rfl rfl rfl rfl rfl ?_)
  refine WG.run tab_ok 1 rfl ?_
  refine WG.nil ?_
  refine WE.nxt ?_
  refine W.seq ?_
  refine W.region _ ?_
  refine WG.callV en33 rfl rfl (by decide) (CallOp.mk' rfl rfl rfl rfl) (fun _ => rfl) (fun hg => Parse42_V hG) ?_
  refine WG.run tab_ok 3 rfl ?_
  refine WL.ef rfl rfl (by decide) (Ef.alloc tab_ok rfl rfl (fun b3 => ?_))
  first | refine WL.efN rfl rfl (Ef.store0 0 tab_ok rfl rfl rfl rfl rfl rfl rfl rfl ?_) | refine WL.efN rfl rfl (Ef.store0 1 tab_ok rfl rfl rfl rfl rfl rfl rfl rfl ?_) | refine WL.efN rfl rfl (Ef.store0 2 tab_ok rfl rfl rfl rfl rfl rfl rfl rfl ?_) | refine WL.efN rfl rfl (Ef.store0 3 tab_ok rfl rfl rfl rfl rfl rfl rfl rfl ?_)
  refine WG.run tab_ok 1 rfl ?_
  refine WG.nil ?_
  refine WE.nxt ?_
  refine W.seq ?_
  refine W.region _ ?_
  refine WG.run tab_ok 3 rfl ?_
  refine WL.guardT rfl (by first | rfl | decide | simp) ?_
  refine' WG.y rfl rfl (by decide) (Yl.load1 tab_ok rfl rfl rfl (fun _ => rfl) ?r1 rfl ?h1) ?_
  case r1 => (first | exact Rd.blk 0 rfl | exact Rd.blk 1 rfl | exact Rd.blk 2 rfl | exact Rd.blk 3 rfl)
  case h1 => rfl
  refine WL.guardT rfl (by first | rfl | decide | simp) ?_
  -- build
  refine WG.y rfl rfl (by decide) (Yl.build (parts := [(0, .const (.int .i64 (-3))), (1, .const (.int .i64 2))]) tab_ok rfl rfl rfl rfl (fun _ => rfl) rfl rfl) ?_
  refine WL.guardT rfl (by first | rfl | decide | simp) ?_
  refine WG.y rfl rfl (by decide) (Yl.eqDuo duo51 rfl rfl rfl (fun _ => rfl)) ?_
  refine WG.y rfl rfl (by decide) (Yl.pand rfl rfl rfl (fun _ => rfl) (by intro h1 h2; simp_all <;> omega)) ?_
  refine WG.run tab_ok 1 rfl ?_
  refine WL.guardT rfl (by first | rfl | decide | simp) ?_
  refine' WG.y rfl rfl (by decide) (Yl.load1 tab_ok rfl rfl rfl (fun _ => rfl) ?r2 rfl ?h2) ?_
  case r2 => (first | exact Rd.blk 0 rfl | exact Rd.blk 1 rfl | exact Rd.blk 2 rfl | exact Rd.blk 3 rfl)
  case h2 => rfl
  refine WL.guardT rfl (by first | rfl | decide | simp) ?_
  refine WG.callV (v := .string ⟨#[45, 51, 47, 50]⟩) en34 rfl rfl (by decide) (CallOp.mk' rfl rfl rfl rfl) (fun _ => rfl) (fun hg => by
    have h := Format01_V (R := R) hG (x := (-3, 2)) ⟨by constructor <;> decide, by constructor <;> decide⟩
    rw [show fmtF (-3, 2) = [45, 51, 47, 50] from by rw [fmtF, if_pos (by kernel_rfl), if_neg (by decide)]; simp [Lib.itoa, Lib.decDigits]] at h
    exact h) ?_
  refine WL.guardT rfl (by first | rfl | decide | simp) ?_
  refine WG.y rfl rfl (by decide) (Yl.eqS rfl rfl rfl (fun _ => rfl)) ?_
  refine WG.y rfl rfl (by decide) (Yl.pand rfl rfl rfl (fun _ => rfl) (by intro h1 h2; simp_all <;> omega)) ?_
  refine WG.run tab_ok 1 rfl ?_
  refine WL.guardT rfl (by first | rfl | decide | simp) ?_
  refine' WG.y rfl rfl (by decide) (Yl.load1 tab_ok rfl rfl rfl (fun _ => rfl) ?r3 rfl ?h3) ?_
  case r3 => (first | exact Rd.blk 0 rfl | exact Rd.blk 1 rfl | exact Rd.blk 2 rfl | exact Rd.blk 3 rfl)
  case h3 => rfl
  refine WL.guardT rfl (by first | rfl | decide | simp) ?_
  refine WG.callV (v := .int .i64 (-2)) en37 rfl rfl (by decide) (CallOp.mk' rfl rfl rfl rfl) (fun _ => rfl) (fun hg => by
    have h := Floor01_V (R := R) (x := (-3, 2)) ⟨by constructor <;> decide, by constructor <;> decide⟩
    rw [show floorF (-3, 2) = -2 from by kernel_rfl] at h
    exact h) ?_
  refine WL.guardT rfl (by first | rfl | decide | simp) ?_
  refine WG.y rfl rfl (by decide) (pureV_ok tab_ok rfl (fun _ => rfl)) ?_
  refine WG.y rfl rfl (by decide) (Yl.pand rfl rfl rfl (fun _ => rfl) (by intro h1 h2; simp_all <;> omega)) ?_
  refine WG.run tab_ok 1 rfl ?_
  refine WL.guardT rfl (by first | rfl | decide | simp) ?_
  refine' WG.y rfl rfl (by decide) (Yl.load1 tab_ok rfl rfl rfl (fun _ => rfl) ?r4 rfl ?h4) ?_
  case r4 => (first | exact Rd.blk 0 rfl | exact Rd.blk 1 rfl | exact Rd.blk 2 rfl | exact Rd.blk 3 rfl)
  case h4 => rfl
  refine WL.guardT rfl (by first | rfl | decide | simp) ?_
  refine WG.callV (v := .int .i64 (-1)) en38 rfl rfl (by decide) (CallOp.mk' rfl rfl rfl rfl) (fun _ => rfl) (fun hg => by
    have h := Ceil01_V (R := R) (x := (-3, 2)) ⟨by constructor <;> decide, by constructor <;> decide⟩
    rw [show ceilF (-3, 2) = -1 from by kernel_rfl] at h
    exact h) ?_
  refine WL.guardT rfl (by first | rfl | decide | simp) ?_
  refine WG.y rfl rfl (by decide) (pureV_ok tab_ok rfl (fun _ => rfl)) ?_
  refine WG.y rfl rfl (by decide) (Yl.pand rfl rfl rfl (fun _ => rfl) (by intro h1 h2; simp_all <;> omega)) ?_
  refine WG.run tab_ok 1 rfl ?_
  refine WL.guardT rfl (by first | rfl | decide | simp) ?_
  refine WG.y rfl rfl (by decide) (pureV_ok tab_ok rfl (fun _ => rfl)) ?_
  refine WL.guardT rfl (by first | rfl | decide | simp) ?_
  refine WG.y rfl rfl (by decide) (pureV_ok tab_ok rfl (fun _ => rfl)) ?_
  refine WG.y rfl rfl (by decide) (Yl.pand rfl rfl rfl (fun _ => rfl) (by intro h1 h2; simp_all <;> omega)) ?_
  refine WG.run tab_ok 1 rfl ?_
  refine WG.nil ?_
  refine WE.nxt ?_
  refine W.ret ?_
  refine WE.retF tab_ok [_] rfl ⟨rfl, trivial⟩ (RLe.refl _) ?_
  exact ⟨by first | rfl | simp, (by (repeat (first | exact List.Sublist.refl _ | exact List.nil_sublist _ | apply List.Sublist.cons_cons | apply List.Sublist.cons)); done)⟩

end Go.Proofs.YtjacpnojnoompaaDoor

/- Fractions: texts are read. No condition. -/
set_option linter.unusedSimpArgs false
set_option linter.unusedVariables false
namespace Go.Proofs.YtjacpnojnoompaaDoor
open Go Go.RowKit Go.Proofs.YtjacpnojnoompaaDoor.K Go.Proofs.YtjacpnojnoompaaDoor.M

structure GlobE (R : Ro) : Prop where
  es : ∃ (t : TypeId) (p : Value), R 1 = some [.iface t p]
  er : ∃ (t : TypeId) (p : Value), R 2 = some [.iface t p]
theorem GlobE.mono {R R' : Ro} (h : GlobE R) (hR : RLe R R') : GlobE R' := ⟨by obtain ⟨t, p, h⟩ := h.es; exact ⟨t, p, hR _ _ h⟩, by obtain ⟨t, p, h⟩ := h.er; exact ⟨t, p, hR _ _ h⟩⟩
theorem AtoiA_C {R : Ro} (hE : GlobE R) {s : List UInt8} (hs : s.length ≤ 4000000000) (w0 : World) (E : List Ent) : K.Fn Tryd.prog 68 [.string (str s)] w0 R E (fun v R' E' => ∃ (n : Int) (t : TypeId) (p : Value), (atBad s = false → Lib.atoiAll s = .ok n ∧ n = atNum s) ∧ InR n ∧ v = .tuple #[.int .i64 n, errV (atBad s) t p] ∧ R = R' ∧ E = E') := by
  intro w hm
  have hsz := str_size s
  have hli := str_list s
  obtain ⟨t1, p1, h1⟩ := hE.es
  obtain ⟨t2, p2, h2⟩ := hE.er
  rcases h : Lib.atoiAll s with v | _ | _
  · refine (sh_strconv_Atoi_ok (str s) (by omega) v (by rw [hli]; exact h) w).mono ?_
    obtain ⟨e1, e2⟩ := atBad_ok h
    rintro e w' ⟨rfl, hw⟩
    refine ⟨_, R, E, rfl, RLe.refl _, hm.belowAll ?_, v, 0, .nilIface, fun _ => ⟨rfl, e2.symm⟩, Lib.atoiAll_bounds h, by rw [e1]; rfl, rfl, rfl⟩
    rcases hw with rfl | ⟨t, rfl⟩
    · exact Below.refl _ _
    · exact Lib.bytesWorld_below w _ t
  · refine (sh_strconv_Atoi_syntax (str s) (by omega) (by rw [hli]; exact h) _ w (hm.cell h1) (.inr ⟨_, _, rfl⟩)).mono ?_
    have e1 : atBad s = true := by unfold atBad; rw [h]
    rintro e w' ⟨N, rfl, _, _, hb⟩
    exact ⟨_, R, E, rfl, RLe.refl _, hm.belowAll hb, 0, _, _, fun hh => absurd (e1.symm.trans hh) (by decide), by constructor <;> decide, by rw [e1]; rfl, rfl, rfl⟩
  · refine (sh_strconv_Atoi_range (str s) (by omega) (by rw [hli]; exact h) _ w (hm.cell h2) (.inr ⟨_, _, rfl⟩)).mono ?_
    have e1 : atBad s = true := by unfold atBad; rw [h]
    rintro e w' ⟨N, rfl, _, _, hb⟩
    exact ⟨_, R, E, rfl, RLe.refl _, hm.belowAll hb, Lib.atoiSat (str s).data.toList, _, _, fun hh => absurd (e1.symm.trans hh) (by decide), by unfold Lib.atoiSat; split <;> constructor <;> decide, by rw [e1]; rfl, rfl, rfl⟩
def finF (s : List UInt8) (x : Fr) : Fr × Int := if validF x = true ∧ fmtF x = s then (x, 0) else ((0, 0), 4)
def parseF (s : List UInt8) : Fr × Int :=
  if atBad (cutS s).1 = true then ((0, 0), 4)
  else if (cutS s).2.2 = true then (if atBad (cutS s).2.1 = true then ((0, 0), 4) else finF s (atNum (cutS s).1, atNum (cutS s).2.1))
  else finF s (atNum (cutS s).1, 1)
/-- what is written is read back -/
theorem parse_fmt {x : Fr} (h : validF x = true) : parseF (fmtF x) = (x, 0) := by
  obtain ⟨h1, h2, h3, h4, _⟩ := validF_iff.1 h
  have hf : finF (fmtF x) x = (x, 0) := if_pos ⟨h, rfl⟩
  have a1 : ∀ n : Int, -1073741824 ≤ n ∧ n ≤ 1073741824 → atBad (Lib.itoa n) = false ∧ atNum (Lib.itoa n) = n := fun n hn => by
    have := itoa_len hn
    exact atBad_ok (atoiAll_itoa (by omega) (by omega))
  have b1 := a1 x.1 ⟨h3, h4⟩
  have b2 := a1 x.2 ⟨by omega, h2⟩
  have e : fmtF x = Lib.itoa x.1 ++ (if x.2 = 1 then [] else 47 :: Lib.itoa x.2) := if_pos h
  generalize fmtF x = s at e hf ⊢
  unfold parseF
  by_cases h5 : x.2 = 1
  · rw [if_pos h5, List.append_nil] at e
    subst e
    rw [cutS_none (itoa_mem _)]
    dsimp only
    rw [if_neg (by rw [b1.1]; decide), if_neg (by decide), b1.2, show (x.1, (1 : Int)) = x from Prod.ext rfl h5.symm]
    exact hf
  · rw [if_neg h5] at e
    subst e
    rw [cutS_at (itoa_mem _)]
    dsimp only
    rw [if_neg (by rw [b1.1]; decide), if_pos rfl, if_neg (by rw [b2.1]; decide), b1.2, b2.2]
    exact hf
theorem Parse01_V {R : Ro} (hG : Glob R) (hE : GlobE R) {s : List UInt8} (hs : s.length ≤ 4000000000) : FnV Tryd.prog 33 [.string (str s)] R (frV (parseF s)) := by
  refine Fn.toVS (fun w0 E => ?_)
  have hcl := cutS_le s
  refine Fn.enter (n := 48) Tryd.func33 rfl rfl (Nat.le_of_ble_eq_true rfl) rfl ?_
  refine W.seq ?_
  refine W.region _ ?_
  refine WL.ef rfl rfl (by decide) (Ef.alloc tab_ok rfl rfl (fun b2 => ?_))
  refine WG.run tab_ok 1 rfl ?_
  refine WG.nil ?_
  refine WE.nxt ?_
  refine W.seq ?_
  refine W.region _ ?_
  refine WG.run tab_ok 1 rfl ?_
  refine WG.callV (v := .tuple #[.string (str (cutS s).1), .string (str (cutS s).2.1), .bool (cutS s).2.2]) en57 rfl rfl (by decide) (CallOp.mk' rfl rfl rfl rfl) (fun _ => rfl) (fun hg => by
    have h := Cut_V (R := R) hG (s := str s) (sep := str [47]) (by rw [str_size]; omega)
    rw [str_list, str_list] at h
    exact h) ?_
  refine WG.run tab_ok 7 rfl ?_
  refine WG.nil ?_
  refine WE.nxt ?_
  refine W.seq ?_
  refine W.region _ ?_
  -- build
  refine WG.y rfl rfl (by decide) (Yl.build (parts := [(1, .const (.int .i64 1))]) tab_ok rfl rfl rfl rfl (fun _ => rfl) rfl rfl) ?_
  refine WL.ef rfl rfl (by decide) (Ef.alloc tab_ok rfl rfl (fun b7 => ?_))
  first | refine WL.efN rfl rfl (Ef.store0 0 tab_ok rfl rfl rfl rfl rfl rfl rfl rfl ?_) | refine WL.efN rfl rfl (Ef.store0 1 tab_ok rfl rfl rfl rfl rfl rfl rfl rfl ?_) | refine WL.efN rfl rfl (Ef.store0 2 tab_ok rfl rfl rfl rfl rfl rfl rfl rfl ?_) | refine WL.efN rfl rfl (Ef.store0 3 tab_ok rfl rfl rfl rfl rfl rfl rfl rfl ?_) | refine WL.efN rfl rfl (Ef.store0 4 tab_ok rfl rfl rfl rfl rfl rfl rfl rfl ?_)
  refine WG.nil ?_
  refine WE.nxt ?_
  refine W.seq ?_
  refine W.region _ ?_
  refine WG.run tab_ok 1 rfl ?_
  refine WL.call en68 rfl rfl (by decide) (CallOp.mkT rfl rfl rfl rfl) (AtoiA_C hE (s := (cutS s).1) (by omega) w0 _) ?_
  rintro _ _ _ - ⟨n1, t1, p1, hn1, hr1, rfl, rfl, rfl⟩
  refine WG.run tab_ok 5 rfl ?_
  refine WG.nil ?_
  refine WE.nxt ?_
  refine W.seq ?_
  refine W.seq ?_
  refine W.region _ ?_
  refine WG.run tab_ok 1 rfl ?_
  refine WG.y rfl rfl (by decide) (Yl.neNilI nilI82 rfl rfl rfl (fun _ => rfl) (errV_cases _ _ _)) ?_
  refine WG.nil ?_
  refine WE.nxt ?_
  refine W.cond rfl (fun hc0 => ?_) (fun hc0 => ?_)
  · try simp only [decide_eq_true_eq, decide_eq_false_iff_not, beq_iff_eq, bne_iff_ne, beq_eq_false_iff_ne, bne_eq_false_iff_eq, ne_eq, Bool.or_eq_true, Bool.or_eq_false_iff, Bool.and_eq_true, Bool.and_eq_false_imp, Bool.not_eq_true, Bool.not_eq_true', Bool.not_eq_false', Classical.not_not, Int.not_lt, Int.not_le, gt_iff_lt, ge_iff_le] at hc0
    refine W.seq ?_
    refine W.region _ ?_
    -- build
    refine WG.y rfl rfl (by decide) (Yl.build (parts := []) tab_ok rfl rfl rfl rfl (fun _ => rfl) rfl rfl) ?_
    first | refine WL.efN rfl rfl (Ef.store0 0 tab_ok rfl rfl rfl rfl rfl rfl rfl rfl ?_) | refine WL.efN rfl rfl (Ef.store0 1 tab_ok rfl rfl rfl rfl rfl rfl rfl rfl ?_) | refine WL.efN rfl rfl (Ef.store0 2 tab_ok rfl rfl rfl rfl rfl rfl rfl rfl ?_) | refine WL.efN rfl rfl (Ef.store0 3 tab_ok rfl rfl rfl rfl rfl rfl rfl rfl ?_) | refine WL.efN rfl rfl (Ef.store0 4 tab_ok rfl rfl rfl rfl rfl rfl rfl rfl ?_)
    refine WG.run tab_ok 1 rfl ?_
    refine WG.nil ?_
    refine WE.nxt ?_
    refine W.ret ?_
    refine WE.then_ret ?_
    refine WE.retF tab_ok [_, _] rfl ⟨⟨_, _, _, rfl, rfl, rfl, ((by first | exact Rd.blk 0 rfl | exact Rd.blk 1 rfl | exact Rd.blk 2 rfl | exact Rd.blk 3 rfl | exact Rd.blk 4 rfl)), rfl⟩, rfl, trivial⟩ (RLe.refl _) ?_
    exact ⟨by unfold parseF; rw [if_pos hc0]; rfl, (by (repeat (first | exact List.Sublist.refl _ | exact List.nil_sublist _ | apply List.Sublist.cons_cons | apply List.Sublist.cons)); done)⟩
  · try simp only [decide_eq_true_eq, decide_eq_false_iff_not, beq_iff_eq, bne_iff_ne, beq_eq_false_iff_ne, bne_eq_false_iff_eq, ne_eq, Bool.or_eq_true, Bool.or_eq_false_iff, Bool.and_eq_true, Bool.and_eq_false_imp, Bool.not_eq_true, Bool.not_eq_true', Bool.not_eq_false', Classical.not_not, Int.not_lt, Int.not_le, gt_iff_lt, ge_iff_le] at hc0
    obtain ⟨hk1, hm1⟩ := hn1 hc0
    refine W.skip ?_
    refine WE.nxt ?_
    refine W.seq ?_
    refine W.region _ ?_
    refine WG.run tab_ok 2 rfl ?_
    first | refine WL.efN rfl rfl (Ef.store 0 tab_ok rfl rfl rfl rfl rfl rfl rfl rfl ?_) | refine WL.efN rfl rfl (Ef.store 1 tab_ok rfl rfl rfl rfl rfl rfl rfl rfl ?_) | refine WL.efN rfl rfl (Ef.store 2 tab_ok rfl rfl rfl rfl rfl rfl rfl rfl ?_) | refine WL.efN rfl rfl (Ef.store 3 tab_ok rfl rfl rfl rfl rfl rfl rfl rfl ?_) | refine WL.efN rfl rfl (Ef.store 4 tab_ok rfl rfl rfl rfl rfl rfl rfl rfl ?_)
    refine WG.nil ?_
    refine WE.nxt ?_
    refine W.seqCut (β := Fr) (fun x => (InR x.1 ∧ InR x.2) ∧ parseF s = finF s x) (fun x => [(0, true, .string (str s)), (2, true, .pointer (some ⟨b2, 0, none⟩)), (7, true, .pointer (some ⟨b7, 0, none⟩))]) (fun _ => R) (fun x => [.blk b7 [.int .i64 x.1, .int .i64 x.2], .blk b2 [.int .i64 0, .int .i64 0]] ++ E) ?_ ?_
    ·
      intro x hst
      obtain ⟨hx, hpx⟩ := hst
      refine W.seq ?_
      refine W.seq ?_
      refine W.region _ ?_
      refine' WG.y rfl rfl (by decide) (Yl.load1 tab_ok rfl rfl rfl (fun _ => rfl) ?r1 rfl ?h1) ?_
      case r1 => (first | exact Rd.blk 0 rfl | exact Rd.blk 1 rfl | exact Rd.blk 2 rfl | exact Rd.blk 3 rfl | exact Rd.blk 4 rfl)
      case h1 => rfl
      refine WG.callV en35 rfl rfl (by decide) (CallOp.mk' rfl rfl rfl rfl) (fun _ => rfl) (fun hg => Valid01_V hx) ?_
      refine WG.run tab_ok 2 rfl ?_
      refine' WG.y rfl rfl (by decide) (Yl.loadG tab_ok rfl rfl rfl (by first | exact fun _ => rfl | exact fun h => h | (intro h; simp_all)) ?r2 rfl ?h2 ?g2) ?_
      case r2 => (first | exact Rd.blkC 0 rfl | exact Rd.blkC 1 rfl | exact Rd.blkC 2 rfl | exact Rd.blkC 3 rfl | exact Rd.blkC 4 rfl)
      case h2 => rfl
      case g2 => first | exact fun _ => trivial | (intro hg; (try simp only [decide_eq_true_eq, decide_eq_false_iff_not, beq_iff_eq, bne_iff_ne, beq_eq_false_iff_ne, bne_eq_false_iff_eq, ne_eq, Bool.or_eq_true, Bool.or_eq_false_iff, Bool.and_eq_true, Bool.and_eq_false_imp, Bool.not_eq_true, Bool.not_eq_true', Bool.not_eq_false', Classical.not_not, Int.not_lt, Int.not_le, gt_iff_lt, ge_iff_le] at hg); (try dsimp only); omega)
      refine WG.callV en34 rfl rfl (by decide) (CallOp.mk' rfl rfl rfl rfl) (by first | exact fun _ => rfl | exact fun h => h | (intro h; simp_all)) (fun hg => Format01_V hG hx) ?_
      refine WG.y rfl rfl (by decide) (pureV_ok tab_ok rfl (by first | exact fun _ => rfl | exact fun h => h | (intro h; simp_all))) ?_
      refine WG.y rfl rfl (by decide) (Yl.neS rfl rfl rfl (by first | exact fun _ => rfl | exact fun h => h | (intro h; simp_all))) ?_
      refine WG.y rfl rfl (by decide) (Yl.por rfl rfl rfl (fun _ => rfl) (by intro h1 h2; simp_all <;> omega)) ?_
      refine WG.nil ?_
      refine WE.nxt ?_
      refine W.cond rfl (fun hc1 => ?_) (fun hc1 => ?_)
      · try simp only [decide_eq_true_eq, decide_eq_false_iff_not, beq_iff_eq, bne_iff_ne, beq_eq_false_iff_ne, bne_eq_false_iff_eq, ne_eq, Bool.or_eq_true, Bool.or_eq_false_iff, Bool.and_eq_true, Bool.and_eq_false_imp, Bool.not_eq_true, Bool.not_eq_true', Bool.not_eq_false', Classical.not_not, Int.not_lt, Int.not_le, gt_iff_lt, ge_iff_le] at hc1
        have hfin : finF s x = ((0, 0), 4) := if_neg (by rintro ⟨h1, h2⟩; rw [h1, h2] at hc1; simp at hc1)
        refine W.seq ?_
        refine W.region _ ?_
        -- build
        refine WG.y rfl rfl (by decide) (Yl.build (parts := []) tab_ok rfl rfl rfl rfl (fun _ => rfl) rfl rfl) ?_
        first | refine WL.efN rfl rfl (Ef.store0 0 tab_ok rfl rfl rfl rfl rfl rfl rfl rfl ?_) | refine WL.efN rfl rfl (Ef.store0 1 tab_ok rfl rfl rfl rfl rfl rfl rfl rfl ?_) | refine WL.efN rfl rfl (Ef.store0 2 tab_ok rfl rfl rfl rfl rfl rfl rfl rfl ?_) | refine WL.efN rfl rfl (Ef.store0 3 tab_ok rfl rfl rfl rfl rfl rfl rfl rfl ?_) | refine WL.efN rfl rfl (Ef.store0 4 tab_ok rfl rfl rfl rfl rfl rfl rfl rfl ?_)
        refine WG.run tab_ok 1 rfl ?_
        refine WG.nil ?_
        refine WE.nxt ?_
        refine W.ret ?_
        refine WE.then_ret ?_
        refine WE.retF tab_ok [_, _] rfl ⟨⟨_, _, _, rfl, rfl, rfl, ((by first | exact Rd.blk 0 rfl | exact Rd.blk 1 rfl | exact Rd.blk 2 rfl | exact Rd.blk 3 rfl | exact Rd.blk 4 rfl)), rfl⟩, rfl, trivial⟩ (RLe.refl _) ?_
        exact ⟨by rw [hpx, hfin]; rfl, (by (repeat (first | exact List.Sublist.refl _ | exact List.nil_sublist _ | apply List.Sublist.cons_cons | apply List.Sublist.cons)); done)⟩
      · try simp only [decide_eq_true_eq, decide_eq_false_iff_not, beq_iff_eq, bne_iff_ne, beq_eq_false_iff_ne, bne_eq_false_iff_eq, ne_eq, Bool.or_eq_true, Bool.or_eq_false_iff, Bool.and_eq_true, Bool.and_eq_false_imp, Bool.not_eq_true, Bool.not_eq_true', Bool.not_eq_false', Classical.not_not, Int.not_lt, Int.not_le, gt_iff_lt, ge_iff_le] at hc1
        have hfin : finF s x = (x, 0) := if_pos (by revert hc1; cases hv : validF x <;> simp; intro h; exact str_inj h)
        refine W.skip ?_
        refine WE.nxt ?_
        refine W.seq ?_
        refine W.region _ ?_
        refine' WG.y rfl rfl (by decide) (Yl.load1 tab_ok rfl rfl rfl (fun _ => rfl) ?r3 rfl ?h3) ?_
        case r3 => (first | exact Rd.blk 0 rfl | exact Rd.blk 1 rfl | exact Rd.blk 2 rfl | exact Rd.blk 3 rfl | exact Rd.blk 4 rfl)
        case h3 => rfl
        first | refine WL.efN rfl rfl (Ef.store0 0 tab_ok rfl rfl rfl rfl rfl rfl rfl rfl ?_) | refine WL.efN rfl rfl (Ef.store0 1 tab_ok rfl rfl rfl rfl rfl rfl rfl rfl ?_) | refine WL.efN rfl rfl (Ef.store0 2 tab_ok rfl rfl rfl rfl rfl rfl rfl rfl ?_) | refine WL.efN rfl rfl (Ef.store0 3 tab_ok rfl rfl rfl rfl rfl rfl rfl rfl ?_) | refine WL.efN rfl rfl (Ef.store0 4 tab_ok rfl rfl rfl rfl rfl rfl rfl rfl ?_)
        refine WG.run tab_ok 1 rfl ?_
        refine WG.nil ?_
        refine WE.nxt ?_
        refine W.ret ?_
        refine WE.retF tab_ok [_, _] rfl ⟨⟨_, _, _, rfl, rfl, rfl, ((by first | exact Rd.blk 0 rfl | exact Rd.blk 1 rfl | exact Rd.blk 2 rfl | exact Rd.blk 3 rfl | exact Rd.blk 4 rfl)), rfl⟩, rfl, trivial⟩ (RLe.refl _) ?_
        exact ⟨by rw [hpx, hfin]; rfl, (by (repeat (first | exact List.Sublist.refl _ | exact List.nil_sublist _ | apply List.Sublist.cons_cons | apply List.Sublist.cons)); done)⟩
    ·
      refine W.seq ?_
      refine W.region _ ?_
      refine WG.run tab_ok 1 rfl ?_
      refine WG.nil ?_
      refine WE.nxt ?_
      refine W.cond rfl (fun hc2 => ?_) (fun hc2 => ?_)
      · try simp only [decide_eq_true_eq, decide_eq_false_iff_not, beq_iff_eq, bne_iff_ne, beq_eq_false_iff_ne, bne_eq_false_iff_eq, ne_eq, Bool.or_eq_true, Bool.or_eq_false_iff, Bool.and_eq_true, Bool.and_eq_false_imp, Bool.not_eq_true, Bool.not_eq_true', Bool.not_eq_false', Classical.not_not, Int.not_lt, Int.not_le, gt_iff_lt, ge_iff_le] at hc2
        refine W.seq ?_
        refine W.region _ ?_
        refine WG.run tab_ok 1 rfl ?_
        refine WL.call en68 rfl rfl (by decide) (CallOp.mkT rfl rfl rfl rfl) (AtoiA_C hE (s := (cutS s).2.1) (by omega) w0 _) ?_
        rintro _ _ _ - ⟨n2, t2, p2, hn2, hr2, rfl, rfl, rfl⟩
        refine WG.run tab_ok 4 rfl ?_
        first | refine WL.efN rfl rfl (Ef.store 0 tab_ok rfl rfl rfl rfl rfl rfl rfl rfl ?_) | refine WL.efN rfl rfl (Ef.store 1 tab_ok rfl rfl rfl rfl rfl rfl rfl rfl ?_) | refine WL.efN rfl rfl (Ef.store 2 tab_ok rfl rfl rfl rfl rfl rfl rfl rfl ?_) | refine WL.efN rfl rfl (Ef.store 3 tab_ok rfl rfl rfl rfl rfl rfl rfl rfl ?_) | refine WL.efN rfl rfl (Ef.store 4 tab_ok rfl rfl rfl rfl rfl rfl rfl rfl ?_)
        refine WG.run tab_ok 1 rfl ?_
        refine WG.nil ?_
        refine WE.nxt ?_
        refine W.seq ?_
        refine W.region _ ?_
        refine WG.run tab_ok 1 rfl ?_
        refine WG.y rfl rfl (by decide) (Yl.neNilI nilI82 rfl rfl rfl (fun _ => rfl) (errV_cases _ _ _)) ?_
        refine WG.nil ?_
        refine WE.nxt ?_
        refine W.cond rfl (fun hc3 => ?_) (fun hc3 => ?_)
        · try simp only [decide_eq_true_eq, decide_eq_false_iff_not, beq_iff_eq, bne_iff_ne, beq_eq_false_iff_ne, bne_eq_false_iff_eq, ne_eq, Bool.or_eq_true, Bool.or_eq_false_iff, Bool.and_eq_true, Bool.and_eq_false_imp, Bool.not_eq_true, Bool.not_eq_true', Bool.not_eq_false', Classical.not_not, Int.not_lt, Int.not_le, gt_iff_lt, ge_iff_le] at hc3
          refine W.seq ?_
          refine W.region _ ?_
          -- build
          refine WG.y rfl rfl (by decide) (Yl.build (parts := []) tab_ok rfl rfl rfl rfl (fun _ => rfl) rfl rfl) ?_
          first | refine WL.efN rfl rfl (Ef.store0 0 tab_ok rfl rfl rfl rfl rfl rfl rfl rfl ?_) | refine WL.efN rfl rfl (Ef.store0 1 tab_ok rfl rfl rfl rfl rfl rfl rfl rfl ?_) | refine WL.efN rfl rfl (Ef.store0 2 tab_ok rfl rfl rfl rfl rfl rfl rfl rfl ?_) | refine WL.efN rfl rfl (Ef.store0 3 tab_ok rfl rfl rfl rfl rfl rfl rfl rfl ?_) | refine WL.efN rfl rfl (Ef.store0 4 tab_ok rfl rfl rfl rfl rfl rfl rfl rfl ?_)
          refine WG.run tab_ok 1 rfl ?_
          refine WG.nil ?_
          refine WE.nxt ?_
          refine W.ret ?_
          refine WE.then_ret ?_
          refine WE.retF tab_ok [_, _] rfl ⟨⟨_, _, _, rfl, rfl, rfl, ((by first | exact Rd.blk 0 rfl | exact Rd.blk 1 rfl | exact Rd.blk 2 rfl | exact Rd.blk 3 rfl | exact Rd.blk 4 rfl)), rfl⟩, rfl, trivial⟩ (RLe.refl _) ?_
          exact ⟨by unfold parseF; rw [if_neg (by rw [hc0]; decide), if_pos hc2, if_pos hc3]; rfl, (by (repeat (first | exact List.Sublist.refl _ | exact List.nil_sublist _ | apply List.Sublist.cons_cons | apply List.Sublist.cons)); done)⟩
        · try simp only [decide_eq_true_eq, decide_eq_false_iff_not, beq_iff_eq, bne_iff_ne, beq_eq_false_iff_ne, bne_eq_false_iff_eq, ne_eq, Bool.or_eq_true, Bool.or_eq_false_iff, Bool.and_eq_true, Bool.and_eq_false_imp, Bool.not_eq_true, Bool.not_eq_true', Bool.not_eq_false', Classical.not_not, Int.not_lt, Int.not_le, gt_iff_lt, ge_iff_le] at hc3
          obtain ⟨hk2, hm2⟩ := hn2 hc3
          refine W.skip ?_
          refine WE.cut (n1, n2) ⟨⟨hr1, hr2⟩, by unfold parseF; rw [if_neg (by rw [hc0]; decide), if_pos hc2, if_neg (by rw [hc3]; decide), hm1, hm2]⟩ ⟨rfl, rfl, rfl, rfl⟩ (RLe.refl _) (by (repeat (first | exact List.Sublist.refl _ | exact List.nil_sublist _ | apply List.Sublist.cons_cons | apply List.Sublist.cons)); done)
      · try simp only [decide_eq_true_eq, decide_eq_false_iff_not, beq_iff_eq, bne_iff_ne, beq_eq_false_iff_ne, bne_eq_false_iff_eq, ne_eq, Bool.or_eq_true, Bool.or_eq_false_iff, Bool.and_eq_true, Bool.and_eq_false_imp, Bool.not_eq_true, Bool.not_eq_true', Bool.not_eq_false', Classical.not_not, Int.not_lt, Int.not_le, gt_iff_lt, ge_iff_le] at hc2
        refine W.skip ?_
        refine WE.cut (n1, 1) ⟨⟨hr1, by show InR 1; constructor <;> decide⟩, by unfold parseF; rw [if_neg (by rw [hc0]; decide), if_neg (by rw [hc2]; decide), hm1]⟩ ⟨rfl, rfl, rfl, rfl⟩ (RLe.refl _) (by (repeat (first | exact List.Sublist.refl _ | exact List.nil_sublist _ | apply List.Sublist.cons_cons | apply List.Sublist.cons)); done)

end Go.Proofs.YtjacpnojnoompaaDoor
