/- The machine of the lines, plain: what a run does, whatever the choice. No condition. -/
import Derived.Test.YtcfnckccmkjjlaaMod13
namespace Go.Proofs.Ytcfnckccmkjjlaa.M
open Go Go.Proofs.Ytcfnckccmkjjlaa.K

/-- what a scheduler sees -/
structure MS where
  now : Int
  left : Int
  begun : List Bool
  before : Nat
/-- a run in a tick -/
structure RS (σ : Type) where
  cur : Int
  rest : Int
  done : List Int
  sent : List (List Int)
  ms : MS
  sg : σ

section
variable {σ : Type} (ps : List Pkt) (ch : MS → σ → Int × Nat × σ)
/-- a packet is begun, if none is -/
def pickup (s : RS σ) : RS σ :=
  if 0 ≤ s.cur then s else
    let r := ch s.ms s.sg
    if r.1 < 0 then { s with cur := r.1, ms := { s.ms with before := r.2.1 }, sg := r.2.2 }
    else { s with cur := r.1, rest := (nth ps r.1.toNat).size, ms := { s.ms with before := r.2.1, begun := s.ms.begun.set r.1.toNat true }, sg := r.2.2 }
/-- bytes are sent -/
def send (t : Nat) (s : RS σ) : RS σ :=
  let n := if s.ms.left < s.rest then s.ms.left else s.rest
  let f := (nth ps s.cur.toNat).flow.toNat
  { s with sent := s.sent.set f ((nth s.sent f).set (t + 1) (nth (nth s.sent f) (t + 1) + n)),
           rest := s.rest - n, ms := { s.ms with left := s.ms.left - n },
           done := if s.rest - n = 0 then s.done.set s.cur.toNat t else s.done,
           cur := if s.rest - n = 0 then -1 else s.cur }
def inner (t : Nat) : Nat → RS σ → RS σ
  | 0, s => s
  | k + 1, s => if s.ms.left ≤ 0 then s else
    let s1 := pickup ps ch s
    if s1.cur < 0 then s1 else inner t k (send ps t s1)
/-- a tick -/
def tick (cap : Int) (t : Nat) (s : RS σ) : RS σ :=
  inner ps ch t cap.toNat { s with ms := { s.ms with now := t, left := cap }, sent := s.sent.map fun l => l ++ [nth l t] }
def ticksFrom (cap : Int) : Nat → Nat → RS σ → RS σ
  | _, 0, s => s
  | t, k + 1, s => ticksFrom cap (t + 1) k (tick ps ch cap t s)
def start (classes : Nat) (sg : σ) : RS σ :=
  { cur := -1, rest := 0, done := List.replicate ps.length (-1), sent := List.replicate classes [0], ms := { now := 0, left := 0, begun := List.replicate ps.length false, before := 0 }, sg := sg }
def mrun (cap : Int) (classes ticks : Nat) (sg : σ) : RS σ := ticksFrom ps ch cap 0 ticks (start ps classes sg)
end

theorem ticksFrom_snoc {σ : Type} (ps : List Pkt) (ch : MS → σ → Int × Nat × σ) (cap : Int) : ∀ (k t : Nat) (s : RS σ), ticksFrom ps ch cap t (k + 1) s = tick ps ch cap (t + k) (ticksFrom ps ch cap t k s)
  | 0, t, s => rfl
  | k + 1, t, s => by
    have := ticksFrom_snoc ps ch cap k (t + 1) (tick ps ch cap t s)
    rw [show t + 1 + k = t + (k + 1) by omega] at this
    rw [ticksFrom, this]; rfl

/-! ### what stays true in a run -/
/-- what a choice must keep -/
structure Good {σ : Type} (ps : List Pkt) (ch : MS → σ → Int × Nat × σ) (good : MS → σ → Prop) : Prop where
  free : ∀ ms sg n l, good ms sg → good { ms with now := n, left := l } sg
  idx : ∀ ms sg, good ms sg → ms.begun.length = ps.length → 0 ≤ (ch ms sg).1 → (ch ms sg).1 < ps.length
  some : ∀ ms sg, good ms sg → ms.begun.length = ps.length → 0 ≤ (ch ms sg).1 → good { ms with before := (ch ms sg).2.1, begun := ms.begun.set (ch ms sg).1.toNat true } (ch ms sg).2.2
  none : ∀ ms sg, good ms sg → ms.begun.length = ps.length → (ch ms sg).1 < 0 → good { ms with before := (ch ms sg).2.1 } (ch ms sg).2.2

/-- packets that a machine can take -/
structure Fit (ps : List Pkt) (classes : Nat) : Prop where
  len : ps.length ≤ 1000
  each : ∀ p ∈ ps, 0 ≤ p.flow ∧ p.flow < classes ∧ 1 ≤ p.size ∧ p.size ≤ 1000000
theorem Fit.at {ps : List Pkt} {classes : Nat} (h : Fit ps classes) {i : Nat} (hi : i < ps.length) : 0 ≤ (nth ps i).flow ∧ (nth ps i).flow < classes ∧ 1 ≤ (nth ps i).size ∧ (nth ps i).size ≤ 1000000 := h.each _ (nth_mem hi)

/-- len: how long the lists of sums are; B: what a sum is at most -/
structure Inv {σ : Type} (ps : List Pkt) (classes : Nat) (good : MS → σ → Prop) (len : Nat) (B : Int) (s : RS σ) : Prop where
  done : s.done.length = ps.length
  begun : s.ms.begun.length = ps.length
  sent : s.sent.length = classes
  rows : ∀ l ∈ s.sent, l.length = len ∧ ∀ x ∈ l, 0 ≤ x ∧ x ≤ B
  cur : 0 ≤ s.cur → s.cur < ps.length ∧ 1 ≤ s.rest ∧ s.rest ≤ 1000000
  good : good s.ms s.sg
section
variable {σ : Type} {ps : List Pkt} {ch : MS → σ → Int × Nat × σ} {good : MS → σ → Prop} {classes len : Nat} {B : Int} {s : RS σ}
theorem Inv.row (h : Inv ps classes good len B s) {i : Nat} (hi : i < classes) : (nth s.sent i).length = len ∧ ∀ x ∈ nth s.sent i, 0 ≤ x ∧ x ≤ B :=
  h.rows _ (nth_mem (by rw [h.sent]; exact hi))
theorem Inv.pickup (hg : Good ps ch good) (hf : Fit ps classes) (h : Inv ps classes good len B s) : Inv ps classes good len B (pickup ps ch s) := by
  unfold M.pickup
  by_cases hc : 0 ≤ s.cur
  · rw [if_pos hc]; exact h
  · rw [if_neg hc]
    by_cases hr : (ch s.ms s.sg).1 < 0
    · simp only [hr, if_true]
      exact ⟨h.done, h.begun, h.sent, h.rows, fun h0 => by simp only at h0; omega, hg.none _ _ h.good h.begun hr⟩
    · simp only [hr, if_false]
      have hi := hg.idx _ _ h.good h.begun (by omega)
      have hat := hf.at (i := (ch s.ms s.sg).1.toNat) (by omega)
      exact ⟨h.done, by simp [h.begun], h.sent, h.rows, fun h0 => ⟨hi, by simp only; omega, by simp only; omega⟩, hg.some _ _ h.good h.begun (by omega)⟩
theorem nth_set_ne {α : Type} [Inhabited α] {xs : List α} {i j : Nat} {x : α} (h : i ≠ j) : nth (xs.set i x) j = nth xs j := by simp [nth, List.getD, List.getElem?_set_ne h]
theorem nth_set_self {α : Type} [Inhabited α] {xs : List α} {i : Nat} {x : α} (h : i < xs.length) : nth (xs.set i x) i = x := by simp [nth, List.getD, List.getElem?_set_self h]
theorem Inv.send (hf : Fit ps classes) (h : Inv ps classes good len B s) (hfree : ∀ ms sg n l, good ms sg → good { ms with now := n, left := l } sg) {t : Nat} (ht : t + 1 < len) (hc : 0 ≤ s.cur) (hl : 0 < s.ms.left) :
    Inv ps classes good len (B + (s.ms.left - (send ps t s).ms.left)) (send ps t s) ∧ 0 ≤ (send ps t s).ms.left ∧ (send ps t s).ms.left < s.ms.left := by
  obtain ⟨c1, c2, c3⟩ := h.cur hc
  have hat := hf.at (i := s.cur.toNat) (by omega)
  have hrow := h.row (i := (nth ps s.cur.toNat).flow.toNat) (by omega)
  have hcell : 0 ≤ nth (nth s.sent (nth ps s.cur.toNat).flow.toNat) (t + 1) ∧ nth (nth s.sent (nth ps s.cur.toNat).flow.toNat) (t + 1) ≤ B := hrow.2 _ (nth_mem (by rw [hrow.1]; exact ht))
  have hn : 1 ≤ (if s.ms.left < s.rest then s.ms.left else s.rest) ∧ (if s.ms.left < s.rest then s.ms.left else s.rest) ≤ s.rest ∧ (if s.ms.left < s.rest then s.ms.left else s.rest) ≤ s.ms.left := by split <;> omega
  unfold M.send
  generalize (if s.ms.left < s.rest then s.ms.left else s.rest) = n at hn ⊢
  dsimp only
  refine ⟨⟨?_, h.begun, by simp [h.sent], ?_, ?_, hfree _ _ s.ms.now _ h.good⟩, by omega, by omega⟩
  · dsimp only; split
    · simp [h.done]
    · exact h.done
  · dsimp only
    intro l hl'
    rcases List.mem_or_eq_of_mem_set hl' with h1 | rfl
    · have := h.rows l h1
      exact ⟨this.1, fun x hx => by have := this.2 x hx; omega⟩
    · refine ⟨by simp [hrow.1], fun x hx => ?_⟩
      rcases List.mem_or_eq_of_mem_set hx with h2 | rfl
      · have := hrow.2 x h2; omega
      · omega
  · dsimp only
    intro h0
    by_cases hz : s.rest - n = 0
    · rw [if_pos hz] at h0; omega
    · rw [if_neg hz]; exact ⟨c1, by omega, by omega⟩
theorem Inv.mono {B' : Int} (h : Inv ps classes good len B s) (hb : B ≤ B') : Inv ps classes good len B' s :=
  ⟨h.done, h.begun, h.sent, fun l hl => ⟨(h.rows l hl).1, fun x hx => by have := (h.rows l hl).2 x hx; omega⟩, h.cur, h.good⟩
theorem Inv.open {cap : Int} {t : Nat} (h : Inv ps classes good (t + 1) B s) (hfree : ∀ ms sg n l, good ms sg → good { ms with now := n, left := l } sg) :
    Inv ps classes good (t + 2) B { s with ms := { s.ms with now := t, left := cap }, sent := s.sent.map fun l => l ++ [nth l t] } := by
  refine ⟨h.done, h.begun, by simp [h.sent], ?_, h.cur, hfree _ _ _ _ h.good⟩
  intro l hl
  obtain ⟨l', h1, rfl⟩ := List.mem_map.1 hl
  have h2 := h.rows l' h1
  refine ⟨by simp [h2.1], fun x hx => ?_⟩
  rcases List.mem_append.1 hx with hx | hx
  · exact h2.2 x hx
  · obtain rfl : x = nth l' t := by simpa using hx
    exact h2.2 _ (nth_mem (by omega))
theorem Inv.start {sg : σ} (hg : good (start ps classes sg).ms sg) : Inv ps classes good 1 0 (start ps classes sg) := by
  refine ⟨by simp [M.start], by simp [M.start], by simp [M.start], ?_, fun h => by simp [M.start] at h, hg⟩
  intro l hl
  obtain rfl : l = [0] := List.eq_of_mem_replicate hl
  exact ⟨rfl, fun x hx => by simp at hx; omega⟩
theorem inner_inv (hg : Good ps ch good) (hf : Fit ps classes) {t : Nat} : ∀ (k : Nat) (s : RS σ) (B : Int), Inv ps classes good (t + 2) B s → s.ms.left ≤ k → 0 ≤ s.ms.left →
    Inv ps classes good (t + 2) (B + s.ms.left) (inner ps ch t k s)
  | 0, s, B, h, hk, h0 => by simp only [inner]; exact h.mono (by omega)
  | k + 1, s, B, h, hk, h0 => by
    simp only [inner]
    split
    · exact h.mono (by omega)
    · have h1 := h.pickup hg hf
      have hleft : (pickup ps ch s).ms.left = s.ms.left := by
        unfold pickup; split
        · rfl
        · simp only; split <;> rfl
      split
      · exact h1.mono (by omega)
      · obtain ⟨h2, h3, h4⟩ := h1.send hf hg.free (t := t) (by omega) (by omega) (by omega)
        have h5 := inner_inv hg hf k _ _ h2 (by omega) h3
        exact h5.mono (by omega)
end

/-- first in, first out -/
def skipTo (l : List Bool) (b : Nat) : Nat := b + ((l.drop b).takeWhile id).length
theorem skipTo_true {l : List Bool} {b : Nat} (h : b < l.length) (hb : nth l b = true) : skipTo l (b + 1) = skipTo l b := by
  unfold skipTo
  rw [drop_nth h, hb]
  simp; omega
theorem skipTo_false {l : List Bool} {b : Nat} (h : b < l.length) (hb : nth l b = false) : skipTo l b = b := by
  unfold skipTo
  rw [drop_nth h, hb]
  simp
theorem skipTo_end {l : List Bool} {b : Nat} (h : l.length ≤ b) : skipTo l b = b := by
  unfold skipTo
  rw [List.drop_eq_nil_of_le h]; simp
theorem skipTo_le {l : List Bool} {b : Nat} (h : b ≤ l.length) : skipTo l b ≤ l.length := by
  unfold skipTo
  have h1 : ((l.drop b).takeWhile id).length ≤ (l.drop b).length := (List.takeWhile_prefix (p := id)).length_le
  simp at h1; omega
def firstR (ps : List Pkt) (ms : MS) : Int :=
  let b := skipTo ms.begun ms.before
  if b < ps.length ∧ (nth ps b).time ≤ ms.now then b else -1
def fifo (ps : List Pkt) (ms : MS) (_ : Unit) : Int × Nat × Unit := (firstR ps ms, skipTo ms.begun ms.before, ())

/-! ### in memory -/
def stE (sb : Nat) (pa : Option Addr) (pl pc : Nat) (bg : Nat) (ms : MS) : Ent :=
  .blk sb [.int .i64 ms.now, .int .i64 ms.left, .slice pa pl pc, .slice (some ⟨bg, 0, none⟩) pl pl, .int .i64 (ms.before : Int)]
def rowE (e : TypeId) (r : Sl) : Ent := .sl e 1 r.a r.cap (r.xs.map encI)
theorem rows_set {e : TypeId} {rows : List Sl} {G : List Ent} {c : Nat} {r : Sl} (hc : c < rows.length) : (rows.map (rowE e) ++ G).set c (rowE e r) = (rows.set c r).map (rowE e) ++ G := by
  rw [List.set_append_left _ _ (by simpa using hc), List.map_set]
theorem rows_get {e : TypeId} {rows : List Sl} {G : List Ent} {c : Nat} (hc : c < rows.length) : (rows.map (rowE e) ++ G)[c]? = some (rowE e (nth rows c)) := by
  rw [List.getElem?_append_left (by simpa using hc), List.getElem?_map, nth_get hc]; rfl
theorem encS_set {rows : List Sl} {c : Nat} {xs' : List Int} (hc : c < rows.length) (hl : xs'.length = (nth rows c).xs.length) : (rows.set c ⟨(nth rows c).a, (nth rows c).cap, xs'⟩).map encS = rows.map encS := by
  rw [List.map_set]
  have h1 : encS ⟨(nth rows c).a, (nth rows c).cap, xs'⟩ = encS (nth rows c) := by unfold encS; simp only [hl]
  rw [h1]
  apply List.ext_getElem?
  intro j
  rw [List.getElem?_set]
  split
  · rename_i hj; subst hj
    rw [List.getElem?_map, nth_get hc]; simp [hc]
  · rfl
theorem nth_map_xs {rows : List Sl} {sent : List (List Int)} (h : rows.map (·.xs) = sent) {c : Nat} (hc : c < rows.length) : (nth rows c).xs = nth sent c := by
  subst h
  rw [nth_eq hc, nth_eq (by simpa using hc)]; simp
theorem nth_ext {α : Type} [Inhabited α] {xs ys : List α} (h : xs.length = ys.length) (hn : ∀ i, i < xs.length → nth xs i = nth ys i) : xs = ys := by
  apply List.ext_getElem h
  intro i h1 h2
  rw [← nth_eq h1, ← nth_eq h2]; exact hn i h1
theorem nth_replicate {α : Type} [Inhabited α] {n i : Nat} {x : α} (h : i < n) : nth (List.replicate n x) i = x := by rw [nth_eq (by simpa using h)]; simp
/-- a row is made longer -/
theorem ext_step {sent : List (List Int)} {c : Nat} (hc : c < sent.length) {f : List Int → List Int} :
    ((sent.take c).map f ++ sent.drop c).set c (f (nth sent c)) = (sent.take (c + 1)).map f ++ sent.drop (c + 1) := by
  rw [List.set_append_right _ _ (by simp; omega)]
  rw [drop_nth hc, take_nth hc]
  simp [Nat.min_eq_left (Nat.le_of_lt hc)]
theorem ext_nth {sent : List (List Int)} {c : Nat} (hc : c < sent.length) {f : List Int → List Int} : nth ((sent.take c).map f ++ sent.drop c) c = nth sent c := by
  unfold nth List.getD
  rw [List.getElem?_append_right (by simp; omega)]
  simp [Nat.min_eq_left (Nat.le_of_lt hc)]
theorem perm_row {e0 e1 e2 e3 : Ent} {L G : List Ent} {x : Ent} : (x :: e0 :: e1 :: e2 :: e3 :: (L ++ G)).Perm (e0 :: e1 :: e2 :: e3 :: (L ++ x :: G)) :=
  (List.perm_middle (l₁ := e0 :: e1 :: e2 :: e3 :: L)).symm
theorem perm_choice {a b c d e f : Ent} {L X F : List Ent} : (a :: b :: c :: d :: e :: f :: (L ++ (X ++ F))).Perm (a :: b :: (X ++ (c :: d :: e :: f :: (L ++ F)))) := by
  refine ((?_ : List.Perm _ _).cons b).cons a
  refine List.Perm.trans (l₂ := (c :: d :: e :: f :: L) ++ X ++ F) (by simp) ?_
  refine List.Perm.trans (List.Perm.append_right F (List.perm_append_comm)) (by simp)
theorem take_set_map {e : TypeId} {rows : List Sl} {G : List Ent} {k : Nat} {r : Sl} (hk : k < rows.length) : (rows.take k).map (rowE e) ++ rowE e r :: G = ((rows.set k r).take (k + 1)).map (rowE e) ++ G := by
  rw [take_nth (by simpa using hk), List.take_set_of_le (Nat.le_refl _)]
  rw [nth_set_self hk]; simp
theorem replicate_of {α : Type} [Inhabited α] {l : List α} {n : Nat} {x : α} (hl : l.length = n) (h : ∀ j, j < n → nth l j = x) : l = List.replicate n x :=
  nth_ext (by simp [hl]) (fun i hi => by rw [h i (by omega), nth_replicate (by omega)])
theorem fill_step {α : Type} [Inhabited α] {l : List α} {k : Nat} {p : α → Prop} {x : α} (hk : k < l.length) (h : ∀ j, j < k → p (nth l j)) (hx : p x) : ∀ j, j < k + 1 → p (nth (l.set k x) j) := by
  intro j hj
  by_cases hjk : k = j
  · subst hjk; rw [nth_set_self hk]; exact hx
  · rw [nth_set_ne hjk]; exact h j (by omega)
theorem all_of_nth {α : Type} [Inhabited α] {l : List α} {p : α → Prop} (h : ∀ j, j < l.length → p (nth l j)) : ∀ r ∈ l, p r := by
  intro r hr
  obtain ⟨i, hi, rfl⟩ := List.getElem_of_mem hr
  have := h i hi
  rwa [nth_eq hi] at this
theorem all_set {α : Type} {l : List α} {k : Nat} {p : α → Prop} {x : α} (h : ∀ r ∈ l, p r) (hx : p x) : ∀ r ∈ l.set k x, p r := by
  intro r hr
  rcases List.mem_or_eq_of_mem_set hr with h1 | rfl
  · exact h r h1
  · exact hx
theorem pickup_same {σ : Type} (ps : List Pkt) (ch : MS → σ → Int × Nat × σ) (s : RS σ) : (pickup ps ch s).ms.left = s.ms.left ∧ (pickup ps ch s).ms.now = s.ms.now ∧ (pickup ps ch s).sent = s.sent ∧ (pickup ps ch s).done = s.done := by
  unfold pickup; split
  · exact ⟨rfl, rfl, rfl, rfl⟩
  · dsimp only; split <;> exact ⟨rfl, rfl, rfl, rfl⟩
theorem inner_stop {σ : Type} {ps : List Pkt} {ch : MS → σ → Int × Nat × σ} {t k : Nat} {s : RS σ} (h : s.ms.left ≤ 0) : inner ps ch t k s = s := by
  cases k with
  | zero => rfl
  | succ k => simp only [inner, if_pos h]
theorem inner_none {σ : Type} {ps : List Pkt} {ch : MS → σ → Int × Nat × σ} {t k : Nat} {s : RS σ} (hk : s.ms.left ≤ (k : Int)) (h : 0 < s.ms.left) (hc : (pickup ps ch s).cur < 0) : inner ps ch t k s = pickup ps ch s := by
  cases k with
  | zero => omega
  | succ k => simp only [inner, if_neg (show ¬ s.ms.left ≤ 0 by omega), if_pos hc]
theorem inner_some {σ : Type} {ps : List Pkt} {ch : MS → σ → Int × Nat × σ} {t k : Nat} {s : RS σ} (hk : s.ms.left ≤ (k : Int)) (h : 0 < s.ms.left) (hc : 0 ≤ (pickup ps ch s).cur) : inner ps ch t k s = inner ps ch t (k - 1) (send ps t (pickup ps ch s)) := by
  cases k with
  | zero => omega
  | succ k => simp only [inner, if_neg (show ¬ s.ms.left ≤ 0 by omega), if_neg (show ¬ (pickup ps ch s).cur < 0 by omega), Nat.add_sub_cancel]
end Go.Proofs.Ytcfnckccmkjjlaa.M
