/- Rules and walks, joined from 21 texts: the first of them says: What comes later changes nothing: the law of a run, plain. No condition. -/
import Derived.Test.YthpblaoehlgpfaaGreatG3
import Derived.WideMake
/- What comes later changes nothing: the law of a run, plain. No condition. -/
namespace Go.Proofs.YthpblaoehlgpfaaGreat.M
open Go Go.Proofs.YthpblaoehlgpfaaGreat.K

/-- the run of all packets beside that of the first m -/
structure Fo (len m : Nat) (s s' : RS Unit) : Prop where
  cur : s.cur = s'.cur
  rest : s.rest = s'.rest
  done : s.done = s'.done ++ List.replicate (len - m) (-1)
  dlen : s'.done.length = m
  sent : s.sent = s'.sent
  begun : s.ms.begun = s'.ms.begun ++ List.replicate (len - m) false
  blen : s'.ms.begun.length = m
  before : s.ms.before = s'.ms.before
  bm : s'.ms.before ≤ m
  now : s.ms.now = s'.ms.now
  left : s.ms.left = s'.ms.left
  lt : 0 ≤ s'.cur → s'.cur.toNat < m
theorem skipTo_append {l : List Bool} {k b : Nat} (h : b ≤ l.length) : skipTo (l ++ List.replicate k false) b = skipTo l b := by
 unfold skipTo
 rw [List.drop_append_of_le_length h]
 congr 1
 generalize l.drop b = r
 induction r with
 | nil => cases k <;> simp [List.replicate_succ]
 | cons x r ih =>
  cases x with
  | true => simp [ih]
  | false => simp
theorem nth_append_l {α : Type} [Inhabited α] {l r : List α} {i : Nat} (h : i < l.length) : nth (l ++ r) i = nth l i := by
 unfold nth List.getD; rw [List.getElem?_append_left h]
theorem nth_take {α : Type} [Inhabited α] {l : List α} {i m : Nat} (h : i < m) : nth (l.take m) i = nth l i := by
 unfold nth List.getD; rw [List.getElem?_take, if_pos h]
section
variable {ps : List Pkt} {m : Nat} {s s' : RS Unit}
theorem firstR_forget (hm : m ≤ ps.length) (h : Fo ps.length m s s') (ht : ∀ i, m ≤ i → i < ps.length → s.ms.now < (nth ps i).time) : firstR ps s.ms = firstR (ps.take m) s'.ms ∧ skipTo s.ms.begun s.ms.before = skipTo s'.ms.begun s'.ms.before := by
 have hs : skipTo s.ms.begun s.ms.before = skipTo s'.ms.begun s'.ms.before := by
  rw [h.begun, h.before, skipTo_append (by rw [h.blen]; exact h.bm)]
 have hle : skipTo s'.ms.begun s'.ms.before ≤ m := by
  have := skipTo_le (l := s'.ms.begun) (b := s'.ms.before) (by rw [h.blen]; exact h.bm)
  rw [h.blen] at this; exact this
 refine ⟨?_, hs⟩
 unfold firstR
 rw [hs, h.now]
 have hl : (ps.take m).length = m := by simp; omega
 rw [hl]
 generalize skipTo s'.ms.begun s'.ms.before = b at hle
 dsimp only
 by_cases hb : b < m
 ·rw [nth_take hb]
  have e : (b < ps.length ∧ (nth ps b).time ≤ s'.ms.now) ↔ (b < m ∧ (nth ps b).time ≤ s'.ms.now) := by constructor <;> (rintro ⟨h1, h2⟩; exact ⟨by omega, h2⟩)
  simp only [e]
 ·rw [if_neg (show ¬ (b < m ∧ _) from fun h => hb h.1), if_neg]
  rintro ⟨h1, h2⟩
  have := ht b (by omega) h1
  rw [h.now] at this; omega
theorem set_append_l {α : Type} {l r : List α} {i : Nat} {x : α} (h : i < l.length) : (l ++ r).set i x = l.set i x ++ r := List.set_append_left _ _ h
theorem Fo.pickup (hm : m ≤ ps.length) (h : Fo ps.length m s s') (ht : ∀ i, m ≤ i → i < ps.length → s.ms.now < (nth ps i).time) : Fo ps.length m (pickup ps (fifo ps) s) (pickup (ps.take m) (fifo (ps.take m)) s') := by
 obtain ⟨h1, h2⟩ := firstR_forget hm h ht
 unfold M.pickup
 rw [h.cur]
 by_cases hc : 0 ≤ s'.cur
 ·rw [if_pos hc, if_pos hc]; exact h
 ·rw [if_neg hc, if_neg hc]
  have hf : fifo ps s.ms s.sg = (firstR (ps.take m) s'.ms, skipTo s'.ms.begun s'.ms.before, ()) := by unfold fifo; rw [h1, h2]
  have hf2 : fifo (ps.take m) s'.ms s'.sg = (firstR (ps.take m) s'.ms, skipTo s'.ms.begun s'.ms.before, ()) := rfl
  rw [hf, hf2]
  dsimp only
  have hlt := firstR_lt (ps.take m) s'.ms
  have hl : (ps.take m).length = m := by simp; omega
  rw [hl] at hlt
  have hle : skipTo s'.ms.begun s'.ms.before ≤ m := by
   have := skipTo_le (l := s'.ms.begun) (b := s'.ms.before) (by rw [h.blen]; exact h.bm)
   rw [h.blen] at this; exact this
  by_cases hr : firstR (ps.take m) s'.ms < 0
  ·rw [if_pos hr, if_pos hr]
   exact ⟨rfl, h.rest, h.done, h.dlen, h.sent, h.begun, h.blen, rfl, hle, h.now, h.left, fun h0 => by dsimp only at h0; omega⟩
  ·rw [if_neg hr, if_neg hr]
   have hi : (firstR (ps.take m) s'.ms).toNat < m := by omega
   exact ⟨rfl, by dsimp only; rw [nth_take hi], h.done, h.dlen, h.sent, by dsimp only; rw [h.begun, set_append_l (by rw [h.blen]; exact hi)], by simp [h.blen], rfl, hle, h.now, h.left, fun _ => hi⟩
theorem Fo.send {t : Nat} (h : Fo ps.length m s s') (hc : 0 ≤ s'.cur) : Fo ps.length m (send ps t s) (send (ps.take m) t s') := by
 have hi := h.lt hc
 unfold M.send
 rw [h.left, h.rest, h.cur, nth_take hi, h.sent, h.done]
 generalize (if s'.ms.left < s'.rest then s'.ms.left else s'.rest) = k
 refine ⟨rfl, rfl, ?_, ?_, rfl, h.begun, h.blen, h.before, h.bm, h.now, rfl, ?_⟩
 ·dsimp only
  split
  ·rw [set_append_l (by rw [h.dlen]; exact hi)]
  ·rfl
 ·dsimp only
  split
  ·simp [h.dlen]
  ·exact h.dlen
 ·dsimp only
  split
  ·intro h0; omega
  ·exact h.lt
theorem Fo.inner (hm : m ≤ ps.length) {t : Nat} (ht : ∀ i, m ≤ i → i < ps.length → (t : Int) < (nth ps i).time) : ∀ (j : Nat) (s s' : RS Unit), Fo ps.length m s s' → s.ms.now = t →
  Fo ps.length m (inner ps (fifo ps) t j s) (inner (ps.take m) (fifo (ps.take m)) t j s')
 | 0, s, s', h, hn => h
 | j + 1, s, s', h, hn => by
  simp only [M.inner]
  rw [h.left]
  by_cases h0 : s'.ms.left ≤ 0
  ·rw [if_pos h0, if_pos h0]; exact h
  ·rw [if_neg h0, if_neg h0]
   have hp := h.pickup hm (by rw [hn]; exact ht)
   rw [hp.cur]
   by_cases hc : (M.pickup (ps.take m) (fifo (ps.take m)) s').cur < 0
   ·rw [if_pos hc, if_pos hc]; exact hp
   ·rw [if_neg hc, if_neg hc]
    exact Fo.inner hm ht j _ _ (hp.send (by omega)) (by unfold M.send; dsimp only; rw [(pickup_same ps (fifo ps) s).2.1]; exact hn)
theorem Fo.ticks (hm : m ≤ ps.length) {c : Int} {n : Nat} (ht : ∀ i, m ≤ i → i < ps.length → (n : Int) ≤ (nth ps i).time) : ∀ (k t : Nat) (s s' : RS Unit), t + k ≤ n → Fo ps.length m s s' →
  Fo ps.length m (ticksFrom ps (fifo ps) c t k s) (ticksFrom (ps.take m) (fifo (ps.take m)) c t k s')
 | 0, t, s, s', _, h => h
 | k + 1, t, s, s', hk, h => by
  have h1 : Fo ps.length m { s with ms := { s.ms with now := t, left := c }, sent := s.sent.map fun l => l ++ [nth l t] } { s' with ms := { s'.ms with now := t, left := c }, sent := s'.sent.map fun l => l ++ [nth l t] } :=
   ⟨h.cur, h.rest, h.done, h.dlen, by dsimp only; rw [h.sent], h.begun, h.blen, h.before, h.bm, rfl, rfl, h.lt⟩
  have h2 := Fo.inner hm (t := t) (fun i h3 h4 => by have := ht i h3 h4; omega) c.toNat _ _ h1 rfl
  exact Fo.ticks hm ht k (t + 1) _ _ (by omega) h2
end
theorem takeWhile_stop : ∀ (l : List Bool), (l.takeWhile id).length < l.length → nth l (l.takeWhile id).length = false
 | [], h => by simp at h
 | false :: l, h => by simp [nth]
 | true :: l, h => by
  simp only [List.takeWhile_cons, id, if_true, List.length_cons] at h ⊢
  have := takeWhile_stop l (by omega)
  simpa [nth, List.getD] using this
theorem skipTo_stop {l : List Bool} {b : Nat} (h : skipTo l b < l.length) : nth l (skipTo l b) = false := by
 unfold skipTo at h ⊢
 have := takeWhile_stop (l.drop b) (by rw [List.length_drop]; omega)
 unfold nth List.getD at this ⊢
 rw [List.getElem?_drop] at this
 exact this
/-- what has not been finished -/
def Fin (len : Nat) (s : RS Unit) : Prop := s.ms.begun.length = len ∧ s.done.length = len ∧ (∀ i, i < len → (s.cur = i ∨ nth s.ms.begun i = false) → nth s.done i = -1) ∧ (0 ≤ s.cur → s.cur.toNat < len ∧ nth s.ms.begun s.cur.toNat = true)
section
variable {ps : List Pkt} {s s0 : RS Unit}
theorem Fin.pickup (h : Fin ps.length s) : Fin ps.length (pickup ps (fifo ps) s) := by
 obtain ⟨h1, h2, h3, h4⟩ := h
 unfold M.pickup
 split
 ·exact ⟨h1, h2, h3, h4⟩
 ·rename_i hc
  have hf : fifo ps s.ms s.sg = (firstR ps s.ms, skipTo s.ms.begun s.ms.before, ()) := rfl
  rw [hf]
  dsimp only
  split
  ·refine ⟨h1, h2, fun i hi ho => h3 i hi ?_, fun h0 => by dsimp only at h0; omega⟩
   rcases ho with ho | ho
   ·dsimp only at ho; omega
   ·exact .inr ho
  ·rename_i hr
   have hlt := (firstR_lt ps s.ms).1
   have hb : nth s.ms.begun (firstR ps s.ms).toNat = false := by
    unfold firstR at hr hlt ⊢
    dsimp only at hr hlt ⊢
    split at hr
    ·rename_i hh
     rw [if_pos hh]
     simp only [Int.toNat_natCast]
     exact skipTo_stop (by rw [h1]; exact hh.1)
    ·omega
   refine ⟨by simp [h1], h2, fun i hi ho => ?_, fun _ => ⟨by dsimp only; omega, by dsimp only; rw [nth_set_self (by omega)]⟩⟩
   dsimp only at ho ⊢
   by_cases e : i = (firstR ps s.ms).toNat
   ·subst e; exact h3 _ hi (.inr hb)
   ·rcases ho with ho | ho
    ·omega
    ·rw [nth_set_ne (fun h => e h.symm)] at ho
     exact h3 i hi (.inr ho)
theorem Fin.send {t : Nat} (h : Fin ps.length s) (hc : 0 ≤ s.cur) : Fin ps.length (send ps t s) := by
 obtain ⟨h1, h2, h3, h4⟩ := h
 unfold M.send
 generalize (if s.ms.left < s.rest then s.ms.left else s.rest) = k
 dsimp only
 split
 ·refine ⟨h1, by simp [h2], fun i hi ho => ?_, fun h0 => by dsimp only at h0; omega⟩
  dsimp only at ho ⊢
  rcases ho with ho | ho
  ·omega
  ·by_cases e : s.cur.toNat = i
   ·have := (h4 hc).2; rw [e] at this; rw [this] at ho; cases ho
   ·rw [nth_set_ne e]; exact h3 i hi (.inr ho)
 ·exact ⟨h1, h2, h3, h4⟩
/-- what lies behind the tick n changes nothing of what was -/
structure Past (n : Nat) (s0 s : RS Unit) : Prop where
  slen : s.sent.length = s0.sent.length
  sent : ∀ k, k < s.sent.length → (nth s.sent k).take (n + 1) = (nth s0.sent k).take (n + 1)
  rlen : ∀ k, k < s.sent.length → n + 1 ≤ (nth s.sent k).length
  dlen : s.done.length = s0.done.length
  kept : ∀ i, 0 ≤ nth s0.done i → nth s.done i = nth s0.done i
  new : ∀ i, nth s0.done i < 0 → nth s.done i < 0 ∨ (n : Int) ≤ nth s.done i
theorem Past.send {n t : Nat} (hn : n ≤ t) (h : Past n s0 s) (hf : Fin ps.length s) (hc : 0 ≤ s.cur) : Past n s0 (send ps t s) := by
 obtain ⟨h1, h2, h3, h4⟩ := hf
 unfold M.send
 generalize (if s.ms.left < s.rest then s.ms.left else s.rest) = k
 generalize (nth ps s.cur.toNat).flow.toNat = f
 refine ⟨by simp [h.slen], fun j hj => ?_, fun j hj => ?_, ?_, ?_, ?_⟩
 ·dsimp only at hj ⊢
  rw [List.length_set] at hj
  by_cases e : f = j
  ·subst e
   rw [nth_set_self hj, List.take_set_of_le (by omega)]
   exact h.sent _ hj
  ·rw [nth_set_ne e]; exact h.sent _ hj
 ·dsimp only at hj ⊢
  rw [List.length_set] at hj
  by_cases e : f = j
  ·subst e
   rw [nth_set_self hj, List.length_set]
   exact h.rlen _ hj
  ·rw [nth_set_ne e]; exact h.rlen _ hj
 ·dsimp only; split <;> simp [h.dlen]
 ·intro i hi
  dsimp only
  split
  ·by_cases e : s.cur.toNat = i
   ·have h5 := h.kept i hi
    have h6 := h3 i (by rw [← e]; exact (h4 hc).1) (.inl (by omega))
    omega
   ·rw [nth_set_ne e]; exact h.kept i hi
  ·exact h.kept i hi
 ·intro i hi
  dsimp only
  split
  ·by_cases e : s.cur.toNat = i
   ·subst e
    rw [nth_set_self (by rw [h2]; exact (h4 hc).1)]
    right; omega
   ·rw [nth_set_ne e]; exact h.new i hi
  ·exact h.new i hi
theorem Past.pickup {n : Nat} (h : Past n s0 s) : Past n s0 (pickup ps (fifo ps) s) := by
 obtain ⟨e1, e2, e3, e4⟩ := pickup_same ps (fifo ps) s
 exact ⟨by rw [e3]; exact h.slen, by rw [e3]; exact h.sent, by rw [e3]; exact h.rlen, by rw [e4]; exact h.dlen, by rw [e4]; exact h.kept, by rw [e4]; exact h.new⟩
theorem Past.inner {n t : Nat} (hn : n ≤ t) : ∀ (j : Nat) (s : RS Unit), Past n s0 s → Fin ps.length s → Past n s0 (inner ps (fifo ps) t j s) ∧ Fin ps.length (inner ps (fifo ps) t j s)
 | 0, s, h, hf => ⟨h, hf⟩
 | j + 1, s, h, hf => by
  simp only [M.inner]
  split
  ·exact ⟨h, hf⟩
  ·split
   ·exact ⟨h.pickup, hf.pickup⟩
   ·rename_i hc
    exact Past.inner hn j _ (h.pickup.send hn hf.pickup (by omega)) (hf.pickup.send (by omega))
theorem Past.ticks {n : Nat} {c : Int} : ∀ (k t : Nat) (s : RS Unit), n ≤ t → Past n s0 s → Fin ps.length s → Past n s0 (ticksFrom ps (fifo ps) c t k s)
 | 0, t, s, hn, h, hf => h
 | k + 1, t, s, hn, h, hf => by
  have h1 : Past n s0 { s with ms := { s.ms with now := t, left := c }, sent := s.sent.map fun l => l ++ [nth l t] } := by
   refine ⟨by simp [h.slen], fun j hj => ?_, fun j hj => ?_, h.dlen, h.kept, h.new⟩
   ·dsimp only at hj ⊢
    rw [List.length_map] at hj
    rw [nth_map_lt _ hj, List.take_append_of_le_length (h.rlen j hj)]
    exact h.sent j hj
   ·dsimp only at hj ⊢
    rw [List.length_map] at hj
    rw [nth_map_lt _ hj, List.length_append]
    have := h.rlen j hj; omega
  obtain ⟨h2, h3⟩ := Past.inner (ps := ps) hn c.toNat _ h1 ⟨hf.1, hf.2.1, hf.2.2.1, hf.2.2.2⟩
  exact Past.ticks k (t + 1) _ (by omega) h2 h3
end
end Go.Proofs.YthpblaoehlgpfaaGreat.M

/- Two machines beside each other: what comes later, what is later, what is scaled, other states; plain. No condition. -/
namespace Go.Proofs.YthpblaoehlgpfaaGreat.M
open Go Go.Proofs.YthpblaoehlgpfaaGreat.K

def mapS (n : Nat) (k : Int) (l : List Int) : List Int := List.replicate n 0 ++ l.map (fun x => x * k)
theorem nth_mulS {l : List Int} {k : Int} {j : Nat} : nth (l.map fun x => x * k) j = nth l j * k := by
 by_cases h : j < l.length
 ·rw [nth_map_lt _ h]
 ·unfold nth List.getD
  rw [List.getElem?_eq_none (by simpa using h), List.getElem?_eq_none (by omega)]
  simp
theorem nth_mapS {n : Nat} {k : Int} {l : List Int} {j : Nat} : nth (mapS n k l) (j + n) = nth l j * k := by
 unfold mapS; rw [nth_rep, nth_mulS]
theorem set_mapS {n : Nat} {k : Int} {l : List Int} {j : Nat} {x : Int} : (mapS n k l).set (j + n) (x * k) = mapS n k (l.set j x) := by
 unfold mapS; rw [set_rep, List.map_set]
/-- the packets of the second machine: the first m, later, scaled -/
structure Pk (n : Nat) (k : Int) (m : Nat) (N : Int) (ps ps' : List Pkt) : Prop where
  hm : m ≤ ps.length
  len : ps'.length = m
  flow : ∀ i, i < m → (nth ps' i).flow = (nth ps i).flow
  size : ∀ i, i < m → (nth ps' i).size = (nth ps i).size * k
  time : ∀ i, i < m → (nth ps' i).time = (nth ps i).time + n
  late : ∀ i, m ≤ i → i < ps.length → N ≤ (nth ps i).time
  pos : ∀ i, i < m → 1 ≤ (nth ps i).size
  hk : 1 ≤ k
/-- what the two schedulers see -/
structure Tv (n : Nat) (k : Int) (m len : Nat) (ms ms' : MS) : Prop where
  begun : ms.begun = ms'.begun ++ List.replicate (len - m) false
  blen : ms'.begun.length = m
  before : ms'.before = ms.before
  bm : ms.before ≤ m
  now : ms'.now = ms.now + n
  left : ms'.left = ms.left * k
/-- the choices are the same -/
def Twin {σ σ' : Type} (n : Nat) (k : Int) (m len : Nat) (N : Int) (Sg : σ → σ' → Prop) (good : MS → σ → Prop) (ch : MS → σ → Int × Nat × σ) (ch' : MS → σ' → Int × Nat × σ') : Prop :=
  ∀ ms ms' sg sg', Tv n k m len ms ms' → 0 ≤ ms.now → ms.now < N → good ms sg → Sg sg sg' →
    (ch' ms' sg').1 = (ch ms sg).1 ∧ -1 ≤ (ch ms sg).1 ∧ (ch ms sg).1 < m ∧ (ch' ms' sg').2.1 = (ch ms sg).2.1 ∧ (ch ms sg).2.1 ≤ m ∧ Sg (ch ms sg).2.2 (ch' ms' sg').2.2
structure Tw {σ σ' : Type} (n : Nat) (k : Int) (m len : Nat) (Sg : σ → σ' → Prop) (good : MS → σ → Prop) (s : RS σ) (s' : RS σ') : Prop where
  cur : s'.cur = s.cur
  rest : s'.rest = s.rest * k
  done : s'.done = (s.done.take m).map (shD n)
  dlen : s.done.length = len
  sent : s'.sent = s.sent.map (mapS n k)
  begun : s.ms.begun = s'.ms.begun ++ List.replicate (len - m) false
  blen : s'.ms.begun.length = m
  before : s'.ms.before = s.ms.before
  bm : s.ms.before ≤ m
  sg : Sg s.sg s'.sg
  good : good s.ms s.sg
  neg : s.cur < 0 → s.cur = -1
  pos : 0 ≤ s.cur → 1 ≤ s.rest ∧ s.cur.toNat < m
structure TwT {σ σ' : Type} (n : Nat) (k : Int) (m len : Nat) (Sg : σ → σ' → Prop) (good : MS → σ → Prop) (s : RS σ) (s' : RS σ') : Prop extends Tw n k m len Sg good s s' where
  now : s'.ms.now = s.ms.now + n
  left : s'.ms.left = s.ms.left * k
section
variable {σ σ' : Type} {n : Nat} {k N : Int} {m : Nat} {ps ps' : List Pkt} {Sg : σ → σ' → Prop} {good : MS → σ → Prop} {ch : MS → σ → Int × Nat × σ} {ch' : MS → σ' → Int × Nat × σ'} {s : RS σ} {s' : RS σ'}
theorem TwT.tv (h : TwT n k m ps.length Sg good s s') : Tv n k m ps.length s.ms s'.ms := ⟨h.begun, h.blen, h.before, h.bm, h.now, h.left⟩
theorem TwT.pickup (hP : Pk n k m N ps ps') (hT : Twin n k m ps.length N Sg good ch ch') (hg : Good ps ch good) (h : TwT n k m ps.length Sg good s s') (h0 : 0 ≤ s.ms.now) (hN : s.ms.now < N) : TwT n k m ps.length Sg good (pickup ps ch s) (pickup ps' ch' s') := by
 have hm := hP.hm
 have hbl : s.ms.begun.length = ps.length := by rw [h.begun, List.length_append, h.blen, List.length_replicate]; omega
 unfold M.pickup
 rw [h.cur]
 by_cases hc : 0 ≤ s.cur
 ·rw [if_pos hc, if_pos hc]; exact h
 ·rw [if_neg hc, if_neg hc]
  obtain ⟨t1, t2, t3, t4, t5, t6⟩ := hT s.ms s'.ms s.sg s'.sg h.tv h0 hN h.good h.sg
  have g1 := hg.some s.ms s.sg h.good hbl
  have g2 := hg.none s.ms s.sg h.good hbl
  dsimp only
  rw [t1, t4]
  by_cases hr : (ch s.ms s.sg).1 < 0
  ·rw [if_pos hr, if_pos hr]
   exact ⟨⟨rfl, h.rest, h.done, h.dlen, h.sent, h.begun, h.blen, rfl, t5, t6, g2 hr, fun _ => by dsimp only; omega, fun h9 => by dsimp only at h9; omega⟩, h.now, h.left⟩
  ·rw [if_neg hr, if_neg hr]
   have hi : (ch s.ms s.sg).1.toNat < m := by omega
   refine ⟨⟨rfl, hP.size _ hi, h.done, h.dlen, h.sent, ?_, ?_, rfl, t5, t6, g1 (by omega), fun h9 => by dsimp only at h9; omega, fun _ => ⟨hP.pos _ hi, hi⟩⟩, h.now, h.left⟩
   ·dsimp only
    rw [h.begun, set_append_l (by rw [h.blen]; exact hi)]
   ·dsimp only
    rw [List.length_set]; exact h.blen
theorem TwT.send (hP : Pk n k m N ps ps') (hg : Good ps ch good) {t : Nat} (h : TwT n k m ps.length Sg good s s') (hc : 0 ≤ s.cur) (hl : 0 < s.ms.left) : TwT n k m ps.length Sg good (send ps t s) (send ps' (t + n) s') ∧ (send ps t s).ms.left < s.ms.left ∧ (send ps t s).ms.now = s.ms.now := by
 have hk := hP.hk
 obtain ⟨h1, h2⟩ := h.pos hc
 have hn : (if s'.ms.left < s'.rest then s'.ms.left else s'.rest) = (if s.ms.left < s.rest then s.ms.left else s.rest) * k := by
  rw [h.left, h.rest]
  by_cases hlt : s.ms.left < s.rest
  ·rw [if_pos hlt, if_pos (Int.mul_lt_mul_of_pos_right hlt (by omega))]
  ·rw [if_neg hlt, if_neg (by have := Int.mul_le_mul_of_nonneg_right (show s.rest ≤ s.ms.left by omega) (show 0 ≤ k by omega); omega)]
 have hn1 : 1 ≤ (if s.ms.left < s.rest then s.ms.left else s.rest) ∧ (if s.ms.left < s.rest then s.ms.left else s.rest) ≤ s.rest := by split <;> omega
 unfold M.send
 rw [hn, h.cur, hP.flow _ h2]
 generalize (if s.ms.left < s.rest then s.ms.left else s.rest) = x at hn1 ⊢
 generalize (nth ps s.cur.toNat).flow.toNat = f
 have hz : s'.rest - x * k = (s.rest - x) * k := by rw [h.rest, Int.sub_mul]
 have hz2 : (s.rest - x) * k = 0 ↔ s.rest - x = 0 := by
  rw [Int.mul_eq_zero]; omega
 have hz3 : s'.ms.left - x * k = (s.ms.left - x) * k := by rw [h.left, Int.sub_mul]
 dsimp only
 rw [hz, hz3]
 simp only [hz2]
 refine ⟨⟨⟨rfl, rfl, ?_, ?_, ?_, h.begun, h.blen, h.before, h.bm, h.sg, hg.free _ _ _ (s.ms.left - x) h.good, ?_, ?_⟩, h.now, rfl⟩, by omega, by trivial⟩
 ·dsimp only
  split
  ·have e : shD n (t : Int) = ((t + n : Nat) : Int) := by unfold shD; rw [if_neg (by omega)]; omega
   rw [h.done, List.take_set, List.map_set, e]
  ·exact h.done
 ·dsimp only
  split
  ·rw [List.length_set]; exact h.dlen
  ·exact h.dlen
 ·dsimp only
  rw [h.sent]
  by_cases hf : f < s.sent.length
  ·rw [nth_map_lt _ hf, List.map_set, show t + n + 1 = (t + 1) + n by omega, nth_mapS, ← Int.add_mul, set_mapS]
  ·rw [List.set_eq_of_length_le (by simpa using hf), List.set_eq_of_length_le (by omega)]
 ·dsimp only
  split
  ·intro _; rfl
  ·exact h.neg
 ·dsimp only
  split
  ·intro h9; omega
  ·intro _; exact ⟨by omega, h2⟩
theorem TwT.inner (hP : Pk n k m N ps ps') (hT : Twin n k m ps.length N Sg good ch ch') (hg : Good ps ch good) {t : Nat} : ∀ (j j' : Nat) (s : RS σ) (s' : RS σ'), TwT n k m ps.length Sg good s s' → 0 ≤ s.ms.now → s.ms.now < N → s.ms.left ≤ j → s'.ms.left ≤ j' →
  TwT n k m ps.length Sg good (inner ps ch t j s) (inner ps' ch' (t + n) j' s')
 | 0, j', s, s', h, h0, hN, hj, hj' => by
  have hk := hP.hk
  have : s'.ms.left ≤ 0 := by rw [h.left]; exact Int.mul_nonpos_of_nonpos_of_nonneg (by omega) (by omega)
  rw [inner_stop (by omega), inner_stop this]
  exact h
 | j + 1, j', s, s', h, h0, hN, hj, hj' => by
  have hk := hP.hk
  by_cases hz : s.ms.left ≤ 0
  ·have : s'.ms.left ≤ 0 := by rw [h.left]; exact Int.mul_nonpos_of_nonpos_of_nonneg (by omega) (by omega)
   rw [inner_stop hz, inner_stop this]
   exact h
  ·have hz' : 0 < s'.ms.left := by rw [h.left]; exact Int.mul_pos (by omega) (by omega)
   have hp := h.pickup hP hT hg h0 hN
   have hps := pickup_same ps ch s
   have hps' := pickup_same ps' ch' s'
   by_cases hc : (M.pickup ps ch s).cur < 0
   ·rw [inner_none hj (by omega) hc, inner_none hj' hz' (by rw [hp.cur]; exact hc)]
    exact hp
   ·rw [inner_some hj (by omega) (by omega), inner_some hj' hz' (by rw [hp.cur]; omega)]
    have hnow : (M.pickup ps ch s).ms.now = s.ms.now := by
     unfold M.pickup
     split
     ·rfl
     ·dsimp only
      split <;> rfl
    obtain ⟨g1, g2, g3⟩ := hp.send hP hg (t := t) (by omega) (by rw [hps.1]; omega)
    have e1 := g1.left
    have e2 : (M.send ps t (M.pickup ps ch s)).ms.left * k ≤ s.ms.left * k - k := by
     have : (M.send ps t (M.pickup ps ch s)).ms.left ≤ s.ms.left - 1 := by rw [hps.1] at g2; omega
     have := Int.mul_le_mul_of_nonneg_right this (show 0 ≤ k by omega)
     rw [Int.sub_mul] at this; omega
    have e3 := h.left
    refine TwT.inner hP hT hg j (j' - 1) _ _ g1 (by rw [g3, hnow]; exact h0) (by rw [g3, hnow]; exact hN) (by rw [hps.1] at g2; omega) (by rw [e1]; omega)
theorem Tw.ticks (hP : Pk n k m N ps ps') (hT : Twin n k m ps.length N Sg good ch ch') (hg : Good ps ch good) {c : Int} (hc : 0 ≤ c) : ∀ (j t : Nat) (s : RS σ) (s' : RS σ'), (t : Int) + j ≤ N → Tw n k m ps.length Sg good s s' →
  Tw n k m ps.length Sg good (ticksFrom ps ch c t j s) (ticksFrom ps' ch' (c * k) (t + n) j s')
 | 0, t, s, s', _, h => h
 | j + 1, t, s, s', hN, h => by
  have hk := hP.hk
  have hck : 0 ≤ c * k := Int.mul_nonneg hc (by omega)
  have h1 : TwT n k m ps.length Sg good { s with ms := { s.ms with now := t, left := c }, sent := s.sent.map fun l => l ++ [nth l t] } { s' with ms := { s'.ms with now := ((t + n : Nat) : Int), left := c * k }, sent := s'.sent.map fun l => l ++ [nth l (t + n)] } := by
   refine ⟨⟨h.cur, h.rest, h.done, h.dlen, ?_, h.begun, h.blen, h.before, h.bm, h.sg, hg.free _ _ _ _ h.good, h.neg, h.pos⟩, by dsimp only; omega, rfl⟩
   dsimp only
   rw [h.sent, List.map_map, List.map_map]
   apply List.map_congr_left
   intro l _
   simp only [Function.comp_apply, nth_mapS]
   unfold mapS
   simp only [List.map_append, List.append_assoc, List.map_cons, List.map_nil]
  have h2 := TwT.inner hP hT hg (t := t) c.toNat (c * k).toNat _ _ h1 (by dsimp only; omega) (by dsimp only; omega) (by dsimp only; omega) (by dsimp only; omega)
  have := Tw.ticks hP hT hg hc j (t + 1) _ _ (by omega) h2.toTw
  rw [show t + 1 + n = t + n + 1 by omega] at this
  exact this
end
end Go.Proofs.YthpblaoehlgpfaaGreat.M

/- The choices of all schedulers beside each other, plain. No condition. -/
namespace Go.Proofs.YthpblaoehlgpfaaGreat.M
open Go Go.Proofs.YthpblaoehlgpfaaGreat.K
section
variable {n : Nat} {k N : Int} {m : Nat} {ps ps' : List Pkt} {ms ms' : MS}
theorem Tv.skip (hP : Pk n k m N ps ps') (h : Tv n k m ps.length ms ms') : skipTo ms'.begun ms'.before = skipTo ms.begun ms.before ∧ skipTo ms.begun ms.before ≤ m := by
 have e : skipTo ms.begun ms.before = skipTo ms'.begun ms'.before := by
  rw [h.begun, h.before, skipTo_append (by rw [h.blen]; exact h.bm)]
 refine ⟨e.symm, ?_⟩
 rw [e]
 have := skipTo_le (l := ms'.begun) (b := ms'.before) (by rw [h.blen, h.before]; exact h.bm)
 rw [h.blen] at this; exact this
theorem Tv.first (hP : Pk n k m N ps ps') (h : Tv n k m ps.length ms ms') (hN : ms.now < N) : firstR ps' ms' = firstR ps ms ∧ -1 ≤ firstR ps ms ∧ firstR ps ms < m := by
 obtain ⟨h1, h2⟩ := h.skip hP
 have hm := hP.hm
 unfold firstR
 dsimp only
 rw [h1, hP.len, h.now]
 generalize skipTo ms.begun ms.before = b at h2
 by_cases hb : b < m
 ·have ht := hP.time b hb
  rw [ht]
  have e : (b < ps.length ∧ (nth ps b).time ≤ ms.now) ↔ (b < m ∧ (nth ps b).time + n ≤ ms.now + n) := by constructor <;> (rintro ⟨a1, a2⟩; exact ⟨by omega, by omega⟩)
  by_cases hA : b < m ∧ (nth ps b).time + n ≤ ms.now + n
  ·rw [if_pos hA, if_pos (e.2 hA)]
   exact ⟨rfl, by omega, by omega⟩
  ·rw [if_neg hA, if_neg (fun hh => hA (e.1 hh))]
   exact ⟨rfl, by omega, by omega⟩
 ·have e1 : ¬ (b < m ∧ (nth ps' b).time ≤ ms.now + n) := fun hh => hb hh.1
  have e2 : ¬ (b < ps.length ∧ (nth ps b).time ≤ ms.now) := fun ⟨a1, a2⟩ => by
   have := hP.late b (by omega) a1
   omega
  rw [if_neg e1, if_neg e2]
  omega
theorem findN_ext {P P' : Nat → Bool} {m len : Nat} (hm : m ≤ len) (h : ∀ i, i < m → P i = P' i) (hl : ∀ i, m ≤ i → i < len → P i = false) : findN P' m = findN P len ∧ -1 ≤ findN P len ∧ (findN P len < m) := by
 unfold findN
 rcases findFrom_cases P len 0 with ⟨i, a1, a2, a3, a4, a5⟩ | ⟨a1, a2⟩
 ·have him : i < m := by
   apply Classical.byContradiction
   intro hh
   rw [hl i (by omega) (by omega)] at a4; cases a4
  rcases findFrom_cases P' m 0 with ⟨j, b1, b2, b3, b4, b5⟩ | ⟨b1, b2⟩
  ·have e : j = i := by
    apply Classical.byContradiction
    intro hne
    rcases Nat.lt_or_gt_of_ne hne with hl | hl
    ·have := a5 j (Nat.zero_le _) hl
     rw [h j (by omega), b4] at this; cases this
    ·have := b5 i (Nat.zero_le _) hl
     rw [← h i him, a4] at this; cases this
   rw [a3, b3, e]; omega
  ·have := b2 i (Nat.zero_le _) (by omega)
   rw [← h i him, a4] at this; cases this
 ·rw [a1]
  rcases findFrom_cases P' m 0 with ⟨i, b1, b2, b3, b4, b5⟩ | ⟨b1, b2⟩
  ·have := a2 i (Nat.zero_le _) (by omega)
   rw [h i (by omega), b4] at this; cases this
  ·rw [b1]; omega
theorem Tv.next (hP : Pk n k m N ps ps') (h : Tv n k m ps.length ms ms') (hN : ms.now < N) (c : Int) : nextW ps' ms' c = nextW ps ms c ∧ -1 ≤ nextW ps ms c ∧ nextW ps ms c < m := by
 unfold nextW
 rw [hP.len]
 refine findN_ext hP.hm (fun i hi => ?_) (fun i h1 h2 => ?_)
 ·unfold nextP
  rw [hP.time i hi, hP.flow i hi, h.now, h.begun, nth_append_l (by rw [h.blen]; exact hi)]
  congr 2
  rw [decide_eq_decide]; omega
 ·unfold nextP
  have := hP.late i h1 h2
  rw [show decide ((nth ps i).time ≤ ms.now) = false from decide_eq_false (by omega)]
  rfl
def scD (k : Int) (s s' : Nat × Bool × List Int) : Prop := s'.1 = s.1 ∧ s'.2.1 = s.2.1 ∧ s'.2.2 = s.2.2.map fun x => x * k
end
end Go.Proofs.YthpblaoehlgpfaaGreat.M

/- Lines with any of the schedulers, plain: never more than a line in order of arrival; two lines beside each other. No condition. -/
namespace Go.Proofs.YthpblaoehlgpfaaGreat.M
open Go Go.Proofs.YthpblaoehlgpfaaGreat.K
theorem Fair.weak {σ : Type} {ps : List Pkt} {ch : MS → σ → Int × Nat × σ} {good : MS → σ → Prop} {rel : Nat → Nat → Prop} (h : Fair ps ch good (fun _ _ => True)) : Fair ps ch good rel :=
 ⟨h.toGood, h.waits, fun a b c d e i j _ => h.ord a b c d e i j trivial⟩
theorem inv_run {σ : Type} {ps : List Pkt} {ch : MS → σ → Int × Nat × σ} {good : MS → σ → Prop} {classes : Nat} (hg : Good ps ch good) (hf : Fit ps classes) {cap : Int} (hc : 0 ≤ cap) {sg : σ} (hst : good (start ps classes sg).ms sg) : ∀ t : Nat, Inv ps classes good (t + 1) (t * cap) (mrun ps ch cap classes t sg)
 | 0 => by
  have := Inv.start (classes := classes) hst
  simpa [mrun, ticksFrom] using this
 | t + 1 => by
  have h := inv_run hg hf hc hst t
  have e : mrun ps ch cap classes (t + 1) sg = tick ps ch cap t (mrun ps ch cap classes t sg) := by
   unfold mrun; rw [ticksFrom_snoc, Nat.zero_add]
  rw [e]
  unfold tick
  have := inner_inv hg hf (t := t) cap.toNat _ _ (h.open (cap := cap) (t := t) hg.free) (by dsimp only; omega) hc
  refine this.mono ?_
  dsimp only
  rw [Int.natCast_add, Int.add_mul]; omega
/-- packets of three classes -/
structure P3 (ps : List Pkt) : Prop where
  size : ∀ p ∈ ps, 1 ≤ p.size ∧ p.size ≤ 1500
  flow : ∀ p ∈ ps, 0 ≤ p.flow ∧ p.flow < ((3 : Nat) : Int)
  sort : ps.Pairwise fun a b => a.time ≤ b.time
  time : ∀ p ∈ ps, 0 ≤ p.time
section
variable {L : Ln} {ps : List Pkt} {t : Nat}
theorem send1 (h : L.kind = 1) (hn : L.n = 3) : sendL L t ps = ((mrun ps (fifo ps) L.cap 3 t ()).done, (mrun ps (fifo ps) L.cap 3 t ()).sent) := by
 unfold sendL; rw [if_pos h, hn]; rfl
theorem send2 (h : L.kind = 2) (hn : L.n = 3) : sendL L t ps = ((mrun ps (prioCh ps 3) L.cap 3 t ()).done, (mrun ps (prioCh ps 3) L.cap 3 t ()).sent) := by
 unfold sendL; rw [if_neg (by omega), if_pos h, hn]; rfl
theorem send3 (h : L.kind = 3) (hw : L.w.length = 3) : sendL L t ps = ((mrun ps (robinCh ps L.w) L.cap 3 t (0, nth L.w 0)).done, (mrun ps (robinCh ps L.w) L.cap 3 t (0, nth L.w 0)).sent) := by
 unfold sendL; rw [if_neg (by omega), if_neg (by omega), if_pos h, hw]
theorem send4 (h : L.kind = 4) (hw : L.w.length = 3) : sendL L t ps = ((mrun ps (defCh ps L.w) L.cap 3 t (def0 3)).done, (mrun ps (defCh ps L.w) L.cap 3 t (def0 3)).sent) := by
 unfold sendL; rw [if_neg (by omega), if_neg (by omega), if_neg (by omega), if_pos h, hw]
theorem send5 (h : L.kind = 5) (hn : L.n = 3) : sendL L t ps = ((mrun ps (slotCh ps L.cap L.tb) L.cap 3 t ()).done, (mrun ps (slotCh ps L.cap L.tb) L.cap 3 t ()).sent) := by
 unfold sendL; rw [if_neg (by omega), if_neg (by omega), if_neg (by omega), if_neg (by omega), hn]; rfl
/-- what schedules -/
def Runs (L : Ln) (ps : List Pkt) : Prop := ∃ (σ : Type) (ch : MS → σ → Int × Nat × σ) (sg : σ) (good : MS → σ → Prop), Fair ps ch good (sameFlow ps) ∧ good (start ps 3 sg).ms sg ∧ (L.kind ≠ 5 → Busy ps ch good) ∧ ∀ t, sendL L t ps = ((mrun ps ch L.cap 3 t sg).done, (mrun ps ch L.cap 3 t sg).sent)
theorem runs_of (hL : DrawOk L) (hp : P3 ps) : Runs L ps := by
 have hn := hL.n
 rcases (show L.kind = 1 ∨ L.kind = 2 ∨ L.kind = 3 ∨ L.kind = 4 ∨ L.kind = 5 by have := hL.kind; omega) with h | h | h | h | h
 ·exact ⟨_, _, _, _, (goodFB_fair ps).weak, goodFB_start ps 3, fun _ => goodFB_busy hp.sort, fun t => send1 h hn⟩
 ·exact ⟨_, _, _, _, prio_fair hp.sort, prio_start 3, fun _ => prio_busy (fun p hq => hp.flow p hq), fun t => send2 h hn⟩
 ·obtain ⟨hl, hw, _⟩ := hL.rob h
  have hw : ∀ x ∈ L.w, 1 ≤ x ∧ x ≤ 20 := fun x hx => by have := hw x hx; omega
  have hf : ∀ p ∈ ps, 0 ≤ p.flow ∧ p.flow < L.w.length := fun p hq => by rw [hl]; exact hp.flow p hq
  exact ⟨_, _, _, _, robin_fair hw (by omega) hf hp.sort, robin_start hw (by omega) 3, fun _ => robin_busy hw (by omega) hf hp.sort, fun t => send3 h hl⟩
 ·obtain ⟨hl, hw, _⟩ := hL.defi h
  have hw : ∀ x ∈ L.w, 1 ≤ x ∧ x ≤ 6000 := fun x hx => by have := hw x hx; omega
  have hf : ∀ p ∈ ps, 0 ≤ p.flow ∧ p.flow < L.w.length := fun p hq => by rw [hl]; exact hp.flow p hq
  have hst := def_start (ps := ps) (w := L.w) (by omega) 3
  rw [hl] at hst
  have hfa := def_fair hw hp.size hf hp.sort
  have hbu := def_busy hw hp.size hf hp.sort
  rw [hl] at hfa hbu
  exact ⟨_, _, _, _, hfa, hst, fun _ => hbu, fun t => send4 h hl⟩
 ·exact ⟨_, _, _, _, slot_fair hp.sort, slot_start 3, fun h5 => absurd h h5, fun t => send5 h hn⟩
theorem send_rows (hL : DrawOk L) (hp : P3 ps) (hlen : ps.length ≤ 1000) : (sendL L t ps).1.length = ps.length ∧ (sendL L t ps).2.length = 3 ∧ (∀ l ∈ (sendL L t ps).2, l.length = t + 1 ∧ ∀ x ∈ l, 0 ≤ x ∧ x ≤ t * L.cap) ∧ ∀ d ∈ (sendL L t ps).1, -1 ≤ d ∧ d < (t : Int) := by
 obtain ⟨σ, ch, sg, good, hf, hst, -, he⟩ := runs_of hL hp
 rw [he]
 have h1 := inv_run hf.toGood ⟨hlen, fun p hq => by have a := hp.size p hq; have b := hp.flow p hq; omega⟩ (cap := L.cap) (by have := hL.cap; omega) hst t
 exact ⟨h1.done, h1.sent, h1.rows, done_range _ _ _ _ _ _⟩
end
/-- a line of three classes that is right -/
theorem fine_run {L : Ln} {ps : List Pkt} (h0 : chkL L = 0) (hn : L.n = 3) (hok : Ok ps) (hf : ∀ p ∈ ps, p.flow < 3) {ticks : Int} {t : Nat} (ht : ticks.toNat = t) (h1 : 0 ≤ ticks ∧ ticks ≤ 2000) : srvE L ticks ps = 0 ∧ srvL L ticks ps = sendL L t ps := by
 have hv := (validate_ok ps).2 hok
 obtain ⟨hk, c1, c2, -, -, -⟩ := chk_facts h0
 have hc : checkE L.cap L.n ticks ps = 0 := checkE_of (by unfold BadC; omega) (fun p hp => by rw [hn]; exact hf p hp)
 have hl : lrunE L.cap L.n ticks ps = 0 := by unfold lrunE; rw [if_neg (fun h => h hv)]; exact hc
 have hr : runE L ticks ps = 0 := by
  unfold runE
  by_cases k3 : L.kind = 3
  ·rw [if_pos k3]
   obtain ⟨a, b, _⟩ := chk_rob h0 k3
   unfold wrunE
   rw [a, if_neg (fun h => h hl), if_pos (show okW 20 L.w = true from b)]
  ·rw [if_neg k3]
   by_cases k4 : L.kind = 4
   ·rw [if_pos k4]
    obtain ⟨a, b, _⟩ := chk_def h0 k4
    unfold wrunE
    rw [a, if_neg (fun h => h hl), if_pos (show okW 6000 L.w = true from b)]
   ·rw [if_neg k4]; exact hl
 refine ⟨?_, ?_⟩
 ·unfold srvE; rw [if_neg (fun h => h h0)]; exact hr
 ·unfold srvL; rw [if_neg (fun h => h h0)]; unfold runL; rw [if_neg (fun h => h hr), ht]
/-- nothing has come -/
structure IdleS {σ : Type} (len classes j : Nat) (sg : σ) (s : RS σ) : Prop where
  cur : s.cur = -1
  rest : s.rest = 0
  done : s.done = List.replicate len (-1)
  sent : s.sent = List.replicate classes (List.replicate (j + 1) 0)
  begun : s.ms.begun = List.replicate len false
  before : s.ms.before = 0
  sg : s.sg = sg
def Still {σ : Type} (qs : List Pkt) (ch : MS → σ → Int × Nat × σ) (sg : σ) : Prop := ∀ ms, ms.begun = List.replicate qs.length false → ms.before = 0 → (∀ q ∈ qs, ms.now < q.time) → ch ms sg = (-1, 0, sg)
/-- two lines -/
structure LnT (k : Int) (L L' : Ln) : Prop where
  kind : L'.kind = L.kind
  cap : L'.cap = L.cap * k
  n : L'.n = 3
  w : L.kind ≠ 4 → L'.w = L.w
  w4 : L.kind = 4 → L'.w = L.w.map fun x => x * k
  tb : L'.tb = L.tb
def Twins (n : Nat) (k N : Int) (m : Nat) (L L' : Ln) (ps ps' : List Pkt) : Prop :=
  ∃ (σ σ' : Type) (ch : MS → σ → Int × Nat × σ) (ch' : MS → σ' → Int × Nat × σ') (sg : σ) (sg' : σ') (Sg : σ → σ' → Prop) (good : MS → σ → Prop),
    Twin n k m ps.length N Sg good ch ch' ∧ Good ps ch good ∧ good (start ps 3 sg).ms sg ∧ Sg sg sg' ∧ Still ps' ch' sg' ∧
    (∀ t, sendL L t ps = ((mrun ps ch L.cap 3 t sg).done, (mrun ps ch L.cap 3 t sg).sent)) ∧ ∀ t, sendL L' t ps' = ((mrun ps' ch' (L.cap * k) 3 t sg').done, (mrun ps' ch' (L.cap * k) 3 t sg').sent)
theorem P3.later {n : Nat} {ps : List Pkt} (h : P3 ps) : P3 (ps.map (shP n)) := by
 refine ⟨fun p hp => ?_, fun p hp => ?_, ?_, fun p hp => ?_⟩
 ·obtain ⟨q, hq, rfl⟩ := List.mem_map.1 hp; exact h.size q hq
 ·obtain ⟨q, hq, rfl⟩ := List.mem_map.1 hp; exact h.flow q hq
 ·rw [List.pairwise_map]
  exact h.sort.imp (fun {a b} hab => by unfold shP; dsimp only; omega)
 ·obtain ⟨q, hq, rfl⟩ := List.mem_map.1 hp
  have := h.time q hq
  unfold shP; dsimp only; omega
theorem LnT.self {L : Ln} (hL : DrawOk L) : LnT 1 L L := ⟨rfl, by omega, hL.n, fun _ => rfl, fun _ => by simp, rfl⟩
/-- only the first packets -/
theorem P3.take {m : Nat} {ps : List Pkt} (h : P3 ps) : P3 (ps.take m) :=
 ⟨fun p hp => h.size p (List.mem_of_mem_take hp), fun p hp => h.flow p (List.mem_of_mem_take hp), h.sort.sublist (List.take_sublist _ _), fun p hp => h.time p (List.mem_of_mem_take hp)⟩
end Go.Proofs.YthpblaoehlgpfaaGreat.M

/- The line in order of arrival, plain: how long packets wait and how much waits, when all packets together keep a curve. No condition. -/
namespace Go.Proofs.YthpblaoehlgpfaaGreat.M
open Go Go.Proofs.YthpblaoehlgpfaaGreat.K
section
variable {σ : Type} {ps : List Pkt} {ch : MS → σ → Int × Nat × σ} {good : MS → σ → Prop} {classes : Nat}
theorem late_all (hg : Fair ps ch good (fun _ _ => True)) (hb : Busy ps ch good) (hs : ∀ p ∈ ps, 1 ≤ p.size) (hfl : ∀ p ∈ ps, 0 ≤ p.flow ∧ p.flow < classes) (hsort : ps.Pairwise fun a b => a.time ≤ b.time) {cap : Int} (hcap : 0 ≤ cap) {sg : σ} (hst : good (start ps classes sg).ms sg) {m n T t : Nat} (hn : n < ps.length) (hT : (nth ps n).time = T) (htm : t < m)
  (hd : nth (mrun ps ch cap classes m sg).done n < 0 ∨ (t : Int) < nth (mrun ps ch cap classes m sg).done n) : wsum cap ps (t + 1) < pbytes (-1) ((T : Int) + 1) ps := by
 have hsz : ∀ p ∈ ps, 0 ≤ p.size := fun p hp => by have := hs p hp; omega
 rw [← work_sum hg hs hfl hcap hst hb (Nat.le_refl (t + 1))]
 have hw := (work_run hg hs hfl hcap hst (t + 1)).1
 have hnow := run_now hg hs hfl hcap hst (cap := cap) t
 have hnd : ¬ 0 ≤ nth (mrun ps ch cap classes (t + 1) sg).done n := fun h0 => by
  have h1 := done_stays hg hs hfl hcap hst hn h0 (m - (t + 1))
  rw [show t + 1 + (m - (t + 1)) = m by omega] at h1
  have hbg : nth (mrun ps ch cap classes (t + 1) sg).ms.begun n = true := by
   cases hbn : nth (mrun ps ch cap classes (t + 1) sg).ms.begun n with
   | true => rfl
   | false => have := hw.open_ n hn (.inl hbn); omega
  have hcn : (mrun ps ch cap classes (t + 1) sg).cur ≠ n := fun e => by have := hw.open_ n hn (.inr e); omega
  have := hw.shut n hn hbg hcn
  omega
 rw [hw.sum]
 generalize mrun ps ch cap classes (t + 1) sg = S at hw hnow hnd ⊢
 have hordT : ∀ i, i < ps.length → i ≤ n → (nth ps i).time ≤ T := fun i hi hin => by
  by_cases e : i = n
  ·subst e; omega
  ·have := List.pairwise_iff_getElem.1 hsort i n hi hn (by omega)
   rw [← nth_eq hi, ← nth_eq hn] at this; omega
 cases hbn : nth S.ms.begun n with
 | false =>
  have hbeg : ∀ i, i < ps.length → nth S.ms.begun i = true → i < n := fun i hi hbi => by
   apply Classical.byContradiction
   intro hge
   by_cases e : i = n
   ·subst e; rw [hbn] at hbi; cases hbi
   ·have := hw.ord i hi hbi n (by omega) trivial
    rw [hbn] at this; cases this
  have h1 := begB_set ps S.ms.begun n hn (by rw [hw.blen]; exact hn) hbn
  have h2 := begB_le (t := (T : Int)) ps (S.ms.begun.set n true) (by simp [hw.blen]) hsz (fun i hi hbi => by
   by_cases e : n = i
   ·subst e; omega
   ·rw [nth_set_ne e] at hbi
    exact hordT i hi (by have := hbeg i hi hbi; omega))
  have h3 := hs _ (nth_mem hn)
  split
  ·rename_i hh
   have := (hw.cur hh).2.2
   omega
  ·omega
 | true =>
  have hcur : S.cur = n := by
   apply Classical.byContradiction
   intro hne
   have := (hw.shut n hn hbn hne).1
   exact hnd this
  have hbeg : ∀ i, i < ps.length → nth S.ms.begun i = true → i ≤ n := fun i hi hbi => by
   apply Classical.byContradiction
   intro hge
   have hdi := (hw.shut i hi hbi (by omega)).1
   have := (hw.dord i hi hdi n (by omega) trivial).1
   exact hnd this
  have h2 := begB_le (t := (T : Int)) ps S.ms.begun hw.blen hsz (fun i hi hbi => hordT i hi (hbeg i hi hbi))
  have h3 := (hw.cur (by omega)).2.2
  rw [if_pos (by omega)]
  omega
end
theorem wsum_serv {cap : Int} {ps : List Pkt} (h0 : ∀ p ∈ ps, 0 ≤ p.time) : ∀ t : Nat, ∃ s : Nat, s ≤ t ∧ pbytes (-1) (s : Int) ps + cap * ((t - s : Nat) : Int) ≤ wsum cap ps t
 | 0 => ⟨0, Nat.le_refl _, by
  rw [show ((0 : Nat) : Int) = 0 from rfl, pbytes_zero ps h0]
  show 0 + cap * ((0 - 0 : Nat) : Int) ≤ 0
  simp⟩
 | t + 1 => by
  obtain ⟨s, h1, h2⟩ := wsum_serv (cap := cap) h0 t
  by_cases hm : wsum cap ps t + cap ≤ pbytes (-1) ((t : Int) + 1) ps
  ·refine ⟨s, by omega, ?_⟩
   show _ ≤ min _ _
   rw [Int.min_eq_left hm, show ((t + 1 - s : Nat) : Int) = ((t - s : Nat) : Int) + 1 by omega, Int.mul_add, Int.mul_one]
   omega
  ·refine ⟨t + 1, Nat.le_refl _, ?_⟩
   show _ ≤ min _ _
   rw [Int.min_eq_right (by omega), Nat.sub_self, show ((t + 1 : Nat) : Int) = (t : Int) + 1 by omega]
   simp
end Go.Proofs.YthpblaoehlgpfaaGreat.M

/- The order of arrival, plain: what a class is sent, and the theorem of the share. No condition. -/
namespace Go.Proofs.YthpblaoehlgpfaaGreat.M
open Go Go.Proofs.YthpblaoehlgpfaaGreat.K
/-- the others' begun bytes -/
theorem begO_le {k t : Int} (hk : 0 ≤ k) : ∀ (ps : List Pkt) (bs : List Bool), bs.length = ps.length → (∀ p ∈ ps, 0 ≤ p.size) → (∀ i, i < ps.length → nth bs i = true → (nth ps i).time ≤ t) → begB ps bs - begK k ps bs ≤ pbytes (-1) (t + 1) ps - pbytes k (t + 1) ps
 | [], [], _, _, _ => by simp [begB, begK, pbytes]
 | [], _ :: _, h, _, _ => by simp at h
 | _ :: _, [], h, _, _ => by simp at h
 | p :: ps, b :: bs, hl, hs, h => by
  have ih := begO_le hk ps bs (by simpa using hl) (fun q hq => hs q (by simp [hq])) (fun i hi hb => h (i + 1) (by simpa using hi) hb)
  have hp := hs p (by simp)
  have h0 := h 0 (by simp)
  have e0 : nth (b :: bs) 0 = b := rfl
  have e1 : nth (p :: ps) 0 = p := rfl
  rw [e0, e1] at h0
  simp only [begB, begK, pbytes]
  have g1 : hit (-1) (t + 1) p ↔ p.time < t + 1 := by unfold hit; omega
  have g2 : hit k (t + 1) p ↔ p.time < t + 1 ∧ p.flow = k := by unfold hit; omega
  cases b with
  | false =>
   by_cases h1 : p.time < t + 1
   ·by_cases h2 : p.flow = k
    ·rw [if_pos (g1.2 h1), if_pos (g2.2 ⟨h1, h2⟩)]; simp; omega
    ·rw [if_pos (g1.2 h1), if_neg (fun h => h2 (g2.1 h).2)]; simp; omega
   ·rw [if_neg (fun h => h1 (g1.1 h)), if_neg (fun h => h1 (g2.1 h).1)]; simp; omega
  | true =>
   have h1 := h0 rfl
   by_cases h2 : p.flow = k
   ·rw [if_pos (g1.2 (by omega)), if_pos (g2.2 ⟨by omega, h2⟩)]; simp [h2]; omega
   ·rw [if_pos (g1.2 (by omega)), if_neg (fun h => h2 (g2.1 h).2)]; simp [h2]; omega
/-- what of a class came before a tick is begun -/
theorem begK_ge {k t : Int} (hk : 0 ≤ k) : ∀ (ps : List Pkt) (bs : List Bool), bs.length = ps.length → (∀ p ∈ ps, 0 ≤ p.size) → (∀ i, i < ps.length → (nth ps i).time < t → nth bs i = true) → pbytes k t ps ≤ begK k ps bs
 | [], [], _, _, _ => by simp [begK, pbytes]
 | [], _ :: _, h, _, _ => by simp at h
 | _ :: _, [], h, _, _ => by simp at h
 | p :: ps, b :: bs, hl, hs, h => by
  have ih := begK_ge hk ps bs (by simpa using hl) (fun q hq => hs q (by simp [hq])) (fun i hi ht => h (i + 1) (by simpa using hi) ht)
  have hp := hs p (by simp)
  have h0 := h 0 (by simp)
  have e0 : nth (b :: bs) 0 = b := rfl
  have e1 : nth (p :: ps) 0 = p := rfl
  rw [e0, e1] at h0
  simp only [begK, pbytes]
  have g2 : hit k t p ↔ p.time < t ∧ p.flow = k := by unfold hit; omega
  by_cases h1 : p.time < t ∧ p.flow = k
  ·rw [if_pos (g2.2 h1), if_pos ⟨h0 h1.1, h1.2⟩]; omega
  ·rw [if_neg (fun h => h1 (g2.1 h))]; split <;> omega
/-- the packet that is being sent is not among them -/
theorem begK_ge2 {k t : Int} (hk : 0 ≤ k) : ∀ (ps : List Pkt) (bs : List Bool) (n : Nat), bs.length = ps.length → (∀ p ∈ ps, 0 ≤ p.size) → n < ps.length → nth bs n = true → (nth ps n).flow = k → t ≤ (nth ps n).time → (∀ i, i < ps.length → (nth ps i).time < t → nth bs i = true) → pbytes k t ps + (nth ps n).size ≤ begK k ps bs
 | [], _, n, _, _, hn, _, _, _, _ => by simp at hn
 | _ :: _, [], n, h, _, _, _, _, _, _ => by simp at h
 | p :: ps, b :: bs, 0, hl, hs, _, hb, hf, ht, h => by
  have ih := begK_ge hk ps bs (t := t) (by simpa using hl) (fun q hq => hs q (by simp [hq])) (fun i hi ht => h (i + 1) (by simpa using hi) ht)
  have e0 : nth (b :: bs) 0 = b := rfl
  have e1 : nth (p :: ps) 0 = p := rfl
  rw [e0] at hb
  rw [e1] at hf ht ⊢
  simp only [begK, pbytes]
  have g2 : hit k t p ↔ p.time < t ∧ p.flow = k := by unfold hit; omega
  rw [if_neg (fun h => by have := (g2.1 h).1; omega), if_pos ⟨hb, hf⟩]; omega
 | p :: ps, b :: bs, n + 1, hl, hs, hn, hb, hf, ht, h => by
  have ih := begK_ge2 hk ps bs n (t := t) (by simpa using hl) (fun q hq => hs q (by simp [hq])) (by simpa using hn) hb hf ht (fun i hi ht => h (i + 1) (by simpa using hi) ht)
  have hp := hs p (by simp)
  have h0 := h 0 (by simp)
  have e0 : nth (b :: bs) 0 = b := rfl
  have e1 : nth (p :: ps) 0 = p := rfl
  rw [e0, e1] at h0
  show _ + (nth ps n).size ≤ _
  simp only [begK, pbytes]
  have g2 : hit k t p ↔ p.time < t ∧ p.flow = k := by unfold hit; omega
  by_cases h1 : p.time < t ∧ p.flow = k
  ·rw [if_pos (g2.2 h1), if_pos ⟨h0 h1.1, h1.2⟩]; omega
  ·rw [if_neg (fun h => h1 (g2.1 h))]; split <;> omega
theorem exists_least {Q : Nat → Prop} : ∀ n, Q n → ∃ m, Q m ∧ ∀ j, j < m → ¬ Q j := by
 intro n
 induction n using Nat.strongRecOn with
 | _ n ih =>
  intro h
  by_cases hx : ∃ j, j < n ∧ Q j
  ·obtain ⟨j, h1, h2⟩ := hx
   exact ih j h1 h2
  ·exact ⟨n, h, fun j hj hq => hx ⟨j, hj, hq⟩⟩
section
variable {σ : Type} {ps : List Pkt} {ch : MS → σ → Int × Nat × σ} {good : MS → σ → Prop} {classes k : Nat}
/-- up to a tick all is sent, and of what came behind it nothing -/
theorem fifo_split (hg : Fair ps ch good (fun _ _ => True)) (hs : ∀ p ∈ ps, 1 ≤ p.size) (hfl : ∀ p ∈ ps, 0 ≤ p.flow ∧ p.flow < classes) (hsort : ps.Pairwise fun a b => a.time ≤ b.time) (h0 : ∀ p ∈ ps, 0 ≤ p.time) (hk : k < classes) {cap : Int} (hcap : 0 ≤ cap) {sg : σ} (hst : good (start ps classes sg).ms sg) (t : Nat) :
  ∃ tau : Nat, tau ≤ t ∧ pbytes k (tau : Int) ps ≤ nth (nth (mrun ps ch cap classes t sg).sent k) t ∧ nth (nth (mrun ps ch cap classes t sg).sent k) t ≤ pbytes k ((tau : Int) + 1) ps ∧
   colSum (mrun ps ch cap classes t sg).sent t - nth (nth (mrun ps ch cap classes t sg).sent k) t ≤ pbytes (-1) ((tau : Int) + 1) ps - pbytes k ((tau : Int) + 1) ps := by
 have hsz : ∀ p ∈ ps, 0 ≤ p.size := fun p hp => by have := hs p hp; omega
 obtain ⟨hw, hnow, _, _⟩ := work_run hg hs hfl hcap hst t
 obtain ⟨hc, hr⟩ := clr_each hg hs hfl hk hcap hst t
 have hsum := hw.sum
 unfold Cl at hc
 rw [hc, hsum]
 clear hc hsum
 generalize mrun ps ch cap classes t sg = S at hw hnow hr ⊢
 have hord : ∀ i j, i < ps.length → j < ps.length → i ≤ j → (nth ps i).time ≤ (nth ps j).time := fun i j hi hj hij => by
  by_cases e : i = j
  ·subst e; omega
  ·have := List.pairwise_iff_getElem.1 hsort i j hi hj (by omega)
   rw [← nth_eq hi, ← nth_eq hj] at this; exact this
 by_cases hcur : 0 ≤ S.cur
 ·obtain ⟨c1, c2, c3⟩ := hw.cur hcur
  obtain ⟨n, hn⟩ := Int.eq_ofNat_of_zero_le hcur
  have hr1 := hr hcur
  rw [hn] at c1 c2 hr1
  simp only [Int.toNat_natCast] at c2 hr1
  have hnl : n < ps.length := by omega
  obtain ⟨T, hT⟩ := Int.eq_ofNat_of_zero_le (h0 _ (nth_mem hnl))
  have htime := hw.time n hnl c2
  have hbeg : ∀ i, i < ps.length → nth S.ms.begun i = true → i ≤ n := fun i hi hbi => by
   apply Classical.byContradiction
   intro hge
   have hdi := (hw.shut i hi hbi (by omega)).1
   have h1 := (hw.dord i hi hdi n (by omega) trivial).1
   have h2 := hw.open_ n hnl (.inr hn)
   omega
  have hall : ∀ i, i < ps.length → (nth ps i).time < (T : Int) → nth S.ms.begun i = true := fun i hi hti => by
   have : i < n := by
    apply Classical.byContradiction
    intro hge
    have := hord n i hnl hi (by omega)
    omega
   exact hw.ord n hnl c2 i this trivial
  have hle : ∀ i, i < ps.length → nth S.ms.begun i = true → (nth ps i).time ≤ (T : Int) := fun i hi hb => by
   have := hord i n hi hnl (hbeg i hi hb)
   omega
  have hO := begO_le (k := (k : Int)) (t := (T : Int)) (by omega) ps S.ms.begun hw.blen hsz hle
  have hK := begK_le (k := (k : Int)) (t := (T : Int)) (by omega) ps S.ms.begun hw.blen hsz (fun i hi hb _ => hle i hi hb)
  refine ⟨T, by omega, ?_, ?_, ?_⟩
  ·by_cases hf : (nth ps n).flow = k
   ·have h1 := begK_ge2 (k := (k : Int)) (t := (T : Int)) (by omega) ps S.ms.begun n hw.blen hsz hnl c2 hf (by omega) hall
    rw [if_pos ⟨hcur, by rw [hn, Int.toNat_natCast]; exact hf⟩]
    omega
   ·have h1 := begK_ge (k := (k : Int)) (t := (T : Int)) (by omega) ps S.ms.begun hw.blen hsz hall
    rw [if_neg (fun h => hf (by have := h.2; rw [hn, Int.toNat_natCast] at this; exact this))]
    omega
  ·split <;> omega
  ·rw [if_pos hcur]
   split <;> omega
 ·have key : ∀ T : Nat, T ≤ t → (∀ i, i < ps.length → nth S.ms.begun i = true → (nth ps i).time ≤ (T : Int)) → (∀ i, i < ps.length → (nth ps i).time < (T : Int) → nth S.ms.begun i = true) → ∃ tau : Nat, tau ≤ t ∧ pbytes k (tau : Int) ps ≤ begK k ps S.ms.begun - (if 0 ≤ S.cur ∧ (nth ps S.cur.toNat).flow = k then S.rest else 0) ∧ begK k ps S.ms.begun - (if 0 ≤ S.cur ∧ (nth ps S.cur.toNat).flow = k then S.rest else 0) ≤ pbytes k ((tau : Int) + 1) ps ∧ begB ps S.ms.begun - (if 0 ≤ S.cur then S.rest else 0) - (begK k ps S.ms.begun - (if 0 ≤ S.cur ∧ (nth ps S.cur.toNat).flow = k then S.rest else 0)) ≤ pbytes (-1) ((tau : Int) + 1) ps - pbytes k ((tau : Int) + 1) ps := fun T hTt hle hall => by
   have hO := begO_le (k := (k : Int)) (t := (T : Int)) (by omega) ps S.ms.begun hw.blen hsz hle
   have hK := begK_le (k := (k : Int)) (t := (T : Int)) (by omega) ps S.ms.begun hw.blen hsz (fun i hi hb _ => hle i hi hb)
   have h1 := begK_ge (k := (k : Int)) (t := (T : Int)) (by omega) ps S.ms.begun hw.blen hsz hall
   rw [if_neg hcur, if_neg (fun h => hcur h.1)]
   exact ⟨T, hTt, by omega, by omega, by omega⟩
  by_cases hun : ∃ q, q < ps.length ∧ nth S.ms.begun q = false
  ·obtain ⟨q0, hq0⟩ := hun
   obtain ⟨q, ⟨hql, hqb⟩, hmin⟩ := exists_least (Q := fun q => q < ps.length ∧ nth S.ms.begun q = false) q0 hq0
   have hbl : ∀ i, i < ps.length → nth S.ms.begun i = true → i < q := fun i hi hb => by
    apply Classical.byContradiction
    intro hge
    by_cases e : i = q
    ·subst e; rw [hqb] at hb; cases hb
    ·have := hw.ord i hi hb q (by omega) trivial
     rw [hqb] at this; cases this
   obtain ⟨T, hT⟩ := Int.eq_ofNat_of_zero_le (h0 _ (nth_mem hql))
   refine key (min T t) (Nat.min_le_right _ _) (fun i hi hb => ?_) (fun i hi hti => ?_)
   ·have h1 := hord i q hi hql (Nat.le_of_lt (hbl i hi hb))
    have h2 := hw.time i hi hb
    omega
   ·have hiq : i < q := by
     apply Classical.byContradiction
     intro hge
     have := hord q i hql hi (by omega)
     omega
    cases hb : nth S.ms.begun i with
    | true => rfl
    | false => exact absurd ⟨hi, hb⟩ (hmin i hiq)
  ·refine key t (Nat.le_refl _) (fun i hi hb => by have := hw.time i hi hb; omega) (fun i hi _ => ?_)
   cases hb : nth S.ms.begun i with
   | true => rfl
   | false => exact absurd ⟨i, hi, hb⟩ hun
end
end Go.Proofs.YthpblaoehlgpfaaGreat.M

/- Lines with any of the schedulers, plain: what a class is served, and how long it waits. No condition. -/
namespace Go.Proofs.YthpblaoehlgpfaaGreat.M
open Go Go.Proofs.YthpblaoehlgpfaaGreat.K
def Served (ps : List Pkt) (k m : Nat) (G : Nat → Int) (sent : List (List Int)) : Prop := ∀ t : Nat, t ≤ m → ∃ a : Nat, a ≤ t ∧ pbytes k (a : Int) ps + G (t - a) ≤ nth (nth sent k) t
def Waits (ps : List Pkt) (k m : Nat) (d : Nat) (done : List Int) : Prop := ∀ i T : Nat, i < ps.length → (nth ps i).flow = k → (nth ps i).time = T → T + d < m → 0 ≤ nth done i ∧ nth done i ≤ (T : Int) + d
def KeepsF (ps : List Pkt) (k : Nat) (F : Nat → Int) : Prop := ∀ x t : Nat, x ≤ t → pbytes k (t : Int) ps - pbytes k (x : Int) ps ≤ F (t - x)
/-- all kinds but the order of arrival -/
theorem send_serves {L : Ln} {ps : List Pkt} {k m : Nat} (hL : DrawOk L) (hp : P3 ps) (hk : k < 3) {ls : List Cv} (hls : ls.length = 3) (hkeep : ∀ j, j < 3 → validB (nth ls j) = true ∧ finB (nth ls j) = true ∧ KeepsF ps j (cvF (nth ls j))) {z : List Sz} (hz : z.length = 3) (hzb : ∀ s ∈ z, 0 ≤ s.least ∧ s.least ≤ s.most ∧ s.most ≤ 1500) (hS : SzOf ps z)
  (h1 : L.kind ≠ 1) (h : (schedC L k ls z).2 = 0) :
  ∃ (G : Nat → Int) (s p : Nat) (q : Int), schedC L k ls z = (⟨fvals G (s + p), p, q⟩, 0) ∧ FC G s p q ∧ Served ps k m G (sendL L m ps).2 ∧ ∀ (F : Nat → Int) (d : Nat), KeepsF ps k F → (∀ u, F u ≤ G (u + d)) → Waits ps k m d (sendL L m ps).1 := by
 have hn := hL.n
 have hcap := hL.cap
 have hs1 : ∀ p ∈ ps, 1 ≤ p.size := fun p hq => (hp.size p hq).1
 have hz' : ∀ c, c < 3 → 0 ≤ (nth z c).least ∧ (nth z c).least ≤ (nth z c).most := fun c hc => by
  have := hzb _ (nth_mem (xs := z) (k := c) (by omega))
  omega
 rcases (show L.kind = 2 ∨ L.kind = 3 ∨ L.kind = 4 ∨ L.kind = 5 by have := hL.kind; omega) with k2 | k3 | k4 | k5
 ·have e : schedC L k ls z = prioC L.cap k ls z := by unfold schedC; rw [if_neg h1, if_pos k2]
  rw [e] at h ⊢
  have hav : ∀ f ∈ ls, validB f = true ∧ finB f = true := fun f hf => by
   obtain ⟨j, hj, rfl⟩ := List.getElem_of_mem hf
   have := hkeep j (by omega)
   rw [nth_eq hj] at this
   exact ⟨this.1, this.2.1⟩
  have h18 : chk18 L.cap (k : Int) z = 0 := by
   have a : zOk z = true := zOk_iff.2 hzb
   exact if_neg (by rintro (h|h|h|h|h|h|h) <;> first | omega | (rw [a] at h; cases h))
  rcases prio_case h18 (by omega) hav with e2 | ⟨G, s, p, q, e2, hfc, hG⟩
  ·rw [e2] at h; cases h
  ·rw [Int.toNat_natCast] at hG
   have := prio_full (ps := ps) (n := 3) (k := k) (cap := L.cap) (m := m) (ls := ls) (z := z) hp.sort hs1 hp.flow hp.time hk (by omega) hz hzb hS (fun c hc => (hkeep c (by omega)).2.2) hfc hG
   rw [send2 k2 hn]
   exact ⟨G, s, p, q, e2, hfc, this.1, fun F d hF hd i T a b c e => this.2 F d i T hF hd a b c e⟩
 ·have e : schedC L k ls z = robinC L.cap k L.w z := by unfold schedC; rw [if_neg h1, if_neg (by omega), if_pos k3]
  rw [e] at h ⊢
  obtain ⟨hl, hw, _⟩ := hL.rob k3
  have hw : ∀ x ∈ L.w, 1 ≤ x ∧ x ≤ 20 := fun x hx => by have := hw x hx; omega
  have hf : ∀ p ∈ ps, 0 ≤ p.flow ∧ p.flow < L.w.length := fun p hq => by rw [hl]; exact hp.flow p hq
  obtain ⟨hc, hle, G, s, p, q, hcf⟩ := rob_for h
  rw [Int.toNat_natCast] at hle hcf
  have := serve_all (ps := ps) (classes := L.w.length) (k := k) (cap := L.cap) (m := m) (robin_fair hw (by omega) hf hp.sort) (robin_busy hw (by omega) hf hp.sort) hs1 hf hp.sort hp.time (by omega) (by omega) (robin_start hw (by omega) _) hcf (fun hxy hy hback => rob_said hw (fun c hc => hz' c (by omega)) (by omega) (by omega) hS hp.sort hs1 hf (by omega) (by omega) hxy hy hback)
  rw [hl] at this
  rw [send3 k3 hl]
  exact ⟨G, s, p, q, hcf.1, hcf.2.1, this.2.1, fun F d hF hd i T a b c e => this.2.2 F d i T hF hd a b c e⟩
 ·have e : schedC L k ls z = defC L.cap k L.w z := by unfold schedC; rw [if_neg h1, if_neg (by omega), if_neg (by omega), if_pos k4]
  rw [e] at h ⊢
  obtain ⟨hl, hw, _⟩ := hL.defi k4
  have hw : ∀ x ∈ L.w, 1 ≤ x ∧ x ≤ 6000 := fun x hx => by have := hw x hx; omega
  have hf : ∀ p ∈ ps, 0 ≤ p.flow ∧ p.flow < L.w.length := fun p hq => by rw [hl]; exact hp.flow p hq
  obtain ⟨hc, hle, G, s, p, q, hcf⟩ := def_for h
  rw [Int.toNat_natCast] at hle hcf
  have := serve_all (ps := ps) (classes := L.w.length) (k := k) (cap := L.cap) (m := m) (def_fair hw hp.size hf hp.sort) (def_busy hw hp.size hf hp.sort) hs1 hf hp.sort hp.time (by omega) (by omega) (def_start (by omega) _) hcf (fun hxy hy hback => def_said hw (by omega) (by omega) hS hp.sort hp.size hf hle (by omega) hxy hy hback)
  rw [hl] at this
  rw [send4 k4 hl]
  exact ⟨G, s, p, q, hcf.1, hcf.2.1, this.2.1, fun F d hF hd i T a b c e => this.2.2 F d i T hF hd a b c e⟩
 ·have e : schedC L k ls z = slotC L.cap k L.tb z := by unfold schedC; rw [if_neg h1, if_neg (by omega), if_neg (by omega), if_neg (by omega)]
  rw [e] at h ⊢
  obtain ⟨hl, ht3, ht6, htb⟩ := hL.slots k5
  obtain ⟨hc, hmo, G, s, p, q, hrc, hfc, hG0, hGc, _, _⟩ := slot_for h
  rw [Int.toNat_natCast] at hmo hGc
  have hbusy : ∀ a b : Nat, a < b → b ≤ m → (∀ u : Nat, a < u → u ≤ b → nth (nth (mrun ps (slotCh ps L.cap L.tb) L.cap 3 m ()).sent k) u < pbytes k (u : Int) ps) → G (b - a) ≤ nth (nth (mrun ps (slotCh ps L.cap L.tb) L.cap 3 m ()).sent k) b - nth (nth (mrun ps (slotCh ps L.cap L.tb) L.cap 3 m ()).sent k) a := fun a b hab hb hback => by
   have g1 := slot_serves (tb := L.tb) (classes := 3) (k := k) (cap := L.cap) (lost := (nth z k).most - 1) (by omega) hp.sort hs1 hp.flow hk (by omega) (by omega) (fun p hq hf => by
    obtain ⟨i, hi, e⟩ := List.getElem_of_mem hq
    have h2 := (hS i hi).2
    rw [nth_eq hi, e, hf, Int.toNat_natCast] at h2
    omega) hab hb hback
   have g2 := hGc a (b - a)
   omega
  have := serve_from (ps := ps) (classes := 3) (k := k) (cap := L.cap) (m := m) (slot_fair (ps := ps) (cap := L.cap) (tb := L.tb) hp.sort) hs1 hp.flow hp.sort hp.time hk (by omega) (slot_start 3) hfc hG0 hbusy
  rw [send5 k5 hn]
  exact ⟨G, s, p, q, hrc, hfc, this.1, fun F d hF hd i T a b c e => this.2 F d i T hF hd a b c e⟩
/-- in order of arrival: all that came so long ago is sent -/
theorem fifo_all {ps : List Pkt} {cap : Int} {k m d : Nat} (hp : P3 ps) (hk : k < 3) (hcap : 0 ≤ cap) {H : Nat → Int} (hH : ∀ x t : Nat, x ≤ t → pbytes (-1) (t : Int) ps - pbytes (-1) (x : Int) ps ≤ H (t - x)) (hd : ∀ u : Nat, H u ≤ cap * ((u + d : Nat) : Int)) :
  (∀ t : Nat, t ≤ m → pbytes k ((t - d : Nat) : Int) ps ≤ nth (nth (mrun ps (fifo ps) cap 3 m ()).sent k) t) ∧ Waits ps k m d (mrun ps (fifo ps) cap 3 m ()).done := by
 have hs1 : ∀ p ∈ ps, 1 ≤ p.size := fun p hq => (hp.size p hq).1
 have hsz : ∀ p ∈ ps, 0 ≤ p.size := fun p hq => by have := hs1 p hq; omega
 have hw : ∀ x : Nat, pbytes (-1) (x : Int) ps ≤ wsum cap ps (x + d) := fun x => by
  obtain ⟨s, h1, h2⟩ := wsum_serv (cap := cap) hp.time (x + d)
  by_cases hsx : x ≤ s
  ·have := pbytes_mono (flow := -1) (show (x : Int) ≤ (s : Int) by omega) ps hsz
   have := Int.mul_nonneg hcap (show (0 : Int) ≤ ((x + d - s : Nat) : Int) by omega)
   omega
  ·have h3 := hH s x (by omega)
   have h4 := hd (x - s)
   rw [show x - s + d = x + d - s by omega] at h4
   omega
 refine ⟨fun t ht => ?_, fun i T hi hf hT hTm => ?_⟩
 ·have hr := work_run (goodFB_fair ps) hs1 hp.flow hcap (goodFB_start ps 3)
  have e : nth (nth (mrun ps (fifo ps) cap 3 m ()).sent k) t = nth (nth (mrun ps (fifo ps) cap 3 t ()).sent k) t := by
   by_cases htm : t = m
   ·rw [htm]
   ·exact (hr m).2.2.1 t (by omega) k hk
  rw [e]
  obtain ⟨tau, h1, h2, h3, h4⟩ := fifo_split (goodFB_fair ps) hs1 hp.flow hp.sort hp.time hk hcap (goodFB_start ps 3) t
  rw [work_sum (goodFB_fair ps) hs1 hp.flow hcap (goodFB_start ps 3) (goodFB_busy hp.sort) (Nat.le_refl t)] at h4
  by_cases htd : t - d ≤ tau
  ·have := pbytes_mono (flow := (k : Int)) (show ((t - d : Nat) : Int) ≤ (tau : Int) by omega) ps hsz
   omega
  ·have h5 := hw (t - d)
   rw [show t - d + d = t by omega] at h5
   have h6 := pbytes_up (n := 3) (t := ((t - d : Nat) : Int)) ps hp.flow
   have h7 := pbytes_up (n := 3) (t := (tau : Int) + 1) ps hp.flow
   have m0 := pbytes_mono (flow := ((0 : Nat) : Int)) (show (tau : Int) + 1 ≤ ((t - d : Nat) : Int) by omega) ps hsz
   have m1 := pbytes_mono (flow := ((1 : Nat) : Int)) (show (tau : Int) + 1 ≤ ((t - d : Nat) : Int) by omega) ps hsz
   have m2 := pbytes_mono (flow := ((2 : Nat) : Int)) (show (tau : Int) + 1 ≤ ((t - d : Nat) : Int) by omega) ps hsz
   simp only [sumUp] at h6 h7
   rcases (show k = 0 ∨ k = 1 ∨ k = 2 by omega) with rfl | rfl | rfl <;> omega
 ·apply Classical.byContradiction
  intro hn2
  have h1 := late_all (goodFB_fair ps) (goodFB_busy hp.sort) hs1 hp.flow hp.sort hcap (goodFB_start ps 3) (m := m) (n := i) (T := T) (t := T + d) hi hT hTm (by omega)
  have h2 := hw (T + 1)
  rw [show T + 1 + d = T + d + 1 by omega] at h2
  rw [show ((T + 1 : Nat) : Int) = (T : Int) + 1 by omega] at h2
  omega
end Go.Proofs.YthpblaoehlgpfaaGreat.M

/- Lines with any of the schedulers, plain: what the laws say of service and waits. No condition. -/
namespace Go.Proofs.YthpblaoehlgpfaaGreat.M
open Go Go.Proofs.YthpblaoehlgpfaaGreat.K
/-- contracts that the classes keep, and sizes -/
structure Kept (ps : List Pkt) (ls : List Cv) (z : List Sz) : Prop where
  len : ls.length = 3
  keep : ∀ j, j < 3 → validB (nth ls j) = true ∧ finB (nth ls j) = true ∧ KeepsF ps j (cvF (nth ls j))
  zlen : z.length = 3
  zb : ∀ s ∈ z, 0 ≤ s.least ∧ s.least ≤ s.most ∧ s.most ≤ 1500
  sz : SzOf ps z
section
variable {L : Ln} {ps : List Pkt} {k m : Nat} {ls : List Cv} {z : List Sz}
theorem Kept.valid (h : Kept ps ls z) : ∀ f ∈ ls, validB f = true ∧ finB f = true := fun f hf => by
 obtain ⟨j, hj, rfl⟩ := List.getElem_of_mem hf
 have := h.keep j (by rw [h.len] at hj; omega)
 rw [nth_eq hj] at this
 exact ⟨this.1, this.2.1⟩
theorem Kept.all (h : Kept ps ls z) (hp : P3 ps) {c : Cv} (hc : totalC ls = (c, 0)) : validB c = true ∧ finB c = true ∧ ∀ x t : Nat, x ≤ t → pbytes (-1) (t : Int) ps - pbytes (-1) (x : Int) ps ≤ cvF c (t - x) := by
 have hv : validB c = true := by
  have := total_valid (ls := ls) (fun c hc => (h.valid c hc).1) (by rw [hc])
  rw [hc] at this; exact this
 obtain ⟨f1, f2⟩ := total_cv ls zeroC c zero_nrm.valid (by kernel_rfl) h.valid hc
 refine ⟨hv, f1, fun x t hx => ?_⟩
 rw [f2, zero_cv, h.len, pbytes_up (n := 3) ps hp.flow, pbytes_up (n := 3) ps hp.flow]
 have a0 := (h.keep 0 (by omega)).2.2 x t hx
 have a1 := (h.keep 1 (by omega)).2.2 x t hx
 have a2 := (h.keep 2 (by omega)).2.2 x t hx
 simp only [sumUp]
 omega
theorem all_law (hp : P3 ps) (hk : k < 3) (hK : Kept ps ls z) {cap : Int} (hc : 0 ≤ cap ∧ cap ≤ 4000) {v p : Int} (h : allC cap ls = ((false, v, p), 0)) :
  0 ≤ v ∧ v ≤ 1000000000000000000 ∧ (∀ t : Nat, t ≤ m → pbytes k ((t - v.toNat : Nat) : Int) ps ≤ nth (nth (mrun ps (fifo ps) cap 3 m ()).sent k) t) ∧ Waits ps k m v.toNat (mrun ps (fifo ps) cap 3 m ()).done := by
 unfold allC at h
 by_cases h0 : (totalC ls).2 ≠ 0
 ·rw [if_pos h0] at h
  exact absurd (congrArg Prod.snd h) h0
 ·rw [if_neg h0] at h
  have h0 : (totalC ls).2 = 0 := by omega
  obtain ⟨hv, hf, hH⟩ := hK.all hp (c := (totalC ls).1) (Prod.ext rfl h0)
  obtain ⟨l1, l2, l3, _⟩ := line_facts (cap := cap) ⟨by omega, by omega⟩
  obtain ⟨n1, n2, _, n4, _⟩ := norm_valid hv
  unfold delayC at h
  rw [l1.norm] at h
  obtain ⟨d1, d2, d3⟩ := delay_snd n1 l1.valid (by rw [n4]; exact hf) l3 h
  rw [n2, l2] at d3
  obtain ⟨w1, w2⟩ := fifo_all (m := m) hp hk hc.1 hH d3
  exact ⟨d1, d2, w1, w2⟩
theorem serve_law (hm : m ≤ 2000) (hL : DrawOk L) (hp : P3 ps) (hk : k < 3) (hK : Kept ps ls z) (h : (curveL L k ls z).2 = 0) :
  validB (curveL L k ls z).1 = true ∧ ∀ t : Nat, t ≤ m → ∃ a : Nat, a ≤ t ∧ cvF (curveL L k ls z).1 (t - a) ≠ 4611686018427387904 ∧ pbytes k (a : Int) ps + cvF (curveL L k ls z).1 (t - a) ≤ nth (nth (sendL L m ps).2 k) t := by
 have hcap := hL.cap
 have ha : argE L k ls z = 0 := by
  apply Classical.byContradiction
  intro hn
  unfold curveL at h
  rw [if_pos hn] at h
  exact hn h
 have e : curveL L k ls z = schedC L k ls z := if_neg (fun hn => hn ha)
 rw [e] at h ⊢
 refine ⟨sched_valid (fun c hc => (hK.valid c hc).1) h, ?_⟩
 by_cases h1 : L.kind = 1
 ·have e1 : schedC L k ls z = fifoC L.cap ls := if_pos h1
  rw [e1] at h ⊢
  rw [send1 h1 hL.n]
  unfold fifoC at h ⊢
  by_cases q1 : (allC L.cap ls).2 ≠ 0
  ·rw [if_pos q1] at h; exact absurd h q1
  ·rw [if_neg q1] at h ⊢
   by_cases q2 : (allC L.cap ls).1.1 = true
   ·rw [if_pos q2] at h; cases h
   ·rw [if_neg q2] at h ⊢
    have ea : allC L.cap ls = ((false, (allC L.cap ls).1.2.1, (allC L.cap ls).1.2.2), 0) := Prod.ext (Prod.ext (by simpa using q2) rfl) (by omega)
    obtain ⟨d1, d2, d3, _⟩ := all_law (m := m) hp hk hK ⟨by omega, by omega⟩ ea
    generalize (allC L.cap ls).1.2.1 = v at h d1 d2 d3 ⊢
    have ew : v ≤ 398 ∧ waitC v = (⟨waitL v, 1, 0⟩, 0) := by
     unfold waitC at h ⊢
     rw [if_neg (by omega)] at h ⊢
     by_cases h3 : 398 < v
     ·rw [if_pos h3] at h; cases h
     ·rw [if_neg h3]; exact ⟨by omega, rfl⟩
    rw [ew.2]
    intro t ht
    have hz0 : cvF ⟨waitL v, 1, 0⟩ (t - (t - v.toNat)) = 0 := by
     rw [cvF_low (by show _ < (waitL v).length; rw [waitL_len d1]; omega)]
     show nth (waitL v) _ = 0
     rw [waitL_nth d1 (by omega), if_neg (by omega)]
    exact ⟨t - v.toNat, by omega, by rw [hz0]; decide, by rw [hz0]; have := d3 t ht; dsimp only; omega⟩
 ·obtain ⟨G, s, p, q, hc, hfc, hS, _⟩ := send_serves (m := m) hL hp hk hK.len hK.keep hK.zlen hK.zb hK.sz h1 h
  rw [hc]
  intro t ht
  obtain ⟨a, a1, a2⟩ := hS t ht
  rw [cvF_fc hfc]
  exact ⟨a, a1, by have := hfc.bound (t - a); omega, a2⟩
end
end Go.Proofs.YthpblaoehlgpfaaGreat.M

/- A backlog that is found is one; what waits of a class that is served. Plain. No condition. -/
namespace Go.Proofs.YthpblaoehlgpfaaGreat.M
open Go Go.Proofs.YthpblaoehlgpfaaGreat.K
theorem ahead_snd {a b : Cv} (ha : validB a = true) (hb : validB b = true) (fa : finB a = true) {v p : Int} {d : Nat} (h : devN a b (gapA a b d) = ((false, v, p), 0)) : 0 ≤ v ∧ ∀ u, ¬ isInf b u → cvF a (u + d) - cvF b u ≤ v := by
 have s1 := stN_lt ha
 have s2 := stN_lt hb
 unfold devN at h
 by_cases hl : 120 < lcmC a b
 ·rw [if_pos hl] at h; exact absurd (show (3 : Int) = 0 from congrArg Prod.snd h) (by decide)
 rw [if_neg hl] at h
 by_cases hlo : loose a b
 ·rw [if_pos hlo] at h; exact absurd (show true = false from congrArg (fun x => x.1.1) h) (by decide)
 rw [if_neg hlo] at h
 have hw : greatW (gapA a b d) (max (stN a) (stN b) + lcmC a b) 0 0 0 = (false, v, p) := congrArg Prod.fst h
 have hsd := greatW_sound (f := gapA a b d) (max (stN a) (stN b) + lcmC a b) 0 0 0 (by rw [hw])
 rw [hw] at hsd
 dsimp only at hsd
 have hl0 := lcm_pos ha hb
 refine ⟨hsd.1, fun u hu => ?_⟩
 cases fb : finB b with
 | false =>
  obtain ⟨n, n1, n2, _⟩ := inf_at hb fb
  have hun : u < n := by
   apply Classical.byContradiction
   intro h; exact hu ((n2 u).2 (by omega))
  have := (hsd.2 u (Nat.zero_le _) (by omega)).2
  unfold gapA at this
  rw [if_neg hu] at this
  exact this
 | true =>
  have hg : gainC a (lcmC a b) ≤ gainC b (lcmC a b) := by
   apply Classical.byContradiction
   intro h; exact hlo ⟨fb, .inr (by omega)⟩
  obtain ⟨g1, g2⟩ := gains ha hb fa fb
  have key : ∀ u, cvF a (u + d) - cvF b u ≤ v := by
   intro u
   induction u using Nat.strongRecOn with
   | _ u ih =>
    by_cases h1 : u < max (stN a) (stN b) + lcmC a b
    ·have := (hsd.2 u (Nat.zero_le _) (by omega)).2
     unfold gapA at this
     rw [if_neg (isInf_fin fb _)] at this
     exact this
    ·have i2 := ih (u - lcmC a b) (by omega)
     have a1 := g1 (u - lcmC a b + d) (by omega)
     have a2 := g2 (u - lcmC a b) (by omega)
     rw [show u - lcmC a b + d + lcmC a b = u + d by omega] at a1
     rw [show u - lcmC a b + lcmC a b = u by omega] at a2
     omega
  exact key u
end Go.Proofs.YthpblaoehlgpfaaGreat.M

/- No queue of a class is greater than the backlog and the peak. Plain. No condition. -/
namespace Go.Proofs.YthpblaoehlgpfaaGreat.M
open Go Go.Proofs.YthpblaoehlgpfaaGreat.K
def backD (d : Nat) (a b : Cv) : (Bool × Int × Int) × Int := devN (normR a) (normR b) (gapA (normR a) (normR b) d)
theorem queue_law {L : Ln} {ps : List Pkt} {k m d : Nat} {ls : List Cv} {z : List Sz} (hm : m ≤ 2000) (hL : DrawOk L) (hp : P3 ps) (hk : k < 3) (hK : Kept ps ls z) {v p : Int} (h : measL (backD d) L k ls z = ((false, v, p), 0)) :
  0 ≤ v ∧ ∀ t : Nat, t ≤ m → pbytes k ((t + d : Nat) : Int) ps - nth (nth (sendL L m ps).2 k) t ≤ v := by
 unfold measL at h
 by_cases hc : (curveL L k ls z).2 ≠ 0
 ·rw [if_pos hc] at h; exact absurd (congrArg Prod.snd h) hc
 rw [if_neg hc, Int.toNat_natCast] at h
 have hc0 : (curveL L k ls z).2 = 0 := by
  apply Classical.byContradiction
  exact hc
 obtain ⟨hval, hs⟩ := serve_law hm hL hp hk hK hc0
 have hmem : nth ls k ∈ ls := nth_mem (by have := hK.len; omega)
 obtain ⟨ha, fa⟩ := hK.valid _ hmem
 have n1 := norm_valid ha
 have n2 := norm_valid hval
 obtain ⟨h0, h1⟩ := ahead_snd (d := d) n1.1 n2.1 (by rw [n1.2.2.2.1]; exact fa) h
 refine ⟨h0, fun t ht => ?_⟩
 obtain ⟨a, a1, a2, a3⟩ := hs t ht
 have a4 := h1 (t - a) (fun hi => by
  have := hi.2
  rw [n2.2.1] at this
  exact a2 this)
 rw [n1.2.1, n2.2.1] at a4
 have a5 := (hK.keep k hk).2.2 a (t + d) (by omega)
 rw [show t + d - a = t - a + d by omega] at a5
 omega
theorem queue_class {ps : List Pkt} {sent : List (List Int)} {k t m : Nat} (hs : sent.length = 3) (hl : ∀ l ∈ sent, l.length = m) (hk : k < 3) (ht : t < m) :
  queueR ps sent (k : Int) (t : Int) = (pbytes (k : Int) (t : Int) ps - nth (nth sent k) t, pbytes (k : Int) ((t : Int) + 1) ps - nth (nth sent k) t) := by
 match sent, hs with
 | [a, b, c], _ =>
  rw [queueR_is hl (by simp), if_neg (by simp only [List.length_cons, List.length_nil]; omega)]
  have e : selSum (k : Int) (t : Int) 0 [a, b, c] = nth (nth [a, b, c] k) t := by
   rcases (show k = 0 ∨ k = 1 ∨ k = 2 by omega) with rfl | rfl | rfl <;> simp [selSum, nth]
  rw [e]
end Go.Proofs.YthpblaoehlgpfaaGreat.M

/- A function made with any captured values. No condition. -/
namespace Go.Proofs.YthpblaoehlgpfaaGreat.K
open Go Go.RowKit
variable {P : Program} {T : Tab} {n : Nat} {env : Env} {w0 : World} {R : Ro} {E : List Ent} {o : Oper} {pc p q : Bool}
theorem Yl.makeFunc {fn : Go.Fn} {fi ca : List Operand} {us vs : List Value} (ho : o.op = .makeFunc fn fi.toArray ca.toArray) (hf : evs env fi = some (p, us)) (hc : evs env ca = some (q, vs)) (hpq : pc = true → (p && q) = true) : Yl P n env w0 R E o pc (.func fn us.toArray vs.toArray) := by
 intro a w hk hm hpc
 obtain ⟨h1, h2⟩ := and_both (hpq hpc)
 have e1 := evs_ok hk hf h1
 have e2 := evs_ok hk hc h2
 have e3 : fi.toArray.map a.eval = us.toArray := by rw [← e1]; simp
 have e4 : ca.toArray.map a.eval = vs.toArray := by rw [← e2]; simp
 unfold execOp
 rw [ho]
 simp only [Instr.makeFunc]
 rw [e3, e4]
 rfl
/-- a field of a value, of one cell -/
theorem Yl.field {t : TypeId} {x : Operand} {f : Nat} {ff : Array Field} {fl : Field} {cs : Array Value} {v : Value} {d : TD} (hT : TabOk P T) (ho : o.op = .field t x f) (hu : P.underlying t = some (.struct ff)) (hfl : ff[f]? = some fl) (hd : T.at fl.type = some d) (hk : d.k.known = true) (hka : d.k.agg = false)
  (hx : ev env x = some (p, .agg cs)) (hpq : pc = true → p = true) (hv : cs[fl.offset]? = some v) : Yl P n env w0 R E o pc v := by
 intro a w hk2 hm hpc
 have h1 := hk2.ev hx (hpq hpc)
 have h2 := run_isAgg hT hd (TK.ne_other hk) w
 unfold execOp
 rw [ho]
 simp [Instr.field, underlying, hu, hfl, h1, asAgg, part, h2, hka, hv]
/-- an owned slice lies within its room -/
theorem WL.cap {ops rest : List Oper} {Q : Exit → Act → World → Prop} {e : TypeId} {k : Nat} {a : Option Addr} {cap : Nat} {rows : List (List Value)} (i : Nat) (hE : E[i]? = some (.sl e k a cap rows)) (h : rows.length ≤ cap → WG false P ops Q rest n env w0 R E) : WG false P ops Q rest n env w0 R E := by
 intro ac w hk hm
 refine h ?_ ac w hk hm
 obtain ⟨g1, g2, h⟩ := own_sl hm (List.mem_of_getElem? hE)
 rcases h with ⟨_, h2, _⟩ | ⟨g, cur, _, _, _, hn, _⟩
 ·subst h2; exact Nat.zero_le _
 ·simpa using hn
theorem W.cap {c : Code} {Q : Exit → Act → World → Prop} {e : TypeId} {k : Nat} {a : Option Addr} {cap : Nat} {rows : List (List Value)} (i : Nat) (hE : E[i]? = some (.sl e k a cap rows)) (h : rows.length ≤ cap → W P c Q n env w0 R E) : W P c Q n env w0 R E := by
 intro ac w hk hm
 refine h ?_ ac w hk hm
 obtain ⟨g1, g2, h⟩ := own_sl hm (List.mem_of_getElem? hE)
 rcases h with ⟨_, h2, _⟩ | ⟨g, cur, _, _, _, hn, _⟩
 ·subst h2; exact Nat.zero_le _
 ·simpa using hn
theorem WS.callAt {ops : List Oper} {Q : Exit → Act → World → Prop} {ES : List Ent} {R0 : Ro} {fuel : Nat} {listed : Array Bool} {d : Nat} {f : FuncId} {vs : List Value} {e : Ent} {Post : Value → Ro → Ent → List Ent → Prop} (k : Nat) {i : Nat} (hi : ops.toArray[i]? = some o) (hf : Enters P f) (hg : o.guard = none) (hd : o.dst = some d) (hdn : d < n)
  (hc : CallOp env o.op true f vs) (hE : E[k]? = some e) (hv : Fn P f vs w0 R (e :: E.eraseIdx k) (fun v R' E' => ∃ e' N, E' = N ++ e' :: E.eraseIdx k ∧ Post v R' e' N))
  (h : ∀ v R' e' N, RLe R R' → Post v R' e' N → RLe R0 R' ∧ ES.Sublist (N ++ E.set k e') ∧ WA P ops Q ES R0 w0 fuel (listed.setIfInBounds i true) n ((d, true, v) :: env) R' (N ++ E.set k e')) : WS P ops Q ES R0 w0 fuel listed n env R E i := by
 intro a w hk hm
 unfold wpOp
 rw [hi]
 simp only [Region.wanted, hg, if_true]
 left
 unfold Oper.wp
 rw [run_call hk hc rfl hf]
 refine (hv w (hm.perm (perm_get hE))).mono ?_
 rintro e0 w' ⟨v, R', E', rfl, hR, hm', e', N, rfl, hp⟩
 obtain ⟨g1, g2, g3⟩ := h v R' e' N hR hp
 have hm2 := hm'.perm ((perm_set e' hE).append_left N)
 simp only [hd]
 exact ⟨hm2.sub g1 g2, g3 _ _ (hk.putT hdn v) hm2⟩
end Go.Proofs.YthpblaoehlgpfaaGreat.K

/- Rules: calls that hand back one value and leave memory, under any guard, in regions that draw their order and write; what is not wanted. No condition. -/
namespace Go.Proofs.YthpblaoehlgpfaaGreat.K
open Go Go.RowKit
section
variable {P : Program} {ops : List Oper} {o : Oper} {Q : Exit → Act → World → Prop} {ES : List Ent} {R0 : Ro} {w0 : World} {fuel : Nat} {listed : Array Bool} {n : Nat} {env : Env} {R : Ro} {E : List Ent} {pc q : Bool}
theorem WA.callV {v : Value} {d : Nat} {f : FuncId} {vs : List Value} (i : Nat) (hi : ops.toArray[i]? = some o) (hr : Region.ready .any ops.toArray listed = [i]) (hf : Enters P f) (hg : gpc ops env o = some pc) (hd : o.dst = some d) (hdn : d < n)
  (hc : CallOp env o.op q f vs) (hq : pc = true → q = true) (hv : pc = true → FnV P f vs R v) (hsub : ES.Sublist E) (hR : RLe R0 R)
  (h : WA P ops Q ES R0 w0 fuel (listed.setIfInBounds i true) n ((d, pc, v) :: env) R E) : WA P ops Q ES R0 w0 (fuel + 1) listed n env R E := by
 intro a w hk hm
 refine wpAnyH_all hr (by simp) fun j hj => ?_
 obtain rfl : j = i := by simpa using hj
 unfold wpOp
 rw [hi]
 have hput := hk.put hdn pc v
 have hw := hk.wanted hg
 cases pc with
 | true =>
  simp only [hw, if_true]
  left
  unfold Oper.wp
  rw [run_call hk hc (hq rfl) hf]
  refine (hv rfl w0 E w hm).mono ?_
  rintro e w' ⟨rfl, hm'⟩
  simp only [hd]
  exact ⟨hm'.sub hR hsub, h _ _ (by simpa using hput) hm'⟩
 | false =>
  simp only [hw, Bool.false_eq_true, if_false, hd]
  exact ⟨hm.sub hR hsub, h _ _ (by simpa using hput) hm⟩
theorem WS.callV {v : Value} {d : Nat} {f : FuncId} {vs : List Value} {i : Nat} (hi : ops.toArray[i]? = some o) (hf : Enters P f) (hg : gpc ops env o = some pc) (hd : o.dst = some d) (hdn : d < n)
  (hc : CallOp env o.op q f vs) (hq : pc = true → q = true) (hv : pc = true → FnV P f vs R v) (hsub : ES.Sublist E) (hR : RLe R0 R)
  (h : WA P ops Q ES R0 w0 fuel (listed.setIfInBounds i true) n ((d, pc, v) :: env) R E) : WS P ops Q ES R0 w0 fuel listed n env R E i := by
 intro a w hk hm
 unfold wpOp
 rw [hi]
 have hput := hk.put hdn pc v
 have hw := hk.wanted hg
 cases pc with
 | true =>
  simp only [hw, if_true]
  left
  unfold Oper.wp
  rw [run_call hk hc (hq rfl) hf]
  refine (hv rfl w0 E w hm).mono ?_
  rintro e w' ⟨rfl, hm'⟩
  simp only [hd]
  exact ⟨hm'.sub hR hsub, h _ _ (by simpa using hput) hm'⟩
 | false =>
  simp only [hw, Bool.false_eq_true, if_false, hd]
  exact ⟨hm.sub hR hsub, h _ _ (by simpa using hput) hm⟩
theorem Yl.off {v : Value} (h : pc = false) : Yl P n env w0 R E o pc v := fun _ _ _ _ hp => by rw [h] at hp; cases hp
end
end Go.Proofs.YthpblaoehlgpfaaGreat.K

/- Rules: maps of a few keys (make, insert, look up), values in interfaces, calls of methods. No condition. -/
namespace Go.Proofs.YthpblaoehlgpfaaGreat.K
open Go Go.RowKit
section
variable {P : Program} {T : Tab} {ops rest : List Oper} {Q : Exit → Act → World → Prop} {n : Nat} {env : Env} {w0 : World} {R : Ro} {E : List Ent} {o : Oper} {pc p q : Bool}
theorem under_map (hT : TabOk P T) {t k e : TypeId} {d : TD} (hd : T.at t = some d) (hk : d.k = .map k e) : P.underlying t = some (.map k e) := by
 have := hT.kind hd
 rw [hk] at this
 unfold kindOf at this
 split at this <;> simp_all
theorem under_int (hT : TabOk P T) {t : TypeId} {k : IntKind} {d : TD} (hd : T.at t = some d) (hk : d.k = .int k) : P.underlying t = some (.int k) := by
 have := hT.kind hd
 rw [hk] at this
 unfold kindOf at this
 split at this <;> simp_all
theorem Ef.makeMap {K : Value → Ro → List Ent → Prop} {t : TypeId} (ho : o.op = .makeMap t none) (hK : ∀ b, K (.map (some b)) R (.obj b (.map #[] 0) :: E)) : Ef P n env w0 R E o K := by
 intro a w hk hm
 refine ⟨_, w.alloc (.map #[] 0), R, _, .inl ?_, hm.newObj _, hK _⟩
 unfold execOp
 simp [ho, run_makeMap_plain]
theorem Ef.insert {K : Value → Ro → List Ent → Prop} {t kt et : TypeId} {x y z : Operand} {b clock : Nat} {es : Array MapEntry} {kk : IntKind} {k : Int} {v : Value} {d d2 : TD} (hT : TabOk P T) (ho : o.op = .insert t x y z) (hd : T.at t = some d) (hkd : d.k = .map kt et) (hd2 : T.at kt = some d2) (hk2 : d2.k = .int kk)
  (hx : ev env x = some (true, .map (some b))) (hy : ev env y = some (true, .int kk k)) (hz : ev env z = some (true, v)) (hf : Instr.findNow (.int kk) (.int kk k) es.toList 0 = some none)
  (hK : K undef R (.obj b (.map (es.push { key := .int kk k, val := v, born := clock }) (clock + 1)) :: E)) : Ef P n env w0 R (.obj b (.map es clock) :: E) o K := by
 intro a w hk hm
 have hb := hm.getObj
 have hm1 := under_map hT hd hkd
 have hu2 := under_int hT hd2 hk2
 have hc : (Instr.checkKey false 10000 kt (.int kk k)).run P w = .ok () w := MapKept.run_checkKey (k := .int kk k) hu2 (by simp [MapKept.IsKey]) false 9999
 refine ⟨undef, w.putObj b (.map (es.push { key := .int kk k, val := v, born := clock }) (clock + 1)), R, _, .inr ⟨?_, rfl⟩, hm.putObj _, hK⟩
 unfold execOp
 simp [ho, hk.ev hx rfl, hk.ev hy rfl, hk.ev hz rfl, Instr.mapUpdate, run_underlying hm1, MapKept.run_getObj_map hb, hc, MapKept.run_findKey hu2 hf, MapKept.run_setObj_map _ hb, Result.andThen, World.putObj]
def foundV (z : Value) : Option (Nat × Value) → Value
  | some (_, u) => .tuple #[u, .bool true]
  | none => .tuple #[z, .bool false]
theorem Yl.lookup {t kt et : TypeId} {x y : Operand} {b clock : Nat} {es : Array MapEntry} {kk : IntKind} {k : Int} {v z : Value} {d d2 : TD} {r : Option (Nat × Value)} (hT : TabOk P T) (ho : o.op = .lookup t x y true) (hd : T.at t = some d) (hkd : d.k = .map kt et) (hd2 : T.at kt = some d2) (hk2 : d2.k = .int kk) (hz : (P.info? et).bind (·.zero) = some z)
  (hx : ev env x = some (p, .map (some b))) (hy : ev env y = some (q, .int kk k)) (hpq : pc = true → (p && q) = true) (hf : Instr.findNow (.int kk) (.int kk k) es.toList 0 = some r)
  (hv : foundV z r = v) : Yl P n env w0 R (.obj b (.map es clock) :: E) o pc v := by
 intro a w hk hm hpc
 obtain ⟨h1, h2⟩ := and_both (hpq hpc)
 have hb := hm.getObj
 have hm1 := under_map hT hd hkd
 have hu2 := under_int hT hd2 hk2
 have hc : (Instr.checkKey es.isEmpty 10000 kt (.int kk k)).run P w = .ok () w := MapKept.run_checkKey (k := .int kk k) hu2 (by simp [MapKept.IsKey]) es.isEmpty 9999
 have hz' : (zeroValue et).run P w = .ok z w := by
  cases hi : P.info? et with
  | none => rw [hi] at hz; cases hz
  | some inf =>
   rw [hi] at hz
   have : inf.zero = some z := hz
   simp [zeroValue, typeInfo, hi, this]
 subst hv
 unfold execOp
 cases r with
 | none => simp [foundV, ho, hk.ev hx h1, hk.ev hy h2, Instr.lookup, run_underlying hm1, MapKept.run_getObj_map hb, hc, MapKept.run_findKey hu2 hf, hz', Result.andThen]
 | some r => simp [foundV, ho, hk.ev hx h1, hk.ev hy h2, Instr.lookup, run_underlying hm1, MapKept.run_getObj_map hb, hc, MapKept.run_findKey hu2 hf, Result.andThen]
theorem Yl.toIface {t : TypeId} {fs : List (Nat × Nat)} {x : Operand} {v : Value} {d : TD} (hT : TabOk P T) (ho : o.op = .makeInterface t x) (hd : T.at t = some d) (hk : d.k = .strct fs) (hx : ev env x = some (p, v)) (hpq : pc = true → p = true) : Yl P n env w0 R E o pc (.iface t v) := by
 intro a w hk2 hm hpc
 obtain ⟨ff, hu, _⟩ := hT.strct hd hk
 unfold execOp
 simp [ho, hk2.ev hx (hpq hpc), Instr.makeInterface, run_underlying hu]
/-- the method of what stands in an interface -/
def Meth (P : Program) (t : TypeId) (rv : Value) (name : String) (f : FuncId) (us : List Value) : Prop :=
  ∀ w, (callMethod (.iface t rv) name us.toArray).run P w = .ok (.enter f (rv :: us).toArray) w
theorem run_callI {a : Act} {w : World} (hk : Kn n env a) {x : Operand} {args : List Operand} {ats : Array TypeId} {name : String} {t : TypeId} {rv : Value} {f : FuncId} {us : List Value} (ho : o.op = .call { callee := .invoke x name, args := args.toArray, argTypes := ats })
  (hx : ev env x = some (true, .iface t rv)) (ha : evs env args = some (true, us)) (hm : Meth P t rv name f us) : (execOp a.eval o).run P w = .ok (.enter f (rv :: us).toArray) w := by
 have e1 := hk.ev hx rfl
 have e2 := evs_ok hk ha rfl
 have e3 : args.toArray.map a.eval = us.toArray := by rw [← e2]; simp
 have e4 : (#[Value.iface t rv] ++ us.toArray).extract 1 (#[Value.iface t rv] ++ us.toArray).size = us.toArray := by simp
 have e5 : (#[Value.iface t rv] ++ us.toArray)[0]? = some (.iface t rv) := by simp
 unfold execOp
 rw [ho]
 simp only [resolve, e1, e3, invoke, Sem.run_bind, Sem.run_pure, Result.andThen_ok]
 rw [e5]
 simp only [e4]
 exact hm w
theorem WL.callI {d : Nat} {x : Operand} {args : List Operand} {ats : Array TypeId} {name : String} {t : TypeId} {rv : Value} {f : FuncId} {us : List Value} {Post : Value → Ro → List Ent → Prop} (ho : o.op = .call { callee := .invoke x name, args := args.toArray, argTypes := ats }) (hg : o.guard = none) (hd : o.dst = some d) (hdn : d < n)
  (hx : ev env x = some (true, .iface t rv)) (ha : evs env args = some (true, us)) (hm : Meth P t rv name f us) (hv : Fn P f (rv :: us) w0 R E Post)
  (h : ∀ v R' E', RLe R R' → Post v R' E' → WG false P ops Q rest n ((d, true, v) :: env) w0 R' E') : WG false P ops Q (o :: rest) n env w0 R E := by
 intro a w hk hmm
 refine wpList_plain hg fun K hK => ?_
 unfold Oper.wp
 rw [run_callI hk ho hx ha hm]
 refine (hv w hmm).mono ?_
 rintro e w' ⟨v, R', E', rfl, hR, hm', hp⟩
 simp only [hd]
 exact hK _ _ (h v R' E' hR hp _ _ (hk.putT hdn v) hm')
theorem WA.freezeBlk {ES : List Ent} {R0 : Ro} {fuel : Nat} {listed : Array Bool} {b : Nat} {cs : List Value} (i : Nat) (hE : E[i]? = some (.blk b cs)) (h : ∀ R', RLe R R' → R' b = some cs → WA P ops Q ES R0 w0 fuel listed n env R' (E.eraseIdx i)) : WA P ops Q ES R0 w0 fuel listed n env R E := by
 intro a w hk hm
 obtain ⟨R', hR, hb, hm'⟩ := hm.freezeBlk hE
 exact h R' hR hb a w hk hm'
/-- what a run hands back, read only: the ticks and the bytes -/
def RunV (out : List Int × List (List Int)) (E : List Ent) (T : Value → Value) (v : Value) (R' : Ro) (E' : List Ent) : Prop :=
  ∃ (da oa : Option Addr) (dc oc : Nat) (rows : List M.Sl), v = T (.agg #[.slice da out.1.length dc, .slice oa rows.length oc]) ∧ RS R' 1 encI da out.1 ∧ RS R' 1 M.encS oa rows ∧ (∀ r ∈ rows, RS R' 1 encI r.a r.xs) ∧ rows.map M.Sl.xs = out.2 ∧ (∀ r ∈ rows, r.xs.length ≤ r.cap) ∧ E.Sublist E'
end
end Go.Proofs.YthpblaoehlgpfaaGreat.K

/- Chapter 22: the kinds, the numbers within, the lists. No condition. -/
namespace Go.Proofs.YthpblaoehlgpfaaGreat
open Go Go.RowKit Go.Proofs.YthpblaoehlgpfaaGreat.K
theorem qR {P : Prop} (h : P := by first | exact RLe.refl _ | assumption) : P := h
theorem qK {P : Prop} (h : P := by kernel_rfl) : P := h
theorem qD {P : Prop} (h : P := by decide) : P := h
theorem qA {P : Prop} (h : P := by intro _; constructor <;> (try dsimp only) <;> omega) : P := h
theorem qN {P : Prop} (h : P := by intro _; (try dsimp only) <;> omega) : P := h
theorem qP {P : Prop} (h : P := by intro h1 h2; simp_all <;> omega) : P := h
theorem qX {P : Prop} (h : P := by (try dsimp only) <;> omega) : P := h
theorem qU {P : Prop} (h : P := by assumption) : P := h
theorem qO {P : Prop} (h : P := by omega) : P := h
theorem qH {P : Prop} (h : P := by intro _; first | exact fun _ _ _ _ => rfl | exact RS.has (by assumption) | exact fun _ _ _ _ => (by assumption) | exact HasMem.ownD 0 rfl | exact HasMem.ownD 1 rfl | exact HasMem.ownD 2 rfl | exact HasMem.ownD 3 rfl | exact HasMem.ownD 4 rfl | exact HasMem.ownD 5 rfl | exact HasMem.ownD 6 rfl | exact HasMem.ownD 7 rfl | exact HasMem.ownD 8 rfl | exact HasMem.ownD 9 rfl | exact HasMem.ownD 10 rfl | exact HasMem.ownD 11 rfl) : P := h
theorem qI {P : Prop} (h : P := by first | exact fun _ _ _ _ => rfl | exact RS.has (by assumption) | exact fun _ _ _ _ => (by assumption) | exact HasMem.ownD 0 rfl | exact HasMem.ownD 1 rfl | exact HasMem.ownD 2 rfl | exact HasMem.ownD 3 rfl | exact HasMem.ownD 4 rfl | exact HasMem.ownD 5 rfl | exact HasMem.ownD 6 rfl | exact HasMem.ownD 7 rfl | exact HasMem.ownD 8 rfl | exact HasMem.ownD 9 rfl | exact HasMem.ownD 10 rfl | exact HasMem.ownD 11 rfl) : P := h
theorem zk : (∀ (p : Prop) [Decidable p], (decide p = true) = p) ∧ (∀ (p : Prop) [Decidable p], (decide p = false) ↔ ¬ p) ∧ (∀ (α : Type) [BEq α] [LawfulBEq α] (a b : α), (a == b) = true ↔ a = b) ∧ (∀ (α : Type) [BEq α] [LawfulBEq α] (a b : α), (a != b) = true ↔ a ≠ b) ∧ (∀ (α : Type) [BEq α] [LawfulBEq α] (a b : α), (a == b) = false ↔ a ≠ b) ∧ (∀ (α : Type) [BEq α] [LawfulBEq α] (a b : α), (a != b) = false ↔ a = b) ∧ (∀ (α : Type) (a b : α), (a ≠ b) = ¬ (a = b)) ∧ (∀ (a b : Bool), ((a || b) = true) = (a = true ∨ b = true)) ∧ (∀ (a b : Bool), (a || b) = false ↔ a = false ∧ b = false) ∧ (∀ (a b : Bool), ((a && b) = true) = (a = true ∧ b = true)) ∧ (∀ (a b : Bool), (a && b) = false ↔ (a = true → b = false)) ∧ (∀ (b : Bool), (¬ (b = true)) = (b = false)) ∧ (∀ (b : Bool), ((!b) = true) = (b = false)) ∧ (∀ (b : Bool), ((!b) = false) = (b = true)) ∧ (∀ (a : Prop), ¬ ¬ a ↔ a) ∧ (∀ (a b : Int), ¬ (a < b) ↔ b ≤ a) ∧ (∀ (a b : Int), ¬ (a ≤ b) ↔ b < a) ∧ (∀ (α : Type) [LT α] (x y : α), x > y ↔ y < x) ∧ (∀ (α : Type) [LE α] (x y : α), x ≥ y ↔ y ≤ x) := by
 refine ⟨by intros; first | exact decide_eq_true_eq | exact decide_eq_true_eq .. | simp, by intros; first | exact decide_eq_false_iff_not | exact decide_eq_false_iff_not .. | simp, by intros; first | exact beq_iff_eq | exact beq_iff_eq .. | simp, by intros; first | exact bne_iff_ne | exact bne_iff_ne .. | simp, by intros; first | exact beq_eq_false_iff_ne | exact beq_eq_false_iff_ne .. | simp, by intros; first | exact bne_eq_false_iff_eq | exact bne_eq_false_iff_eq .. | simp, by intros; first | exact ne_eq | exact ne_eq .. | simp, by intros; first | exact Bool.or_eq_true | exact Bool.or_eq_true .. | simp, by intros; first | exact Bool.or_eq_false_iff | exact Bool.or_eq_false_iff .. | simp, by intros; first | exact Bool.and_eq_true | exact Bool.and_eq_true .. | simp, by intros; first | exact Bool.and_eq_false_imp | exact Bool.and_eq_false_imp .. | simp, by intros; first | exact Bool.not_eq_true | exact Bool.not_eq_true .. | simp, by intros; first | exact Bool.not_eq_true' | exact Bool.not_eq_true' .. | simp, by intros; first | exact Bool.not_eq_false' | exact Bool.not_eq_false' .. | simp, by intros; first | exact Classical.not_not | exact Classical.not_not .. | simp, by intros; first | exact Int.not_lt | exact Int.not_lt .. | simp, by intros; first | exact Int.not_le | exact Int.not_le .. | simp, by intros; first | exact gt_iff_lt | exact gt_iff_lt .. | simp, by intros; first | exact ge_iff_le | exact ge_iff_le .. | simp⟩
end Go.Proofs.YthpblaoehlgpfaaGreat
namespace Go.Proofs.YthpblaoehlgpfaaGreat
open Go Go.RowKit Go.Proofs.YthpblaoehlgpfaaGreat.K
theorem tP {P : Program} {T : Tab} {n : Nat} {env : Env} {w0 : World} {R : Ro} {R0 : Ro} {E : List Ent} {ES : List Ent} {o : Oper} {pc : Bool} {q : Bool} {ops : List Oper} {Q : Exit → Act → World → Prop} {fuel : Nat} {listed : Array Bool} {v : Value} {d : Nat} (i : Nat) (h : WA P ops Q ES R0 w0 fuel (listed.setIfInBounds i true) n ((d, pc, v) :: env) R E) (hT : TabOk P T := by exact tab_ok) (hi : ops.toArray[i]? = some o := by exact rfl) (hs : Region.noSelect ops.toArray = true := by kernel_rfl) (hf : Region.free .any ops.toArray listed i = true := by kernel_rfl) (hr : (Region.ready .any ops.toArray listed).contains i = true := by kernel_rfl) (hg : gpc ops env o = some pc := by exact rfl) (hd : o.dst = some d := by exact rfl) (hdn : d < n := by decide) (hv : pureV T env o.op = some (q, v) := by exact rfl) (hq : pc = true → q = true := by exact fun _ => rfl) (hsub : ES.Sublist E := by (repeat (first | exact List.Sublist.refl _ | exact List.nil_sublist _ | apply List.Sublist.cons_cons | apply List.Sublist.cons)); done) (hR : RLe R0 R := by first | exact RLe.refl _ | assumption) : WA P ops Q ES R0 w0 (fuel + 1) listed n env R E := WA.take i hi hs hf hr hg hd hdn (pureV_ok hT hv hq) hsub hR h
theorem tL {P : Program} {T : Tab} {n : Nat} {env : Env} {w0 : World} {R : Ro} {R0 : Ro} {E : List Ent} {ES : List Ent} {o : Oper} {pc : Bool} {p : Bool} {ops : List Oper} {Q : Exit → Act → World → Prop} {fuel : Nat} {listed : Array Bool} {t : TypeId} {x : Operand} {ad : Addr} {cs : List Value} {dd : TD} {v : Value} {d : Nat} (i : Nat) (hrd : Rd R0 ES ad cs) (h : WA P ops Q ES R0 w0 fuel (listed.setIfInBounds i true) n ((d, pc, v) :: env) R E) (hT : TabOk P T := by exact tab_ok) (hi : ops.toArray[i]? = some o := by exact rfl) (hs : Region.noSelect ops.toArray = true := by kernel_rfl) (hf : Region.free .any ops.toArray listed i = true := by kernel_rfl) (hr : (Region.ready .any ops.toArray listed).contains i = true := by kernel_rfl) (hg : gpc ops env o = some pc := by exact rfl) (hd : o.dst = some d := by exact rfl) (hdn : d < n := by decide) (ho : o.op = .load t x := by exact rfl) (hdt : T.at t = some dd := by exact rfl) (hx : ev env x = some (p, .pointer (some ad)) := by exact rfl) (hp : pc = true → p = true := by exact fun _ => rfl) (hk : dd.k.known = true := by exact rfl) (hv : loadV dd cs = some v := by exact rfl) (hsub : ES.Sublist E := by (repeat (first | exact List.Sublist.refl _ | exact List.nil_sublist _ | apply List.Sublist.cons_cons | apply List.Sublist.cons)); done) (hR : RLe R0 R := by first | exact RLe.refl _ | assumption) : WA P ops Q ES R0 w0 (fuel + 1) listed n env R E := WA.take i hi hs hf hr hg hd hdn (Yl.load1 hT ho hdt hx hp hrd hk hv) hsub hR h
theorem tA {P : Program} {n : Nat} {env : Env} {w0 : World} {R : Ro} {R0 : Ro} {E : List Ent} {ES : List Ent} {o : Oper} {pc : Bool} {p : Bool} {q : Bool} {ops : List Oper} {Q : Exit → Act → World → Prop} {fuel : Nat} {listed : Array Bool} {t t2 : TypeId} {x y : Operand} {a b : Int} {d : Nat} (i : Nat) (h : WA P ops Q ES R0 w0 fuel (listed.setIfInBounds i true) n ((d, pc, .int .i64 (a + b)) :: env) R E) (hi : ops.toArray[i]? = some o := by exact rfl) (hs : Region.noSelect ops.toArray = true := by kernel_rfl) (hf : Region.free .any ops.toArray listed i = true := by kernel_rfl) (hr : (Region.ready .any ops.toArray listed).contains i = true := by kernel_rfl) (hg : gpc ops env o = some pc := by exact rfl) (hd : o.dst = some d := by exact rfl) (hdn : d < n := by decide) (ho : o.op = .binOp .add t x y t2 := by exact rfl) (hx : ev env x = some (p, .int .i64 a) := by exact rfl) (hy : ev env y = some (q, .int .i64 b) := by exact rfl) (hpq : pc = true → (p && q) = true := by exact fun _ => rfl) (hr2 : pc = true → InR (a + b) := by intro _; constructor <;> (try dsimp only) <;> omega) (hsub : ES.Sublist E := by (repeat (first | exact List.Sublist.refl _ | exact List.nil_sublist _ | apply List.Sublist.cons_cons | apply List.Sublist.cons)); done) (hR : RLe R0 R := by first | exact RLe.refl _ | assumption) : WA P ops Q ES R0 w0 (fuel + 1) listed n env R E := WA.take i hi hs hf hr hg hd hdn (Yl.add ho hx hy hpq hr2) hsub hR h
theorem tS {P : Program} {n : Nat} {env : Env} {w0 : World} {R : Ro} {R0 : Ro} {E : List Ent} {ES : List Ent} {o : Oper} {pc : Bool} {p : Bool} {q : Bool} {ops : List Oper} {Q : Exit → Act → World → Prop} {fuel : Nat} {listed : Array Bool} {t t2 : TypeId} {x y : Operand} {a b : Int} {d : Nat} (i : Nat) (h : WA P ops Q ES R0 w0 fuel (listed.setIfInBounds i true) n ((d, pc, .int .i64 (a - b)) :: env) R E) (hi : ops.toArray[i]? = some o := by exact rfl) (hs : Region.noSelect ops.toArray = true := by kernel_rfl) (hf : Region.free .any ops.toArray listed i = true := by kernel_rfl) (hr : (Region.ready .any ops.toArray listed).contains i = true := by kernel_rfl) (hg : gpc ops env o = some pc := by exact rfl) (hd : o.dst = some d := by exact rfl) (hdn : d < n := by decide) (ho : o.op = .binOp .sub t x y t2 := by exact rfl) (hx : ev env x = some (p, .int .i64 a) := by exact rfl) (hy : ev env y = some (q, .int .i64 b) := by exact rfl) (hpq : pc = true → (p && q) = true := by exact fun _ => rfl) (hr2 : pc = true → InR (a - b) := by intro _; constructor <;> (try dsimp only) <;> omega) (hsub : ES.Sublist E := by (repeat (first | exact List.Sublist.refl _ | exact List.nil_sublist _ | apply List.Sublist.cons_cons | apply List.Sublist.cons)); done) (hR : RLe R0 R := by first | exact RLe.refl _ | assumption) : WA P ops Q ES R0 w0 (fuel + 1) listed n env R E := WA.take i hi hs hf hr hg hd hdn (Yl.sub ho hx hy hpq hr2) hsub hR h
theorem yP {P : Program} {T : Tab} {n : Nat} {env : Env} {w0 : World} {R : Ro} {E : List Ent} {o : Oper} {pc : Bool} {q : Bool} {draw : Bool} {ops : List Oper} {rest : List Oper} {Q : Exit → Act → World → Prop} {v : Value} {d : Nat} (h : WG draw P ops Q rest n ((d, pc, v) :: env) w0 R E) (hT : TabOk P T := by exact tab_ok) (hg : gpc ops env o = some pc := by exact rfl) (hd : o.dst = some d := by exact rfl) (hdn : d < n := by decide) (hv : pureV T env o.op = some (q, v) := by exact rfl) (hq : pc = true → q = true := by first | exact fun _ => rfl | exact fun h => h | (intro h; simp_all)) : WG draw P ops Q (o :: rest) n env w0 R E := WG.y hg hd hdn (pureV_ok hT hv hq) h
theorem yL {P : Program} {T : Tab} {n : Nat} {env : Env} {w0 : World} {R : Ro} {E : List Ent} {o : Oper} {pc : Bool} {p : Bool} {draw : Bool} {ops : List Oper} {rest : List Oper} {Q : Exit → Act → World → Prop} {t : TypeId} {x : Operand} {ad : Addr} {cs : List Value} {dd : TD} {v : Value} {d : Nat} (hrd : Rd R E ad cs) (h : WG draw P ops Q rest n ((d, pc, v) :: env) w0 R E) (hT : TabOk P T := by exact tab_ok) (hg : gpc ops env o = some pc := by exact rfl) (hd : o.dst = some d := by exact rfl) (hdn : d < n := by decide) (ho : o.op = .load t x := by exact rfl) (hdt : T.at t = some dd := by exact rfl) (hx : ev env x = some (p, .pointer (some ad)) := by exact rfl) (hp : pc = true → p = true := by exact fun _ => rfl) (hk : dd.k.known = true := by exact rfl) (hv : loadV dd cs = some v := by exact rfl) : WG draw P ops Q (o :: rest) n env w0 R E := WG.y hg hd hdn (Yl.load1 hT ho hdt hx hp hrd hk hv) h
theorem yA {P : Program} {n : Nat} {env : Env} {w0 : World} {R : Ro} {E : List Ent} {o : Oper} {pc : Bool} {p : Bool} {q : Bool} {draw : Bool} {ops : List Oper} {rest : List Oper} {Q : Exit → Act → World → Prop} {t t2 : TypeId} {x y : Operand} {a b : Int} {d : Nat} (h : WG draw P ops Q rest n ((d, pc, .int .i64 (a + b)) :: env) w0 R E) (hg : gpc ops env o = some pc := by exact rfl) (hd : o.dst = some d := by exact rfl) (hdn : d < n := by decide) (ho : o.op = .binOp .add t x y t2 := by exact rfl) (hx : ev env x = some (p, .int .i64 a) := by exact rfl) (hy : ev env y = some (q, .int .i64 b) := by exact rfl) (hpq : pc = true → (p && q) = true := by exact fun _ => rfl) (hr2 : pc = true → InR (a + b) := by intro _; constructor <;> (try dsimp only) <;> omega) : WG draw P ops Q (o :: rest) n env w0 R E := WG.y hg hd hdn (Yl.add ho hx hy hpq hr2) h
theorem yS {P : Program} {n : Nat} {env : Env} {w0 : World} {R : Ro} {E : List Ent} {o : Oper} {pc : Bool} {p : Bool} {q : Bool} {draw : Bool} {ops : List Oper} {rest : List Oper} {Q : Exit → Act → World → Prop} {t t2 : TypeId} {x y : Operand} {a b : Int} {d : Nat} (h : WG draw P ops Q rest n ((d, pc, .int .i64 (a - b)) :: env) w0 R E) (hg : gpc ops env o = some pc := by exact rfl) (hd : o.dst = some d := by exact rfl) (hdn : d < n := by decide) (ho : o.op = .binOp .sub t x y t2 := by exact rfl) (hx : ev env x = some (p, .int .i64 a) := by exact rfl) (hy : ev env y = some (q, .int .i64 b) := by exact rfl) (hpq : pc = true → (p && q) = true := by exact fun _ => rfl) (hr2 : pc = true → InR (a - b) := by intro _; constructor <;> (try dsimp only) <;> omega) : WG draw P ops Q (o :: rest) n env w0 R E := WG.y hg hd hdn (Yl.sub ho hx hy hpq hr2) h
theorem zR {n : Nat} {env : Env} {w0 : World} {R : Ro} {E : List Ent} {draw : Bool} {ops : List Oper} {Q : Exit → Act → World → Prop} {l l' : List Oper} {env' : Env} (m : Nat) (h : runPure tab n m l env = (l', env')) (k : WG draw Tryz.prog ops Q l' n env' w0 R E) : WG draw Tryz.prog ops Q l n env w0 R E := WG.run tab_ok m h k
theorem zE {P : Program} {T : Tab} {n : Nat} {env : Env} {w0 : World} {R : Ro} {E : List Ent} {o : Oper} {ops : List Oper} {rest : List Oper} {Q : Exit → Act → World → Prop} {t : TypeId} {x y : Operand} {b : Nat} {cs : List Value} {v : Value} {dd : TD} (k : Nat) (h : WG false P ops Q rest n env w0 R (E.set k (.blk b (setSeg cs 0 (vcells v))))) (hT : TabOk P T := by exact tab_ok) (hg : o.guard = none := by exact rfl) (hd : o.dst = none := by exact rfl) (ho : o.op = .store t x y := by exact rfl) (hdt : T.at t = some dd := by exact rfl) (hx : ev env x = some (true, .pointer (some ⟨b, 0, none⟩)) := by exact rfl) (hy : ev env y = some (true, v) := by exact rfl) (hE : E[k]? = some (.blk b cs) := by exact rfl) (hl : Nat.beq (vcells v).length dd.size = true := by exact rfl) (hfit : Nat.ble dd.size cs.length = true := by exact rfl) (h1 : cells1 (vcells v) = true := by exact rfl) : WG false P ops Q (o :: rest) n env w0 R E := WL.efN hg hd (Ef.store0 k hT ho hdt hx hy hE hl hfit h1 h)
theorem zCE {P : Program} {T : Tab} {n : Nat} {env : Env} {w0 : World} {R : Ro} {R0 : Ro} {E : List Ent} {ES : List Ent} {o : Oper} {ops : List Oper} {Q : Exit → Act → World → Prop} {fuel : Nat} {listed : Array Bool} {t : TypeId} {x y : Operand} {b : Nat} {cs : List Value} {v : Value} {dd : TD} (i k : Nat) (h : WA P ops Q ES R0 w0 fuel (listed.setIfInBounds i true) n env R (E.set k (.blk b (setSeg cs 0 (vcells v))))) (hT : TabOk P T := by exact tab_ok) (hi : ops.toArray[i]? = some o := by exact rfl) (hr : Region.ready .any ops.toArray listed = [i] := by kernel_rfl) (hg : o.guard = none := by exact rfl) (hd : o.dst = none := by exact rfl) (ho : o.op = .store t x y := by exact rfl) (hdt : T.at t = some dd := by exact rfl) (hx : ev env x = some (true, .pointer (some ⟨b, 0, none⟩)) := by exact rfl) (hy : ev env y = some (true, v) := by exact rfl) (hE : E[k]? = some (.blk b cs) := by exact rfl) (hl : Nat.beq (vcells v).length dd.size = true := by exact rfl) (hfit : Nat.ble dd.size cs.length = true := by exact rfl) (h1 : cells1 (vcells v) = true := by exact rfl) (hR : RLe R0 R := by first | exact RLe.refl _ | assumption) (hsub : ES.Sublist (E.set k (.blk b (setSeg cs 0 (vcells v)))) := by (repeat (first | exact List.Sublist.refl _ | exact List.nil_sublist _ | apply List.Sublist.cons_cons | apply List.Sublist.cons)); done) : WA P ops Q ES R0 w0 (fuel + 1) listed n env R E := WA.effN i hi hr hg hd (Ef.store0 k hT ho hdt hx hy hE hl hfit h1 ⟨hR, hsub, h⟩)
theorem zF {P : Program} {T : Tab} {n : Nat} {env : Env} {w0 : World} {R : Ro} {E : List Ent} {o : Oper} {ops : List Oper} {rest : List Oper} {Q : Exit → Act → World → Prop} {t : TypeId} {x y : Operand} {b off : Nat} {cs : List Value} {v : Value} {dd : TD} (k : Nat) (h : WG false P ops Q rest n env w0 R (E.set k (.blk b (setSeg cs off (vcells v))))) (hT : TabOk P T := by exact tab_ok) (hg : o.guard = none := by exact rfl) (hd : o.dst = none := by exact rfl) (ho : o.op = .store t x y := by exact rfl) (hdt : T.at t = some dd := by exact rfl) (hx : ev env x = some (true, .pointer (some ((⟨b, 0, none⟩ : Addr).add off))) := by exact rfl) (hy : ev env y = some (true, v) := by exact rfl) (hE : E[k]? = some (.blk b cs) := by exact rfl) (hl : Nat.beq (vcells v).length dd.size = true := by exact rfl) (hfit : Nat.ble (off + dd.size) cs.length = true := by exact rfl) (h1 : cells1 (vcells v) = true := by exact rfl) : WG false P ops Q (o :: rest) n env w0 R E := WL.efN hg hd (Ef.store k hT ho hdt hx hy hE hl hfit h1 h)
theorem zCF {P : Program} {T : Tab} {n : Nat} {env : Env} {w0 : World} {R : Ro} {R0 : Ro} {E : List Ent} {ES : List Ent} {o : Oper} {ops : List Oper} {Q : Exit → Act → World → Prop} {fuel : Nat} {listed : Array Bool} {t : TypeId} {x y : Operand} {b off : Nat} {cs : List Value} {v : Value} {dd : TD} (i k : Nat) (h : WA P ops Q ES R0 w0 fuel (listed.setIfInBounds i true) n env R (E.set k (.blk b (setSeg cs off (vcells v))))) (hT : TabOk P T := by exact tab_ok) (hi : ops.toArray[i]? = some o := by exact rfl) (hr : Region.ready .any ops.toArray listed = [i] := by kernel_rfl) (hg : o.guard = none := by exact rfl) (hd : o.dst = none := by exact rfl) (ho : o.op = .store t x y := by exact rfl) (hdt : T.at t = some dd := by exact rfl) (hx : ev env x = some (true, .pointer (some ((⟨b, 0, none⟩ : Addr).add off))) := by exact rfl) (hy : ev env y = some (true, v) := by exact rfl) (hE : E[k]? = some (.blk b cs) := by exact rfl) (hl : Nat.beq (vcells v).length dd.size = true := by exact rfl) (hfit : Nat.ble (off + dd.size) cs.length = true := by exact rfl) (h1 : cells1 (vcells v) = true := by exact rfl) (hR : RLe R0 R := by first | exact RLe.refl _ | assumption) (hsub : ES.Sublist (E.set k (.blk b (setSeg cs off (vcells v)))) := by (repeat (first | exact List.Sublist.refl _ | exact List.nil_sublist _ | apply List.Sublist.cons_cons | apply List.Sublist.cons)); done) : WA P ops Q ES R0 w0 (fuel + 1) listed n env R E := WA.effN i hi hr hg hd (Ef.store k hT ho hdt hx hy hE hl hfit h1 ⟨hR, hsub, h⟩)
theorem lL {P : Program} {T : Tab} {n : Nat} {env : Env} {w0 : World} {R : Ro} {R0 : Ro} {E : List Ent} {ES : List Ent} {o : Oper} {p : Bool} {ops : List Oper} {Q : Exit → Act → World → Prop} {fuel : Nat} {listed : Array Bool} {t : TypeId} {x : Operand} {ad : Addr} {cs : List Value} {dd : TD} {v : Value} {d : Nat} (i : Nat) (hrd : Rd R E ad cs) (h : WA P ops Q ES R0 w0 fuel (listed.setIfInBounds i true) n ((d, true, v) :: env) R E) (hT : TabOk P T := by exact tab_ok) (hi : ops.toArray[i]? = some o := by exact rfl) (hr : Region.ready .any ops.toArray listed = [i] := by kernel_rfl) (hg : o.guard = none := by exact rfl) (hd : o.dst = some d := by exact rfl) (hdn : d < n := by decide) (ho : o.op = .load t x := by exact rfl) (hdt : T.at t = some dd := by exact rfl) (hx : ev env x = some (p, .pointer (some ad)) := by exact rfl) (hp : true = true → p = true := by exact fun _ => rfl) (hk : dd.k.known = true := by exact rfl) (hv : loadV dd cs = some v := by exact rfl) (hsub : ES.Sublist E := by (repeat (first | exact List.Sublist.refl _ | exact List.nil_sublist _ | apply List.Sublist.cons_cons | apply List.Sublist.cons)); done) (hR : RLe R0 R := by first | exact RLe.refl _ | assumption) : WA P ops Q ES R0 w0 (fuel + 1) listed n env R E := WA.yl i hi hr hg hd hdn (Yl.load1 (pc := true) hT ho hdt hx hp hrd hk hv) hsub hR h
theorem sL {P : Program} {T : Tab} {n : Nat} {env : Env} {w0 : World} {R : Ro} {R0 : Ro} {E : List Ent} {ES : List Ent} {o : Oper} {p : Bool} {ops : List Oper} {Q : Exit → Act → World → Prop} {fuel : Nat} {listed : Array Bool} {t : TypeId} {x : Operand} {ad : Addr} {cs : List Value} {dd : TD} {v : Value} {d i : Nat} (hrd : Rd R E ad cs) (h : WA P ops Q ES R0 w0 fuel (listed.setIfInBounds i true) n ((d, true, v) :: env) R E) (hT : TabOk P T := by exact tab_ok) (hi : ops.toArray[i]? = some o := by exact rfl) (hg : o.guard = none := by exact rfl) (hd : o.dst = some d := by exact rfl) (hdn : d < n := by decide) (ho : o.op = .load t x := by exact rfl) (hdt : T.at t = some dd := by exact rfl) (hx : ev env x = some (p, .pointer (some ad)) := by exact rfl) (hp : true = true → p = true := by exact fun _ => rfl) (hk : dd.k.known = true := by exact rfl) (hv : loadV dd cs = some v := by exact rfl) (hsub : ES.Sublist E := by (repeat (first | exact List.Sublist.refl _ | exact List.nil_sublist _ | apply List.Sublist.cons_cons | apply List.Sublist.cons)); done) (hR : RLe R0 R := by first | exact RLe.refl _ | assumption) : WS P ops Q ES R0 w0 fuel listed n env R E i := WS.yl hi hg hd hdn (Yl.load1 (pc := true) hT ho hdt hx hp hrd hk hv) hsub hR h
theorem zQ {P : Program} {n : Nat} {env : Env} {w0 : World} {R : Ro} {E : List Ent} {Q : Exit → Act → World → Prop} {x : Code} {y : Code} (h : W P x (Exit.then (y.wp P Q) Q) n env w0 R E) : W P (.seq x y) Q n env w0 R E := W.seq h
theorem zG {P : Program} {n : Nat} {env : Env} {w0 : World} {R : Ro} {E : List Ent} {Q : Exit → Act → World → Prop}  {id : Nat} {l : List Oper} (h : WG false P l Q l n env w0 R E) : W P (.region id l.toArray false) Q n env w0 R E := W.region id h
theorem zN {P : Program} {n : Nat} {env : Env} {w0 : World} {R : Ro} {E : List Ent} {draw : Bool} {ops : List Oper} {Q : Exit → Act → World → Prop}  (h : WE Q .normal n env w0 R E) : WG draw P ops Q [] n env w0 R E := WG.nil h
theorem zU {P : Program} {n : Nat} {env : Env} {w0 : World} {R : Ro} {E : List Ent} {Q : Exit → Act → World → Prop} {y : Code} (h : W P y Q n env w0 R E) : WE (Exit.then (y.wp P Q) Q) .normal n env w0 R E := WE.nxt h
theorem zB {P : Program} {n : Nat} {env : Env} {w0 : World} {R : Ro} {E : List Ent} {Q : Exit → Act → World → Prop} {x : Code} {id : Nat} (h : W P x (Exit.inBlock id Q) n env w0 R E) : W P (.block id x) Q n env w0 R E := W.block h
theorem zK {P : Program} {n : Nat} {env : Env} {w0 : World} {R : Ro} {E : List Ent} {Q : Exit → Act → World → Prop}  (h : WE Q .normal n env w0 R E) : W P .skip Q n env w0 R E := W.skip h
theorem zT {P : Program} {n : Nat} {env : Env} {w0 : World} {R : Ro} {E : List Ent} {Q : Exit → Act → World → Prop}  (h : WE Q .ret n env w0 R E) : W P .ret Q n env w0 R E := W.ret h
theorem wt {n : Nat} {env : Env} {w0 : World} {R : Ro} {E : List Ent} {Q : Exit → Act → World → Prop} {K : Act → World → Prop} (h : WE Q .ret n env w0 R E) : WE (Exit.then K Q) .ret n env w0 R E := WE.then_ret h
theorem wb {n : Nat} {env : Env} {w0 : World} {R : Ro} {E : List Ent} {Q : Exit → Act → World → Prop}  {id : Nat} (h : WE Q .ret n env w0 R E) : WE (Exit.inBlock id Q) .ret n env w0 R E := WE.blk_ret h
theorem wx {n : Nat} {env : Env} {w0 : World} {R : Ro} {E : List Ent} {Q : Exit → Act → World → Prop} {K : Act → World → Prop} {id : Nat} (h : WE Q (.exit id) n env w0 R E) : WE (Exit.then K Q) (.exit id) n env w0 R E := WE.then_exit h
theorem zY {n : Nat} {env : Env} {w0 : World} {R : Ro} {E : List Ent} {Q : Exit → Act → World → Prop}  {id : Nat} (h : WE Q .normal n env w0 R E) : WE (Exit.inBlock id Q) (.exit id) n env w0 R E := WE.blk_exit h
theorem zX {P : Program} {n : Nat} {env : Env} {w0 : World} {R : Ro} {E : List Ent} {Q : Exit → Act → World → Prop}  {id : Nat} (h : WE Q (.exit id) n env w0 R E) : W P (.exit id) Q n env w0 R E := W.exit h
theorem zL {n : Nat} {env : Env} {w0 : World} {R : Ro} {E : List Ent} {Q : Exit → Act → World → Prop}  {id : Nat} (h : WE Q .normal n env w0 R E) : WE (Exit.inBlock id Q) .normal n env w0 R E := WE.blk id h
theorem fE {P : Program} {f : FuncId} {fn : Func} {c : Code} {args : List Value} {Post : Value → Ro → List Ent → Prop} {w0 : World} {R : Ro} {E : List Ent} (n : Nat) (hf : P.funcs[f]? = some fn) (h : W P c (bodyPost P fn (FnR w0 R Post)) n (argEnv 0 args) w0 R E) (hb : fn.body = some c := by exact rfl) (hn : fn.ntmps = n := by exact rfl) (ha : args.length ≤ n := by exact Nat.le_of_ble_eq_true rfl) (hs : Nat.ble n 99999 = true := by exact rfl) : K.Fn P f args w0 R E Post := Fn.enter hf hb hn ha hs h
theorem zA {P : Program} {T : Tab} {n : Nat} {env : Env} {w0 : World} {R : Ro} {E : List Ent} {o : Oper} {ops : List Oper} {rest : List Oper} {Q : Exit → Act → World → Prop} {d : Nat} {t : TypeId} {dd : TD} (h : ∀ b, WG false P ops Q rest n ((d, true, (.pointer (some ⟨b, 0, none⟩))) :: env) w0 R (.blk b dd.zero :: E)) (hT : TabOk P T := by exact tab_ok) (hg : o.guard = none := by exact rfl) (hd : o.dst = some d := by exact rfl) (hdn : d < n := by decide) (ho : o.op = .alloc t := by exact rfl) (hdt : T.at t = some dd := by exact rfl) : WG false P ops Q (o :: rest) n env w0 R E := WL.ef hg hd hdn (Ef.alloc hT ho hdt h)
theorem zO {P : Program} {n : Nat} {env : Env} {w0 : World} {R : Ro} {E : List Ent} {o : Oper} {ops : List Oper} {rest : List Oper} {Q : Exit → Act → World → Prop} {d : Nat} {t : TypeId} {x : Operand} {v : Value} (h : ∀ b, WG false P ops Q rest n ((d, true, (.pointer (some ⟨b, 0, none⟩))) :: env) w0 R (.blk b (vcells v) :: E)) (hg : o.guard = none := by exact rfl) (hd : o.dst = some d := by exact rfl) (hdn : d < n := by decide) (ho : o.op = .box t x := by exact rfl) (hx : ev env x = some (true, v) := by exact rfl) : WG false P ops Q (o :: rest) n env w0 R E := WL.ef hg hd hdn (Ef.box ho hx h)
theorem yO {P : Program} {n : Nat} {env : Env} {w0 : World} {R : Ro} {E : List Ent} {o : Oper} {pc : Bool} {p : Bool} {q : Bool} {draw : Bool} {ops : List Oper} {rest : List Oper} {Q : Exit → Act → World → Prop} {x y : Operand} {b c : Bool} {d : Nat} (h : WG draw P ops Q rest n ((d, pc, .bool (b || c)) :: env) w0 R E) (hg : gpc ops env o = some pc := by exact rfl) (hd : o.dst = some d := by exact rfl) (hdn : d < n := by decide) (ho : o.op = .pick x (.const (.bool true)) y := by exact rfl) (hx : ev env x = some (p, .bool b) := by exact rfl) (hy : ev env y = some (q, .bool c) := by exact rfl) (hp : pc = true → p = true := by first | exact fun _ => rfl | exact fun h => h | (intro h; simp_all)) (hq : pc = true → b = false → q = true := by intro h1 h2; simp_all <;> omega) : WG draw P ops Q (o :: rest) n env w0 R E := WG.y hg hd hdn (Yl.por ho hx hy hp hq) h
theorem yN {P : Program} {n : Nat} {env : Env} {w0 : World} {R : Ro} {E : List Ent} {o : Oper} {pc : Bool} {p : Bool} {q : Bool} {draw : Bool} {ops : List Oper} {rest : List Oper} {Q : Exit → Act → World → Prop} {x y : Operand} {b c : Bool} {d : Nat} (h : WG draw P ops Q rest n ((d, pc, .bool (b && c)) :: env) w0 R E) (hg : gpc ops env o = some pc := by exact rfl) (hd : o.dst = some d := by exact rfl) (hdn : d < n := by decide) (ho : o.op = .pick x y (.const (.bool false)) := by exact rfl) (hx : ev env x = some (p, .bool b) := by exact rfl) (hy : ev env y = some (q, .bool c) := by exact rfl) (hp : pc = true → p = true := by first | exact fun _ => rfl | exact fun h => h | (intro h; simp_all)) (hq : pc = true → b = true → q = true := by intro h1 h2; simp_all <;> omega) : WG draw P ops Q (o :: rest) n env w0 R E := WG.y hg hd hdn (Yl.pand ho hx hy hp hq) h
theorem yG {P : Program} {T : Tab} {n : Nat} {env : Env} {w0 : World} {R : Ro} {E : List Ent} {o : Oper} {pc : Bool} {p : Bool} {draw : Bool} {ops : List Oper} {rest : List Oper} {Q : Exit → Act → World → Prop} {t : TypeId} {x : Operand} {ad : Addr} {cs : List Value} {dd : TD} {v : Value} {d : Nat} (hrd : True → Rd R E ad cs) (h : WG draw P ops Q rest n ((d, pc, v) :: env) w0 R E) (hT : TabOk P T := by exact tab_ok) (hg : gpc ops env o = some pc := by exact rfl) (hd : o.dst = some d := by exact rfl) (hdn : d < n := by decide) (ho : o.op = .load t x := by exact rfl) (hdt : T.at t = some dd := by exact rfl) (hx : ev env x = some (p, .pointer (some ad)) := by exact rfl) (hp : pc = true → p = true := by first | exact fun _ => rfl | exact fun h => h | (intro h; simp_all)) (hk : dd.k.known = true := by exact rfl) (hv : loadV dd cs = some v := by exact rfl) : WG draw P ops Q (o :: rest) n env w0 R E := WG.y hg hd hdn (Yl.loadG hT ho hdt hx hp hrd hk hv (fun _ => trivial)) h
theorem yR {P : Program} {T : Tab} {n : Nat} {env : Env} {w0 : World} {R : Ro} {E : List Ent} {o : Oper} {pc : Bool} {p : Bool} {draw : Bool} {ops : List Oper} {rest : List Oper} {Q : Exit → Act → World → Prop} {t : TypeId} {x : Operand} {ad : Addr} {cs : List Value} {dd : TD} {v : Value} {d : Nat} (h : WG draw P ops Q rest n ((d, pc, v) :: env) w0 R E) (hT : TabOk P T := by exact tab_ok) (hg : gpc ops env o = some pc := by exact rfl) (hd : o.dst = some d := by exact rfl) (hdn : d < n := by decide) (ho : o.op = .load t x := by exact rfl) (hdt : T.at t = some dd := by exact rfl) (hx : ev env x = some (p, .pointer (some ad)) := by exact rfl) (hp : pc = true → p = true := by exact fun _ => rfl) (hrd : Rd R E ad cs := by (apply RS.rdD; assumption; ((try dsimp only) <;> omega))) (hk : dd.k.known = true := by exact rfl) (hv : loadV dd cs = some v := by exact rfl) : WG draw P ops Q (o :: rest) n env w0 R E := WG.y hg hd hdn (Yl.load1 hT ho hdt hx hp hrd hk hv) h
theorem sE {n : Nat} {env : Env} {w0 : World} {R : Ro} {E : List Ent} {ES : List Ent} {Q : Exit → Act → World → Prop} {x : Exit} (h : WE Q x n env w0 R E) (hE : E.Sublist ES := by (repeat (first | exact List.Sublist.refl _ | exact List.nil_sublist _ | apply List.Sublist.cons_cons | apply List.Sublist.cons)); done) : WE Q x n env w0 R ES := WE.subE hE h
theorem qB {P : Prop} (h : P := by first | exact Rd.blk 0 rfl | exact Rd.blk 1 rfl | exact Rd.blk 2 rfl | exact Rd.blk 3 rfl | exact Rd.blk 4 rfl | exact Rd.blk 5 rfl | exact Rd.blk 6 rfl | exact Rd.blk 7 rfl | exact Rd.blk 8 rfl | exact Rd.blk 9 rfl | exact Rd.blk 10 rfl | exact Rd.blk 11 rfl | exact Rd.blk 12 rfl) : P := h
end Go.Proofs.YthpblaoehlgpfaaGreat
set_option maxRecDepth 4000
set_option linter.unusedSimpArgs false
set_option linter.unusedVariables false
namespace Go.Proofs.YthpblaoehlgpfaaGreat
open Go Go.RowKit Go.Proofs.YthpblaoehlgpfaaGreat.K Go.Proofs.YthpblaoehlgpfaaGreat.M

def kindI (k : Int) : Value := if k = 1 then .iface 112 (.agg #[]) else if k = 2 then .iface 113 (.agg #[]) else if k = 3 then .iface 114 (.agg #[]) else if k = 4 then .iface 115 (.agg #[]) else if k = 5 then .iface 116 (.agg #[]) else .nilIface
def kindB (k : Int) : Bool := decide (1 ≤ k) && decide (k ≤ 5)
def kindR (k : Int) : Option (Nat × Value) := if k = 1 then some (0, .iface 112 (.agg #[])) else if k = 2 then some (1, .iface 113 (.agg #[])) else if k = 3 then some (2, .iface 114 (.agg #[])) else if k = 4 then some (3, .iface 115 (.agg #[])) else if k = 5 then some (4, .iface 116 (.agg #[])) else none
theorem kind_find (k : Int) : Instr.findNow (.int .i64) (.int .i64 k) [{ key := .int .i64 1, val := .iface 112 (.agg #[]), born := 0 }, { key := .int .i64 2, val := .iface 113 (.agg #[]), born := 1 }, { key := .int .i64 3, val := .iface 114 (.agg #[]), born := 2 }, { key := .int .i64 4, val := .iface 115 (.agg #[]), born := 3 }, { key := .int .i64 5, val := .iface 116 (.agg #[]), born := 4 }] 0 = some (kindR k) := by
 unfold kindR
 by_cases h1 : k = 1
 ·subst h1; rfl
 ·by_cases h2 : k = 2
  ·subst h2; rfl
  ·by_cases h3 : k = 3
   ·subst h3; rfl
   ·by_cases h4 : k = 4
    ·subst h4; rfl
    ·by_cases h5 : k = 5
     ·subst h5; rfl
     ·have e1 : (k == 1) = false := by simpa using h1
      have e2 : (k == 2) = false := by simpa using h2
      have e3 : (k == 3) = false := by simpa using h3
      have e4 : (k == 4) = false := by simpa using h4
      have e5 : (k == 5) = false := by simpa using h5
      simp [Instr.findNow, Instr.sameNow, h1, h2, h3, h4, h5, e1, e2, e3, e4, e5]
theorem kind_hit (k : Int) : foundV .nilIface (kindR k) = .tuple #[kindI k, .bool (kindB k)] := by
 unfold kindR kindI kindB
 by_cases h1 : k = 1
 ·subst h1; rfl
 ·by_cases h2 : k = 2
  ·subst h2; rfl
  ·by_cases h3 : k = 3
   ·subst h3; rfl
   ·by_cases h4 : k = 4
    ·subst h4; rfl
    ·by_cases h5 : k = 5
     ·subst h5; rfl
     ·have : (decide (1 ≤ k) && decide (k ≤ 5)) = false := by simp only [Bool.and_eq_false_iff, decide_eq_false_iff_not]; omega
      simp [h1, h2, h3, h4, h5, this, foundV]

theorem Kind_V {R : Ro} (k : Int) : FnV Tryz.prog 44 [.int .i64 k] R (.tuple #[kindI k, .bool (kindB k)]) := by
 refine Fn.toV (fun w0 E => ?_)
 refine fE 25 Tryz.func44 ?_
 refine zQ (zG (zR 2 rfl (zN (zU (zQ (zG ?_))))))
 refine WL.ef rfl rfl qD (Ef.makeMap rfl (fun b7 => ?_))
 -- build
 refine WG.y rfl rfl qD (Yl.build (parts := []) tab_ok rfl rfl rfl rfl (fun _ => rfl) rfl rfl) ?_
 refine WG.y rfl rfl qD (Yl.toIface tab_ok rfl rfl rfl rfl (fun _ => rfl)) ?_
 refine WL.efN rfl rfl (Ef.insert tab_ok rfl rfl rfl rfl rfl rfl rfl rfl rfl ?_)
 -- build
 refine WG.y rfl rfl qD (Yl.build (parts := []) tab_ok rfl rfl rfl rfl (fun _ => rfl) rfl rfl) ?_
 refine WG.y rfl rfl qD (Yl.toIface tab_ok rfl rfl rfl rfl (fun _ => rfl)) ?_
 refine WL.efN rfl rfl (Ef.insert tab_ok rfl rfl rfl rfl rfl rfl rfl rfl rfl ?_)
 -- build
 refine WG.y rfl rfl qD (Yl.build (parts := []) tab_ok rfl rfl rfl rfl (fun _ => rfl) rfl rfl) ?_
 refine WG.y rfl rfl qD (Yl.toIface tab_ok rfl rfl rfl rfl (fun _ => rfl)) ?_
 refine WL.efN rfl rfl (Ef.insert tab_ok rfl rfl rfl rfl rfl rfl rfl rfl rfl ?_)
 -- build
 refine WG.y rfl rfl qD (Yl.build (parts := []) tab_ok rfl rfl rfl rfl (fun _ => rfl) rfl rfl) ?_
 refine WG.y rfl rfl qD (Yl.toIface tab_ok rfl rfl rfl rfl (fun _ => rfl)) ?_
 refine WL.efN rfl rfl (Ef.insert tab_ok rfl rfl rfl rfl rfl rfl rfl rfl rfl ?_)
 -- build
 refine WG.y rfl rfl qD (Yl.build (parts := []) tab_ok rfl rfl rfl rfl (fun _ => rfl) rfl rfl) ?_
 refine WG.y rfl rfl qD (Yl.toIface tab_ok rfl rfl rfl rfl (fun _ => rfl)) ?_
 refine WL.efN rfl rfl (Ef.insert tab_ok rfl rfl rfl rfl rfl rfl rfl rfl rfl ?_)
 refine zR 2 rfl ?_
 refine WG.y rfl rfl qD (Yl.lookup (r := kindR k) (v := .tuple #[kindI k, .bool (kindB k)]) tab_ok rfl rfl rfl rfl rfl rfl rfl rfl (fun _ => rfl) (kind_find k) (kind_hit k)) ?_
 refine zR 5 rfl (zN (zU (zQ (zG (zR 4 rfl (zN (zU (zT ?_))))))))
 refine sE (E := E) ?_
 refine WE.retF tab_ok [_, _] rfl ⟨rfl, rfl, trivial⟩ (RLe.refl _) ?_
 exact ⟨rfl, rfl⟩

theorem IndexI_V {R : Ro} {a : Option Addr} {c : Nat} {xs : List Int} {g : FuncId} {first capd : Array Value} {p : Int → Bool} (ha : RS R 1 encI a xs) (heg : Enters Tryz.prog g) (hp : ∀ i, i < xs.length → FnV Tryz.prog g (first.toList ++ [.int .i64 (nth xs i)] ++ capd.toList) R (.bool (p (nth xs i)))) :
  FnV Tryz.prog 223 [.slice a xs.length c, .func (.func g) first capd] R (.int .i64 (findN (fun i => p (nth xs i)) xs.length)) := by
 have hla := ha.len
 refine Fn.toV (fun w0 E => ?_)
 refine fE 19 Tryz.func223 ?_
 refine zQ (zG (zR 1 rfl (zN (zU (zQ (zQ (zG (zR 3 rfl (zN (zU (zB ?_)))))))))))
 refine W.loopK (β := Nat) (fun k => k ≤ xs.length ∧ ∀ i, i < k → p (nth xs i) = false) (fun k => [(8, true, .int .i64 (k : Int))]) [0, 1, 7] [_, _, _] [] _ rfl (fun k => []) (fun k => xs.length - k) (0) (⟨Nat.zero_le _, fun i hi => absurd hi (Nat.not_lt_zero i)⟩) ⟨rfl, rfl, rfl, rfl, rfl⟩ qS ?_
 intro k hst
 dsimp only [zipE, setAll, List.cons_append, List.nil_append, List.set_cons_zero, List.set_cons_succ] at hst ⊢
 obtain ⟨hk, hpre⟩ := hst
 refine zQ (zG (zR 1 rfl (zN (zU (zQ ?_)))))
 refine W.condD rfl (fun hc0 => ?_) (fun hc0 => ?_)
 ·try dsimp only at hc0
  refine zK (zU (zQ (zB (zQ (zG (zR 2 rfl (zN (zU (zQ (zG (zR 3 rfl ?_)))))))))))
  refine WG.y rfl rfl qD (Yl.indexN tab_ok rfl rfl rfl rfl rfl rfl (fun _ => rfl) qN qH) ?_
  refine yR ?_
  refine WG.callV (v := .bool (p (nth xs k))) heg rfl rfl qD (CallOp.mk' rfl rfl rfl rfl) (fun _ => rfl) (fun hg => hp k qO) ?_
  refine zN (zU ?_)
  refine W.cond rfl (fun hc1 => ?_) (fun hc1 => ?_)
  ·try simp only [zk] at hc1
   refine zQ (zG (zR 2 rfl (zN (zU (zT (wb (wt (wt (wb (wt ?_))))))))))
   refine sE (E := E) ?_
   refine WE.retF tab_ok [_] rfl ⟨rfl, trivial⟩ (RLe.refl _) ?_
   exact ⟨congrArg (Value.int IntKind.i64) (findN_some qO hc1 hpre).symm, rfl⟩
  ·try simp only [zk] at hc1
   refine zK (zL (zU (zG ?_)))
   refine yA ?_
   refine zR 1 rfl (zN ?_)
   refine WE.again (k + 1) (⟨by omega, fun i hi => by rcases Nat.lt_or_ge i k with h | h; exact hpre i h; rw [show i = k by omega]; simpa using hc1⟩) (by (try dsimp only); omega) ⟨rfl, rfl, rfl, rfl, rfl⟩ (RLe.refl _) qS
 ·try dsimp only at hc0
  refine zX ?_
  refine wx (wx (zY (zU (zQ (zG (zR 1 rfl (zN (zU (zT ?_)))))))))
  refine sE (E := E) ?_
  refine WE.retF tab_ok [_] rfl ⟨rfl, trivial⟩ (RLe.refl _) ?_
  exact ⟨congrArg (Value.int IntKind.i64) (findN_none (fun j hj => hpre j qO)).symm, rfl⟩

theorem ContainsI_V {R : Ro} {a : Option Addr} {c : Nat} {xs : List Int} {g : FuncId} {first capd : Array Value} {p : Int → Bool} (ha : RS R 1 encI a xs) (heg : Enters Tryz.prog g) (hp : ∀ i, i < xs.length → FnV Tryz.prog g (first.toList ++ [.int .i64 (nth xs i)] ++ capd.toList) R (.bool (p (nth xs i)))) :
  FnV Tryz.prog 213 [.slice a xs.length c, .func (.func g) first capd] R (.bool (decide (0 ≤ findN (fun i => p (nth xs i)) xs.length))) := by
 refine Fn.toV (fun w0 E => ?_)
 refine fE 9 Tryz.func213 ?_
 refine zQ (zG (zR 1 rfl (zN (zU (zQ (zG (zR 2 rfl ?_)))))))
 refine WG.callV en223 rfl rfl qD (CallOp.mk' rfl rfl rfl rfl) (fun _ => rfl) (fun hg => IndexI_V ha heg hp) ?_
 refine zR 2 rfl (zN (zU (zT ?_)))
 refine sE (E := E) ?_
 refine WE.retF tab_ok [_] rfl ⟨rfl, trivial⟩ (RLe.refl _) ?_
 exact ⟨rfl, rfl⟩

theorem Within1_V {R : Ro} {b4 b5 : Nat} {lo hi x : Int} (h4 : R b4 = some [.int .i64 lo]) (h5 : R b5 = some [.int .i64 hi]) :
  FnV Tryz.prog 214 [.int .i64 x, .pointer (some ⟨b4, 0, none⟩), .pointer (some ⟨b5, 0, none⟩)] R (.bool (outB lo hi x)) := by
 refine Fn.toV (fun w0 E => ?_)
 refine fE 13 Tryz.func214 ?_
 refine zQ (zG (zR 1 rfl (zN (zU (zQ (zG (zR 1 rfl ?_)))))))
 refine' WG.y rfl rfl qD (Yl.load1 tab_ok rfl rfl rfl (fun _ => rfl) ?r1 rfl ?h1) ?_
 case r1 => exact Rd.ro h4
 case h1 => rfl
 refine zR 2 rfl ?_
 refine yP ?_
 refine' WG.y rfl rfl qD (Yl.loadG tab_ok rfl rfl rfl qE ?r2 rfl ?h2 ?g2) ?_
 case r2 => exact fun (_ : True) => Rd.ro h5
 case h2 => rfl
 case g2 => exact fun _ => trivial
 refine yP ?_
 refine yO ?_
 refine zR 1 rfl (zN (zU (zT ?_)))
 refine sE (E := E) ?_
 refine WE.retF tab_ok [_] rfl ⟨rfl, trivial⟩ (RLe.refl _) ?_
 exact ⟨by unfold outB; rfl, rfl⟩

theorem Within_V {R : Ro} {a : Option Addr} {c l : Nat} {xs : List Int} {lo hi : Int} (ha : RS R 1 encI a xs) (hl : xs.length = l) :
  FnV Tryz.prog 210 [.slice a l c, .int .i64 lo, .int .i64 hi] R (.bool (withinB xs lo hi)) := by
 subst hl
 refine Fn.toV (fun w0 E => ?_)
 refine fE 11 Tryz.func210 ?_
 refine zQ (zG ?_)
 refine zO fun b4 => ?_
 refine zO fun b5 => ?_
 refine zR 1 rfl (zN (zU ?_))
 refine W.freezeBlk (b := b4) 1 rfl (fun R1 hR1 hb1 => ?_)
 refine W.freezeBlk (b := b5) 0 rfl (fun R2 hR2 hb2 => ?_)
 refine zQ (zG (zR 2 rfl ?_))
 refine WG.callV en213 rfl rfl qD (CallOp.mk' rfl rfl rfl rfl) (fun _ => rfl) (fun hg => ContainsI_V (ha.mono (hR1.trans hR2)) en214 (fun i hi => Within1_V (hR2 _ _ hb1) hb2)) ?_
 refine zR 2 rfl (zN (zU (zT ?_)))
 refine sE (E := E) ?_
 refine WE.retF tab_ok [_] rfl ⟨rfl, trivial⟩ (hR1.trans hR2) ?_
 exact ⟨congrArg Value.bool within_find, rfl⟩

theorem Lists_V {R : Ro} {a : Option Addr} {c : Nat} {rows : List Sl} {b : Bool} (ha : RS R 1 encS a rows) :
  FnV Tryz.prog 187 [.bool b, .slice a rows.length c] R (.int .i64 (listsE b (rows.map Sl.xs))) := by
 have hla := ha.len
 refine Fn.toV (fun w0 E => ?_)
 refine fE 19 Tryz.func187 ?_
 refine zQ (zG (zR 1 rfl (zN (zU (zQ (zQ (zG (zR 2 rfl (zN (zU ?_))))))))))
 refine W.cond rfl (fun hc0 => ?_) (fun hc0 => ?_)
 ·try simp only [zk] at hc0
  refine zQ (zG (zR 1 rfl (zN (zU (zT (wt ?_))))))
  refine sE (E := E) ?_
  refine WE.retF tab_ok [_] rfl ⟨rfl, trivial⟩ (RLe.refl _) ?_
  exact ⟨by rw [show listsE b (rows.map Sl.xs) = 2 by simp [hc0, listsE]]; rfl, rfl⟩
 ·try simp only [zk] at hc0
  refine zK (zU (zQ (zQ (zG (zR 3 rfl (zN (zU (zB ?_))))))))
  refine W.loopK (β := Nat) (fun k => k ≤ rows.length ∧ ∀ i, i < k → (nth rows i).xs.length = 0) (fun k => [(11, true, .int .i64 (k : Int))]) [9, 10] [_, _] [] _ rfl (fun k => []) (fun k => rows.length - k) (0) (⟨Nat.zero_le _, fun i hi => absurd hi (Nat.not_lt_zero i)⟩) ⟨rfl, rfl, rfl, rfl⟩ qS ?_
  intro k hst
  dsimp only [zipE, setAll, List.cons_append, List.nil_append, List.set_cons_zero, List.set_cons_succ] at hst ⊢
  obtain ⟨hk, hpre⟩ := hst
  refine zQ (zG (zR 1 rfl (zN (zU (zQ ?_)))))
  refine W.condD rfl (fun hc1 => ?_) (fun hc1 => ?_)
  ·try dsimp only at hc1
   refine zK (zU (zQ (zB (zQ (zG ?_)))))
   refine WG.y rfl rfl qD (Yl.indexN tab_ok rfl rfl rfl rfl rfl rfl (fun _ => rfl) qN qH) ?_
   refine yR ?_
   refine zR 1 rfl (zN (zU (zQ (zG (zR 3 rfl (zN (zU ?_)))))))
   refine W.condD rfl (fun hc2 => ?_) (fun hc2 => ?_)
   ·try dsimp only at hc2
    refine zQ (zG (zR 1 rfl (zN (zU (zT (wb (wt (wt (wb (wt ?_))))))))))
    refine sE (E := E) ?_
    refine WE.retF tab_ok [_] rfl ⟨rfl, trivial⟩ (RLe.refl _) ?_
    have hb : b = true := by simpa using hc0
    exact ⟨by unfold listsE; rw [if_neg (by simp [hb]), if_pos (List.any_eq_true.2 ⟨(nth rows k).xs, List.mem_map.2 ⟨_, nth_mem (xs := rows) (k := k) (by omega), rfl⟩, by simp; omega⟩)]; rfl, rfl⟩
   ·try dsimp only at hc2
    refine zK (zL (zU (zG ?_)))
    refine yA ?_
    refine zR 1 rfl (zN ?_)
    refine WE.again (k + 1) (⟨by omega, fun i hi => by rcases Nat.lt_or_ge i k with h | h; exact hpre i h; rw [show i = k by omega]; omega⟩) (by (try dsimp only); omega) ⟨rfl, rfl, rfl, rfl⟩ (RLe.refl _) qS
  ·try dsimp only at hc1
   refine zX ?_
   refine wx (wx (zY (zU (zQ (zG (zR 1 rfl (zN (zU (zT ?_)))))))))
   refine sE (E := E) ?_
   refine WE.retF tab_ok [_] rfl ⟨rfl, trivial⟩ (RLe.refl _) ?_
   have hb : b = true := by simpa using hc0
   have hno : ((rows.map Sl.xs).any fun r => decide (0 < r.length)) = false := by
    rw [List.any_eq_false]
    intro r hr
    obtain ⟨x, hx, rfl⟩ := List.mem_map.1 hr
    obtain ⟨i, hi, rfl⟩ := List.getElem_of_mem hx
    have := hpre i (by omega)
    rw [show nth rows i = rows[i] by unfold nth List.getD; rw [List.getElem?_eq_getElem hi]; rfl] at this
    simp [this]
   exact ⟨by unfold listsE; rw [if_neg (by simp [hb]), hno]; rfl, rfl⟩



theorem ChkFifo_V {R : Ro} {aw at_ : Option Addr} {lw cw lt ct : Nat} {L : Ln} (hw : RS R 1 encI aw L.w) (hlw : L.w.length = lw) (ht : RS R 1 encI at_ L.tb) (hlt : L.tb.length = lt) (hn : 1 ≤ L.n ∧ L.n ≤ 6) : FnV Tryz.prog 184 [.agg #[], .agg #[.int .i64 L.kind, .int .i64 L.cap, .int .i64 L.n, .slice aw lw cw, .slice at_ lt ct]] R (.int .i64 (listsE true [L.w, L.tb])) := by
 subst hlw
 subst hlt
 have hw1 := hw.len
 have ht1 := ht.len
 refine Fn.toV (fun w0 E => ?_)
 refine fE 11 Tryz.func184 ?_
 refine zQ (zG ?_)
 refine zO fun b2 => ?_
 refine zO fun b3 => ?_
 refine zR 1 rfl (zN (zU (zQ (zG (zR 1 rfl ?_)))))
 refine yL (Rd.add (Rd.blk 0 rfl) _) ?_
 refine zR 1 rfl ?_
 refine yL (Rd.add (Rd.blk 0 rfl) _) ?_
 refine WL.ef rfl rfl qD (Ef.buildSliceD (enc := encS) (parts := [.tmp 6, .tmp 8]) [⟨_, _, _⟩, ⟨_, _, _⟩] tab_ok rfl rfl rfl rfl rfl rfl rfl rfl qD qD (fun a9 => ?_))
 refine WL.freeze (enc := encS) (xs := [⟨aw, cw, L.w⟩, ⟨at_, ct, L.tb⟩]) 0 rfl ?_
 intro R1 hR1 hz
 refine WG.callV en187 rfl rfl qD (CallOp.mk' rfl rfl rfl rfl) (fun _ => rfl) (fun hg => Lists_V (rows := [⟨aw, cw, L.w⟩, ⟨at_, ct, L.tb⟩]) hz) ?_
 refine zR 1 rfl (zN (zU (zT ?_)))
 refine sE (E := E) ?_
 refine WE.retF tab_ok [_] rfl ⟨rfl, trivial⟩ (hR1) ?_
 exact ⟨rfl, rfl⟩

theorem ChkRanks_V {R : Ro} {aw at_ : Option Addr} {lw cw lt ct : Nat} {L : Ln} (hw : RS R 1 encI aw L.w) (hlw : L.w.length = lw) (ht : RS R 1 encI at_ L.tb) (hlt : L.tb.length = lt) (hn : 1 ≤ L.n ∧ L.n ≤ 6) : FnV Tryz.prog 193 [.agg #[], .agg #[.int .i64 L.kind, .int .i64 L.cap, .int .i64 L.n, .slice aw lw cw, .slice at_ lt ct]] R (.int .i64 (listsE true [L.w, L.tb])) := by
 subst hlw
 subst hlt
 have hw1 := hw.len
 have ht1 := ht.len
 refine Fn.toV (fun w0 E => ?_)
 refine fE 11 Tryz.func193 ?_
 refine zQ (zG ?_)
 refine zO fun b2 => ?_
 refine zO fun b3 => ?_
 refine zR 1 rfl (zN (zU (zQ (zG (zR 1 rfl ?_)))))
 refine yL (Rd.add (Rd.blk 0 rfl) _) ?_
 refine zR 1 rfl ?_
 refine yL (Rd.add (Rd.blk 0 rfl) _) ?_
 refine WL.ef rfl rfl qD (Ef.buildSliceD (enc := encS) (parts := [.tmp 6, .tmp 8]) [⟨_, _, _⟩, ⟨_, _, _⟩] tab_ok rfl rfl rfl rfl rfl rfl rfl rfl qD qD (fun a9 => ?_))
 refine WL.freeze (enc := encS) (xs := [⟨aw, cw, L.w⟩, ⟨at_, ct, L.tb⟩]) 0 rfl ?_
 intro R1 hR1 hz
 refine WG.callV en187 rfl rfl qD (CallOp.mk' rfl rfl rfl rfl) (fun _ => rfl) (fun hg => Lists_V (rows := [⟨aw, cw, L.w⟩, ⟨at_, ct, L.tb⟩]) hz) ?_
 refine zR 1 rfl (zN (zU (zT ?_)))
 refine sE (E := E) ?_
 refine WE.retF tab_ok [_] rfl ⟨rfl, trivial⟩ (hR1) ?_
 exact ⟨rfl, rfl⟩

theorem ChkRobin_V {R : Ro} {aw at_ : Option Addr} {lw cw lt ct : Nat} {L : Ln} (hw : RS R 1 encI aw L.w) (hlw : L.w.length = lw) (ht : RS R 1 encI at_ L.tb) (hlt : L.tb.length = lt) (hn : 1 ≤ L.n ∧ L.n ≤ 6) : FnV Tryz.prog 207 [.agg #[], .agg #[.int .i64 L.kind, .int .i64 L.cap, .int .i64 L.n, .slice aw lw cw, .slice at_ lt ct]] R (.int .i64 (listsE (decide ((L.w.length : Int) = L.n) && withinB L.w 1 20) [L.tb])) := by
 subst hlw
 subst hlt
 have hw1 := hw.len
 have ht1 := ht.len
 refine Fn.toV (fun w0 E => ?_)
 refine fE 20 Tryz.func207 ?_
 refine zQ (zG ?_)
 refine zO fun b2 => ?_
 refine zO fun b3 => ?_
 refine zR 1 rfl (zN (zU (zQ ?_)))
 refine W.regionH _ (ES := (.blk b3 [.int .i64 L.kind, .int .i64 L.cap, .int .i64 L.n, .slice aw L.w.length cw, .slice at_ L.tb.length ct] :: .blk b2 [] :: E)) mixed ?_
 refine tP 0 ?_
 refine tL 1 (Rd.add (Rd.blk 0 rfl) _) ?_
 refine tP 2 ?_
 refine tP 3 ?_
 refine tL 4 (Rd.add (Rd.blk 0 rfl) _) ?_
 refine tP 5 ?_
 refine tP 6 ?_
 refine WA.take 7 rfl qK qK qK rfl rfl qD (pureV_ok tab_ok rfl qE) qS qR ?_
 refine' WA.take 8 rfl qK qK qK rfl rfl qD (Yl.loadG tab_ok rfl rfl rfl qE ?r3 rfl ?h3 ?g3) qS qR ?_
 case r3 => apply Rd.addC; (exact Rd.blkC 0 rfl)
 case h3 => rfl
 case g3 => exact fun _ => trivial
 refine tP 11 ?_
 refine tL 12 (Rd.add (Rd.blk 0 rfl) _) ?_
 refine WA.br2 (i := 9) (j := 13) qK ?_ ?_
 ·
  refine WS.callV rfl en210 rfl rfl qD (CallOp.mk' rfl rfl rfl rfl) qE (fun hg => Within_V (by first | exact hw | exact hw.mono hR1) rfl) qS qR ?_
  refine WA.take 10 rfl (by kernel_rfl) (by kernel_rfl) (by kernel_rfl) rfl rfl (by decide) (Yl.pand rfl rfl rfl (fun _ => rfl) (by intro h1 h2; simp_all <;> omega)) qS (by first | exact RLe.refl _ | assumption) ?_
  refine WA.eff 13 rfl qK rfl rfl qD (Ef.buildSliceD (enc := encS) (parts := [.tmp 17]) [⟨_, _, _⟩] tab_ok rfl rfl rfl rfl rfl rfl rfl rfl qD qD (fun a18 => ?_))
  refine ⟨qR, qS, ?_⟩
  refine WA.freeze (enc := encS) (xs := [⟨at_, ct, L.tb⟩]) 0 rfl ?_
  intro R1 hR1 hz
  refine WA.callV 14 rfl qK en187 rfl rfl qD (CallOp.mk' rfl rfl rfl rfl) (fun _ => rfl) (fun hg => Lists_V (rows := [⟨at_, ct, L.tb⟩]) hz) qS qR ?_
  refine tP 15 ?_
  refine WA.done qK ?_
  refine zU (zT ?_)
  refine sE (E := E) ?_
  refine WE.retF tab_ok [_] rfl ⟨rfl, trivial⟩ (hR1) ?_
  exact ⟨rfl, rfl⟩
 ·
  refine WS.eff rfl rfl rfl qD (Ef.buildSliceD (enc := encS) (parts := [.tmp 17]) [⟨_, _, _⟩] tab_ok rfl rfl rfl rfl rfl rfl rfl rfl qD qD (fun a18 => ?_))
  refine ⟨qR, qS, ?_⟩
  refine WA.freeze (enc := encS) (xs := [⟨at_, ct, L.tb⟩]) 0 rfl ?_
  intro R1 hR1 hz
  refine WA.callV 9 rfl qK en210 rfl rfl qD (CallOp.mk' rfl rfl rfl rfl) qE (fun hg => Within_V (by first | exact hw | exact hw.mono hR1) rfl) qS qR ?_
  refine WA.take 10 rfl (by kernel_rfl) (by kernel_rfl) (by kernel_rfl) rfl rfl (by decide) (Yl.pand rfl rfl rfl (fun _ => rfl) (by intro h1 h2; simp_all <;> omega)) qS (by first | exact RLe.refl _ | assumption) ?_
  refine WA.callV 14 rfl qK en187 rfl rfl qD (CallOp.mk' rfl rfl rfl rfl) (fun _ => rfl) (fun hg => Lists_V (rows := [⟨at_, ct, L.tb⟩]) hz) qS qR ?_
  refine tP 15 ?_
  refine WA.done qK ?_
  refine zU (zT ?_)
  refine sE (E := E) ?_
  refine WE.retF tab_ok [_] rfl ⟨rfl, trivial⟩ (hR1) ?_
  exact ⟨rfl, rfl⟩

theorem ChkDef_V {R : Ro} {aw at_ : Option Addr} {lw cw lt ct : Nat} {L : Ln} (hw : RS R 1 encI aw L.w) (hlw : L.w.length = lw) (ht : RS R 1 encI at_ L.tb) (hlt : L.tb.length = lt) (hn : 1 ≤ L.n ∧ L.n ≤ 6) : FnV Tryz.prog 224 [.agg #[], .agg #[.int .i64 L.kind, .int .i64 L.cap, .int .i64 L.n, .slice aw lw cw, .slice at_ lt ct]] R (.int .i64 (listsE (decide ((L.w.length : Int) = L.n) && withinB L.w 1 6000) [L.tb])) := by
 subst hlw
 subst hlt
 have hw1 := hw.len
 have ht1 := ht.len
 refine Fn.toV (fun w0 E => ?_)
 refine fE 20 Tryz.func224 ?_
 refine zQ (zG ?_)
 refine zO fun b2 => ?_
 refine zO fun b3 => ?_
 refine zR 1 rfl (zN (zU (zQ ?_)))
 refine W.regionH _ (ES := (.blk b3 [.int .i64 L.kind, .int .i64 L.cap, .int .i64 L.n, .slice aw L.w.length cw, .slice at_ L.tb.length ct] :: .blk b2 [] :: E)) mixed ?_
 refine tP 0 ?_
 refine tL 1 (Rd.add (Rd.blk 0 rfl) _) ?_
 refine tP 2 ?_
 refine tP 3 ?_
 refine tL 4 (Rd.add (Rd.blk 0 rfl) _) ?_
 refine tP 5 ?_
 refine tP 6 ?_
 refine WA.take 7 rfl qK qK qK rfl rfl qD (pureV_ok tab_ok rfl qE) qS qR ?_
 refine' WA.take 8 rfl qK qK qK rfl rfl qD (Yl.loadG tab_ok rfl rfl rfl qE ?r3 rfl ?h3 ?g3) qS qR ?_
 case r3 => apply Rd.addC; (exact Rd.blkC 0 rfl)
 case h3 => rfl
 case g3 => exact fun _ => trivial
 refine tP 11 ?_
 refine tL 12 (Rd.add (Rd.blk 0 rfl) _) ?_
 refine WA.br2 (i := 9) (j := 13) qK ?_ ?_
 ·
  refine WS.callV rfl en210 rfl rfl qD (CallOp.mk' rfl rfl rfl rfl) qE (fun hg => Within_V (by first | exact hw | exact hw.mono hR1) rfl) qS qR ?_
  refine WA.take 10 rfl (by kernel_rfl) (by kernel_rfl) (by kernel_rfl) rfl rfl (by decide) (Yl.pand rfl rfl rfl (fun _ => rfl) (by intro h1 h2; simp_all <;> omega)) qS (by first | exact RLe.refl _ | assumption) ?_
  refine WA.eff 13 rfl qK rfl rfl qD (Ef.buildSliceD (enc := encS) (parts := [.tmp 17]) [⟨_, _, _⟩] tab_ok rfl rfl rfl rfl rfl rfl rfl rfl qD qD (fun a18 => ?_))
  refine ⟨qR, qS, ?_⟩
  refine WA.freeze (enc := encS) (xs := [⟨at_, ct, L.tb⟩]) 0 rfl ?_
  intro R1 hR1 hz
  refine WA.callV 14 rfl qK en187 rfl rfl qD (CallOp.mk' rfl rfl rfl rfl) (fun _ => rfl) (fun hg => Lists_V (rows := [⟨at_, ct, L.tb⟩]) hz) qS qR ?_
  refine tP 15 ?_
  refine WA.done qK ?_
  refine zU (zT ?_)
  refine sE (E := E) ?_
  refine WE.retF tab_ok [_] rfl ⟨rfl, trivial⟩ (hR1) ?_
  exact ⟨rfl, rfl⟩
 ·
  refine WS.eff rfl rfl rfl qD (Ef.buildSliceD (enc := encS) (parts := [.tmp 17]) [⟨_, _, _⟩] tab_ok rfl rfl rfl rfl rfl rfl rfl rfl qD qD (fun a18 => ?_))
  refine ⟨qR, qS, ?_⟩
  refine WA.freeze (enc := encS) (xs := [⟨at_, ct, L.tb⟩]) 0 rfl ?_
  intro R1 hR1 hz
  refine WA.callV 9 rfl qK en210 rfl rfl qD (CallOp.mk' rfl rfl rfl rfl) qE (fun hg => Within_V (by first | exact hw | exact hw.mono hR1) rfl) qS qR ?_
  refine WA.take 10 rfl (by kernel_rfl) (by kernel_rfl) (by kernel_rfl) rfl rfl (by decide) (Yl.pand rfl rfl rfl (fun _ => rfl) (by intro h1 h2; simp_all <;> omega)) qS (by first | exact RLe.refl _ | assumption) ?_
  refine WA.callV 14 rfl qK en187 rfl rfl qD (CallOp.mk' rfl rfl rfl rfl) (fun _ => rfl) (fun hg => Lists_V (rows := [⟨at_, ct, L.tb⟩]) hz) qS qR ?_
  refine tP 15 ?_
  refine WA.done qK ?_
  refine zU (zT ?_)
  refine sE (E := E) ?_
  refine WE.retF tab_ok [_] rfl ⟨rfl, trivial⟩ (hR1) ?_
  exact ⟨rfl, rfl⟩

theorem ChkTimes_V {R : Ro} {aw at_ : Option Addr} {lw cw lt ct : Nat} {L : Ln} (hw : RS R 1 encI aw L.w) (hlw : L.w.length = lw) (ht : RS R 1 encI at_ L.tb) (hlt : L.tb.length = lt) (hn : 1 ≤ L.n ∧ L.n ≤ 6) : FnV Tryz.prog 237 [.agg #[], .agg #[.int .i64 L.kind, .int .i64 L.cap, .int .i64 L.n, .slice aw lw cw, .slice at_ lt ct]] R (.int .i64 (listsE (decide (1 ≤ (L.tb.length : Int)) && decide ((L.tb.length : Int) ≤ 40) && withinB L.tb (-1) (L.n - 1)) [L.w])) := by
 subst hlw
 subst hlt
 have hw1 := hw.len
 have ht1 := ht.len
 refine Fn.toV (fun w0 E => ?_)
 refine fE 27 Tryz.func237 ?_
 refine zQ (zG ?_)
 refine zO fun b2 => ?_
 refine zO fun b3 => ?_
 refine zR 1 rfl (zN (zU (zQ ?_)))
 refine W.regionH _ (ES := (.blk b3 [.int .i64 L.kind, .int .i64 L.cap, .int .i64 L.n, .slice aw L.w.length cw, .slice at_ L.tb.length ct] :: .blk b2 [] :: E)) mixed ?_
 refine tP 0 ?_
 refine tL 1 (Rd.add (Rd.blk 0 rfl) _) ?_
 refine tP 2 ?_
 refine tP 3 ?_
 refine tP 4 ?_
 refine WA.take 5 rfl qK qK qK rfl rfl qD (pureV_ok tab_ok rfl qE) qS qR ?_
 refine' WA.take 6 rfl qK qK qK rfl rfl qD (Yl.loadG tab_ok rfl rfl rfl qE ?r2 rfl ?h2 ?g2) qS qR ?_
 case r2 => apply Rd.addC; (exact Rd.blkC 0 rfl)
 case h2 => rfl
 case g2 => exact fun _ => trivial
 refine WA.take 7 rfl qK qK qK rfl rfl qD (pureV_ok tab_ok rfl qE) qS qR ?_
 refine WA.take 8 rfl qK qK qK rfl rfl qD (pureV_ok tab_ok rfl qE) qS qR ?_
 refine WA.take 9 rfl (by kernel_rfl) (by kernel_rfl) (by kernel_rfl) rfl rfl (by decide) (Yl.pand rfl rfl rfl (fun _ => rfl) (by intro h1 h2; simp_all <;> omega)) qS (by first | exact RLe.refl _ | assumption) ?_
 refine tP 10 ?_
 refine WA.take 11 rfl qK qK qK rfl rfl qD (pureV_ok tab_ok rfl qE) qS qR ?_
 refine' WA.take 12 rfl qK qK qK rfl rfl qD (Yl.loadG tab_ok rfl rfl rfl qE ?r3 rfl ?h3 ?g3) qS qR ?_
 case r3 => apply Rd.addC; (exact Rd.blkC 0 rfl)
 case h3 => rfl
 case g3 => exact fun _ => trivial
 refine WA.take 13 rfl qK qK qK rfl rfl qD (pureV_ok tab_ok rfl qE) qS qR ?_
 refine' WA.take 14 rfl qK qK qK rfl rfl qD (Yl.loadG tab_ok rfl rfl rfl qE ?r4 rfl ?h4 ?g4) qS qR ?_
 case r4 => apply Rd.addC; (exact Rd.blkC 0 rfl)
 case h4 => rfl
 case g4 => exact fun _ => trivial
 refine WA.take 15 rfl (by kernel_rfl) (by kernel_rfl) (by kernel_rfl) rfl rfl (by decide) (Yl.sub rfl rfl rfl qE (by intro hg; (try simp only [zk] at hg); constructor <;> (try dsimp only) <;> omega)) qS (by first | exact RLe.refl _ | assumption) ?_
 refine tP 18 ?_
 refine tL 19 (Rd.add (Rd.blk 0 rfl) _) ?_
 refine WA.br2 (i := 16) (j := 20) qK ?_ ?_
 ·
  refine WS.callV rfl en210 rfl rfl qD (CallOp.mk' rfl rfl rfl rfl) qE (fun hg => Within_V (by first | exact ht | exact ht.mono hR1) rfl) qS qR ?_
  refine WA.take 17 rfl (by kernel_rfl) (by kernel_rfl) (by kernel_rfl) rfl rfl (by decide) (Yl.pand rfl rfl rfl (fun _ => rfl) (by intro h1 h2; simp_all <;> omega)) qS (by first | exact RLe.refl _ | assumption) ?_
  refine WA.eff 20 rfl qK rfl rfl qD (Ef.buildSliceD (enc := encS) (parts := [.tmp 24]) [⟨_, _, _⟩] tab_ok rfl rfl rfl rfl rfl rfl rfl rfl qD qD (fun a25 => ?_))
  refine ⟨qR, qS, ?_⟩
  refine WA.freeze (enc := encS) (xs := [⟨aw, cw, L.w⟩]) 0 rfl ?_
  intro R1 hR1 hz
  refine WA.callV 21 rfl qK en187 rfl rfl qD (CallOp.mk' rfl rfl rfl rfl) (fun _ => rfl) (fun hg => Lists_V (rows := [⟨aw, cw, L.w⟩]) hz) qS qR ?_
  refine tP 22 ?_
  refine WA.done qK ?_
  refine zU (zT ?_)
  refine sE (E := E) ?_
  refine WE.retF tab_ok [_] rfl ⟨rfl, trivial⟩ (hR1) ?_
  exact ⟨rfl, rfl⟩
 ·
  refine WS.eff rfl rfl rfl qD (Ef.buildSliceD (enc := encS) (parts := [.tmp 24]) [⟨_, _, _⟩] tab_ok rfl rfl rfl rfl rfl rfl rfl rfl qD qD (fun a25 => ?_))
  refine ⟨qR, qS, ?_⟩
  refine WA.freeze (enc := encS) (xs := [⟨aw, cw, L.w⟩]) 0 rfl ?_
  intro R1 hR1 hz
  refine WA.callV 16 rfl qK en210 rfl rfl qD (CallOp.mk' rfl rfl rfl rfl) qE (fun hg => Within_V (by first | exact ht | exact ht.mono hR1) rfl) qS qR ?_
  refine WA.take 17 rfl (by kernel_rfl) (by kernel_rfl) (by kernel_rfl) rfl rfl (by decide) (Yl.pand rfl rfl rfl (fun _ => rfl) (by intro h1 h2; simp_all <;> omega)) qS (by first | exact RLe.refl _ | assumption) ?_
  refine WA.callV 21 rfl qK en187 rfl rfl qD (CallOp.mk' rfl rfl rfl rfl) (fun _ => rfl) (fun hg => Lists_V (rows := [⟨aw, cw, L.w⟩]) hz) qS qR ?_
  refine tP 22 ?_
  refine WA.done qK ?_
  refine zU (zT ?_)
  refine sE (E := E) ?_
  refine WE.retF tab_ok [_] rfl ⟨rfl, trivial⟩ (hR1) ?_
  exact ⟨rfl, rfl⟩



theorem meth_check1 (x : Value) : Meth Tryz.prog 112 (.agg #[]) "netcalculus/server.check" 184 [x] := fun w => by kernel_rfl
theorem meth_run1 (x y z : Value) : Meth Tryz.prog 112 (.agg #[]) "netcalculus/server.run" 186 [x, y, z] := fun w => by kernel_rfl
theorem meth_check2 (x : Value) : Meth Tryz.prog 113 (.agg #[]) "netcalculus/server.check" 193 [x] := fun w => by kernel_rfl
theorem meth_run2 (x y z : Value) : Meth Tryz.prog 113 (.agg #[]) "netcalculus/server.run" 195 [x, y, z] := fun w => by kernel_rfl
theorem meth_check3 (x : Value) : Meth Tryz.prog 114 (.agg #[]) "netcalculus/server.check" 207 [x] := fun w => by kernel_rfl
theorem meth_run3 (x y z : Value) : Meth Tryz.prog 114 (.agg #[]) "netcalculus/server.run" 209 [x, y, z] := fun w => by kernel_rfl
theorem meth_check4 (x : Value) : Meth Tryz.prog 115 (.agg #[]) "netcalculus/server.check" 224 [x] := fun w => by kernel_rfl
theorem meth_run4 (x y z : Value) : Meth Tryz.prog 115 (.agg #[]) "netcalculus/server.run" 226 [x, y, z] := fun w => by kernel_rfl
theorem meth_check5 (x : Value) : Meth Tryz.prog 116 (.agg #[]) "netcalculus/server.check" 237 [x] := fun w => by kernel_rfl
theorem meth_run5 (x y z : Value) : Meth Tryz.prog 116 (.agg #[]) "netcalculus/server.run" 239 [x, y, z] := fun w => by kernel_rfl

theorem check_any {R : Ro} {aw at_ : Option Addr} {lw cw lt ct : Nat} {L : Ln} (hw : RS R 1 encI aw L.w) (hlw : L.w.length = lw) (ht : RS R 1 encI at_ L.tb) (hlt : L.tb.length = lt) (hn : 1 ≤ L.n ∧ L.n ≤ 6) (hk : 1 ≤ L.kind ∧ L.kind ≤ 5) :
  ∃ (T f : Nat), kindI L.kind = .iface T (.agg #[]) ∧ Meth Tryz.prog T (.agg #[]) "netcalculus/server.check" f [.agg #[.int .i64 L.kind, .int .i64 L.cap, .int .i64 L.n, .slice aw lw cw, .slice at_ lt ct]] ∧ FnV Tryz.prog f [.agg #[], .agg #[.int .i64 L.kind, .int .i64 L.cap, .int .i64 L.n, .slice aw lw cw, .slice at_ lt ct]] R (.int .i64 (lchkL L)) := by
 rcases (show L.kind = 1 ∨ L.kind = 2 ∨ L.kind = 3 ∨ L.kind = 4 ∨ L.kind = 5 by omega) with h | h | h | h | h
 ·exact ⟨_, _, by unfold kindI; rw [h]; rfl, meth_check1 _, by have e : lchkL L = _ := (show lchkL L = listsE true [L.w, L.tb] by unfold lchkL; rw [h]; rfl); rw [e]; exact ChkFifo_V hw hlw ht hlt hn⟩
 ·exact ⟨_, _, by unfold kindI; rw [h]; rfl, meth_check2 _, by have e : lchkL L = _ := (show lchkL L = listsE true [L.w, L.tb] by unfold lchkL; rw [h]; rfl); rw [e]; exact ChkRanks_V hw hlw ht hlt hn⟩
 ·exact ⟨_, _, by unfold kindI; rw [h]; rfl, meth_check3 _, by have e : lchkL L = _ := (show lchkL L = listsE (decide ((L.w.length : Int) = L.n) && withinB L.w 1 20) [L.tb] by unfold lchkL; rw [h]; rfl); rw [e]; exact ChkRobin_V hw hlw ht hlt hn⟩
 ·exact ⟨_, _, by unfold kindI; rw [h]; rfl, meth_check4 _, by have e : lchkL L = _ := (show lchkL L = listsE (decide ((L.w.length : Int) = L.n) && withinB L.w 1 6000) [L.tb] by unfold lchkL; rw [h]; rfl); rw [e]; exact ChkDef_V hw hlw ht hlt hn⟩
 ·exact ⟨_, _, by unfold kindI; rw [h]; rfl, meth_check5 _, by have e : lchkL L = _ := (show lchkL L = listsE (decide (1 ≤ (L.tb.length : Int)) && decide ((L.tb.length : Int) ≤ 40) && withinB L.tb (-1) (L.n - 1)) [L.w] by unfold lchkL; rw [h]; rfl); rw [e]; exact ChkTimes_V hw hlw ht hlt hn⟩

theorem ChkSrv_V {R : Ro} {aw at_ : Option Addr} {lw cw lt ct : Nat} {L : Ln} (hw : RS R 1 encI aw L.w) (hlw : L.w.length = lw) (ht : RS R 1 encI at_ L.tb) (hlt : L.tb.length = lt) : FnV Tryz.prog 27 [.agg #[.int .i64 L.kind, .int .i64 L.cap, .int .i64 L.n, .slice aw lw cw, .slice at_ lt ct]] R (.int .i64 (chkL L)) := by
 refine Fn.toV (fun w0 E => ?_)
 refine fE 34 Tryz.func27 ?_
 refine zQ (zG ?_)
 refine zO fun b1 => ?_
 refine zR 1 rfl (zN (zU (zQ (zG (zR 1 rfl ?_)))))
 refine yL (Rd.add (Rd.blk 0 rfl) _) ?_
 refine WG.callV en44 rfl rfl qD (CallOp.mk' rfl rfl rfl rfl) (fun _ => rfl) (fun hg => Kind_V L.kind) ?_
 refine zR 5 rfl (zN (zU (zQ (zQ (zG (zR 2 rfl (zN (zU ?_))))))))
 refine W.cond rfl (fun hc0 => ?_) (fun hc0 => ?_)
 ·try simp only [zk] at hc0
  have e : chkL L = 9 := by
   unfold chkL
   rw [if_pos]
   unfold kindB at hc0
   simp only [Bool.and_eq_false_iff, decide_eq_false_iff_not] at hc0
   omega
  refine zQ (zG (zR 1 rfl (zN (zU (zT (wt ?_))))))
  refine sE (E := E) ?_
  refine WE.retF tab_ok [_] rfl ⟨rfl, trivial⟩ (RLe.refl _) ?_
  exact ⟨by rw [e]; rfl, rfl⟩
 ·try simp only [zk] at hc0
  have hkk : 1 ≤ L.kind ∧ L.kind ≤ 5 := by
   unfold kindB at hc0
   simpa using hc0
  refine zK (zU (zQ (zQ (zG (zR 1 rfl ?_)))))
  refine yL (Rd.add (Rd.blk 0 rfl) _) ?_
  refine zR 2 rfl ?_
  refine yP ?_
  refine yG (Rd.addC (Rd.blkC 0 rfl) _) ?_
  refine yP ?_
  refine yO ?_
  refine zR 1 rfl ?_
  refine yP ?_
  refine yG (Rd.addC (Rd.blkC 0 rfl) _) ?_
  refine yP ?_
  refine yO ?_
  refine zR 1 rfl ?_
  refine yP ?_
  refine yG (Rd.addC (Rd.blkC 0 rfl) _) ?_
  refine yP ?_
  refine yO ?_
  refine zN (zU ?_)
  refine W.cond rfl (fun hc1 => ?_) (fun hc1 => ?_)
  ·try simp only [zk] at hc1
   have e : chkL L = 2 := by unfold chkL; rw [if_neg (by omega), if_pos (by omega)]
   refine zQ (zG (zR 1 rfl (zN (zU (zT (wt ?_))))))
   refine sE (E := E) ?_
   refine WE.retF tab_ok [_] rfl ⟨rfl, trivial⟩ (RLe.refl _) ?_
   exact ⟨by rw [e]; rfl, rfl⟩
  ·try simp only [zk] at hc1
   have hn : 1 ≤ L.n ∧ L.n ≤ 6 := by omega
   have e : chkL L = lchkL L := by unfold chkL; rw [if_neg (by omega), if_neg (by omega)]
   obtain ⟨T9, f9, e9, m9, v9⟩ := check_any (R := R) (lw := lw) (lt := lt) (cw := cw) (ct := ct) hw hlw ht hlt hn hkk
   refine zK (zU ?_)
   rw [e9]
   refine zQ (zG (zR 1 rfl ?_))
   refine yL (Rd.blk 0 rfl) ?_
   refine WL.callI (args := [.tmp 32]) rfl rfl rfl qD rfl rfl (m9) (v9.toFn) ?_
   rintro _ _ _ - ⟨rfl, rfl, rfl⟩
   refine zR 1 rfl (zN (zU (zT ?_)))
   refine sE (E := E) ?_
   refine WE.retF tab_ok [_] rfl ⟨rfl, trivial⟩ (RLe.refl _) ?_
   exact ⟨by rw [e]; rfl, rfl⟩



theorem Ints_V {R : Ro} {a b : Option Addr} {ca cb : Nat} {xs ys : List Int} (ha : RS R 1 encI a xs) (hb : RS R 1 encI b ys) :
  FnV Tryz.prog 51 [.slice a xs.length ca, .slice b ys.length cb] R (.bool (decide (xs = ys))) := by
 have hla := ha.len
 have hlb := hb.len
 refine Fn.toV (fun w0 E => ?_)
 refine fE 26 Tryz.func51 ?_
 refine zQ (zG (zR 1 rfl (zN (zU (zQ (zQ (zG (zR 5 rfl (zN (zU ?_))))))))))
 refine W.condN rfl (fun hc0 => ?_) (fun hc0 => ?_)
 ·try dsimp only at hc0
  refine zQ (zG (zR 1 rfl (zN (zU (zT (wt ?_))))))
  refine WE.retF tab_ok [_] rfl ⟨rfl, trivial⟩ (RLe.refl _) ?_
  exact ⟨congrArg Value.bool (by symm; apply decide_eq_false; rintro rfl; exact hc0 rfl), rfl⟩
 ·try dsimp only at hc0
  refine zK (zU (zQ (zQ (zG (zR 1 rfl (zN (zU (zB ?_))))))))
  refine W.loop (β := Nat) (fun k => k ≤ xs.length ∧ ∀ i, i < k → nth xs i = nth ys i) (fun k => [(0, true, .slice a xs.length ca), (1, true, .slice b ys.length cb), (5, true, .int .i64 k)]) (fun _ => R) (fun _ => E) (fun k => xs.length - k) 0 ⟨Nat.zero_le _, fun i hi => absurd hi (Nat.not_lt_zero i)⟩ ⟨rfl, rfl, rfl, rfl⟩ (RLe.refl _) (List.Sublist.refl _) ?_
  intro st hst
  obtain ⟨hk, hpre⟩ := hst
  refine zQ (zQ (zG (zR 4 rfl (zN (zU ?_)))))
  refine W.condD rfl (fun hc1 => ?_) (fun hc1 => ?_)
  ·try dsimp only at hc1
   refine zK (zU (zQ (zB (zQ ?_))))
   refine W.regionQ _ mixed qK ?_
   refine zR 2 rfl ?_
   refine WG.y rfl rfl qD (Yl.indexN tab_ok rfl rfl rfl rfl rfl rfl (fun _ => rfl) qN qH) ?_
   refine yR ?_
   refine zR 2 rfl ?_
   refine WG.y rfl rfl qD (Yl.indexN tab_ok rfl rfl rfl rfl rfl rfl (fun _ => rfl) qN qH) ?_
   refine yR ?_
   refine zR 1 rfl (zN (zU ?_))
   refine W.condN rfl (fun hc2 => ?_) (fun hc2 => ?_)
   ·try dsimp only at hc2
    refine zQ (zG (zR 1 rfl (zN (zU (zT (wb (wt (wt (wb (wt ?_))))))))))
    refine WE.retF tab_ok [_] rfl ⟨rfl, trivial⟩ (RLe.refl _) ?_
    exact ⟨congrArg Value.bool (by symm; apply decide_eq_false; rintro rfl; exact hc2 rfl), rfl⟩
   ·try dsimp only at hc2
    refine zK (zL (zU (zG (zR 1 rfl ?_))))
    refine yA ?_
    refine zR 1 rfl (zN ?_)
    refine WE.again (st + 1) ⟨by omega, fun i hi => ?_⟩ qO ⟨rfl, rfl, rfl, rfl⟩ (RLe.refl _) (List.Sublist.refl _)
    rcases Nat.lt_or_ge i st with h | h
    ·exact hpre i h
    ·obtain rfl : i = st := by omega
     exact hc2
  ·try dsimp only at hc1
   refine zX ?_
   refine wx (wx (zY (zU (zQ (zG (zR 1 rfl (zN (zU (zT ?_)))))))))
   refine WE.retF tab_ok [_] rfl ⟨rfl, trivial⟩ (RLe.refl _) ?_
   exact ⟨congrArg Value.bool (by symm; apply decide_eq_true; exact nth_ext qO (fun i hi => hpre i qO)), rfl⟩



theorem tmod_gt (x : Int) {n : Int} (h : 0 < n) : -n < x.tmod n := by
 rcases Int.le_total 0 x with h0 | h0
 ·have := Int.tmod_nonneg n h0; omega
 ·have h1 := Int.neg_tmod (a := x) (b := n)
  have h2 := Int.tmod_lt_of_pos (-x) h
  omega
theorem mod_pos {x n : Int} (h : 1 ≤ n) (hc : ¬ x.tmod n < 0) : x.tmod n = x % n := by
 rw [Int.tmod_eq_emod] at hc ⊢
 split at hc
 ·rename_i h1; rw [if_pos h1]; omega
 ·rename_i h1
  rw [if_neg h1]
  have := Int.emod_lt_of_pos x (show 0 < n by omega)
  have h2 : (n.natAbs : Int) = n := by omega
  omega
theorem mod_neg {x n : Int} (h : 1 ≤ n) (hc : x.tmod n < 0) : x.tmod n + n = x % n := by
 rw [Int.tmod_eq_emod] at hc ⊢
 split at hc
 ·rename_i h1
  have := Int.emod_nonneg x (show n ≠ 0 by omega)
  omega
 ·rename_i h1; rw [if_neg h1]
  have h2 : (n.natAbs : Int) = n := by omega
  omega
theorem src_end {b : Nat} {a : Option Addr} {cp : Nat} {xs : List Int} {c : Nat} (h : xs.length ≤ c) : srcE b a cp xs c = srcE b a cp xs (c + 1) := by
 unfold srcE
 rw [show min c xs.length = min (c + 1) xs.length by omega]
theorem src_next {b : Nat} {a : Option Addr} {cp : Nat} {xs : List Int} {c : Nat} (h : c < xs.length) : Ent.blk b [.slice a xs.length cp, .int .i64 (((min c xs.length : Nat) : Int) + 1)] = srcE b a cp xs (c + 1) := by
 unfold srcE
 rw [show ((min c xs.length : Nat) : Int) + 1 = ((min (c + 1) xs.length : Nat) : Int) by omega]

theorem Mod_V {R : Ro} {x n : Int} (hn : InR n) : FnV Tryz.prog 56 [.int .i64 x, .int .i64 n] R (.int .i64 (mod x n)) := by
 refine Fn.toV (fun w0 E => ?_)
 refine fE 16 Tryz.func56 ?_
 refine zQ (zG (zR 1 rfl (zN (zU (zQ (zQ (zG (zR 2 rfl (zN (zU ?_))))))))))
 refine W.condD rfl (fun hc0 => ?_) (fun hc0 => ?_)
 ·try dsimp only at hc0
  refine zQ (zG (zR 1 rfl (zN (zU (zT (wt ?_))))))
  refine WE.retF tab_ok [_] rfl ⟨rfl, trivial⟩ (RLe.refl _) ?_
  exact ⟨by unfold mod; rw [if_pos hc0]; rfl, rfl⟩
 ·try dsimp only at hc0
  refine zK (zU (zQ (zG (zR 2 rfl ?_))))
  refine WG.y rfl rfl qD (Yl.tmod rfl rfl rfl (fun _ => rfl) (by intro _; omega)) ?_
  refine zR 1 rfl (zN (zU (zQ (zQ (zG (zR 2 rfl (zN (zU ?_))))))))
  refine W.condD rfl (fun hc1 => ?_) (fun hc1 => ?_)
  ·try dsimp only at hc1
   refine zG (zR 2 rfl ?_)
   refine WG.y rfl rfl qD (Yl.add rfl rfl rfl (fun _ => rfl) (by intro _; have h9 := tmod_gt x (show (0 : Int) < n by omega); constructor <;> omega)) ?_
   refine zR 1 rfl (zN (zU (zQ (zG (zR 2 rfl (zN (zU (zT ?_))))))))
   refine WE.retF tab_ok [_] rfl ⟨rfl, trivial⟩ (RLe.refl _) ?_
   refine ⟨congrArg (Value.int .i64) ?_, rfl⟩
   unfold mod; rw [if_neg hc0]; exact mod_neg (by omega) hc1
  ·try dsimp only at hc1
   refine zK (zU (zQ (zG (zR 2 rfl (zN (zU (zT ?_)))))))
   refine WE.retF tab_ok [_] rfl ⟨rfl, trivial⟩ (RLe.refl _) ?_
   refine ⟨congrArg (Value.int .i64) ?_, rfl⟩
   unfold mod; rw [if_neg hc0]; exact mod_pos (by omega) hc1

theorem Raw_C {R : Ro} {b : Nat} {a : Option Addr} {cp : Nat} {xs : List Int} {c : Nat} (w0 : World) (ha : RS R 1 encI a xs) : FnAt Tryz.prog 57 [.pointer (some ⟨b, 0, none⟩)] w0 R (srcE b a cp xs c) (RdPost (.int .i64 (nth xs c)) R (srcE b a cp xs (c + 1))) := by
 intro F
 have hla := ha.len
 refine fE 31 Tryz.func57 ?_
 refine zQ (zG (zR 1 rfl (zN (zU (zQ (zQ ?_))))))
 refine W.regionQ _ mixed qK ?_
 refine zR 3 rfl ?_
 refine yL (Rd.add (Rd.blk 0 rfl) _) ?_
 refine zR 3 rfl ?_
 refine yL (Rd.add (Rd.blk 0 rfl) _) ?_
 refine zR 2 rfl (zN (zU ?_))
 refine W.condD rfl (fun hc0 => ?_) (fun hc0 => ?_)
 ·try dsimp only at hc0
  refine zQ (zG (zR 1 rfl (zN (zU (zT (wt ?_))))))
  refine WE.retF tab_ok [_] rfl ⟨rfl, trivial⟩ (RLe.refl _) ?_
  exact ⟨_, [], rfl, by rw [nth_out (by omega)]; rfl, rfl, src_end (by omega), rfl⟩
 ·try dsimp only at hc0
  refine zK (zU (zQ (zG (zR 3 rfl ?_))))
  refine yL (Rd.add (Rd.blk 0 rfl) _) ?_
  refine yA ?_
  refine zR 2 rfl ?_
  refine zF 0 ?_
  refine zN (zU (zQ ?_))
  refine W.regionQ _ mixed qK ?_
  refine zR 3 rfl ?_
  refine yL (Rd.add (Rd.blk 0 rfl) _) ?_
  refine zR 3 rfl ?_
  refine yL (Rd.add (Rd.blk 0 rfl) _) ?_
  refine yS ?_
  refine WG.y rfl rfl qD (Yl.index tab_ok rfl rfl rfl rfl rfl rfl (fun _ => rfl) qA qH) ?_
  refine yR ?_
  refine zR 1 rfl (zN (zU (zT ?_)))
  refine WE.retF tab_ok [_] rfl ⟨rfl, trivial⟩ (RLe.refl _) ?_
  exact ⟨_, [], rfl, congrArg (fun i => Value.int .i64 (nth xs i)) (show _ = c by omega), rfl, src_next qO, rfl⟩

theorem N_C {R : Ro} {b : Nat} {a : Option Addr} {cp : Nat} {xs : List Int} {c : Nat} (w0 : World) {n : Int} (ha : RS R 1 encI a xs) (hn : InR n) : FnAt Tryz.prog 23 [.pointer (some ⟨b, 0, none⟩), .int .i64 n] w0 R (srcE b a cp xs c) (RdPost (.int .i64 (mod (nth xs c) n)) R (srcE b a cp xs (c + 1))) := by
 intro F
 refine fE 9 Tryz.func23 ?_
 refine zQ (zG (zR 1 rfl (zN (zU (zQ (zG (zR 1 rfl ?_)))))))
 refine WL.callAt 0 en57 rfl rfl qD (CallOp.mkT rfl rfl rfl rfl) rfl (Raw_C w0 ha _) ?_
 rintro _ _ _ _ - ⟨rfl, rfl, rfl, rfl⟩
 refine zR 1 rfl ?_
 refine WG.callV en56 rfl rfl qD (CallOp.mk' rfl rfl rfl rfl) (fun _ => rfl) (fun hg => Mod_V hn) ?_
 refine zR 1 rfl (zN (zU (zT ?_)))
 refine WE.retF tab_ok [_] rfl ⟨rfl, trivial⟩ (RLe.refl _) ?_
 exact ⟨_, [], rfl, rfl, rfl, rfl, rfl⟩

theorem Pick_C {R : Ro} {b : Nat} {a : Option Addr} {cp : Nat} {xs : List Int} {c : Nat} (w0 : World) {a2 : Option Addr} {c2 : Nat} {ys : List Int} {j : Nat} {F : List Ent} (ha : RS R 1 encI a xs) (hy : F[j]? = some (.sl 3 1 a2 c2 (ys.map encI))) (hne : 0 < ys.length) (hl : ys.length ≤ 1000000) :
  K.Fn Tryz.prog 32 [.pointer (some ⟨b, 0, none⟩), .slice a2 ys.length c2] w0 R (srcE b a cp xs c :: F) (fun v R' E' => ∃ e' N, E' = N ++ e' :: F ∧ RdPost (.int .i64 (nth ys (mod (nth xs c) ys.length).toNat)) R (srcE b a cp xs (c + 1)) v R' e' N) := by
 have hr := mod_range (nth xs c) (show (1 : Int) ≤ ys.length by omega)
 refine fE 12 Tryz.func32 ?_
 refine zQ (zG (zR 1 rfl (zN (zU (zQ (zG (zR 4 rfl ?_)))))))
 refine WL.callAt 0 en23 rfl rfl qD (CallOp.mkT rfl rfl rfl rfl) rfl (N_C w0 ha (by constructor <;> omega) _) ?_
 rintro _ _ _ _ - ⟨rfl, rfl, rfl, rfl⟩
 refine WG.y rfl rfl qD (Yl.index tab_ok rfl rfl rfl rfl rfl rfl (fun _ => rfl) qA (by intro _; first | exact HasMem.ownD (j + 1) hy | exact qI)) ?_
 refine' WG.y rfl rfl qD (Yl.load1 tab_ok rfl rfl rfl (fun _ => rfl) ?r1 rfl ?h1) ?_
 case r1 => (exact Rd.slD (j + 1) hy qO)
 case h1 => rfl
 refine zR 1 rfl (zN (zU (zT ?_)))
 refine WE.retF tab_ok [_] rfl ⟨rfl, trivial⟩ (RLe.refl _) ?_
 exact ⟨_, [], rfl, rfl, rfl, rfl, rfl⟩

theorem New_C {R : Ro} {a : Option Addr} {cp : Nat} {l : List Int} (w0 : World) (E : List Ent) (hc : l.length ≤ cp) :
  K.Fn Tryz.prog 8 [.slice a l.length cp] w0 R E (fun v R' E' => ∃ b, v = .pointer (some ⟨b, 0, none⟩) ∧ R = R' ∧ E' = srcE b a cp (l.take 2000) 0 :: E) := by
 refine fE 10 Tryz.func8 ?_
 refine zQ (zG (zR 1 rfl (zN (zU (zQ (zG (zR 4 rfl ?_)))))))
 refine WG.y rfl rfl qD (Yl.sliceH tab_ok rfl rfl rfl rfl rfl (fun _ => rfl) (by intro _; split <;> constructor <;> omega) rfl) ?_
 -- build
 refine WG.y rfl rfl qD (Yl.build (parts := [(0, .tmp 7)]) tab_ok rfl rfl rfl rfl (fun _ => rfl) rfl rfl) ?_
 refine zO fun b9 => ?_
 refine zR 1 rfl (zN (zU (zT ?_)))
 refine WE.retF tab_ok [_] rfl ⟨rfl, trivial⟩ (RLe.refl _) ?_
 refine ⟨_, rfl, rfl, ?_⟩
 unfold srcE
 rw [List.length_take, Nat.min_comm 0, Nat.min_zero]
 have e1 : ((if (2000 : Int) < (l.length : Int) then 2000 else (l.length : Int))).toNat = min 2000 l.length := by split <;> omega
 exact congrArg (fun n => Ent.blk _ [Value.slice a n cp, .int .i64 0] :: E) e1

theorem Pick7_C {R : Ro} {b : Nat} {a : Option Addr} {cp : Nat} {xs : List Int} {c : Nat} (w0 : World) {a2 : Option Addr} {c2 : Nat} {j : Nat} {F : List Ent} (ha : RS R 1 encI a xs) (hy : F[j]? = some (.sl 3 1 a2 c2 ([0, 0, 0, 1, 1, 2, 7].map encI))) :
  K.Fn Tryz.prog 32 [.pointer (some ⟨b, 0, none⟩), .slice a2 7 c2] w0 R (srcE b a cp xs c :: F) (fun v R' E' => ∃ e' N, E' = N ++ e' :: F ∧ RdPost (.int .i64 (pick7 (mod (nth xs c) 7))) R (srcE b a cp xs (c + 1)) v R' e' N) :=
 Pick_C (ys := [0, 0, 0, 1, 1, 2, 7]) w0 ha hy (by decide) (by decide)

theorem Traffic_C {R : Ro} {b : Nat} {a : Option Addr} {cp : Nat} {xs : List Int} {c : Nat} (w0 : World) {n flows most : Int} (ha : RS R 1 encI a xs) (hn : 0 ≤ n ∧ n ≤ 1000) (hf : InR flows) (hm : 1 ≤ most ∧ most ≤ 1000000) (F : List Ent) :
  K.Fn Tryz.prog 10 [.pointer (some ⟨b, 0, none⟩), .int .i64 n, .int .i64 flows, .int .i64 most] w0 R (srcE b a cp xs c :: F) (fun v R' E' => ∃ e' N, E' = N ++ e' :: F ∧
   ∃ a2 c2, v = .slice a2 (traffic xs n flows most c).length c2 ∧ R = R' ∧ e' = srcE b a cp xs (c + 1 + 3 * trafficK xs n c) ∧ N = [.sl 51 3 a2 c2 ((traffic xs n flows most c).map encP)]) := by
 have hr := mod_range (nth xs c) (show (1 : Int) ≤ n + 1 by omega)
 have hK : (trafficK xs n c : Int) = mod (nth xs c) (n + 1) := by unfold trafficK; omega
 refine fE 38 Tryz.func10 ?_
 refine zQ (zG (zR 1 rfl (zN (zU (zQ (zG (zR 1 rfl (zN (zU (zQ (zG (zR 1 rfl (zN (zU (zQ (zQ (zG (zR 2 rfl ?_))))))))))))))))))
 refine yA ?_
 refine WL.callAt 0 en23 rfl rfl qD (CallOp.mkT rfl rfl rfl rfl) rfl (N_C w0 ha (by constructor <;> omega) _) ?_
 rintro _ _ _ _ - ⟨rfl, rfl, rfl, rfl⟩
 refine zR 1 rfl (zN (zU (zB ?_)))
 refine W.nil 51 3 qD ?_
 refine W.loop (β := Nat × Nat × Int × List Pkt × Option Addr × Nat) (fun (k, c1, t, acc, a2, c2) => acc ++ trafficGo xs flows most k c1 t = traffic xs n flows most c ∧ c1 + 3 * k = c + 1 + 3 * trafficK xs n c ∧ 0 ≤ t ∧ t + 7 * k ≤ 7 * trafficK xs n c ∧ acc.length + k = trafficK xs n c) (fun (k, c1, t, acc, a2, c2) => [(0, true, .pointer (some ⟨b, 0, none⟩)), (1, true, .int .i64 n), (2, true, .int .i64 flows), (3, true, .int .i64 most), (9, true, .slice a2 acc.length c2), (10, true, .int .i64 t), (11, true, .int .i64 (k : Int))]) (fun _ => R) (fun (k, c1, t, acc, a2, c2) => .sl 51 3 a2 c2 (acc.map encP) :: srcE b a cp xs c1 :: F) (fun (k, c1, t, acc, a2, c2) => k) ((trafficK xs n c, c + 1, 0, [], none, 0)) (⟨rfl, rfl, Int.le_refl _, by omega, by simp⟩) ⟨rfl, rfl, rfl, rfl, rfl, rfl, vint hK.symm, rfl⟩ (RLe.refl _) qS ?_
 intro st hst
 obtain ⟨k, c1, t, acc, a2, c2⟩ := st
 obtain ⟨h1, h2, h3, h4, h5⟩ := hst
 dsimp only
 refine zQ (zQ (zG (zR 2 rfl (zN (zU ?_)))))
 refine W.condD rfl (fun hc0 => ?_) (fun hc0 => ?_)
 ·try dsimp only at hc0
  obtain ⟨k, rfl⟩ : ∃ m, k = m + 1 := ⟨k - 1, by omega⟩
  have hr1 := mod_range (nth xs (c1 + 1)) (show (1 : Int) ≤ most by omega)
  have hr2 := pick7_range (mod (nth xs (c1 + 1 + 1)) 7)
  have hr3 := pick7_range (mod (nth xs (c1 + 2)) 7)
  refine zK (zU (zQ (zB (zQ (zG (zR 3 rfl ?_))))))
  refine WL.callAt 1 en23 rfl rfl qD (CallOp.mkT rfl rfl rfl rfl) rfl (N_C w0 ha hf _) ?_
  rintro _ _ _ _ - ⟨rfl, rfl, rfl, rfl⟩
  refine zR 3 rfl ?_
  refine WL.callAt 1 en23 rfl rfl qD (CallOp.mkT rfl rfl rfl rfl) rfl (N_C w0 ha (by constructor <;> omega) _) ?_
  rintro _ _ _ _ - ⟨rfl, rfl, rfl, rfl⟩
  refine yA ?_
  -- build
  refine WG.y rfl rfl qD (Yl.build (parts := [(0, .tmp 23), (1, .tmp 24), (2, .tmp 28)]) tab_ok rfl rfl rfl rfl (fun _ => rfl) rfl rfl) ?_
  refine WL.ef rfl rfl qD (Ef.buildSliceD (enc := encP) (parts := [.tmp 29]) [⟨_, _, _⟩] tab_ok rfl rfl rfl rfl rfl rfl rfl rfl qD qD (fun a30 => ?_))
  refine WL.ef rfl rfl (by decide) (Ef.appendD 1 0 tab_ok rfl rfl rfl rfl rfl rfl rfl rfl rfl rfl rfl (fun _ _ => rfl) (by simp only [List.length_cons, List.length_nil]; omega) (by simp only [List.length_cons, List.length_nil]; omega) (fun a31 c31 ha31 => ?_))
  refine zR 1 rfl (zN (zU (zG (zR 2 rfl ?_))))
  refine WL.ef rfl rfl qD (Ef.buildSliceD (enc := encI) (parts := [.const (.int .i64 0), .const (.int .i64 0), .const (.int .i64 0), .const (.int .i64 1), .const (.int .i64 1), .const (.int .i64 2), .const (.int .i64 7)]) [_, _, _, _, _, _, _] tab_ok rfl rfl rfl rfl rfl rfl rfl rfl qD qD (fun a34 => ?_))
  refine WL.callAt 3 en32 rfl rfl qD (CallOp.mkT rfl rfl rfl rfl) rfl (Pick7_C (j := 0) w0 ha rfl) ?_
  rintro _ _ _ _ - ⟨rfl, rfl, rfl, rfl⟩
  refine yA ?_
  refine zR 1 rfl (zN (zL (zU (zG (zR 1 rfl ?_)))))
  refine yS ?_
  refine zR 1 rfl (zN ?_)
  refine WE.again ((k, c1 + 3, t + pick7 (mod (nth xs (c1 + 2)) 7), acc ++ [⟨mod (nth xs c1) flows, t, 1 + mod (nth xs (c1 + 1)) most⟩], a31, c31)) (⟨by dsimp only; rw [← h1]; simp [trafficGo], by dsimp only; omega, by dsimp only; omega, by dsimp only; omega, by simp; omega⟩) (by (try dsimp only); omega) ⟨rfl, rfl, rfl, rfl, rfl, rfl, vint (by omega), rfl⟩ (RLe.refl _) qS
 ·try dsimp only at hc0
  obtain rfl : k = 0 := by omega
  simp only [trafficGo, List.append_nil] at h1
  subst h1
  refine zX ?_
  refine wx (wx (zY (zU (zQ (zG (zR 2 rfl (zN (zU (zT ?_)))))))))
  refine WE.retF tab_ok [_] rfl ⟨rfl, trivial⟩ (RLe.refl _) ?_
  exact ⟨_, [_], rfl, _, _, rfl, rfl, congrArg (srcE b a cp xs) qO, rfl⟩



theorem Validate_V {R : Ro} {a : Option Addr} {c : Nat} {ps : List Pkt} (ha : RS R 3 encP a ps) : FnV Tryz.prog 79 [.slice a ps.length c] R (.int .i64 (validate ps)) := by
 have hla := ha.len
 refine Fn.toV (fun w0 E => ?_)
 refine fE 50 Tryz.func79 ?_
 refine zQ (zG (zR 1 rfl (zN (zU (zQ (zQ (zG (zR 3 rfl (zN (zU ?_))))))))))
 refine W.condD rfl (fun hc0 => ?_) (fun hc0 => ?_)
 ·try dsimp only at hc0
  refine zQ (zG (zR 1 rfl (zN (zU (zT (wt ?_))))))
  refine sE (E := E) ?_
  refine WE.retF tab_ok [_] rfl ⟨rfl, trivial⟩ (RLe.refl _) ?_
  exact ⟨by unfold validate; rw [if_pos (show 60 < ps.length by omega)]; rfl, rfl⟩
 ·try dsimp only at hc0
  refine zK (zU (zQ (zG (zR 1 rfl (zN (zU (zQ (zQ (zG (zR 3 rfl (zN (zU (zB ?_)))))))))))))
  refine W.loop (β := Nat × Int) (fun (k, last) => k ≤ ps.length ∧ valGo last (ps.drop k) = valGo 0 ps) (fun (k, last) => [(0, true, .slice a ps.length c), (3, true, .int .i64 last), (9, true, .slice a ps.length c), (10, true, .int .i64 ps.length), (11, true, .int .i64 (k : Int))]) (fun _ => R) (fun _ => E) (fun (k, last) => ps.length - k) ((0, 0)) (⟨Nat.zero_le _, rfl⟩) ⟨rfl, rfl, rfl, rfl, rfl, rfl⟩ (RLe.refl _) qS ?_
  intro st hst
  obtain ⟨k, last⟩ := st
  obtain ⟨hk, hv⟩ := hst
  dsimp only
  refine zQ (zG (zR 1 rfl (zN (zU (zQ ?_)))))
  refine W.condD rfl (fun hc1 => ?_) (fun hc1 => ?_)
  ·try dsimp only at hc1
   have hd := drop_nth (xs := ps) (k := k) (by omega)
   rw [hd, valGo] at hv
   refine zK (zU (zQ (zB (zQ (zG ?_)))))
   refine WG.y rfl rfl qD (Yl.indexN tab_ok rfl rfl rfl rfl rfl rfl (fun _ => rfl) qN qH) ?_
   refine yR ?_
   refine zA fun b5 => ?_
   refine zE 0 ?_
   refine zN (zU (zQ (zQ (zG (zR 1 rfl ?_)))))
   refine yL (Rd.add (Rd.blk 0 rfl) _) ?_
   refine zR 2 rfl ?_
   refine yP ?_
   refine yG (Rd.addC (Rd.blkC 0 rfl) _) ?_
   refine yP ?_
   refine yO ?_
   refine zR 1 rfl ?_
   refine yP ?_
   refine yG (Rd.addC (Rd.blkC 0 rfl) _) ?_
   refine yP ?_
   refine yO ?_
   refine zR 1 rfl ?_
   refine yP ?_
   refine yG (Rd.addC (Rd.blkC 0 rfl) _) ?_
   refine yP ?_
   refine yO ?_
   refine zR 1 rfl ?_
   refine yP ?_
   refine yG (Rd.addC (Rd.blkC 0 rfl) _) ?_
   refine yP ?_
   refine yO ?_
   refine zR 1 rfl ?_
   refine yP ?_
   refine yG (Rd.addC (Rd.blkC 0 rfl) _) ?_
   refine yP ?_
   refine yO ?_
   refine zN (zU ?_)
   refine W.cond rfl (fun hc2 => ?_) (fun hc2 => ?_)
   ·try simp only [zk] at hc2
    rw [if_pos (show BadP (nth ps k) by unfold BadP; omega)] at hv
    refine zQ (zG (zR 1 rfl (zN (zU (zT (wt (wb (wt (wt (wb (wt ?_)))))))))))
    refine sE (E := E) ?_
    refine WE.retF tab_ok [_] rfl ⟨rfl, trivial⟩ (RLe.refl _) ?_
    exact ⟨by unfold validate; rw [if_neg (show ¬ 60 < ps.length by omega), ← hv]; rfl, rfl⟩
   ·try simp only [zk] at hc2
    rw [if_neg (show ¬ BadP (nth ps k) by unfold BadP; omega)] at hv
    refine zK (zU (zQ (zQ (zG (zR 1 rfl ?_)))))
    refine yL (Rd.add (Rd.blk 0 rfl) _) ?_
    refine zR 2 rfl (zN (zU ?_))
    refine W.condD rfl (fun hc3 => ?_) (fun hc3 => ?_)
    ·try dsimp only at hc3
     rw [if_pos hc3] at hv
     refine zQ (zG (zR 1 rfl (zN (zU (zT (wt (wb (wt (wt (wb (wt ?_)))))))))))
     refine sE (E := E) ?_
     refine WE.retF tab_ok [_] rfl ⟨rfl, trivial⟩ (RLe.refl _) ?_
     exact ⟨by unfold validate; rw [if_neg (show ¬ 60 < ps.length by omega), ← hv]; rfl, rfl⟩
    ·try dsimp only at hc3
     rw [if_neg hc3] at hv
     refine zK (zU (zG (zR 1 rfl ?_)))
     refine yL (Rd.add (Rd.blk 0 rfl) _) ?_
     refine zR 1 rfl (zN (zL (zU (zG ?_))))
     refine yA ?_
     refine zR 1 rfl (zN ?_)
     refine WE.again ((k + 1, (nth ps k).time)) (⟨by dsimp only; omega, hv⟩) (by (try dsimp only); omega) ⟨rfl, rfl, rfl, rfl, rfl, rfl⟩ (RLe.refl _) qS
  ·try dsimp only at hc1
   obtain rfl : k = ps.length := by omega
   simp only [List.drop_length, valGo] at hv
   refine zX ?_
   refine wx (wx (zY (zU (zQ (zG (zR 1 rfl (zN (zU (zT ?_)))))))))
   refine sE (E := E) ?_
   refine WE.retF tab_ok [_] rfl ⟨rfl, trivial⟩ (RLe.refl _) ?_
   exact ⟨by unfold validate; rw [if_neg (show ¬ 60 < ps.length by omega), ← hv]; rfl, rfl⟩



theorem First_C {R : Ro} {sb : Nat} {pa : Option Addr} {pc bg : Nat} {ps : List Pkt} {ms : MS} (w0 : World) (hp : RS R 3 encP pa ps) (hb : ms.begun.length = ps.length) (hbf : ms.before ≤ ps.length) (F : List Ent) :
  K.Fn Tryz.prog 192 [.pointer (some ⟨sb, 0, none⟩)] w0 R (stE sb pa ps.length pc bg ms :: .sl 4 1 (some ⟨bg, 0, none⟩) ps.length (ms.begun.map encB) :: F)
   (fun v R' E' => v = .int .i64 (firstR ps ms) ∧ R = R' ∧ E' = stE sb pa ps.length pc bg { ms with before := skipTo ms.begun ms.before } :: .sl 4 1 (some ⟨bg, 0, none⟩) ps.length (ms.begun.map encB) :: F) := by
 have hla := hp.len
 refine fE 64 Tryz.func192 ?_
 refine zQ (zG (zR 1 rfl (zN (zU (zQ (zB ?_))))))
 refine W.loop (β := Nat) (fun k => k ≤ ps.length ∧ skipTo ms.begun k = skipTo ms.begun ms.before) (fun k => [(0, true, .pointer (some ⟨sb, 0, none⟩))]) (fun _ => R) (fun k => stE sb pa ps.length pc bg { ms with before := k } :: .sl 4 1 (some ⟨bg, 0, none⟩) ps.length (ms.begun.map encB) :: F) (fun k => ps.length - k) (ms.before) (⟨hbf, rfl⟩) ⟨rfl, rfl⟩ (RLe.refl _) qS ?_
 intro st hst
 obtain ⟨hk, hsk⟩ := hst
 refine zQ (zQ ?_)
 refine W.regionQ _ mixed qK ?_
 refine zR 3 rfl ?_
 refine yL (Rd.add (Rd.blk 0 rfl) _) ?_
 refine zR 3 rfl ?_
 refine yL (Rd.add (Rd.blk 0 rfl) _) ?_
 refine zR 3 rfl ?_
 refine yP ?_
 refine yP ?_
 refine yP ?_
 refine yG (Rd.addC (Rd.blkC 0 rfl) _) ?_
 refine yP ?_
 refine yP ?_
 refine yP ?_
 refine yG (Rd.addC (Rd.blkC 0 rfl) _) ?_
 refine WG.y rfl rfl (by decide) (Yl.indexN tab_ok rfl rfl rfl rfl rfl rfl qE (by intro hg; (try simp only [zk] at hg); (try dsimp only) <;> omega) (by intro hg; (try simp only [zk] at hg); first | exact qI)) ?_
 refine' WG.y rfl rfl qD (Yl.loadG tab_ok rfl rfl rfl qE ?r5 rfl ?h5 ?g5) ?_
 case r5 => (exact Rd.slC 1 rfl)
 case h5 => rfl
 case g5 => (intro hg; (try simp only [zk] at hg); (try dsimp only); omega)
 refine yN ?_
 refine zN (zU ?_)
 refine W.cond rfl (fun hc0 => ?_) (fun hc0 => ?_)
 ·try simp only [zk] at hc0
  obtain ⟨hc1, hc2⟩ := hc0
  have hs := skipTo_true (l := ms.begun) (b := st) (by omega) hc2
  refine zK (zU (zB (zG (zR 3 rfl ?_))))
  refine yL (Rd.add (Rd.blk 0 rfl) _) ?_
  refine yA ?_
  refine zR 2 rfl ?_
  refine zF 0 ?_
  refine zN (zL ?_)
  refine WE.again (st + 1) (⟨by omega, by rw [hs, hsk]⟩) (by (try dsimp only); omega) ⟨rfl, rfl⟩ (RLe.refl _) qS
 ·try simp only [zk] at hc0
  have hs : skipTo ms.begun st = st := by
   by_cases hlt : st < ps.length
   ·exact skipTo_false (by omega) (hc0 (by omega))
   ·exact skipTo_end (by omega)
  rw [hs] at hsk
  have hfr : firstR ps ms = if st < ps.length ∧ (nth ps st).time ≤ ms.now then (st : Int) else -1 := by unfold firstR; rw [← hsk]
  refine zX ?_
  refine wx (wx (zY (zU (zQ (zQ ?_)))))
  refine W.regionQ _ mixed qK ?_
  refine zR 3 rfl ?_
  refine yL (Rd.add (Rd.blk 0 rfl) _) ?_
  refine zR 3 rfl ?_
  refine yL (Rd.add (Rd.blk 0 rfl) _) ?_
  refine zR 3 rfl ?_
  refine yP ?_
  refine yP ?_
  refine yP ?_
  refine yG (Rd.addC (Rd.blkC 0 rfl) _) ?_
  refine yP ?_
  refine yP ?_
  refine yP ?_
  refine yG (Rd.addC (Rd.blkC 0 rfl) _) ?_
  refine WG.y rfl rfl (by decide) (Yl.indexN tab_ok rfl rfl rfl rfl rfl rfl qE (by intro hg; (try simp only [zk] at hg); (try dsimp only) <;> omega) (by intro hg; (try simp only [zk] at hg); first | exact qI)) ?_
  refine yP ?_
  refine' WG.y rfl rfl qD (Yl.loadG tab_ok rfl rfl rfl qE ?r11 rfl ?h11 ?g11) ?_
  case r11 => apply Rd.addC; ((apply RS.rdC; assumption))
  case h11 => rfl
  case g11 => (intro hg; (try simp only [zk] at hg); (try dsimp only); omega)
  refine yP ?_
  refine yP ?_
  refine yP ?_
  refine yG (Rd.addC (Rd.blkC 0 rfl) _) ?_
  refine yP ?_
  refine yN ?_
  refine zN (zU ?_)
  refine W.cond rfl (fun hc1 => ?_) (fun hc1 => ?_)
  ·try simp only [zk] at hc1
   refine zQ (zG (zR 3 rfl ?_))
   refine yL (Rd.add (Rd.blk 0 rfl) _) ?_
   refine zR 1 rfl (zN (zU (zT (wt ?_))))
   refine WE.retF tab_ok [_] rfl ⟨rfl, trivial⟩ (RLe.refl _) ?_
   exact ⟨by rw [hfr, if_pos (by omega)]; rfl, rfl, by rw [← hsk]⟩
  ·try simp only [zk] at hc1
   refine zK (zU (zQ (zG (zR 1 rfl (zN (zU (zT ?_)))))))
   refine WE.retF tab_ok [_] rfl ⟨rfl, trivial⟩ (RLe.refl _) ?_
   exact ⟨by rw [hfr, if_neg (by omega)]; rfl, rfl, by rw [← hsk]⟩

theorem MRun_C {R : Ro} {pa : Option Addr} {pc : Nat} {ps : List Pkt} {cap : Int} {classes ticks : Nat} {g : FuncId} {first capd : Array Value} {σ : Type} {ch : MS → σ → Int × Nat × σ} {good : MS → σ → Prop} {X : σ → List Ent} {sg : σ} (w0 : World)
  (hp : RS R 3 encP pa ps) (hg : M.Good ps ch good) (hf : Fit ps classes) (h0 : good (M.start ps classes sg).ms sg) (hcap : 1 ≤ cap ∧ cap ≤ 1000000) (hcl : classes ≤ 1000) (htk : ticks ≤ 1000000) (hen : Enters Tryz.prog g)
  (hch : ∀ (sb bg : Nat) (ms : MS) (sg : σ) (F : List Ent), good ms sg → ms.begun.length = ps.length → 0 < ms.left → ms.left ≤ cap → 0 ≤ ms.now → ms.now < ticks →
   K.Fn Tryz.prog g (first.toList ++ [.pointer (some ⟨sb, 0, none⟩)] ++ capd.toList) w0 R (stE sb pa ps.length pc bg ms :: .sl 4 1 (some ⟨bg, 0, none⟩) ps.length (ms.begun.map encB) :: (X sg ++ F))
    (fun v R' E' => v = .int .i64 (ch ms sg).1 ∧ R = R' ∧ E' = stE sb pa ps.length pc bg { ms with before := (ch ms sg).2.1 } :: .sl 4 1 (some ⟨bg, 0, none⟩) ps.length (ms.begun.map encB) :: (X (ch ms sg).2.2 ++ F)))
  (F : List Ent) :
  K.Fn Tryz.prog 191 [.int .i64 cap, .int .i64 classes, .slice pa ps.length pc, .int .i64 ticks, .func (.func g) first capd] w0 R (X sg ++ F)
   (fun v R' E' => ∃ (rows : List Sl) (gd go : Nat) (s : M.RS σ), s = mrun ps ch cap classes ticks sg ∧ v = .agg #[.slice (some ⟨gd, 0, none⟩) ps.length ps.length, .slice (some ⟨go, 0, none⟩) classes classes] ∧ R = R' ∧ rows.map Sl.xs = s.sent ∧ (∀ r ∈ rows, r.a.isSome = true) ∧ Inv ps classes good (ticks + 1) (ticks * cap) s ∧
    (.sl 3 1 (some ⟨gd, 0, none⟩) ps.length (s.done.map encI) :: .sl 22 1 (some ⟨go, 0, none⟩) classes (rows.map encS) :: (rows.map (rowE 3) ++ (X s.sg ++ F))).Sublist E') := by
 have hlp := hf.len
 refine fE 160 Tryz.func191 ?_
 refine zQ (zG ?_)
 refine zA fun b10 => ?_
 refine zN (zU ?_)
 refine W.seqCut (β := Nat × Nat × Nat) (fun (b11, gd, go) => True) (fun (b11, gd, go) => [(0, true, .int .i64 cap), (1, true, .int .i64 classes), (2, true, .slice pa ps.length pc), (3, true, .int .i64 ticks), (4, true, .func (.func g) first capd), (10, true, .pointer (some ⟨b10, 0, none⟩)), (11, true, .pointer (some ⟨b11, 0, none⟩))]) (fun _ => R) (fun (b11, gd, go) => .blk b11 [.slice (some ⟨gd, 0, none⟩) ps.length ps.length, .slice (some ⟨go, 0, none⟩) classes classes] :: .sl 3 1 (some ⟨gd, 0, none⟩) ps.length ((List.replicate ps.length 0).map encI) :: .sl 22 1 (some ⟨go, 0, none⟩) classes ((List.replicate classes (⟨none, 0, []⟩ : Sl)).map encS) :: .blk b10 [.slice none 0 0, .slice none 0 0] :: (X sg ++ F)) ?_ ?_
 ·
  intro st hst
  obtain ⟨b11, gd, go⟩ := st
  dsimp only
  refine zQ (zQ (zG (zR 1 rfl ?_)))
  refine yL (Rd.add (Rd.blk 0 rfl) _) ?_
  refine zR 2 rfl (zN (zU (zB ?_)))
  refine W.loop (β := Nat × List Int) (fun (k, l) => l.length = ps.length ∧ k ≤ ps.length ∧ ∀ j, j < k → nth l j = -1) (fun (k, l) => [(0, true, .int .i64 cap), (1, true, .int .i64 classes), (2, true, .slice pa ps.length pc), (3, true, .int .i64 ticks), (4, true, .func (.func g) first capd), (10, true, .pointer (some ⟨b10, 0, none⟩)), (11, true, .pointer (some ⟨b11, 0, none⟩)), (28, true, .int .i64 ps.length), (29, true, .int .i64 (k : Int))]) (fun _ => R) (fun (k, l) => .blk b11 [.slice (some ⟨gd, 0, none⟩) ps.length ps.length, .slice (some ⟨go, 0, none⟩) classes classes] :: .sl 3 1 (some ⟨gd, 0, none⟩) ps.length (l.map encI) :: .sl 22 1 (some ⟨go, 0, none⟩) classes ((List.replicate classes (⟨none, 0, []⟩ : Sl)).map encS) :: .blk b10 [.slice none 0 0, .slice none 0 0] :: (X sg ++ F)) (fun (k, l) => ps.length - k) ((0, List.replicate ps.length 0)) (⟨by simp, Nat.zero_le _, fun j hj => by omega⟩) ⟨rfl, rfl, rfl, rfl, rfl, rfl, rfl, rfl, rfl, rfl⟩ (RLe.refl _) qS ?_
  intro st hst
  obtain ⟨k, l⟩ := st
  obtain ⟨h1, h2, h3⟩ := hst
  dsimp only at h1 h2 h3 ⊢
  refine zQ (zG (zR 1 rfl (zN (zU (zQ ?_)))))
  refine W.condD rfl (fun hc0 => ?_) (fun hc0 => ?_)
  ·try dsimp only at hc0
   refine zK (zU (zQ (zB (zQ (zG (zR 2 rfl (zN (zU (zG (zR 1 rfl ?_))))))))))
   refine yL (Rd.add (Rd.blk 0 rfl) _) ?_
   refine zR 1 rfl ?_
   refine WG.y rfl rfl qD (Yl.indexN tab_ok rfl rfl rfl rfl rfl rfl (fun _ => rfl) qN qH) ?_
   refine WL.efN rfl rfl (Ef.storeD _ 1 tab_ok rfl rfl rfl rfl rfl qX rfl rfl rfl rfl ?_)
   refine zN (zL (zU (zG ?_)))
   refine yA ?_
   refine zR 1 rfl (zN ?_)
   refine WE.again ((k + 1, l.set k (-1))) (⟨by simp [h1], by omega, fill_step (p := (· = -1)) (by omega) h3 rfl⟩) (by (try dsimp only); omega) ⟨rfl, rfl, rfl, rfl, rfl, rfl, rfl, rfl, rfl, rfl⟩ (RLe.refl _) qS
  ·try dsimp only at hc0
   have hk : k = ps.length := by omega
   subst k
   obtain rfl := replicate_of h1 h3
   refine zX ?_
   refine wx (wx (zY (zU (zQ (zQ (zG (zR 1 rfl ?_)))))))
   refine yL (Rd.add (Rd.blk 0 rfl) _) ?_
   refine zR 2 rfl (zN (zU (zB ?_)))
   refine W.loop (β := Nat × List Sl) (fun (k, rows) => rows.length = classes ∧ k ≤ classes ∧ ∀ j, j < k → (nth (rows : List Sl) j).a.isSome = true ∧ (nth rows j).xs = [0]) (fun (k, rows) => [(0, true, .int .i64 cap), (1, true, .int .i64 classes), (2, true, .slice pa ps.length pc), (3, true, .int .i64 ticks), (4, true, .func (.func g) first capd), (10, true, .pointer (some ⟨b10, 0, none⟩)), (11, true, .pointer (some ⟨b11, 0, none⟩)), (39, true, .int .i64 classes), (40, true, .int .i64 (k : Int))]) (fun _ => R) (fun (k, rows) => .blk b11 [.slice (some ⟨gd, 0, none⟩) ps.length ps.length, .slice (some ⟨go, 0, none⟩) classes classes] :: .sl 3 1 (some ⟨gd, 0, none⟩) ps.length ((List.replicate ps.length (-1)).map encI) :: .sl 22 1 (some ⟨go, 0, none⟩) classes (rows.map encS) :: .blk b10 [.slice none 0 0, .slice none 0 0] :: ((rows.take k).map (rowE 3) ++ (X sg ++ F))) (fun (k, rows) => classes - k) ((0, List.replicate classes ⟨none, 0, []⟩)) (⟨by simp, Nat.zero_le _, fun j hj => by omega⟩) ⟨rfl, rfl, rfl, rfl, rfl, rfl, rfl, rfl, rfl, rfl⟩ (RLe.refl _) qS ?_
   intro st hst
   obtain ⟨k, rows⟩ := st
   obtain ⟨h1, h2, h3⟩ := hst
   dsimp only at h1 h2 h3 ⊢
   refine zQ (zG (zR 1 rfl (zN (zU (zQ ?_)))))
   refine W.condD rfl (fun hc1 => ?_) (fun hc1 => ?_)
   ·try dsimp only at hc1
    refine zK (zU (zQ (zB (zQ (zG (zR 2 rfl (zN (zU ?_))))))))
    refine W.regionH _ (ES := [.blk b11 [.slice (some ⟨gd, 0, none⟩) ps.length ps.length, .slice (some ⟨go, 0, none⟩) classes classes]]) mixed ?_
    refine tP 0 ?_
    refine tL 1 (Rd.add (Rd.blk 0 rfl) _) ?_
    refine tP 2 ?_
    refine tP 3 ?_
    refine tA 4 ?_
    refine WA.eff 5 rfl qK rfl rfl qD (Ef.makeSliceD (enc := encI) 0 tab_ok rfl rfl rfl rfl rfl rfl qX qX qX qX qD rfl rfl (fun a48 => ?_))
    refine ⟨qR, qS, ?_⟩
    refine WA.take 6 rfl qK qK qK rfl rfl qD (Yl.indexN tab_ok rfl rfl rfl rfl rfl rfl (fun _ => rfl) qN qH) qS qR ?_
    refine WA.effN 7 rfl qK rfl rfl (Ef.storeD (⟨some ⟨a48, 0, none⟩, ticks + 1, [0]⟩ : Sl) 3 tab_ok rfl rfl rfl rfl rfl qO rfl rfl rfl rfl ?_)
    refine ⟨qR, qS, ?_⟩
    refine WA.done qK ?_
    refine zL (zU (zG ?_))
    refine yA ?_
    refine zR 1 rfl (zN ?_)
    refine WE.againP (k + 1, rows.set k ⟨some ⟨a48, 0, none⟩, ticks + 1, [0]⟩) ⟨by simp [h1], by omega, fill_step (p := fun r : Sl => r.a.isSome = true ∧ r.xs = [0]) (by omega) h3 ⟨rfl, rfl⟩⟩ (by dsimp only; omega) ⟨rfl, rfl, rfl, rfl, rfl, rfl, rfl, rfl, rfl, rfl⟩ (RLe.refl _) ⟨_, perm_row, by dsimp only; rw [← take_set_map (by omega)]; exact List.Sublist.refl _⟩
   ·try dsimp only at hc1
    have hk : k = classes := by omega
    subst k
    rw [List.take_of_length_le (by omega)]
    have hra : ∀ r ∈ rows, r.a.isSome = true := all_of_nth (fun j hj => (h3 j (by omega)).1)
    have hrx : rows.map Sl.xs = (M.start ps classes sg).sent := List.eq_replicate_iff.2 ⟨by simp [h1], fun x hx => by
     obtain ⟨r, hr, rfl⟩ := List.mem_map.1 hx
     exact all_of_nth (p := fun r => r.xs = [0]) (fun j hj => (h3 j qO).2) r hr⟩
    refine zX ?_
    refine wx (wx (zY (zU (zQ (zG (zR 3 rfl ?_))))))
    refine WL.ef rfl rfl qD (Ef.makeSliceD (enc := encB) false tab_ok rfl rfl rfl rfl rfl rfl qX qX qX qX qD rfl rfl (fun a54 => ?_))
    -- build
    refine WG.y rfl rfl qD (Yl.build (parts := [(2, .tmp 51), (3, .tmp 54)]) tab_ok rfl rfl rfl rfl (fun _ => rfl) rfl rfl) ?_
    refine zO fun b56 => ?_
    refine zR 1 rfl (zN (zU (zQ (zG (zR 2 rfl (zN (zU (zQ (zQ (zG (zR 2 rfl (zN (zU (zB ?_))))))))))))))
    refine W.loop (β := Nat × M.RS σ × List Sl) (fun (t, s, rows) => t ≤ ticks ∧ ticksFrom ps ch cap t (ticks - t) s = mrun ps ch cap classes ticks sg ∧ Inv ps classes good (t + 1) (t * cap) s ∧ rows.map Sl.xs = s.sent ∧ ∀ r ∈ rows, r.a.isSome = true) (fun (t, s, rows) => [(0, true, .int .i64 cap), (1, true, .int .i64 classes), (2, true, .slice pa ps.length pc), (3, true, .int .i64 ticks), (4, true, .func (.func g) first capd), (10, true, .pointer (some ⟨b10, 0, none⟩)), (11, true, .pointer (some ⟨b11, 0, none⟩)), (14, true, .pointer (some ⟨b56, 0, none⟩)), (15, true, .int .i64 s.cur), (16, true, .int .i64 s.rest), (57, true, .int .i64 ticks), (58, true, .int .i64 (t : Int))]) (fun _ => R) (fun (t, s, rows) => stE b56 pa ps.length pc a54 s.ms :: .sl 4 1 (some ⟨a54, 0, none⟩) ps.length (s.ms.begun.map encB) :: .blk b11 [.slice (some ⟨gd, 0, none⟩) ps.length ps.length, .slice (some ⟨go, 0, none⟩) classes classes] :: .sl 3 1 (some ⟨gd, 0, none⟩) ps.length (s.done.map encI) :: .sl 22 1 (some ⟨go, 0, none⟩) classes (rows.map encS) :: .blk b10 [.slice none 0 0, .slice none 0 0] :: (rows.map (rowE 3) ++ (X s.sg ++ F))) (fun (t, s, rows) => ticks - t) ((0, M.start ps classes sg, rows)) (⟨Nat.zero_le _, rfl, by simpa using Inv.start h0, hrx, hra⟩) ⟨rfl, rfl, rfl, rfl, rfl, rfl, rfl, rfl, rfl, rfl, rfl, rfl, rfl⟩ (RLe.refl _) qS ?_
    intro st hst
    obtain ⟨t, s, rows⟩ := st
    obtain ⟨h1, h2, h3, h4, h5⟩ := hst
    dsimp only at h1 h2 h3 h4 h5 ⊢
    refine zQ (zG (zR 1 rfl (zN (zU (zQ ?_)))))
    refine W.condD rfl (fun hc2 => ?_) (fun hc2 => ?_)
    ·try dsimp only at hc2
     have hbig : ((t : Int) + 1) * cap ≤ 1000000 * 1000000 := Int.mul_le_mul (by omega) hcap.2 (by omega) (by omega)
     refine zK (zU (zQ (zB (zQ (zG (zR 2 rfl (zN (zU (zQ (zG (zR 6 rfl ?_)))))))))))
     refine zF 0 ?_
     refine zR 2 rfl ?_
     refine zF 0 ?_
     refine zN (zU (zQ (zQ (zG (zR 1 rfl ?_)))))
     refine yL (Rd.add (Rd.blk 2 rfl) _) ?_
     refine zR 2 rfl (zN (zU (zB ?_)))
     refine W.loop (β := Nat × List Sl) (fun (c, rws) => c ≤ classes ∧ rws.map Sl.xs = (s.sent.take c).map (fun l => l ++ [nth l t]) ++ s.sent.drop c ∧ ∀ r ∈ rws, r.a.isSome = true) (fun (c, rws) => [(0, true, .int .i64 cap), (1, true, .int .i64 classes), (2, true, .slice pa ps.length pc), (3, true, .int .i64 ticks), (4, true, .func (.func g) first capd), (10, true, .pointer (some ⟨b10, 0, none⟩)), (11, true, .pointer (some ⟨b11, 0, none⟩)), (14, true, .pointer (some ⟨b56, 0, none⟩)), (15, true, .int .i64 s.cur), (16, true, .int .i64 s.rest), (57, true, .int .i64 ticks), (58, true, .int .i64 (t : Int)), (17, true, .int .i64 (t : Int)), (71, true, .int .i64 classes), (72, true, .int .i64 (c : Int))]) (fun _ => R) (fun (c, rws) => stE b56 pa ps.length pc a54 { s.ms with now := (t : Int), left := cap } :: .sl 4 1 (some ⟨a54, 0, none⟩) ps.length (s.ms.begun.map encB) :: .blk b11 [.slice (some ⟨gd, 0, none⟩) ps.length ps.length, .slice (some ⟨go, 0, none⟩) classes classes] :: .sl 3 1 (some ⟨gd, 0, none⟩) ps.length (s.done.map encI) :: .sl 22 1 (some ⟨go, 0, none⟩) classes (rws.map encS) :: .blk b10 [.slice none 0 0, .slice none 0 0] :: (rws.map (rowE 3) ++ (X s.sg ++ F))) (fun (c, rws) => classes - c) ((0, rows)) (⟨Nat.zero_le _, by simpa using h4, h5⟩) ⟨rfl, rfl, rfl, rfl, rfl, rfl, rfl, rfl, rfl, rfl, rfl, rfl, rfl, rfl, rfl, rfl⟩ (RLe.refl _) qS ?_
     intro st hst
     obtain ⟨c, rws⟩ := st
     obtain ⟨g1, g2, g3⟩ := hst
     dsimp only at g1 g2 g3 ⊢
     have hsl := h3.sent
     have hlen : rws.length = classes := by
      have := congrArg List.length g2
      simp only [List.length_map, List.length_append, List.length_take, List.length_drop] at this
      omega
     refine zQ (zG (zR 1 rfl (zN (zU (zQ ?_)))))
     refine W.condD rfl (fun hc3 => ?_) (fun hc3 => ?_)
     ·try dsimp only at hc3
      have hxs : (nth rws c).xs = nth s.sent c := by rw [nth_map_xs g2 (by omega), ext_nth (by omega)]
      have hsome : (nth rws c).a.isSome = true := g3 _ (nth_mem (by omega))
      have hxl : (nth rws c).xs.length = t + 1 := by rw [hxs]; exact (h3.row (by omega)).1
      have hrow := rows_get (e := 3) (G := X s.sg ++ F) (rows := rws) (c := c) (by omega)
      refine zK (zU (zQ (zB (zQ (zG (zR 2 rfl (zN (zU ?_))))))))
      refine W.regionH _ (ES := [.blk b11 [.slice (some ⟨gd, 0, none⟩) ps.length ps.length, .slice (some ⟨go, 0, none⟩) classes classes]]) mixed ?_
      refine tP 0 ?_
      refine tL 1 (Rd.add (Rd.blk 0 rfl) _) ?_
      refine tP 2 ?_
      refine tP 3 ?_
      refine tL 4 (Rd.add (Rd.blk 0 rfl) _) ?_
      refine tP 5 ?_
      refine WA.take 6 rfl qK qK qK rfl rfl qD (Yl.indexN tab_ok rfl rfl rfl rfl rfl rfl (fun _ => rfl) qN qH) qS qR ?_
      refine tP 8 ?_
      refine tL 9 (Rd.add (Rd.blk 0 rfl) _) ?_
      refine tP 10 ?_
      refine WA.take 11 rfl qK qK qK rfl rfl qD (Yl.indexN tab_ok rfl rfl rfl rfl rfl rfl (fun _ => rfl) qN qH) qS qR ?_
      refine tP 13 ?_
      refine WA.br2 (i := 7) (j := 12) qK ?_ ?_
      ·
       refine' WS.yl rfl rfl rfl qD (Yl.load1 tab_ok rfl rfl rfl (fun _ => rfl) ?r9 rfl ?h9) qS qR ?_
       case r9 => (exact Rd.slD 4 rfl qX)
       case h9 => rfl
       refine' WA.yl 12 rfl qK rfl rfl qD (Yl.load1 tab_ok rfl rfl rfl (fun _ => rfl) ?r10 rfl ?h10) qS qR ?_
       case r10 => (exact Rd.slD 4 rfl qX)
       case h10 => rfl
       refine WA.take 14 rfl qK qK qK rfl rfl qD (Yl.indexN tab_ok rfl rfl rfl rfl rfl rfl (fun _ => rfl) qN qH) qS qR ?_
       refine' WA.yl 15 rfl qK rfl rfl qD (Yl.load1 tab_ok rfl rfl rfl (fun _ => rfl) ?r11 rfl ?h11) qS qR ?_
       case r11 => exact Rd.slD (c + 6) hrow qO
       case h11 => rfl
       refine WA.eff 16 rfl qK rfl rfl qD (Ef.buildSliceD (enc := encI) (parts := [.tmp 90]) [_] tab_ok rfl rfl rfl rfl rfl rfl rfl rfl qD qD (fun a91 => ?_))
       refine ⟨qR, qS, ?_⟩
       refine WA.eff 17 rfl (by kernel_rfl) rfl rfl (by decide) (Ef.appendD (c + 7) 0 tab_ok rfl rfl rfl rfl rfl rfl hrow rfl rfl rfl rfl (fun _ _ => rfl) (by simp only [List.length_cons, List.length_nil]; omega) (by simp only [List.length_cons, List.length_nil]; omega) (fun a92 c92 ha92 => ?_))
       refine ⟨qR, qS, ?_⟩
       refine WA.take 18 rfl qK qK qK rfl rfl qD (Yl.indexN tab_ok rfl rfl rfl rfl rfl rfl (fun _ => rfl) qN qH) qS qR ?_
       refine WA.effN 19 rfl qK rfl rfl (Ef.storeD (⟨a92, c92, (nth rws c).xs ++ [nth (nth rws c).xs t]⟩ : Sl) 5 tab_ok rfl rfl rfl rfl rfl qO rfl rfl rfl rfl ?_)
       refine ⟨qR, qS, ?_⟩
       refine WA.done qK ?_
       refine zL (zU (zG ?_))
       refine yA ?_
       refine zR 1 rfl (zN ?_)
       refine WE.again (c + 1, rws.set c ⟨a92, c92, (nth rws c).xs ++ [nth (nth rws c).xs t]⟩) ⟨by dsimp only; omega, by dsimp only; rw [List.map_set, g2]; dsimp only; rw [hxs]; exact ext_step (by omega), all_set g3 (ha92 (by simp))⟩ (by dsimp only; omega) ⟨rfl, rfl, rfl, rfl, rfl, rfl, rfl, rfl, rfl, rfl, rfl, rfl, rfl, rfl, rfl, rfl⟩ (RLe.refl _) (by dsimp only; rw [← rows_set (by omega)]; exact List.Sublist.cons _ (List.Sublist.refl _))
      ·
       refine' WS.yl rfl rfl rfl qD (Yl.load1 tab_ok rfl rfl rfl (fun _ => rfl) ?r12 rfl ?h12) qS qR ?_
       case r12 => (exact Rd.slD 4 rfl qX)
       case h12 => rfl
       refine WA.take 14 rfl qK qK qK rfl rfl qD (Yl.indexN tab_ok rfl rfl rfl rfl rfl rfl (fun _ => rfl) qN qH) qS qR ?_
       refine WA.br2 (i := 7) (j := 15) qK ?_ ?_
       ·
        refine' WS.yl rfl rfl rfl qD (Yl.load1 tab_ok rfl rfl rfl (fun _ => rfl) ?r13 rfl ?h13) qS qR ?_
        case r13 => (exact Rd.slD 4 rfl qX)
        case h13 => rfl
        refine' WA.yl 15 rfl qK rfl rfl qD (Yl.load1 tab_ok rfl rfl rfl (fun _ => rfl) ?r14 rfl ?h14) qS qR ?_
        case r14 => exact Rd.slD (c + 6) hrow qO
        case h14 => rfl
        refine WA.eff 16 rfl qK rfl rfl qD (Ef.buildSliceD (enc := encI) (parts := [.tmp 90]) [_] tab_ok rfl rfl rfl rfl rfl rfl rfl rfl qD qD (fun a91 => ?_))
        refine ⟨qR, qS, ?_⟩
        refine WA.eff 17 rfl (by kernel_rfl) rfl rfl (by decide) (Ef.appendD (c + 7) 0 tab_ok rfl rfl rfl rfl rfl rfl hrow rfl rfl rfl rfl (fun _ _ => rfl) (by simp only [List.length_cons, List.length_nil]; omega) (by simp only [List.length_cons, List.length_nil]; omega) (fun a92 c92 ha92 => ?_))
        refine ⟨qR, qS, ?_⟩
        refine WA.take 18 rfl qK qK qK rfl rfl qD (Yl.indexN tab_ok rfl rfl rfl rfl rfl rfl (fun _ => rfl) qN qH) qS qR ?_
        refine WA.effN 19 rfl qK rfl rfl (Ef.storeD (⟨a92, c92, (nth rws c).xs ++ [nth (nth rws c).xs t]⟩ : Sl) 5 tab_ok rfl rfl rfl rfl rfl qO rfl rfl rfl rfl ?_)
        refine ⟨qR, qS, ?_⟩
        refine WA.done qK ?_
        refine zL (zU (zG ?_))
        refine yA ?_
        refine zR 1 rfl (zN ?_)
        refine WE.again (c + 1, rws.set c ⟨a92, c92, (nth rws c).xs ++ [nth (nth rws c).xs t]⟩) ⟨by dsimp only; omega, by dsimp only; rw [List.map_set, g2]; dsimp only; rw [hxs]; exact ext_step (by omega), all_set g3 (ha92 (by simp))⟩ (by dsimp only; omega) ⟨rfl, rfl, rfl, rfl, rfl, rfl, rfl, rfl, rfl, rfl, rfl, rfl, rfl, rfl, rfl, rfl⟩ (RLe.refl _) (by dsimp only; rw [← rows_set (by omega)]; exact List.Sublist.cons _ (List.Sublist.refl _))
       ·
        refine' WS.yl rfl rfl rfl qD (Yl.load1 tab_ok rfl rfl rfl (fun _ => rfl) ?r15 rfl ?h15) qS qR ?_
        case r15 => exact Rd.slD (c + 6) hrow qO
        case h15 => rfl
        refine WA.br2 (i := 7) (j := 16) qK ?_ ?_
        ·
         refine' WS.yl rfl rfl rfl qD (Yl.load1 tab_ok rfl rfl rfl (fun _ => rfl) ?r16 rfl ?h16) qS qR ?_
         case r16 => (exact Rd.slD 4 rfl qX)
         case h16 => rfl
         refine WA.eff 16 rfl qK rfl rfl qD (Ef.buildSliceD (enc := encI) (parts := [.tmp 90]) [_] tab_ok rfl rfl rfl rfl rfl rfl rfl rfl qD qD (fun a91 => ?_))
         refine ⟨qR, qS, ?_⟩
         refine WA.eff 17 rfl (by kernel_rfl) rfl rfl (by decide) (Ef.appendD (c + 7) 0 tab_ok rfl rfl rfl rfl rfl rfl hrow rfl rfl rfl rfl (fun _ _ => rfl) (by simp only [List.length_cons, List.length_nil]; omega) (by simp only [List.length_cons, List.length_nil]; omega) (fun a92 c92 ha92 => ?_))
         refine ⟨qR, qS, ?_⟩
         refine WA.take 18 rfl qK qK qK rfl rfl qD (Yl.indexN tab_ok rfl rfl rfl rfl rfl rfl (fun _ => rfl) qN qH) qS qR ?_
         refine WA.effN 19 rfl qK rfl rfl (Ef.storeD (⟨a92, c92, (nth rws c).xs ++ [nth (nth rws c).xs t]⟩ : Sl) 5 tab_ok rfl rfl rfl rfl rfl qO rfl rfl rfl rfl ?_)
         refine ⟨qR, qS, ?_⟩
         refine WA.done qK ?_
         refine zL (zU (zG ?_))
         refine yA ?_
         refine zR 1 rfl (zN ?_)
         refine WE.again (c + 1, rws.set c ⟨a92, c92, (nth rws c).xs ++ [nth (nth rws c).xs t]⟩) ⟨by dsimp only; omega, by dsimp only; rw [List.map_set, g2]; dsimp only; rw [hxs]; exact ext_step (by omega), all_set g3 (ha92 (by simp))⟩ (by dsimp only; omega) ⟨rfl, rfl, rfl, rfl, rfl, rfl, rfl, rfl, rfl, rfl, rfl, rfl, rfl, rfl, rfl, rfl⟩ (RLe.refl _) (by dsimp only; rw [← rows_set (by omega)]; exact List.Sublist.cons _ (List.Sublist.refl _))
        ·
         refine WS.eff rfl rfl rfl qD (Ef.buildSliceD (enc := encI) (parts := [.tmp 90]) [_] tab_ok rfl rfl rfl rfl rfl rfl rfl rfl qD qD (fun a91 => ?_))
         refine ⟨qR, qS, ?_⟩
         refine' WA.yl 7 rfl qK rfl rfl qD (Yl.load1 tab_ok rfl rfl rfl (fun _ => rfl) ?r17 rfl ?h17) qS qR ?_
         case r17 => (exact Rd.slD 5 rfl qX)
         case h17 => rfl
         refine WA.eff 17 rfl (by kernel_rfl) rfl rfl (by decide) (Ef.appendD (c + 7) 0 tab_ok rfl rfl rfl rfl rfl rfl hrow rfl rfl rfl rfl (fun _ _ => rfl) (by simp only [List.length_cons, List.length_nil]; omega) (by simp only [List.length_cons, List.length_nil]; omega) (fun a92 c92 ha92 => ?_))
         refine ⟨qR, qS, ?_⟩
         refine WA.take 18 rfl qK qK qK rfl rfl qD (Yl.indexN tab_ok rfl rfl rfl rfl rfl rfl (fun _ => rfl) qN qH) qS qR ?_
         refine WA.effN 19 rfl qK rfl rfl (Ef.storeD (⟨a92, c92, (nth rws c).xs ++ [nth (nth rws c).xs t]⟩ : Sl) 5 tab_ok rfl rfl rfl rfl rfl qO rfl rfl rfl rfl ?_)
         refine ⟨qR, qS, ?_⟩
         refine WA.done qK ?_
         refine zL (zU (zG ?_))
         refine yA ?_
         refine zR 1 rfl (zN ?_)
         refine WE.again (c + 1, rws.set c ⟨a92, c92, (nth rws c).xs ++ [nth (nth rws c).xs t]⟩) ⟨by dsimp only; omega, by dsimp only; rw [List.map_set, g2]; dsimp only; rw [hxs]; exact ext_step (by omega), all_set g3 (ha92 (by simp))⟩ (by dsimp only; omega) ⟨rfl, rfl, rfl, rfl, rfl, rfl, rfl, rfl, rfl, rfl, rfl, rfl, rfl, rfl, rfl, rfl⟩ (RLe.refl _) (by dsimp only; rw [← rows_set (by omega)]; exact List.Sublist.cons _ (List.Sublist.refl _))
     ·try dsimp only at hc3
      have hc : c = classes := by omega
      subst c
      have hrx1 : rws.map Sl.xs = s.sent.map (fun l => l ++ [nth l t]) := by rw [g2, List.take_of_length_le (by omega), List.drop_eq_nil_of_le (by omega), List.append_nil]
      refine zX ?_
      refine wx (wx (zY (zU (zB ?_))))
      refine W.loop (β := M.RS σ × List Sl) (fun (s1, rws) => (∃ k : Nat, inner ps ch t k s1 = tick ps ch cap t s ∧ s1.ms.left ≤ k) ∧ (∃ B, Inv ps classes good (t + 2) B s1 ∧ B + s1.ms.left ≤ (t + 1) * cap) ∧ 0 ≤ s1.ms.left ∧ s1.ms.left ≤ cap ∧ s1.ms.now = t ∧ rws.map Sl.xs = s1.sent ∧ ∀ r ∈ rws, r.a.isSome = true) (fun (s1, rws) => [(0, true, .int .i64 cap), (1, true, .int .i64 classes), (2, true, .slice pa ps.length pc), (3, true, .int .i64 ticks), (4, true, .func (.func g) first capd), (10, true, .pointer (some ⟨b10, 0, none⟩)), (11, true, .pointer (some ⟨b11, 0, none⟩)), (14, true, .pointer (some ⟨b56, 0, none⟩)), (15, true, .int .i64 s1.cur), (16, true, .int .i64 s1.rest), (57, true, .int .i64 ticks), (58, true, .int .i64 (t : Int)), (17, true, .int .i64 (t : Int))]) (fun _ => R) (fun (s1, rws) => stE b56 pa ps.length pc a54 s1.ms :: .sl 4 1 (some ⟨a54, 0, none⟩) ps.length (s1.ms.begun.map encB) :: .blk b11 [.slice (some ⟨gd, 0, none⟩) ps.length ps.length, .slice (some ⟨go, 0, none⟩) classes classes] :: .sl 3 1 (some ⟨gd, 0, none⟩) ps.length (s1.done.map encI) :: .sl 22 1 (some ⟨go, 0, none⟩) classes (rws.map encS) :: .blk b10 [.slice none 0 0, .slice none 0 0] :: (rws.map (rowE 3) ++ (X s1.sg ++ F))) (fun (s1, rws) => s1.ms.left.toNat) ((({ s with ms := { s.ms with now := (t : Int), left := cap }, sent := s.sent.map fun l => l ++ [nth l t] } : M.RS σ), rws)) (⟨⟨cap.toNat, rfl, by dsimp only; omega⟩, ⟨_, h3.open hg.free, by dsimp only; rw [Int.add_mul]; omega⟩, by dsimp only; omega, by dsimp only; omega, rfl, hrx1, g3⟩) ⟨rfl, rfl, rfl, rfl, rfl, rfl, rfl, rfl, rfl, rfl, rfl, rfl, rfl, rfl⟩ (RLe.refl _) qS ?_
      intro st hst
      obtain ⟨s1, rws⟩ := st
      obtain ⟨⟨k, hin, hkk⟩, ⟨B, hinv, hB⟩, hl0, hlc, hnow, hrx1, hra1⟩ := hst
      dsimp only at hin hkk hinv hB hl0 hlc hnow hrx1 hra1 ⊢
      refine zQ (zQ (zG (zR 3 rfl ?_)))
      refine yL (Rd.add (Rd.blk 0 rfl) _) ?_
      refine zR 1 rfl (zN (zU ?_))
      refine W.condD rfl (fun hc4 => ?_) (fun hc4 => ?_)
      ·try dsimp only at hc4
       refine zK (zU (zB ?_))
       refine W.seqCut (β := M.RS σ) (fun s2 => s2 = pickup ps ch s1 ∧ 0 ≤ s2.cur) (fun s2 => [(0, true, .int .i64 cap), (1, true, .int .i64 classes), (2, true, .slice pa ps.length pc), (3, true, .int .i64 ticks), (4, true, .func (.func g) first capd), (10, true, .pointer (some ⟨b10, 0, none⟩)), (11, true, .pointer (some ⟨b11, 0, none⟩)), (14, true, .pointer (some ⟨b56, 0, none⟩)), (15, true, .int .i64 s2.cur), (16, true, .int .i64 s2.rest), (57, true, .int .i64 ticks), (58, true, .int .i64 (t : Int)), (17, true, .int .i64 (t : Int))]) (fun _ => R) (fun s2 => stE b56 pa ps.length pc a54 s2.ms :: .sl 4 1 (some ⟨a54, 0, none⟩) ps.length (s2.ms.begun.map encB) :: .blk b11 [.slice (some ⟨gd, 0, none⟩) ps.length ps.length, .slice (some ⟨go, 0, none⟩) classes classes] :: .sl 3 1 (some ⟨gd, 0, none⟩) ps.length (s2.done.map encI) :: .sl 22 1 (some ⟨go, 0, none⟩) classes (rws.map encS) :: .blk b10 [.slice none 0 0, .slice none 0 0] :: (rws.map (rowE 3) ++ (X s2.sg ++ F))) ?_ ?_
       ·
        intro s2 hst
        obtain ⟨hs2, hcur⟩ := hst
        obtain ⟨e1, e2, e3, e4⟩ := pickup_same ps ch s1
        have hI : Inv ps classes good (t + 2) B s2 := by rw [hs2]; exact hinv.pickup hg hf
        rw [← hs2] at e1 e2 e3 e4
        obtain ⟨c1, c2, c3⟩ := hI.cur hcur
        have hat := hf.at (i := s2.cur.toNat) (by omega)
        have hrx2 : rws.map Sl.xs = s2.sent := by rw [e3]; exact hrx1
        have hlen : rws.length = classes := by rw [← hI.sent, ← hrx2, List.length_map]
        have hf0 : (nth ps s2.cur.toNat).flow.toNat < rws.length := by omega
        have hxs := nth_map_xs hrx2 hf0
        have hsome : (nth rws (nth ps s2.cur.toNat).flow.toNat).a.isSome = true := hra1 _ (nth_mem hf0)
        have hrw := hI.row (i := (nth ps s2.cur.toNat).flow.toNat) (by omega)
        have hxl : (nth rws (nth ps s2.cur.toNat).flow.toNat).xs.length = t + 2 := by rw [hxs]; exact hrw.1
        have hcell : 0 ≤ nth (nth rws (nth ps s2.cur.toNat).flow.toNat).xs (t + 1) ∧ nth (nth rws (nth ps s2.cur.toNat).flow.toNat).xs (t + 1) ≤ B := by rw [hxs]; exact hrw.2 _ (nth_mem (by rw [hrw.1]; omega))
        have hrow := rows_get (e := 3) (G := X s2.sg ++ F) (rows := rws) (c := (nth ps s2.cur.toNat).flow.toNat) hf0
        have hn0 : 1 ≤ (if s2.ms.left < s2.rest then s2.ms.left else s2.rest) ∧ (if s2.ms.left < s2.rest then s2.ms.left else s2.rest) ≤ s2.rest ∧ (if s2.ms.left < s2.rest then s2.ms.left else s2.rest) ≤ s2.ms.left := by split <;> omega
        have hdl := hI.done
        refine zQ (zG (zR 4 rfl ?_))
        refine yL (Rd.add (Rd.blk 0 rfl) _) ?_
        refine zR 2 rfl (zN (zU (zQ ?_)))
        refine W.regionH _ (ES := [.blk b11 [.slice (some ⟨gd, 0, none⟩) ps.length ps.length, .slice (some ⟨go, 0, none⟩) classes classes], .sl 22 1 (some ⟨go, 0, none⟩) classes (rws.map encS)]) mixed ?_
        refine tP 0 ?_
        refine tL 1 (Rd.add (Rd.blk 0 rfl) _) ?_
        refine tP 2 ?_
        refine tP 3 ?_
        refine WA.take 4 rfl qK qK qK rfl rfl qD (Yl.index tab_ok rfl rfl rfl rfl rfl rfl (fun _ => rfl) qA qH) qS qR ?_
        refine tP 5 ?_
        refine' WA.take 6 rfl qK qK qK rfl rfl qD (Yl.load1 tab_ok rfl rfl rfl (fun _ => rfl) ?r21 rfl ?h21) qS qR ?_
        case r21 => apply Rd.add; ((apply RS.rdD; assumption; ((try dsimp only) <;> omega)))
        case h21 => rfl
        refine WA.take 7 rfl qK qK qK rfl rfl qD (Yl.index tab_ok rfl rfl rfl rfl rfl rfl (fun _ => rfl) qA qH) qS qR ?_
        refine' WA.take 8 rfl qK qK qK rfl rfl qD (Yl.load1 tab_ok rfl rfl rfl (fun _ => rfl) ?r22 rfl ?h22) qS qR ?_
        case r22 => (exact Rd.slD 1 rfl qX)
        case h22 => rfl
        refine tP 9 ?_
        refine tA 10 ?_
        refine WA.take 11 rfl qK qK qK rfl rfl qD (Yl.index tab_ok rfl rfl rfl rfl rfl rfl (fun _ => rfl) qA qH) qS qR ?_
        refine tP 13 ?_
        refine' WA.yl 12 rfl qK rfl rfl qD (Yl.load1 tab_ok rfl rfl rfl (fun _ => rfl) ?r23 rfl ?h23) qS qR ?_
        case r23 => exact Rd.slD ((nth ps s2.cur.toNat).flow.toNat + 6) hrow (show ((t : Int) + 1).toNat < _ by omega)
        case h23 => rfl
        refine WA.take 14 rfl (by kernel_rfl) (by kernel_rfl) (by kernel_rfl) rfl rfl (by decide) (Yl.add rfl rfl rfl (fun _ => rfl) (by intro _; have hq : ((t : Int) + 1).toNat = t + 1 := (by omega); constructor <;> (rw [hq]; omega))) qS (by first | exact RLe.refl _ | assumption) ?_
        refine WA.take 15 rfl qK qK qK rfl rfl qD (Yl.index tab_ok rfl rfl rfl rfl rfl rfl (fun _ => rfl) qA qH) qS qR ?_
        refine WA.effN 16 rfl qK rfl rfl (Ef.storeD (enc := encI) (xs := (nth rws (nth ps s2.cur.toNat).flow.toNat).xs) (nth (nth rws (nth ps s2.cur.toNat).flow.toNat).xs (t + 1) + (if s2.ms.left < s2.rest then s2.ms.left else s2.rest)) ((nth ps s2.cur.toNat).flow.toNat + 6) tab_ok rfl rfl rfl rfl hrow (show ((t : Int) + 1).toNat < _ by omega) rfl rfl rfl rfl ?_)
        refine ⟨qR, qS, ?_⟩
        refine WA.done qK ?_
        refine zU ?_
        refine W.perm (E' := stE b56 pa ps.length pc a54 s2.ms :: .sl 4 1 (some ⟨a54, 0, none⟩) ps.length (s2.ms.begun.map encB) :: .blk b11 [.slice (some ⟨gd, 0, none⟩) ps.length ps.length, .slice (some ⟨go, 0, none⟩) classes classes] :: .sl 3 1 (some ⟨gd, 0, none⟩) ps.length (s2.done.map encI) :: .sl 22 1 (some ⟨go, 0, none⟩) classes ((rws.set (nth ps s2.cur.toNat).flow.toNat ⟨(nth rws (nth ps s2.cur.toNat).flow.toNat).a, (nth rws (nth ps s2.cur.toNat).flow.toNat).cap, (nth rws (nth ps s2.cur.toNat).flow.toNat).xs.set (t + 1) (nth (nth rws (nth ps s2.cur.toNat).flow.toNat).xs (t + 1) + (if s2.ms.left < s2.rest then s2.ms.left else s2.rest))⟩).map encS) :: .blk b10 [.slice none 0 0, .slice none 0 0] :: ((rws.set (nth ps s2.cur.toNat).flow.toNat ⟨(nth rws (nth ps s2.cur.toNat).flow.toNat).a, (nth rws (nth ps s2.cur.toNat).flow.toNat).cap, (nth rws (nth ps s2.cur.toNat).flow.toNat).xs.set (t + 1) (nth (nth rws (nth ps s2.cur.toNat).flow.toNat).xs (t + 1) + (if s2.ms.left < s2.rest then s2.ms.left else s2.rest))⟩).map (rowE 3) ++ (X s2.sg ++ F))) (by rw [← rows_set hf0, encS_set hf0 (by simp)] <;> exact List.Perm.refl _) ?_
        refine zQ (zG (zR 2 rfl ?_))
        refine yS ?_
        refine zR 1 rfl (zN (zU (zQ (zG (zR 3 rfl ?_)))))
        refine yL (Rd.add (Rd.blk 0 rfl) _) ?_
        refine zR 1 rfl ?_
        refine yS ?_
        refine zR 2 rfl ?_
        refine zF 0 ?_
        refine zN (zU (zQ (zG (zR 2 rfl (zN (zU ?_))))))
        refine W.condE rfl (fun hc5 => ?_) (fun hc5 => ?_)
        ·try dsimp only at hc5
         refine zQ (zG (zR 1 rfl ?_))
         refine yL (Rd.add (Rd.blk 2 rfl) _) ?_
         refine zR 2 rfl ?_
         refine WG.y rfl rfl qD (Yl.index tab_ok rfl rfl rfl rfl rfl rfl (fun _ => rfl) qA qH) ?_
         refine WL.efN rfl rfl (Ef.storeD _ 3 tab_ok rfl rfl rfl rfl rfl qX rfl rfl rfl rfl ?_)
         refine zN (zU (zG (zR 1 rfl (zN (zL ?_)))))
         have hsend : send ps t s2 = ({ s2 with sent := s2.sent.set (nth ps s2.cur.toNat).flow.toNat ((nth s2.sent (nth ps s2.cur.toNat).flow.toNat).set (t + 1) (nth (nth s2.sent (nth ps s2.cur.toNat).flow.toNat) (t + 1) + (if s2.ms.left < s2.rest then s2.ms.left else s2.rest))), rest := s2.rest - (if s2.ms.left < s2.rest then s2.ms.left else s2.rest), ms := { s2.ms with left := s2.ms.left - (if s2.ms.left < s2.rest then s2.ms.left else s2.rest) }, done := s2.done.set s2.cur.toNat t, cur := -1 } : M.RS σ) := by unfold M.send; dsimp only; simp only [if_pos hc5]
         refine WE.again (({ s2 with sent := s2.sent.set (nth ps s2.cur.toNat).flow.toNat ((nth s2.sent (nth ps s2.cur.toNat).flow.toNat).set (t + 1) (nth (nth s2.sent (nth ps s2.cur.toNat).flow.toNat) (t + 1) + (if s2.ms.left < s2.rest then s2.ms.left else s2.rest))), rest := s2.rest - (if s2.ms.left < s2.rest then s2.ms.left else s2.rest), ms := { s2.ms with left := s2.ms.left - (if s2.ms.left < s2.rest then s2.ms.left else s2.rest) }, done := s2.done.set s2.cur.toNat t, cur := -1 } : M.RS σ), (rws.set (nth ps s2.cur.toNat).flow.toNat ⟨(nth rws (nth ps s2.cur.toNat).flow.toNat).a, (nth rws (nth ps s2.cur.toNat).flow.toNat).cap, (nth rws (nth ps s2.cur.toNat).flow.toNat).xs.set (t + 1) (nth (nth rws (nth ps s2.cur.toNat).flow.toNat).xs (t + 1) + (if s2.ms.left < s2.rest then s2.ms.left else s2.rest))⟩)) ⟨⟨k - 1, by dsimp only; rw [← hsend, hs2, ← inner_some hkk hc4 (by rw [← hs2]; exact hcur)]; exact hin, by dsimp only; omega⟩, ⟨_, by dsimp only; rw [← hsend]; exact (hI.send hf hg.free (t := t) (by omega) hcur (by omega)).1, by dsimp only; rw [hsend]; dsimp only; omega⟩, by dsimp only; omega, by dsimp only; omega, by dsimp only; omega, by dsimp only; rw [List.map_set, hrx2, ← hxs], all_set hra1 hsome⟩ (by dsimp only; omega) ⟨rfl, rfl, rfl, rfl, rfl, rfl, rfl, rfl, rfl, rfl, rfl, rfl, rfl, rfl⟩ (RLe.refl _) qS
        ·try dsimp only at hc5
         refine zK (zL ?_)
         have hsend : send ps t s2 = ({ s2 with sent := s2.sent.set (nth ps s2.cur.toNat).flow.toNat ((nth s2.sent (nth ps s2.cur.toNat).flow.toNat).set (t + 1) (nth (nth s2.sent (nth ps s2.cur.toNat).flow.toNat) (t + 1) + (if s2.ms.left < s2.rest then s2.ms.left else s2.rest))), rest := s2.rest - (if s2.ms.left < s2.rest then s2.ms.left else s2.rest), ms := { s2.ms with left := s2.ms.left - (if s2.ms.left < s2.rest then s2.ms.left else s2.rest) }, done := s2.done, cur := s2.cur } : M.RS σ) := by unfold M.send; dsimp only; simp only [if_neg hc5]
         refine WE.again (({ s2 with sent := s2.sent.set (nth ps s2.cur.toNat).flow.toNat ((nth s2.sent (nth ps s2.cur.toNat).flow.toNat).set (t + 1) (nth (nth s2.sent (nth ps s2.cur.toNat).flow.toNat) (t + 1) + (if s2.ms.left < s2.rest then s2.ms.left else s2.rest))), rest := s2.rest - (if s2.ms.left < s2.rest then s2.ms.left else s2.rest), ms := { s2.ms with left := s2.ms.left - (if s2.ms.left < s2.rest then s2.ms.left else s2.rest) }, done := s2.done, cur := s2.cur } : M.RS σ), (rws.set (nth ps s2.cur.toNat).flow.toNat ⟨(nth rws (nth ps s2.cur.toNat).flow.toNat).a, (nth rws (nth ps s2.cur.toNat).flow.toNat).cap, (nth rws (nth ps s2.cur.toNat).flow.toNat).xs.set (t + 1) (nth (nth rws (nth ps s2.cur.toNat).flow.toNat).xs (t + 1) + (if s2.ms.left < s2.rest then s2.ms.left else s2.rest))⟩)) ⟨⟨k - 1, by dsimp only; rw [← hsend, hs2, ← inner_some hkk hc4 (by rw [← hs2]; exact hcur)]; exact hin, by dsimp only; omega⟩, ⟨_, by dsimp only; rw [← hsend]; exact (hI.send hf hg.free (t := t) (by omega) hcur (by omega)).1, by dsimp only; rw [hsend]; dsimp only; omega⟩, by dsimp only; omega, by dsimp only; omega, by dsimp only; omega, by dsimp only; rw [List.map_set, hrx2, ← hxs], all_set hra1 hsome⟩ (by dsimp only; omega) ⟨rfl, rfl, rfl, rfl, rfl, rfl, rfl, rfl, rfl, rfl, rfl, rfl, rfl, rfl⟩ (RLe.refl _) qS
       ·
        refine zQ (zG (zR 2 rfl (zN (zU ?_))))
        refine W.condD rfl (fun hc6 => ?_) (fun hc6 => ?_)
        ·try dsimp only at hc6
         refine zQ (zQ (zG (zR 2 rfl ?_)))
         refine WL.perm perm_choice ?_
         refine WL.call hen rfl rfl qD (CallOp.mkT rfl rfl rfl rfl) (hch _ _ s1.ms s1.sg _ hinv.good hinv.begun hc4 hlc qO qO) ?_
         rintro _ _ _ - ⟨rfl, rfl, rfl⟩
         refine WL.perm perm_choice.symm ?_
         refine zR 1 rfl (zN (zU (zQ (zG (zR 2 rfl (zN (zU ?_)))))))
         refine W.condD rfl (fun hc7 => ?_) (fun hc7 => ?_)
         ·try dsimp only at hc7
          have hpick : pickup ps ch s1 = ({ s1 with cur := (ch s1.ms s1.sg).1, ms := { s1.ms with before := (ch s1.ms s1.sg).2.1 }, sg := (ch s1.ms s1.sg).2.2 } : M.RS σ) := by unfold M.pickup; rw [if_neg (by omega)]; dsimp only; rw [if_pos hc7]
          have htk1 : tick ps ch cap t s = ({ s1 with cur := (ch s1.ms s1.sg).1, ms := { s1.ms with before := (ch s1.ms s1.sg).2.1 }, sg := (ch s1.ms s1.sg).2.2 } : M.RS σ) := by rw [← hpick, ← hin, inner_none hkk hc4 (by rw [hpick]; exact hc7)]
          refine zX ?_
          refine wx (wx ?_)
          refine WE.blk_other rfl ?_
          refine wx (zY (zL (zU (zG ?_))))
          refine yA ?_
          refine zR 1 rfl (zN ?_)
          have hI2 : Inv ps classes good (t + 2) ((t + 1) * cap) ({ s1 with cur := (ch s1.ms s1.sg).1, ms := { s1.ms with before := (ch s1.ms s1.sg).2.1 }, sg := (ch s1.ms s1.sg).2.2 } : M.RS σ) := by rw [← hpick]; exact (hinv.pickup hg hf).mono (by omega)
          refine WE.again (t + 1, ({ s1 with cur := (ch s1.ms s1.sg).1, ms := { s1.ms with before := (ch s1.ms s1.sg).2.1 }, sg := (ch s1.ms s1.sg).2.2 } : M.RS σ), rws) ⟨by dsimp only; omega, by dsimp only; rw [← htk1, ← h2, show ticks - t = (ticks - (t + 1)) + 1 by omega, ticksFrom], by dsimp only; simpa using hI2, hrx1, hra1⟩ (by dsimp only; omega) ⟨rfl, rfl, rfl, rfl, rfl, rfl, rfl, rfl, rfl, rfl, rfl, rfl, rfl⟩ (RLe.refl _) qS
         ·try dsimp only at hc7
          have hpick : pickup ps ch s1 = ({ s1 with cur := (ch s1.ms s1.sg).1, rest := (nth ps (ch s1.ms s1.sg).1.toNat).size, ms := { s1.ms with before := (ch s1.ms s1.sg).2.1, begun := s1.ms.begun.set (ch s1.ms s1.sg).1.toNat true }, sg := (ch s1.ms s1.sg).2.2 } : M.RS σ) := by unfold M.pickup; rw [if_neg (by omega)]; dsimp only; rw [if_neg hc7]
          have hidx := hg.idx _ _ hinv.good hinv.begun (by omega)
          have hbl := hinv.begun
          refine zK (zU ?_)
          refine W.regionH _ (ES := [stE b56 pa ps.length pc a54 { s1.ms with before := (ch s1.ms s1.sg).2.1 }]) mixed ?_
          refine tP 0 ?_
          refine tP 1 ?_
          refine tP 2 ?_
          refine tL 3 (Rd.add (Rd.blk 0 rfl) _) ?_
          refine tP 4 ?_
          refine tP 5 ?_
          refine tP 6 ?_
          refine WA.take 7 rfl qK qK qK rfl rfl qD (Yl.index tab_ok rfl rfl rfl rfl rfl rfl (fun _ => rfl) qA qH) qS qR ?_
          refine tP 8 ?_
          refine' WA.take 9 rfl qK qK qK rfl rfl qD (Yl.load1 tab_ok rfl rfl rfl (fun _ => rfl) ?r27 rfl ?h27) qS qR ?_
          case r27 => apply Rd.add; ((apply RS.rdD; assumption; ((try dsimp only) <;> omega)))
          case h27 => rfl
          refine WA.take 10 rfl qK qK qK rfl rfl qD (Yl.index tab_ok rfl rfl rfl rfl rfl rfl (fun _ => rfl) qA qH) qS qR ?_
          refine WA.effN 11 rfl qK rfl rfl (Ef.storeD _ 1 tab_ok rfl rfl rfl rfl rfl qX rfl rfl rfl rfl ?_)
          refine ⟨qR, qS, ?_⟩
          refine tP 12 ?_
          refine WA.done qK ?_
          refine WE.cut ({ s1 with cur := (ch s1.ms s1.sg).1, rest := (nth ps (ch s1.ms s1.sg).1.toNat).size, ms := { s1.ms with before := (ch s1.ms s1.sg).2.1, begun := s1.ms.begun.set (ch s1.ms s1.sg).1.toNat true }, sg := (ch s1.ms s1.sg).2.2 } : M.RS σ) ⟨hpick.symm, by dsimp only; omega⟩ ⟨rfl, rfl, rfl, rfl, rfl, rfl, rfl, rfl, rfl, rfl, rfl, rfl, rfl, rfl⟩ (RLe.refl _) qS
        ·try dsimp only at hc6
         refine zK ?_
         refine WE.cut s1 ⟨by unfold M.pickup; rw [if_pos (by omega)], by omega⟩ ⟨rfl, rfl, rfl, rfl, rfl, rfl, rfl, rfl, rfl, rfl, rfl, rfl, rfl, rfl⟩ (RLe.refl _) qS
      ·try dsimp only at hc4
       have htk1 : tick ps ch cap t s = s1 := by rw [← hin, inner_stop (by omega)]
       refine zX ?_
       refine wx (wx (zY (zL (zU (zG ?_)))))
       refine yA ?_
       refine zR 1 rfl (zN ?_)
       have hI2 : Inv ps classes good (t + 2) ((t + 1) * cap) s1 := hinv.mono (by omega)
       refine WE.again (t + 1, s1, rws) ⟨by dsimp only; omega, by dsimp only; rw [← htk1, ← h2, show ticks - t = (ticks - (t + 1)) + 1 by omega, ticksFrom], by dsimp only; simpa using hI2, hrx1, hra1⟩ (by dsimp only; omega) ⟨rfl, rfl, rfl, rfl, rfl, rfl, rfl, rfl, rfl, rfl, rfl, rfl, rfl⟩ (RLe.refl _) qS
    ·try dsimp only at hc2
     have ht : t = ticks := by omega
     subst t
     rw [Nat.sub_self] at h2
     refine zX ?_
     refine wx (wx (zY (zU (zQ (zG ?_)))))
     refine yL (Rd.blk 2 rfl) ?_
     refine zE 5 ?_
     refine zN (zU (zT ?_))
     refine WE.retF tab_ok [_] rfl ⟨⟨_, _, _, rfl, rfl, rfl, (Rd.blk 5 rfl), rfl⟩, trivial⟩ (RLe.refl _) ?_
     exact ⟨rows, gd, go, s, h2, rfl, rfl, h4, h5, h3, qS⟩
 ·
  refine W.regionH _ (ES := []) mixed ?_
  refine tP 0 ?_
  refine tP 1 ?_
  refine tP 3 ?_
  refine WA.br3 (i := 2) (j := 4) (k := 6) qK ?_ ?_ ?_
  ·
   refine WS.eff rfl rfl rfl qD (Ef.makeSliceD (enc := encI) 0 tab_ok rfl rfl rfl rfl rfl rfl qX qX qX qX qD rfl rfl (fun a22 => ?_))
   refine ⟨qR, qS, ?_⟩
   refine WA.br2 (i := 4) (j := 6) qK ?_ ?_
   ·
    refine WS.eff rfl rfl rfl qD (Ef.makeSliceD (enc := encS) ⟨none, 0, []⟩ tab_ok rfl rfl rfl rfl rfl rfl qX qX qX qX qD rfl rfl (fun a24 => ?_))
    refine ⟨qR, qS, ?_⟩
    -- build
    refine WA.take 5 rfl qK qK qK rfl rfl qD (Yl.build (parts := [(0, .tmp 22), (1, .tmp 24)]) tab_ok rfl rfl rfl rfl (fun _ => rfl) rfl rfl) qS qR ?_
    refine WA.eff 6 rfl qK rfl rfl qD (Ef.alloc tab_ok rfl rfl (fun b11 => ?_))
    refine ⟨qR, qS, ?_⟩
    refine zCE 7 0 ?_
    refine WA.done qK ?_
    refine WE.cutP (b11, a22, a24) trivial ⟨rfl, rfl, rfl, rfl, rfl, rfl, rfl, rfl⟩ (RLe.refl _) (by first | exact List.Perm.refl _ | exact perm3a _ _ _ _ | exact perm3b _ _ _ _ | exact perm3c _ _ _ _ | exact perm3d _ _ _ _ | exact perm3e _ _ _ _)
   ·
    refine WS.eff rfl rfl rfl qD (Ef.alloc tab_ok rfl rfl (fun b11 => ?_))
    refine ⟨qR, qS, ?_⟩
    refine WA.eff 4 rfl qK rfl rfl qD (Ef.makeSliceD (enc := encS) ⟨none, 0, []⟩ tab_ok rfl rfl rfl rfl rfl rfl qX qX qX qX qD rfl rfl (fun a24 => ?_))
    refine ⟨qR, qS, ?_⟩
    -- build
    refine WA.take 5 rfl qK qK qK rfl rfl qD (Yl.build (parts := [(0, .tmp 22), (1, .tmp 24)]) tab_ok rfl rfl rfl rfl (fun _ => rfl) rfl rfl) qS qR ?_
    refine zCE 7 1 ?_
    refine WA.done qK ?_
    refine WE.cutP (b11, a22, a24) trivial ⟨rfl, rfl, rfl, rfl, rfl, rfl, rfl, rfl⟩ (RLe.refl _) (by first | exact List.Perm.refl _ | exact perm3a _ _ _ _ | exact perm3b _ _ _ _ | exact perm3c _ _ _ _ | exact perm3d _ _ _ _ | exact perm3e _ _ _ _)
  ·
   refine WS.eff rfl rfl rfl qD (Ef.makeSliceD (enc := encS) ⟨none, 0, []⟩ tab_ok rfl rfl rfl rfl rfl rfl qX qX qX qX qD rfl rfl (fun a24 => ?_))
   refine ⟨qR, qS, ?_⟩
   refine WA.br2 (i := 2) (j := 6) qK ?_ ?_
   ·
    refine WS.eff rfl rfl rfl qD (Ef.makeSliceD (enc := encI) 0 tab_ok rfl rfl rfl rfl rfl rfl qX qX qX qX qD rfl rfl (fun a22 => ?_))
    refine ⟨qR, qS, ?_⟩
    -- build
    refine WA.take 5 rfl qK qK qK rfl rfl qD (Yl.build (parts := [(0, .tmp 22), (1, .tmp 24)]) tab_ok rfl rfl rfl rfl (fun _ => rfl) rfl rfl) qS qR ?_
    refine WA.eff 6 rfl qK rfl rfl qD (Ef.alloc tab_ok rfl rfl (fun b11 => ?_))
    refine ⟨qR, qS, ?_⟩
    refine zCE 7 0 ?_
    refine WA.done qK ?_
    refine WE.cutP (b11, a22, a24) trivial ⟨rfl, rfl, rfl, rfl, rfl, rfl, rfl, rfl⟩ (RLe.refl _) (by first | exact List.Perm.refl _ | exact perm3a _ _ _ _ | exact perm3b _ _ _ _ | exact perm3c _ _ _ _ | exact perm3d _ _ _ _ | exact perm3e _ _ _ _)
   ·
    refine WS.eff rfl rfl rfl qD (Ef.alloc tab_ok rfl rfl (fun b11 => ?_))
    refine ⟨qR, qS, ?_⟩
    refine WA.eff 2 rfl qK rfl rfl qD (Ef.makeSliceD (enc := encI) 0 tab_ok rfl rfl rfl rfl rfl rfl qX qX qX qX qD rfl rfl (fun a22 => ?_))
    refine ⟨qR, qS, ?_⟩
    -- build
    refine WA.take 5 rfl qK qK qK rfl rfl qD (Yl.build (parts := [(0, .tmp 22), (1, .tmp 24)]) tab_ok rfl rfl rfl rfl (fun _ => rfl) rfl rfl) qS qR ?_
    refine zCE 7 1 ?_
    refine WA.done qK ?_
    refine WE.cutP (b11, a22, a24) trivial ⟨rfl, rfl, rfl, rfl, rfl, rfl, rfl, rfl⟩ (RLe.refl _) (by first | exact List.Perm.refl _ | exact perm3a _ _ _ _ | exact perm3b _ _ _ _ | exact perm3c _ _ _ _ | exact perm3d _ _ _ _ | exact perm3e _ _ _ _)
  ·
   refine WS.eff rfl rfl rfl qD (Ef.alloc tab_ok rfl rfl (fun b11 => ?_))
   refine ⟨qR, qS, ?_⟩
   refine WA.br2 (i := 2) (j := 4) qK ?_ ?_
   ·
    refine WS.eff rfl rfl rfl qD (Ef.makeSliceD (enc := encI) 0 tab_ok rfl rfl rfl rfl rfl rfl qX qX qX qX qD rfl rfl (fun a22 => ?_))
    refine ⟨qR, qS, ?_⟩
    refine WA.eff 4 rfl qK rfl rfl qD (Ef.makeSliceD (enc := encS) ⟨none, 0, []⟩ tab_ok rfl rfl rfl rfl rfl rfl qX qX qX qX qD rfl rfl (fun a24 => ?_))
    refine ⟨qR, qS, ?_⟩
    -- build
    refine WA.take 5 rfl qK qK qK rfl rfl qD (Yl.build (parts := [(0, .tmp 22), (1, .tmp 24)]) tab_ok rfl rfl rfl rfl (fun _ => rfl) rfl rfl) qS qR ?_
    refine zCE 7 2 ?_
    refine WA.done qK ?_
    refine WE.cutP (b11, a22, a24) trivial ⟨rfl, rfl, rfl, rfl, rfl, rfl, rfl, rfl⟩ (RLe.refl _) (by first | exact List.Perm.refl _ | exact perm3a _ _ _ _ | exact perm3b _ _ _ _ | exact perm3c _ _ _ _ | exact perm3d _ _ _ _ | exact perm3e _ _ _ _)
   ·
    refine WS.eff rfl rfl rfl qD (Ef.makeSliceD (enc := encS) ⟨none, 0, []⟩ tab_ok rfl rfl rfl rfl rfl rfl qX qX qX qX qD rfl rfl (fun a24 => ?_))
    refine ⟨qR, qS, ?_⟩
    refine WA.eff 2 rfl qK rfl rfl qD (Ef.makeSliceD (enc := encI) 0 tab_ok rfl rfl rfl rfl rfl rfl qX qX qX qX qD rfl rfl (fun a22 => ?_))
    refine ⟨qR, qS, ?_⟩
    -- build
    refine WA.take 5 rfl qK qK qK rfl rfl qD (Yl.build (parts := [(0, .tmp 22), (1, .tmp 24)]) tab_ok rfl rfl rfl rfl (fun _ => rfl) rfl rfl) qS qR ?_
    refine zCE 7 2 ?_
    refine WA.done qK ?_
    refine WE.cutP (b11, a22, a24) trivial ⟨rfl, rfl, rfl, rfl, rfl, rfl, rfl, rfl⟩ (RLe.refl _) (by first | exact List.Perm.refl _ | exact perm3a _ _ _ _ | exact perm3b _ _ _ _ | exact perm3c _ _ _ _ | exact perm3d _ _ _ _ | exact perm3e _ _ _ _)



theorem hitB {flow : Int} {p : Pkt} (h : (true && (flow == -1 || (p.flow == flow && decide (flow ≥ 0))) == true) = true) : hitF flow p := by
 simp at h; unfold hitF; omega
theorem hitN {flow : Int} {p : Pkt} (h : (true && (flow == -1 || (p.flow == flow && decide (flow ≥ 0))) == true) = false) : ¬ hitF flow p := by
 simp at h; unfold hitF; omega

theorem Of_C {R : Ro} {a : Option Addr} {l c : Nat} {flow : Int} (w0 : World) (E : List Ent) :
  K.Fn Tryz.prog 96 [.slice a l c, .int .i64 flow] w0 R E (fun v R' E' => ∃ b2 b3, v = .func (.func 153) #[] #[.pointer (some ⟨b2, 0, none⟩), .pointer (some ⟨b3, 0, none⟩)] ∧ R = R' ∧ E' = .blk b3 [.int .i64 flow] :: .blk b2 [.slice a l c] :: E) := by
 refine fE 6 Tryz.func96 ?_
 refine zQ (zG ?_)
 refine zO fun b2 => ?_
 refine zO fun b3 => ?_
 refine zR 1 rfl (zN (zU (zQ (zG (zR 2 rfl (zN (zU (zT ?_))))))))
 refine WE.retF tab_ok [_] rfl ⟨rfl, trivial⟩ (RLe.refl _) ?_
 exact ⟨_, _, rfl, rfl, rfl⟩

theorem Of_It {R : Ro} {a : Option Addr} {c b2 b3 : Nat} {flow : Int} {ps : List Pkt} (hp : RS R 3 encP a ps) :
  Iter Tryz.prog 153 [.pointer (some ⟨b2, 0, none⟩), .pointer (some ⟨b3, 0, none⟩)] encIP (fun xs => xs = ofGo flow 0 ps) R [.blk b3 [.int .i64 flow], .blk b2 [.slice a ps.length c]] := by
 intro w0 lp EJ hY F
 have hla := hp.len
 refine fE 33 Tryz.func153 ?_
 refine W.perm (E' := .blk b3 [.int .i64 flow] :: .blk b2 [.slice a ps.length c] :: (EJ [] ++ F)) (List.perm_append_comm_assoc _ [_, _] _) ?_
 refine zQ (zG ?_)
 refine yL (Rd.blk 1 rfl) ?_
 refine zR 2 rfl (zN (zU (zB ?_)))
 refine W.loop (β := Nat × List (Nat × Pkt)) (fun (k, pre) => k ≤ ps.length ∧ pre ++ ofGo flow k (ps.drop k) = ofGo flow 0 ps) (fun (k, pre) => [(0, true, .func (.yield lp) #[] #[]), (1, true, .pointer (some ⟨b2, 0, none⟩)), (2, true, .pointer (some ⟨b3, 0, none⟩)), (6, true, .slice a ps.length c), (7, true, .int .i64 ps.length), (8, true, .int .i64 (k : Int))]) (fun _ => R) (fun (k, pre) => .blk b3 [.int .i64 flow] :: .blk b2 [.slice a ps.length c] :: (EJ pre ++ F)) (fun (k, pre) => ps.length - k) ((0, [])) (⟨Nat.zero_le _, rfl⟩) ⟨rfl, rfl, rfl, rfl, rfl, rfl, rfl⟩ (RLe.refl _) qS ?_
 intro st hst
 obtain ⟨k, pre⟩ := st
 obtain ⟨hk, hpre⟩ := hst
 dsimp only at hk hpre ⊢
 refine zQ (zG (zR 1 rfl (zN (zU (zQ ?_)))))
 refine W.condD rfl (fun hc0 => ?_) (fun hc0 => ?_)
 ·try dsimp only at hc0
  have hd := drop_nth (xs := ps) (k := k) (by omega)
  rw [hd, ofGo] at hpre
  refine zK (zU (zQ (zB (zQ (zG (zR 1 rfl ?_))))))
  refine WG.y rfl rfl qD (Yl.indexN tab_ok rfl rfl rfl rfl rfl rfl (fun _ => rfl) qN qH) ?_
  refine yR ?_
  refine zA fun b5 => ?_
  refine zR 1 rfl ?_
  refine zE 0 ?_
  refine zN (zU (zQ ?_))
  refine W.regionY _ ?_
  refine' WQ.yv rfl rfl qD rfl (Yl.load1 tab_ok rfl rfl rfl (fun _ => rfl) ?r3 rfl ?h3) ?_
  case r3 => (exact Rd.blk 1 rfl)
  case h3 => rfl
  refine WQ.yv rfl rfl qD rfl (pureV_ok tab_ok rfl (fun _ => rfl)) ?_
  refine WQ.yv rfl rfl qD rfl (pureV_ok tab_ok rfl (fun _ => rfl)) ?_
  refine WQ.yv rfl rfl qD rfl (pureV_ok tab_ok rfl qE) ?_
  refine' WQ.yv rfl rfl qD rfl (Yl.loadG tab_ok rfl rfl rfl qE ?r4 rfl ?h4 ?g4) ?_
  case r4 => apply Rd.addC; (exact Rd.blkC 0 rfl)
  case h4 => rfl
  case g4 => exact fun _ => trivial
  refine' WQ.yv rfl rfl qD rfl (Yl.loadG tab_ok rfl rfl rfl qE ?r5 rfl ?h5 ?g5) ?_
  case r5 => (exact Rd.blkC 1 rfl)
  case h5 => rfl
  case g5 => exact fun _ => trivial
  refine WQ.yv rfl rfl qD rfl (pureV_ok tab_ok rfl qE) ?_
  refine WQ.yv rfl rfl qD rfl (pureV_ok tab_ok rfl qE) ?_
  refine' WQ.yv rfl rfl qD rfl (Yl.loadG tab_ok rfl rfl rfl qE ?r6 rfl ?h6 ?g6) ?_
  case r6 => (exact Rd.blkC 1 rfl)
  case h6 => rfl
  case g6 => exact fun _ => trivial
  refine WQ.yv rfl rfl qD rfl (pureV_ok tab_ok rfl qE) ?_
  refine WQ.yv rfl rfl (by decide) rfl (Yl.pand rfl rfl rfl qE (by intro h1 h2; simp_all <;> omega)) ?_
  refine WQ.yv rfl rfl (by decide) rfl (Yl.por rfl rfl rfl (fun _ => rfl) (by intro h1 h2; simp_all <;> omega)) ?_
  refine WQ.yv rfl rfl qD rfl (pureV_ok tab_ok rfl (fun _ => rfl)) ?_
  refine WQ.yv rfl rfl qD rfl (pureV_ok tab_ok rfl qE) ?_
  refine WQ.yv rfl rfl qD rfl (pureV_ok tab_ok rfl qE) ?_
  refine' WQ.yv rfl rfl qD rfl (Yl.loadG tab_ok rfl rfl rfl qE ?r7 rfl ?h7 ?g7) ?_
  case r7 => (exact Rd.blkC 0 rfl)
  case h7 => rfl
  case g7 => exact fun _ => trivial
  refine WQ.yield (vs := encIP (k, nth ps k)) (E1 := EJ pre ++ (.blk b5 (encP (nth ps k)) :: .blk b3 [.int .i64 flow] :: .blk b2 [.slice a ps.length c] :: F)) (E2 := EJ (pre ++ [(k, nth ps k)]) ++ (.blk b5 (encP (nth ps k)) :: .blk b3 [.int .i64 flow] :: .blk b2 [.slice a ps.length c] :: F)) rfl rfl (by decide) (CallY.mk' rfl rfl rfl) qE rfl (List.perm_append_comm_assoc [_, _, _] _ _) (fun hpc => hY pre _ _ ⟨ofGo flow (k + 1) (ps.drop (k + 1)), by rw [if_pos (hitB hpc)] at hpre; exact hpre⟩) (fun hpc => ?_) (fun hpc => ?_)
  ·
   refine WQ.yv rfl rfl qD rfl (pureV_ok tab_ok rfl qE) ?_
   refine WQ.yv rfl rfl (by decide) rfl (Yl.pand rfl rfl rfl (fun _ => rfl) (by intro h1 h2; simp_all <;> omega)) ?_
   refine WQ.nil ?_
   refine zU ?_
   refine W.cond rfl (fun hc1 => ?_) (fun hc1 => ?_)
   ·try simp only [zk] at hc1
    simp_all
   ·try simp only [zk] at hc1
    refine zK (zL (zU (zG ?_)))
    refine yA ?_
    refine zR 1 rfl (zN ?_)
    rw [if_pos (hitB hpc)] at hpre
    refine WE.againP (k + 1, pre ++ [(k, nth ps k)]) ⟨by dsimp only; omega, by dsimp only; rw [← hpre]; simp⟩ (by dsimp only; omega) ⟨rfl, rfl, rfl, rfl, rfl, rfl, rfl⟩ (RLe.refl _) ⟨_, List.perm_append_comm_assoc _ [_, _, _] _, List.Sublist.cons _ (List.Sublist.refl _)⟩
  ·
   refine WQ.yv rfl rfl qD rfl (pureV_ok tab_ok rfl qE) ?_
   refine WQ.yv rfl rfl (by decide) rfl (Yl.pand rfl rfl rfl (fun _ => rfl) (by intro h1 h2; simp_all <;> omega)) ?_
   refine WQ.nil ?_
   refine zU ?_
   refine W.cond rfl (fun hc2 => ?_) (fun hc2 => ?_)
   ·try simp only [zk] at hc2
    simp_all
   ·try simp only [zk] at hc2
    refine zK (zL (zU (zG ?_)))
    refine yA ?_
    refine zR 1 rfl (zN ?_)
    rw [if_neg (hitN hpc)] at hpre
    refine WE.again (k + 1, pre) ⟨by dsimp only; omega, hpre⟩ (by dsimp only; omega) ⟨rfl, rfl, rfl, rfl, rfl, rfl, rfl⟩ (RLe.refl _) (List.Sublist.cons _ (List.Sublist.refl _))
 ·try dsimp only at hc0
  obtain rfl : k = ps.length := by omega
  rw [List.drop_length, ofGo, List.append_nil] at hpre
  refine zX ?_
  refine wx (wx (zY ?_))
  refine WE.endF tab_ok [] rfl trivial (RLe.refl _) ?_
  exact ⟨rfl, _, hpre, List.Sublist.cons _ (List.Sublist.cons _ (List.Sublist.refl _))⟩

theorem Bytes_V {R : Ro} {a : Option Addr} {c : Nat} {ps : List Pkt} (hp : RS R 3 encP a ps) {flow t : Int} (hs : ∀ p ∈ ps, 0 ≤ p.size ∧ p.size ≤ 1000000) (hl : ps.length ≤ 1000000) :
  FnV Tryz.prog 54 [.slice a ps.length c, .int .i64 flow, .int .i64 t] R (.int .i64 (pbytes flow t ps)) := by
 refine Fn.toV (fun w0 E => ?_)
 refine Fn.enterM (n := 24) Tryz.func54 rfl rfl (Nat.le_of_ble_eq_true rfl) rfl ?_
 refine zQ (zG ?_)
 refine zO fun b5 => ?_
 refine zR 1 rfl (zN (zU (zQ (zG ?_))))
 refine zA fun b7 => ?_
 refine zE 0 ?_
 refine zN (zU (zQ (zQ (zG (zR 2 rfl ?_)))))
 refine WL.call en96 rfl rfl qD (CallOp.mkT rfl rfl rfl rfl) (Of_C _ _) ?_
 rintro _ _ _ - ⟨b2, b3, rfl, rfl, rfl⟩
 refine zN (zU (zB ?_))
 refine W.rangeFunc (α := Nat × Pkt) (β := Nat) (encs := encIP) (S := fun xs => xs = ofGo flow 0 ps) (EB := [.blk b3 [.int .i64 flow], .blk b2 [.slice a ps.length c]]) (Rest := E) (ps := [13, 14]) (fun xs => [.blk b7 [.int .i64 (sumT t xs)], .blk b5 [.int .i64 t]]) (fun _ _ _ => True)
  (fun _ _ b9 => [(5, true, .pointer (some ⟨b5, 0, none⟩)), (7, true, .pointer (some ⟨b7, 0, none⟩)), (9, true, .pointer (some ⟨b9, 0, none⟩))]) (fun pre x b9 => .blk b9 (encP x.2) :: [.blk b7 [.int .i64 (sumT t pre)], .blk b5 [.int .i64 t]]) rfl en153 (Of_It hp) (fun _ => rfl) (by decide) rfl (List.perm_append_comm_assoc [_, _] [_, _] _) ?_ ?_ ?_
 ·
  intro l pre x ys F hS
  refine WR.region _ ?_
  refine WQ.ef rfl rfl qD rfl (Ef.alloc tab_ok rfl rfl (fun b9 => ?_))
  refine WQ.efN rfl rfl rfl (Ef.store0 0 tab_ok rfl rfl rfl rfl rfl rfl rfl rfl ?_)
  refine WQ.nil ?_
  exact WE.asg (E1 := fun b9 => _ ++ F) b9 trivial ⟨rfl, rfl, rfl, rfl⟩ (List.Sublist.refl _)
 ·
  intro l pre x ys b9 F hS hi
  have hb := sumT_bound t pre (fun y hy => hs _ (ofGo_mem flow 0 ps y (by rw [← hS]; simp [hy])))
  have hx := hs _ (ofGo_mem flow 0 ps x (by rw [← hS]; simp))
  have hlen : pre.length ≤ ps.length := by
   have := ofGo_length flow 0 ps
   rw [← hS] at this; simp at this; omega
  have hsn : sumT t (pre ++ [x]) = sumT t pre + (if x.2.time < t then x.2.size else 0) := by rw [sumT_append]; simp [sumT]
  refine WR.block ?_
  refine WR.seq ?_
  refine WR.region _ ?_
  refine WQ.yv rfl rfl qD rfl (pureV_ok tab_ok rfl (fun _ => rfl)) ?_
  refine' WQ.yv rfl rfl qD rfl (Yl.load1 tab_ok rfl rfl rfl (fun _ => rfl) ?r1 rfl ?h1) ?_
  case r1 => apply Rd.add; (exact Rd.blk 0 rfl)
  case h1 => rfl
  refine' WQ.yv rfl rfl qD rfl (Yl.load1 tab_ok rfl rfl rfl (fun _ => rfl) ?r2 rfl ?h2) ?_
  case r2 => (exact Rd.blk 2 rfl)
  case h2 => rfl
  refine WQ.yv rfl rfl qD rfl (pureV_ok tab_ok rfl (fun _ => rfl)) ?_
  refine WQ.nil ?_
  refine WE.nxtR ?_
  refine WR.condD rfl (fun hc0 => ?_) (fun hc0 => ?_)
  ·try dsimp only at hc0
   refine WR.region _ ?_
   refine' WQ.yv rfl rfl qD rfl (Yl.load1 tab_ok rfl rfl rfl (fun _ => rfl) ?r3 rfl ?h3) ?_
   case r3 => (exact Rd.blk 1 rfl)
   case h3 => rfl
   refine WQ.yv rfl rfl qD rfl (pureV_ok tab_ok rfl (fun _ => rfl)) ?_
   refine' WQ.yv rfl rfl qD rfl (Yl.load1 tab_ok rfl rfl rfl (fun _ => rfl) ?r4 rfl ?h4) ?_
   case r4 => apply Rd.add; (exact Rd.blk 0 rfl)
   case h4 => rfl
   refine WQ.yv rfl rfl qD rfl (Yl.add rfl rfl rfl (fun _ => rfl) qA) ?_
   refine WQ.efN rfl rfl rfl (Ef.store0 1 tab_ok rfl rfl rfl rfl rfl rfl rfl rfl ?_)
   refine WQ.nil ?_
   refine zL ?_
   refine WE.rend ⟨_, List.Perm.refl _, ?_⟩
   rw [hsn, if_pos hc0]
   exact List.Sublist.cons _ (List.Sublist.refl _)
  ·try dsimp only at hc0
   refine WR.skip ?_
   refine zL ?_
   refine WE.rend ⟨_, List.Perm.refl _, ?_⟩
   rw [hsn, if_neg hc0, Int.add_zero]
   exact List.Sublist.cons _ (List.Sublist.refl _)
 ·
  rintro D xs rfl
  rw [sumT_ofGo]
  refine zL (zU (zQ (zG ?_)))
  refine yL (Rd.blk 1 rfl) ?_
  refine zR 1 rfl (zN (zU (zT ?_)))
  refine WE.subE (E' := .obj D (.deferred (some [])) :: E) qS ?_
  refine WE.retFM tab_ok 0 [_] rfl rfl rfl ⟨rfl, trivial⟩ (RLe.refl _) ?_
  exact ⟨rfl, rfl⟩

end Go.Proofs.YthpblaoehlgpfaaGreat
