/- What comes later changes nothing: the law of a run, plain. No condition. -/
import Derived.Test.YtgcpmmbljhnacaaMove
namespace Go.Proofs.Ytgcpmmbljhnacaa.M
open Go Go.Proofs.Ytgcpmmbljhnacaa.K

/-- the run of all packets beside that of the first m -/
structure Fo (len m : Nat) (s s' : RS Unit) : Prop where
  cur : s.cur = s'.cur
  rest : s.rest = s'.rest
  done : s.done = s'.done ++ List.replicate (len - m) (-1)
  dlen : s'.done.length = m
  sent : s.sent = s'.sent
  begun : s.ms.begun = s'.ms.begun ++ List.replicate (len - m) false
  blen : s'.ms.begun.length = m
  before : s.ms.before = s'.ms.before
  bm : s'.ms.before ≤ m
  now : s.ms.now = s'.ms.now
  left : s.ms.left = s'.ms.left
  lt : 0 ≤ s'.cur → s'.cur.toNat < m
theorem skipTo_append {l : List Bool} {k b : Nat} (h : b ≤ l.length) : skipTo (l ++ List.replicate k false) b = skipTo l b := by
  unfold skipTo
  rw [List.drop_append_of_le_length h]
  congr 1
  generalize l.drop b = r
  induction r with
  | nil => cases k <;> simp [List.replicate_succ]
  | cons x r ih =>
    cases x with
    | true => simp [ih]
    | false => simp
theorem nth_append_l {α : Type} [Inhabited α] {l r : List α} {i : Nat} (h : i < l.length) : nth (l ++ r) i = nth l i := by
  unfold nth List.getD; rw [List.getElem?_append_left h]
theorem nth_take {α : Type} [Inhabited α] {l : List α} {i m : Nat} (h : i < m) : nth (l.take m) i = nth l i := by
  unfold nth List.getD; rw [List.getElem?_take, if_pos h]
section
variable {ps : List Pkt} {m : Nat} {s s' : RS Unit}
theorem firstR_forget (hm : m ≤ ps.length) (h : Fo ps.length m s s') (ht : ∀ i, m ≤ i → i < ps.length → s.ms.now < (nth ps i).time) : firstR ps s.ms = firstR (ps.take m) s'.ms ∧ skipTo s.ms.begun s.ms.before = skipTo s'.ms.begun s'.ms.before := by
  have hs : skipTo s.ms.begun s.ms.before = skipTo s'.ms.begun s'.ms.before := by
    rw [h.begun, h.before, skipTo_append (by rw [h.blen]; exact h.bm)]
  have hle : skipTo s'.ms.begun s'.ms.before ≤ m := by
    have := skipTo_le (l := s'.ms.begun) (b := s'.ms.before) (by rw [h.blen]; exact h.bm)
    rw [h.blen] at this; exact this
  refine ⟨?_, hs⟩
  unfold firstR
  rw [hs, h.now]
  have hl : (ps.take m).length = m := by simp; omega
  rw [hl]
  generalize skipTo s'.ms.begun s'.ms.before = b at hle
  dsimp only
  by_cases hb : b < m
  · rw [nth_take hb]
    have e : (b < ps.length ∧ (nth ps b).time ≤ s'.ms.now) ↔ (b < m ∧ (nth ps b).time ≤ s'.ms.now) := by constructor <;> (rintro ⟨h1, h2⟩; exact ⟨by omega, h2⟩)
    simp only [e]
  · rw [if_neg (show ¬ (b < m ∧ _) from fun h => hb h.1), if_neg]
    rintro ⟨h1, h2⟩
    have := ht b (by omega) h1
    rw [h.now] at this; omega
theorem set_append_l {α : Type} {l r : List α} {i : Nat} {x : α} (h : i < l.length) : (l ++ r).set i x = l.set i x ++ r := List.set_append_left _ _ h
theorem Fo.pickup (hm : m ≤ ps.length) (h : Fo ps.length m s s') (ht : ∀ i, m ≤ i → i < ps.length → s.ms.now < (nth ps i).time) : Fo ps.length m (pickup ps (fifo ps) s) (pickup (ps.take m) (fifo (ps.take m)) s') := by
  obtain ⟨h1, h2⟩ := firstR_forget hm h ht
  unfold M.pickup
  rw [h.cur]
  by_cases hc : 0 ≤ s'.cur
  · rw [if_pos hc, if_pos hc]; exact h
  · rw [if_neg hc, if_neg hc]
    have hf : fifo ps s.ms s.sg = (firstR (ps.take m) s'.ms, skipTo s'.ms.begun s'.ms.before, ()) := by unfold fifo; rw [h1, h2]
    have hf2 : fifo (ps.take m) s'.ms s'.sg = (firstR (ps.take m) s'.ms, skipTo s'.ms.begun s'.ms.before, ()) := rfl
    rw [hf, hf2]
    dsimp only
    have hlt := firstR_lt (ps.take m) s'.ms
    have hl : (ps.take m).length = m := by simp; omega
    rw [hl] at hlt
    have hle : skipTo s'.ms.begun s'.ms.before ≤ m := by
      have := skipTo_le (l := s'.ms.begun) (b := s'.ms.before) (by rw [h.blen]; exact h.bm)
      rw [h.blen] at this; exact this
    by_cases hr : firstR (ps.take m) s'.ms < 0
    · rw [if_pos hr, if_pos hr]
      exact ⟨rfl, h.rest, h.done, h.dlen, h.sent, h.begun, h.blen, rfl, hle, h.now, h.left, fun h0 => by dsimp only at h0; omega⟩
    · rw [if_neg hr, if_neg hr]
      have hi : (firstR (ps.take m) s'.ms).toNat < m := by omega
      exact ⟨rfl, by dsimp only; rw [nth_take hi], h.done, h.dlen, h.sent, by dsimp only; rw [h.begun, set_append_l (by rw [h.blen]; exact hi)], by simp [h.blen], rfl, hle, h.now, h.left, fun _ => hi⟩
theorem Fo.send {t : Nat} (h : Fo ps.length m s s') (hc : 0 ≤ s'.cur) : Fo ps.length m (send ps t s) (send (ps.take m) t s') := by
  have hi := h.lt hc
  unfold M.send
  rw [h.left, h.rest, h.cur, nth_take hi, h.sent, h.done]
  generalize (if s'.ms.left < s'.rest then s'.ms.left else s'.rest) = k
  refine ⟨rfl, rfl, ?_, ?_, rfl, h.begun, h.blen, h.before, h.bm, h.now, rfl, ?_⟩
  · dsimp only
    split
    · rw [set_append_l (by rw [h.dlen]; exact hi)]
    · rfl
  · dsimp only
    split
    · simp [h.dlen]
    · exact h.dlen
  · dsimp only
    split
    · intro h0; omega
    · exact h.lt
theorem Fo.inner (hm : m ≤ ps.length) {t : Nat} (ht : ∀ i, m ≤ i → i < ps.length → (t : Int) < (nth ps i).time) : ∀ (j : Nat) (s s' : RS Unit), Fo ps.length m s s' → s.ms.now = t →
    Fo ps.length m (inner ps (fifo ps) t j s) (inner (ps.take m) (fifo (ps.take m)) t j s')
  | 0, s, s', h, hn => h
  | j + 1, s, s', h, hn => by
    simp only [M.inner]
    rw [h.left]
    by_cases h0 : s'.ms.left ≤ 0
    · rw [if_pos h0, if_pos h0]; exact h
    · rw [if_neg h0, if_neg h0]
      have hp := h.pickup hm (by rw [hn]; exact ht)
      rw [hp.cur]
      by_cases hc : (M.pickup (ps.take m) (fifo (ps.take m)) s').cur < 0
      · rw [if_pos hc, if_pos hc]; exact hp
      · rw [if_neg hc, if_neg hc]
        exact Fo.inner hm ht j _ _ (hp.send (by omega)) (by unfold M.send; dsimp only; rw [(pickup_same ps (fifo ps) s).2.1]; exact hn)
theorem Fo.ticks (hm : m ≤ ps.length) {c : Int} {n : Nat} (ht : ∀ i, m ≤ i → i < ps.length → (n : Int) ≤ (nth ps i).time) : ∀ (k t : Nat) (s s' : RS Unit), t + k ≤ n → Fo ps.length m s s' →
    Fo ps.length m (ticksFrom ps (fifo ps) c t k s) (ticksFrom (ps.take m) (fifo (ps.take m)) c t k s')
  | 0, t, s, s', _, h => h
  | k + 1, t, s, s', hk, h => by
    have h1 : Fo ps.length m { s with ms := { s.ms with now := t, left := c }, sent := s.sent.map fun l => l ++ [nth l t] } { s' with ms := { s'.ms with now := t, left := c }, sent := s'.sent.map fun l => l ++ [nth l t] } :=
      ⟨h.cur, h.rest, h.done, h.dlen, by dsimp only; rw [h.sent], h.begun, h.blen, h.before, h.bm, rfl, rfl, h.lt⟩
    have h2 := Fo.inner hm (t := t) (fun i h3 h4 => by have := ht i h3 h4; omega) c.toNat _ _ h1 rfl
    exact Fo.ticks hm ht k (t + 1) _ _ (by omega) h2
theorem forget_run (hm : m ≤ ps.length) {c : Int} {n : Nat} (ht : ∀ i, m ≤ i → i < ps.length → (n : Int) ≤ (nth ps i).time) (classes : Nat) :
    Fo ps.length m (mrun ps (fifo ps) c classes n ()) (mrun (ps.take m) (fifo (ps.take m)) c classes n ()) := by
  have hl : (ps.take m).length = m := by simp; omega
  refine Fo.ticks hm ht n 0 _ _ (by omega) ⟨rfl, rfl, ?_, by simp [start]; omega, rfl, ?_, by simp [start]; omega, rfl, Nat.zero_le _, rfl, rfl, fun h => by simp [start] at h⟩
  · simp only [start, hl]
    rw [List.replicate_append_replicate, show m + (ps.length - m) = ps.length by omega]
  · simp only [start, hl]
    rw [List.replicate_append_replicate, show m + (ps.length - m) = ps.length by omega]
end
theorem takeWhile_stop : ∀ (l : List Bool), (l.takeWhile id).length < l.length → nth l (l.takeWhile id).length = false
  | [], h => by simp at h
  | false :: l, h => by simp [nth]
  | true :: l, h => by
    simp only [List.takeWhile_cons, id, if_true, List.length_cons] at h ⊢
    have := takeWhile_stop l (by omega)
    simpa [nth, List.getD] using this
theorem skipTo_stop {l : List Bool} {b : Nat} (h : skipTo l b < l.length) : nth l (skipTo l b) = false := by
  unfold skipTo at h ⊢
  have := takeWhile_stop (l.drop b) (by rw [List.length_drop]; omega)
  unfold nth List.getD at this ⊢
  rw [List.getElem?_drop] at this
  exact this
/-- what has not been finished -/
def Fin (len : Nat) (s : RS Unit) : Prop := s.ms.begun.length = len ∧ s.done.length = len ∧ (∀ i, i < len → (s.cur = i ∨ nth s.ms.begun i = false) → nth s.done i = -1) ∧ (0 ≤ s.cur → s.cur.toNat < len ∧ nth s.ms.begun s.cur.toNat = true)
section
variable {ps : List Pkt} {s s0 : RS Unit}
theorem Fin.pickup (h : Fin ps.length s) : Fin ps.length (pickup ps (fifo ps) s) := by
  obtain ⟨h1, h2, h3, h4⟩ := h
  unfold M.pickup
  split
  · exact ⟨h1, h2, h3, h4⟩
  · rename_i hc
    have hf : fifo ps s.ms s.sg = (firstR ps s.ms, skipTo s.ms.begun s.ms.before, ()) := rfl
    rw [hf]
    dsimp only
    split
    · refine ⟨h1, h2, fun i hi ho => h3 i hi ?_, fun h0 => by dsimp only at h0; omega⟩
      rcases ho with ho | ho
      · dsimp only at ho; omega
      · exact .inr ho
    · rename_i hr
      have hlt := (firstR_lt ps s.ms).1
      have hb : nth s.ms.begun (firstR ps s.ms).toNat = false := by
        unfold firstR at hr hlt ⊢
        dsimp only at hr hlt ⊢
        split at hr
        · rename_i hh
          rw [if_pos hh]
          simp only [Int.toNat_natCast]
          exact skipTo_stop (by rw [h1]; exact hh.1)
        · omega
      refine ⟨by simp [h1], h2, fun i hi ho => ?_, fun _ => ⟨by dsimp only; omega, by dsimp only; rw [nth_set_self (by omega)]⟩⟩
      dsimp only at ho ⊢
      by_cases e : i = (firstR ps s.ms).toNat
      · subst e; exact h3 _ hi (.inr hb)
      · rcases ho with ho | ho
        · omega
        · rw [nth_set_ne (fun h => e h.symm)] at ho
          exact h3 i hi (.inr ho)
theorem Fin.send {t : Nat} (h : Fin ps.length s) (hc : 0 ≤ s.cur) : Fin ps.length (send ps t s) := by
  obtain ⟨h1, h2, h3, h4⟩ := h
  unfold M.send
  generalize (if s.ms.left < s.rest then s.ms.left else s.rest) = k
  dsimp only
  split
  · refine ⟨h1, by simp [h2], fun i hi ho => ?_, fun h0 => by dsimp only at h0; omega⟩
    dsimp only at ho ⊢
    rcases ho with ho | ho
    · omega
    · by_cases e : s.cur.toNat = i
      · have := (h4 hc).2; rw [e] at this; rw [this] at ho; cases ho
      · rw [nth_set_ne e]; exact h3 i hi (.inr ho)
  · exact ⟨h1, h2, h3, h4⟩
/-- what lies behind the tick n changes nothing of what was -/
structure Past (n : Nat) (s0 s : RS Unit) : Prop where
  slen : s.sent.length = s0.sent.length
  sent : ∀ k, k < s.sent.length → (nth s.sent k).take (n + 1) = (nth s0.sent k).take (n + 1)
  rlen : ∀ k, k < s.sent.length → n + 1 ≤ (nth s.sent k).length
  dlen : s.done.length = s0.done.length
  kept : ∀ i, 0 ≤ nth s0.done i → nth s.done i = nth s0.done i
  new : ∀ i, nth s0.done i < 0 → nth s.done i < 0 ∨ (n : Int) ≤ nth s.done i
theorem Past.send {n t : Nat} (hn : n ≤ t) (h : Past n s0 s) (hf : Fin ps.length s) (hc : 0 ≤ s.cur) : Past n s0 (send ps t s) := by
  obtain ⟨h1, h2, h3, h4⟩ := hf
  unfold M.send
  generalize (if s.ms.left < s.rest then s.ms.left else s.rest) = k
  generalize (nth ps s.cur.toNat).flow.toNat = f
  refine ⟨by simp [h.slen], fun j hj => ?_, fun j hj => ?_, ?_, ?_, ?_⟩
  · dsimp only at hj ⊢
    rw [List.length_set] at hj
    by_cases e : f = j
    · subst e
      rw [nth_set_self hj, List.take_set_of_le (by omega)]
      exact h.sent _ hj
    · rw [nth_set_ne e]; exact h.sent _ hj
  · dsimp only at hj ⊢
    rw [List.length_set] at hj
    by_cases e : f = j
    · subst e
      rw [nth_set_self hj, List.length_set]
      exact h.rlen _ hj
    · rw [nth_set_ne e]; exact h.rlen _ hj
  · dsimp only; split <;> simp [h.dlen]
  · intro i hi
    dsimp only
    split
    · by_cases e : s.cur.toNat = i
      · have h5 := h.kept i hi
        have h6 := h3 i (by rw [← e]; exact (h4 hc).1) (.inl (by omega))
        omega
      · rw [nth_set_ne e]; exact h.kept i hi
    · exact h.kept i hi
  · intro i hi
    dsimp only
    split
    · by_cases e : s.cur.toNat = i
      · subst e
        rw [nth_set_self (by rw [h2]; exact (h4 hc).1)]
        right; omega
      · rw [nth_set_ne e]; exact h.new i hi
    · exact h.new i hi
theorem Past.pickup {n : Nat} (h : Past n s0 s) : Past n s0 (pickup ps (fifo ps) s) := by
  obtain ⟨e1, e2, e3, e4⟩ := pickup_same ps (fifo ps) s
  exact ⟨by rw [e3]; exact h.slen, by rw [e3]; exact h.sent, by rw [e3]; exact h.rlen, by rw [e4]; exact h.dlen, by rw [e4]; exact h.kept, by rw [e4]; exact h.new⟩
theorem Past.inner {n t : Nat} (hn : n ≤ t) : ∀ (j : Nat) (s : RS Unit), Past n s0 s → Fin ps.length s → Past n s0 (inner ps (fifo ps) t j s) ∧ Fin ps.length (inner ps (fifo ps) t j s)
  | 0, s, h, hf => ⟨h, hf⟩
  | j + 1, s, h, hf => by
    simp only [M.inner]
    split
    · exact ⟨h, hf⟩
    · split
      · exact ⟨h.pickup, hf.pickup⟩
      · rename_i hc
        exact Past.inner hn j _ (h.pickup.send hn hf.pickup (by omega)) (hf.pickup.send (by omega))
theorem Past.ticks {n : Nat} {c : Int} : ∀ (k t : Nat) (s : RS Unit), n ≤ t → Past n s0 s → Fin ps.length s → Past n s0 (ticksFrom ps (fifo ps) c t k s)
  | 0, t, s, hn, h, hf => h
  | k + 1, t, s, hn, h, hf => by
    have h1 : Past n s0 { s with ms := { s.ms with now := t, left := c }, sent := s.sent.map fun l => l ++ [nth l t] } := by
      refine ⟨by simp [h.slen], fun j hj => ?_, fun j hj => ?_, h.dlen, h.kept, h.new⟩
      · dsimp only at hj ⊢
        rw [List.length_map] at hj
        rw [nth_map_lt _ hj, List.take_append_of_le_length (h.rlen j hj)]
        exact h.sent j hj
      · dsimp only at hj ⊢
        rw [List.length_map] at hj
        rw [nth_map_lt _ hj, List.length_append]
        have := h.rlen j hj; omega
    obtain ⟨h2, h3⟩ := Past.inner (ps := ps) hn c.toNat _ h1 ⟨hf.1, hf.2.1, hf.2.2.1, hf.2.2.2⟩
    exact Past.ticks k (t + 1) _ (by omega) h2 h3
theorem fin_inner {t : Nat} : ∀ (j : Nat) (s : RS Unit), Fin ps.length s → Fin ps.length (inner ps (fifo ps) t j s)
  | 0, s, hf => hf
  | j + 1, s, hf => by
    simp only [M.inner]
    split
    · exact hf
    · split
      · exact hf.pickup
      · rename_i hc; exact fin_inner j _ (hf.pickup.send (by omega))
theorem fin_ticks {c : Int} : ∀ (k t : Nat) (s : RS Unit), Fin ps.length s → Fin ps.length (ticksFrom ps (fifo ps) c t k s)
  | 0, t, s, hf => hf
  | k + 1, t, s, hf => by
    have h1 : Fin ps.length { s with ms := { s.ms with now := t, left := c }, sent := s.sent.map fun l => l ++ [nth l t] } := ⟨hf.1, hf.2.1, hf.2.2.1, hf.2.2.2⟩
    exact fin_ticks k (t + 1) _ (fin_inner _ _ h1)
theorem fin_run {c : Int} (classes n : Nat) : Fin ps.length (mrun ps (fifo ps) c classes n ()) :=
  fin_ticks n 0 _ ⟨by simp [start], by simp [start], fun i hi _ => by simp only [start]; rw [nth_replicate hi], fun h => by simp [start] at h⟩
theorem past_run {c : Int} (classes n k : Nat) (hr : ∀ j, j < (mrun ps (fifo ps) c classes n ()).sent.length → n + 1 ≤ (nth (mrun ps (fifo ps) c classes n ()).sent j).length) :
    Past n (mrun ps (fifo ps) c classes n ()) (mrun ps (fifo ps) c classes (n + k) ()) := by
  have e : mrun ps (fifo ps) c classes (n + k) () = ticksFrom ps (fifo ps) c (0 + n) k (mrun ps (fifo ps) c classes n ()) := by unfold mrun; rw [ticksFrom_add]
  rw [e]
  exact Past.ticks k _ _ (by omega) ⟨rfl, fun _ _ => rfl, hr, rfl, fun _ _ => rfl, fun _ h => .inl h⟩ (fin_run classes n)
theorem early {n : Int} : ∀ (ps : List Pkt), ps.Pairwise (fun a b => a.time ≤ b.time) → ∃ m, m ≤ ps.length ∧ ∀ i, i < ps.length → ((nth ps i).time < n ↔ i < m)
  | [], _ => ⟨0, Nat.le_refl _, fun i hi => by simp at hi⟩
  | p :: ps, h => by
    obtain ⟨h1, h2⟩ := List.pairwise_cons.1 h
    by_cases hp : p.time < n
    · obtain ⟨m, hm, hx⟩ := early ps h2
      refine ⟨m + 1, by simp; omega, fun i hi => ?_⟩
      cases i with
      | zero => simp [nth]; exact hp
      | succ i =>
        have := hx i (by simpa using hi)
        rw [show nth (p :: ps) (i + 1) = nth ps i from rfl, this]; omega
    · refine ⟨0, Nat.zero_le _, fun i hi => ?_⟩
      cases i with
      | zero => simp [nth]; omega
      | succ i =>
        have hi' : i < ps.length := by simpa using hi
        have := h1 _ (nth_mem hi')
        rw [show nth (p :: ps) (i + 1) = nth ps i from rfl]; omega
theorem forget_done {n m i : Nat} {s s0 s2 : RS Unit} (hm : m ≤ ps.length) (hf : Fo ps.length m s s0) (hp : Past n s0 s2) (hi : i < ps.length) :
    (m ≤ i → nth s.done i = -1) ∧ (i < m → 0 ≤ nth s.done i → nth s.done i = nth s2.done i) ∧ (i < m → 0 ≤ nth s2.done i → nth s2.done i < n → nth s.done i = nth s2.done i) := by
  have e : ∀ h : i < m, nth s.done i = nth s0.done i := fun h => by rw [hf.done, nth_append_l (by rw [hf.dlen]; exact h)]
  refine ⟨fun h => ?_, fun h h0 => ?_, fun h h0 h1 => ?_⟩
  · rw [hf.done]
    unfold nth List.getD
    rw [List.getElem?_append_right (by rw [hf.dlen]; exact h), List.getElem?_replicate, if_pos (by rw [hf.dlen]; omega)]
    rfl
  · rw [e h] at h0 ⊢
    exact (hp.kept i h0).symm
  · rw [e h]
    by_cases h2 : 0 ≤ nth s0.done i
    · exact (hp.kept i h2).symm
    · rcases hp.new i (by omega) with h3 | h3 <;> omega
theorem forget_sent {n m j : Nat} {s s0 s2 : RS Unit} (hf : Fo ps.length m s s0) (hp : Past n s0 s2) (hj : j < s2.sent.length) (hl : (nth s.sent j).length = n + 1) : (nth s2.sent j).take (n + 1) = nth s.sent j := by
  rw [hp.sent j hj, ← hf.sent, List.take_of_length_le (by omega)]
end
end Go.Proofs.Ytgcpmmbljhnacaa.M
