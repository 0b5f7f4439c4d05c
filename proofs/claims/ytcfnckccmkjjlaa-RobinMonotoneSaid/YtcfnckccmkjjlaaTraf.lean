/- What Traffic makes is a valid trace; laws of runs, plain. No condition. -/
import Derived.Test.YtcfnckccmkjjlaaLine
namespace Go.Proofs.Ytcfnckccmkjjlaa.M
open Go Go.Proofs.Ytcfnckccmkjjlaa.K

theorem trafficGo_ok (xs : List Int) {flows most : Int} (hf : 1 ≤ flows) (hm : 1 ≤ most) : ∀ (k c : Nat) (t : Int),
    (∀ p ∈ trafficGo xs flows most k c t, 0 ≤ p.flow ∧ p.flow < flows ∧ t ≤ p.time ∧ p.time ≤ t + 7 * k ∧ 1 ≤ p.size ∧ p.size ≤ most) ∧ (trafficGo xs flows most k c t).Pairwise (fun a b => a.time ≤ b.time)
  | 0, c, t => by simp [trafficGo]
  | k + 1, c, t => by
    have h1 := mod_range (nth xs c) hf
    have h2 := mod_range (nth xs (c + 1)) hm
    have h3 := pick7_range (mod (nth xs (c + 2)) 7)
    obtain ⟨h4, h5⟩ := trafficGo_ok xs hf hm k (c + 3) (t + pick7 (mod (nth xs (c + 2)) 7))
    simp only [trafficGo, List.mem_cons, forall_eq_or_imp, List.pairwise_cons]
    refine ⟨⟨by omega, fun p hp => ?_⟩, fun p hp => ?_, h5⟩
    · have := h4 p hp; omega
    · have := h4 p hp; omega
theorem trafficK_le (xs : List Int) {n : Int} (hn : 0 ≤ n) (c : Nat) : (trafficK xs n c : Int) ≤ n := by
  have := mod_range (nth xs c) (show 1 ≤ n + 1 by omega)
  unfold trafficK; omega
theorem traffic_at (xs : List Int) {n flows most : Int} (hn : 0 ≤ n) (hf : 1 ≤ flows) (hm : 1 ≤ most) (c : Nat) : ∀ p ∈ traffic xs n flows most c, 0 ≤ p.flow ∧ p.flow < flows ∧ 0 ≤ p.time ∧ p.time ≤ 7 * n ∧ 1 ≤ p.size ∧ p.size ≤ most := by
  intro p hp
  have h1 := (trafficGo_ok xs hf hm (trafficK xs n c) (c + 1) 0).1 p hp
  have h2 := trafficK_le xs hn c
  omega
theorem traffic_len (xs : List Int) {n flows most : Int} (hn : 0 ≤ n) (c : Nat) : ((traffic xs n flows most c).length : Int) ≤ n := by
  unfold traffic; rw [trafficGo_length]; exact trafficK_le xs hn c
theorem traffic_ok (xs : List Int) {n flows most : Int} (hn : 0 ≤ n ∧ n ≤ 60) (hf : 1 ≤ flows ∧ flows ≤ 60) (hm : 1 ≤ most ∧ most ≤ 1500) (c : Nat) : Ok (traffic xs n flows most c) := by
  refine ⟨by have := traffic_len xs (flows := flows) (most := most) hn.1 c; omega, fun p hp => ?_, (trafficGo_ok xs hf.1 hm.1 _ _ _).2⟩
  have := traffic_at xs hn.1 hf.1 hm.1 c p hp
  unfold BadP; omega
theorem flowGo_of {classes : Int} {ps : List Pkt} (h : ∀ p ∈ ps, p.flow < classes) : flowGo classes ps = 0 := (flowGo_ok _ _).2 h
theorem checkE_of {cap classes ticks : Int} {ps : List Pkt} (hb : ¬ BadC cap classes ticks) (h : ∀ p ∈ ps, p.flow < classes) : checkE cap classes ticks ps = 0 := by
  unfold checkE; rw [if_neg hb]; exact flowGo_of h

theorem mul_bd {a b A B : Int} (ha : 1 ≤ a ∧ a ≤ A) (hb : 1 ≤ b ∧ b ≤ B) : 1 ≤ a * b ∧ a * b ≤ A * B := by
  constructor
  · have := Int.mul_le_mul ha.1 hb.1 (by omega) (by omega)
    simpa using this
  · exact Int.mul_le_mul ha.2 hb.2 (by omega) (by omega)
/-! ### sizes and a capacity that are so many times as great -/
def scP (k : Int) (p : Pkt) : Pkt := { p with size := p.size * k }
theorem nth_map_lt {α β : Type} [Inhabited α] [Inhabited β] (f : α → β) {l : List α} {i : Nat} (h : i < l.length) : nth (l.map f) i = f (nth l i) := by
  rw [nth_eq (by simpa using h), nth_eq h]; simp
theorem firstR_scale (ps : List Pkt) (k : Int) (ms : MS) (l : Int) : firstR (ps.map (scP k)) { ms with left := l } = firstR ps ms := by
  unfold firstR
  dsimp only
  rw [List.length_map]
  by_cases h : skipTo ms.begun ms.before < ps.length
  · rw [nth_map_lt _ h]; rfl
  · rw [if_neg (by omega), if_neg (by omega)]

structure Sc (k : Int) (s s' : RS Unit) : Prop where
  cur : s'.cur = s.cur
  rest : s'.rest = s.rest * k
  done : s'.done = s.done
  ms : s'.ms = { s.ms with left := s.ms.left * k }
  pos : 0 ≤ s.cur → 1 ≤ s.rest ∧ s.cur.toNat < s.done.length
section
variable {ps : List Pkt} {k : Int} {s s' : RS Unit}
theorem Sc.pickup (hs : ∀ p ∈ ps, 1 ≤ p.size) (hl : s.done.length = ps.length) (h : Sc k s s') : Sc k (pickup ps (fifo ps) s) (pickup (ps.map (scP k)) (fifo (ps.map (scP k))) s') := by
  unfold M.pickup
  rw [h.cur]
  by_cases hc : 0 ≤ s.cur
  · rw [if_pos hc, if_pos hc]; exact h
  · rw [if_neg hc, if_neg hc]
    have hf : (fifo (ps.map (scP k)) s'.ms s'.sg) = (firstR ps s.ms, skipTo s.ms.begun s.ms.before, ()) := by
      unfold fifo; rw [h.ms, firstR_scale]
    rw [hf]
    have hf2 : fifo ps s.ms s.sg = (firstR ps s.ms, skipTo s.ms.begun s.ms.before, ()) := rfl
    rw [hf2]
    dsimp only
    have hlt := (firstR_lt ps s.ms).1
    by_cases hr : firstR ps s.ms < 0
    · rw [if_pos hr, if_pos hr]
      exact ⟨rfl, h.rest, h.done, by rw [h.ms], fun h0 => by dsimp only at h0; omega⟩
    · rw [if_neg hr, if_neg hr]
      have hi : (firstR ps s.ms).toNat < ps.length := by omega
      exact ⟨rfl, by dsimp only; rw [nth_map_lt _ hi]; rfl, h.done, by rw [h.ms], fun h0 => ⟨hs _ (nth_mem hi), by rw [hl]; exact hi⟩⟩
theorem Sc.send (hk : 1 ≤ k) {t : Nat} (h : Sc k s s') (hc : 0 ≤ s.cur) (hl : 0 < s.ms.left) : Sc k (send ps t s) (send (ps.map (scP k)) t s') ∧ (send ps t s).ms.left < s.ms.left ∧ (send ps t s).done.length = s.done.length := by
  obtain ⟨h1, h2⟩ := h.pos hc
  have hl' : s'.ms.left = s.ms.left * k := by rw [h.ms]
  have hn : (if s'.ms.left < s'.rest then s'.ms.left else s'.rest) = (if s.ms.left < s.rest then s.ms.left else s.rest) * k := by
    rw [hl', h.rest]
    by_cases hlt : s.ms.left < s.rest
    · rw [if_pos hlt, if_pos (Int.mul_lt_mul_of_pos_right hlt (by omega))]
    · rw [if_neg hlt, if_neg (by have := Int.mul_le_mul_of_nonneg_right (show s.rest ≤ s.ms.left by omega) (show 0 ≤ k by omega); omega)]
  have hn1 : 1 ≤ (if s.ms.left < s.rest then s.ms.left else s.rest) ∧ (if s.ms.left < s.rest then s.ms.left else s.rest) ≤ s.rest := by split <;> omega
  unfold M.send
  rw [hn]
  generalize (if s.ms.left < s.rest then s.ms.left else s.rest) = n at hn1 ⊢
  have hz : s'.rest - n * k = (s.rest - n) * k := by rw [h.rest, Int.sub_mul]
  have hz2 : (s.rest - n) * k = 0 ↔ s.rest - n = 0 := by
    rw [Int.mul_eq_zero]; omega
  dsimp only
  rw [hz]
  refine ⟨⟨?_, rfl, ?_, ?_, ?_⟩, by omega, by split <;> simp⟩
  · by_cases hq : s.rest - n = 0
    · rw [if_pos (hz2.2 hq), if_pos hq]
    · simp only [hq, if_false, show ¬ (s.rest - n) * k = 0 from fun h => hq (hz2.1 h)]; exact h.cur
  · by_cases hq : s.rest - n = 0
    · dsimp only; rw [if_pos (hz2.2 hq), if_pos hq, h.done, h.cur]
    · simp only [hq, if_false, show ¬ (s.rest - n) * k = 0 from fun h => hq (hz2.1 h)]; exact h.done
  · rw [h.ms]; simp only [Int.sub_mul]
  · dsimp only
    by_cases hq : s.rest - n = 0
    · rw [if_pos hq, if_pos hq]; intro h0; omega
    · rw [if_neg hq, if_neg hq]
      intro _
      exact ⟨by omega, h2⟩
theorem Sc.inner (hs : ∀ p ∈ ps, 1 ≤ p.size) (hk : 1 ≤ k) {t : Nat} : ∀ (j j' : Nat) (s s' : RS Unit), Sc k s s' → s.done.length = ps.length → s.ms.left ≤ j → s'.ms.left ≤ j' →
    Sc k (inner ps (fifo ps) t j s) (inner (ps.map (scP k)) (fifo (ps.map (scP k))) t j' s') ∧ (inner ps (fifo ps) t j s).done.length = ps.length
  | 0, j', s, s', h, hl, hj, hj' => by
    have hl' : s'.ms.left = s.ms.left * k := by rw [h.ms]
    have : s'.ms.left ≤ 0 := by rw [hl']; exact Int.mul_nonpos_of_nonpos_of_nonneg (by omega) (by omega)
    rw [inner_stop (by omega), inner_stop this]
    exact ⟨h, hl⟩
  | j + 1, j', s, s', h, hl, hj, hj' => by
    have hl' : s'.ms.left = s.ms.left * k := by rw [h.ms]
    by_cases h0 : s.ms.left ≤ 0
    · have : s'.ms.left ≤ 0 := by rw [hl']; exact Int.mul_nonpos_of_nonpos_of_nonneg (by omega) (by omega)
      rw [inner_stop h0, inner_stop this]
      exact ⟨h, hl⟩
    · have h0' : 0 < s'.ms.left := by rw [hl']; exact Int.mul_pos (by omega) (by omega)
      have hp := h.pickup hs hl
      have hps := pickup_same ps (fifo ps) s
      have hps' := pickup_same (ps.map (scP k)) (fifo (ps.map (scP k))) s'
      by_cases hc : (M.pickup ps (fifo ps) s).cur < 0
      · rw [inner_none hj (by omega) hc, inner_none hj' h0' (by rw [hp.cur]; exact hc)]
        exact ⟨hp, by rw [hps.2.2.2]; exact hl⟩
      · rw [inner_some hj (by omega) (by omega), inner_some hj' h0' (by rw [hp.cur]; omega)]
        obtain ⟨g1, g2, g3⟩ := hp.send hk (t := t) (by omega) (by rw [hps.1]; omega)
        have e1 : (M.send (ps.map (scP k)) t (M.pickup (ps.map (scP k)) (fifo (ps.map (scP k))) s')).ms.left = (M.send ps t (M.pickup ps (fifo ps) s)).ms.left * k := by rw [g1.ms]
        have e2 : (M.send ps t (M.pickup ps (fifo ps) s)).ms.left * k ≤ s.ms.left * k - k := by
          have : (M.send ps t (M.pickup ps (fifo ps) s)).ms.left ≤ s.ms.left - 1 := by rw [hps.1] at g2; omega
          have := Int.mul_le_mul_of_nonneg_right this (show 0 ≤ k by omega)
          rw [Int.sub_mul] at this; omega
        refine Sc.inner hs hk j (j' - 1) _ _ g1 (by rw [g3, hps.2.2.2]; exact hl) (by rw [hps.1] at g2; omega) (by rw [e1]; omega)
theorem Sc.ticks (hs : ∀ p ∈ ps, 1 ≤ p.size) (hk : 1 ≤ k) {c : Int} (hc : 0 ≤ c) : ∀ (m t : Nat) (s s' : RS Unit), Sc k s s' → s.done.length = ps.length →
    Sc k (ticksFrom ps (fifo ps) c t m s) (ticksFrom (ps.map (scP k)) (fifo (ps.map (scP k))) (c * k) t m s')
  | 0, t, s, s', h, hl => h
  | m + 1, t, s, s', h, hl => by
    have h1 : Sc k { s with ms := { s.ms with now := t, left := c }, sent := s.sent.map fun l => l ++ [nth l t] } { s' with ms := { s'.ms with now := t, left := c * k }, sent := s'.sent.map fun l => l ++ [nth l t] } :=
      ⟨h.cur, h.rest, h.done, by dsimp only; rw [h.ms], h.pos⟩
    have hck : 0 ≤ c * k := Int.mul_nonneg hc (by omega)
    obtain ⟨h2, h3⟩ := Sc.inner hs hk (t := t) c.toNat (c * k).toNat _ _ h1 hl (by dsimp only; omega) (by dsimp only; omega)
    exact Sc.ticks hs hk hc m (t + 1) _ _ h2 h3
theorem scale_done (hs : ∀ p ∈ ps, 1 ≤ p.size) (hk : 1 ≤ k) {c : Int} (hc : 0 ≤ c) (classes m : Nat) : (mrun (ps.map (scP k)) (fifo (ps.map (scP k))) (c * k) classes m ()).done = (mrun ps (fifo ps) c classes m ()).done := by
  refine (Sc.ticks hs hk hc m 0 (start ps classes ()) (start (ps.map (scP k)) classes ()) ⟨rfl, by simp [start], by simp [start], by simp [start], fun h => by simp [start] at h⟩ (by simp [start])).done
theorem scale_ok {ps : List Pkt} (hp : Ok ps) {k : Int} (hk : 1 ≤ k ∧ k ≤ 9) (hs : ∀ p ∈ ps, p.size ≤ 40) : Ok (ps.map (scP k)) := by
  refine ⟨by simpa using hp.len, fun p hq => ?_, ?_⟩
  · obtain ⟨q, h1, rfl⟩ := List.mem_map.1 hq
    have h2 := hp.at h1
    have h3 := mul_bd (A := 40) ⟨h2.2.2.2.2.1, hs q h1⟩ hk
    unfold BadP scP; dsimp only; omega
  · rw [List.pairwise_map]; exact hp.sorted
theorem map_mid_step {α : Type} [Inhabited α] {ps : List α} {f : α → α} {j : Nat} (hj : j < ps.length) : ((ps.take j).map f ++ ps.drop j).set j (f (nth ps j)) = (ps.take (j + 1)).map f ++ ps.drop (j + 1) := by
  rw [List.set_append_right _ _ (by simp; omega), drop_nth hj, take_nth hj]
  simp [Nat.min_eq_left (Nat.le_of_lt hj)]
theorem map_mid_nth {α : Type} [Inhabited α] {ps : List α} {f : α → α} {j : Nat} (hj : j < ps.length) : nth ((ps.take j).map f ++ ps.drop j) j = nth ps j := by
  unfold nth List.getD
  rw [List.getElem?_append_right (by simp; omega)]
  simp [Nat.min_eq_left (Nat.le_of_lt hj)]
theorem scale_step {ps : List Pkt} {k : Int} {j : Nat} (hj : j < ps.length) : ((ps.take j).map (scP k) ++ ps.drop j).set j (scP k (nth ps j)) = (ps.take (j + 1)).map (scP k) ++ ps.drop (j + 1) := by
  rw [List.set_append_right _ _ (by simp; omega), drop_nth hj, take_nth hj]
  simp [Nat.min_eq_left (Nat.le_of_lt hj)]
theorem scale_nth {ps : List Pkt} {k : Int} {j : Nat} (hj : j < ps.length) : nth ((ps.take j).map (scP k) ++ ps.drop j) j = nth ps j := by
  unfold nth List.getD
  rw [List.getElem?_append_right (by simp; omega)]
  simp [Nat.min_eq_left (Nat.le_of_lt hj)]
end
end Go.Proofs.Ytcfnckccmkjjlaa.M
