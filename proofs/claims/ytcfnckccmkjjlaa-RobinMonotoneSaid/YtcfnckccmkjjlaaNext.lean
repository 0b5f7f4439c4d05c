/- Choices by classes, plain: the first packet of a class that waits; weighted round robin. No condition. -/
import Derived.Test.YtcfnckccmkjjlaaAns
namespace Go.Proofs.Ytcfnckccmkjjlaa.M
open Go Go.Proofs.Ytcfnckccmkjjlaa.K

/-- the first packet of a class that waits -/
def nextP (ps : List Pkt) (ms : MS) (cls : Int) (i : Nat) : Bool := decide ((nth ps i).time ≤ ms.now) && !nth ms.begun i && (nth ps i).flow == cls
def nextW (ps : List Pkt) (ms : MS) (cls : Int) : Int := findN (nextP ps ms cls) ps.length
theorem nextP_iff {ps : List Pkt} {ms : MS} {cls : Int} {i : Nat} : nextP ps ms cls i = true ↔ (nth ps i).time ≤ ms.now ∧ nth ms.begun i = false ∧ (nth ps i).flow = cls := by
  unfold nextP
  simp only [Bool.and_eq_true, decide_eq_true_eq, Bool.not_eq_true', beq_iff_eq, and_assoc]
theorem nextW_some {ps : List Pkt} {ms : MS} {cls : Int} (hsort : ps.Pairwise fun a b => a.time ≤ b.time) (h0 : 0 ≤ nextW ps ms cls) :
    (nextW ps ms cls).toNat < ps.length ∧ nth ms.begun (nextW ps ms cls).toNat = false ∧ (nth ps (nextW ps ms cls).toNat).time ≤ ms.now ∧ (nth ps (nextW ps ms cls).toNat).flow = cls ∧
      ∀ j, j < (nextW ps ms cls).toNat → (nth ps j).flow = cls → nth ms.begun j = true := by
  unfold nextW at h0 ⊢
  rcases findN_cases (nextP ps ms cls) ps.length with ⟨i, h1, h2, h3, h4⟩ | ⟨h1, _⟩
  · rw [h2, Int.toNat_natCast]
    obtain ⟨a1, a2, a3⟩ := nextP_iff.1 h3
    refine ⟨h1, a2, a1, a3, fun j hj hf => ?_⟩
    have h5 := h4 j hj
    cases hb : nth ms.begun j with
    | true => rfl
    | false =>
      have ht := List.pairwise_iff_getElem.1 hsort j i (by omega) h1 hj
      rw [← nth_eq (by omega), ← nth_eq h1] at ht
      rw [nextP_iff.2 ⟨by omega, hb, hf⟩] at h5; cases h5
  · omega
theorem nextW_lt (ps : List Pkt) (ms : MS) (cls : Int) : nextW ps ms cls < ps.length ∧ -1 ≤ nextW ps ms cls := by
  unfold nextW
  rcases findN_cases (nextP ps ms cls) ps.length with ⟨i, h1, h2, _, _⟩ | ⟨h1, _⟩
  · omega
  · omega
theorem nextW_none {ps : List Pkt} {ms : MS} {cls : Int} (h0 : nextW ps ms cls < 0) {j : Nat} (hj : j < ps.length) (ht : (nth ps j).time ≤ ms.now) (hf : (nth ps j).flow = cls) : nth ms.begun j = true := by
  unfold nextW at h0
  rcases findN_cases (nextP ps ms cls) ps.length with ⟨i, h1, h2, _, _⟩ | ⟨_, h2⟩
  · omega
  · have := h2 j hj
    cases hb : nth ms.begun j with
    | true => rfl
    | false => rw [nextP_iff.2 ⟨ht, hb, hf⟩] at this; cases this
/-- the reference's -/
theorem findN_congr {P Q : Nat → Bool} {n : Nat} (h : ∀ i, i < n → P i = Q i) : findN P n = findN Q n := by
  rcases findN_cases Q n with ⟨i, h1, h2, h3, h4⟩ | ⟨h1, h2⟩
  · rw [h2]
    exact findN_some h1 (by rw [h i h1]; exact h3) (fun j hj => by rw [h j (by omega)]; exact h4 j hj)
  · rw [h1]
    exact findN_none (fun j hj => by rw [h j hj]; exact h2 j hj)
theorem first_class {ps : List Pkt} {ms : MS} {st : St} {cls : Int} (hc : 0 ≤ cls) (hw : ∀ i, i < ps.length → waits ps st i = (decide ((nth ps i).time ≤ ms.now) && !nth ms.begun i)) : firstW ps st cls = nextW ps ms cls := by
  unfold firstW nextW
  refine findN_congr fun i hi => ?_
  rw [hw i hi]
  unfold nextP
  have : (cls == -1) = false := by simp; omega
  rw [this, Bool.false_or, Bool.and_comm]
/-- if something waits, something of some class waits -/
theorem next_of_first {ps : List Pkt} {ms : MS} (hgd : goodB ps ms) (hbl : ms.begun.length = ps.length) (h0 : 0 ≤ firstR ps ms) : 0 ≤ nextW ps ms (nth ps (firstR ps ms).toNat).flow ∧ (firstR ps ms).toNat < ps.length := by
  obtain ⟨h1, h2, h3, h4⟩ := firstR_some hgd hbl h0
  refine ⟨?_, h1⟩
  apply Classical.byContradiction
  intro h
  have := nextW_none (ps := ps) (ms := ms) (cls := (nth ps (firstR ps ms).toNat).flow) (by omega) h1 h3 rfl
  rw [h2] at this; cases this

/-! ### weighted round robin -/
def robinGo (nx : Int → Int) (w : List Int) : Nat → Nat → Int → Int × (Nat × Int)
  | 0, c, l => (-1, (c, l))
  | k + 1, c, l => if 0 ≤ nx c ∧ 0 < l then (nx c, (c, l - 1)) else robinGo nx w k ((c + 1) % w.length) (nth w ((c + 1) % w.length))
def robinCh (ps : List Pkt) (w : List Int) (ms : MS) (s : Nat × Int) : Int × Nat × (Nat × Int) :=
  if firstR ps ms < 0 then (-1, skipTo ms.begun ms.before, s)
  else ((robinGo (nextW ps ms) w (w.length + 1) s.1 s.2).1, skipTo ms.begun ms.before, (robinGo (nextW ps ms) w (w.length + 1) s.1 s.2).2)
def robinRc (ps : List Pkt) (w : List Int) (st : St) (g : Nat × Int) : Int × (Nat × Int) :=
  if 0 ≤ firstW ps st (-1) then robinGo (firstW ps st) w (w.length + 1) g.1 g.2 else (-1, g)
/-- within so many steps something is found -/
def Soon (nx : Int → Int) (n k c : Nat) (l : Int) : Prop := ∃ j, j < k ∧ 0 ≤ nx (((c + j) % n : Nat) : Int) ∧ (0 < j ∨ 0 < l)
theorem Soon.step {nx : Int → Int} {w : List Int} {k c : Nat} {l : Int} (hw : ∀ x ∈ w, 1 ≤ x) (hn : 0 < w.length) (hc : c < w.length) (h : Soon nx w.length (k + 1) c l) (hno : ¬ (0 ≤ nx c ∧ 0 < l)) : Soon nx w.length k ((c + 1) % w.length) (nth w ((c + 1) % w.length)) := by
  obtain ⟨j, h1, h2, h3⟩ := h
  have hj : 0 < j := by
    rcases Nat.eq_zero_or_pos j with hj | hj
    · subst hj
      rw [Nat.add_zero, Nat.mod_eq_of_lt hc] at h2
      exact absurd ⟨h2, by omega⟩ hno
    · exact hj
  refine ⟨j - 1, by omega, ?_, .inr ?_⟩
  · rw [Nat.mod_add_mod, show c + 1 + (j - 1) = c + j by omega]; exact h2
  · have := hw _ (nth_mem (xs := w) (k := (c + 1) % w.length) (Nat.mod_lt _ hn)); omega
theorem robinGo_is {nx : Int → Int} {w : List Int} (hw : ∀ x ∈ w, 1 ≤ x ∧ x ≤ 20) (hn : 0 < w.length) : ∀ (k c : Nat) (l : Int), c < w.length → l ≤ 20 → Soon nx w.length k c l →
    0 ≤ (robinGo nx w k c l).1 ∧ (robinGo nx w k c l).1 = nx (robinGo nx w k c l).2.1 ∧ (robinGo nx w k c l).2.1 < w.length ∧ 0 ≤ (robinGo nx w k c l).2.2 ∧ (robinGo nx w k c l).2.2 ≤ 20
  | 0, c, l, _, _, h => by obtain ⟨j, h1, _⟩ := h; omega
  | k + 1, c, l, hc, hl, h => by
    simp only [robinGo]
    by_cases hy : 0 ≤ nx c ∧ 0 < l
    · rw [if_pos hy]; exact ⟨hy.1, rfl, hc, by dsimp only; omega, by dsimp only; omega⟩
    · rw [if_neg hy]
      exact robinGo_is hw hn k _ _ (Nat.mod_lt _ hn) (hw _ (nth_mem (Nat.mod_lt _ hn))).2 (h.step (fun x hx => (hw x hx).1) hn hc hy)
theorem soon_of {nx : Int → Int} {n c d : Nat} {l : Int} (hn : 0 < n) (hc : c < n) (hd : d < n) (h : 0 ≤ nx (d : Int)) : Soon nx n (n + 1) c l := by
  by_cases e : d ≤ c
  · refine ⟨n - c + d, by omega, ?_, .inl (by omega)⟩
    rw [show c + (n - c + d) = d + n by omega, Nat.add_mod_right, Nat.mod_eq_of_lt hd]; exact h
  · refine ⟨d - c, by omega, ?_, .inl (by omega)⟩
    rw [show c + (d - c) = d by omega, Nat.mod_eq_of_lt hd]; exact h
def goodRb (ps : List Pkt) (n : Nat) (ms : MS) (s : Nat × Int) : Prop := goodB ps ms ∧ s.1 < n ∧ 0 ≤ s.2 ∧ s.2 ≤ 20
theorem robin_soon {ps : List Pkt} {w : List Int} {ms : MS} {s : Nat × Int} (hn : 0 < w.length) (hfl : ∀ p ∈ ps, 0 ≤ p.flow ∧ p.flow < w.length) (hg : goodRb ps w.length ms s) (hb : ms.begun.length = ps.length) (h0 : ¬ firstR ps ms < 0) :
    Soon (nextW ps ms) w.length (w.length + 1) s.1 s.2 := by
  obtain ⟨h1, h2⟩ := next_of_first hg.1 hb (by omega)
  have hf := hfl _ (nth_mem h2)
  obtain ⟨d, hd⟩ := Int.eq_ofNat_of_zero_le hf.1
  rw [hd] at h1
  exact soon_of hn hg.2.1 (by omega) h1
theorem goodB_skip {ps : List Pkt} {ms : MS} (h : goodB ps ms) (hb : ms.begun.length = ps.length) : goodB ps { ms with before := skipTo ms.begun ms.before } := h.skip hb
theorem goodB_begin {ps : List Pkt} {ms : MS} (h : goodB ps ms) (hb : ms.begun.length = ps.length) (i : Nat) : goodB ps { ms with before := skipTo ms.begun ms.before, begun := ms.begun.set i true } := by
  have hs := h.skip hb
  refine ⟨hs.1, fun j hj => ?_⟩
  dsimp only at hj ⊢
  by_cases e : i = j
  · subst e; rw [nth_set_self (by omega)]
  · rw [nth_set_ne e]; exact hs.2 j hj
def sameFlow (ps : List Pkt) (i k : Nat) : Prop := (nth ps i).flow = (nth ps k).flow
theorem robin_fair {ps : List Pkt} {w : List Int} (hw : ∀ x ∈ w, 1 ≤ x ∧ x ≤ 20) (hn : 0 < w.length) (hfl : ∀ p ∈ ps, 0 ≤ p.flow ∧ p.flow < w.length) (hsort : ps.Pairwise fun a b => a.time ≤ b.time) :
    Fair ps (robinCh ps w) (goodRb ps w.length) (sameFlow ps) where
  free := fun _ _ _ _ h => h
  idx := fun ms s hg hb h0 => by
    unfold robinCh at h0 ⊢
    split at h0
    · dsimp only at h0; omega
    · rename_i hf
      rw [if_neg hf]
      obtain ⟨h1, h2, _⟩ := robinGo_is hw hn _ _ _ hg.2.1 hg.2.2.2 (robin_soon hn hfl hg hb hf)
      dsimp only
      rw [h2]; exact (nextW_lt _ _ _).1
  some := fun ms s hg hb h0 => by
    unfold robinCh at h0 ⊢
    split at h0
    · dsimp only at h0; omega
    · rename_i hf
      rw [if_neg hf]
      obtain ⟨h1, h2, h3, h4, h5⟩ := robinGo_is hw hn _ _ _ hg.2.1 hg.2.2.2 (robin_soon hn hfl hg hb hf)
      exact ⟨goodB_begin hg.1 hb _, h3, h4, h5⟩
  none := fun ms s hg hb h0 => by
    unfold robinCh at h0 ⊢
    split at h0
    · rename_i hf
      rw [if_pos hf]; exact ⟨goodB_skip hg.1 hb, hg.2⟩
    · rename_i hf
      obtain ⟨h1, _⟩ := robinGo_is hw hn _ _ _ hg.2.1 hg.2.2.2 (robin_soon hn hfl hg hb hf)
      dsimp only at h0; omega
  waits := fun ms s hg hb h0 => by
    unfold robinCh at h0 ⊢
    split at h0
    · dsimp only at h0; omega
    · rename_i hf
      rw [if_neg hf]
      obtain ⟨h1, h2, _⟩ := robinGo_is hw hn _ _ _ hg.2.1 hg.2.2.2 (robin_soon hn hfl hg hb hf)
      dsimp only
      rw [h2] at h1 ⊢
      have := nextW_some hsort h1
      exact ⟨this.2.1, this.2.2.1⟩
  ord := fun ms s hg hb h0 i hi hr => by
    unfold robinCh at h0 hi hr
    split at h0
    · dsimp only at h0; omega
    · rename_i hf
      rw [if_neg hf] at hi hr
      obtain ⟨h1, h2, _⟩ := robinGo_is hw hn _ _ _ hg.2.1 hg.2.2.2 (robin_soon hn hfl hg hb hf)
      dsimp only at hi hr
      rw [h2] at h1 hi hr
      have := nextW_some hsort h1
      exact this.2.2.2.2 i hi (by unfold sameFlow at hr; rw [hr]; exact this.2.2.2.1)
theorem robin_busy {ps : List Pkt} {w : List Int} (hw : ∀ x ∈ w, 1 ≤ x ∧ x ≤ 20) (hn : 0 < w.length) (hfl : ∀ p ∈ ps, 0 ≤ p.flow ∧ p.flow < w.length) (hsort : ps.Pairwise fun a b => a.time ≤ b.time) : Busy ps (robinCh ps w) (goodRb ps w.length) := by
  intro ms s hg hb h0
  unfold robinCh at h0
  split at h0
  · rename_i hf
    exact firstR_none hsort hg.1 hb hf
  · rename_i hf
    obtain ⟨h1, _⟩ := robinGo_is hw hn _ _ _ hg.2.1 hg.2.2.2 (robin_soon hn hfl hg hb hf)
    dsimp only at h0; omega
theorem robin_start {ps : List Pkt} {w : List Int} (hw : ∀ x ∈ w, 1 ≤ x ∧ x ≤ 20) (hn : 0 < w.length) (classes : Nat) : goodRb ps w.length (start ps classes ((0, nth w 0) : Nat × Int)).ms (0, nth w 0) :=
  ⟨⟨Nat.zero_le _, fun i hi => by simp [start] at hi⟩, hn, by have := hw _ (nth_mem hn); omega, (hw _ (nth_mem hn)).2⟩
theorem robinRc_ok {ps : List Pkt} {w : List Int} (hw : ∀ x ∈ w, 1 ≤ x ∧ x ≤ 20) (hn : 0 < w.length) (hsoon : ∀ (st : St) (c : Nat) (l : Int), c < w.length → 0 ≤ firstW ps st (-1) → Soon (firstW ps st) w.length (w.length + 1) c l) {st : St} {g : Nat × Int} (hg : g.1 < w.length ∧ 0 ≤ g.2 ∧ g.2 ≤ 20) :
    (rpick (robinRc ps w) st g).2.1 < w.length ∧ 0 ≤ (rpick (robinRc ps w) st g).2.2 ∧ (rpick (robinRc ps w) st g).2.2 ≤ 20 := by
  unfold rpick robinRc
  split
  · split
    · rename_i h
      have := robinGo_is hw hn _ _ _ hg.1 hg.2.2 (hsoon st g.1 g.2 hg.1 h)
      exact ⟨this.2.2.1, this.2.2.2.1, this.2.2.2.2⟩
    · exact hg
  · exact hg
theorem robinGo_congr {nx nx' : Int → Int} {w : List Int} (h : ∀ c : Nat, nx c = nx' c) : ∀ (k c : Nat) (l : Int), robinGo nx w k c l = robinGo nx' w k c l
  | 0, _, _ => rfl
  | k + 1, c, l => by simp only [robinGo, h c, robinGo_congr h k]
theorem robin_alike {ps : List Pkt} {w : List Int} (hw : ∀ x ∈ w, 1 ≤ x ∧ x ≤ 20) (hn : 0 < w.length) (hfl : ∀ p ∈ ps, 0 ≤ p.flow ∧ p.flow < w.length) (hsort : ps.Pairwise fun a b => a.time ≤ b.time) :
    Alike ps (robinCh ps w) (goodRb ps w.length) (robinRc ps w) (fun s g => s = g) := by
  intro ms s st g hg hb hr ht hnow hwt
  subst hr
  unfold robinCh robinRc
  rw [first_any hsort hg.1 hb hwt]
  by_cases hf : firstR ps ms < 0
  · rw [if_pos hf, if_pos hf, if_neg (by omega)]
    exact ⟨rfl, rfl⟩
  · rw [if_neg hf, if_neg hf, if_pos (by omega)]
    have hgo := robinGo_congr (nx := firstW ps st) (nx' := nextW ps ms) (w := w) (fun c => first_class (by omega) hwt) (w.length + 1) s.1 s.2
    obtain ⟨h1, _⟩ := robinGo_is hw hn _ _ _ hg.2.1 hg.2.2.2 (robin_soon hn hfl hg hb hf)
    dsimp only
    rw [hgo, if_neg (by omega)]
    exact ⟨rfl, rfl⟩
theorem robin_waiting {ps : List Pkt} {w : List Int} (hn : 0 < w.length) : Waiting ps (robinRc ps w) := by
  have key : ∀ (st : St) (k c : Nat) (l : Int), (robinGo (firstW ps st) w k c l).1 = -1 ∨ (0 ≤ (robinGo (firstW ps st) w k c l).1 ∧ (robinGo (firstW ps st) w k c l).1 < ps.length ∧ waits ps st (robinGo (firstW ps st) w k c l).1.toNat = true) := by
    intro st k
    induction k with
    | zero => intro c l; left; rfl
    | succ k ih =>
      intro c l
      simp only [robinGo]
      split
      · exact firstW_waiting ps c st
      · exact ih _ _
  intro st g
  unfold robinRc
  split
  · exact key st _ _ _
  · left; rfl
theorem firstW_soon {ps : List Pkt} {st : St} {n c : Nat} {l : Int} (hn : 0 < n) (hc : c < n) (hfl : ∀ p ∈ ps, 0 ≤ p.flow ∧ p.flow < n) (h : 0 ≤ firstW ps st (-1)) : Soon (firstW ps st) n (n + 1) c l := by
  unfold firstW at h
  rcases findN_cases (fun i => ((-1 : Int) == -1 || (nth ps i).flow == -1) && waits ps st i) ps.length with ⟨i, h1, h2, h3, _⟩ | ⟨h1, _⟩
  · have hf := hfl _ (nth_mem h1)
    obtain ⟨d, hd⟩ := Int.eq_ofNat_of_zero_le hf.1
    refine soon_of hn hc (d := d) (by omega) ?_
    simp only [Bool.and_eq_true] at h3
    unfold firstW
    rcases findN_cases (fun i => (((d : Nat) : Int) == -1 || (nth ps i).flow == ((d : Nat) : Int)) && waits ps st i) ps.length with ⟨j, g1, g2, _, _⟩ | ⟨_, g2⟩
    · rw [g2]; omega
    · have := g2 i h1
      simp [hd, h3.2] at this
  · omega
/-- weights that are in their range -/
def okW (hi : Int) (w : List Int) : Bool := w.all fun x => decide (1 ≤ x) && decide (x ≤ hi)
theorem okW_iff {hi : Int} {w : List Int} : okW hi w = true ↔ ∀ x ∈ w, 1 ≤ x ∧ x ≤ hi := by
  unfold okW
  simp only [List.all_eq_true, Bool.and_eq_true, decide_eq_true_eq]
def wrunE (hi cap ticks : Int) (w : List Int) (ps : List Pkt) : Int := if lrunE cap w.length ticks ps ≠ 0 then lrunE cap w.length ticks ps else if okW hi w = true then 0 else 2
def outOf {σ : Type} (e : Int) (s : RS σ) : List Int × List (List Int) := if e ≠ 0 then ([], []) else (s.done, s.sent)
theorem wrunE_ok {hi cap ticks : Int} {w : List Int} {ps : List Pkt} (h : wrunE hi cap ticks w ps = 0) : lrunE cap w.length ticks ps = 0 ∧ okW hi w = true := by
  unfold wrunE at h
  split at h
  · rename_i h1; exact absurd h h1
  · rename_i h1
    split at h
    · rename_i h2; exact ⟨by omega, h2⟩
    · omega
end Go.Proofs.Ytcfnckccmkjjlaa.M
