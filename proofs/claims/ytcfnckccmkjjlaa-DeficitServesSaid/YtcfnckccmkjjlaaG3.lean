/- Rules and walks, joined from 5 texts: the first of them says: Deficit round robin while a class is backlogged, plain: what the others take. No condition. -/
import Derived.Test.YtcfnckccmkjjlaaG2
/- Deficit round robin while a class is backlogged, plain: what the others take. No condition. -/
namespace Go.Proofs.Ytcfnckccmkjjlaa.M
open Go Go.Proofs.Ytcfnckccmkjjlaa.K

def sumF (f : Nat → Int) : Nat → Int
  | 0 => 0
  | n + 1 => sumF f n + f n
theorem sumF_congr {f g : Nat → Int} : ∀ {n : Nat}, (∀ i, i < n → f i = g i) → sumF f n = sumF g n
  | 0, _ => rfl
  | n + 1, h => by simp only [sumF]; rw [sumF_congr (fun i hi => h i (by omega)), h n (by omega)]
theorem sumF_le {f g : Nat → Int} : ∀ {n : Nat}, (∀ i, i < n → f i ≤ g i) → sumF f n ≤ sumF g n
  | 0, _ => Int.le_refl _
  | n + 1, h => by have a := sumF_le (fun i hi => h i (by omega) : ∀ i, i < n → f i ≤ g i); have b := h n (by omega); simp only [sumF]; omega
theorem sumF_nonneg {f : Nat → Int} : ∀ {n : Nat}, (∀ i, i < n → 0 ≤ f i) → 0 ≤ sumF f n
  | 0, _ => Int.le_refl _
  | n + 1, h => by have a := sumF_nonneg (fun i hi => h i (by omega) : ∀ i, i < n → 0 ≤ f i); have b := h n (by omega); simp only [sumF]; omega
theorem sumF_change {f g : Nat → Int} {c : Nat} : ∀ {n : Nat}, c < n → (∀ i, i < n → i ≠ c → g i = f i) → sumF g n = sumF f n + (g c - f c)
  | 0, h, _ => by omega
  | n + 1, hc, h => by
    simp only [sumF]
    by_cases e : c = n
    · subst e
      rw [sumF_congr (fun i hi => h i (by omega) (by omega) : ∀ i, i < c → g i = f i)]; omega
    · rw [sumF_change (by omega) (fun i hi hne => h i (by omega) hne : ∀ i, i < n → i ≠ c → g i = f i), h n (by omega) (by omega)]; omega
theorem sumF_add {f g : Nat → Int} : ∀ {n : Nat}, sumF (fun i => f i + g i) n = sumF f n + sumF g n
  | 0 => rfl
  | n + 1 => by simp only [sumF]; rw [sumF_add]; omega
def xF (k : Nat) (w : List Int) (z : List Sz) (i : Nat) : Int := if i ≠ k ∧ 1 ≤ (nth z i).most then nth w i else 0
def zF (k : Nat) (z : List Sz) (i : Nat) : Int := if i ≠ k ∧ 1 ≤ (nth z i).most then (nth z i).most - 1 else 0
theorem xSum_eq {k : Nat} {w : List Int} {z : List Sz} : ∀ n : Nat, xSum k w z n = sumF (xF k w z) n
  | 0 => rfl
  | n + 1 => by
    simp only [xSum, sumF, xSum_eq n]
    congr 1
    unfold xF
    by_cases h : n ≠ k ∧ 1 ≤ (nth z n).most
    · rw [if_pos h, if_pos ⟨by omega, h.2⟩]
    · rw [if_neg h, if_neg (fun hh => h ⟨by omega, hh.2⟩)]
theorem zSum_eq {k : Nat} {z : List Sz} : ∀ n : Nat, zSum k z n = sumF (zF k z) n
  | 0 => rfl
  | n + 1 => by
    simp only [zSum, sumF, zSum_eq n]
    congr 1
    unfold zF
    by_cases h : n ≠ k ∧ 1 ≤ (nth z n).most
    · rw [if_pos h, if_pos ⟨by omega, h.2⟩]
    · rw [if_neg h, if_neg (fun hh => h ⟨by omega, hh.2⟩)]
/-- the quantum of class i is still to be given before class k's next one -/
def pend (k c : Nat) (b : Bool) (i : Nat) : Bool := if c = k then b else (decide (i ≠ c) || !b) && (if c ≤ k then decide (c ≤ i ∧ i < k) else decide (c ≤ i ∨ i < k))
theorem pend_iff {k c i : Nat} {b : Bool} : pend k c b i = true ↔ (c = k ∧ b = true) ∨ (c ≠ k ∧ (i ≠ c ∨ b = false) ∧ ((c ≤ k ∧ c ≤ i ∧ i < k) ∨ (¬ c ≤ k ∧ (c ≤ i ∨ i < k)))) := by
  unfold pend
  by_cases h1 : c = k
  · rw [if_pos h1]; simp [h1]
  · rw [if_neg h1]
    by_cases h2 : c ≤ k
    · rw [if_pos h2]; cases b <;> simp [h1, h2]
    · rw [if_neg h2]; cases b <;> simp [h1, h2]
theorem pend_next {k c n i : Nat} (hc : c < n) (hk : k < n) (hn : 2 ≤ n) (hi : i < n) (hik : i ≠ k) : pend k ((c + 1) % n) false i = pend k c true i := by
  rw [mod_succ hc, Bool.eq_iff_iff, pend_iff, pend_iff]
  have e1 : (false = true) = False := by simp
  have e2 : (true = false) = False := by simp
  by_cases hl : c + 1 < n
  · rw [if_pos hl, e1, e2]
    simp only [and_false, or_false, and_true, or_true, true_and, false_or]
    omega
  · rw [if_neg hl, e1, e2]
    simp only [and_false, or_false, and_true, or_true, true_and, false_or]
    omega
theorem pend_self {k c : Nat} (h : c ≠ k) : pend k c true c = false := by unfold pend; rw [if_neg h]; simp
theorem pend_self' {k c : Nat} (h : c ≠ k) : pend k c false c = true := by unfold pend; rw [if_neg h]; split <;> simp <;> omega
theorem pend_other {k c i : Nat} {b : Bool} (h : c ≠ k) (hi : i ≠ c) : pend k c b i = pend k c true i := by unfold pend; rw [if_neg h, if_neg h]; simp [hi]
theorem pend_k {k i : Nat} {b : Bool} : pend k k b i = b := by unfold pend; rw [if_pos rfl]
/-- deficits saved, and quanta to come -/
def potF (w : List Int) (z : List Sz) (k c : Nat) (b : Bool) (d : List Int) (i : Nat) : Int := if i ≠ k ∧ 1 ≤ (nth z i).most then nth d i + (if pend k c b i = true then nth w i else 0) else 0
/-- the deficits: what is saved is less than a packet, but of the class that is visited -/
def DD (n : Nat) (z : List Sz) (c : Nat) (b : Bool) (d : List Int) : Prop := c < n ∧ d.length = n ∧ ∀ i, i < n → 0 ≤ nth d i ∧ (¬ (i = c ∧ b = true) → 1 ≤ (nth z i).most → nth d i ≤ (nth z i).most - 1)
def JD (w : List Int) (z : List Sz) (k c : Nat) (b : Bool) (d : List Int) (op own oth : Int) : Prop :=
  DD w.length z c b d ∧ ∃ v : Nat, oth + (if c = k then 0 else op) + sumF (potF w z k c b d) w.length ≤ ((v : Int) + 1) * xSum k w z w.length + zSum k z w.length ∧
    (v : Int) * nth w k ≤ own + (if c = k then op else 0) + nth d k ∧ (c = k → b = true → ((v : Int) - 1) * nth w k - ((nth z k).most - 1) ≤ own)
section
variable {nx sz : Int → Int} {w : List Int} {z : List Sz} {k : Nat}
theorem DD.grant (hw : ∀ x ∈ w, 1 ≤ x) {c : Nat} {b : Bool} {d : List Int} (h : DD w.length z c b d) (h0 : 0 ≤ nx c) : DD w.length z c true (M.grant nx w c b d) := by
  obtain ⟨h1, h2, h3⟩ := h
  refine ⟨h1, by rw [grant_len]; exact h2, fun i hi => ?_⟩
  have a := h3 i hi
  by_cases e : i = c
  · subst e
    refine ⟨?_, fun hn => absurd ⟨rfl, rfl⟩ hn⟩
    rw [grant_self (by omega)]
    have := hw _ (nth_mem hi)
    split <;> omega
  · rw [grant_ne e]
    exact ⟨a.1, fun _ hm => a.2 (fun hh => e hh.1) hm⟩
theorem DD.pick {c : Nat} {d : List Int} (h : DD w.length z c true d) {s : Int} (hs : s ≤ nth d c) : DD w.length z c true (d.set c (nth d c - s)) := by
  obtain ⟨h1, h2, h3⟩ := h
  refine ⟨h1, by rw [List.length_set]; exact h2, fun i hi => ?_⟩
  have a := h3 i hi
  by_cases e : i = c
  · subst e
    rw [nth_set_self (by omega)]
    exact ⟨by omega, fun hn => absurd ⟨rfl, rfl⟩ hn⟩
  · rw [nth_set_ne (Ne.symm e)]
    exact ⟨a.1, fun _ hm => a.2 (fun hh => e hh.1) hm⟩
theorem DD.next {c : Nat} {b : Bool} {d : List Int} (h : DD w.length z c b d) (hlt : 1 ≤ (nth z c).most → nth d c ≤ (nth z c).most - 1) : DD w.length z ((c + 1) % w.length) false d := by
  obtain ⟨h1, h2, h3⟩ := h
  refine ⟨Nat.mod_lt _ (by omega), h2, fun i hi => ?_⟩
  have a := h3 i hi
  refine ⟨a.1, fun _ hm => ?_⟩
  by_cases e : i = c
  · subst e; exact hlt hm
  · exact a.2 (fun hh => e hh.1) hm
theorem potF_nonneg (hw : ∀ x ∈ w, 1 ≤ x) {c : Nat} {b : Bool} {d : List Int} (h : DD w.length z c b d) : ∀ i, i < w.length → 0 ≤ potF w z k c b d i := fun i hi => by
  have a := (h.2.2 i hi).1
  have := hw _ (nth_mem hi)
  unfold potF
  split
  · split <;> omega
  · omega
theorem JD.grant (hw : ∀ x ∈ w, 1 ≤ x) (hk : k < w.length) (hL : 1 ≤ (nth z k).most) {c : Nat} {b : Bool} {d : List Int} {own oth : Int} (h : JD w z k c b d 0 own oth) (h0 : 0 ≤ nx c) : JD w z k c true (M.grant nx w c b d) 0 own oth := by
  obtain ⟨hd, v, a1, a2, a3⟩ := h
  refine ⟨hd.grant hw h0, ?_⟩
  have hcl : c < d.length := by rw [hd.2.1]; exact hd.1
  cases b with
  | true =>
    have e : M.grant nx w c true d = d := by unfold M.grant; rw [if_neg (by simp)]
    rw [e]; exact ⟨v, a1, a2, a3⟩
  | false =>
    have eg : nth (M.grant nx w c false d) c = nth d c + nth w c := by rw [grant_self hcl, if_pos ⟨h0, rfl⟩]
    by_cases hck : c = k
    · subst hck
      rw [if_pos rfl] at a1 a2
      refine ⟨v + 1, ?_, ?_, fun _ _ => ?_⟩
      · rw [if_pos rfl]
        have e : sumF (potF w z c c true (M.grant nx w c false d)) w.length = sumF (potF w z c c false d) w.length + xSum c w z w.length := by
          rw [xSum_eq, ← sumF_add]
          refine sumF_congr (fun i hi => ?_)
          unfold potF xF
          by_cases hh : i ≠ c ∧ 1 ≤ (nth z i).most
          · rw [if_pos hh, if_pos hh, if_pos hh, grant_ne hh.1, pend_k, pend_k, if_pos rfl, if_neg (by simp)]; omega
          · rw [if_neg hh, if_neg hh, if_neg hh]; omega
        rw [e]
        have e2 : (((v + 1 : Nat) : Int) + 1) * xSum c w z w.length = ((v : Int) + 1) * xSum c w z w.length + xSum c w z w.length := by rw [show (((v + 1 : Nat) : Int) + 1) = ((v : Int) + 1) + 1 by omega, Int.add_mul, Int.one_mul]
        rw [e2]; omega
      · rw [if_pos rfl, eg]
        have e2 : (((v + 1 : Nat) : Int)) * nth w c = (v : Int) * nth w c + nth w c := by rw [show ((v + 1 : Nat) : Int) = (v : Int) + 1 by omega, Int.add_mul, Int.one_mul]
        rw [e2]; omega
      · have hdk := (hd.2.2 c hk).2 (by simp) hL
        rw [show (((v + 1 : Nat) : Int) - 1) = (v : Int) by omega]
        omega
    · rw [if_neg hck] at a1 a2
      refine ⟨v, ?_, ?_, fun h => absurd h hck⟩
      · rw [if_neg hck]
        have e : sumF (potF w z k c true (M.grant nx w c false d)) w.length = sumF (potF w z k c false d) w.length := by
          refine sumF_congr (fun i hi => ?_)
          unfold potF
          by_cases hh : i ≠ k ∧ 1 ≤ (nth z i).most
          · rw [if_pos hh, if_pos hh]
            by_cases e : i = c
            · subst e
              rw [eg, pend_self hck, pend_self' hck, if_neg (by simp), if_pos rfl]; omega
            · rw [grant_ne e, pend_other (b := false) hck e]
          · rw [if_neg hh, if_neg hh]
        rw [e]; exact a1
      · rw [if_neg hck, grant_ne (Ne.symm hck)]; exact a2
theorem JD.pick {c : Nat} {d : List Int} {own oth : Int} (h : JD w z k c true d 0 own oth) {s : Int} (hs : s ≤ nth d c) (hm : 1 ≤ (nth z c).most) : JD w z k c true (d.set c (nth d c - s)) s own oth := by
  obtain ⟨hd, v, a1, a2, a3⟩ := h
  have hcl : c < d.length := by rw [hd.2.1]; exact hd.1
  refine ⟨hd.pick hs, v, ?_, ?_, a3⟩
  · by_cases hck : c = k
    · subst hck
      rw [if_pos rfl] at a1 ⊢
      have e : sumF (potF w z c c true (d.set c (nth d c - s))) w.length = sumF (potF w z c c true d) w.length := by
        refine sumF_congr (fun i hi => ?_)
        unfold potF
        by_cases hh : i ≠ c ∧ 1 ≤ (nth z i).most
        · rw [if_pos hh, if_pos hh, nth_set_ne (Ne.symm hh.1)]
        · rw [if_neg hh, if_neg hh]
      rw [e]; exact a1
    · rw [if_neg hck] at a1 ⊢
      have e : sumF (potF w z k c true (d.set c (nth d c - s))) w.length = sumF (potF w z k c true d) w.length + (potF w z k c true (d.set c (nth d c - s)) c - potF w z k c true d c) := by
        refine sumF_change hd.1 (fun i hi hne => ?_)
        unfold potF
        rw [nth_set_ne (Ne.symm hne)]
      have e2 : potF w z k c true (d.set c (nth d c - s)) c - potF w z k c true d c = - s := by
        unfold potF
        have hcm : c ≠ k ∧ 1 ≤ (nth z c).most := ⟨hck, hm⟩
        rw [if_pos hcm, if_pos hcm, nth_set_self hcl]; omega
      rw [e, e2]; omega
  · by_cases hck : c = k
    · subst hck
      rw [if_pos rfl] at a2 ⊢
      rw [nth_set_self hcl]; omega
    · rw [if_neg hck] at a2 ⊢
      rw [nth_set_ne hck]; exact a2
theorem JD.next (hw : ∀ x ∈ w, 1 ≤ x) (hk : k < w.length) (hn : 2 ≤ w.length) {c : Nat} {d : List Int} {own oth : Int} (h : JD w z k c true d 0 own oth) (hlt : 1 ≤ (nth z c).most → nth d c ≤ (nth z c).most - 1) : JD w z k ((c + 1) % w.length) false d 0 own oth := by
  obtain ⟨hd, v, a1, a2, a3⟩ := h
  refine ⟨hd.next hlt, v, ?_, ?_, fun _ h => by cases h⟩
  · have e : sumF (potF w z k ((c + 1) % w.length) false d) w.length = sumF (potF w z k c true d) w.length := by
      refine sumF_congr (fun i hi => ?_)
      unfold potF
      by_cases hh : i ≠ k ∧ 1 ≤ (nth z i).most
      · rw [if_pos hh, if_pos hh, pend_next hd.1 hk hn hi hh.1]
      · rw [if_neg hh, if_neg hh]
    rw [e]
    split <;> split at a1 <;> omega
  · split <;> split at a2 <;> omega
/-- a class without a waiting packet loses its deficit -/
theorem JD.skip (hw : ∀ x ∈ w, 1 ≤ x) (hk : k < w.length) (hn : 2 ≤ w.length) {c : Nat} {b : Bool} {d : List Int} {own oth : Int} (h : JD w z k c b d 0 own oth) (hck : c ≠ k) : JD w z k ((c + 1) % w.length) false (d.set c 0) 0 own oth := by
  obtain ⟨hd, v, a1, a2, a3⟩ := h
  have hcl : c < d.length := by rw [hd.2.1]; exact hd.1
  have hd2 : DD w.length z c b (d.set c 0) := by
    refine ⟨hd.1, by rw [List.length_set]; exact hd.2.1, fun i hi => ?_⟩
    by_cases e : i = c
    · subst e
      rw [nth_set_self hcl]
      exact ⟨Int.le_refl _, fun _ hm => by omega⟩
    · rw [nth_set_ne (Ne.symm e)]; exact hd.2.2 i hi
  refine ⟨hd2.next (fun hm => by rw [nth_set_self hcl]; omega), v, ?_, ?_, fun _ h => by cases h⟩
  · have e : sumF (potF w z k ((c + 1) % w.length) false (d.set c 0)) w.length ≤ sumF (potF w z k c b d) w.length := by
      refine sumF_le (fun i hi => ?_)
      unfold potF
      by_cases hh : i ≠ k ∧ 1 ≤ (nth z i).most
      · rw [if_pos hh, if_pos hh, pend_next hd.1 hk hn hi hh.1]
        by_cases e : i = c
        · subst e
          rw [nth_set_self hcl, pend_self hck, if_neg (by simp)]
          have := (hd.2.2 i hi).1
          have := hw _ (nth_mem hi)
          split <;> omega
        · rw [nth_set_ne (Ne.symm e), pend_other (b := b) hck e]; exact Int.le_refl _
      · rw [if_neg hh, if_neg hh]; exact Int.le_refl _
    rw [if_neg hck] at a1
    split <;> omega
  · rw [nth_set_ne hck]
    rw [if_neg hck] at a2
    split <;> omega
/-- what the invariant says in the end -/
theorem JD.end_ (hw : ∀ x ∈ w, 1 ≤ x) (hk : k < w.length) (hL : 1 ≤ (nth z k).most) {c : Nat} {b : Bool} {d : List Int} {op own oth : Int} (h0 : 0 ≤ own) (hop : 0 ≤ op) (hb : b = false → op = 0) (h : JD w z k c b d op own oth) : oth ≤ ((own + (nth z k).most - 1) / nth w k + 1) * xSum k w z w.length + zSum k z w.length := by
  obtain ⟨hd, v, a1, a2, a3⟩ := h
  have hwk := hw _ (nth_mem hk)
  have hX : 0 ≤ xSum k w z w.length := by
    rw [xSum_eq]
    refine sumF_nonneg (fun i hi => ?_)
    have := hw _ (nth_mem hi)
    unfold xF; split <;> omega
  have hA := sumF_nonneg (potF_nonneg (k := k) hw hd)
  have key : ∀ g : Int, g * nth w k ≤ own + (nth z k).most - 1 → (g + 1) * xSum k w z w.length ≤ ((own + (nth z k).most - 1) / nth w k + 1) * xSum k w z w.length := fun g hg => by
    have : g ≤ (own + (nth z k).most - 1) / nth w k := Int.le_ediv_of_mul_le (by omega) hg
    exact Int.mul_le_mul_of_nonneg_right (by omega) hX
  by_cases hck : c = k
  · subst hck
    cases b with
    | true =>
      have a3 := a3 rfl rfl
      have hAX : xSum c w z w.length ≤ sumF (potF w z c c true d) w.length := by
        rw [xSum_eq]
        refine sumF_le (fun i hi => ?_)
        have := (hd.2.2 i hi).1
        unfold xF potF
        by_cases hh : i ≠ c ∧ 1 ≤ (nth z i).most
        · rw [if_pos hh, if_pos hh, pend_k, if_pos rfl]; omega
        · rw [if_neg hh, if_neg hh]; exact Int.le_refl _
      have := key ((v : Int) - 1) (by omega)
      rw [show (v : Int) - 1 + 1 = (v : Int) by omega] at this
      rw [Int.add_mul, Int.one_mul] at a1
      rw [if_pos rfl] at a1
      omega
    | false =>
      have hdk := (hd.2.2 c hk).2 (by simp) hL
      have hop0 := hb rfl
      rw [if_pos rfl] at a1 a2
      have := key v (by omega)
      omega
  · have hdk := (hd.2.2 k hk).2 (fun hh => hck hh.1.symm) hL
    rw [if_neg hck] at a1 a2
    have := key v (by omega)
    omega
end
def Jdef (ps : List Pkt) (w : List Int) (z : List Sz) (k : Nat) (sg : Nat × Bool × List Int) (cur rest own oth : Int) : Prop := JD w z k sg.1 sg.2.1 sg.2.2 (if 0 ≤ cur then rest else 0) own oth ∧ (0 ≤ cur → (nth ps cur.toNat).flow = sg.1 ∧ sg.2.1 = true)
section
variable {ps : List Pkt} {w : List Int} {z : List Sz} {k : Nat}
theorem nx_facts (hS : SzOf ps z) (hs : ∀ p ∈ ps, 1 ≤ p.size) (hsort : ps.Pairwise fun a b => a.time ≤ b.time) {ms : MS} (c : Nat) (h : 0 ≤ nextW ps ms c) : (nextW ps ms c).toNat < ps.length ∧ (nth ps (nextW ps ms c).toNat).flow = c ∧ 1 ≤ szOf ps (nextW ps ms c) ∧ szOf ps (nextW ps ms c) ≤ (nth z c).most := by
  obtain ⟨a, b, c', e, _⟩ := nextW_some hsort h
  have h1 : (nextW ps ms c).toNat < ps.length := by omega
  have h2 := hS _ h1
  rw [e, Int.toNat_natCast] at h2
  have h3 := hs _ (nth_mem h1)
  exact ⟨h1, e, h3, h2.2⟩
theorem def_go (hw : ∀ x ∈ w, 1 ≤ x) (hk : k < w.length) (hn : 2 ≤ w.length) (hL : 1 ≤ (nth z k).most) {nx : Int → Int} (hnx : ∀ d : Nat, 0 ≤ nx d → (nx d).toNat < ps.length ∧ (nth ps (nx d).toNat).flow = d ∧ 1 ≤ szOf ps (nx d) ∧ szOf ps (nx d) ≤ (nth z d).most) (hwait : 0 ≤ nx k) {own oth : Int} : ∀ (fuel c : Nat) (b : Bool) (d : List Int), JD w z k c b d 0 own oth → 0 ≤ (defGo nx (szOf ps) w fuel c b d).1 →
    JD w z k (defGo nx (szOf ps) w fuel c b d).2.1 (defGo nx (szOf ps) w fuel c b d).2.2.1 (defGo nx (szOf ps) w fuel c b d).2.2.2 (nth ps (defGo nx (szOf ps) w fuel c b d).1.toNat).size own oth ∧ (nth ps (defGo nx (szOf ps) w fuel c b d).1.toNat).flow = (defGo nx (szOf ps) w fuel c b d).2.1 ∧ (defGo nx (szOf ps) w fuel c b d).2.2.1 = true
  | 0, c, b, d, _, h => by simp [defGo] at h
  | fuel + 1, c, b, d, hj, h => by
    simp only [defGo] at h ⊢
    by_cases hy : 0 ≤ nx c ∧ szOf ps (nx c) ≤ nth (M.grant nx w c b d) c
    · rw [if_pos hy]
      obtain ⟨f1, f2, f3, f4⟩ := hnx c hy.1
      have hg := hj.grant (nx := nx) hw hk hL hy.1
      exact ⟨hg.pick hy.2 (by omega), f2, rfl⟩
    · rw [if_neg hy] at h ⊢
      by_cases h0 : nx c < 0
      · have e1 : M.grant nx w c b d = d := by unfold M.grant; rw [if_neg (by omega)]
        have e2 : drop0 nx c d = d.set c 0 := if_pos h0
        rw [e1, e2] at h ⊢
        exact def_go hw hk hn hL hnx hwait fuel _ _ _ (hj.skip hw hk hn (fun e => by subst e; omega)) h
      · have e2 : drop0 nx c (M.grant nx w c b d) = M.grant nx w c b d := if_neg h0
        rw [e2] at h ⊢
        obtain ⟨f1, f2, f3, f4⟩ := hnx c (by omega)
        have hlt : ¬ szOf ps (nx c) ≤ nth (M.grant nx w c b d) c := fun hh => hy ⟨by omega, hh⟩
        exact def_go hw hk hn hL hnx hwait fuel _ _ _ ((hj.grant (nx := nx) hw hk hL (by omega)).next hw hk hn (fun _ => by omega)) h
theorem def_per (hw : ∀ x ∈ w, 1 ≤ x) (hk : k < w.length) (hn : 2 ≤ w.length) (hL : 1 ≤ (nth z k).most) (hS : SzOf ps z) (hs : ∀ p ∈ ps, 1 ≤ p.size) (hsort : ps.Pairwise fun a b => a.time ≤ b.time) : Per ps (defCh ps w) (goodDf ps w.length) k (Jdef ps w z k) where
  pick := fun ms sg r own oth hg hb hex hJ h0 => by
    have hwait : 0 ≤ nextW ps ms k := by
      apply Classical.byContradiction
      intro hneg
      obtain ⟨i, g1, g2, g3, g4⟩ := hex
      have := nextW_none (ps := ps) (ms := ms) (cls := (k : Int)) (by omega) g1 g4 g3
      rw [this] at g2; cases g2
    unfold defCh at h0 ⊢
    split at h0
    · simp at h0
    · rename_i hf
      rw [if_neg hf]
      dsimp only at h0 ⊢
      have hj := hJ.1
      rw [if_neg (by omega)] at hj
      have := def_go hw hk hn hL (nx := nextW ps ms) (fun d hd => nx_facts hS hs hsort d hd) hwait (defF w.length) sg.1 sg.2.1 sg.2.2 hj h0
      unfold Jdef
      rw [if_pos h0]
      exact ⟨this.1, fun _ => this.2⟩
  send := fun sg cur rest own oth n hc hl h1 h2 hJ => by
    obtain ⟨hj, hfl⟩ := hJ
    obtain ⟨hfl, hb⟩ := hfl hc
    rw [if_pos hc] at hj
    have hop : (if 0 ≤ (if rest - n = 0 then (-1 : Int) else cur) then rest - n else 0) = rest - n := by
      by_cases hz : rest - n = 0
      · rw [if_pos hz, if_neg (by omega), hz]
      · rw [if_neg hz, if_pos hc]
    refine ⟨?_, fun hh => ⟨?_, hb⟩⟩
    · rw [hop]
      obtain ⟨hd, v, a1, a2, a3⟩ := hj
      refine ⟨hd, v, ?_, ?_, fun e1 e2 => ?_⟩
      · by_cases hck : sg.1 = k
        · rw [if_pos hck] at a1 ⊢
          rw [if_pos (by omega)]; omega
        · rw [if_neg hck] at a1 ⊢
          rw [if_neg (by omega)]; omega
      · by_cases hck : sg.1 = k
        · rw [if_pos hck] at a2 ⊢
          rw [if_pos (by omega)]; omega
        · rw [if_neg hck] at a2 ⊢
          rw [if_neg (by omega)]; omega
      · have := a3 e1 e2
        split <;> omega
    · by_cases hz : rest - n = 0
      · rw [if_pos hz] at hh; omega
      · rw [if_neg hz]; exact hfl
  none := fun sg c c' r r' own oth h1 h2 hJ => by
    obtain ⟨hj, _⟩ := hJ
    rw [if_neg (by omega)] at hj
    exact ⟨by rw [if_neg (by omega)]; exact hj, fun h => by omega⟩
/-- where every run stands -/
def V0 (w : List Int) (z : List Sz) (c : Nat) (b : Bool) (d : List Int) (op : Int) : Prop := DD w.length z c b d ∧ (b = true → 1 ≤ (nth z c).most → nth d c + op ≤ (nth z c).most - 1 + nth w c)
def Vdef (ps : List Pkt) (w : List Int) (z : List Sz) (sg : Nat × Bool × List Int) (cur rest : Int) : Prop := V0 w z sg.1 sg.2.1 sg.2.2 (if 0 ≤ cur then rest else 0) ∧ (0 ≤ cur → cur < ps.length ∧ (nth ps cur.toNat).flow = sg.1 ∧ sg.2.1 = true ∧ 0 ≤ rest ∧ 1 ≤ (nth z sg.1).most)
theorem V0.grant (hw : ∀ x ∈ w, 1 ≤ x) {nx : Int → Int} {c : Nat} {b : Bool} {d : List Int} (h : V0 w z c b d 0) (h0 : 0 ≤ nx c) : V0 w z c true (M.grant nx w c b d) 0 := by
  obtain ⟨hd, h1⟩ := h
  have hcl : c < d.length := by rw [hd.2.1]; exact hd.1
  refine ⟨hd.grant hw h0, fun _ hm => ?_⟩
  rw [grant_self hcl]
  cases b with
  | true => rw [if_neg (by simp)]; exact h1 rfl hm
  | false =>
    rw [if_pos ⟨h0, rfl⟩]
    have := (hd.2.2 c hd.1).2 (by simp) hm
    omega
theorem def_vgo (hw : ∀ x ∈ w, 1 ≤ x) {nx : Int → Int} (hnx : ∀ d : Nat, 0 ≤ nx d → (nx d).toNat < ps.length ∧ (nth ps (nx d).toNat).flow = d ∧ 1 ≤ szOf ps (nx d) ∧ szOf ps (nx d) ≤ (nth z d).most) : ∀ (fuel c : Nat) (b : Bool) (d : List Int), V0 w z c b d 0 →
    V0 w z (defGo nx (szOf ps) w fuel c b d).2.1 (defGo nx (szOf ps) w fuel c b d).2.2.1 (defGo nx (szOf ps) w fuel c b d).2.2.2 (if 0 ≤ (defGo nx (szOf ps) w fuel c b d).1 then (nth ps (defGo nx (szOf ps) w fuel c b d).1.toNat).size else 0) ∧
    (0 ≤ (defGo nx (szOf ps) w fuel c b d).1 → (defGo nx (szOf ps) w fuel c b d).1 < ps.length ∧ (nth ps (defGo nx (szOf ps) w fuel c b d).1.toNat).flow = (defGo nx (szOf ps) w fuel c b d).2.1 ∧ (defGo nx (szOf ps) w fuel c b d).2.2.1 = true ∧ 0 ≤ (nth ps (defGo nx (szOf ps) w fuel c b d).1.toNat).size ∧ 1 ≤ (nth z (defGo nx (szOf ps) w fuel c b d).2.1).most)
  | 0, c, b, d, hv => ⟨by simpa [defGo] using hv, fun h => by simp [defGo] at h⟩
  | fuel + 1, c, b, d, hv => by
    by_cases hy : 0 ≤ nx c ∧ szOf ps (nx c) ≤ nth (M.grant nx w c b d) c
    · have e0 : defGo nx (szOf ps) w (fuel + 1) c b d = (nx c, (c, true, (M.grant nx w c b d).set c (nth (M.grant nx w c b d) c - szOf ps (nx c)))) := by simp only [defGo]; rw [if_pos hy]
      rw [e0]
      obtain ⟨f1, f2, f3, f4⟩ := hnx c hy.1
      obtain ⟨g1, g2⟩ := hv.grant (nx := nx) hw hy.1
      have hcl : c < (M.grant nx w c b d).length := by rw [g1.2.1]; exact g1.1
      dsimp only
      rw [if_pos hy.1]
      refine ⟨⟨g1.pick hy.2, fun _ hm => ?_⟩, fun _ => ⟨by omega, f2, rfl, ?_, by omega⟩⟩
      · rw [nth_set_self hcl]
        have := g2 rfl hm
        have e : szOf ps (nx c) = (nth ps (nx c).toNat).size := rfl
        omega
      · have e : szOf ps (nx c) = (nth ps (nx c).toNat).size := rfl
        omega
    · have e0 : defGo nx (szOf ps) w (fuel + 1) c b d = defGo nx (szOf ps) w fuel ((c + 1) % w.length) false (drop0 nx c (M.grant nx w c b d)) := by simp only [defGo]; rw [if_neg hy]
      rw [e0]
      by_cases h0 : nx c < 0
      · have e1 : M.grant nx w c b d = d := by unfold M.grant; rw [if_neg (by omega)]
        have e2 : drop0 nx c d = d.set c 0 := if_pos h0
        rw [e1, e2]
        have hcl : c < d.length := by rw [hv.1.2.1]; exact hv.1.1
        have hd2 : DD w.length z c b (d.set c 0) := by
          refine ⟨hv.1.1, by rw [List.length_set]; exact hv.1.2.1, fun i hi => ?_⟩
          by_cases e : i = c
          · subst e
            rw [nth_set_self hcl]
            exact ⟨Int.le_refl _, fun _ hm => by omega⟩
          · rw [nth_set_ne (Ne.symm e)]; exact hv.1.2.2 i hi
        exact def_vgo hw hnx fuel _ _ _ ⟨hd2.next (fun hm => by rw [nth_set_self hcl]; omega), fun h => by cases h⟩
      · have e2 : drop0 nx c (M.grant nx w c b d) = M.grant nx w c b d := if_neg h0
        rw [e2]
        obtain ⟨f1, f2, f3, f4⟩ := hnx c (by omega)
        have hlt : ¬ szOf ps (nx c) ≤ nth (M.grant nx w c b d) c := fun hh => hy ⟨by omega, hh⟩
        exact def_vgo hw hnx fuel _ _ _ ⟨(hv.grant (nx := nx) hw (by omega)).1.next (fun _ => by omega), fun h => by cases h⟩
theorem def_vis (hw : ∀ x ∈ w, 1 ≤ x) (hS : SzOf ps z) (hs : ∀ p ∈ ps, 1 ≤ p.size) (hsort : ps.Pairwise fun a b => a.time ≤ b.time) : Vis ps (defCh ps w) (goodDf ps w.length) (Vdef ps w z) where
  pick := fun ms sg r hg hb hV h0 => by
    have hv := hV.1
    rw [if_neg (by omega)] at hv
    unfold defCh at h0 ⊢
    split at h0
    · simp at h0
    · rename_i hf
      rw [if_neg hf]
      dsimp only at h0 ⊢
      exact def_vgo hw (nx := nextW ps ms) (fun d hd => nx_facts hS hs hsort d hd) (defF w.length) sg.1 sg.2.1 sg.2.2 hv
  idle := fun ms sg r r' hg hb hV h0 => by
    have hv := hV.1
    rw [if_neg (by omega)] at hv
    unfold defCh at h0 ⊢
    split
    · exact ⟨by rw [if_neg (by simp)]; exact hv, fun h => by simp at h⟩
    · rename_i hf
      rw [if_neg hf] at h0
      dsimp only at h0 ⊢
      have := (def_vgo hw (nx := nextW ps ms) (fun d hd => nx_facts hS hs hsort d hd) (defF w.length) sg.1 sg.2.1 sg.2.2 hv).1
      rw [if_neg (by omega)] at this
      exact ⟨by rw [if_neg (by omega)]; exact this, fun h => by omega⟩
  send := fun sg cur rest n hc hl h1 h2 hV => by
    obtain ⟨⟨hd, hb⟩, hcur⟩ := hV
    obtain ⟨a, b, c, d, e⟩ := hcur hc
    rw [if_pos hc] at hb
    have hop : (if 0 ≤ (if rest - n = 0 then (-1 : Int) else cur) then rest - n else 0) = rest - n := by
      by_cases hz : rest - n = 0
      · rw [if_pos hz, if_neg (by omega), hz]
      · rw [if_neg hz, if_pos hc]
    refine ⟨⟨hd, fun hbt hm => ?_⟩, fun hh => ?_⟩
    · rw [hop]
      have := hb hbt hm
      omega
    · by_cases hz : rest - n = 0
      · rw [if_pos hz] at hh; omega
      · rw [if_neg hz]; exact ⟨a, b, c, by omega, e⟩
  none := fun sg c c' r r' h1 h2 hV => by
    obtain ⟨hv, _⟩ := hV
    rw [if_neg (by omega)] at hv
    exact ⟨by rw [if_neg (by omega)]; exact hv, fun h => by omega⟩
theorem vdef_start (hw : ∀ x ∈ w, 1 ≤ x) (hk : k < w.length) (hL : 1 ≤ (nth z k).most) {sg : Nat × Bool × List Int} {cur rest : Int} (hV : Vdef ps w z sg cur rest) : Jdef ps w z k sg cur rest 0 0 := by
  obtain ⟨⟨hd, hb⟩, hcur⟩ := hV
  have hop : 0 ≤ (if 0 ≤ cur then rest else 0) := by
    split
    · rename_i h; exact (hcur h).2.2.2.1
    · omega
  have hop1 : (if 0 ≤ cur then rest else 0) ≠ 0 → sg.2.1 = true ∧ 1 ≤ (nth z sg.1).most := fun h => by
    by_cases hc : 0 ≤ cur
    · exact ⟨(hcur hc).2.2.1, (hcur hc).2.2.2.2⟩
    · rw [if_neg hc] at h; exact absurd rfl h
  have hwk := hw _ (nth_mem hk)
  refine ⟨?_, fun h => ⟨(hcur h).2.1, (hcur h).2.2.1⟩⟩
  generalize (if 0 ≤ cur then rest else 0) = op at hb hop hop1 ⊢
  refine ⟨hd, 0, ?_, ?_, fun _ _ => ?_⟩
  · have key : ∀ i, i < w.length → potF w z k sg.1 sg.2.1 sg.2.2 i + (if i = sg.1 ∧ sg.1 ≠ k then op else 0) ≤ xF k w z i + zF k z i := fun i hi => by
      have hwi := hw _ (nth_mem hi)
      have hdi := hd.2.2 i hi
      unfold potF xF zF
      by_cases hh : i ≠ k ∧ 1 ≤ (nth z i).most
      · rw [if_pos hh, if_pos hh, if_pos hh]
        by_cases e : i = sg.1 ∧ sg.2.1 = true
        · obtain ⟨e1, e2⟩ := e
          have := hb e2 (by rw [← e1]; exact hh.2)
          rw [e2, ← e1, pend_self hh.1, if_neg (by simp), if_pos ⟨rfl, hh.1⟩]
          rw [← e1] at this
          omega
        · have h1 := hdi.2 e hh.2
          have h2 : (if i = sg.1 ∧ sg.1 ≠ k then op else 0) = 0 := by
            by_cases h3 : i = sg.1 ∧ sg.1 ≠ k
            · rw [if_pos h3]
              apply Classical.byContradiction
              intro hn
              exact e ⟨h3.1, (hop1 hn).1⟩
            · rw [if_neg h3]
          rw [h2]
          split <;> omega
      · rw [if_neg hh, if_neg hh, if_neg hh]
        by_cases h3 : i = sg.1 ∧ sg.1 ≠ k
        · rw [if_pos h3]
          by_cases hn : op = 0
          · omega
          · exact absurd ⟨by omega, by rw [h3.1]; exact (hop1 hn).2⟩ hh
        · rw [if_neg h3]; omega
    have h1 := sumF_le key
    rw [sumF_add, sumF_add, ← xSum_eq, ← zSum_eq] at h1
    have h2 : sumF (fun i => if i = sg.1 ∧ sg.1 ≠ k then op else 0) w.length = (if sg.1 = k then 0 else op) := by
      have h3 : ∀ n, sumF (fun _ => (0 : Int)) n = 0 := fun n => by
        induction n with
        | zero => rfl
        | succ n ih => simp only [sumF, ih]; rfl
      rw [sumF_change (f := fun _ => 0) hd.1 (fun i hi hne => if_neg (fun hh => hne hh.1)), h3]
      by_cases h4 : sg.1 = k
      · rw [if_pos h4, if_neg (fun hh => hh.2 h4)]; rfl
      · rw [if_neg h4, if_pos ⟨rfl, h4⟩]; omega
    rw [h2] at h1
    show (0 : Int) + (if sg.1 = k then 0 else op) + _ ≤ (((0 : Nat) : Int) + 1) * _ + _
    simp; omega
  · have hdk := (hd.2.2 k hk).1
    simp
    split <;> omega
  · simp; omega
/-- while a class is backlogged, the others are sent at most what is said -/
theorem def_said (hw : ∀ x ∈ w, 1 ≤ x ∧ x ≤ 6000) (hk : k < w.length) (hn : 2 ≤ w.length) (hS : SzOf ps z) (hsort : ps.Pairwise fun a b => a.time ≤ b.time) (hsz : ∀ p ∈ ps, 1 ≤ p.size ∧ p.size ≤ 1500) (hfl : ∀ p ∈ ps, 0 ≤ p.flow ∧ p.flow < w.length) (hL : 1 ≤ (nth z k).most) {cap : Int} (hcap : 0 ≤ cap) {m x y : Nat} (hxy : x ≤ y) (hy : y ≤ m)
    (hback : ∀ u, x < u → u ≤ y → nth (nth (mrun ps (defCh ps w) cap w.length m (def0 w.length)).sent k) u < pbytes k (u : Int) ps) :
    0 ≤ nth (nth (mrun ps (defCh ps w) cap w.length m (def0 w.length)).sent k) y - nth (nth (mrun ps (defCh ps w) cap w.length m (def0 w.length)).sent k) x ∧
    (colSum (mrun ps (defCh ps w) cap w.length m (def0 w.length)).sent y - colSum (mrun ps (defCh ps w) cap w.length m (def0 w.length)).sent x) - (nth (nth (mrun ps (defCh ps w) cap w.length m (def0 w.length)).sent k) y - nth (nth (mrun ps (defCh ps w) cap w.length m (def0 w.length)).sent k) x) ≤
      ((nth (nth (mrun ps (defCh ps w) cap w.length m (def0 w.length)).sent k) y - nth (nth (mrun ps (defCh ps w) cap w.length m (def0 w.length)).sent k) x + (nth z k).most - 1) / nth w k + 1) * xSum k w z w.length + zSum k z w.length := by
  have hs : ∀ p ∈ ps, 1 ≤ p.size := fun p hp => (hsz p hp).1
  have hw1 : ∀ x ∈ w, 1 ≤ x := fun x h => (hw x h).1
  have hn0 : 0 < w.length := by omega
  have hg := def_fair hw hsz hfl hsort
  have hb := def_busy hw hsz hfl hsort
  have hst := def_start (ps := ps) hn0 w.length
  have h0 : Vdef ps w z (def0 w.length) (-1) 0 := by
    refine ⟨⟨⟨hn0, by simp [def0], fun i hi => ?_⟩, fun h => by cases h⟩, fun h => by omega⟩
    unfold def0; dsimp only; rw [nth_replicate hi]
    exact ⟨Int.le_refl _, fun _ _ => by omega⟩
  have hv := vis_run hg (def_vis hw1 hS hs hsort) hs hfl hcap hst h0
  refine shares_at (O := fun own => ((own + (nth z k).most - 1) / nth w k + 1) * xSum k w z w.length + zSum k z w.length) hg hb hs hfl hk hcap hst (fun {x y} hxy hback hown => ?_) hxy hy hback
  have hj := per_run hg hb (def_per hw1 hk hn hL hS hs hsort) hs hfl hk hcap hst (x := x) (vdef_start hw1 hk hL (hv x)) (y - x) (fun u h1 h2 => hback u h1 (by omega))
  rw [show x + (y - x) = y by omega] at hj
  have hvy := (hv y).2
  refine hj.1.end_ hw1 hk hL (by omega) ?_ (fun hbf => ?_)
  · split
    · rename_i h; exact (hvy h).2.2.2.1
    · omega
  · by_cases hc : 0 ≤ (mrun ps (defCh ps w) cap w.length y (def0 w.length)).cur
    · have := (hvy hc).2.2.1
      rw [this] at hbf; cases hbf
    · rw [if_neg hc]
end
end Go.Proofs.Ytcfnckccmkjjlaa.M

/- Weighted and deficit round robin: the curve of a class is what it is served while it is backlogged, plain. No condition. -/
namespace Go.Proofs.Ytcfnckccmkjjlaa.M
open Go Go.Proofs.Ytcfnckccmkjjlaa.K

/-- what a law over a scheduler wants of a class's curve: its form, and that it is less than what is sent where the others take at most O -/
def CurveFor (x : Cv × Int) (cap : Int) (O : Int → Int) (G : Nat → Int) (s p : Nat) (q : Int) : Prop :=
  x = (⟨fvals G (s + p), p, q⟩, 0) ∧ FC G s p q ∧ G 0 = 0 ∧ ∀ (t : Nat) (own : Int), 0 ≤ own → cap * (t : Int) ≤ own + O own → G t ≤ own
theorem leastY_le {H : Nat → Bool} {b y : Nat} (hb : H b = true) (hy : H y = true) : leastY H b ≤ y := by
  obtain ⟨_, _, h3⟩ := leastY_is hb
  apply Classical.byContradiction
  intro hn
  rw [h3 y (by omega)] at hy; cases hy
theorem def_err {cap k : Int} {w : List Int} {z : List Sz} (h0 : chkW 6000 cap k w z = 0) (h : (defC cap k w z).2 ≠ 0) : (defC cap k w z).2 = 3 ∨ ((defC cap k w z).2 = 5 ∧ (nth z k.toNat).most < 1) := by
  by_cases h1 : (nth z k.toNat).most < 1
  · right
    have : defC cap k w z = (zcv, 5) := by unfold defC; rw [if_neg (fun h => h h0), if_pos h1]
    rw [this]; exact ⟨rfl, h1⟩
  · left
    obtain ⟨cn, kn, m, q, l, x, y, rfl, rfl, c1, k1, zl, hwl, hw, hz, hq, hl, q1, l1, hx, hy, x1, y1, hm, m1, hcase⟩ := def_cases h0 h1
    rcases hcase with ⟨_, hd⟩ | ⟨s, p, mm, hro, hd⟩
    · rw [hd]
    · rw [hd] at h ⊢
      split at h
      · rename_i hf; rw [if_pos hf]
      · rename_i hf
        rw [if_neg hf]
        unfold madeR at h ⊢
        split at h
        · exact absurd rfl h
        · rename_i hv; rw [if_neg hv]
theorem def_for {cap k : Int} {w : List Int} {z : List Sz} (h : (defC cap k w z).2 = 0) : chkW 6000 cap k w z = 0 ∧ 1 ≤ (nth z k.toNat).most ∧ ∃ (G : Nat → Int) (s p : Nat) (q : Int), CurveFor (defC cap k w z) cap (fun own => ((own + (nth z k.toNat).most - 1) / nth w k.toNat + 1) * xSum k w z w.length + zSum k z w.length) G s p q := by
  by_cases h0 : chkW 6000 cap k w z = 0
  · by_cases h1 : (nth z k.toNat).most < 1
    · have : defC cap k w z = (zcv, 5) := by unfold defC; rw [if_neg (fun h => h h0), if_pos h1]
      rw [this] at h; cases h
    · refine ⟨h0, by omega, ?_⟩
      obtain ⟨cn, kn, m, q, l, x, y, rfl, rfl, c1, k1, zl, hwl, hw, hz, hq, hl, q1, l1, hx, hy, x1, y1, hm, m1, hcase⟩ := def_cases h0 h1
      rcases hcase with ⟨_, hd⟩ | ⟨s, p, mm, hro, hd⟩
      · rw [hd] at h; cases h
      · have hs1 := hro.s1
        have hsx := hro.sx
        have hp := hro.p1
        by_cases hfr : 400 < fromD (cn : Int) (s : Int) q l y
        · rw [hd, if_pos hfr] at h; cases h
        · rw [if_neg hfr] at hd
          obtain ⟨b1, b2, b3⟩ := start_bound (cap := (cn : Int)) (s := (s : Int)) (q := q) (l := l) (z := y) (by omega) (by omega) hs1.1 l1.1 y1.1
          have hbm := def_build (cap := (cn : Int)) (s := (s : Int)) (q := q) (l := l) (z := y) (p := p) (m := mm) (by omega) (by omega) hs1.1 l1.1 y1.1 (by omega) hro.hmm (by omega)
          rw [if_neg hfr, ← hro.hinc] at hbm
          rw [← hbm] at hd
          have hi : 0 ≤ (cn : Int) * p / s * q := by rw [hro.hinc]; exact Int.mul_nonneg (by omega) (by omega)
          have hb : ∀ t : Nat, t ≤ 1000 → 0 ≤ defFn cn s q l y t ∧ defFn cn s q l y t < INF := fun t ht => by
            have h1 := defFn_bound (cap := (cn : Int)) (s := (s : Int)) (q := q) (l := l) (z := y) (by omega) (by omega) hs1.1 l1.1 y1.1 t
            have h2 := mulB (a := (cn : Int)) (b := (t : Int)) (A := 4000) (B := 1000) (by omega) (by omega)
            unfold INF; omega
          have hg := defFn_grows (cap := (cn : Int)) (s := (s : Int)) (q := q) (l := l) (z := y) (S := (startD (cn : Int) (s : Int) q l y).toNat) (by omega) (by omega) hs1.1 l1.1 y1.1 hro.hmm (by omega)
          rw [← hro.hinc] at hg
          rcases build_fc (by omega) hi hg (fun t => defFn_mono (by omega) (by omega) hs1.1 l1.1 y1.1 t) (hb 0 (by omega)).1 (fun t ht => (hb t (by omega)).2) with e | ⟨s', p', q', e, hfc⟩
          · rw [hd, e] at h; cases h
          · refine ⟨defFn cn s q l y, s', p', q', by rw [hd, e], hfc, defFn_zero (by omega) (by omega) hs1.1 l1.1 y1.1 (by omega), fun t own h0 h2 => ?_⟩
            dsimp only at h2
            rw [Int.toNat_natCast, ← hl, ← hq, ← hx, ← hy] at h2
            obtain ⟨v, rfl⟩ := Int.eq_ofNat_of_zero_le h0
            have hd0 : 0 ≤ ((v : Int) + l - 1) / q := Int.ediv_nonneg (by omega) (by omega)
            have hle : (((v : Int) + l - 1) / q + 1) * x ≤ (((v : Int) + l - 1) / q + 1) * ((s : Int) - q) := Int.mul_le_mul_of_nonneg_left (by omega) (by omega)
            have hv : defH cn s q l y t v = true := by
              unfold defH allD
              rw [Int.mul_comm ((s : Int) - q)]
              exact decide_eq_true (by omega)
            have := leastY_le (defH_bound (show 0 < q by omega) hs1.1 l1.1 y1.1 t (show (0 : Int) ≤ cn by omega)) hv
            show ((leastY (defH cn s q l y t) ((cn : Int) * t).toNat : Nat) : Int) ≤ (v : Int)
            omega
  · have : defC cap k w z = (zcv, chkW 6000 cap k w z) := if_pos h0
    rw [this] at h
    exact absurd h h0
section
variable {σ : Type} {ps : List Pkt} {ch : MS → σ → Int × Nat × σ} {good : MS → σ → Prop} {classes k : Nat}
/-- all that a law says of a class: service while it is backlogged, from its arrivals, and its waits -/
theorem serve_all (hg : Fair ps ch good (sameFlow ps)) (hb : Busy ps ch good) (hs : ∀ p ∈ ps, 1 ≤ p.size) (hfl : ∀ p ∈ ps, 0 ≤ p.flow ∧ p.flow < classes) (hsort : ps.Pairwise fun a b => a.time ≤ b.time) (h0 : ∀ p ∈ ps, 0 ≤ p.time) (hk : k < classes) {cap : Int} (hcap : 0 ≤ cap) {sg : σ} (hst : good (start ps classes sg).ms sg) {m : Nat} {O : Int → Int} {x : Cv × Int} {G : Nat → Int} {s p : Nat} {q : Int} (hC : CurveFor x cap O G s p q)
    (hO : ∀ {x y : Nat}, x ≤ y → y ≤ m → (∀ u, x < u → u ≤ y → nth (nth (mrun ps ch cap classes m sg).sent k) u < pbytes k (u : Int) ps) →
      0 ≤ nth (nth (mrun ps ch cap classes m sg).sent k) y - nth (nth (mrun ps ch cap classes m sg).sent k) x ∧ (colSum (mrun ps ch cap classes m sg).sent y - colSum (mrun ps ch cap classes m sg).sent x) - (nth (nth (mrun ps ch cap classes m sg).sent k) y - nth (nth (mrun ps ch cap classes m sg).sent k) x) ≤ O (nth (nth (mrun ps ch cap classes m sg).sent k) y - nth (nth (mrun ps ch cap classes m sg).sent k) x)) :
    (∀ a b : Nat, a < b → b ≤ m → (∀ u : Nat, a < u → u ≤ b → nth (nth (mrun ps ch cap classes m sg).sent k) u < pbytes k (u : Int) ps) → G (b - a) ≤ nth (nth (mrun ps ch cap classes m sg).sent k) b - nth (nth (mrun ps ch cap classes m sg).sent k) a) ∧
    (∀ t : Nat, t ≤ m → ∃ a : Nat, a ≤ t ∧ pbytes k (a : Int) ps + G (t - a) ≤ nth (nth (mrun ps ch cap classes m sg).sent k) t) ∧
    (∀ (F : Nat → Int) (d n T : Nat), (∀ x t : Nat, x ≤ t → pbytes k (t : Int) ps - pbytes k (x : Int) ps ≤ F (t - x)) → (∀ u, F u ≤ G (u + d)) → n < ps.length → (nth ps n).flow = k → (nth ps n).time = T → T + d < m → 0 ≤ nth (mrun ps ch cap classes m sg).done n ∧ nth (mrun ps ch cap classes m sg).done n ≤ (T : Int) + d) := by
  obtain ⟨_, hfc, hG0, hle⟩ := hC
  have hsz : ∀ p ∈ ps, 0 ≤ p.size := fun p hp => by have := hs p hp; omega
  have hbusy : ∀ a b : Nat, a < b → b ≤ m → (∀ u : Nat, a < u → u ≤ b → nth (nth (mrun ps ch cap classes m sg).sent k) u < pbytes k (u : Int) ps) → G (b - a) ≤ nth (nth (mrun ps ch cap classes m sg).sent k) b - nth (nth (mrun ps ch cap classes m sg).sent k) a := fun a b h1 h2 h3 => by
    obtain ⟨o1, o2⟩ := hO (by omega) h2 h3
    have h4 := busy_all hg hb hs hfl hk hcap hst (by omega : a ≤ b) h2 h3
    exact hle (b - a) _ o1 (by omega)
  have hserv := serves_of (a := fun u => pbytes k (u : Int) ps) (v := fun u => nth (nth (mrun ps ch cap classes m sg).sent k) u) (f := G) (m := m)
    (by have := pbytes_zero (flow := (k : Int)) ps h0
        have h1 := (class_le hg hb hs hfl hk hcap hst (Nat.zero_le m) h0).2
        show pbytes k ((0 : Nat) : Int) ps ≤ _
        rw [show ((0 : Nat) : Int) = 0 from rfl, this]; exact h1)
    (fun u hu => (class_le hg hb hs hfl hk hcap hst hu h0).1) (by omega) hbusy
  refine ⟨hbusy, hserv, fun F d n T hF hd hn hf hT hTm => ?_⟩
  have h1 := wait_bound (a := fun u => pbytes k (u : Int) ps) (v := fun u => nth (nth (mrun ps ch cap classes m sg).sent k) u) (F := F) (G := G) (m := m) (T := T) (d := d) hF (fun x t hxt => pbytes_mono (by omega) ps hsz) hfc.nonneg hserv hd (by omega)
  apply Classical.byContradiction
  intro hn2
  have h2 := late_less hg hb hs hfl hsort hk hcap hst (m := m) (n := n) (T := T) (t := T + d) hn hf hT hTm (by omega)
  have h3 : pbytes k ((T : Int) + 1) ps ≤ nth (nth (mrun ps ch cap classes m sg).sent k) (T + d + 1) := h1
  omega
end
end Go.Proofs.Ytcfnckccmkjjlaa.M

/- A trial. No condition. -/
set_option linter.unusedSimpArgs false
set_option linter.unusedVariables false
namespace Go.Proofs.Ytcfnckccmkjjlaa
open Go Go.RowKit Go.Proofs.Ytcfnckccmkjjlaa.K Go.Proofs.Ytcfnckccmkjjlaa.M

theorem Ints_V {R : Ro} {a b : Option Addr} {ca cb : Nat} {xs ys : List Int} (ha : RS R 1 encI a xs) (hb : RS R 1 encI b ys) :
    FnV Try.prog 40 [.slice a xs.length ca, .slice b ys.length cb] R (.bool (decide (xs = ys))) := by
  have hla := ha.len
  have hlb := hb.len
  refine Fn.toV (fun w0 E => ?_)
  refine Fn.enter (n := 26) Try.func40 rfl rfl (Nat.le_of_ble_eq_true rfl) rfl ?_
  refine W.seq ?_
  refine W.region _ ?_
  refine WG.run tab_ok 1 rfl ?_
  refine WG.nil ?_
  refine WE.nxt ?_
  refine W.seq ?_
  refine W.seq ?_
  refine W.region _ ?_
  refine WG.run tab_ok 5 rfl ?_
  refine WG.nil ?_
  refine WE.nxt ?_
  refine W.condN rfl (fun hc0 => ?_) (fun hc0 => ?_)
  · try dsimp only at hc0
    refine W.seq ?_
    refine W.region _ ?_
    refine WG.run tab_ok 1 rfl ?_
    refine WG.nil ?_
    refine WE.nxt ?_
    refine W.ret ?_
    refine WE.then_ret ?_
    refine WE.retF tab_ok [_] rfl ⟨rfl, trivial⟩ (RLe.refl _) ?_
    exact ⟨congrArg Value.bool (by symm; apply decide_eq_false; rintro rfl; exact hc0 rfl), rfl⟩
  · try dsimp only at hc0
    refine W.skip ?_
    refine WE.nxt ?_
    refine W.seq ?_
    refine W.seq ?_
    refine W.region _ ?_
    refine WG.run tab_ok 1 rfl ?_
    refine WG.nil ?_
    refine WE.nxt ?_
    refine W.block ?_
    refine W.loop (β := Nat) (fun k => k ≤ xs.length ∧ ∀ i, i < k → nth xs i = nth ys i) (fun k => [(0, true, .slice a xs.length ca), (1, true, .slice b ys.length cb), (5, true, .int .i64 k)]) (fun _ => R) (fun _ => E) (fun k => xs.length - k) 0 ⟨Nat.zero_le _, fun i hi => absurd hi (Nat.not_lt_zero i)⟩ ⟨rfl, rfl, rfl, rfl⟩ (RLe.refl _) (List.Sublist.refl _) ?_
    intro st hst
    obtain ⟨hk, hpre⟩ := hst
    refine W.seq ?_
    refine W.seq ?_
    refine W.region _ ?_
    refine WG.run tab_ok 4 rfl ?_
    refine WG.nil ?_
    refine WE.nxt ?_
    refine W.condD rfl (fun hc1 => ?_) (fun hc1 => ?_)
    · try dsimp only at hc1
      refine W.skip ?_
      refine WE.nxt ?_
      refine W.seq ?_
      refine W.block ?_
      refine W.seq ?_
      refine W.regionQ _ mixed (by kernel_rfl) ?_
      refine WG.run tab_ok 2 rfl ?_
      refine WG.y rfl rfl (by decide) (Yl.indexN tab_ok rfl rfl rfl rfl rfl rfl (fun _ => rfl) (by intro _; (try dsimp only) <;> omega) (by intro _; first | exact fun _ _ _ _ => rfl | exact RS.has (by assumption) | exact fun _ _ _ _ => (by assumption) | exact HasMem.ownD 0 rfl | exact HasMem.ownD 1 rfl | exact HasMem.ownD 2 rfl | exact HasMem.ownD 3 rfl | exact HasMem.ownD 4 rfl | exact HasMem.ownD 5 rfl | exact HasMem.ownD 6 rfl | exact HasMem.ownD 7 rfl)) ?_
      refine' WG.y rfl rfl (by decide) (Yl.load1 tab_ok rfl rfl rfl (fun _ => rfl) ?r1 rfl ?h1) ?_
      case r1 => (first | (apply RS.rdD; assumption; ((try dsimp only) <;> omega)) | exact Rd.slD 0 rfl (by (try dsimp only) <;> omega) | exact Rd.slD 1 rfl (by (try dsimp only) <;> omega) | exact Rd.slD 2 rfl (by (try dsimp only) <;> omega) | exact Rd.slD 3 rfl (by (try dsimp only) <;> omega) | exact Rd.slD 4 rfl (by (try dsimp only) <;> omega) | exact Rd.slD 5 rfl (by (try dsimp only) <;> omega) | exact Rd.slD 6 rfl (by (try dsimp only) <;> omega) | exact Rd.slD 7 rfl (by (try dsimp only) <;> omega))
      case h1 => rfl
      refine WG.run tab_ok 2 rfl ?_
      refine WG.y rfl rfl (by decide) (Yl.indexN tab_ok rfl rfl rfl rfl rfl rfl (fun _ => rfl) (by intro _; (try dsimp only) <;> omega) (by intro _; first | exact fun _ _ _ _ => rfl | exact RS.has (by assumption) | exact fun _ _ _ _ => (by assumption) | exact HasMem.ownD 0 rfl | exact HasMem.ownD 1 rfl | exact HasMem.ownD 2 rfl | exact HasMem.ownD 3 rfl | exact HasMem.ownD 4 rfl | exact HasMem.ownD 5 rfl | exact HasMem.ownD 6 rfl | exact HasMem.ownD 7 rfl)) ?_
      refine' WG.y rfl rfl (by decide) (Yl.load1 tab_ok rfl rfl rfl (fun _ => rfl) ?r2 rfl ?h2) ?_
      case r2 => (first | (apply RS.rdD; assumption; ((try dsimp only) <;> omega)) | exact Rd.slD 0 rfl (by (try dsimp only) <;> omega) | exact Rd.slD 1 rfl (by (try dsimp only) <;> omega) | exact Rd.slD 2 rfl (by (try dsimp only) <;> omega) | exact Rd.slD 3 rfl (by (try dsimp only) <;> omega) | exact Rd.slD 4 rfl (by (try dsimp only) <;> omega) | exact Rd.slD 5 rfl (by (try dsimp only) <;> omega) | exact Rd.slD 6 rfl (by (try dsimp only) <;> omega) | exact Rd.slD 7 rfl (by (try dsimp only) <;> omega))
      case h2 => rfl
      refine WG.run tab_ok 1 rfl ?_
      refine WG.nil ?_
      refine WE.nxt ?_
      refine W.condN rfl (fun hc2 => ?_) (fun hc2 => ?_)
      · try dsimp only at hc2
        refine W.seq ?_
        refine W.region _ ?_
        refine WG.run tab_ok 1 rfl ?_
        refine WG.nil ?_
        refine WE.nxt ?_
        refine W.ret ?_
        refine WE.blk_ret ?_
        refine WE.then_ret ?_
        refine WE.then_ret ?_
        refine WE.blk_ret ?_
        refine WE.then_ret ?_
        refine WE.retF tab_ok [_] rfl ⟨rfl, trivial⟩ (RLe.refl _) ?_
        exact ⟨congrArg Value.bool (by symm; apply decide_eq_false; rintro rfl; exact hc2 rfl), rfl⟩
      · try dsimp only at hc2
        refine W.skip ?_
        refine WE.blk _ ?_
        refine WE.nxt ?_
        refine W.region _ ?_
        refine WG.run tab_ok 1 rfl ?_
        refine WG.y rfl rfl (by decide) (Yl.add rfl rfl rfl (fun _ => rfl) (by intro _; constructor <;> (try dsimp only) <;> omega)) ?_
        refine WG.run tab_ok 1 rfl ?_
        refine WG.nil ?_
        refine WE.again (st + 1) ⟨by omega, fun i hi => ?_⟩ (by omega) ⟨rfl, rfl, rfl, rfl⟩ (RLe.refl _) (List.Sublist.refl _)
        rcases Nat.lt_or_ge i st with h | h
        · exact hpre i h
        · obtain rfl : i = st := by omega
          exact hc2
    · try dsimp only at hc1
      refine W.exit ?_
      refine WE.then_exit ?_
      refine WE.then_exit ?_
      refine WE.blk_exit ?_
      refine WE.nxt ?_
      refine W.seq ?_
      refine W.region _ ?_
      refine WG.run tab_ok 1 rfl ?_
      refine WG.nil ?_
      refine WE.nxt ?_
      refine W.ret ?_
      refine WE.retF tab_ok [_] rfl ⟨rfl, trivial⟩ (RLe.refl _) ?_
      exact ⟨congrArg Value.bool (by symm; apply decide_eq_true; exact nth_ext (by omega) (fun i hi => hpre i (by omega))), rfl⟩

end Go.Proofs.Ytcfnckccmkjjlaa

/- A trial. No condition. -/
set_option linter.unusedSimpArgs false
set_option linter.unusedVariables false
namespace Go.Proofs.Ytcfnckccmkjjlaa
open Go Go.RowKit Go.Proofs.Ytcfnckccmkjjlaa.K Go.Proofs.Ytcfnckccmkjjlaa.M

theorem tmod_gt (x : Int) {n : Int} (h : 0 < n) : -n < x.tmod n := by
  rcases Int.le_total 0 x with h0 | h0
  · have := Int.tmod_nonneg n h0; omega
  · have h1 := Int.neg_tmod (a := x) (b := n)
    have h2 := Int.tmod_lt_of_pos (-x) h
    omega
theorem mod_pos {x n : Int} (h : 1 ≤ n) (hc : ¬ x.tmod n < 0) : x.tmod n = x % n := by
  rw [Int.tmod_eq_emod] at hc ⊢
  split at hc
  · rename_i h1; rw [if_pos h1]; omega
  · rename_i h1
    rw [if_neg h1]
    have := Int.emod_lt_of_pos x (show 0 < n by omega)
    have h2 : (n.natAbs : Int) = n := by omega
    omega
theorem mod_neg {x n : Int} (h : 1 ≤ n) (hc : x.tmod n < 0) : x.tmod n + n = x % n := by
  rw [Int.tmod_eq_emod] at hc ⊢
  split at hc
  · rename_i h1
    have := Int.emod_nonneg x (show n ≠ 0 by omega)
    omega
  · rename_i h1; rw [if_neg h1]
    have h2 : (n.natAbs : Int) = n := by omega
    omega
theorem src_end {b : Nat} {a : Option Addr} {cp : Nat} {xs : List Int} {c : Nat} (h : xs.length ≤ c) : srcE b a cp xs c = srcE b a cp xs (c + 1) := by
  unfold srcE
  rw [show min c xs.length = min (c + 1) xs.length by omega]
theorem src_next {b : Nat} {a : Option Addr} {cp : Nat} {xs : List Int} {c : Nat} (h : c < xs.length) : Ent.blk b [.slice a xs.length cp, .int .i64 (((min c xs.length : Nat) : Int) + 1)] = srcE b a cp xs (c + 1) := by
  unfold srcE
  rw [show ((min c xs.length : Nat) : Int) + 1 = ((min (c + 1) xs.length : Nat) : Int) by omega]

theorem Mod_V {R : Ro} {x n : Int} (hn : InR n) : FnV Try.prog 58 [.int .i64 x, .int .i64 n] R (.int .i64 (mod x n)) := by
  refine Fn.toV (fun w0 E => ?_)
  refine Fn.enter (n := 16) Try.func58 rfl rfl (Nat.le_of_ble_eq_true rfl) rfl ?_
  refine W.seq ?_
  refine W.region _ ?_
  refine WG.run tab_ok 1 rfl ?_
  refine WG.nil ?_
  refine WE.nxt ?_
  refine W.seq ?_
  refine W.seq ?_
  refine W.region _ ?_
  refine WG.run tab_ok 2 rfl ?_
  refine WG.nil ?_
  refine WE.nxt ?_
  refine W.condD rfl (fun hc0 => ?_) (fun hc0 => ?_)
  · try dsimp only at hc0
    refine W.seq ?_
    refine W.region _ ?_
    refine WG.run tab_ok 1 rfl ?_
    refine WG.nil ?_
    refine WE.nxt ?_
    refine W.ret ?_
    refine WE.then_ret ?_
    refine WE.retF tab_ok [_] rfl ⟨rfl, trivial⟩ (RLe.refl _) ?_
    exact ⟨by unfold mod; rw [if_pos hc0]; rfl, rfl⟩
  · try dsimp only at hc0
    refine W.skip ?_
    refine WE.nxt ?_
    refine W.seq ?_
    refine W.region _ ?_
    refine WG.run tab_ok 2 rfl ?_
    refine WG.y rfl rfl (by decide) (Yl.tmod rfl rfl rfl (fun _ => rfl) (by intro _; omega)) ?_
    refine WG.run tab_ok 1 rfl ?_
    refine WG.nil ?_
    refine WE.nxt ?_
    refine W.seq ?_
    refine W.seq ?_
    refine W.region _ ?_
    refine WG.run tab_ok 2 rfl ?_
    refine WG.nil ?_
    refine WE.nxt ?_
    refine W.condD rfl (fun hc1 => ?_) (fun hc1 => ?_)
    · try dsimp only at hc1
      refine W.region _ ?_
      refine WG.run tab_ok 2 rfl ?_
      refine WG.y rfl rfl (by decide) (Yl.add rfl rfl rfl (fun _ => rfl) (by intro _; have h9 := tmod_gt x (show (0 : Int) < n by omega); constructor <;> omega)) ?_
      refine WG.run tab_ok 1 rfl ?_
      refine WG.nil ?_
      refine WE.nxt ?_
      refine W.seq ?_
      refine W.region _ ?_
      refine WG.run tab_ok 2 rfl ?_
      refine WG.nil ?_
      refine WE.nxt ?_
      refine W.ret ?_
      refine WE.retF tab_ok [_] rfl ⟨rfl, trivial⟩ (RLe.refl _) ?_
      refine ⟨congrArg (Value.int .i64) ?_, rfl⟩
      unfold mod; rw [if_neg hc0]; exact mod_neg (by omega) hc1
    · try dsimp only at hc1
      refine W.skip ?_
      refine WE.nxt ?_
      refine W.seq ?_
      refine W.region _ ?_
      refine WG.run tab_ok 2 rfl ?_
      refine WG.nil ?_
      refine WE.nxt ?_
      refine W.ret ?_
      refine WE.retF tab_ok [_] rfl ⟨rfl, trivial⟩ (RLe.refl _) ?_
      refine ⟨congrArg (Value.int .i64) ?_, rfl⟩
      unfold mod; rw [if_neg hc0]; exact mod_pos (by omega) hc1

theorem Raw_C {R : Ro} {b : Nat} {a : Option Addr} {cp : Nat} {xs : List Int} {c : Nat} (w0 : World) (ha : RS R 1 encI a xs) : FnAt Try.prog 59 [.pointer (some ⟨b, 0, none⟩)] w0 R (srcE b a cp xs c) (RdPost (.int .i64 (nth xs c)) R (srcE b a cp xs (c + 1))) := by
  intro F
  have hla := ha.len
  refine Fn.enter (n := 31) Try.func59 rfl rfl (Nat.le_of_ble_eq_true rfl) rfl ?_
  refine W.seq ?_
  refine W.region _ ?_
  refine WG.run tab_ok 1 rfl ?_
  refine WG.nil ?_
  refine WE.nxt ?_
  refine W.seq ?_
  refine W.seq ?_
  refine W.regionQ _ mixed (by kernel_rfl) ?_
  refine WG.run tab_ok 3 rfl ?_
  refine' WG.y rfl rfl (by decide) (Yl.load1 tab_ok rfl rfl rfl (fun _ => rfl) ?r1 rfl ?h1) ?_
  case r1 => apply Rd.add; (first | exact Rd.blk 0 rfl | exact Rd.blk 1 rfl | exact Rd.blk 2 rfl | exact Rd.blk 3 rfl | exact Rd.blk 4 rfl | exact Rd.blk 5 rfl | exact Rd.blk 6 rfl | exact Rd.blk 7 rfl | (apply RS.rdD; assumption; ((try dsimp only) <;> omega)) | exact Rd.slD 0 rfl (by (try dsimp only) <;> omega) | exact Rd.slD 1 rfl (by (try dsimp only) <;> omega) | exact Rd.slD 2 rfl (by (try dsimp only) <;> omega) | exact Rd.slD 3 rfl (by (try dsimp only) <;> omega) | exact Rd.slD 4 rfl (by (try dsimp only) <;> omega) | exact Rd.slD 5 rfl (by (try dsimp only) <;> omega) | exact Rd.slD 6 rfl (by (try dsimp only) <;> omega) | exact Rd.slD 7 rfl (by (try dsimp only) <;> omega))
  case h1 => rfl
  refine WG.run tab_ok 3 rfl ?_
  refine' WG.y rfl rfl (by decide) (Yl.load1 tab_ok rfl rfl rfl (fun _ => rfl) ?r2 rfl ?h2) ?_
  case r2 => apply Rd.add; (first | exact Rd.blk 0 rfl | exact Rd.blk 1 rfl | exact Rd.blk 2 rfl | exact Rd.blk 3 rfl | exact Rd.blk 4 rfl | exact Rd.blk 5 rfl | exact Rd.blk 6 rfl | exact Rd.blk 7 rfl | (apply RS.rdD; assumption; ((try dsimp only) <;> omega)) | exact Rd.slD 0 rfl (by (try dsimp only) <;> omega) | exact Rd.slD 1 rfl (by (try dsimp only) <;> omega) | exact Rd.slD 2 rfl (by (try dsimp only) <;> omega) | exact Rd.slD 3 rfl (by (try dsimp only) <;> omega) | exact Rd.slD 4 rfl (by (try dsimp only) <;> omega) | exact Rd.slD 5 rfl (by (try dsimp only) <;> omega) | exact Rd.slD 6 rfl (by (try dsimp only) <;> omega) | exact Rd.slD 7 rfl (by (try dsimp only) <;> omega))
  case h2 => rfl
  refine WG.run tab_ok 2 rfl ?_
  refine WG.nil ?_
  refine WE.nxt ?_
  refine W.condD rfl (fun hc0 => ?_) (fun hc0 => ?_)
  · try dsimp only at hc0
    refine W.seq ?_
    refine W.region _ ?_
    refine WG.run tab_ok 1 rfl ?_
    refine WG.nil ?_
    refine WE.nxt ?_
    refine W.ret ?_
    refine WE.then_ret ?_
    refine WE.retF tab_ok [_] rfl ⟨rfl, trivial⟩ (RLe.refl _) ?_
    exact ⟨_, [], rfl, by rw [nth_out (by omega)]; rfl, rfl, src_end (by omega), rfl⟩
  · try dsimp only at hc0
    refine W.skip ?_
    refine WE.nxt ?_
    refine W.seq ?_
    refine W.region _ ?_
    refine WG.run tab_ok 3 rfl ?_
    refine' WG.y rfl rfl (by decide) (Yl.load1 tab_ok rfl rfl rfl (fun _ => rfl) ?r3 rfl ?h3) ?_
    case r3 => apply Rd.add; (first | exact Rd.blk 0 rfl | exact Rd.blk 1 rfl | exact Rd.blk 2 rfl | exact Rd.blk 3 rfl | exact Rd.blk 4 rfl | exact Rd.blk 5 rfl | exact Rd.blk 6 rfl | exact Rd.blk 7 rfl | (apply RS.rdD; assumption; ((try dsimp only) <;> omega)) | exact Rd.slD 0 rfl (by (try dsimp only) <;> omega) | exact Rd.slD 1 rfl (by (try dsimp only) <;> omega) | exact Rd.slD 2 rfl (by (try dsimp only) <;> omega) | exact Rd.slD 3 rfl (by (try dsimp only) <;> omega) | exact Rd.slD 4 rfl (by (try dsimp only) <;> omega) | exact Rd.slD 5 rfl (by (try dsimp only) <;> omega) | exact Rd.slD 6 rfl (by (try dsimp only) <;> omega) | exact Rd.slD 7 rfl (by (try dsimp only) <;> omega))
    case h3 => rfl
    refine WG.y rfl rfl (by decide) (Yl.add rfl rfl rfl (fun _ => rfl) (by intro _; constructor <;> (try dsimp only) <;> omega)) ?_
    refine WG.run tab_ok 2 rfl ?_
    first | refine WL.efN rfl rfl (Ef.store 0 tab_ok rfl rfl rfl rfl rfl rfl rfl rfl ?_) | refine WL.efN rfl rfl (Ef.store 1 tab_ok rfl rfl rfl rfl rfl rfl rfl rfl ?_) | refine WL.efN rfl rfl (Ef.store 2 tab_ok rfl rfl rfl rfl rfl rfl rfl rfl ?_) | refine WL.efN rfl rfl (Ef.store 3 tab_ok rfl rfl rfl rfl rfl rfl rfl rfl ?_) | refine WL.efN rfl rfl (Ef.store 4 tab_ok rfl rfl rfl rfl rfl rfl rfl rfl ?_) | refine WL.efN rfl rfl (Ef.store 5 tab_ok rfl rfl rfl rfl rfl rfl rfl rfl ?_) | refine WL.efN rfl rfl (Ef.store 6 tab_ok rfl rfl rfl rfl rfl rfl rfl rfl ?_) | refine WL.efN rfl rfl (Ef.store 7 tab_ok rfl rfl rfl rfl rfl rfl rfl rfl ?_)
    refine WG.nil ?_
    refine WE.nxt ?_
    refine W.seq ?_
    refine W.regionQ _ mixed (by kernel_rfl) ?_
    refine WG.run tab_ok 3 rfl ?_
    refine' WG.y rfl rfl (by decide) (Yl.load1 tab_ok rfl rfl rfl (fun _ => rfl) ?r4 rfl ?h4) ?_
    case r4 => apply Rd.add; (first | exact Rd.blk 0 rfl | exact Rd.blk 1 rfl | exact Rd.blk 2 rfl | exact Rd.blk 3 rfl | exact Rd.blk 4 rfl | exact Rd.blk 5 rfl | exact Rd.blk 6 rfl | exact Rd.blk 7 rfl | (apply RS.rdD; assumption; ((try dsimp only) <;> omega)) | exact Rd.slD 0 rfl (by (try dsimp only) <;> omega) | exact Rd.slD 1 rfl (by (try dsimp only) <;> omega) | exact Rd.slD 2 rfl (by (try dsimp only) <;> omega) | exact Rd.slD 3 rfl (by (try dsimp only) <;> omega) | exact Rd.slD 4 rfl (by (try dsimp only) <;> omega) | exact Rd.slD 5 rfl (by (try dsimp only) <;> omega) | exact Rd.slD 6 rfl (by (try dsimp only) <;> omega) | exact Rd.slD 7 rfl (by (try dsimp only) <;> omega))
    case h4 => rfl
    refine WG.run tab_ok 3 rfl ?_
    refine' WG.y rfl rfl (by decide) (Yl.load1 tab_ok rfl rfl rfl (fun _ => rfl) ?r5 rfl ?h5) ?_
    case r5 => apply Rd.add; (first | exact Rd.blk 0 rfl | exact Rd.blk 1 rfl | exact Rd.blk 2 rfl | exact Rd.blk 3 rfl | exact Rd.blk 4 rfl | exact Rd.blk 5 rfl | exact Rd.blk 6 rfl | exact Rd.blk 7 rfl | (apply RS.rdD; assumption; ((try dsimp only) <;> omega)) | exact Rd.slD 0 rfl (by (try dsimp only) <;> omega) | exact Rd.slD 1 rfl (by (try dsimp only) <;> omega) | exact Rd.slD 2 rfl (by (try dsimp only) <;> omega) | exact Rd.slD 3 rfl (by (try dsimp only) <;> omega) | exact Rd.slD 4 rfl (by (try dsimp only) <;> omega) | exact Rd.slD 5 rfl (by (try dsimp only) <;> omega) | exact Rd.slD 6 rfl (by (try dsimp only) <;> omega) | exact Rd.slD 7 rfl (by (try dsimp only) <;> omega))
    case h5 => rfl
    refine WG.y rfl rfl (by decide) (Yl.sub rfl rfl rfl (fun _ => rfl) (by intro _; constructor <;> (try dsimp only) <;> omega)) ?_
    refine WG.y rfl rfl (by decide) (Yl.index tab_ok rfl rfl rfl rfl rfl rfl (fun _ => rfl) (by intro _; constructor <;> (try dsimp only) <;> omega) (by intro _; first | exact fun _ _ _ _ => rfl | exact RS.has (by assumption) | exact fun _ _ _ _ => (by assumption) | exact HasMem.ownD 0 rfl | exact HasMem.ownD 1 rfl | exact HasMem.ownD 2 rfl | exact HasMem.ownD 3 rfl | exact HasMem.ownD 4 rfl | exact HasMem.ownD 5 rfl | exact HasMem.ownD 6 rfl | exact HasMem.ownD 7 rfl)) ?_
    refine' WG.y rfl rfl (by decide) (Yl.load1 tab_ok rfl rfl rfl (fun _ => rfl) ?r6 rfl ?h6) ?_
    case r6 => (first | (apply RS.rdD; assumption; ((try dsimp only) <;> omega)) | exact Rd.slD 0 rfl (by (try dsimp only) <;> omega) | exact Rd.slD 1 rfl (by (try dsimp only) <;> omega) | exact Rd.slD 2 rfl (by (try dsimp only) <;> omega) | exact Rd.slD 3 rfl (by (try dsimp only) <;> omega) | exact Rd.slD 4 rfl (by (try dsimp only) <;> omega) | exact Rd.slD 5 rfl (by (try dsimp only) <;> omega) | exact Rd.slD 6 rfl (by (try dsimp only) <;> omega) | exact Rd.slD 7 rfl (by (try dsimp only) <;> omega))
    case h6 => rfl
    refine WG.run tab_ok 1 rfl ?_
    refine WG.nil ?_
    refine WE.nxt ?_
    refine W.ret ?_
    refine WE.retF tab_ok [_] rfl ⟨rfl, trivial⟩ (RLe.refl _) ?_
    exact ⟨_, [], rfl, congrArg (fun i => Value.int .i64 (nth xs i)) (show _ = c by omega), rfl, src_next (by omega), rfl⟩

theorem N_C {R : Ro} {b : Nat} {a : Option Addr} {cp : Nat} {xs : List Int} {c : Nat} (w0 : World) {n : Int} (ha : RS R 1 encI a xs) (hn : InR n) : FnAt Try.prog 21 [.pointer (some ⟨b, 0, none⟩), .int .i64 n] w0 R (srcE b a cp xs c) (RdPost (.int .i64 (mod (nth xs c) n)) R (srcE b a cp xs (c + 1))) := by
  intro F
  refine Fn.enter (n := 9) Try.func21 rfl rfl (Nat.le_of_ble_eq_true rfl) rfl ?_
  refine W.seq ?_
  refine W.region _ ?_
  refine WG.run tab_ok 1 rfl ?_
  refine WG.nil ?_
  refine WE.nxt ?_
  refine W.seq ?_
  refine W.region _ ?_
  refine WG.run tab_ok 1 rfl ?_
  refine WL.callAt 0 en59 rfl rfl (by decide) (CallOp.mkT rfl rfl rfl rfl) rfl (Raw_C w0 ha _) ?_
  rintro _ _ _ _ - ⟨rfl, rfl, rfl, rfl⟩
  refine WG.run tab_ok 1 rfl ?_
  refine WG.callV en58 rfl rfl (by decide) (CallOp.mk' rfl rfl rfl rfl) (fun _ => rfl) (fun hg => Mod_V hn) ?_
  refine WG.run tab_ok 1 rfl ?_
  refine WG.nil ?_
  refine WE.nxt ?_
  refine W.ret ?_
  refine WE.retF tab_ok [_] rfl ⟨rfl, trivial⟩ (RLe.refl _) ?_
  exact ⟨_, [], rfl, rfl, rfl, rfl, rfl⟩

theorem Pick_C {R : Ro} {b : Nat} {a : Option Addr} {cp : Nat} {xs : List Int} {c : Nat} (w0 : World) {a2 : Option Addr} {c2 : Nat} {ys : List Int} {j : Nat} {F : List Ent} (ha : RS R 1 encI a xs) (hy : F[j]? = some (.sl 3 1 a2 c2 (ys.map encI))) (hne : 0 < ys.length) (hl : ys.length ≤ 1000000) :
    K.Fn Try.prog 22 [.pointer (some ⟨b, 0, none⟩), .slice a2 ys.length c2] w0 R (srcE b a cp xs c :: F) (fun v R' E' => ∃ e' N, E' = N ++ e' :: F ∧ RdPost (.int .i64 (nth ys (mod (nth xs c) ys.length).toNat)) R (srcE b a cp xs (c + 1)) v R' e' N) := by
  have hr := mod_range (nth xs c) (show (1 : Int) ≤ ys.length by omega)
  refine Fn.enter (n := 12) Try.func22 rfl rfl (Nat.le_of_ble_eq_true rfl) rfl ?_
  refine W.seq ?_
  refine W.region _ ?_
  refine WG.run tab_ok 1 rfl ?_
  refine WG.nil ?_
  refine WE.nxt ?_
  refine W.seq ?_
  refine W.region _ ?_
  refine WG.run tab_ok 4 rfl ?_
  refine WL.callAt 0 en21 rfl rfl (by decide) (CallOp.mkT rfl rfl rfl rfl) rfl (N_C w0 ha (by constructor <;> omega) _) ?_
  rintro _ _ _ _ - ⟨rfl, rfl, rfl, rfl⟩
  refine WG.y rfl rfl (by decide) (Yl.index tab_ok rfl rfl rfl rfl rfl rfl (fun _ => rfl) (by intro _; constructor <;> (try dsimp only) <;> omega) (by intro _; first | exact HasMem.ownD (j + 1) hy | exact fun _ _ _ _ => rfl | exact RS.has (by assumption) | exact fun _ _ _ _ => (by assumption) | exact HasMem.ownD 0 rfl | exact HasMem.ownD 1 rfl | exact HasMem.ownD 2 rfl | exact HasMem.ownD 3 rfl | exact HasMem.ownD 4 rfl | exact HasMem.ownD 5 rfl | exact HasMem.ownD 6 rfl | exact HasMem.ownD 7 rfl)) ?_
  refine' WG.y rfl rfl (by decide) (Yl.load1 tab_ok rfl rfl rfl (fun _ => rfl) ?r1 rfl ?h1) ?_
  case r1 => (first | exact Rd.slD (j + 1) hy (by omega) | (apply RS.rdD; assumption; ((try dsimp only) <;> omega)) | exact Rd.slD 0 rfl (by (try dsimp only) <;> omega) | exact Rd.slD 1 rfl (by (try dsimp only) <;> omega) | exact Rd.slD 2 rfl (by (try dsimp only) <;> omega) | exact Rd.slD 3 rfl (by (try dsimp only) <;> omega) | exact Rd.slD 4 rfl (by (try dsimp only) <;> omega) | exact Rd.slD 5 rfl (by (try dsimp only) <;> omega) | exact Rd.slD 6 rfl (by (try dsimp only) <;> omega) | exact Rd.slD 7 rfl (by (try dsimp only) <;> omega))
  case h1 => rfl
  refine WG.run tab_ok 1 rfl ?_
  refine WG.nil ?_
  refine WE.nxt ?_
  refine W.ret ?_
  refine WE.retF tab_ok [_] rfl ⟨rfl, trivial⟩ (RLe.refl _) ?_
  exact ⟨_, [], rfl, rfl, rfl, rfl, rfl⟩

theorem New_C {R : Ro} {a : Option Addr} {cp : Nat} {l : List Int} (w0 : World) (E : List Ent) (hc : l.length ≤ cp) :
    K.Fn Try.prog 16 [.slice a l.length cp] w0 R E (fun v R' E' => ∃ b, v = .pointer (some ⟨b, 0, none⟩) ∧ R = R' ∧ E' = srcE b a cp (l.take 2000) 0 :: E) := by
  refine Fn.enter (n := 10) Try.func16 rfl rfl (Nat.le_of_ble_eq_true rfl) rfl ?_
  refine W.seq ?_
  refine W.region _ ?_
  refine WG.run tab_ok 1 rfl ?_
  refine WG.nil ?_
  refine WE.nxt ?_
  refine W.seq ?_
  refine W.region _ ?_
  refine WG.run tab_ok 4 rfl ?_
  refine WG.y rfl rfl (by decide) (Yl.sliceH tab_ok rfl rfl rfl rfl rfl (fun _ => rfl) (by intro _; split <;> constructor <;> omega) rfl) ?_
  -- build
  refine WG.y rfl rfl (by decide) (Yl.build (parts := [(0, .tmp 7)]) tab_ok rfl rfl rfl rfl (fun _ => rfl) rfl rfl) ?_
  refine WL.ef rfl rfl (by decide) (Ef.box rfl rfl (fun b9 => ?_))
  refine WG.run tab_ok 1 rfl ?_
  refine WG.nil ?_
  refine WE.nxt ?_
  refine W.ret ?_
  refine WE.retF tab_ok [_] rfl ⟨rfl, trivial⟩ (RLe.refl _) ?_
  refine ⟨_, rfl, rfl, ?_⟩
  unfold srcE
  rw [List.length_take, Nat.min_comm 0, Nat.min_zero]
  have e1 : ((if (2000 : Int) < (l.length : Int) then 2000 else (l.length : Int))).toNat = min 2000 l.length := by split <;> omega
  exact congrArg (fun n => Ent.blk _ [Value.slice a n cp, .int .i64 0] :: E) e1

theorem Pick7_C {R : Ro} {b : Nat} {a : Option Addr} {cp : Nat} {xs : List Int} {c : Nat} (w0 : World) {a2 : Option Addr} {c2 : Nat} {j : Nat} {F : List Ent} (ha : RS R 1 encI a xs) (hy : F[j]? = some (.sl 3 1 a2 c2 ([0, 0, 0, 1, 1, 2, 7].map encI))) :
    K.Fn Try.prog 22 [.pointer (some ⟨b, 0, none⟩), .slice a2 7 c2] w0 R (srcE b a cp xs c :: F) (fun v R' E' => ∃ e' N, E' = N ++ e' :: F ∧ RdPost (.int .i64 (pick7 (mod (nth xs c) 7))) R (srcE b a cp xs (c + 1)) v R' e' N) :=
  Pick_C (ys := [0, 0, 0, 1, 1, 2, 7]) w0 ha hy (by decide) (by decide)

theorem Traffic_C {R : Ro} {b : Nat} {a : Option Addr} {cp : Nat} {xs : List Int} {c : Nat} (w0 : World) {n flows most : Int} (ha : RS R 1 encI a xs) (hn : 0 ≤ n ∧ n ≤ 1000) (hf : InR flows) (hm : 1 ≤ most ∧ most ≤ 1000000) (F : List Ent) :
    K.Fn Try.prog 17 [.pointer (some ⟨b, 0, none⟩), .int .i64 n, .int .i64 flows, .int .i64 most] w0 R (srcE b a cp xs c :: F) (fun v R' E' => ∃ e' N, E' = N ++ e' :: F ∧
      ∃ a2 c2, v = .slice a2 (traffic xs n flows most c).length c2 ∧ R = R' ∧ e' = srcE b a cp xs (c + 1 + 3 * trafficK xs n c) ∧ N = [.sl 66 3 a2 c2 ((traffic xs n flows most c).map encP)]) := by
  have hr := mod_range (nth xs c) (show (1 : Int) ≤ n + 1 by omega)
  have hK : (trafficK xs n c : Int) = mod (nth xs c) (n + 1) := by unfold trafficK; omega
  refine Fn.enter (n := 38) Try.func17 rfl rfl (Nat.le_of_ble_eq_true rfl) rfl ?_
  refine W.seq ?_
  refine W.region _ ?_
  refine WG.run tab_ok 1 rfl ?_
  refine WG.nil ?_
  refine WE.nxt ?_
  refine W.seq ?_
  refine W.region _ ?_
  refine WG.run tab_ok 1 rfl ?_
  refine WG.nil ?_
  refine WE.nxt ?_
  refine W.seq ?_
  refine W.region _ ?_
  refine WG.run tab_ok 1 rfl ?_
  refine WG.nil ?_
  refine WE.nxt ?_
  refine W.seq ?_
  refine W.seq ?_
  refine W.region _ ?_
  refine WG.run tab_ok 2 rfl ?_
  refine WG.y rfl rfl (by decide) (Yl.add rfl rfl rfl (fun _ => rfl) (by intro _; constructor <;> (try dsimp only) <;> omega)) ?_
  refine WL.callAt 0 en21 rfl rfl (by decide) (CallOp.mkT rfl rfl rfl rfl) rfl (N_C w0 ha (by constructor <;> omega) _) ?_
  rintro _ _ _ _ - ⟨rfl, rfl, rfl, rfl⟩
  refine WG.run tab_ok 1 rfl ?_
  refine WG.nil ?_
  refine WE.nxt ?_
  refine W.block ?_
  refine W.nil 66 3 (by decide) ?_
  refine W.loop (β := Nat × Nat × Int × List Pkt × Option Addr × Nat) (fun (k, c1, t, acc, a2, c2) => acc ++ trafficGo xs flows most k c1 t = traffic xs n flows most c ∧ c1 + 3 * k = c + 1 + 3 * trafficK xs n c ∧ 0 ≤ t ∧ t + 7 * k ≤ 7 * trafficK xs n c ∧ acc.length + k = trafficK xs n c) (fun (k, c1, t, acc, a2, c2) => [(0, true, .pointer (some ⟨b, 0, none⟩)), (1, true, .int .i64 n), (2, true, .int .i64 flows), (3, true, .int .i64 most), (9, true, .slice a2 acc.length c2), (10, true, .int .i64 t), (11, true, .int .i64 (k : Int))]) (fun _ => R) (fun (k, c1, t, acc, a2, c2) => .sl 66 3 a2 c2 (acc.map encP) :: srcE b a cp xs c1 :: F) (fun (k, c1, t, acc, a2, c2) => k) ((trafficK xs n c, c + 1, 0, [], none, 0)) (⟨rfl, rfl, Int.le_refl _, by omega, by simp⟩) ⟨rfl, rfl, rfl, rfl, rfl, rfl, vint hK.symm, rfl⟩ (RLe.refl _) (by (repeat (first | exact List.Sublist.refl _ | exact List.nil_sublist _ | apply List.Sublist.cons_cons | apply List.Sublist.cons)); done) ?_
  intro st hst
  obtain ⟨k, c1, t, acc, a2, c2⟩ := st
  obtain ⟨h1, h2, h3, h4, h5⟩ := hst
  dsimp only
  refine W.seq ?_
  refine W.seq ?_
  refine W.region _ ?_
  refine WG.run tab_ok 2 rfl ?_
  refine WG.nil ?_
  refine WE.nxt ?_
  refine W.condD rfl (fun hc0 => ?_) (fun hc0 => ?_)
  · try dsimp only at hc0
    obtain ⟨k, rfl⟩ : ∃ m, k = m + 1 := ⟨k - 1, by omega⟩
    have hr1 := mod_range (nth xs (c1 + 1)) (show (1 : Int) ≤ most by omega)
    have hr2 := pick7_range (mod (nth xs (c1 + 1 + 1)) 7)
    have hr3 := pick7_range (mod (nth xs (c1 + 2)) 7)
    refine W.skip ?_
    refine WE.nxt ?_
    refine W.seq ?_
    refine W.block ?_
    refine W.seq ?_
    refine W.region _ ?_
    refine WG.run tab_ok 3 rfl ?_
    refine WL.callAt 1 en21 rfl rfl (by decide) (CallOp.mkT rfl rfl rfl rfl) rfl (N_C w0 ha hf _) ?_
    rintro _ _ _ _ - ⟨rfl, rfl, rfl, rfl⟩
    refine WG.run tab_ok 3 rfl ?_
    refine WL.callAt 1 en21 rfl rfl (by decide) (CallOp.mkT rfl rfl rfl rfl) rfl (N_C w0 ha (by constructor <;> omega) _) ?_
    rintro _ _ _ _ - ⟨rfl, rfl, rfl, rfl⟩
    refine WG.y rfl rfl (by decide) (Yl.add rfl rfl rfl (fun _ => rfl) (by intro _; constructor <;> (try dsimp only) <;> omega)) ?_
    -- build
    refine WG.y rfl rfl (by decide) (Yl.build (parts := [(0, .tmp 23), (1, .tmp 24), (2, .tmp 28)]) tab_ok rfl rfl rfl rfl (fun _ => rfl) rfl rfl) ?_
    refine WL.ef rfl rfl (by decide) (Ef.buildSliceD (enc := encP) (parts := [.tmp 29]) [⟨_, _, _⟩] tab_ok rfl rfl rfl rfl rfl rfl rfl rfl (by decide) (by decide) (fun a30 => ?_))
    first | refine WL.ef rfl rfl (by decide) (Ef.appendD 1 0 tab_ok rfl rfl rfl rfl rfl rfl rfl rfl rfl rfl rfl (fun _ _ => rfl) (by simp only [List.length_cons, List.length_nil]; omega) (by simp only [List.length_cons, List.length_nil]; omega) (fun a31 c31 ha31 => ?_)) | refine WL.ef rfl rfl (by decide) (Ef.appendD 2 0 tab_ok rfl rfl rfl rfl rfl rfl rfl rfl rfl rfl rfl (fun _ _ => rfl) (by simp only [List.length_cons, List.length_nil]; omega) (by simp only [List.length_cons, List.length_nil]; omega) (fun a31 c31 ha31 => ?_)) | refine WL.ef rfl rfl (by decide) (Ef.appendD 3 0 tab_ok rfl rfl rfl rfl rfl rfl rfl rfl rfl rfl rfl (fun _ _ => rfl) (by simp only [List.length_cons, List.length_nil]; omega) (by simp only [List.length_cons, List.length_nil]; omega) (fun a31 c31 ha31 => ?_)) | refine WL.ef rfl rfl (by decide) (Ef.appendD 4 0 tab_ok rfl rfl rfl rfl rfl rfl rfl rfl rfl rfl rfl (fun _ _ => rfl) (by simp only [List.length_cons, List.length_nil]; omega) (by simp only [List.length_cons, List.length_nil]; omega) (fun a31 c31 ha31 => ?_)) | refine WL.ef rfl rfl (by decide) (Ef.appendD 5 0 tab_ok rfl rfl rfl rfl rfl rfl rfl rfl rfl rfl rfl (fun _ _ => rfl) (by simp only [List.length_cons, List.length_nil]; omega) (by simp only [List.length_cons, List.length_nil]; omega) (fun a31 c31 ha31 => ?_)) | refine WL.ef rfl rfl (by decide) (Ef.appendD 6 0 tab_ok rfl rfl rfl rfl rfl rfl rfl rfl rfl rfl rfl (fun _ _ => rfl) (by simp only [List.length_cons, List.length_nil]; omega) (by simp only [List.length_cons, List.length_nil]; omega) (fun a31 c31 ha31 => ?_)) | refine WL.ef rfl rfl (by decide) (Ef.appendD 7 0 tab_ok rfl rfl rfl rfl rfl rfl rfl rfl rfl rfl rfl (fun _ _ => rfl) (by simp only [List.length_cons, List.length_nil]; omega) (by simp only [List.length_cons, List.length_nil]; omega) (fun a31 c31 ha31 => ?_)) | refine WL.ef rfl rfl (by decide) (Ef.appendR 0 tab_ok rfl rfl rfl rfl rfl rfl rfl rfl rfl rfl (by assumption) (fun _ _ => rfl) (by (try dsimp only); omega) (by omega) (fun a31 c31 ha31 => ?_)) | refine WL.ef rfl rfl (by decide) (Ef.appendR 1 tab_ok rfl rfl rfl rfl rfl rfl rfl rfl rfl rfl (by assumption) (fun _ _ => rfl) (by (try dsimp only); omega) (by omega) (fun a31 c31 ha31 => ?_)) | refine WL.ef rfl rfl (by decide) (Ef.appendR 2 tab_ok rfl rfl rfl rfl rfl rfl rfl rfl rfl rfl (by assumption) (fun _ _ => rfl) (by (try dsimp only); omega) (by omega) (fun a31 c31 ha31 => ?_)) | refine WL.ef rfl rfl (by decide) (Ef.appendR 3 tab_ok rfl rfl rfl rfl rfl rfl rfl rfl rfl rfl (by assumption) (fun _ _ => rfl) (by (try dsimp only); omega) (by omega) (fun a31 c31 ha31 => ?_)) | refine WL.ef rfl rfl (by decide) (Ef.appendR 4 tab_ok rfl rfl rfl rfl rfl rfl rfl rfl rfl rfl (by assumption) (fun _ _ => rfl) (by (try dsimp only); omega) (by omega) (fun a31 c31 ha31 => ?_)) | refine WL.ef rfl rfl (by decide) (Ef.appendR 5 tab_ok rfl rfl rfl rfl rfl rfl rfl rfl rfl rfl (by assumption) (fun _ _ => rfl) (by (try dsimp only); omega) (by omega) (fun a31 c31 ha31 => ?_)) | refine WL.ef rfl rfl (by decide) (Ef.appendR 6 tab_ok rfl rfl rfl rfl rfl rfl rfl rfl rfl rfl (by assumption) (fun _ _ => rfl) (by (try dsimp only); omega) (by omega) (fun a31 c31 ha31 => ?_)) | refine WL.ef rfl rfl (by decide) (Ef.appendR 7 tab_ok rfl rfl rfl rfl rfl rfl rfl rfl rfl rfl (by assumption) (fun _ _ => rfl) (by (try dsimp only); omega) (by omega) (fun a31 c31 ha31 => ?_))
    refine WG.run tab_ok 1 rfl ?_
    refine WG.nil ?_
    refine WE.nxt ?_
    refine W.region _ ?_
    refine WG.run tab_ok 2 rfl ?_
    refine WL.ef rfl rfl (by decide) (Ef.buildSliceD (enc := encI) (parts := [.const (.int .i64 0), .const (.int .i64 0), .const (.int .i64 0), .const (.int .i64 1), .const (.int .i64 1), .const (.int .i64 2), .const (.int .i64 7)]) [_, _, _, _, _, _, _] tab_ok rfl rfl rfl rfl rfl rfl rfl rfl (by decide) (by decide) (fun a34 => ?_))
    refine WL.callAt 3 en22 rfl rfl (by decide) (CallOp.mkT rfl rfl rfl rfl) rfl (Pick7_C (j := 0) w0 ha rfl) ?_
    rintro _ _ _ _ - ⟨rfl, rfl, rfl, rfl⟩
    refine WG.y rfl rfl (by decide) (Yl.add rfl rfl rfl (fun _ => rfl) (by intro _; constructor <;> (try dsimp only) <;> omega)) ?_
    refine WG.run tab_ok 1 rfl ?_
    refine WG.nil ?_
    refine WE.blk _ ?_
    refine WE.nxt ?_
    refine W.region _ ?_
    refine WG.run tab_ok 1 rfl ?_
    refine WG.y rfl rfl (by decide) (Yl.sub rfl rfl rfl (fun _ => rfl) (by intro _; constructor <;> (try dsimp only) <;> omega)) ?_
    refine WG.run tab_ok 1 rfl ?_
    refine WG.nil ?_
    refine WE.again ((k, c1 + 3, t + pick7 (mod (nth xs (c1 + 2)) 7), acc ++ [⟨mod (nth xs c1) flows, t, 1 + mod (nth xs (c1 + 1)) most⟩], a31, c31)) (⟨by dsimp only; rw [← h1]; simp [trafficGo], by dsimp only; omega, by dsimp only; omega, by dsimp only; omega, by simp; omega⟩) (by (try dsimp only); omega) ⟨rfl, rfl, rfl, rfl, rfl, rfl, vint (by omega), rfl⟩ (RLe.refl _) (by (repeat (first | exact List.Sublist.refl _ | exact List.nil_sublist _ | apply List.Sublist.cons_cons | apply List.Sublist.cons)); done)
  · try dsimp only at hc0
    obtain rfl : k = 0 := by omega
    simp only [trafficGo, List.append_nil] at h1
    subst h1
    refine W.exit ?_
    refine WE.then_exit ?_
    refine WE.then_exit ?_
    refine WE.blk_exit ?_
    refine WE.nxt ?_
    refine W.seq ?_
    refine W.region _ ?_
    refine WG.run tab_ok 2 rfl ?_
    refine WG.nil ?_
    refine WE.nxt ?_
    refine W.ret ?_
    refine WE.retF tab_ok [_] rfl ⟨rfl, trivial⟩ (RLe.refl _) ?_
    exact ⟨_, [_], rfl, _, _, rfl, rfl, congrArg (srcE b a cp xs) (by omega), rfl⟩

end Go.Proofs.Ytcfnckccmkjjlaa

/- A trial. No condition. -/
set_option linter.unusedSimpArgs false
set_option linter.unusedVariables false
namespace Go.Proofs.Ytcfnckccmkjjlaa
open Go Go.RowKit Go.Proofs.Ytcfnckccmkjjlaa.K Go.Proofs.Ytcfnckccmkjjlaa.M

theorem Validate_V {R : Ro} {a : Option Addr} {c : Nat} {ps : List Pkt} (ha : RS R 3 encP a ps) : FnV Try.prog 60 [.slice a ps.length c] R (.int .i64 (validate ps)) := by
  have hla := ha.len
  refine Fn.toV (fun w0 E => ?_)
  refine Fn.enter (n := 50) Try.func60 rfl rfl (Nat.le_of_ble_eq_true rfl) rfl ?_
  refine W.seq ?_
  refine W.region _ ?_
  refine WG.run tab_ok 1 rfl ?_
  refine WG.nil ?_
  refine WE.nxt ?_
  refine W.seq ?_
  refine W.seq ?_
  refine W.region _ ?_
  refine WG.run tab_ok 3 rfl ?_
  refine WG.nil ?_
  refine WE.nxt ?_
  refine W.condD rfl (fun hc0 => ?_) (fun hc0 => ?_)
  · try dsimp only at hc0
    refine W.seq ?_
    refine W.region _ ?_
    refine WG.run tab_ok 1 rfl ?_
    refine WG.nil ?_
    refine WE.nxt ?_
    refine W.ret ?_
    refine WE.then_ret ?_
    refine WE.subE (E' := E) (by (repeat (first | exact List.Sublist.refl _ | exact List.nil_sublist _ | apply List.Sublist.cons_cons | apply List.Sublist.cons)); done) ?_
    refine WE.retF tab_ok [_] rfl ⟨rfl, trivial⟩ (RLe.refl _) ?_
    exact ⟨by unfold validate; rw [if_pos (show 60 < ps.length by omega)]; rfl, rfl⟩
  · try dsimp only at hc0
    refine W.skip ?_
    refine WE.nxt ?_
    refine W.seq ?_
    refine W.region _ ?_
    refine WG.run tab_ok 1 rfl ?_
    refine WG.nil ?_
    refine WE.nxt ?_
    refine W.seq ?_
    refine W.seq ?_
    refine W.region _ ?_
    refine WG.run tab_ok 3 rfl ?_
    refine WG.nil ?_
    refine WE.nxt ?_
    refine W.block ?_
    refine W.loop (β := Nat × Int) (fun (k, last) => k ≤ ps.length ∧ valGo last (ps.drop k) = valGo 0 ps) (fun (k, last) => [(0, true, .slice a ps.length c), (3, true, .int .i64 last), (9, true, .slice a ps.length c), (10, true, .int .i64 ps.length), (11, true, .int .i64 (k : Int))]) (fun _ => R) (fun _ => E) (fun (k, last) => ps.length - k) ((0, 0)) (⟨Nat.zero_le _, rfl⟩) ⟨rfl, rfl, rfl, rfl, rfl, rfl⟩ (RLe.refl _) (by (repeat (first | exact List.Sublist.refl _ | exact List.nil_sublist _ | apply List.Sublist.cons_cons | apply List.Sublist.cons)); done) ?_
    intro st hst
    obtain ⟨k, last⟩ := st
    obtain ⟨hk, hv⟩ := hst
    dsimp only
    refine W.seq ?_
    refine W.region _ ?_
    refine WG.run tab_ok 1 rfl ?_
    refine WG.nil ?_
    refine WE.nxt ?_
    refine W.seq ?_
    refine W.condD rfl (fun hc1 => ?_) (fun hc1 => ?_)
    · try dsimp only at hc1
      have hd := drop_nth (xs := ps) (k := k) (by omega)
      rw [hd, valGo] at hv
      refine W.skip ?_
      refine WE.nxt ?_
      refine W.seq ?_
      refine W.block ?_
      refine W.seq ?_
      refine W.region _ ?_
      refine WG.y rfl rfl (by decide) (Yl.indexN tab_ok rfl rfl rfl rfl rfl rfl (fun _ => rfl) (by intro _; (try dsimp only) <;> omega) (by intro _; first | exact fun _ _ _ _ => rfl | exact RS.has (by assumption) | exact fun _ _ _ _ => (by assumption) | exact HasMem.ownD 0 rfl | exact HasMem.ownD 1 rfl | exact HasMem.ownD 2 rfl | exact HasMem.ownD 3 rfl | exact HasMem.ownD 4 rfl | exact HasMem.ownD 5 rfl | exact HasMem.ownD 6 rfl | exact HasMem.ownD 7 rfl)) ?_
      refine' WG.y rfl rfl (by decide) (Yl.load1 tab_ok rfl rfl rfl (fun _ => rfl) ?r1 rfl ?h1) ?_
      case r1 => (first | (apply RS.rdD; assumption; ((try dsimp only) <;> omega)) | exact Rd.slD 0 rfl (by (try dsimp only) <;> omega) | exact Rd.slD 1 rfl (by (try dsimp only) <;> omega) | exact Rd.slD 2 rfl (by (try dsimp only) <;> omega) | exact Rd.slD 3 rfl (by (try dsimp only) <;> omega) | exact Rd.slD 4 rfl (by (try dsimp only) <;> omega) | exact Rd.slD 5 rfl (by (try dsimp only) <;> omega) | exact Rd.slD 6 rfl (by (try dsimp only) <;> omega) | exact Rd.slD 7 rfl (by (try dsimp only) <;> omega))
      case h1 => rfl
      refine WL.ef rfl rfl (by decide) (Ef.alloc tab_ok rfl rfl (fun b5 => ?_))
      first | refine WL.efN rfl rfl (Ef.store0 0 tab_ok rfl rfl rfl rfl rfl rfl rfl rfl ?_) | refine WL.efN rfl rfl (Ef.store0 1 tab_ok rfl rfl rfl rfl rfl rfl rfl rfl ?_) | refine WL.efN rfl rfl (Ef.store0 2 tab_ok rfl rfl rfl rfl rfl rfl rfl rfl ?_) | refine WL.efN rfl rfl (Ef.store0 3 tab_ok rfl rfl rfl rfl rfl rfl rfl rfl ?_) | refine WL.efN rfl rfl (Ef.store0 4 tab_ok rfl rfl rfl rfl rfl rfl rfl rfl ?_) | refine WL.efN rfl rfl (Ef.store0 5 tab_ok rfl rfl rfl rfl rfl rfl rfl rfl ?_) | refine WL.efN rfl rfl (Ef.store0 6 tab_ok rfl rfl rfl rfl rfl rfl rfl rfl ?_) | refine WL.efN rfl rfl (Ef.store0 7 tab_ok rfl rfl rfl rfl rfl rfl rfl rfl ?_)
      refine WG.nil ?_
      refine WE.nxt ?_
      refine W.seq ?_
      refine W.seq ?_
      refine W.region _ ?_
      refine WG.run tab_ok 1 rfl ?_
      refine' WG.y rfl rfl (by decide) (Yl.load1 tab_ok rfl rfl rfl (fun _ => rfl) ?r2 rfl ?h2) ?_
      case r2 => apply Rd.add; (first | exact Rd.blk 0 rfl | exact Rd.blk 1 rfl | exact Rd.blk 2 rfl | exact Rd.blk 3 rfl | exact Rd.blk 4 rfl | exact Rd.blk 5 rfl | exact Rd.blk 6 rfl | exact Rd.blk 7 rfl)
      case h2 => rfl
      refine WG.run tab_ok 2 rfl ?_
      refine WG.y rfl rfl (by decide) (pureV_ok tab_ok rfl (by first | exact fun _ => rfl | exact fun h => h | (intro h; simp_all))) ?_
      refine' WG.y rfl rfl (by decide) (Yl.loadG tab_ok rfl rfl rfl (by first | exact fun _ => rfl | exact fun h => h | (intro h; simp_all)) ?r3 rfl ?h3 ?g3) ?_
      case r3 => apply Rd.addC; (first | exact Rd.blkC 0 rfl | exact Rd.blkC 1 rfl | exact Rd.blkC 2 rfl | exact Rd.blkC 3 rfl | exact Rd.blkC 4 rfl | exact Rd.blkC 5 rfl | exact Rd.blkC 6 rfl | exact Rd.blkC 7 rfl)
      case h3 => rfl
      case g3 => first | exact fun _ => trivial | (intro hg; (try simp only [decide_eq_true_eq, decide_eq_false_iff_not, beq_iff_eq, bne_iff_ne, beq_eq_false_iff_ne, bne_eq_false_iff_eq, ne_eq, Bool.or_eq_true, Bool.or_eq_false_iff, Bool.and_eq_true, Bool.and_eq_false_imp, Bool.not_eq_true, Bool.not_eq_true', Bool.not_eq_false', Classical.not_not, Int.not_lt, Int.not_le, gt_iff_lt, ge_iff_le] at hg); (try dsimp only); omega)
      refine WG.y rfl rfl (by decide) (pureV_ok tab_ok rfl (by first | exact fun _ => rfl | exact fun h => h | (intro h; simp_all))) ?_
      refine WG.y rfl rfl (by decide) (Yl.por rfl rfl rfl (fun _ => rfl) (by intro h1 h2; simp_all <;> omega)) ?_
      refine WG.run tab_ok 1 rfl ?_
      refine WG.y rfl rfl (by decide) (pureV_ok tab_ok rfl (by first | exact fun _ => rfl | exact fun h => h | (intro h; simp_all))) ?_
      refine' WG.y rfl rfl (by decide) (Yl.loadG tab_ok rfl rfl rfl (by first | exact fun _ => rfl | exact fun h => h | (intro h; simp_all)) ?r4 rfl ?h4 ?g4) ?_
      case r4 => apply Rd.addC; (first | exact Rd.blkC 0 rfl | exact Rd.blkC 1 rfl | exact Rd.blkC 2 rfl | exact Rd.blkC 3 rfl | exact Rd.blkC 4 rfl | exact Rd.blkC 5 rfl | exact Rd.blkC 6 rfl | exact Rd.blkC 7 rfl)
      case h4 => rfl
      case g4 => first | exact fun _ => trivial | (intro hg; (try simp only [decide_eq_true_eq, decide_eq_false_iff_not, beq_iff_eq, bne_iff_ne, beq_eq_false_iff_ne, bne_eq_false_iff_eq, ne_eq, Bool.or_eq_true, Bool.or_eq_false_iff, Bool.and_eq_true, Bool.and_eq_false_imp, Bool.not_eq_true, Bool.not_eq_true', Bool.not_eq_false', Classical.not_not, Int.not_lt, Int.not_le, gt_iff_lt, ge_iff_le] at hg); (try dsimp only); omega)
      refine WG.y rfl rfl (by decide) (pureV_ok tab_ok rfl (by first | exact fun _ => rfl | exact fun h => h | (intro h; simp_all))) ?_
      refine WG.y rfl rfl (by decide) (Yl.por rfl rfl rfl (fun _ => rfl) (by intro h1 h2; simp_all <;> omega)) ?_
      refine WG.run tab_ok 1 rfl ?_
      refine WG.y rfl rfl (by decide) (pureV_ok tab_ok rfl (by first | exact fun _ => rfl | exact fun h => h | (intro h; simp_all))) ?_
      refine' WG.y rfl rfl (by decide) (Yl.loadG tab_ok rfl rfl rfl (by first | exact fun _ => rfl | exact fun h => h | (intro h; simp_all)) ?r5 rfl ?h5 ?g5) ?_
      case r5 => apply Rd.addC; (first | exact Rd.blkC 0 rfl | exact Rd.blkC 1 rfl | exact Rd.blkC 2 rfl | exact Rd.blkC 3 rfl | exact Rd.blkC 4 rfl | exact Rd.blkC 5 rfl | exact Rd.blkC 6 rfl | exact Rd.blkC 7 rfl)
      case h5 => rfl
      case g5 => first | exact fun _ => trivial | (intro hg; (try simp only [decide_eq_true_eq, decide_eq_false_iff_not, beq_iff_eq, bne_iff_ne, beq_eq_false_iff_ne, bne_eq_false_iff_eq, ne_eq, Bool.or_eq_true, Bool.or_eq_false_iff, Bool.and_eq_true, Bool.and_eq_false_imp, Bool.not_eq_true, Bool.not_eq_true', Bool.not_eq_false', Classical.not_not, Int.not_lt, Int.not_le, gt_iff_lt, ge_iff_le] at hg); (try dsimp only); omega)
      refine WG.y rfl rfl (by decide) (pureV_ok tab_ok rfl (by first | exact fun _ => rfl | exact fun h => h | (intro h; simp_all))) ?_
      refine WG.y rfl rfl (by decide) (Yl.por rfl rfl rfl (fun _ => rfl) (by intro h1 h2; simp_all <;> omega)) ?_
      refine WG.run tab_ok 1 rfl ?_
      refine WG.y rfl rfl (by decide) (pureV_ok tab_ok rfl (by first | exact fun _ => rfl | exact fun h => h | (intro h; simp_all))) ?_
      refine' WG.y rfl rfl (by decide) (Yl.loadG tab_ok rfl rfl rfl (by first | exact fun _ => rfl | exact fun h => h | (intro h; simp_all)) ?r6 rfl ?h6 ?g6) ?_
      case r6 => apply Rd.addC; (first | exact Rd.blkC 0 rfl | exact Rd.blkC 1 rfl | exact Rd.blkC 2 rfl | exact Rd.blkC 3 rfl | exact Rd.blkC 4 rfl | exact Rd.blkC 5 rfl | exact Rd.blkC 6 rfl | exact Rd.blkC 7 rfl)
      case h6 => rfl
      case g6 => first | exact fun _ => trivial | (intro hg; (try simp only [decide_eq_true_eq, decide_eq_false_iff_not, beq_iff_eq, bne_iff_ne, beq_eq_false_iff_ne, bne_eq_false_iff_eq, ne_eq, Bool.or_eq_true, Bool.or_eq_false_iff, Bool.and_eq_true, Bool.and_eq_false_imp, Bool.not_eq_true, Bool.not_eq_true', Bool.not_eq_false', Classical.not_not, Int.not_lt, Int.not_le, gt_iff_lt, ge_iff_le] at hg); (try dsimp only); omega)
      refine WG.y rfl rfl (by decide) (pureV_ok tab_ok rfl (by first | exact fun _ => rfl | exact fun h => h | (intro h; simp_all))) ?_
      refine WG.y rfl rfl (by decide) (Yl.por rfl rfl rfl (fun _ => rfl) (by intro h1 h2; simp_all <;> omega)) ?_
      refine WG.run tab_ok 1 rfl ?_
      refine WG.y rfl rfl (by decide) (pureV_ok tab_ok rfl (by first | exact fun _ => rfl | exact fun h => h | (intro h; simp_all))) ?_
      refine' WG.y rfl rfl (by decide) (Yl.loadG tab_ok rfl rfl rfl (by first | exact fun _ => rfl | exact fun h => h | (intro h; simp_all)) ?r7 rfl ?h7 ?g7) ?_
      case r7 => apply Rd.addC; (first | exact Rd.blkC 0 rfl | exact Rd.blkC 1 rfl | exact Rd.blkC 2 rfl | exact Rd.blkC 3 rfl | exact Rd.blkC 4 rfl | exact Rd.blkC 5 rfl | exact Rd.blkC 6 rfl | exact Rd.blkC 7 rfl)
      case h7 => rfl
      case g7 => first | exact fun _ => trivial | (intro hg; (try simp only [decide_eq_true_eq, decide_eq_false_iff_not, beq_iff_eq, bne_iff_ne, beq_eq_false_iff_ne, bne_eq_false_iff_eq, ne_eq, Bool.or_eq_true, Bool.or_eq_false_iff, Bool.and_eq_true, Bool.and_eq_false_imp, Bool.not_eq_true, Bool.not_eq_true', Bool.not_eq_false', Classical.not_not, Int.not_lt, Int.not_le, gt_iff_lt, ge_iff_le] at hg); (try dsimp only); omega)
      refine WG.y rfl rfl (by decide) (pureV_ok tab_ok rfl (by first | exact fun _ => rfl | exact fun h => h | (intro h; simp_all))) ?_
      refine WG.y rfl rfl (by decide) (Yl.por rfl rfl rfl (fun _ => rfl) (by intro h1 h2; simp_all <;> omega)) ?_
      refine WG.nil ?_
      refine WE.nxt ?_
      refine W.cond rfl (fun hc2 => ?_) (fun hc2 => ?_)
      · try simp only [decide_eq_true_eq, decide_eq_false_iff_not, beq_iff_eq, bne_iff_ne, beq_eq_false_iff_ne, bne_eq_false_iff_eq, ne_eq, Bool.or_eq_true, Bool.or_eq_false_iff, Bool.and_eq_true, Bool.and_eq_false_imp, Bool.not_eq_true, Bool.not_eq_true', Bool.not_eq_false', Classical.not_not, Int.not_lt, Int.not_le, gt_iff_lt, ge_iff_le] at hc2
        rw [if_pos (show BadP (nth ps k) by unfold BadP; omega)] at hv
        refine W.seq ?_
        refine W.region _ ?_
        refine WG.run tab_ok 1 rfl ?_
        refine WG.nil ?_
        refine WE.nxt ?_
        refine W.ret ?_
        refine WE.then_ret ?_
        refine WE.blk_ret ?_
        refine WE.then_ret ?_
        refine WE.then_ret ?_
        refine WE.blk_ret ?_
        refine WE.then_ret ?_
        refine WE.subE (E' := E) (by (repeat (first | exact List.Sublist.refl _ | exact List.nil_sublist _ | apply List.Sublist.cons_cons | apply List.Sublist.cons)); done) ?_
        refine WE.retF tab_ok [_] rfl ⟨rfl, trivial⟩ (RLe.refl _) ?_
        exact ⟨by unfold validate; rw [if_neg (show ¬ 60 < ps.length by omega), ← hv]; rfl, rfl⟩
      · try simp only [decide_eq_true_eq, decide_eq_false_iff_not, beq_iff_eq, bne_iff_ne, beq_eq_false_iff_ne, bne_eq_false_iff_eq, ne_eq, Bool.or_eq_true, Bool.or_eq_false_iff, Bool.and_eq_true, Bool.and_eq_false_imp, Bool.not_eq_true, Bool.not_eq_true', Bool.not_eq_false', Classical.not_not, Int.not_lt, Int.not_le, gt_iff_lt, ge_iff_le] at hc2
        rw [if_neg (show ¬ BadP (nth ps k) by unfold BadP; omega)] at hv
        refine W.skip ?_
        refine WE.nxt ?_
        refine W.seq ?_
        refine W.seq ?_
        refine W.region _ ?_
        refine WG.run tab_ok 1 rfl ?_
        refine' WG.y rfl rfl (by decide) (Yl.load1 tab_ok rfl rfl rfl (fun _ => rfl) ?r8 rfl ?h8) ?_
        case r8 => apply Rd.add; (first | exact Rd.blk 0 rfl | exact Rd.blk 1 rfl | exact Rd.blk 2 rfl | exact Rd.blk 3 rfl | exact Rd.blk 4 rfl | exact Rd.blk 5 rfl | exact Rd.blk 6 rfl | exact Rd.blk 7 rfl)
        case h8 => rfl
        refine WG.run tab_ok 2 rfl ?_
        refine WG.nil ?_
        refine WE.nxt ?_
        refine W.condD rfl (fun hc3 => ?_) (fun hc3 => ?_)
        · try dsimp only at hc3
          rw [if_pos hc3] at hv
          refine W.seq ?_
          refine W.region _ ?_
          refine WG.run tab_ok 1 rfl ?_
          refine WG.nil ?_
          refine WE.nxt ?_
          refine W.ret ?_
          refine WE.then_ret ?_
          refine WE.blk_ret ?_
          refine WE.then_ret ?_
          refine WE.then_ret ?_
          refine WE.blk_ret ?_
          refine WE.then_ret ?_
          refine WE.subE (E' := E) (by (repeat (first | exact List.Sublist.refl _ | exact List.nil_sublist _ | apply List.Sublist.cons_cons | apply List.Sublist.cons)); done) ?_
          refine WE.retF tab_ok [_] rfl ⟨rfl, trivial⟩ (RLe.refl _) ?_
          exact ⟨by unfold validate; rw [if_neg (show ¬ 60 < ps.length by omega), ← hv]; rfl, rfl⟩
        · try dsimp only at hc3
          rw [if_neg hc3] at hv
          refine W.skip ?_
          refine WE.nxt ?_
          refine W.region _ ?_
          refine WG.run tab_ok 1 rfl ?_
          refine' WG.y rfl rfl (by decide) (Yl.load1 tab_ok rfl rfl rfl (fun _ => rfl) ?r9 rfl ?h9) ?_
          case r9 => apply Rd.add; (first | exact Rd.blk 0 rfl | exact Rd.blk 1 rfl | exact Rd.blk 2 rfl | exact Rd.blk 3 rfl | exact Rd.blk 4 rfl | exact Rd.blk 5 rfl | exact Rd.blk 6 rfl | exact Rd.blk 7 rfl)
          case h9 => rfl
          refine WG.run tab_ok 1 rfl ?_
          refine WG.nil ?_
          refine WE.blk _ ?_
          refine WE.nxt ?_
          refine W.region _ ?_
          refine WG.y rfl rfl (by decide) (Yl.add rfl rfl rfl (fun _ => rfl) (by intro _; constructor <;> (try dsimp only) <;> omega)) ?_
          refine WG.run tab_ok 1 rfl ?_
          refine WG.nil ?_
          refine WE.again ((k + 1, (nth ps k).time)) (⟨by dsimp only; omega, hv⟩) (by (try dsimp only); omega) ⟨rfl, rfl, rfl, rfl, rfl, rfl⟩ (RLe.refl _) (by (repeat (first | exact List.Sublist.refl _ | exact List.nil_sublist _ | apply List.Sublist.cons_cons | apply List.Sublist.cons)); done)
    · try dsimp only at hc1
      obtain rfl : k = ps.length := by omega
      simp only [List.drop_length, valGo] at hv
      refine W.exit ?_
      refine WE.then_exit ?_
      refine WE.then_exit ?_
      refine WE.blk_exit ?_
      refine WE.nxt ?_
      refine W.seq ?_
      refine W.region _ ?_
      refine WG.run tab_ok 1 rfl ?_
      refine WG.nil ?_
      refine WE.nxt ?_
      refine W.ret ?_
      refine WE.subE (E' := E) (by (repeat (first | exact List.Sublist.refl _ | exact List.nil_sublist _ | apply List.Sublist.cons_cons | apply List.Sublist.cons)); done) ?_
      refine WE.retF tab_ok [_] rfl ⟨rfl, trivial⟩ (RLe.refl _) ?_
      exact ⟨by unfold validate; rw [if_neg (show ¬ 60 < ps.length by omega), ← hv]; rfl, rfl⟩

theorem ValidateR_V {R : Ro} {a : Option Addr} {c : Nat} {ps : List Pkt} (ha : RS R 3 encP a ps) : FnV Try.prog 87 [.slice a ps.length c] R (.int .i64 (validate ps)) := by
  have hla := ha.len
  refine Fn.toV (fun w0 E => ?_)
  refine Fn.enter (n := 59) Try.func87 rfl rfl (Nat.le_of_ble_eq_true rfl) rfl ?_
  refine W.seq ?_
  refine W.region _ ?_
  refine WG.run tab_ok 1 rfl ?_
  refine WG.nil ?_
  refine WE.nxt ?_
  refine W.seq ?_
  refine W.seq ?_
  refine W.region _ ?_
  refine WG.run tab_ok 3 rfl ?_
  refine WG.nil ?_
  refine WE.nxt ?_
  refine W.condD rfl (fun hc0 => ?_) (fun hc0 => ?_)
  · try dsimp only at hc0
    refine W.seq ?_
    refine W.region _ ?_
    refine WG.run tab_ok 1 rfl ?_
    refine WG.nil ?_
    refine WE.nxt ?_
    refine W.ret ?_
    refine WE.then_ret ?_
    refine WE.subE (E' := E) (by (repeat (first | exact List.Sublist.refl _ | exact List.nil_sublist _ | apply List.Sublist.cons_cons | apply List.Sublist.cons)); done) ?_
    refine WE.retF tab_ok [_] rfl ⟨rfl, trivial⟩ (RLe.refl _) ?_
    exact ⟨by unfold validate; rw [if_pos (show 60 < ps.length by omega)]; rfl, rfl⟩
  · try dsimp only at hc0
    refine W.skip ?_
    refine WE.nxt ?_
    refine W.seq ?_
    refine W.seq ?_
    refine W.region _ ?_
    refine WG.run tab_ok 1 rfl ?_
    refine WG.nil ?_
    refine WE.nxt ?_
    refine W.block ?_
    refine W.loop (β := Nat) (fun k => k ≤ ps.length ∧ valGo (if k = 0 then 0 else (nth ps (k - 1)).time) (ps.drop k) = valGo 0 ps) (fun k => [(0, true, .slice a ps.length c), (3, true, .int .i64 (k : Int))]) (fun _ => R) (fun _ => E) (fun k => ps.length - k) (0) (⟨Nat.zero_le _, rfl⟩) ⟨rfl, rfl, rfl⟩ (RLe.refl _) (by (repeat (first | exact List.Sublist.refl _ | exact List.nil_sublist _ | apply List.Sublist.cons_cons | apply List.Sublist.cons)); done) ?_
    intro st hst
    obtain ⟨hk, hv⟩ := hst
    have hk0 : st ≠ 0 → ((st : Int) - 1).toNat = st - 1 := by omega
    refine W.seq ?_
    refine W.seq ?_
    refine W.region _ ?_
    refine WG.run tab_ok 4 rfl ?_
    refine WG.nil ?_
    refine WE.nxt ?_
    refine W.condD rfl (fun hc1 => ?_) (fun hc1 => ?_)
    · try dsimp only at hc1
      have hd := drop_nth (xs := ps) (k := st) (by omega)
      rw [hd, valGo] at hv
      refine W.skip ?_
      refine WE.nxt ?_
      refine W.seq ?_
      refine W.block ?_
      refine W.seq ?_
      refine W.region _ ?_
      refine WG.run tab_ok 2 rfl ?_
      refine WG.y rfl rfl (by decide) (Yl.indexN tab_ok rfl rfl rfl rfl rfl rfl (fun _ => rfl) (by intro _; (try dsimp only) <;> omega) (by intro _; first | exact fun _ _ _ _ => rfl | exact RS.has (by assumption) | exact fun _ _ _ _ => (by assumption) | exact HasMem.ownD 0 rfl | exact HasMem.ownD 1 rfl | exact HasMem.ownD 2 rfl | exact HasMem.ownD 3 rfl | exact HasMem.ownD 4 rfl | exact HasMem.ownD 5 rfl | exact HasMem.ownD 6 rfl | exact HasMem.ownD 7 rfl)) ?_
      refine' WG.y rfl rfl (by decide) (Yl.load1 tab_ok rfl rfl rfl (fun _ => rfl) ?r1 rfl ?h1) ?_
      case r1 => (first | (apply RS.rdD; assumption; ((try dsimp only) <;> omega)) | exact Rd.slD 0 rfl (by (try dsimp only) <;> omega) | exact Rd.slD 1 rfl (by (try dsimp only) <;> omega) | exact Rd.slD 2 rfl (by (try dsimp only) <;> omega) | exact Rd.slD 3 rfl (by (try dsimp only) <;> omega) | exact Rd.slD 4 rfl (by (try dsimp only) <;> omega) | exact Rd.slD 5 rfl (by (try dsimp only) <;> omega) | exact Rd.slD 6 rfl (by (try dsimp only) <;> omega) | exact Rd.slD 7 rfl (by (try dsimp only) <;> omega))
      case h1 => rfl
      refine WL.ef rfl rfl (by decide) (Ef.alloc tab_ok rfl rfl (fun b4 => ?_))
      first | refine WL.efN rfl rfl (Ef.store0 0 tab_ok rfl rfl rfl rfl rfl rfl rfl rfl ?_) | refine WL.efN rfl rfl (Ef.store0 1 tab_ok rfl rfl rfl rfl rfl rfl rfl rfl ?_) | refine WL.efN rfl rfl (Ef.store0 2 tab_ok rfl rfl rfl rfl rfl rfl rfl rfl ?_) | refine WL.efN rfl rfl (Ef.store0 3 tab_ok rfl rfl rfl rfl rfl rfl rfl rfl ?_) | refine WL.efN rfl rfl (Ef.store0 4 tab_ok rfl rfl rfl rfl rfl rfl rfl rfl ?_) | refine WL.efN rfl rfl (Ef.store0 5 tab_ok rfl rfl rfl rfl rfl rfl rfl rfl ?_) | refine WL.efN rfl rfl (Ef.store0 6 tab_ok rfl rfl rfl rfl rfl rfl rfl rfl ?_) | refine WL.efN rfl rfl (Ef.store0 7 tab_ok rfl rfl rfl rfl rfl rfl rfl rfl ?_)
      refine WG.nil ?_
      refine WE.nxt ?_
      refine W.seq ?_
      refine W.seq ?_
      refine W.region _ ?_
      refine WG.run tab_ok 1 rfl ?_
      refine' WG.y rfl rfl (by decide) (Yl.load1 tab_ok rfl rfl rfl (fun _ => rfl) ?r2 rfl ?h2) ?_
      case r2 => apply Rd.add; (first | exact Rd.blk 0 rfl | exact Rd.blk 1 rfl | exact Rd.blk 2 rfl | exact Rd.blk 3 rfl | exact Rd.blk 4 rfl | exact Rd.blk 5 rfl | exact Rd.blk 6 rfl | exact Rd.blk 7 rfl)
      case h2 => rfl
      refine WG.run tab_ok 2 rfl ?_
      refine WG.y rfl rfl (by decide) (pureV_ok tab_ok rfl (by first | exact fun _ => rfl | exact fun h => h | (intro h; simp_all))) ?_
      refine' WG.y rfl rfl (by decide) (Yl.loadG tab_ok rfl rfl rfl (by first | exact fun _ => rfl | exact fun h => h | (intro h; simp_all)) ?r3 rfl ?h3 ?g3) ?_
      case r3 => apply Rd.addC; (first | exact Rd.blkC 0 rfl | exact Rd.blkC 1 rfl | exact Rd.blkC 2 rfl | exact Rd.blkC 3 rfl | exact Rd.blkC 4 rfl | exact Rd.blkC 5 rfl | exact Rd.blkC 6 rfl | exact Rd.blkC 7 rfl)
      case h3 => rfl
      case g3 => first | exact fun _ => trivial | (intro hg; (try simp only [decide_eq_true_eq, decide_eq_false_iff_not, beq_iff_eq, bne_iff_ne, beq_eq_false_iff_ne, bne_eq_false_iff_eq, ne_eq, Bool.or_eq_true, Bool.or_eq_false_iff, Bool.and_eq_true, Bool.and_eq_false_imp, Bool.not_eq_true, Bool.not_eq_true', Bool.not_eq_false', Classical.not_not, Int.not_lt, Int.not_le, gt_iff_lt, ge_iff_le] at hg); (try dsimp only); omega)
      refine WG.y rfl rfl (by decide) (pureV_ok tab_ok rfl (by first | exact fun _ => rfl | exact fun h => h | (intro h; simp_all))) ?_
      refine WG.y rfl rfl (by decide) (Yl.por rfl rfl rfl (fun _ => rfl) (by intro h1 h2; simp_all <;> omega)) ?_
      refine WG.run tab_ok 1 rfl ?_
      refine WG.y rfl rfl (by decide) (pureV_ok tab_ok rfl (by first | exact fun _ => rfl | exact fun h => h | (intro h; simp_all))) ?_
      refine' WG.y rfl rfl (by decide) (Yl.loadG tab_ok rfl rfl rfl (by first | exact fun _ => rfl | exact fun h => h | (intro h; simp_all)) ?r4 rfl ?h4 ?g4) ?_
      case r4 => apply Rd.addC; (first | exact Rd.blkC 0 rfl | exact Rd.blkC 1 rfl | exact Rd.blkC 2 rfl | exact Rd.blkC 3 rfl | exact Rd.blkC 4 rfl | exact Rd.blkC 5 rfl | exact Rd.blkC 6 rfl | exact Rd.blkC 7 rfl)
      case h4 => rfl
      case g4 => first | exact fun _ => trivial | (intro hg; (try simp only [decide_eq_true_eq, decide_eq_false_iff_not, beq_iff_eq, bne_iff_ne, beq_eq_false_iff_ne, bne_eq_false_iff_eq, ne_eq, Bool.or_eq_true, Bool.or_eq_false_iff, Bool.and_eq_true, Bool.and_eq_false_imp, Bool.not_eq_true, Bool.not_eq_true', Bool.not_eq_false', Classical.not_not, Int.not_lt, Int.not_le, gt_iff_lt, ge_iff_le] at hg); (try dsimp only); omega)
      refine WG.y rfl rfl (by decide) (pureV_ok tab_ok rfl (by first | exact fun _ => rfl | exact fun h => h | (intro h; simp_all))) ?_
      refine WG.y rfl rfl (by decide) (Yl.por rfl rfl rfl (fun _ => rfl) (by intro h1 h2; simp_all <;> omega)) ?_
      refine WG.run tab_ok 1 rfl ?_
      refine WG.y rfl rfl (by decide) (pureV_ok tab_ok rfl (by first | exact fun _ => rfl | exact fun h => h | (intro h; simp_all))) ?_
      refine' WG.y rfl rfl (by decide) (Yl.loadG tab_ok rfl rfl rfl (by first | exact fun _ => rfl | exact fun h => h | (intro h; simp_all)) ?r5 rfl ?h5 ?g5) ?_
      case r5 => apply Rd.addC; (first | exact Rd.blkC 0 rfl | exact Rd.blkC 1 rfl | exact Rd.blkC 2 rfl | exact Rd.blkC 3 rfl | exact Rd.blkC 4 rfl | exact Rd.blkC 5 rfl | exact Rd.blkC 6 rfl | exact Rd.blkC 7 rfl)
      case h5 => rfl
      case g5 => first | exact fun _ => trivial | (intro hg; (try simp only [decide_eq_true_eq, decide_eq_false_iff_not, beq_iff_eq, bne_iff_ne, beq_eq_false_iff_ne, bne_eq_false_iff_eq, ne_eq, Bool.or_eq_true, Bool.or_eq_false_iff, Bool.and_eq_true, Bool.and_eq_false_imp, Bool.not_eq_true, Bool.not_eq_true', Bool.not_eq_false', Classical.not_not, Int.not_lt, Int.not_le, gt_iff_lt, ge_iff_le] at hg); (try dsimp only); omega)
      refine WG.y rfl rfl (by decide) (pureV_ok tab_ok rfl (by first | exact fun _ => rfl | exact fun h => h | (intro h; simp_all))) ?_
      refine WG.y rfl rfl (by decide) (Yl.por rfl rfl rfl (fun _ => rfl) (by intro h1 h2; simp_all <;> omega)) ?_
      refine WG.run tab_ok 1 rfl ?_
      refine WG.y rfl rfl (by decide) (pureV_ok tab_ok rfl (by first | exact fun _ => rfl | exact fun h => h | (intro h; simp_all))) ?_
      refine' WG.y rfl rfl (by decide) (Yl.loadG tab_ok rfl rfl rfl (by first | exact fun _ => rfl | exact fun h => h | (intro h; simp_all)) ?r6 rfl ?h6 ?g6) ?_
      case r6 => apply Rd.addC; (first | exact Rd.blkC 0 rfl | exact Rd.blkC 1 rfl | exact Rd.blkC 2 rfl | exact Rd.blkC 3 rfl | exact Rd.blkC 4 rfl | exact Rd.blkC 5 rfl | exact Rd.blkC 6 rfl | exact Rd.blkC 7 rfl)
      case h6 => rfl
      case g6 => first | exact fun _ => trivial | (intro hg; (try simp only [decide_eq_true_eq, decide_eq_false_iff_not, beq_iff_eq, bne_iff_ne, beq_eq_false_iff_ne, bne_eq_false_iff_eq, ne_eq, Bool.or_eq_true, Bool.or_eq_false_iff, Bool.and_eq_true, Bool.and_eq_false_imp, Bool.not_eq_true, Bool.not_eq_true', Bool.not_eq_false', Classical.not_not, Int.not_lt, Int.not_le, gt_iff_lt, ge_iff_le] at hg); (try dsimp only); omega)
      refine WG.y rfl rfl (by decide) (pureV_ok tab_ok rfl (by first | exact fun _ => rfl | exact fun h => h | (intro h; simp_all))) ?_
      refine WG.y rfl rfl (by decide) (Yl.por rfl rfl rfl (fun _ => rfl) (by intro h1 h2; simp_all <;> omega)) ?_
      refine WG.run tab_ok 1 rfl ?_
      refine WG.y rfl rfl (by decide) (pureV_ok tab_ok rfl (by first | exact fun _ => rfl | exact fun h => h | (intro h; simp_all))) ?_
      refine' WG.y rfl rfl (by decide) (Yl.loadG tab_ok rfl rfl rfl (by first | exact fun _ => rfl | exact fun h => h | (intro h; simp_all)) ?r7 rfl ?h7 ?g7) ?_
      case r7 => apply Rd.addC; (first | exact Rd.blkC 0 rfl | exact Rd.blkC 1 rfl | exact Rd.blkC 2 rfl | exact Rd.blkC 3 rfl | exact Rd.blkC 4 rfl | exact Rd.blkC 5 rfl | exact Rd.blkC 6 rfl | exact Rd.blkC 7 rfl)
      case h7 => rfl
      case g7 => first | exact fun _ => trivial | (intro hg; (try simp only [decide_eq_true_eq, decide_eq_false_iff_not, beq_iff_eq, bne_iff_ne, beq_eq_false_iff_ne, bne_eq_false_iff_eq, ne_eq, Bool.or_eq_true, Bool.or_eq_false_iff, Bool.and_eq_true, Bool.and_eq_false_imp, Bool.not_eq_true, Bool.not_eq_true', Bool.not_eq_false', Classical.not_not, Int.not_lt, Int.not_le, gt_iff_lt, ge_iff_le] at hg); (try dsimp only); omega)
      refine WG.y rfl rfl (by decide) (pureV_ok tab_ok rfl (by first | exact fun _ => rfl | exact fun h => h | (intro h; simp_all))) ?_
      refine WG.y rfl rfl (by decide) (Yl.por rfl rfl rfl (fun _ => rfl) (by intro h1 h2; simp_all <;> omega)) ?_
      refine WG.nil ?_
      refine WE.nxt ?_
      refine W.cond rfl (fun hc2 => ?_) (fun hc2 => ?_)
      · try simp only [decide_eq_true_eq, decide_eq_false_iff_not, beq_iff_eq, bne_iff_ne, beq_eq_false_iff_ne, bne_eq_false_iff_eq, ne_eq, Bool.or_eq_true, Bool.or_eq_false_iff, Bool.and_eq_true, Bool.and_eq_false_imp, Bool.not_eq_true, Bool.not_eq_true', Bool.not_eq_false', Classical.not_not, Int.not_lt, Int.not_le, gt_iff_lt, ge_iff_le] at hc2
        rw [if_pos (show BadP (nth ps st) by unfold BadP; omega)] at hv
        refine W.seq ?_
        refine W.region _ ?_
        refine WG.run tab_ok 1 rfl ?_
        refine WG.nil ?_
        refine WE.nxt ?_
        refine W.ret ?_
        refine WE.then_ret ?_
        refine WE.blk_ret ?_
        refine WE.then_ret ?_
        refine WE.then_ret ?_
        refine WE.blk_ret ?_
        refine WE.then_ret ?_
        refine WE.subE (E' := E) (by (repeat (first | exact List.Sublist.refl _ | exact List.nil_sublist _ | apply List.Sublist.cons_cons | apply List.Sublist.cons)); done) ?_
        refine WE.retF tab_ok [_] rfl ⟨rfl, trivial⟩ (RLe.refl _) ?_
        exact ⟨by unfold validate; rw [if_neg (show ¬ 60 < ps.length by omega), ← hv]; rfl, rfl⟩
      · try simp only [decide_eq_true_eq, decide_eq_false_iff_not, beq_iff_eq, bne_iff_ne, beq_eq_false_iff_ne, bne_eq_false_iff_eq, ne_eq, Bool.or_eq_true, Bool.or_eq_false_iff, Bool.and_eq_true, Bool.and_eq_false_imp, Bool.not_eq_true, Bool.not_eq_true', Bool.not_eq_false', Classical.not_not, Int.not_lt, Int.not_le, gt_iff_lt, ge_iff_le] at hc2
        rw [if_neg (show ¬ BadP (nth ps st) by unfold BadP; omega)] at hv
        refine W.skip ?_
        refine WE.nxt ?_
        refine W.seq ?_
        refine W.regionQ _ mixed (by kernel_rfl) ?_
        refine WG.run tab_ok 3 rfl ?_
        refine WG.y rfl rfl (by decide) (pureV_ok tab_ok rfl (by first | exact fun _ => rfl | exact fun h => h | (intro h; simp_all))) ?_
        refine' WG.y rfl rfl (by decide) (Yl.loadG tab_ok rfl rfl rfl (by first | exact fun _ => rfl | exact fun h => h | (intro h; simp_all)) ?r8 rfl ?h8 ?g8) ?_
        case r8 => apply Rd.addC; (first | exact Rd.blkC 0 rfl | exact Rd.blkC 1 rfl | exact Rd.blkC 2 rfl | exact Rd.blkC 3 rfl | exact Rd.blkC 4 rfl | exact Rd.blkC 5 rfl | exact Rd.blkC 6 rfl | exact Rd.blkC 7 rfl)
        case h8 => rfl
        case g8 => first | exact fun _ => trivial | (intro hg; (try simp only [decide_eq_true_eq, decide_eq_false_iff_not, beq_iff_eq, bne_iff_ne, beq_eq_false_iff_ne, bne_eq_false_iff_eq, ne_eq, Bool.or_eq_true, Bool.or_eq_false_iff, Bool.and_eq_true, Bool.and_eq_false_imp, Bool.not_eq_true, Bool.not_eq_true', Bool.not_eq_false', Classical.not_not, Int.not_lt, Int.not_le, gt_iff_lt, ge_iff_le] at hg); (try dsimp only); omega)
        refine WG.y rfl rfl (by decide) (pureV_ok tab_ok rfl (by first | exact fun _ => rfl | exact fun h => h | (intro h; simp_all))) ?_
        refine WG.y rfl rfl (by decide) (pureV_ok tab_ok rfl (by first | exact fun _ => rfl | exact fun h => h | (intro h; simp_all))) ?_
        refine WG.y rfl rfl (by decide) (Yl.sub rfl rfl rfl (by first | exact fun _ => rfl | exact fun h => h | (intro h; simp_all)) (by intro hg; (try simp only [decide_eq_true_eq, decide_eq_false_iff_not, beq_iff_eq, bne_iff_ne, beq_eq_false_iff_ne, bne_eq_false_iff_eq, ne_eq, Bool.or_eq_true, Bool.or_eq_false_iff, Bool.and_eq_true, Bool.and_eq_false_imp, Bool.not_eq_true, Bool.not_eq_true', Bool.not_eq_false', Classical.not_not, Int.not_lt, Int.not_le, gt_iff_lt, ge_iff_le] at hg); constructor <;> (try dsimp only) <;> omega)) ?_
        refine WG.y rfl rfl (by decide) (Yl.index tab_ok rfl rfl rfl rfl rfl rfl (by first | exact fun _ => rfl | exact fun h => h | (intro h; simp_all)) (by intro hg; (try simp only [decide_eq_true_eq, decide_eq_false_iff_not, beq_iff_eq, bne_iff_ne, beq_eq_false_iff_ne, bne_eq_false_iff_eq, ne_eq, Bool.or_eq_true, Bool.or_eq_false_iff, Bool.and_eq_true, Bool.and_eq_false_imp, Bool.not_eq_true, Bool.not_eq_true', Bool.not_eq_false', Classical.not_not, Int.not_lt, Int.not_le, gt_iff_lt, ge_iff_le] at hg); constructor <;> (try dsimp only) <;> omega) (by intro hg; (try simp only [decide_eq_true_eq, decide_eq_false_iff_not, beq_iff_eq, bne_iff_ne, beq_eq_false_iff_ne, bne_eq_false_iff_eq, ne_eq, Bool.or_eq_true, Bool.or_eq_false_iff, Bool.and_eq_true, Bool.and_eq_false_imp, Bool.not_eq_true, Bool.not_eq_true', Bool.not_eq_false', Classical.not_not, Int.not_lt, Int.not_le, gt_iff_lt, ge_iff_le] at hg); first | exact fun _ _ _ _ => rfl | exact RS.has (by assumption) | exact fun _ _ _ _ => (by assumption) | exact HasMem.ownD 0 rfl | exact HasMem.ownD 1 rfl | exact HasMem.ownD 2 rfl | exact HasMem.ownD 3 rfl | exact HasMem.ownD 4 rfl | exact HasMem.ownD 5 rfl | exact HasMem.ownD 6 rfl | exact HasMem.ownD 7 rfl)) ?_
        refine WG.y rfl rfl (by decide) (pureV_ok tab_ok rfl (by first | exact fun _ => rfl | exact fun h => h | (intro h; simp_all))) ?_
        refine' WG.y rfl rfl (by decide) (Yl.loadG tab_ok rfl rfl rfl (by first | exact fun _ => rfl | exact fun h => h | (intro h; simp_all)) ?r9 rfl ?h9 ?g9) ?_
        case r9 => apply Rd.addC; (first | (apply RS.rdC; assumption) | exact Rd.slC 0 rfl | exact Rd.slC 1 rfl | exact Rd.slC 2 rfl | exact Rd.slC 3 rfl | exact Rd.slC 4 rfl | exact Rd.slC 5 rfl | exact Rd.slC 6 rfl | exact Rd.slC 7 rfl)
        case h9 => rfl
        case g9 => first | exact fun _ => trivial | (intro hg; (try simp only [decide_eq_true_eq, decide_eq_false_iff_not, beq_iff_eq, bne_iff_ne, beq_eq_false_iff_ne, bne_eq_false_iff_eq, ne_eq, Bool.or_eq_true, Bool.or_eq_false_iff, Bool.and_eq_true, Bool.and_eq_false_imp, Bool.not_eq_true, Bool.not_eq_true', Bool.not_eq_false', Classical.not_not, Int.not_lt, Int.not_le, gt_iff_lt, ge_iff_le] at hg); (try dsimp only); omega)
        refine WG.y rfl rfl (by decide) (pureV_ok tab_ok rfl (by first | exact fun _ => rfl | exact fun h => h | (intro h; simp_all))) ?_
        refine WG.y rfl rfl (by decide) (Yl.pand rfl rfl rfl (fun _ => rfl) (by intro h1 h2; simp_all <;> omega)) ?_
        refine WG.nil ?_
        refine WE.nxt ?_
        refine W.cond rfl (fun hc3 => ?_) (fun hc3 => ?_)
        · try simp only [decide_eq_true_eq, decide_eq_false_iff_not, beq_iff_eq, bne_iff_ne, beq_eq_false_iff_ne, bne_eq_false_iff_eq, ne_eq, Bool.or_eq_true, Bool.or_eq_false_iff, Bool.and_eq_true, Bool.and_eq_false_imp, Bool.not_eq_true, Bool.not_eq_true', Bool.not_eq_false', Classical.not_not, Int.not_lt, Int.not_le, gt_iff_lt, ge_iff_le] at hc3
          obtain ⟨hc4, hc5⟩ := hc3
          rw [hk0 (by omega)] at hc5
          rw [if_neg (show ¬ st = 0 by omega), if_pos hc5] at hv
          refine W.seq ?_
          refine W.region _ ?_
          refine WG.run tab_ok 1 rfl ?_
          refine WG.nil ?_
          refine WE.nxt ?_
          refine W.ret ?_
          refine WE.blk_ret ?_
          refine WE.then_ret ?_
          refine WE.then_ret ?_
          refine WE.blk_ret ?_
          refine WE.then_ret ?_
          refine WE.subE (E' := E) (by (repeat (first | exact List.Sublist.refl _ | exact List.nil_sublist _ | apply List.Sublist.cons_cons | apply List.Sublist.cons)); done) ?_
          refine WE.retF tab_ok [_] rfl ⟨rfl, trivial⟩ (RLe.refl _) ?_
          exact ⟨by unfold validate; rw [if_neg (show ¬ 60 < ps.length by omega), ← hv]; rfl, rfl⟩
        · try simp only [decide_eq_true_eq, decide_eq_false_iff_not, beq_iff_eq, bne_iff_ne, beq_eq_false_iff_ne, bne_eq_false_iff_eq, ne_eq, Bool.or_eq_true, Bool.or_eq_false_iff, Bool.and_eq_true, Bool.and_eq_false_imp, Bool.not_eq_true, Bool.not_eq_true', Bool.not_eq_false', Classical.not_not, Int.not_lt, Int.not_le, gt_iff_lt, ge_iff_le] at hc3
          have hc4 : ¬ (nth ps st).time < (if st = 0 then 0 else (nth ps (st - 1)).time) := by
            split
            · have hb : ¬ BadP (nth ps st) := by unfold BadP; omega
              unfold BadP at hb; omega
            · rw [← hk0 (by omega)]
              have := hc3 (by omega); omega
          rw [if_neg hc4] at hv
          refine W.skip ?_
          refine WE.blk _ ?_
          refine WE.nxt ?_
          refine W.region _ ?_
          refine WG.run tab_ok 1 rfl ?_
          refine WG.y rfl rfl (by decide) (Yl.add rfl rfl rfl (fun _ => rfl) (by intro _; constructor <;> (try dsimp only) <;> omega)) ?_
          refine WG.run tab_ok 1 rfl ?_
          refine WG.nil ?_
          refine WE.again (st + 1) (⟨by omega, by simpa using hv⟩) (by (try dsimp only); omega) ⟨rfl, rfl, rfl⟩ (RLe.refl _) (by (repeat (first | exact List.Sublist.refl _ | exact List.nil_sublist _ | apply List.Sublist.cons_cons | apply List.Sublist.cons)); done)
    · try dsimp only at hc1
      obtain rfl : st = ps.length := by omega
      simp only [List.drop_length, valGo] at hv
      refine W.exit ?_
      refine WE.then_exit ?_
      refine WE.then_exit ?_
      refine WE.blk_exit ?_
      refine WE.nxt ?_
      refine W.seq ?_
      refine W.region _ ?_
      refine WG.run tab_ok 1 rfl ?_
      refine WG.nil ?_
      refine WE.nxt ?_
      refine W.ret ?_
      refine WE.subE (E' := E) (by (repeat (first | exact List.Sublist.refl _ | exact List.nil_sublist _ | apply List.Sublist.cons_cons | apply List.Sublist.cons)); done) ?_
      refine WE.retF tab_ok [_] rfl ⟨rfl, trivial⟩ (RLe.refl _) ?_
      exact ⟨by unfold validate; rw [if_neg (show ¬ 60 < ps.length by omega)]; exact congrArg (Value.int .i64) hv, rfl⟩

theorem BytesR_V {R : Ro} {a : Option Addr} {c : Nat} {ps : List Pkt} (ha : RS R 3 encP a ps) {flow t : Int} (hs : ∀ p ∈ ps, 0 ≤ p.size ∧ p.size ≤ 1000000) (hl : ps.length ≤ 1000000) : FnV Try.prog 88 [.slice a ps.length c, .int .i64 flow, .int .i64 t] R (.int .i64 (pbytes flow t ps)) := by
  have hla := ha.len
  refine Fn.toV (fun w0 E => ?_)
  refine Fn.enter (n := 47) Try.func88 rfl rfl (Nat.le_of_ble_eq_true rfl) rfl ?_
  refine W.seq ?_
  refine W.region _ ?_
  refine WG.run tab_ok 1 rfl ?_
  refine WG.nil ?_
  refine WE.nxt ?_
  refine W.seq ?_
  refine W.region _ ?_
  refine WG.run tab_ok 1 rfl ?_
  refine WG.nil ?_
  refine WE.nxt ?_
  refine W.seq ?_
  refine W.seq ?_
  refine W.region _ ?_
  refine WG.run tab_ok 1 rfl ?_
  refine WG.nil ?_
  refine WE.nxt ?_
  refine W.block ?_
  refine W.loop (β := Nat) (fun k => k ≤ ps.length) (fun k => [(0, true, .slice a ps.length c), (1, true, .int .i64 flow), (2, true, .int .i64 t), (7, true, .int .i64 (pbytes flow t (ps.take k))), (8, true, .int .i64 (k : Int))]) (fun _ => R) (fun _ => E) (fun k => ps.length - k) (0) (Nat.zero_le _) ⟨rfl, rfl, rfl, rfl, rfl, rfl⟩ (RLe.refl _) (by (repeat (first | exact List.Sublist.refl _ | exact List.nil_sublist _ | apply List.Sublist.cons_cons | apply List.Sublist.cons)); done) ?_
  intro st hst
  have hk : st ≤ ps.length := hst
  have hb := pbytes_bound flow t (ps.take st) (fun p hp => hs p (List.mem_of_mem_take hp))
  have hb2 := List.length_take_le st ps
  refine W.seq ?_
  refine W.seq ?_
  refine W.region _ ?_
  refine WG.run tab_ok 4 rfl ?_
  refine WG.nil ?_
  refine WE.nxt ?_
  refine W.condD rfl (fun hc0 => ?_) (fun hc0 => ?_)
  · try dsimp only at hc0
    have hm := hs _ (nth_mem (xs := ps) (k := st) (by omega))
    have htk := pbytes_snoc flow t (ps.take st) (nth ps st)
    rw [← take_nth (by omega)] at htk
    refine W.skip ?_
    refine WE.nxt ?_
    refine W.seq ?_
    refine W.block ?_
    refine W.seq ?_
    refine W.region _ ?_
    refine WG.run tab_ok 2 rfl ?_
    refine WG.y rfl rfl (by decide) (Yl.indexN tab_ok rfl rfl rfl rfl rfl rfl (fun _ => rfl) (by intro _; (try dsimp only) <;> omega) (by intro _; first | exact fun _ _ _ _ => rfl | exact RS.has (by assumption) | exact fun _ _ _ _ => (by assumption) | exact HasMem.ownD 0 rfl | exact HasMem.ownD 1 rfl | exact HasMem.ownD 2 rfl | exact HasMem.ownD 3 rfl | exact HasMem.ownD 4 rfl | exact HasMem.ownD 5 rfl | exact HasMem.ownD 6 rfl | exact HasMem.ownD 7 rfl)) ?_
    refine WG.run tab_ok 1 rfl ?_
    refine' WG.y rfl rfl (by decide) (Yl.load1 tab_ok rfl rfl rfl (fun _ => rfl) ?r1 rfl ?h1) ?_
    case r1 => apply Rd.add; (first | (apply RS.rdD; assumption; ((try dsimp only) <;> omega)) | exact Rd.slD 0 rfl (by (try dsimp only) <;> omega) | exact Rd.slD 1 rfl (by (try dsimp only) <;> omega) | exact Rd.slD 2 rfl (by (try dsimp only) <;> omega) | exact Rd.slD 3 rfl (by (try dsimp only) <;> omega) | exact Rd.slD 4 rfl (by (try dsimp only) <;> omega) | exact Rd.slD 5 rfl (by (try dsimp only) <;> omega) | exact Rd.slD 6 rfl (by (try dsimp only) <;> omega) | exact Rd.slD 7 rfl (by (try dsimp only) <;> omega))
    case h1 => rfl
    refine WG.run tab_ok 3 rfl ?_
    refine WG.y rfl rfl (by decide) (pureV_ok tab_ok rfl (by first | exact fun _ => rfl | exact fun h => h | (intro h; simp_all))) ?_
    refine WG.y rfl rfl (by decide) (pureV_ok tab_ok rfl (by first | exact fun _ => rfl | exact fun h => h | (intro h; simp_all))) ?_
    refine WG.y rfl rfl (by decide) (Yl.pand rfl rfl rfl (fun _ => rfl) (by intro h1 h2; simp_all <;> omega)) ?_
    refine WG.run tab_ok 1 rfl ?_
    refine WG.y rfl rfl (by decide) (pureV_ok tab_ok rfl (by first | exact fun _ => rfl | exact fun h => h | (intro h; simp_all))) ?_
    refine WG.y rfl rfl (by decide) (pureV_ok tab_ok rfl (by first | exact fun _ => rfl | exact fun h => h | (intro h; simp_all))) ?_
    refine WG.y rfl rfl (by decide) (pureV_ok tab_ok rfl (by first | exact fun _ => rfl | exact fun h => h | (intro h; simp_all))) ?_
    refine WG.y rfl rfl (by decide) (pureV_ok tab_ok rfl (by first | exact fun _ => rfl | exact fun h => h | (intro h; simp_all))) ?_
    refine WG.y rfl rfl (by decide) (pureV_ok tab_ok rfl (by first | exact fun _ => rfl | exact fun h => h | (intro h; simp_all))) ?_
    refine WG.y rfl rfl (by decide) (Yl.indexN tab_ok rfl rfl rfl rfl rfl rfl (by first | exact fun _ => rfl | exact fun h => h | (intro h; simp_all)) (by intro hg; (try simp only [decide_eq_true_eq, decide_eq_false_iff_not, beq_iff_eq, bne_iff_ne, beq_eq_false_iff_ne, bne_eq_false_iff_eq, ne_eq, Bool.or_eq_true, Bool.or_eq_false_iff, Bool.and_eq_true, Bool.and_eq_false_imp, Bool.not_eq_true, Bool.not_eq_true', Bool.not_eq_false', Classical.not_not, Int.not_lt, Int.not_le, gt_iff_lt, ge_iff_le] at hg); (try dsimp only) <;> omega) (by intro hg; (try simp only [decide_eq_true_eq, decide_eq_false_iff_not, beq_iff_eq, bne_iff_ne, beq_eq_false_iff_ne, bne_eq_false_iff_eq, ne_eq, Bool.or_eq_true, Bool.or_eq_false_iff, Bool.and_eq_true, Bool.and_eq_false_imp, Bool.not_eq_true, Bool.not_eq_true', Bool.not_eq_false', Classical.not_not, Int.not_lt, Int.not_le, gt_iff_lt, ge_iff_le] at hg); first | exact fun _ _ _ _ => rfl | exact RS.has (by assumption) | exact fun _ _ _ _ => (by assumption) | exact HasMem.ownD 0 rfl | exact HasMem.ownD 1 rfl | exact HasMem.ownD 2 rfl | exact HasMem.ownD 3 rfl | exact HasMem.ownD 4 rfl | exact HasMem.ownD 5 rfl | exact HasMem.ownD 6 rfl | exact HasMem.ownD 7 rfl)) ?_
    refine WG.y rfl rfl (by decide) (pureV_ok tab_ok rfl (by first | exact fun _ => rfl | exact fun h => h | (intro h; simp_all))) ?_
    refine' WG.y rfl rfl (by decide) (Yl.loadG tab_ok rfl rfl rfl (by first | exact fun _ => rfl | exact fun h => h | (intro h; simp_all)) ?r2 rfl ?h2 ?g2) ?_
    case r2 => apply Rd.addC; (first | (apply RS.rdC; assumption) | exact Rd.slC 0 rfl | exact Rd.slC 1 rfl | exact Rd.slC 2 rfl | exact Rd.slC 3 rfl | exact Rd.slC 4 rfl | exact Rd.slC 5 rfl | exact Rd.slC 6 rfl | exact Rd.slC 7 rfl)
    case h2 => rfl
    case g2 => first | exact fun _ => trivial | (intro hg; (try simp only [decide_eq_true_eq, decide_eq_false_iff_not, beq_iff_eq, bne_iff_ne, beq_eq_false_iff_ne, bne_eq_false_iff_eq, ne_eq, Bool.or_eq_true, Bool.or_eq_false_iff, Bool.and_eq_true, Bool.and_eq_false_imp, Bool.not_eq_true, Bool.not_eq_true', Bool.not_eq_false', Classical.not_not, Int.not_lt, Int.not_le, gt_iff_lt, ge_iff_le] at hg); (try dsimp only); omega)
    refine WG.y rfl rfl (by decide) (pureV_ok tab_ok rfl (by first | exact fun _ => rfl | exact fun h => h | (intro h; simp_all))) ?_
    refine WG.y rfl rfl (by decide) (pureV_ok tab_ok rfl (by first | exact fun _ => rfl | exact fun h => h | (intro h; simp_all))) ?_
    refine WG.y rfl rfl (by decide) (Yl.por rfl rfl rfl (by first | exact fun _ => rfl | exact fun h => h | (intro h; simp_all)) (by intro h1 h2; simp_all <;> omega)) ?_
    refine WG.y rfl rfl (by decide) (Yl.pand rfl rfl rfl (fun _ => rfl) (by intro h1 h2; simp_all <;> omega)) ?_
    refine WG.nil ?_
    refine WE.nxt ?_
    refine W.cond rfl (fun hc1 => ?_) (fun hc1 => ?_)
    · try simp only [decide_eq_true_eq, decide_eq_false_iff_not, beq_iff_eq, bne_iff_ne, beq_eq_false_iff_ne, bne_eq_false_iff_eq, ne_eq, Bool.or_eq_true, Bool.or_eq_false_iff, Bool.and_eq_true, Bool.and_eq_false_imp, Bool.not_eq_true, Bool.not_eq_true', Bool.not_eq_false', Classical.not_not, Int.not_lt, Int.not_le, gt_iff_lt, ge_iff_le] at hc1
      rw [if_pos (show hit flow t (nth ps st) by unfold hit; omega)] at htk
      refine W.region _ ?_
      refine WG.run tab_ok 3 rfl ?_
      refine WG.y rfl rfl (by decide) (Yl.indexN tab_ok rfl rfl rfl rfl rfl rfl (fun _ => rfl) (by intro _; (try dsimp only) <;> omega) (by intro _; first | exact fun _ _ _ _ => rfl | exact RS.has (by assumption) | exact fun _ _ _ _ => (by assumption) | exact HasMem.ownD 0 rfl | exact HasMem.ownD 1 rfl | exact HasMem.ownD 2 rfl | exact HasMem.ownD 3 rfl | exact HasMem.ownD 4 rfl | exact HasMem.ownD 5 rfl | exact HasMem.ownD 6 rfl | exact HasMem.ownD 7 rfl)) ?_
      refine WG.run tab_ok 1 rfl ?_
      refine' WG.y rfl rfl (by decide) (Yl.load1 tab_ok rfl rfl rfl (fun _ => rfl) ?r3 rfl ?h3) ?_
      case r3 => apply Rd.add; (first | (apply RS.rdD; assumption; ((try dsimp only) <;> omega)) | exact Rd.slD 0 rfl (by (try dsimp only) <;> omega) | exact Rd.slD 1 rfl (by (try dsimp only) <;> omega) | exact Rd.slD 2 rfl (by (try dsimp only) <;> omega) | exact Rd.slD 3 rfl (by (try dsimp only) <;> omega) | exact Rd.slD 4 rfl (by (try dsimp only) <;> omega) | exact Rd.slD 5 rfl (by (try dsimp only) <;> omega) | exact Rd.slD 6 rfl (by (try dsimp only) <;> omega) | exact Rd.slD 7 rfl (by (try dsimp only) <;> omega))
      case h3 => rfl
      refine WG.y rfl rfl (by decide) (Yl.add rfl rfl rfl (fun _ => rfl) (by intro _; constructor <;> (try dsimp only) <;> omega)) ?_
      refine WG.run tab_ok 1 rfl ?_
      refine WG.nil ?_
      refine WE.blk _ ?_
      refine WE.nxt ?_
      refine W.region _ ?_
      refine WG.run tab_ok 1 rfl ?_
      refine WG.y rfl rfl (by decide) (Yl.add rfl rfl rfl (fun _ => rfl) (by intro _; constructor <;> (try dsimp only) <;> omega)) ?_
      refine WG.run tab_ok 1 rfl ?_
      refine WG.nil ?_
      refine WE.again (st + 1) (by omega) (by (try dsimp only); omega) ⟨rfl, rfl, rfl, vint htk.symm, rfl, rfl⟩ (RLe.refl _) (by (repeat (first | exact List.Sublist.refl _ | exact List.nil_sublist _ | apply List.Sublist.cons_cons | apply List.Sublist.cons)); done)
    · try simp only [decide_eq_true_eq, decide_eq_false_iff_not, beq_iff_eq, bne_iff_ne, beq_eq_false_iff_ne, bne_eq_false_iff_eq, ne_eq, Bool.or_eq_true, Bool.or_eq_false_iff, Bool.and_eq_true, Bool.and_eq_false_imp, Bool.not_eq_true, Bool.not_eq_true', Bool.not_eq_false', Classical.not_not, Int.not_lt, Int.not_le, gt_iff_lt, ge_iff_le] at hc1
      rw [if_neg (show ¬ hit flow t (nth ps st) by unfold hit; omega)] at htk
      refine W.skip ?_
      refine WE.blk _ ?_
      refine WE.nxt ?_
      refine W.region _ ?_
      refine WG.run tab_ok 1 rfl ?_
      refine WG.y rfl rfl (by decide) (Yl.add rfl rfl rfl (fun _ => rfl) (by intro _; constructor <;> (try dsimp only) <;> omega)) ?_
      refine WG.run tab_ok 1 rfl ?_
      refine WG.nil ?_
      refine WE.again (st + 1) (by omega) (by (try dsimp only); omega) ⟨rfl, rfl, rfl, vint (by rw [htk]; omega), rfl, rfl⟩ (RLe.refl _) (by (repeat (first | exact List.Sublist.refl _ | exact List.nil_sublist _ | apply List.Sublist.cons_cons | apply List.Sublist.cons)); done)
  · try dsimp only at hc0
    obtain rfl : st = ps.length := by omega
    refine W.exit ?_
    refine WE.then_exit ?_
    refine WE.then_exit ?_
    refine WE.blk_exit ?_
    refine WE.nxt ?_
    refine W.seq ?_
    refine W.region _ ?_
    refine WG.run tab_ok 2 rfl ?_
    refine WG.nil ?_
    refine WE.nxt ?_
    refine W.ret ?_
    refine WE.subE (E' := E) (by (repeat (first | exact List.Sublist.refl _ | exact List.nil_sublist _ | apply List.Sublist.cons_cons | apply List.Sublist.cons)); done) ?_
    refine WE.retF tab_ok [_] rfl ⟨rfl, trivial⟩ (RLe.refl _) ?_
    exact ⟨by rw [List.take_length]; rfl, rfl⟩

end Go.Proofs.Ytcfnckccmkjjlaa
