/- Rules and walks, joined from 34 texts: the first of them says: Deficit round robin while a class is backlogged, plain: what the others take. No condition. -/
import Derived.Test.YtejpkjapmhpmpaaDoorG2
/- Deficit round robin while a class is backlogged, plain: what the others take. No condition. -/
namespace Go.Proofs.YtejpkjapmhpmpaaDoor.M
open Go Go.Proofs.YtejpkjapmhpmpaaDoor.K

def sumF (f : Nat → Int) : Nat → Int
  | 0 => 0
  | n + 1 => sumF f n + f n
theorem sumF_congr {f g : Nat → Int} : ∀ {n : Nat}, (∀ i, i < n → f i = g i) → sumF f n = sumF g n
 | 0, _ => rfl
 | n + 1, h => by simp only [sumF]; rw [sumF_congr (fun i hi => h i (by omega)), h n (by omega)]
theorem sumF_le {f g : Nat → Int} : ∀ {n : Nat}, (∀ i, i < n → f i ≤ g i) → sumF f n ≤ sumF g n
 | 0, _ => Int.le_refl _
 | n + 1, h => by have a := sumF_le (fun i hi => h i (by omega) : ∀ i, i < n → f i ≤ g i); have b := h n (by omega); simp only [sumF]; omega
theorem sumF_change {f g : Nat → Int} {c : Nat} : ∀ {n : Nat}, c < n → (∀ i, i < n → i ≠ c → g i = f i) → sumF g n = sumF f n + (g c - f c)
 | 0, h, _ => by omega
 | n + 1, hc, h => by
  simp only [sumF]
  by_cases e : c = n
  ·subst e
   rw [sumF_congr (fun i hi => h i (by omega) (by omega) : ∀ i, i < c → g i = f i)]; omega
  ·rw [sumF_change (by omega) (fun i hi hne => h i (by omega) hne : ∀ i, i < n → i ≠ c → g i = f i), h n (by omega) (by omega)]; omega
theorem sumF_add {f g : Nat → Int} : ∀ {n : Nat}, sumF (fun i => f i + g i) n = sumF f n + sumF g n
 | 0 => rfl
 | n + 1 => by simp only [sumF]; rw [sumF_add]; omega
def xF (k : Nat) (w : List Int) (z : List Sz) (i : Nat) : Int := if i ≠ k ∧ 1 ≤ (nth z i).most then nth w i else 0
def zF (k : Nat) (z : List Sz) (i : Nat) : Int := if i ≠ k ∧ 1 ≤ (nth z i).most then (nth z i).most - 1 else 0
theorem xSum_eq {k : Nat} {w : List Int} {z : List Sz} : ∀ n : Nat, xSum k w z n = sumF (xF k w z) n
 | 0 => rfl
 | n + 1 => by
  simp only [xSum, sumF, xSum_eq n]
  congr 1
  unfold xF
  by_cases h : n ≠ k ∧ 1 ≤ (nth z n).most
  ·rw [if_pos h, if_pos ⟨by omega, h.2⟩]
  ·rw [if_neg h, if_neg (fun hh => h ⟨by omega, hh.2⟩)]
/-- the quantum of class i is still to be given before class k's next one -/
def pend (k c : Nat) (b : Bool) (i : Nat) : Bool := if c = k then b else (decide (i ≠ c) || !b) && (if c ≤ k then decide (c ≤ i ∧ i < k) else decide (c ≤ i ∨ i < k))
theorem pend_iff {k c i : Nat} {b : Bool} : pend k c b i = true ↔ (c = k ∧ b = true) ∨ (c ≠ k ∧ (i ≠ c ∨ b = false) ∧ ((c ≤ k ∧ c ≤ i ∧ i < k) ∨ (¬ c ≤ k ∧ (c ≤ i ∨ i < k)))) := by
 unfold pend
 by_cases h1 : c = k
 ·rw [if_pos h1]; simp [h1]
 ·rw [if_neg h1]
  by_cases h2 : c ≤ k
  ·rw [if_pos h2]; cases b <;> simp [h1, h2]
  ·rw [if_neg h2]; cases b <;> simp [h1, h2]
theorem pend_next {k c n i : Nat} (hc : c < n) (hk : k < n) (hn : 2 ≤ n) (hi : i < n) (hik : i ≠ k) : pend k ((c + 1) % n) false i = pend k c true i := by
 rw [mod_succ hc, Bool.eq_iff_iff, pend_iff, pend_iff]
 have e1 : (false = true) = False := by simp
 have e2 : (true = false) = False := by simp
 by_cases hl : c + 1 < n
 ·rw [if_pos hl, e1, e2]
  simp only [and_false, or_false, and_true, or_true, true_and, false_or]
  omega
 ·rw [if_neg hl, e1, e2]
  simp only [and_false, or_false, and_true, or_true, true_and, false_or]
  omega
theorem pend_self {k c : Nat} (h : c ≠ k) : pend k c true c = false := by unfold pend; rw [if_neg h]; simp
theorem pend_self' {k c : Nat} (h : c ≠ k) : pend k c false c = true := by unfold pend; rw [if_neg h]; split <;> simp <;> omega
theorem pend_other {k c i : Nat} {b : Bool} (h : c ≠ k) (hi : i ≠ c) : pend k c b i = pend k c true i := by unfold pend; rw [if_neg h, if_neg h]; simp [hi]
theorem pend_k {k i : Nat} {b : Bool} : pend k k b i = b := by unfold pend; rw [if_pos rfl]
/-- deficits saved, and quanta to come -/
def potF (w : List Int) (z : List Sz) (k c : Nat) (b : Bool) (d : List Int) (i : Nat) : Int := if i ≠ k ∧ 1 ≤ (nth z i).most then nth d i + (if pend k c b i = true then nth w i else 0) else 0
/-- the deficits: what is saved is less than a packet, but of the class that is visited -/
def DD (n : Nat) (z : List Sz) (c : Nat) (b : Bool) (d : List Int) : Prop := c < n ∧ d.length = n ∧ ∀ i, i < n → 0 ≤ nth d i ∧ (¬ (i = c ∧ b = true) → 1 ≤ (nth z i).most → nth d i ≤ (nth z i).most - 1)
def JD (w : List Int) (z : List Sz) (k c : Nat) (b : Bool) (d : List Int) (op own oth : Int) : Prop :=
  DD w.length z c b d ∧ ∃ v : Nat, oth + (if c = k then 0 else op) + sumF (potF w z k c b d) w.length ≤ ((v : Int) + 1) * xSum k w z w.length + zSum k z w.length ∧
    (v : Int) * nth w k ≤ own + (if c = k then op else 0) + nth d k ∧ (c = k → b = true → ((v : Int) - 1) * nth w k - ((nth z k).most - 1) ≤ own)
section
variable {nx sz : Int → Int} {w : List Int} {z : List Sz} {k : Nat}
theorem DD.grant (hw : ∀ x ∈ w, 1 ≤ x) {c : Nat} {b : Bool} {d : List Int} (h : DD w.length z c b d) (h0 : 0 ≤ nx c) : DD w.length z c true (M.grant nx w c b d) := by
 obtain ⟨h1, h2, h3⟩ := h
 refine ⟨h1, by rw [grant_len]; exact h2, fun i hi => ?_⟩
 have a := h3 i hi
 by_cases e : i = c
 ·subst e
  refine ⟨?_, fun hn => absurd ⟨rfl, rfl⟩ hn⟩
  rw [grant_self (by omega)]
  have := hw _ (nth_mem hi)
  split <;> omega
 ·rw [grant_ne e]
  exact ⟨a.1, fun _ hm => a.2 (fun hh => e hh.1) hm⟩
theorem DD.pick {c : Nat} {d : List Int} (h : DD w.length z c true d) {s : Int} (hs : s ≤ nth d c) : DD w.length z c true (d.set c (nth d c - s)) := by
 obtain ⟨h1, h2, h3⟩ := h
 refine ⟨h1, by rw [List.length_set]; exact h2, fun i hi => ?_⟩
 have a := h3 i hi
 by_cases e : i = c
 ·subst e
  rw [nth_set_self (by omega)]
  exact ⟨by omega, fun hn => absurd ⟨rfl, rfl⟩ hn⟩
 ·rw [nth_set_ne (Ne.symm e)]
  exact ⟨a.1, fun _ hm => a.2 (fun hh => e hh.1) hm⟩
theorem DD.next {c : Nat} {b : Bool} {d : List Int} (h : DD w.length z c b d) (hlt : 1 ≤ (nth z c).most → nth d c ≤ (nth z c).most - 1) : DD w.length z ((c + 1) % w.length) false d := by
 obtain ⟨h1, h2, h3⟩ := h
 refine ⟨Nat.mod_lt _ (by omega), h2, fun i hi => ?_⟩
 have a := h3 i hi
 refine ⟨a.1, fun _ hm => ?_⟩
 by_cases e : i = c
 ·subst e; exact hlt hm
 ·exact a.2 (fun hh => e hh.1) hm
theorem JD.grant (hw : ∀ x ∈ w, 1 ≤ x) (hk : k < w.length) (hL : 1 ≤ (nth z k).most) {c : Nat} {b : Bool} {d : List Int} {own oth : Int} (h : JD w z k c b d 0 own oth) (h0 : 0 ≤ nx c) : JD w z k c true (M.grant nx w c b d) 0 own oth := by
 obtain ⟨hd, v, a1, a2, a3⟩ := h
 refine ⟨hd.grant hw h0, ?_⟩
 have hcl : c < d.length := by rw [hd.2.1]; exact hd.1
 cases b with
 | true =>
  have e : M.grant nx w c true d = d := by unfold M.grant; rw [if_neg (by simp)]
  rw [e]; exact ⟨v, a1, a2, a3⟩
 | false =>
  have eg : nth (M.grant nx w c false d) c = nth d c + nth w c := by rw [grant_self hcl, if_pos ⟨h0, rfl⟩]
  by_cases hck : c = k
  ·subst hck
   rw [if_pos rfl] at a1 a2
   refine ⟨v + 1, ?_, ?_, fun _ _ => ?_⟩
   ·rw [if_pos rfl]
    have e : sumF (potF w z c c true (M.grant nx w c false d)) w.length = sumF (potF w z c c false d) w.length + xSum c w z w.length := by
     rw [xSum_eq, ← sumF_add]
     refine sumF_congr (fun i hi => ?_)
     unfold potF xF
     by_cases hh : i ≠ c ∧ 1 ≤ (nth z i).most
     ·rw [if_pos hh, if_pos hh, if_pos hh, grant_ne hh.1, pend_k, pend_k, if_pos rfl, if_neg (by simp)]; omega
     ·rw [if_neg hh, if_neg hh, if_neg hh]; omega
    rw [e]
    have e2 : (((v + 1 : Nat) : Int) + 1) * xSum c w z w.length = ((v : Int) + 1) * xSum c w z w.length + xSum c w z w.length := by rw [show (((v + 1 : Nat) : Int) + 1) = ((v : Int) + 1) + 1 by omega, Int.add_mul, Int.one_mul]
    rw [e2]; omega
   ·rw [if_pos rfl, eg]
    have e2 : (((v + 1 : Nat) : Int)) * nth w c = (v : Int) * nth w c + nth w c := by rw [show ((v + 1 : Nat) : Int) = (v : Int) + 1 by omega, Int.add_mul, Int.one_mul]
    rw [e2]; omega
   ·have hdk := (hd.2.2 c hk).2 (by simp) hL
    rw [show (((v + 1 : Nat) : Int) - 1) = (v : Int) by omega]
    omega
  ·rw [if_neg hck] at a1 a2
   refine ⟨v, ?_, ?_, fun h => absurd h hck⟩
   ·rw [if_neg hck]
    have e : sumF (potF w z k c true (M.grant nx w c false d)) w.length = sumF (potF w z k c false d) w.length := by
     refine sumF_congr (fun i hi => ?_)
     unfold potF
     by_cases hh : i ≠ k ∧ 1 ≤ (nth z i).most
     ·rw [if_pos hh, if_pos hh]
      by_cases e : i = c
      ·subst e
       rw [eg, pend_self hck, pend_self' hck, if_neg (by simp), if_pos rfl]; omega
      ·rw [grant_ne e, pend_other (b := false) hck e]
     ·rw [if_neg hh, if_neg hh]
    rw [e]; exact a1
   ·rw [if_neg hck, grant_ne (Ne.symm hck)]; exact a2
theorem JD.pick {c : Nat} {d : List Int} {own oth : Int} (h : JD w z k c true d 0 own oth) {s : Int} (hs : s ≤ nth d c) (hm : 1 ≤ (nth z c).most) : JD w z k c true (d.set c (nth d c - s)) s own oth := by
 obtain ⟨hd, v, a1, a2, a3⟩ := h
 have hcl : c < d.length := by rw [hd.2.1]; exact hd.1
 refine ⟨hd.pick hs, v, ?_, ?_, a3⟩
 ·by_cases hck : c = k
  ·subst hck
   rw [if_pos rfl] at a1 ⊢
   have e : sumF (potF w z c c true (d.set c (nth d c - s))) w.length = sumF (potF w z c c true d) w.length := by
    refine sumF_congr (fun i hi => ?_)
    unfold potF
    by_cases hh : i ≠ c ∧ 1 ≤ (nth z i).most
    ·rw [if_pos hh, if_pos hh, nth_set_ne (Ne.symm hh.1)]
    ·rw [if_neg hh, if_neg hh]
   rw [e]; exact a1
  ·rw [if_neg hck] at a1 ⊢
   have e : sumF (potF w z k c true (d.set c (nth d c - s))) w.length = sumF (potF w z k c true d) w.length + (potF w z k c true (d.set c (nth d c - s)) c - potF w z k c true d c) := by
    refine sumF_change hd.1 (fun i hi hne => ?_)
    unfold potF
    rw [nth_set_ne (Ne.symm hne)]
   have e2 : potF w z k c true (d.set c (nth d c - s)) c - potF w z k c true d c = - s := by
    unfold potF
    have hcm : c ≠ k ∧ 1 ≤ (nth z c).most := ⟨hck, hm⟩
    rw [if_pos hcm, if_pos hcm, nth_set_self hcl]; omega
   rw [e, e2]; omega
 ·by_cases hck : c = k
  ·subst hck
   rw [if_pos rfl] at a2 ⊢
   rw [nth_set_self hcl]; omega
  ·rw [if_neg hck] at a2 ⊢
   rw [nth_set_ne hck]; exact a2
theorem JD.next (hw : ∀ x ∈ w, 1 ≤ x) (hk : k < w.length) (hn : 2 ≤ w.length) {c : Nat} {d : List Int} {own oth : Int} (h : JD w z k c true d 0 own oth) (hlt : 1 ≤ (nth z c).most → nth d c ≤ (nth z c).most - 1) : JD w z k ((c + 1) % w.length) false d 0 own oth := by
 obtain ⟨hd, v, a1, a2, a3⟩ := h
 refine ⟨hd.next hlt, v, ?_, ?_, fun _ h => by cases h⟩
 ·have e : sumF (potF w z k ((c + 1) % w.length) false d) w.length = sumF (potF w z k c true d) w.length := by
   refine sumF_congr (fun i hi => ?_)
   unfold potF
   by_cases hh : i ≠ k ∧ 1 ≤ (nth z i).most
   ·rw [if_pos hh, if_pos hh, pend_next hd.1 hk hn hi hh.1]
   ·rw [if_neg hh, if_neg hh]
  rw [e]
  split <;> split at a1 <;> omega
 ·split <;> split at a2 <;> omega
/-- a class without a waiting packet loses its deficit -/
theorem JD.skip (hw : ∀ x ∈ w, 1 ≤ x) (hk : k < w.length) (hn : 2 ≤ w.length) {c : Nat} {b : Bool} {d : List Int} {own oth : Int} (h : JD w z k c b d 0 own oth) (hck : c ≠ k) : JD w z k ((c + 1) % w.length) false (d.set c 0) 0 own oth := by
 obtain ⟨hd, v, a1, a2, a3⟩ := h
 have hcl : c < d.length := by rw [hd.2.1]; exact hd.1
 have hd2 : DD w.length z c b (d.set c 0) := by
  refine ⟨hd.1, by rw [List.length_set]; exact hd.2.1, fun i hi => ?_⟩
  by_cases e : i = c
  ·subst e
   rw [nth_set_self hcl]
   exact ⟨Int.le_refl _, fun _ hm => by omega⟩
  ·rw [nth_set_ne (Ne.symm e)]; exact hd.2.2 i hi
 refine ⟨hd2.next (fun hm => by rw [nth_set_self hcl]; omega), v, ?_, ?_, fun _ h => by cases h⟩
 ·have e : sumF (potF w z k ((c + 1) % w.length) false (d.set c 0)) w.length ≤ sumF (potF w z k c b d) w.length := by
   refine sumF_le (fun i hi => ?_)
   unfold potF
   by_cases hh : i ≠ k ∧ 1 ≤ (nth z i).most
   ·rw [if_pos hh, if_pos hh, pend_next hd.1 hk hn hi hh.1]
    by_cases e : i = c
    ·subst e
     rw [nth_set_self hcl, pend_self hck, if_neg (by simp)]
     have := (hd.2.2 i hi).1
     have := hw _ (nth_mem hi)
     split <;> omega
    ·rw [nth_set_ne (Ne.symm e), pend_other (b := b) hck e]; exact Int.le_refl _
   ·rw [if_neg hh, if_neg hh]; exact Int.le_refl _
  rw [if_neg hck] at a1
  split <;> omega
 ·rw [nth_set_ne hck]
  rw [if_neg hck] at a2
  split <;> omega
end
def Jdef (ps : List Pkt) (w : List Int) (z : List Sz) (k : Nat) (sg : Nat × Bool × List Int) (cur rest own oth : Int) : Prop := JD w z k sg.1 sg.2.1 sg.2.2 (if 0 ≤ cur then rest else 0) own oth ∧ (0 ≤ cur → (nth ps cur.toNat).flow = sg.1 ∧ sg.2.1 = true)
section
variable {ps : List Pkt} {w : List Int} {z : List Sz} {k : Nat}
/-- where every run stands -/
def V0 (w : List Int) (z : List Sz) (c : Nat) (b : Bool) (d : List Int) (op : Int) : Prop := DD w.length z c b d ∧ (b = true → 1 ≤ (nth z c).most → nth d c + op ≤ (nth z c).most - 1 + nth w c)
def Vdef (ps : List Pkt) (w : List Int) (z : List Sz) (sg : Nat × Bool × List Int) (cur rest : Int) : Prop := V0 w z sg.1 sg.2.1 sg.2.2 (if 0 ≤ cur then rest else 0) ∧ (0 ≤ cur → cur < ps.length ∧ (nth ps cur.toNat).flow = sg.1 ∧ sg.2.1 = true ∧ 0 ≤ rest ∧ 1 ≤ (nth z sg.1).most)
theorem V0.grant (hw : ∀ x ∈ w, 1 ≤ x) {nx : Int → Int} {c : Nat} {b : Bool} {d : List Int} (h : V0 w z c b d 0) (h0 : 0 ≤ nx c) : V0 w z c true (M.grant nx w c b d) 0 := by
 obtain ⟨hd, h1⟩ := h
 have hcl : c < d.length := by rw [hd.2.1]; exact hd.1
 refine ⟨hd.grant hw h0, fun _ hm => ?_⟩
 rw [grant_self hcl]
 cases b with
 | true => rw [if_neg (by simp)]; exact h1 rfl hm
 | false =>
  rw [if_pos ⟨h0, rfl⟩]
  have := (hd.2.2 c hd.1).2 (by simp) hm
  omega
end
end Go.Proofs.YtejpkjapmhpmpaaDoor.M

/- Weighted and deficit round robin: the curve of a class is what it is served while it is backlogged, plain. No condition. -/
namespace Go.Proofs.YtejpkjapmhpmpaaDoor.M
open Go Go.Proofs.YtejpkjapmhpmpaaDoor.K

/-- what a law over a scheduler wants of a class's curve: its form, and that it is less than what is sent where the others take at most O -/
def CurveFor (x : Cv × Int) (cap : Int) (O : Int → Int) (G : Nat → Int) (s p : Nat) (q : Int) : Prop :=
  x = (⟨fvals G (s + p), p, q⟩, 0) ∧ FC G s p q ∧ G 0 = 0 ∧ ∀ (t : Nat) (own : Int), 0 ≤ own → cap * (t : Int) ≤ own + O own → G t ≤ own
section
variable {σ : Type} {ps : List Pkt} {ch : MS → σ → Int × Nat × σ} {good : MS → σ → Prop} {classes k : Nat}
end
end Go.Proofs.YtejpkjapmhpmpaaDoor.M

/- Time slots, plain: what every run of such a line keeps. No condition. -/
namespace Go.Proofs.YtejpkjapmhpmpaaDoor.M
open Go Go.Proofs.YtejpkjapmhpmpaaDoor.K

/-- the rest of a packet has room in the ticks in a row from t on -/
def Fits (tb : List Int) (cap : Int) (t : Nat) (left rest : Int) : Prop := (∀ i, slotT tb i = slotT tb t) ∨ ∃ n : Nat, (∀ j, j ≤ n → slotT tb (t + j) = slotT tb t) ∧ rest ≤ left + cap * n
theorem Fits.next {tb : List Int} {cap : Int} {t : Nat} {rest : Int} (h : Fits tb cap t 0 rest) (hr : 1 ≤ rest) : slotT tb (t + 1) = slotT tb t ∧ Fits tb cap (t + 1) cap rest := by
 rcases h with h | ⟨n, h1, h2⟩
 ·exact ⟨h _, .inl (fun i => by rw [h i, h (t + 1)])⟩
 ·cases n with
  | zero => simp at h2; omega
  | succ n =>
   have e := h1 1 (by omega)
   refine ⟨e, .inr ⟨n, fun j hj => ?_, ?_⟩⟩
   ·rw [show t + 1 + j = t + (j + 1) by omega, h1 (j + 1) (by omega), e]
   ·rw [Int.natCast_add, Int.mul_add] at h2
    simp at h2; omega
structure SlotPost (ps : List Pkt) (cap : Int) (tb : List Int) (classes t : Nat) (s s' : RS Unit) : Prop where
  open_ : 0 ≤ s'.cur → (nth ps s'.cur.toNat).flow = slotT tb t ∧ Fits tb cap t s'.ms.left s'.rest
  left0 : 0 ≤ s'.cur → s'.ms.left = 0
  other : ∀ c : Nat, (c : Int) ≠ slotT tb t → c < classes → nth (nth s'.sent c) (t + 1) = nth (nth s.sent c) (t + 1)
  mine : ∀ c : Nat, (c : Int) = slotT tb t → c < classes → nth (nth s'.sent c) (t + 1) + s'.ms.left = nth (nth s.sent c) (t + 1) + s.ms.left
  done : ∀ i, i < ps.length → nth s'.done i = nth s.done i ∨ (nth s'.done i = t ∧ (nth ps i).flow = slotT tb t)
  beg : ∀ i, (nth ps i).flow ≠ slotT tb t → nth s'.ms.begun i = nth s.ms.begun i
  lft : 0 ≤ s'.ms.left ∧ s'.ms.left ≤ s.ms.left
  idle : 0 < s'.ms.left → s'.cur < 0 ∧ (slotT tb t < 0 ∨ nextW ps s'.ms (slotT tb t) < 0 ∨ ∃ n : Nat, aheadN tb (slotT tb t) t = n + 1 ∧ (nth ps (nextW ps s'.ms (slotT tb t)).toNat).size > s'.ms.left + cap * n)
section
variable {ps : List Pkt} {cap : Int} {tb : List Int} {classes : Nat}
end
end Go.Proofs.YtejpkjapmhpmpaaDoor.M

/- Time slots, plain: a class is sent what it is sent alone. No condition. -/
namespace Go.Proofs.YtejpkjapmhpmpaaDoor.M
open Go Go.Proofs.YtejpkjapmhpmpaaDoor.K

/-- the places of the packets of a class -/
def selI (ps : List Pkt) (k : Int) : List Nat := (List.range ps.length).filter fun i => (nth ps i).flow == k
def selP (ps : List Pkt) (k : Int) : List Pkt := ps.filter fun p => p.flow == k
structure Sel (ps : List Pkt) (k : Int) (qs : List Pkt) (ix : Nat → Nat) : Prop where
  at_ : ∀ j, j < qs.length → ix j < ps.length ∧ (nth ps (ix j)).flow = k ∧ nth qs j = nth ps (ix j)
  mono : ∀ j j', j < j' → j' < qs.length → ix j < ix j'
  onto : ∀ i, i < ps.length → (nth ps i).flow = k → ∃ j, j < qs.length ∧ ix j = i
section
variable {ps qs : List Pkt} {cap : Int} {tb : List Int} {classes k : Nat} {ix : Nat → Nat}
theorem Sel.inj (h : Sel ps k qs ix) {j j' : Nat} (hj : j < qs.length) (hj' : j' < qs.length) (e : ix j = ix j') : j = j' := by
 rcases Nat.lt_trichotomy j j' with h1 | h1 | h1
 ·have := h.mono _ _ h1 hj'; omega
 ·exact h1
 ·have := h.mono _ _ h1 hj; omega
/-- the first packet of the class that waits, here and there -/
theorem Sel.next (h : Sel ps k qs ix) {ms ms' : MS} (hnow : ms'.now = ms.now) (hb : ∀ j, j < qs.length → nth ms'.begun j = nth ms.begun (ix j)) :
  (nextW qs ms' k < 0 ∧ nextW ps ms k < 0) ∨ (0 ≤ nextW qs ms' k ∧ (nextW qs ms' k).toNat < qs.length ∧ nextW ps ms k = ix (nextW qs ms' k).toNat) := by
 have hP : ∀ j, j < qs.length → nextP qs ms' k j = nextP ps ms k (ix j) := fun j hj => by
  obtain ⟨_, h2, h3⟩ := h.at_ j hj
  unfold nextP
  rw [hnow, hb j hj, h3]
 unfold nextW
 rcases findN_cases (nextP qs ms' k) qs.length with ⟨j, j1, j2, j3, j4⟩ | ⟨j1, j2⟩
 ·right
  rw [j2, Int.toNat_natCast]
  refine ⟨by omega, j1, ?_⟩
  refine findN_some (h.at_ j j1).1 (by rw [← hP j j1]; exact j3) (fun i hi => ?_)
  by_cases hf : (nth ps i).flow = k
  ·obtain ⟨j', e1, e2⟩ := h.onto i (by have := (h.at_ j j1).1; omega) hf
   have hlt : j' < j := by
    apply Classical.byContradiction
    intro hn
    by_cases e : j' = j
    ·subst e; omega
    ·have := h.mono j j' (by omega) e1; omega
   have := j4 j' hlt
   rw [hP j' e1, e2] at this; exact this
  ·unfold nextP
   have : ((nth ps i).flow == (k : Int)) = false := by simpa using hf
   rw [this]; simp
 ·left
  refine ⟨by rw [j1]; omega, ?_⟩
  rw [findN_none (fun i hi => ?_)]
  ·omega
  ·by_cases hf : (nth ps i).flow = k
   ·obtain ⟨j', e1, e2⟩ := h.onto i hi hf
    have := j2 j' e1
    rw [hP j' e1, e2] at this; exact this
   ·unfold nextP
    have : ((nth ps i).flow == (k : Int)) = false := by simpa using hf
    rw [this]; simp
/-- the two runs while the class is served -/
structure ApI (ps qs : List Pkt) (k t : Nat) (ix : Nat → Nat) (s a : RS Unit) : Prop where
  left : a.ms.left = s.ms.left
  now : a.ms.now = s.ms.now
  begun : ∀ j, j < qs.length → nth a.ms.begun j = nth s.ms.begun (ix j)
  done : ∀ j, j < qs.length → nth a.done j = nth s.done (ix j)
  col : nth (nth a.sent k) (t + 1) = nth (nth s.sent k) (t + 1)
  cur : (0 ≤ a.cur ∧ s.cur = ix a.cur.toNat ∧ a.rest = s.rest) ∨ (a.cur < 0 ∧ s.cur < 0)
/-- the two runs between ticks -/
structure Ap (ps qs : List Pkt) (k t : Nat) (ix : Nat → Nat) (s a : RS Unit) : Prop where
  begun : ∀ j, j < qs.length → nth a.ms.begun j = nth s.ms.begun (ix j)
  done : ∀ j, j < qs.length → nth a.done j = nth s.done (ix j)
  col : nth (nth a.sent k) t = nth (nth s.sent k) t
  cur : (0 ≤ a.cur ∧ s.cur = ix a.cur.toNat ∧ a.rest = s.rest) ∨ (a.cur < 0 ∧ (s.cur < 0 ∨ (nth ps s.cur.toNat).flow ≠ k))
end
end Go.Proofs.YtejpkjapmhpmpaaDoor.M

/- Time slots, plain: the curve of a class, and that it is what the class is served. No condition. -/
namespace Go.Proofs.YtejpkjapmhpmpaaDoor.M
open Go Go.Proofs.YtejpkjapmhpmpaaDoor.K

/-- of so many ticks from a tick on: what the parts that have ended count, and the part that goes on -/
def slotS (cap lost : Int) (mine : Nat → Bool) (from_ : Nat) : Nat → Int × Int
  | 0 => (0, 0)
  | d + 1 => if mine (from_ + d) = true then ((slotS cap lost mine from_ d).1, (slotS cap lost mine from_ d).2 + cap) else ((slotS cap lost mine from_ d).1 + max 0 ((slotS cap lost mine from_ d).2 - lost), 0)
def cntS (cap lost : Int) (mine : Nat → Bool) (from_ k : Nat) : Int := (slotS cap lost mine from_ k).1 + max 0 ((slotS cap lost mine from_ k).2 - lost)
/-- the least of so many -/
def minTo (f : Nat → Int) : Nat → Int
  | 0 => 4611686018427387904
  | n + 1 => min (minTo f n) (f n)
def minN (f : Nat → Int) : Nat → Int
  | 0 => f 0
  | n + 1 => min (minN f n) (f n)
def slotF (cap lost : Int) (mine : Nat → Bool) (n : Nat) (k : Nat) : Int := minN (fun a => cntS cap lost mine a k) n
section
variable {cap lost : Int} {mine : Nat → Bool} {a : Nat}
end
/-- the ticks of a class -/
def mineT (tb : List Int) (k : Int) (t : Nat) : Bool := slotT tb t == k
section
variable {ps : List Pkt} {cap : Int} {tb : List Int} {classes k : Nat}
end
end Go.Proofs.YtejpkjapmhpmpaaDoor.M

/- Time slots, plain: packets are sent within ticks in a row that belong to their class; a class that has all ticks is sent what a line in order of arrival sends it. No condition. -/
namespace Go.Proofs.YtejpkjapmhpmpaaDoor.M
open Go Go.Proofs.YtejpkjapmhpmpaaDoor.K

/-- sums -/
def sumUp (f : Nat → Int) : Nat → Int
  | 0 => 0
  | n + 1 => sumUp f n + f n
section
variable {σ : Type} {ps : List Pkt} {ch : MS → σ → Int × Nat × σ} {good : MS → σ → Prop} {rel : Nat → Nat → Prop} {classes col k : Nat} {s : RS σ}
end
section
variable {ps : List Pkt} {cap : Int} {tb : List Int} {classes : Nat}
/-- the bytes of the first packets of a class -/
def ofK (ps : List Pkt) (k : Int) (i : Nat) : Int := if (nth ps i).flow = k then (nth ps i).size else 0
/-- those that are finished before a tick -/
def overK (ps : List Pkt) (dn : List Int) (k t : Int) (i : Nat) : Int := if (nth ps i).flow = k ∧ 0 ≤ nth dn i ∧ nth dn i < t then (nth ps i).size else 0
/-! ### a class that has all ticks -/
end
end Go.Proofs.YtejpkjapmhpmpaaDoor.M

/- Priorities, plain: what a class is served. No condition. -/
namespace Go.Proofs.YtejpkjapmhpmpaaDoor.M
open Go Go.Proofs.YtejpkjapmhpmpaaDoor.K

section
variable {ps : List Pkt} {n k : Nat}
/-- what is open of a lesser class -/
def lowR (ps : List Pkt) (k : Nat) (s : RS Unit) : Int := if 0 ≤ s.cur ∧ (k : Int) < (nth ps s.cur.toNat).flow then s.rest else 0
end
end Go.Proofs.YtejpkjapmhpmpaaDoor.M

/- What a curve leaves of a line, plain: the program and the reference make the same. No condition. -/
namespace Go.Proofs.YtejpkjapmhpmpaaDoor.M
open Go Go.Proofs.YtejpkjapmhpmpaaDoor.K

/-- the greatest of the first so many, and 0 -/
def mostF (f : Nat → Int) : Nat → Int
  | 0 => 0
  | n + 1 => max (mostF f n) (f n)
/-- the greatest from s on -/
def tailF (f : Nat → Int) (s : Nat) : Nat → Int
  | 0 => f s
  | d + 1 => max (tailF f s d) (f (s + (d + 1)))
section
variable {f : Nat → Int} {s P : Nat} {D : Int}
end
/-- the difference -/
def rawL (cap : Int) (b : Cv) (t : Nat) : Int := if isInf b t then 0 else cap * (t : Int) - cvF b t
def restF (cap : Int) (b : Cv) (t : Nat) : Int := mostF (rawL cap b) (t + 1)
def driftL (cap : Int) (b : Cv) : Int := b.per * cap - b.inc
def restC (cap : Int) (g : Cv) : Cv × Int :=
  if validB g = false then (zcv, 1)
  else if finB (normR g) = true ∧ 0 < driftL cap (normR g) then
    (if tailF (rawL cap (normR g)) (stN (normR g)) (400 - stN (normR g)) < mostF (rawL cap (normR g)) (stN (normR g)) then (zcv, 3) else mbuild (restF cap (normR g)) 400 (normR g).per.toNat (driftL cap (normR g)))
  else mbuild (restF cap (normR g)) (stN (normR g) + (normR g).per.toNat) 1 0
/-- what the reference adds in a period -/
def gainL (cap : Int) (b : Cv) : Int := if finB b = true then max 0 (driftL cap b) else 0
def restQ (cap : Int) (g : Cv) : Cv × Int :=
  if restF cap (normR g) (400 + (normR g).per.toNat) ≠ restF cap (normR g) 400 + gainL cap (normR g) then (zcv, 3)
  else madeR ⟨fvals (restF cap (normR g)) (400 + (normR g).per.toNat), (normR g).per, gainL cap (normR g)⟩
section
variable {cap : Int} {b : Cv}
end
/-! ### the line itself; what the walk of Rest keeps -/
def lineC (cap : Int) : Cv := ⟨[0], 1, cap⟩
def tailV (f : Nat → Int) (s t : Nat) : Int := if t ≤ s then -INF else tailF f s (t - 1 - s)
def mostV (f : Nat → Int) (s t : Nat) : Int := mostF f (min t s)
end Go.Proofs.YtejpkjapmhpmpaaDoor.M

/- Deficit round robin, plain: greater quanta and packets of others leave less. No condition. -/
namespace Go.Proofs.YtejpkjapmhpmpaaDoor.M
open Go Go.Proofs.YtejpkjapmhpmpaaDoor.K

end Go.Proofs.YtejpkjapmhpmpaaDoor.M

/- Priorities, plain: the curve of a class. No condition. -/
namespace Go.Proofs.YtejpkjapmhpmpaaDoor.M
open Go Go.Proofs.YtejpkjapmhpmpaaDoor.K

/-- what may block a class -/
def blkF (cls : Int) (z : List Sz) (i : Nat) : Int := (nth (z.drop (cls + 1).toNat) i).most - 1
def blkN (cls : Int) (z : List Sz) : Int := mostF (blkF cls z) (z.length - (cls + 1).toNat)
def allV (ls : List Cv) : Bool := ls.all fun c => validB c
def midC (tot : Cv × Int) (k : Int) : Cv × Int := if tot.2 = 0 then raiseC tot.1 k else tot
def prioC (cap cls : Int) (ls : List Cv) (z : List Sz) : Cv × Int :=
  if chk18 cap cls z ≠ 0 then (zcv, chk18 cap cls z)
  else if ls.length ≠ z.length then (zcv, 2)
  else if allV ls = false then (zcv, 1)
  else if (midC (totalC (ls.take cls.toNat)) (blkN cls z)).2 ≠ 0 then (zcv, (midC (totalC (ls.take cls.toNat)) (blkN cls z)).2)
  else restC cap (midC (totalC (ls.take cls.toNat)) (blkN cls z)).1
end Go.Proofs.YtejpkjapmhpmpaaDoor.M

/- Priorities, plain: the curve of a class is what it is served. No condition. -/
namespace Go.Proofs.YtejpkjapmhpmpaaDoor.M
open Go Go.Proofs.YtejpkjapmhpmpaaDoor.K

instance instCv : Inhabited Cv := ⟨zcv⟩
end Go.Proofs.YtejpkjapmhpmpaaDoor.M

/- Small curves that the statements make, plain. No condition. -/
namespace Go.Proofs.YtejpkjapmhpmpaaDoor.M
open Go Go.Proofs.YtejpkjapmhpmpaaDoor.K

/-- small -/
structure SmallC (c : Cv) : Prop where
  valid : validB c = true
  len : c.vals.length ≤ 40
  per : c.per ≤ 8
  inc : c.inc ≤ 1000
  vals : ∀ x ∈ c.vals, x = INF ∨ x ≤ 1000
/-- longer, with a period so often -/
theorem longer_grows {F : Nat → Int} {S P : Nat} {I : Int} (h : Grows F S P I) (more times : Nat) : Grows F (S + more) (P * times) (I * (times : Int)) := fun t ht => by
 have := h.mul times t (by omega)
 rw [Nat.mul_comm P times, Int.mul_comm I]
 exact this
/-- values that are made one by one -/
def upV (xs : List Int) (c : Nat) (v : Int) : Nat → Int
  | 0 => v
  | i + 1 => upV xs c v i + nth ([0, 0, 1, 2, 5, 9] : List Int) (mod (nth xs (c + i)) ((6 : Nat) : Int)).toNat
theorem nth_in {l : List Int} {k : Nat} {lo hi : Int} (h : ∀ x ∈ l, lo ≤ x ∧ x ≤ hi) (hk : k < l.length) : lo ≤ nth l k ∧ nth l k ≤ hi := h _ (nth_mem hk)
theorem upV_step (xs : List Int) (c : Nat) (v : Int) (i : Nat) : upV xs c v i ≤ upV xs c v (i + 1) ∧ upV xs c v (i + 1) ≤ upV xs c v i + 9 := by
 have hm := mod_range (nth xs (c + i)) (show (1 : Int) ≤ ((6 : Nat) : Int) by decide)
 have := nth_in (l := [0, 0, 1, 2, 5, 9]) (k := (mod (nth xs (c + i)) ((6 : Nat) : Int)).toNat) (lo := 0) (hi := 9) (by decide) (by simp only [List.length_cons, List.length_nil]; omega)
 simp only [upV]
 omega
theorem upV_mono (xs : List Int) (c : Nat) (v : Int) {i j : Nat} (h : i ≤ j) : upV xs c v i ≤ upV xs c v j := mono_le (fun t => (upV_step xs c v t).1) h
theorem upV_bound (xs : List Int) (c : Nat) (v : Int) : ∀ i, v ≤ upV xs c v i ∧ upV xs c v i ≤ v + 9 * (i : Int)
 | 0 => ⟨Int.le_refl _, by simp [upV]⟩
 | i + 1 => by
  have h1 := upV_bound xs c v i
  have h2 := upV_step xs c v i
  omega
theorem upV_gap (xs : List Int) (c : Nat) (v : Int) (i : Nat) : ∀ d, upV xs c v (i + d) ≤ upV xs c v i + 9 * (d : Int)
 | 0 => by simp
 | d + 1 => by
  have h1 := upV_gap xs c v i d
  have h2 := upV_step xs c v (i + d)
  rw [← Nat.add_assoc]
  omega
/-- a list that goes up, with a period and what it gains -/
theorem small_fin {F : Nat → Int} {n : Nat} {P I : Int} (hn : 1 ≤ n ∧ n ≤ 20) (hP : 1 ≤ P ∧ P ≤ 4 ∧ P ≤ n) (hI : I ≤ 400) (h0 : 0 ≤ F 0) (hm : ∀ t, F t ≤ F (t + 1)) (hb : ∀ t, t < n → F t ≤ 200) (hg : F (n - 1) - F (n - P.toNat) ≤ I) : SmallC ⟨fvals F n, P, I⟩ := by
 have hmn : ∀ {i j : Nat}, i ≤ j → F i ≤ F j := fun h => mono_le hm h
 have h2 := hmn (show n - P.toNat ≤ n - 1 by omega)
 have hne : F (n - 1) ≠ INF := by have := hb (n - 1) (by omega); unfold INF; omega
 refine ⟨validB_iff.2 ?_, by dsimp only; rw [fvals_len]; omega, by dsimp only; omega, by dsimp only; omega, all_of_nth (fun j hj => ?_)⟩
 ·dsimp only
  rw [fvals_len]
  refine ⟨⟨by omega, by omega, by omega, by omega, by omega, by omega, by unfold MAXV; omega⟩, fun i hi => ?_, ?_⟩
  ·rw [fvals_nth F hi]
   have a := hb i hi
   have b := hmn (Nat.zero_le i)
   refine ⟨.inr ⟨by omega, by unfold MAXV; omega⟩, ?_⟩
   by_cases hi0 : i = 0
   ·exact .inl hi0
   ·rw [fvals_nth F (by omega)]; exact .inr (hmn (by omega))
  ·rw [fvals_nth F (by omega), if_neg hne, fvals_nth F (by omega)]; omega
 ·rw [fvals_len] at hj
  rw [fvals_nth F hj]
  have := hb j hj
  exact .inr (by omega)
theorem small_inf {F : Nat → Int} {n : Nat} (hn : n ≤ 20) (h0 : 0 ≤ F 0) (hm : ∀ t, F t ≤ F (t + 1)) (hb : ∀ t, t < n → F t ≤ 200) : SmallC ⟨fvals F n ++ [INF], 1, 0⟩ := by
 have hmn : ∀ {i j : Nat}, i ≤ j → F i ≤ F j := fun h => mono_le hm h
 have hl : (fvals F n ++ [INF]).length = n + 1 := by simp [fvals_len]
 have e1 : ∀ i, i < n → nth (fvals F n ++ [INF]) i = F i := fun i hi => by
  unfold nth List.getD
  rw [List.getElem?_append_left (by rw [fvals_len]; exact hi)]
  exact fvals_nth F hi
 have e2 : nth (fvals F n ++ [INF]) n = INF := by
  unfold nth List.getD
  rw [List.getElem?_append_right (by rw [fvals_len]; omega), fvals_len]; simp
 refine ⟨validB_iff.2 ?_, by dsimp only; rw [hl]; omega, by dsimp only; omega, by dsimp only; omega, all_of_nth (fun j hj => ?_)⟩
 ·dsimp only
  rw [hl]
  refine ⟨⟨by omega, by omega, by omega, by omega, by omega, by omega, by unfold MAXV; omega⟩, fun i hi => ?_, ?_⟩
  ·by_cases hi2 : i < n
   ·rw [e1 i hi2]
    have a := hb i hi2
    have b := hmn (Nat.zero_le i)
    refine ⟨.inr ⟨by omega, by unfold MAXV; omega⟩, ?_⟩
    by_cases hi0 : i = 0
    ·exact .inl hi0
    ·rw [e1 (i - 1) (by omega)]; exact .inr (hmn (by omega))
   ·obtain rfl : i = n := by omega
    rw [e2]
    refine ⟨.inl rfl, ?_⟩
    by_cases hi0 : i = 0
    ·exact .inl hi0
    ·rw [e1 (i - 1) (by omega)]
     have := hb (i - 1) (by omega)
     exact .inr (by unfold INF; omega)
  ·rw [show n + 1 - 1 = n by omega, e2, if_pos rfl]; exact ⟨rfl, rfl⟩
 ·rw [hl] at hj
  by_cases hj2 : j < n
  ·rw [e1 j hj2]; have := hb j hj2; exact .inr (by omega)
  ·obtain rfl : j = n := by omega
   exact .inl e2
/-- a curve longer than a small one -/
theorem small_longer {F : Nat → Int} {S P more times : Nat} {I : Int} (h : FC F S P I) (hn : S + P ≤ 20) (hP : P ≤ 4) (hI : I ≤ 50) (hb : ∀ t, t < S + P → F t ≤ 200) (hm : more ≤ 3) (ht : 1 ≤ times ∧ times ≤ 2) : SmallC ⟨fvals F (S + more + P * times), ((P * times : Nat) : Int), I * (times : Int)⟩ := by
 have hP0 := h.hP
 have hI0 := h.hI
 have e1 : P * times ≤ 2 * P := by have := Nat.mul_le_mul_left P ht.2; omega
 have e0 : P ≤ P * times := by have := Nat.mul_le_mul_left P ht.1; omega
 have e2 : I * (times : Int) ≤ 800 ∧ 0 ≤ I * (times : Int) := by
  rcases (show times = 1 ∨ times = 2 by omega) with rfl | rfl <;> omega
 have hb2 : ∀ t, t < S + more + P * times → F t ≤ 1000 := fun t ht2 => by
  by_cases h1 : t < S + P
  ·have := hb t h1; omega
  ·have h3 := h.hg.mul 4 (S + P - 1) (by omega)
   have h5 := hb (S + P - 1) (by omega)
   have h6 : t ≤ S + P - 1 + 4 * P := by omega
   have h7 := h.mono h6
   omega
 have hfc : FC F (S + more) (P * times) (I * (times : Int)) := ⟨by omega, by omega, by omega, longer_grows h.hg more times, h.hm, h.h0, fun t ht => by have := hb2 t ht; omega⟩
 refine ⟨hfc.valid', by dsimp only; rw [fvals_len]; omega, by dsimp only; omega, by dsimp only; omega, all_of_nth (fun j hj => ?_)⟩
 rw [fvals_len] at hj
 rw [fvals_nth F hj]
 exact .inr (hb2 j hj)
end Go.Proofs.YtejpkjapmhpmpaaDoor.M

/- An operation without a value, one of several that may come up. No condition. -/
namespace Go.Proofs.YtejpkjapmhpmpaaDoor.K
open Go Go.RowKit
variable {P : Program} {T : Tab} {n : Nat} {env : Env} {w0 : World} {R : Ro} {E : List Ent} {Q : Exit → Act → World → Prop}
variable {ops : List Oper} {o : Oper} {ES : List Ent} {R0 : Ro} {fuel : Nat} {listed : Array Bool}
theorem WS.effN {i : Nat} (hi : ops.toArray[i]? = some o) (hg : o.guard = none) (hd : o.dst = none)
  (h : Ef P n env w0 R E o fun _ R' E' => RLe R0 R' ∧ ES.Sublist E' ∧ WA P ops Q ES R0 w0 fuel (listed.setIfInBounds i true) n env R' E') : WS P ops Q ES R0 w0 fuel listed n env R E i := by
 intro a w hk hm
 unfold wpOp
 rw [hi]
 simp only [Region.wanted, hg, if_true]
 left
 obtain ⟨v, w', R', E', hrun, hm', hR', hsub', hn⟩ := h a w hk hm
 unfold Oper.wp
 rcases hrun with hrun | ⟨hrun, rfl⟩
 ·rw [hrun]; simp only [Oper.upon, hd]; exact ⟨hm'.sub hR' hsub', hn _ _ hk hm'⟩
 ·rw [hrun]; simp only [Oper.upon, hd]; exact ⟨hm'.sub hR' hsub', hn _ _ hk hm'⟩
end Go.Proofs.YtejpkjapmhpmpaaDoor.K

/- Four operations of which any may come first. No condition. -/
namespace Go.Proofs.YtejpkjapmhpmpaaDoor.K
open Go Go.RowKit
variable {P : Program} {T : Tab} {n : Nat} {env : Env} {w0 : World} {R : Ro} {E : List Ent} {Q : Exit → Act → World → Prop}
variable {ops : List Oper} {ES : List Ent} {R0 : Ro} {fuel : Nat} {listed : Array Bool}
theorem WA.br4 {i j k l : Nat} (hr : Region.ready .any ops.toArray listed = [i, j, k, l]) (h1 : WS P ops Q ES R0 w0 fuel listed n env R E i) (h2 : WS P ops Q ES R0 w0 fuel listed n env R E j) (h3 : WS P ops Q ES R0 w0 fuel listed n env R E k) (h4 : WS P ops Q ES R0 w0 fuel listed n env R E l) : WA P ops Q ES R0 w0 (fuel + 1) listed n env R E := by
 intro a w hk hm
 refine wpAnyH_all hr (by simp) fun m hm' => ?_
 simp only [List.mem_cons, List.not_mem_nil, or_false] at hm'
 rcases hm' with rfl | rfl | rfl | rfl
 ·exact h1 a w hk hm
 ·exact h2 a w hk hm
 ·exact h3 a w hk hm
 ·exact h4 a w hk hm
theorem WE.retFS {E' : List Ent} (hE : E'.Sublist E) (hT : TabOk P T) {fn : Func} {Post : Value → Ro → List Ent → Prop} {R0 : Ro} {rs : List ResultVar} (vs : List Value) (hr : fn.results = rs.toArray) (h : ResAll T env R E rs vs) (hR : RLe R0 R) (hp : Post (resVal vs) R E') (hds : markOf env = none := by rfl) :
  WE (bodyPost P fn (FnR w0 R0 Post)) .ret n env w0 R E := fun _ _ hk hm => ⟨by rw [hk.defers]; unfold dsOf; rw [hds], resVal vs, results_ok hT hr hk hm h, resVal vs, R, E', rfl, hR, hm.sub (RLe.refl R) hE, hp⟩
end Go.Proofs.YtejpkjapmhpmpaaDoor.K

/- A trial. No condition. -/
set_option maxRecDepth 4000
set_option linter.unusedSimpArgs false
set_option linter.unusedVariables false
namespace Go.Proofs.YtejpkjapmhpmpaaDoor
open Go Go.RowKit Go.Proofs.YtejpkjapmhpmpaaDoor.K Go.Proofs.YtejpkjapmhpmpaaDoor.M







theorem Same02_V {R : Ro} {a b : Option Addr} {ca cb : Nat} {xs ys : List Int} {p1 i1 p2 i2 : Int} (ha : RS R 1 encI a xs) (hb : RS R 1 encI b ys) :
  FnV Tryd.prog 18 [.agg #[.slice a xs.length ca, .int .i64 p1, .int .i64 i1], .agg #[.slice b ys.length cb, .int .i64 p2, .int .i64 i2]] R (.bool (decide (xs = ys ∧ p1 = p2 ∧ i1 = i2))) := by
 have hla := ha.len
 have hlb := hb.len
 refine Fn.toV (fun w0 E => ?_)
 refine fE 45 Tryd.func18 ?_
 refine zQ (zG ?_)
 refine zO fun b2 => ?_
 refine zO fun b3 => ?_
 refine zR 1 rfl (zN (zU (zQ (zQ (zG (zR 1 rfl ?_))))))
 refine' WG.y rfl rfl qD (Yl.load1 tab_ok rfl rfl rfl (fun _ => rfl) ?r1 rfl ?h1) ?_
 case r1 => apply Rd.add; (first | exact Rd.blk 0 rfl | exact Rd.blk 1 rfl | exact Rd.blk 2 rfl)
 case h1 => rfl
 refine zR 2 rfl ?_
 refine' WG.y rfl rfl qD (Yl.load1 tab_ok rfl rfl rfl (fun _ => rfl) ?r2 rfl ?h2) ?_
 case r2 => apply Rd.add; (first | exact Rd.blk 0 rfl | exact Rd.blk 1 rfl | exact Rd.blk 2 rfl)
 case h2 => rfl
 refine zR 3 rfl ?_
 refine yP ?_
 refine' WG.y rfl rfl qD (Yl.loadG tab_ok rfl rfl rfl qE ?r3 rfl ?h3 ?g3) ?_
 case r3 => apply Rd.addC; (first | exact Rd.blkC 0 rfl | exact Rd.blkC 1 rfl | exact Rd.blkC 2 rfl)
 case h3 => rfl
 case g3 => first | exact fun _ => trivial | (intro hg; (try simp only [zk] at hg); (try dsimp only); omega)
 refine yP ?_
 refine' WG.y rfl rfl qD (Yl.loadG tab_ok rfl rfl rfl qE ?r4 rfl ?h4 ?g4) ?_
 case r4 => apply Rd.addC; (first | exact Rd.blkC 0 rfl | exact Rd.blkC 1 rfl | exact Rd.blkC 2 rfl)
 case h4 => rfl
 case g4 => first | exact fun _ => trivial | (intro hg; (try simp only [zk] at hg); (try dsimp only); omega)
 refine yP ?_
 refine yO ?_
 refine zR 1 rfl ?_
 refine yP ?_
 refine' WG.y rfl rfl qD (Yl.loadG tab_ok rfl rfl rfl qE ?r5 rfl ?h5 ?g5) ?_
 case r5 => apply Rd.addC; (first | exact Rd.blkC 0 rfl | exact Rd.blkC 1 rfl | exact Rd.blkC 2 rfl)
 case h5 => rfl
 case g5 => first | exact fun _ => trivial | (intro hg; (try simp only [zk] at hg); (try dsimp only); omega)
 refine yP ?_
 refine' WG.y rfl rfl qD (Yl.loadG tab_ok rfl rfl rfl qE ?r6 rfl ?h6 ?g6) ?_
 case r6 => apply Rd.addC; (first | exact Rd.blkC 0 rfl | exact Rd.blkC 1 rfl | exact Rd.blkC 2 rfl)
 case h6 => rfl
 case g6 => first | exact fun _ => trivial | (intro hg; (try simp only [zk] at hg); (try dsimp only); omega)
 refine yP ?_
 refine yO ?_
 refine zN (zU ?_)
 refine W.cond rfl (fun hc0 => ?_) (fun hc0 => ?_)
 ·try simp only [zk] at hc0
  refine zQ (zG (zR 1 rfl (zN (zU (zT (wt ?_))))))
  refine sE (E := E) ?_
  refine WE.retF tab_ok [_] rfl ⟨rfl, trivial⟩ (RLe.refl _) ?_
  exact ⟨congrArg Value.bool (decide_eq_false (by rintro ⟨rfl, rfl, rfl⟩; simp at hc0)).symm, rfl⟩
 ·try simp only [zk] at hc0
  refine zK (zU (zQ (zQ (zG (zR 1 rfl (zN (zU (zB ?_))))))))
  refine W.loop (β := Nat) (fun k => k ≤ xs.length ∧ ∀ j, j < k → nth xs j = nth ys j) (fun k => [(2, true, .pointer (some ⟨b2, 0, none⟩)), (3, true, .pointer (some ⟨b3, 0, none⟩)), (5, true, .int .i64 (k : Int))]) (fun _ => R) (fun _ => .blk b3 [.slice b ys.length cb, .int .i64 p2, .int .i64 i2] :: .blk b2 [.slice a xs.length ca, .int .i64 p1, .int .i64 i1] :: E) (fun k => xs.length - k) (0) (⟨Nat.zero_le _, fun j hj => by omega⟩) ⟨rfl, rfl, rfl, rfl⟩ (RLe.refl _) qS ?_
  intro st hst
  obtain ⟨hk, hpre⟩ := hst
  refine zQ (zQ (zG (zR 2 rfl ?_)))
  refine' WG.y rfl rfl qD (Yl.load1 tab_ok rfl rfl rfl (fun _ => rfl) ?r7 rfl ?h7) ?_
  case r7 => apply Rd.add; (first | exact Rd.blk 0 rfl | exact Rd.blk 1 rfl | exact Rd.blk 2 rfl)
  case h7 => rfl
  refine zR 2 rfl (zN (zU ?_))
  refine W.condD rfl (fun hc1 => ?_) (fun hc1 => ?_)
  ·try dsimp only at hc1
   refine zK (zU (zQ (zB (zQ ?_))))
   refine W.regionQ _ mixed qK ?_
   refine zR 1 rfl ?_
   refine' WG.y rfl rfl qD (Yl.load1 tab_ok rfl rfl rfl (fun _ => rfl) ?r8 rfl ?h8) ?_
   case r8 => apply Rd.add; (first | exact Rd.blk 0 rfl | exact Rd.blk 1 rfl | exact Rd.blk 2 rfl)
   case h8 => rfl
   refine zR 1 rfl ?_
   refine WG.y rfl rfl qD (Yl.indexN tab_ok rfl rfl rfl rfl rfl rfl (fun _ => rfl) qN qH) ?_
   refine' WG.y rfl rfl qD (Yl.load1 tab_ok rfl rfl rfl (fun _ => rfl) ?r9 rfl ?h9) ?_
   case r9 => (first | (apply RS.rdD; assumption; ((try dsimp only) <;> omega)) | exact Rd.slD 0 rfl qX | exact Rd.slD 1 rfl qX | exact Rd.slD 2 rfl qX)
   case h9 => rfl
   refine zR 1 rfl ?_
   refine' WG.y rfl rfl qD (Yl.load1 tab_ok rfl rfl rfl (fun _ => rfl) ?r10 rfl ?h10) ?_
   case r10 => apply Rd.add; (first | exact Rd.blk 0 rfl | exact Rd.blk 1 rfl | exact Rd.blk 2 rfl)
   case h10 => rfl
   refine zR 1 rfl ?_
   refine WG.y rfl rfl qD (Yl.indexN tab_ok rfl rfl rfl rfl rfl rfl (fun _ => rfl) qN qH) ?_
   refine' WG.y rfl rfl qD (Yl.load1 tab_ok rfl rfl rfl (fun _ => rfl) ?r11 rfl ?h11) ?_
   case r11 => (first | (apply RS.rdD; assumption; ((try dsimp only) <;> omega)) | exact Rd.slD 0 rfl qX | exact Rd.slD 1 rfl qX | exact Rd.slD 2 rfl qX)
   case h11 => rfl
   refine zR 1 rfl (zN (zU ?_))
   refine W.condN rfl (fun hc2 => ?_) (fun hc2 => ?_)
   ·try dsimp only at hc2
    refine zQ (zG (zR 1 rfl (zN (zU (zT (wb (wt (wt (wb (wt ?_))))))))))
    refine sE (E := E) ?_
    refine WE.retF tab_ok [_] rfl ⟨rfl, trivial⟩ (RLe.refl _) ?_
    exact ⟨congrArg Value.bool (decide_eq_false (by rintro ⟨rfl, _⟩; exact hc2 rfl)).symm, rfl⟩
   ·try dsimp only at hc2
    refine zK (zL (zU (zG (zR 1 rfl ?_))))
    refine yA ?_
    refine zR 1 rfl (zN ?_)
    refine WE.again (st + 1) (⟨by omega, fun j hj => by
     by_cases h : j = st
     ·subst h; exact hc2
     ·exact hpre j (by omega)⟩) (by (try dsimp only); omega) ⟨rfl, rfl, rfl, rfl⟩ (RLe.refl _) qS
  ·try dsimp only at hc1
   refine zX ?_
   refine wx (wx (zY (zU (zQ (zG (zR 1 rfl (zN (zU (zT ?_)))))))))
   refine sE (E := E) ?_
   refine WE.retF tab_ok [_] rfl ⟨rfl, trivial⟩ (RLe.refl _) ?_
   exact ⟨congrArg Value.bool (decide_eq_true ⟨nth_ext qO (fun i hi => hpre i qO), by omega, by omega⟩).symm, rfl⟩































def wgtF (hi : Int) (xs : List Int) (c : Nat) (i : Nat) : Int := 1 + mod (nth xs (c + i)) hi
theorem PickM_C {R : Ro} {b : Nat} {a : Option Addr} {cp : Nat} {xs : List Int} {c : Nat} (w0 : World) {n : Nat} {a2 : Option Addr} {c2 : Nat} {j : Nat} {F : List Ent} (ys : List Int) (hn : ys.length = n) (hn0 : 0 < n) (hn1 : n ≤ 1000000) (ha : RS R 1 encI a xs) (hy : F[j]? = some (.sl 3 1 a2 c2 (ys.map encI))) :
  K.Fn Tryd.prog 33 [.pointer (some ⟨b, 0, none⟩), .slice a2 n c2] w0 R (srcE b a cp xs c :: F) (fun v R' E' => ∃ e' N, E' = N ++ e' :: F ∧ RdPost (.int .i64 (nth ys (mod (nth xs c) n).toNat)) R (srcE b a cp xs (c + 1)) v R' e' N) := by
 subst hn; exact Pick_C w0 ha hy hn0 hn1



theorem Longer_C {R : Ro} {fa : Option Addr} {fc : Nat} {F : Nat → Int} {S P : Nat} {I : Int} (hf : FC F S P I) (ha : RS R 1 encI fa (fvals F (S + P))) {more times : Nat} (hmo : more ≤ 100) (hti : 1 ≤ times ∧ times ≤ 10) (w0 : World) (E : List Ent) : K.Fn Tryd.prog 34 [.agg #[.slice fa (fvals F (S + P)).length fc, .int .i64 (P : Int), .int .i64 I], .int .i64 (more : Int), .int .i64 (times : Int)] w0 R E (fun v R' E' => ∃ (f : Option Addr) (c : Nat), v = .agg #[.slice f (fvals F (S + more + P * times)).length c, .int .i64 ((P * times : Nat) : Int), .int .i64 (I * (times : Int))] ∧ RS R' 1 encI f (fvals F (S + more + P * times)) ∧ (fvals F (S + more + P * times)).length ≤ c ∧ E.Sublist E') := by
 have hfl := fvals_len F (S + P)
 have hP := hf.hP
 have hn := hf.hn
 have hI := hf.hI
 have hkb : (times - 1) * P ≤ 9 * 120 := Nat.mul_le_mul (by omega) (by omega)
 have hkb2 : P * times ≤ 120 * 10 := Nat.mul_le_mul (by omega) (by omega)
 have hkb3 : ((times : Int) - 1) * (P : Int) = (((times - 1) * P : Nat) : Int) := by rw [Int.natCast_mul, show ((times - 1 : Nat) : Int) = (times : Int) - 1 by omega]
 have hkb4 : (P : Int) * (times : Int) = ((P * times : Nat) : Int) := by rw [Int.natCast_mul]
 have hkb5 : S + P + (more + (times - 1) * P) = S + more + P * times := by
  obtain ⟨t', rfl⟩ : ∃ t', times = t' + 1 := ⟨times - 1, by omega⟩
  rw [Nat.add_sub_cancel, Nat.mul_add, Nat.mul_comm P t']; omega
 have hIt : 0 ≤ I * (times : Int) ∧ I * (times : Int) ≤ 1073741824 * 10 := ⟨Int.mul_nonneg (by omega) (by omega), Int.mul_le_mul (by omega) (by omega) (by omega) (by omega)⟩
 have hlast := hf.hb (S + P - 1) (by omega)
 have hbd := hf.bound
 have g1 : (((fvals F (S + P)).length : Int) == 0) = false := by rw [beq_eq_false_iff_ne]; omega
 have g2 : (nth (fvals F (S + P)) (((fvals F (S + P)).length : Int) - 1).toNat == 4611686018427387904) = false := by
  rw [show (((fvals F (S + P)).length : Int) - 1).toNat = S + P - 1 by omega, fvals_nth F (by omega), beq_eq_false_iff_ne]; omega
 have g3 : decide ((P : Int) < 1) = false := decide_eq_false (by omega)
 have g4 : decide ((P : Int) > ((fvals F (S + P)).length : Int)) = false := decide_eq_false (by omega)
 refine fE 87 Tryd.func34 ?_
 refine zQ (zG ?_)
 refine zO fun b3 => ?_
 refine zA fun b6 => ?_
 refine zN (zU ?_)
 refine W.seqCut (β := Nat × Option Addr × Nat) (fun (b7, a12, c12) => True) (fun (b7, a12, c12) => [(1, true, .int .i64 (more : Int)), (2, true, .int .i64 (times : Int)), (3, true, .pointer (some ⟨b3, 0, none⟩)), (6, true, .pointer (some ⟨b6, 0, none⟩)), (7, true, .pointer (some ⟨b7, 0, none⟩))]) (fun _ => R) (fun (b7, a12, c12) => .blk b7 [.slice a12 (fvals F (S + P)).length c12, .int .i64 (P : Int), .int .i64 I] :: .sl 3 1 a12 c12 ((fvals F (S + P)).map encI) :: .blk b6 [.slice none 0 0, .int .i64 0, .int .i64 0] :: .blk b3 [.slice fa (fvals F (S + P)).length fc, .int .i64 (P : Int), .int .i64 I] :: E) ?_ ?_
 ·
  intro st hst
  obtain ⟨b7, a12, c12⟩ := st
  dsimp only
  refine zQ (zQ (zG (zR 1 rfl ?_)))
  refine' WG.y rfl rfl qD (Yl.load1 tab_ok rfl rfl rfl (fun _ => rfl) ?r1 rfl ?h1) ?_
  case r1 => apply Rd.add; (first | exact Rd.blk 0 rfl | exact Rd.blk 1 rfl | exact Rd.blk 2 rfl | exact Rd.blk 3 rfl | exact Rd.blk 4 rfl)
  case h1 => rfl
  refine zR 3 rfl ?_
  refine WL.guardT rfl (by first | rfl | (simp only [g1, g2, g3]; done) | (simp only [g1, g2, g3]; rfl)) ?_
  refine yP ?_
  refine WL.guardT rfl (by first | rfl | (simp only [g1, g2, g3]; done) | (simp only [g1, g2, g3]; rfl)) ?_
  refine' WG.y rfl rfl qD (Yl.load1 tab_ok rfl rfl rfl (fun _ => rfl) ?r2 rfl ?h2) ?_
  case r2 => apply Rd.add; (first | exact Rd.blk 0 rfl | exact Rd.blk 1 rfl | exact Rd.blk 2 rfl | exact Rd.blk 3 rfl | exact Rd.blk 4 rfl)
  case h2 => rfl
  refine WL.guardT rfl (by first | rfl | (simp only [g1, g2, g3]; done) | (simp only [g1, g2, g3]; rfl)) ?_
  refine yP ?_
  refine WL.guardT rfl (by first | rfl | (simp only [g1, g2, g3]; done) | (simp only [g1, g2, g3]; rfl)) ?_
  refine' WG.y rfl rfl qD (Yl.load1 tab_ok rfl rfl rfl (fun _ => rfl) ?r3 rfl ?h3) ?_
  case r3 => apply Rd.add; (first | exact Rd.blk 0 rfl | exact Rd.blk 1 rfl | exact Rd.blk 2 rfl | exact Rd.blk 3 rfl | exact Rd.blk 4 rfl)
  case h3 => rfl
  refine WL.guardT rfl (by first | rfl | (simp only [g1, g2, g3]; done) | (simp only [g1, g2, g3]; rfl)) ?_
  refine yP ?_
  refine WL.guardT rfl (by first | rfl | (simp only [g1, g2, g3]; done) | (simp only [g1, g2, g3]; rfl)) ?_
  refine yS ?_
  refine WL.guardT rfl (by first | rfl | (simp only [g1, g2, g3]; done) | (simp only [g1, g2, g3]; rfl)) ?_
  refine WG.y rfl rfl qD (Yl.index tab_ok rfl rfl rfl rfl rfl rfl (fun _ => rfl) qA qH) ?_
  refine WL.guardT rfl (by first | rfl | (simp only [g1, g2, g3]; done) | (simp only [g1, g2, g3]; rfl)) ?_
  refine' WG.y rfl rfl qD (Yl.load1 tab_ok rfl rfl rfl (fun _ => rfl) ?r4 rfl ?h4) ?_
  case r4 => (first | (apply RS.rdD; assumption; ((try dsimp only) <;> omega)) | exact Rd.slD 0 rfl qX | exact Rd.slD 1 rfl qX | exact Rd.slD 2 rfl qX | exact Rd.slD 3 rfl qX | exact Rd.slD 4 rfl qX)
  case h4 => rfl
  refine WL.guardT rfl (by first | rfl | (simp only [g1, g2, g3]; done) | (simp only [g1, g2, g3]; rfl)) ?_
  refine yP ?_
  refine yO ?_
  refine zR 1 rfl ?_
  refine WL.guardT rfl (by first | rfl | (simp only [g1, g2, g3]; done) | (simp only [g1, g2, g3]; rfl)) ?_
  refine yP ?_
  refine WL.guardT rfl (by first | rfl | (simp only [g1, g2, g3]; done) | (simp only [g1, g2, g3]; rfl)) ?_
  refine' WG.y rfl rfl qD (Yl.load1 tab_ok rfl rfl rfl (fun _ => rfl) ?r5 rfl ?h5) ?_
  case r5 => apply Rd.add; (first | exact Rd.blk 0 rfl | exact Rd.blk 1 rfl | exact Rd.blk 2 rfl | exact Rd.blk 3 rfl | exact Rd.blk 4 rfl)
  case h5 => rfl
  refine WL.guardT rfl (by first | rfl | (simp only [g1, g2, g3]; done) | (simp only [g1, g2, g3]; rfl)) ?_
  refine yP ?_
  refine yO ?_
  refine zR 1 rfl ?_
  refine WL.guardT rfl (by first | rfl | (simp only [g1, g2, g3]; done) | (simp only [g1, g2, g3]; rfl)) ?_
  refine yP ?_
  refine WL.guardT rfl (by first | rfl | (simp only [g1, g2, g3]; done) | (simp only [g1, g2, g3]; rfl)) ?_
  refine' WG.y rfl rfl qD (Yl.load1 tab_ok rfl rfl rfl (fun _ => rfl) ?r6 rfl ?h6) ?_
  case r6 => apply Rd.add; (first | exact Rd.blk 0 rfl | exact Rd.blk 1 rfl | exact Rd.blk 2 rfl | exact Rd.blk 3 rfl | exact Rd.blk 4 rfl)
  case h6 => rfl
  refine WL.guardT rfl (by first | rfl | (simp only [g1, g2, g3]; done) | (simp only [g1, g2, g3]; rfl)) ?_
  refine yP ?_
  refine WL.guardT rfl (by first | rfl | (simp only [g1, g2, g3]; done) | (simp only [g1, g2, g3]; rfl)) ?_
  refine' WG.y rfl rfl qD (Yl.load1 tab_ok rfl rfl rfl (fun _ => rfl) ?r7 rfl ?h7) ?_
  case r7 => apply Rd.add; (first | exact Rd.blk 0 rfl | exact Rd.blk 1 rfl | exact Rd.blk 2 rfl | exact Rd.blk 3 rfl | exact Rd.blk 4 rfl)
  case h7 => rfl
  refine WL.guardT rfl (by first | rfl | (simp only [g1, g2, g3]; done) | (simp only [g1, g2, g3]; rfl)) ?_
  refine yP ?_
  refine WL.guardT rfl (by first | rfl | (simp only [g1, g2, g3]; done) | (simp only [g1, g2, g3]; rfl)) ?_
  refine yP ?_
  refine yO ?_
  refine zN (zU ?_)
  refine W.cond rfl (fun hc0 => ?_) (fun hc0 => ?_)
  ·try simp only [zk] at hc0
   rw [beq_eq_false_iff_ne] at g2
   rcases hc0 with ((h | h) | h) | h
   ·omega
   ·exact absurd h g2
   ·omega
   ·omega
  ·try simp only [zk] at hc0
   refine zK (zU (zQ (zQ (zG (zR 2 rfl ?_)))))
   refine yS ?_
   refine zR 1 rfl ?_
   refine' WG.y rfl rfl qD (Yl.load1 tab_ok rfl rfl rfl (fun _ => rfl) ?r8 rfl ?h8) ?_
   case r8 => apply Rd.add; (first | exact Rd.blk 0 rfl | exact Rd.blk 1 rfl | exact Rd.blk 2 rfl | exact Rd.blk 3 rfl | exact Rd.blk 4 rfl)
   case h8 => rfl
   refine WG.y rfl rfl qD (Yl.mul rfl rfl rfl (fun _ => rfl) qA) ?_
   rw [hkb3]
   refine yA ?_
   rw [show (more : Int) + (((times - 1) * P : Nat) : Int) = (((more + (times - 1) * P) - 0 : Nat) : Int) by omega]
   refine zR 1 rfl (zN (zU (zB ?_)))
   refine W.loopK (β := Nat × Option Addr × Nat) (fun (i, a12, c12) => i ≤ (more + (times - 1) * P)) (fun (i, a12, c12) => [(8, true, .int .i64 (((more + (times - 1) * P) - i : Nat) : Int))]) [2, 3, 6, 7] [_, _, _, _] [] _ rfl (fun (i, a12, c12) => [(0, .blk b7 [.slice a12 (fvals F (S + P + i)).length c12, .int .i64 (P : Int), .int .i64 I]), (1, .sl 3 1 a12 c12 ((fvals F (S + P + i)).map encI))]) (fun (i, a12, c12) => (more + (times - 1) * P) - i) ((0, a12, c12)) (Nat.zero_le _) ⟨rfl, rfl, rfl, rfl, rfl, rfl⟩ qS ?_
   intro st hst
   obtain ⟨i, a12, c12⟩ := st
   dsimp only [zipE, setAll, List.cons_append, List.nil_append, List.set_cons_zero, List.set_cons_succ] at hst ⊢
   
   refine zQ (zQ (zG (zR 2 rfl (zN (zU ?_)))))
   refine W.condD rfl (fun hc1 => ?_) (fun hc1 => ?_)
   ·try dsimp only at hc1
    have hil : i < more + (times - 1) * P := by omega
    have hvl : (fvals F (S + P + i)).length = S + P + i := fvals_len F _
    have hnx : nth (fvals F (S + P + i)) ((((fvals F (S + P + i)).length : Int) - (P : Int)).toNat) + I = F (S + P + i) := by
     rw [show (((fvals F (S + P + i)).length : Int) - (P : Int)).toNat = S + i by omega, fvals_nth F (by omega), ← hf.hg (S + i) (by omega)]
     congr 1; omega
    have hb9 := hbd (S + P + i)
    have hb8 := hbd (S + i)
    have hn8 := hf.nonneg (S + i)
    have hv8 : nth (fvals F (S + P + i)) ((((fvals F (S + P + i)).length : Int) - (P : Int)).toNat) = F (S + i) := by
     rw [show (((fvals F (S + P + i)).length : Int) - (P : Int)).toNat = S + i by omega, fvals_nth F (by omega)]
    have e1 : fvals F (S + P + (i + 1)) = fvals F (S + P + i) ++ [nth (fvals F (S + P + i)) ((((fvals F (S + P + i)).length : Int) - (P : Int)).toNat) + I] := by rw [hnx]; exact fvals_snoc F _
    refine zK (zU (zQ (zB ?_)))
    refine W.regionH _ (ES := [.blk b3 [.slice fa (fvals F (S + P)).length fc, .int .i64 (P : Int), .int .i64 I]]) mixed ?_
    refine tP 0 ?_
    refine tP 2 ?_
    refine tP 4 ?_
    refine tP 7 ?_
    refine' WA.take 8 rfl qK qK qK rfl rfl qD (Yl.load1 tab_ok rfl rfl rfl (fun _ => rfl) ?r9 rfl ?h9) qS qR ?_
    case r9 => apply Rd.add; (first | exact Rd.blk 0 rfl | exact Rd.blk 1 rfl | exact Rd.blk 2 rfl | exact Rd.blk 3 rfl | exact Rd.blk 4 rfl)
    case h9 => rfl
    refine tP 12 ?_
    refine' WA.take 13 rfl qK qK qK rfl rfl qD (Yl.load1 tab_ok rfl rfl rfl (fun _ => rfl) ?r10 rfl ?h10) qS qR ?_
    case r10 => apply Rd.add; (first | exact Rd.blk 0 rfl | exact Rd.blk 1 rfl | exact Rd.blk 2 rfl | exact Rd.blk 3 rfl | exact Rd.blk 4 rfl)
    case h10 => rfl
    refine WA.br3 (i := 1) (j := 3) (k := 5) qK ?_ ?_ ?_
    ·
     refine' WS.yl rfl rfl rfl qD (Yl.load1 tab_ok rfl rfl rfl (fun _ => rfl) ?r11 rfl ?h11) qS qR ?_
     case r11 => apply Rd.add; (first | exact Rd.blk 0 rfl | exact Rd.blk 1 rfl | exact Rd.blk 2 rfl | exact Rd.blk 3 rfl | exact Rd.blk 4 rfl | (apply RS.rdD; assumption; ((try dsimp only) <;> omega)) | exact Rd.slD 0 rfl qX | exact Rd.slD 1 rfl qX | exact Rd.slD 2 rfl qX | exact Rd.slD 3 rfl qX | exact Rd.slD 4 rfl qX)
     case h11 => rfl
     refine WA.br2 (i := 3) (j := 5) qK ?_ ?_
     ·
      refine' WS.yl rfl rfl rfl qD (Yl.load1 tab_ok rfl rfl rfl (fun _ => rfl) ?r12 rfl ?h12) qS qR ?_
      case r12 => apply Rd.add; (first | exact Rd.blk 0 rfl | exact Rd.blk 1 rfl | exact Rd.blk 2 rfl | exact Rd.blk 3 rfl | exact Rd.blk 4 rfl | (apply RS.rdD; assumption; ((try dsimp only) <;> omega)) | exact Rd.slD 0 rfl qX | exact Rd.slD 1 rfl qX | exact Rd.slD 2 rfl qX | exact Rd.slD 3 rfl qX | exact Rd.slD 4 rfl qX)
      case h12 => rfl
      refine' WA.yl 5 rfl qK rfl rfl qD (Yl.load1 tab_ok rfl rfl rfl (fun _ => rfl) ?r13 rfl ?h13) qS qR ?_
      case r13 => apply Rd.add; (first | exact Rd.blk 0 rfl | exact Rd.blk 1 rfl | exact Rd.blk 2 rfl | exact Rd.blk 3 rfl | exact Rd.blk 4 rfl | (apply RS.rdD; assumption; ((try dsimp only) <;> omega)) | exact Rd.slD 0 rfl qX | exact Rd.slD 1 rfl qX | exact Rd.slD 2 rfl qX | exact Rd.slD 3 rfl qX | exact Rd.slD 4 rfl qX)
      case h13 => rfl
      refine tP 6 ?_
      refine tS 9 ?_
      refine WA.yl 10 rfl qK rfl rfl qD (Yl.index tab_ok rfl rfl rfl rfl rfl rfl (fun _ => rfl) qA qH) qS qR ?_
      refine' WA.yl 11 rfl qK rfl rfl qD (Yl.load1 tab_ok rfl rfl rfl (fun _ => rfl) ?r14 rfl ?h14) qS qR ?_
      case r14 => (first | (apply RS.rdD; assumption; ((try dsimp only) <;> omega)) | exact Rd.slD 0 rfl qX | exact Rd.slD 1 rfl qX | exact Rd.slD 2 rfl qX | exact Rd.slD 3 rfl qX | exact Rd.slD 4 rfl qX)
      case h14 => rfl
      refine tA 14 ?_
      refine WA.eff 15 rfl qK rfl rfl qD (Ef.buildSliceD (enc := encI) (parts := [.tmp 72]) [_] tab_ok rfl rfl rfl rfl rfl rfl rfl rfl qD qD (fun a73 => ?_))
      refine ⟨qR, qS, ?_⟩
      first | refine WA.eff 16 rfl (by kernel_rfl) rfl rfl (by decide) (Ef.appendD 1 0 tab_ok rfl rfl rfl rfl rfl rfl rfl rfl rfl rfl rfl (fun _ _ => rfl) (by simp only [List.length_cons, List.length_nil]; omega) (by simp only [List.length_cons, List.length_nil]; omega) (fun a74 c74 ha74 => ?_)) | refine WA.eff 16 rfl (by kernel_rfl) rfl rfl (by decide) (Ef.appendD 2 0 tab_ok rfl rfl rfl rfl rfl rfl rfl rfl rfl rfl rfl (fun _ _ => rfl) (by simp only [List.length_cons, List.length_nil]; omega) (by simp only [List.length_cons, List.length_nil]; omega) (fun a74 c74 ha74 => ?_)) | refine WA.eff 16 rfl (by kernel_rfl) rfl rfl (by decide) (Ef.appendD 3 0 tab_ok rfl rfl rfl rfl rfl rfl rfl rfl rfl rfl rfl (fun _ _ => rfl) (by simp only [List.length_cons, List.length_nil]; omega) (by simp only [List.length_cons, List.length_nil]; omega) (fun a74 c74 ha74 => ?_)) | refine WA.eff 16 rfl (by kernel_rfl) rfl rfl (by decide) (Ef.appendD 4 0 tab_ok rfl rfl rfl rfl rfl rfl rfl rfl rfl rfl rfl (fun _ _ => rfl) (by simp only [List.length_cons, List.length_nil]; omega) (by simp only [List.length_cons, List.length_nil]; omega) (fun a74 c74 ha74 => ?_)) | refine WA.eff 16 rfl (by kernel_rfl) rfl rfl (by decide) (Ef.appendR 0 tab_ok rfl rfl rfl rfl rfl rfl rfl rfl rfl rfl (by assumption) (fun _ _ => rfl) (by (try dsimp only); omega) (by omega) (fun a74 c74 ha74 => ?_)) | refine WA.eff 16 rfl (by kernel_rfl) rfl rfl (by decide) (Ef.appendR 1 tab_ok rfl rfl rfl rfl rfl rfl rfl rfl rfl rfl (by assumption) (fun _ _ => rfl) (by (try dsimp only); omega) (by omega) (fun a74 c74 ha74 => ?_)) | refine WA.eff 16 rfl (by kernel_rfl) rfl rfl (by decide) (Ef.appendR 2 tab_ok rfl rfl rfl rfl rfl rfl rfl rfl rfl rfl (by assumption) (fun _ _ => rfl) (by (try dsimp only); omega) (by omega) (fun a74 c74 ha74 => ?_)) | refine WA.eff 16 rfl (by kernel_rfl) rfl rfl (by decide) (Ef.appendR 3 tab_ok rfl rfl rfl rfl rfl rfl rfl rfl rfl rfl (by assumption) (fun _ _ => rfl) (by (try dsimp only); omega) (by omega) (fun a74 c74 ha74 => ?_)) | refine WA.eff 16 rfl (by kernel_rfl) rfl rfl (by decide) (Ef.appendR 4 tab_ok rfl rfl rfl rfl rfl rfl rfl rfl rfl rfl (by assumption) (fun _ _ => rfl) (by (try dsimp only); omega) (by omega) (fun a74 c74 ha74 => ?_))
      refine ⟨qR, qS, ?_⟩
      refine tP 17 ?_
      first | refine WA.effN 18 rfl qK rfl rfl (Ef.store 0 tab_ok rfl rfl rfl rfl rfl rfl rfl rfl ?_) | refine WA.effN 18 rfl qK rfl rfl (Ef.store 1 tab_ok rfl rfl rfl rfl rfl rfl rfl rfl ?_) | refine WA.effN 18 rfl qK rfl rfl (Ef.store 2 tab_ok rfl rfl rfl rfl rfl rfl rfl rfl ?_) | refine WA.effN 18 rfl qK rfl rfl (Ef.store 3 tab_ok rfl rfl rfl rfl rfl rfl rfl rfl ?_) | refine WA.effN 18 rfl qK rfl rfl (Ef.store 4 tab_ok rfl rfl rfl rfl rfl rfl rfl rfl ?_)
      refine ⟨qR, qS, ?_⟩
      refine WA.done qK ?_
      refine zL (zU (zG (zR 1 rfl ?_)))
      refine yS ?_
      rw [show (((more + (times - 1) * P) - i : Nat) : Int) - 1 = (((more + (times - 1) * P) - (i + 1) : Nat) : Int) by omega]
      refine zR 1 rfl (zN ?_)
      refine WE.again ((i + 1, a74, c74)) (by dsimp only; omega) (by (try dsimp only); omega) ⟨rfl, rfl, rfl, rfl, rfl, rfl⟩ (RLe.refl _) (by dsimp only [setAll, List.set_cons_zero, List.set_cons_succ]; rw [e1, List.length_append]; exact qS)
     ·
      refine' WS.yl rfl rfl rfl qD (Yl.load1 tab_ok rfl rfl rfl (fun _ => rfl) ?r15 rfl ?h15) qS qR ?_
      case r15 => apply Rd.add; (first | exact Rd.blk 0 rfl | exact Rd.blk 1 rfl | exact Rd.blk 2 rfl | exact Rd.blk 3 rfl | exact Rd.blk 4 rfl | (apply RS.rdD; assumption; ((try dsimp only) <;> omega)) | exact Rd.slD 0 rfl qX | exact Rd.slD 1 rfl qX | exact Rd.slD 2 rfl qX | exact Rd.slD 3 rfl qX | exact Rd.slD 4 rfl qX)
      case h15 => rfl
      refine tP 6 ?_
      refine tS 9 ?_
      refine' WA.yl 3 rfl qK rfl rfl qD (Yl.load1 tab_ok rfl rfl rfl (fun _ => rfl) ?r16 rfl ?h16) qS qR ?_
      case r16 => apply Rd.add; (first | exact Rd.blk 0 rfl | exact Rd.blk 1 rfl | exact Rd.blk 2 rfl | exact Rd.blk 3 rfl | exact Rd.blk 4 rfl | (apply RS.rdD; assumption; ((try dsimp only) <;> omega)) | exact Rd.slD 0 rfl qX | exact Rd.slD 1 rfl qX | exact Rd.slD 2 rfl qX | exact Rd.slD 3 rfl qX | exact Rd.slD 4 rfl qX)
      case h16 => rfl
      refine WA.yl 10 rfl qK rfl rfl qD (Yl.index tab_ok rfl rfl rfl rfl rfl rfl (fun _ => rfl) qA qH) qS qR ?_
      refine' WA.yl 11 rfl qK rfl rfl qD (Yl.load1 tab_ok rfl rfl rfl (fun _ => rfl) ?r17 rfl ?h17) qS qR ?_
      case r17 => (first | (apply RS.rdD; assumption; ((try dsimp only) <;> omega)) | exact Rd.slD 0 rfl qX | exact Rd.slD 1 rfl qX | exact Rd.slD 2 rfl qX | exact Rd.slD 3 rfl qX | exact Rd.slD 4 rfl qX)
      case h17 => rfl
      refine tA 14 ?_
      refine WA.eff 15 rfl qK rfl rfl qD (Ef.buildSliceD (enc := encI) (parts := [.tmp 72]) [_] tab_ok rfl rfl rfl rfl rfl rfl rfl rfl qD qD (fun a73 => ?_))
      refine ⟨qR, qS, ?_⟩
      first | refine WA.eff 16 rfl (by kernel_rfl) rfl rfl (by decide) (Ef.appendD 1 0 tab_ok rfl rfl rfl rfl rfl rfl rfl rfl rfl rfl rfl (fun _ _ => rfl) (by simp only [List.length_cons, List.length_nil]; omega) (by simp only [List.length_cons, List.length_nil]; omega) (fun a74 c74 ha74 => ?_)) | refine WA.eff 16 rfl (by kernel_rfl) rfl rfl (by decide) (Ef.appendD 2 0 tab_ok rfl rfl rfl rfl rfl rfl rfl rfl rfl rfl rfl (fun _ _ => rfl) (by simp only [List.length_cons, List.length_nil]; omega) (by simp only [List.length_cons, List.length_nil]; omega) (fun a74 c74 ha74 => ?_)) | refine WA.eff 16 rfl (by kernel_rfl) rfl rfl (by decide) (Ef.appendD 3 0 tab_ok rfl rfl rfl rfl rfl rfl rfl rfl rfl rfl rfl (fun _ _ => rfl) (by simp only [List.length_cons, List.length_nil]; omega) (by simp only [List.length_cons, List.length_nil]; omega) (fun a74 c74 ha74 => ?_)) | refine WA.eff 16 rfl (by kernel_rfl) rfl rfl (by decide) (Ef.appendD 4 0 tab_ok rfl rfl rfl rfl rfl rfl rfl rfl rfl rfl rfl (fun _ _ => rfl) (by simp only [List.length_cons, List.length_nil]; omega) (by simp only [List.length_cons, List.length_nil]; omega) (fun a74 c74 ha74 => ?_)) | refine WA.eff 16 rfl (by kernel_rfl) rfl rfl (by decide) (Ef.appendR 0 tab_ok rfl rfl rfl rfl rfl rfl rfl rfl rfl rfl (by assumption) (fun _ _ => rfl) (by (try dsimp only); omega) (by omega) (fun a74 c74 ha74 => ?_)) | refine WA.eff 16 rfl (by kernel_rfl) rfl rfl (by decide) (Ef.appendR 1 tab_ok rfl rfl rfl rfl rfl rfl rfl rfl rfl rfl (by assumption) (fun _ _ => rfl) (by (try dsimp only); omega) (by omega) (fun a74 c74 ha74 => ?_)) | refine WA.eff 16 rfl (by kernel_rfl) rfl rfl (by decide) (Ef.appendR 2 tab_ok rfl rfl rfl rfl rfl rfl rfl rfl rfl rfl (by assumption) (fun _ _ => rfl) (by (try dsimp only); omega) (by omega) (fun a74 c74 ha74 => ?_)) | refine WA.eff 16 rfl (by kernel_rfl) rfl rfl (by decide) (Ef.appendR 3 tab_ok rfl rfl rfl rfl rfl rfl rfl rfl rfl rfl (by assumption) (fun _ _ => rfl) (by (try dsimp only); omega) (by omega) (fun a74 c74 ha74 => ?_)) | refine WA.eff 16 rfl (by kernel_rfl) rfl rfl (by decide) (Ef.appendR 4 tab_ok rfl rfl rfl rfl rfl rfl rfl rfl rfl rfl (by assumption) (fun _ _ => rfl) (by (try dsimp only); omega) (by omega) (fun a74 c74 ha74 => ?_))
      refine ⟨qR, qS, ?_⟩
      refine tP 17 ?_
      first | refine WA.effN 18 rfl qK rfl rfl (Ef.store 0 tab_ok rfl rfl rfl rfl rfl rfl rfl rfl ?_) | refine WA.effN 18 rfl qK rfl rfl (Ef.store 1 tab_ok rfl rfl rfl rfl rfl rfl rfl rfl ?_) | refine WA.effN 18 rfl qK rfl rfl (Ef.store 2 tab_ok rfl rfl rfl rfl rfl rfl rfl rfl ?_) | refine WA.effN 18 rfl qK rfl rfl (Ef.store 3 tab_ok rfl rfl rfl rfl rfl rfl rfl rfl ?_) | refine WA.effN 18 rfl qK rfl rfl (Ef.store 4 tab_ok rfl rfl rfl rfl rfl rfl rfl rfl ?_)
      refine ⟨qR, qS, ?_⟩
      refine WA.done qK ?_
      refine zL (zU (zG (zR 1 rfl ?_)))
      refine yS ?_
      rw [show (((more + (times - 1) * P) - i : Nat) : Int) - 1 = (((more + (times - 1) * P) - (i + 1) : Nat) : Int) by omega]
      refine zR 1 rfl (zN ?_)
      refine WE.again ((i + 1, a74, c74)) (by dsimp only; omega) (by (try dsimp only); omega) ⟨rfl, rfl, rfl, rfl, rfl, rfl⟩ (RLe.refl _) (by dsimp only [setAll, List.set_cons_zero, List.set_cons_succ]; rw [e1, List.length_append]; exact qS)
    ·
     refine' WS.yl rfl rfl rfl qD (Yl.load1 tab_ok rfl rfl rfl (fun _ => rfl) ?r18 rfl ?h18) qS qR ?_
     case r18 => apply Rd.add; (first | exact Rd.blk 0 rfl | exact Rd.blk 1 rfl | exact Rd.blk 2 rfl | exact Rd.blk 3 rfl | exact Rd.blk 4 rfl | (apply RS.rdD; assumption; ((try dsimp only) <;> omega)) | exact Rd.slD 0 rfl qX | exact Rd.slD 1 rfl qX | exact Rd.slD 2 rfl qX | exact Rd.slD 3 rfl qX | exact Rd.slD 4 rfl qX)
     case h18 => rfl
     refine WA.br2 (i := 1) (j := 5) qK ?_ ?_
     ·
      refine' WS.yl rfl rfl rfl qD (Yl.load1 tab_ok rfl rfl rfl (fun _ => rfl) ?r19 rfl ?h19) qS qR ?_
      case r19 => apply Rd.add; (first | exact Rd.blk 0 rfl | exact Rd.blk 1 rfl | exact Rd.blk 2 rfl | exact Rd.blk 3 rfl | exact Rd.blk 4 rfl | (apply RS.rdD; assumption; ((try dsimp only) <;> omega)) | exact Rd.slD 0 rfl qX | exact Rd.slD 1 rfl qX | exact Rd.slD 2 rfl qX | exact Rd.slD 3 rfl qX | exact Rd.slD 4 rfl qX)
      case h19 => rfl
      refine' WA.yl 5 rfl qK rfl rfl qD (Yl.load1 tab_ok rfl rfl rfl (fun _ => rfl) ?r20 rfl ?h20) qS qR ?_
      case r20 => apply Rd.add; (first | exact Rd.blk 0 rfl | exact Rd.blk 1 rfl | exact Rd.blk 2 rfl | exact Rd.blk 3 rfl | exact Rd.blk 4 rfl | (apply RS.rdD; assumption; ((try dsimp only) <;> omega)) | exact Rd.slD 0 rfl qX | exact Rd.slD 1 rfl qX | exact Rd.slD 2 rfl qX | exact Rd.slD 3 rfl qX | exact Rd.slD 4 rfl qX)
      case h20 => rfl
      refine tP 6 ?_
      refine tS 9 ?_
      refine WA.yl 10 rfl qK rfl rfl qD (Yl.index tab_ok rfl rfl rfl rfl rfl rfl (fun _ => rfl) qA qH) qS qR ?_
      refine' WA.yl 11 rfl qK rfl rfl qD (Yl.load1 tab_ok rfl rfl rfl (fun _ => rfl) ?r21 rfl ?h21) qS qR ?_
      case r21 => (first | (apply RS.rdD; assumption; ((try dsimp only) <;> omega)) | exact Rd.slD 0 rfl qX | exact Rd.slD 1 rfl qX | exact Rd.slD 2 rfl qX | exact Rd.slD 3 rfl qX | exact Rd.slD 4 rfl qX)
      case h21 => rfl
      refine tA 14 ?_
      refine WA.eff 15 rfl qK rfl rfl qD (Ef.buildSliceD (enc := encI) (parts := [.tmp 72]) [_] tab_ok rfl rfl rfl rfl rfl rfl rfl rfl qD qD (fun a73 => ?_))
      refine ⟨qR, qS, ?_⟩
      first | refine WA.eff 16 rfl (by kernel_rfl) rfl rfl (by decide) (Ef.appendD 1 0 tab_ok rfl rfl rfl rfl rfl rfl rfl rfl rfl rfl rfl (fun _ _ => rfl) (by simp only [List.length_cons, List.length_nil]; omega) (by simp only [List.length_cons, List.length_nil]; omega) (fun a74 c74 ha74 => ?_)) | refine WA.eff 16 rfl (by kernel_rfl) rfl rfl (by decide) (Ef.appendD 2 0 tab_ok rfl rfl rfl rfl rfl rfl rfl rfl rfl rfl rfl (fun _ _ => rfl) (by simp only [List.length_cons, List.length_nil]; omega) (by simp only [List.length_cons, List.length_nil]; omega) (fun a74 c74 ha74 => ?_)) | refine WA.eff 16 rfl (by kernel_rfl) rfl rfl (by decide) (Ef.appendD 3 0 tab_ok rfl rfl rfl rfl rfl rfl rfl rfl rfl rfl rfl (fun _ _ => rfl) (by simp only [List.length_cons, List.length_nil]; omega) (by simp only [List.length_cons, List.length_nil]; omega) (fun a74 c74 ha74 => ?_)) | refine WA.eff 16 rfl (by kernel_rfl) rfl rfl (by decide) (Ef.appendD 4 0 tab_ok rfl rfl rfl rfl rfl rfl rfl rfl rfl rfl rfl (fun _ _ => rfl) (by simp only [List.length_cons, List.length_nil]; omega) (by simp only [List.length_cons, List.length_nil]; omega) (fun a74 c74 ha74 => ?_)) | refine WA.eff 16 rfl (by kernel_rfl) rfl rfl (by decide) (Ef.appendR 0 tab_ok rfl rfl rfl rfl rfl rfl rfl rfl rfl rfl (by assumption) (fun _ _ => rfl) (by (try dsimp only); omega) (by omega) (fun a74 c74 ha74 => ?_)) | refine WA.eff 16 rfl (by kernel_rfl) rfl rfl (by decide) (Ef.appendR 1 tab_ok rfl rfl rfl rfl rfl rfl rfl rfl rfl rfl (by assumption) (fun _ _ => rfl) (by (try dsimp only); omega) (by omega) (fun a74 c74 ha74 => ?_)) | refine WA.eff 16 rfl (by kernel_rfl) rfl rfl (by decide) (Ef.appendR 2 tab_ok rfl rfl rfl rfl rfl rfl rfl rfl rfl rfl (by assumption) (fun _ _ => rfl) (by (try dsimp only); omega) (by omega) (fun a74 c74 ha74 => ?_)) | refine WA.eff 16 rfl (by kernel_rfl) rfl rfl (by decide) (Ef.appendR 3 tab_ok rfl rfl rfl rfl rfl rfl rfl rfl rfl rfl (by assumption) (fun _ _ => rfl) (by (try dsimp only); omega) (by omega) (fun a74 c74 ha74 => ?_)) | refine WA.eff 16 rfl (by kernel_rfl) rfl rfl (by decide) (Ef.appendR 4 tab_ok rfl rfl rfl rfl rfl rfl rfl rfl rfl rfl (by assumption) (fun _ _ => rfl) (by (try dsimp only); omega) (by omega) (fun a74 c74 ha74 => ?_))
      refine ⟨qR, qS, ?_⟩
      refine tP 17 ?_
      first | refine WA.effN 18 rfl qK rfl rfl (Ef.store 0 tab_ok rfl rfl rfl rfl rfl rfl rfl rfl ?_) | refine WA.effN 18 rfl qK rfl rfl (Ef.store 1 tab_ok rfl rfl rfl rfl rfl rfl rfl rfl ?_) | refine WA.effN 18 rfl qK rfl rfl (Ef.store 2 tab_ok rfl rfl rfl rfl rfl rfl rfl rfl ?_) | refine WA.effN 18 rfl qK rfl rfl (Ef.store 3 tab_ok rfl rfl rfl rfl rfl rfl rfl rfl ?_) | refine WA.effN 18 rfl qK rfl rfl (Ef.store 4 tab_ok rfl rfl rfl rfl rfl rfl rfl rfl ?_)
      refine ⟨qR, qS, ?_⟩
      refine WA.done qK ?_
      refine zL (zU (zG (zR 1 rfl ?_)))
      refine yS ?_
      rw [show (((more + (times - 1) * P) - i : Nat) : Int) - 1 = (((more + (times - 1) * P) - (i + 1) : Nat) : Int) by omega]
      refine zR 1 rfl (zN ?_)
      refine WE.again ((i + 1, a74, c74)) (by dsimp only; omega) (by (try dsimp only); omega) ⟨rfl, rfl, rfl, rfl, rfl, rfl⟩ (RLe.refl _) (by dsimp only [setAll, List.set_cons_zero, List.set_cons_succ]; rw [e1, List.length_append]; exact qS)
     ·
      refine' WS.yl rfl rfl rfl qD (Yl.load1 tab_ok rfl rfl rfl (fun _ => rfl) ?r22 rfl ?h22) qS qR ?_
      case r22 => apply Rd.add; (first | exact Rd.blk 0 rfl | exact Rd.blk 1 rfl | exact Rd.blk 2 rfl | exact Rd.blk 3 rfl | exact Rd.blk 4 rfl | (apply RS.rdD; assumption; ((try dsimp only) <;> omega)) | exact Rd.slD 0 rfl qX | exact Rd.slD 1 rfl qX | exact Rd.slD 2 rfl qX | exact Rd.slD 3 rfl qX | exact Rd.slD 4 rfl qX)
      case h22 => rfl
      refine tP 6 ?_
      refine tS 9 ?_
      refine WA.br2 (i := 1) (j := 10) qK ?_ ?_
      ·
       refine' WS.yl rfl rfl rfl qD (Yl.load1 tab_ok rfl rfl rfl (fun _ => rfl) ?r23 rfl ?h23) qS qR ?_
       case r23 => apply Rd.add; (first | exact Rd.blk 0 rfl | exact Rd.blk 1 rfl | exact Rd.blk 2 rfl | exact Rd.blk 3 rfl | exact Rd.blk 4 rfl | (apply RS.rdD; assumption; ((try dsimp only) <;> omega)) | exact Rd.slD 0 rfl qX | exact Rd.slD 1 rfl qX | exact Rd.slD 2 rfl qX | exact Rd.slD 3 rfl qX | exact Rd.slD 4 rfl qX)
       case h23 => rfl
       refine WA.yl 10 rfl qK rfl rfl qD (Yl.index tab_ok rfl rfl rfl rfl rfl rfl (fun _ => rfl) qA qH) qS qR ?_
       refine' WA.yl 11 rfl qK rfl rfl qD (Yl.load1 tab_ok rfl rfl rfl (fun _ => rfl) ?r24 rfl ?h24) qS qR ?_
       case r24 => (first | (apply RS.rdD; assumption; ((try dsimp only) <;> omega)) | exact Rd.slD 0 rfl qX | exact Rd.slD 1 rfl qX | exact Rd.slD 2 rfl qX | exact Rd.slD 3 rfl qX | exact Rd.slD 4 rfl qX)
       case h24 => rfl
       refine tA 14 ?_
       refine WA.eff 15 rfl qK rfl rfl qD (Ef.buildSliceD (enc := encI) (parts := [.tmp 72]) [_] tab_ok rfl rfl rfl rfl rfl rfl rfl rfl qD qD (fun a73 => ?_))
       refine ⟨qR, qS, ?_⟩
       first | refine WA.eff 16 rfl (by kernel_rfl) rfl rfl (by decide) (Ef.appendD 1 0 tab_ok rfl rfl rfl rfl rfl rfl rfl rfl rfl rfl rfl (fun _ _ => rfl) (by simp only [List.length_cons, List.length_nil]; omega) (by simp only [List.length_cons, List.length_nil]; omega) (fun a74 c74 ha74 => ?_)) | refine WA.eff 16 rfl (by kernel_rfl) rfl rfl (by decide) (Ef.appendD 2 0 tab_ok rfl rfl rfl rfl rfl rfl rfl rfl rfl rfl rfl (fun _ _ => rfl) (by simp only [List.length_cons, List.length_nil]; omega) (by simp only [List.length_cons, List.length_nil]; omega) (fun a74 c74 ha74 => ?_)) | refine WA.eff 16 rfl (by kernel_rfl) rfl rfl (by decide) (Ef.appendD 3 0 tab_ok rfl rfl rfl rfl rfl rfl rfl rfl rfl rfl rfl (fun _ _ => rfl) (by simp only [List.length_cons, List.length_nil]; omega) (by simp only [List.length_cons, List.length_nil]; omega) (fun a74 c74 ha74 => ?_)) | refine WA.eff 16 rfl (by kernel_rfl) rfl rfl (by decide) (Ef.appendD 4 0 tab_ok rfl rfl rfl rfl rfl rfl rfl rfl rfl rfl rfl (fun _ _ => rfl) (by simp only [List.length_cons, List.length_nil]; omega) (by simp only [List.length_cons, List.length_nil]; omega) (fun a74 c74 ha74 => ?_)) | refine WA.eff 16 rfl (by kernel_rfl) rfl rfl (by decide) (Ef.appendR 0 tab_ok rfl rfl rfl rfl rfl rfl rfl rfl rfl rfl (by assumption) (fun _ _ => rfl) (by (try dsimp only); omega) (by omega) (fun a74 c74 ha74 => ?_)) | refine WA.eff 16 rfl (by kernel_rfl) rfl rfl (by decide) (Ef.appendR 1 tab_ok rfl rfl rfl rfl rfl rfl rfl rfl rfl rfl (by assumption) (fun _ _ => rfl) (by (try dsimp only); omega) (by omega) (fun a74 c74 ha74 => ?_)) | refine WA.eff 16 rfl (by kernel_rfl) rfl rfl (by decide) (Ef.appendR 2 tab_ok rfl rfl rfl rfl rfl rfl rfl rfl rfl rfl (by assumption) (fun _ _ => rfl) (by (try dsimp only); omega) (by omega) (fun a74 c74 ha74 => ?_)) | refine WA.eff 16 rfl (by kernel_rfl) rfl rfl (by decide) (Ef.appendR 3 tab_ok rfl rfl rfl rfl rfl rfl rfl rfl rfl rfl (by assumption) (fun _ _ => rfl) (by (try dsimp only); omega) (by omega) (fun a74 c74 ha74 => ?_)) | refine WA.eff 16 rfl (by kernel_rfl) rfl rfl (by decide) (Ef.appendR 4 tab_ok rfl rfl rfl rfl rfl rfl rfl rfl rfl rfl (by assumption) (fun _ _ => rfl) (by (try dsimp only); omega) (by omega) (fun a74 c74 ha74 => ?_))
       refine ⟨qR, qS, ?_⟩
       refine tP 17 ?_
       first | refine WA.effN 18 rfl qK rfl rfl (Ef.store 0 tab_ok rfl rfl rfl rfl rfl rfl rfl rfl ?_) | refine WA.effN 18 rfl qK rfl rfl (Ef.store 1 tab_ok rfl rfl rfl rfl rfl rfl rfl rfl ?_) | refine WA.effN 18 rfl qK rfl rfl (Ef.store 2 tab_ok rfl rfl rfl rfl rfl rfl rfl rfl ?_) | refine WA.effN 18 rfl qK rfl rfl (Ef.store 3 tab_ok rfl rfl rfl rfl rfl rfl rfl rfl ?_) | refine WA.effN 18 rfl qK rfl rfl (Ef.store 4 tab_ok rfl rfl rfl rfl rfl rfl rfl rfl ?_)
       refine ⟨qR, qS, ?_⟩
       refine WA.done qK ?_
       refine zL (zU (zG (zR 1 rfl ?_)))
       refine yS ?_
       rw [show (((more + (times - 1) * P) - i : Nat) : Int) - 1 = (((more + (times - 1) * P) - (i + 1) : Nat) : Int) by omega]
       refine zR 1 rfl (zN ?_)
       refine WE.again ((i + 1, a74, c74)) (by dsimp only; omega) (by (try dsimp only); omega) ⟨rfl, rfl, rfl, rfl, rfl, rfl⟩ (RLe.refl _) (by dsimp only [setAll, List.set_cons_zero, List.set_cons_succ]; rw [e1, List.length_append]; exact qS)
      ·
       refine WS.yl rfl rfl rfl qD (Yl.index tab_ok rfl rfl rfl rfl rfl rfl (fun _ => rfl) qA qH) qS qR ?_
       refine WA.br2 (i := 1) (j := 11) qK ?_ ?_
       ·
        refine' WS.yl rfl rfl rfl qD (Yl.load1 tab_ok rfl rfl rfl (fun _ => rfl) ?r25 rfl ?h25) qS qR ?_
        case r25 => apply Rd.add; (first | exact Rd.blk 0 rfl | exact Rd.blk 1 rfl | exact Rd.blk 2 rfl | exact Rd.blk 3 rfl | exact Rd.blk 4 rfl | (apply RS.rdD; assumption; ((try dsimp only) <;> omega)) | exact Rd.slD 0 rfl qX | exact Rd.slD 1 rfl qX | exact Rd.slD 2 rfl qX | exact Rd.slD 3 rfl qX | exact Rd.slD 4 rfl qX)
        case h25 => rfl
        refine' WA.yl 11 rfl qK rfl rfl qD (Yl.load1 tab_ok rfl rfl rfl (fun _ => rfl) ?r26 rfl ?h26) qS qR ?_
        case r26 => (first | (apply RS.rdD; assumption; ((try dsimp only) <;> omega)) | exact Rd.slD 0 rfl qX | exact Rd.slD 1 rfl qX | exact Rd.slD 2 rfl qX | exact Rd.slD 3 rfl qX | exact Rd.slD 4 rfl qX)
        case h26 => rfl
        refine tA 14 ?_
        refine WA.eff 15 rfl qK rfl rfl qD (Ef.buildSliceD (enc := encI) (parts := [.tmp 72]) [_] tab_ok rfl rfl rfl rfl rfl rfl rfl rfl qD qD (fun a73 => ?_))
        refine ⟨qR, qS, ?_⟩
        first | refine WA.eff 16 rfl (by kernel_rfl) rfl rfl (by decide) (Ef.appendD 1 0 tab_ok rfl rfl rfl rfl rfl rfl rfl rfl rfl rfl rfl (fun _ _ => rfl) (by simp only [List.length_cons, List.length_nil]; omega) (by simp only [List.length_cons, List.length_nil]; omega) (fun a74 c74 ha74 => ?_)) | refine WA.eff 16 rfl (by kernel_rfl) rfl rfl (by decide) (Ef.appendD 2 0 tab_ok rfl rfl rfl rfl rfl rfl rfl rfl rfl rfl rfl (fun _ _ => rfl) (by simp only [List.length_cons, List.length_nil]; omega) (by simp only [List.length_cons, List.length_nil]; omega) (fun a74 c74 ha74 => ?_)) | refine WA.eff 16 rfl (by kernel_rfl) rfl rfl (by decide) (Ef.appendD 3 0 tab_ok rfl rfl rfl rfl rfl rfl rfl rfl rfl rfl rfl (fun _ _ => rfl) (by simp only [List.length_cons, List.length_nil]; omega) (by simp only [List.length_cons, List.length_nil]; omega) (fun a74 c74 ha74 => ?_)) | refine WA.eff 16 rfl (by kernel_rfl) rfl rfl (by decide) (Ef.appendD 4 0 tab_ok rfl rfl rfl rfl rfl rfl rfl rfl rfl rfl rfl (fun _ _ => rfl) (by simp only [List.length_cons, List.length_nil]; omega) (by simp only [List.length_cons, List.length_nil]; omega) (fun a74 c74 ha74 => ?_)) | refine WA.eff 16 rfl (by kernel_rfl) rfl rfl (by decide) (Ef.appendR 0 tab_ok rfl rfl rfl rfl rfl rfl rfl rfl rfl rfl (by assumption) (fun _ _ => rfl) (by (try dsimp only); omega) (by omega) (fun a74 c74 ha74 => ?_)) | refine WA.eff 16 rfl (by kernel_rfl) rfl rfl (by decide) (Ef.appendR 1 tab_ok rfl rfl rfl rfl rfl rfl rfl rfl rfl rfl (by assumption) (fun _ _ => rfl) (by (try dsimp only); omega) (by omega) (fun a74 c74 ha74 => ?_)) | refine WA.eff 16 rfl (by kernel_rfl) rfl rfl (by decide) (Ef.appendR 2 tab_ok rfl rfl rfl rfl rfl rfl rfl rfl rfl rfl (by assumption) (fun _ _ => rfl) (by (try dsimp only); omega) (by omega) (fun a74 c74 ha74 => ?_)) | refine WA.eff 16 rfl (by kernel_rfl) rfl rfl (by decide) (Ef.appendR 3 tab_ok rfl rfl rfl rfl rfl rfl rfl rfl rfl rfl (by assumption) (fun _ _ => rfl) (by (try dsimp only); omega) (by omega) (fun a74 c74 ha74 => ?_)) | refine WA.eff 16 rfl (by kernel_rfl) rfl rfl (by decide) (Ef.appendR 4 tab_ok rfl rfl rfl rfl rfl rfl rfl rfl rfl rfl (by assumption) (fun _ _ => rfl) (by (try dsimp only); omega) (by omega) (fun a74 c74 ha74 => ?_))
        refine ⟨qR, qS, ?_⟩
        refine tP 17 ?_
        first | refine WA.effN 18 rfl qK rfl rfl (Ef.store 0 tab_ok rfl rfl rfl rfl rfl rfl rfl rfl ?_) | refine WA.effN 18 rfl qK rfl rfl (Ef.store 1 tab_ok rfl rfl rfl rfl rfl rfl rfl rfl ?_) | refine WA.effN 18 rfl qK rfl rfl (Ef.store 2 tab_ok rfl rfl rfl rfl rfl rfl rfl rfl ?_) | refine WA.effN 18 rfl qK rfl rfl (Ef.store 3 tab_ok rfl rfl rfl rfl rfl rfl rfl rfl ?_) | refine WA.effN 18 rfl qK rfl rfl (Ef.store 4 tab_ok rfl rfl rfl rfl rfl rfl rfl rfl ?_)
        refine ⟨qR, qS, ?_⟩
        refine WA.done qK ?_
        refine zL (zU (zG (zR 1 rfl ?_)))
        refine yS ?_
        rw [show (((more + (times - 1) * P) - i : Nat) : Int) - 1 = (((more + (times - 1) * P) - (i + 1) : Nat) : Int) by omega]
        refine zR 1 rfl (zN ?_)
        refine WE.again ((i + 1, a74, c74)) (by dsimp only; omega) (by (try dsimp only); omega) ⟨rfl, rfl, rfl, rfl, rfl, rfl⟩ (RLe.refl _) (by dsimp only [setAll, List.set_cons_zero, List.set_cons_succ]; rw [e1, List.length_append]; exact qS)
       ·
        refine' WS.yl rfl rfl rfl qD (Yl.load1 tab_ok rfl rfl rfl (fun _ => rfl) ?r27 rfl ?h27) qS qR ?_
        case r27 => (first | (apply RS.rdD; assumption; ((try dsimp only) <;> omega)) | exact Rd.slD 0 rfl qX | exact Rd.slD 1 rfl qX | exact Rd.slD 2 rfl qX | exact Rd.slD 3 rfl qX | exact Rd.slD 4 rfl qX)
        case h27 => rfl
        refine tA 14 ?_
        refine WA.br2 (i := 1) (j := 15) qK ?_ ?_
        ·
         refine' WS.yl rfl rfl rfl qD (Yl.load1 tab_ok rfl rfl rfl (fun _ => rfl) ?r28 rfl ?h28) qS qR ?_
         case r28 => apply Rd.add; (first | exact Rd.blk 0 rfl | exact Rd.blk 1 rfl | exact Rd.blk 2 rfl | exact Rd.blk 3 rfl | exact Rd.blk 4 rfl | (apply RS.rdD; assumption; ((try dsimp only) <;> omega)) | exact Rd.slD 0 rfl qX | exact Rd.slD 1 rfl qX | exact Rd.slD 2 rfl qX | exact Rd.slD 3 rfl qX | exact Rd.slD 4 rfl qX)
         case h28 => rfl
         refine WA.eff 15 rfl qK rfl rfl qD (Ef.buildSliceD (enc := encI) (parts := [.tmp 72]) [_] tab_ok rfl rfl rfl rfl rfl rfl rfl rfl qD qD (fun a73 => ?_))
         refine ⟨qR, qS, ?_⟩
         first | refine WA.eff 16 rfl (by kernel_rfl) rfl rfl (by decide) (Ef.appendD 1 0 tab_ok rfl rfl rfl rfl rfl rfl rfl rfl rfl rfl rfl (fun _ _ => rfl) (by simp only [List.length_cons, List.length_nil]; omega) (by simp only [List.length_cons, List.length_nil]; omega) (fun a74 c74 ha74 => ?_)) | refine WA.eff 16 rfl (by kernel_rfl) rfl rfl (by decide) (Ef.appendD 2 0 tab_ok rfl rfl rfl rfl rfl rfl rfl rfl rfl rfl rfl (fun _ _ => rfl) (by simp only [List.length_cons, List.length_nil]; omega) (by simp only [List.length_cons, List.length_nil]; omega) (fun a74 c74 ha74 => ?_)) | refine WA.eff 16 rfl (by kernel_rfl) rfl rfl (by decide) (Ef.appendD 3 0 tab_ok rfl rfl rfl rfl rfl rfl rfl rfl rfl rfl rfl (fun _ _ => rfl) (by simp only [List.length_cons, List.length_nil]; omega) (by simp only [List.length_cons, List.length_nil]; omega) (fun a74 c74 ha74 => ?_)) | refine WA.eff 16 rfl (by kernel_rfl) rfl rfl (by decide) (Ef.appendD 4 0 tab_ok rfl rfl rfl rfl rfl rfl rfl rfl rfl rfl rfl (fun _ _ => rfl) (by simp only [List.length_cons, List.length_nil]; omega) (by simp only [List.length_cons, List.length_nil]; omega) (fun a74 c74 ha74 => ?_)) | refine WA.eff 16 rfl (by kernel_rfl) rfl rfl (by decide) (Ef.appendR 0 tab_ok rfl rfl rfl rfl rfl rfl rfl rfl rfl rfl (by assumption) (fun _ _ => rfl) (by (try dsimp only); omega) (by omega) (fun a74 c74 ha74 => ?_)) | refine WA.eff 16 rfl (by kernel_rfl) rfl rfl (by decide) (Ef.appendR 1 tab_ok rfl rfl rfl rfl rfl rfl rfl rfl rfl rfl (by assumption) (fun _ _ => rfl) (by (try dsimp only); omega) (by omega) (fun a74 c74 ha74 => ?_)) | refine WA.eff 16 rfl (by kernel_rfl) rfl rfl (by decide) (Ef.appendR 2 tab_ok rfl rfl rfl rfl rfl rfl rfl rfl rfl rfl (by assumption) (fun _ _ => rfl) (by (try dsimp only); omega) (by omega) (fun a74 c74 ha74 => ?_)) | refine WA.eff 16 rfl (by kernel_rfl) rfl rfl (by decide) (Ef.appendR 3 tab_ok rfl rfl rfl rfl rfl rfl rfl rfl rfl rfl (by assumption) (fun _ _ => rfl) (by (try dsimp only); omega) (by omega) (fun a74 c74 ha74 => ?_)) | refine WA.eff 16 rfl (by kernel_rfl) rfl rfl (by decide) (Ef.appendR 4 tab_ok rfl rfl rfl rfl rfl rfl rfl rfl rfl rfl (by assumption) (fun _ _ => rfl) (by (try dsimp only); omega) (by omega) (fun a74 c74 ha74 => ?_))
         refine ⟨qR, qS, ?_⟩
         refine tP 17 ?_
         first | refine WA.effN 18 rfl qK rfl rfl (Ef.store 0 tab_ok rfl rfl rfl rfl rfl rfl rfl rfl ?_) | refine WA.effN 18 rfl qK rfl rfl (Ef.store 1 tab_ok rfl rfl rfl rfl rfl rfl rfl rfl ?_) | refine WA.effN 18 rfl qK rfl rfl (Ef.store 2 tab_ok rfl rfl rfl rfl rfl rfl rfl rfl ?_) | refine WA.effN 18 rfl qK rfl rfl (Ef.store 3 tab_ok rfl rfl rfl rfl rfl rfl rfl rfl ?_) | refine WA.effN 18 rfl qK rfl rfl (Ef.store 4 tab_ok rfl rfl rfl rfl rfl rfl rfl rfl ?_)
         refine ⟨qR, qS, ?_⟩
         refine WA.done qK ?_
         refine zL (zU (zG (zR 1 rfl ?_)))
         refine yS ?_
         rw [show (((more + (times - 1) * P) - i : Nat) : Int) - 1 = (((more + (times - 1) * P) - (i + 1) : Nat) : Int) by omega]
         refine zR 1 rfl (zN ?_)
         refine WE.again ((i + 1, a74, c74)) (by dsimp only; omega) (by (try dsimp only); omega) ⟨rfl, rfl, rfl, rfl, rfl, rfl⟩ (RLe.refl _) (by dsimp only [setAll, List.set_cons_zero, List.set_cons_succ]; rw [e1, List.length_append]; exact qS)
        ·
         refine WS.eff rfl rfl rfl qD (Ef.buildSliceD (enc := encI) (parts := [.tmp 72]) [_] tab_ok rfl rfl rfl rfl rfl rfl rfl rfl qD qD (fun a73 => ?_))
         refine ⟨qR, qS, ?_⟩
         refine' WA.yl 1 rfl qK rfl rfl qD (Yl.load1 tab_ok rfl rfl rfl (fun _ => rfl) ?r29 rfl ?h29) qS qR ?_
         case r29 => apply Rd.add; (first | exact Rd.blk 0 rfl | exact Rd.blk 1 rfl | exact Rd.blk 2 rfl | exact Rd.blk 3 rfl | exact Rd.blk 4 rfl | (apply RS.rdD; assumption; ((try dsimp only) <;> omega)) | exact Rd.slD 0 rfl qX | exact Rd.slD 1 rfl qX | exact Rd.slD 2 rfl qX | exact Rd.slD 3 rfl qX | exact Rd.slD 4 rfl qX)
         case h29 => rfl
         first | refine WA.eff 16 rfl (by kernel_rfl) rfl rfl (by decide) (Ef.appendD 1 0 tab_ok rfl rfl rfl rfl rfl rfl rfl rfl rfl rfl rfl (fun _ _ => rfl) (by simp only [List.length_cons, List.length_nil]; omega) (by simp only [List.length_cons, List.length_nil]; omega) (fun a74 c74 ha74 => ?_)) | refine WA.eff 16 rfl (by kernel_rfl) rfl rfl (by decide) (Ef.appendD 2 0 tab_ok rfl rfl rfl rfl rfl rfl rfl rfl rfl rfl rfl (fun _ _ => rfl) (by simp only [List.length_cons, List.length_nil]; omega) (by simp only [List.length_cons, List.length_nil]; omega) (fun a74 c74 ha74 => ?_)) | refine WA.eff 16 rfl (by kernel_rfl) rfl rfl (by decide) (Ef.appendD 3 0 tab_ok rfl rfl rfl rfl rfl rfl rfl rfl rfl rfl rfl (fun _ _ => rfl) (by simp only [List.length_cons, List.length_nil]; omega) (by simp only [List.length_cons, List.length_nil]; omega) (fun a74 c74 ha74 => ?_)) | refine WA.eff 16 rfl (by kernel_rfl) rfl rfl (by decide) (Ef.appendD 4 0 tab_ok rfl rfl rfl rfl rfl rfl rfl rfl rfl rfl rfl (fun _ _ => rfl) (by simp only [List.length_cons, List.length_nil]; omega) (by simp only [List.length_cons, List.length_nil]; omega) (fun a74 c74 ha74 => ?_)) | refine WA.eff 16 rfl (by kernel_rfl) rfl rfl (by decide) (Ef.appendR 0 tab_ok rfl rfl rfl rfl rfl rfl rfl rfl rfl rfl (by assumption) (fun _ _ => rfl) (by (try dsimp only); omega) (by omega) (fun a74 c74 ha74 => ?_)) | refine WA.eff 16 rfl (by kernel_rfl) rfl rfl (by decide) (Ef.appendR 1 tab_ok rfl rfl rfl rfl rfl rfl rfl rfl rfl rfl (by assumption) (fun _ _ => rfl) (by (try dsimp only); omega) (by omega) (fun a74 c74 ha74 => ?_)) | refine WA.eff 16 rfl (by kernel_rfl) rfl rfl (by decide) (Ef.appendR 2 tab_ok rfl rfl rfl rfl rfl rfl rfl rfl rfl rfl (by assumption) (fun _ _ => rfl) (by (try dsimp only); omega) (by omega) (fun a74 c74 ha74 => ?_)) | refine WA.eff 16 rfl (by kernel_rfl) rfl rfl (by decide) (Ef.appendR 3 tab_ok rfl rfl rfl rfl rfl rfl rfl rfl rfl rfl (by assumption) (fun _ _ => rfl) (by (try dsimp only); omega) (by omega) (fun a74 c74 ha74 => ?_)) | refine WA.eff 16 rfl (by kernel_rfl) rfl rfl (by decide) (Ef.appendR 4 tab_ok rfl rfl rfl rfl rfl rfl rfl rfl rfl rfl (by assumption) (fun _ _ => rfl) (by (try dsimp only); omega) (by omega) (fun a74 c74 ha74 => ?_))
         refine ⟨qR, qS, ?_⟩
         refine tP 17 ?_
         first | refine WA.effN 18 rfl qK rfl rfl (Ef.store 0 tab_ok rfl rfl rfl rfl rfl rfl rfl rfl ?_) | refine WA.effN 18 rfl qK rfl rfl (Ef.store 1 tab_ok rfl rfl rfl rfl rfl rfl rfl rfl ?_) | refine WA.effN 18 rfl qK rfl rfl (Ef.store 2 tab_ok rfl rfl rfl rfl rfl rfl rfl rfl ?_) | refine WA.effN 18 rfl qK rfl rfl (Ef.store 3 tab_ok rfl rfl rfl rfl rfl rfl rfl rfl ?_) | refine WA.effN 18 rfl qK rfl rfl (Ef.store 4 tab_ok rfl rfl rfl rfl rfl rfl rfl rfl ?_)
         refine ⟨qR, qS, ?_⟩
         refine WA.done qK ?_
         refine zL (zU (zG (zR 1 rfl ?_)))
         refine yS ?_
         rw [show (((more + (times - 1) * P) - i : Nat) : Int) - 1 = (((more + (times - 1) * P) - (i + 1) : Nat) : Int) by omega]
         refine zR 1 rfl (zN ?_)
         refine WE.again ((i + 1, a74, c74)) (by dsimp only; omega) (by (try dsimp only); omega) ⟨rfl, rfl, rfl, rfl, rfl, rfl⟩ (RLe.refl _) (by dsimp only [setAll, List.set_cons_zero, List.set_cons_succ]; rw [e1, List.length_append]; exact qS)
    ·
     refine' WS.yl rfl rfl rfl qD (Yl.load1 tab_ok rfl rfl rfl (fun _ => rfl) ?r30 rfl ?h30) qS qR ?_
     case r30 => apply Rd.add; (first | exact Rd.blk 0 rfl | exact Rd.blk 1 rfl | exact Rd.blk 2 rfl | exact Rd.blk 3 rfl | exact Rd.blk 4 rfl | (apply RS.rdD; assumption; ((try dsimp only) <;> omega)) | exact Rd.slD 0 rfl qX | exact Rd.slD 1 rfl qX | exact Rd.slD 2 rfl qX | exact Rd.slD 3 rfl qX | exact Rd.slD 4 rfl qX)
     case h30 => rfl
     refine tP 6 ?_
     refine tS 9 ?_
     refine WA.br2 (i := 1) (j := 3) qK ?_ ?_
     ·
      refine' WS.yl rfl rfl rfl qD (Yl.load1 tab_ok rfl rfl rfl (fun _ => rfl) ?r31 rfl ?h31) qS qR ?_
      case r31 => apply Rd.add; (first | exact Rd.blk 0 rfl | exact Rd.blk 1 rfl | exact Rd.blk 2 rfl | exact Rd.blk 3 rfl | exact Rd.blk 4 rfl | (apply RS.rdD; assumption; ((try dsimp only) <;> omega)) | exact Rd.slD 0 rfl qX | exact Rd.slD 1 rfl qX | exact Rd.slD 2 rfl qX | exact Rd.slD 3 rfl qX | exact Rd.slD 4 rfl qX)
      case h31 => rfl
      refine' WA.yl 3 rfl qK rfl rfl qD (Yl.load1 tab_ok rfl rfl rfl (fun _ => rfl) ?r32 rfl ?h32) qS qR ?_
      case r32 => apply Rd.add; (first | exact Rd.blk 0 rfl | exact Rd.blk 1 rfl | exact Rd.blk 2 rfl | exact Rd.blk 3 rfl | exact Rd.blk 4 rfl | (apply RS.rdD; assumption; ((try dsimp only) <;> omega)) | exact Rd.slD 0 rfl qX | exact Rd.slD 1 rfl qX | exact Rd.slD 2 rfl qX | exact Rd.slD 3 rfl qX | exact Rd.slD 4 rfl qX)
      case h32 => rfl
      refine WA.yl 10 rfl qK rfl rfl qD (Yl.index tab_ok rfl rfl rfl rfl rfl rfl (fun _ => rfl) qA qH) qS qR ?_
      refine' WA.yl 11 rfl qK rfl rfl qD (Yl.load1 tab_ok rfl rfl rfl (fun _ => rfl) ?r33 rfl ?h33) qS qR ?_
      case r33 => (first | (apply RS.rdD; assumption; ((try dsimp only) <;> omega)) | exact Rd.slD 0 rfl qX | exact Rd.slD 1 rfl qX | exact Rd.slD 2 rfl qX | exact Rd.slD 3 rfl qX | exact Rd.slD 4 rfl qX)
      case h33 => rfl
      refine tA 14 ?_
      refine WA.eff 15 rfl qK rfl rfl qD (Ef.buildSliceD (enc := encI) (parts := [.tmp 72]) [_] tab_ok rfl rfl rfl rfl rfl rfl rfl rfl qD qD (fun a73 => ?_))
      refine ⟨qR, qS, ?_⟩
      first | refine WA.eff 16 rfl (by kernel_rfl) rfl rfl (by decide) (Ef.appendD 1 0 tab_ok rfl rfl rfl rfl rfl rfl rfl rfl rfl rfl rfl (fun _ _ => rfl) (by simp only [List.length_cons, List.length_nil]; omega) (by simp only [List.length_cons, List.length_nil]; omega) (fun a74 c74 ha74 => ?_)) | refine WA.eff 16 rfl (by kernel_rfl) rfl rfl (by decide) (Ef.appendD 2 0 tab_ok rfl rfl rfl rfl rfl rfl rfl rfl rfl rfl rfl (fun _ _ => rfl) (by simp only [List.length_cons, List.length_nil]; omega) (by simp only [List.length_cons, List.length_nil]; omega) (fun a74 c74 ha74 => ?_)) | refine WA.eff 16 rfl (by kernel_rfl) rfl rfl (by decide) (Ef.appendD 3 0 tab_ok rfl rfl rfl rfl rfl rfl rfl rfl rfl rfl rfl (fun _ _ => rfl) (by simp only [List.length_cons, List.length_nil]; omega) (by simp only [List.length_cons, List.length_nil]; omega) (fun a74 c74 ha74 => ?_)) | refine WA.eff 16 rfl (by kernel_rfl) rfl rfl (by decide) (Ef.appendD 4 0 tab_ok rfl rfl rfl rfl rfl rfl rfl rfl rfl rfl rfl (fun _ _ => rfl) (by simp only [List.length_cons, List.length_nil]; omega) (by simp only [List.length_cons, List.length_nil]; omega) (fun a74 c74 ha74 => ?_)) | refine WA.eff 16 rfl (by kernel_rfl) rfl rfl (by decide) (Ef.appendR 0 tab_ok rfl rfl rfl rfl rfl rfl rfl rfl rfl rfl (by assumption) (fun _ _ => rfl) (by (try dsimp only); omega) (by omega) (fun a74 c74 ha74 => ?_)) | refine WA.eff 16 rfl (by kernel_rfl) rfl rfl (by decide) (Ef.appendR 1 tab_ok rfl rfl rfl rfl rfl rfl rfl rfl rfl rfl (by assumption) (fun _ _ => rfl) (by (try dsimp only); omega) (by omega) (fun a74 c74 ha74 => ?_)) | refine WA.eff 16 rfl (by kernel_rfl) rfl rfl (by decide) (Ef.appendR 2 tab_ok rfl rfl rfl rfl rfl rfl rfl rfl rfl rfl (by assumption) (fun _ _ => rfl) (by (try dsimp only); omega) (by omega) (fun a74 c74 ha74 => ?_)) | refine WA.eff 16 rfl (by kernel_rfl) rfl rfl (by decide) (Ef.appendR 3 tab_ok rfl rfl rfl rfl rfl rfl rfl rfl rfl rfl (by assumption) (fun _ _ => rfl) (by (try dsimp only); omega) (by omega) (fun a74 c74 ha74 => ?_)) | refine WA.eff 16 rfl (by kernel_rfl) rfl rfl (by decide) (Ef.appendR 4 tab_ok rfl rfl rfl rfl rfl rfl rfl rfl rfl rfl (by assumption) (fun _ _ => rfl) (by (try dsimp only); omega) (by omega) (fun a74 c74 ha74 => ?_))
      refine ⟨qR, qS, ?_⟩
      refine tP 17 ?_
      first | refine WA.effN 18 rfl qK rfl rfl (Ef.store 0 tab_ok rfl rfl rfl rfl rfl rfl rfl rfl ?_) | refine WA.effN 18 rfl qK rfl rfl (Ef.store 1 tab_ok rfl rfl rfl rfl rfl rfl rfl rfl ?_) | refine WA.effN 18 rfl qK rfl rfl (Ef.store 2 tab_ok rfl rfl rfl rfl rfl rfl rfl rfl ?_) | refine WA.effN 18 rfl qK rfl rfl (Ef.store 3 tab_ok rfl rfl rfl rfl rfl rfl rfl rfl ?_) | refine WA.effN 18 rfl qK rfl rfl (Ef.store 4 tab_ok rfl rfl rfl rfl rfl rfl rfl rfl ?_)
      refine ⟨qR, qS, ?_⟩
      refine WA.done qK ?_
      refine zL (zU (zG (zR 1 rfl ?_)))
      refine yS ?_
      rw [show (((more + (times - 1) * P) - i : Nat) : Int) - 1 = (((more + (times - 1) * P) - (i + 1) : Nat) : Int) by omega]
      refine zR 1 rfl (zN ?_)
      refine WE.again ((i + 1, a74, c74)) (by dsimp only; omega) (by (try dsimp only); omega) ⟨rfl, rfl, rfl, rfl, rfl, rfl⟩ (RLe.refl _) (by dsimp only [setAll, List.set_cons_zero, List.set_cons_succ]; rw [e1, List.length_append]; exact qS)
     ·
      refine' WS.yl rfl rfl rfl qD (Yl.load1 tab_ok rfl rfl rfl (fun _ => rfl) ?r34 rfl ?h34) qS qR ?_
      case r34 => apply Rd.add; (first | exact Rd.blk 0 rfl | exact Rd.blk 1 rfl | exact Rd.blk 2 rfl | exact Rd.blk 3 rfl | exact Rd.blk 4 rfl | (apply RS.rdD; assumption; ((try dsimp only) <;> omega)) | exact Rd.slD 0 rfl qX | exact Rd.slD 1 rfl qX | exact Rd.slD 2 rfl qX | exact Rd.slD 3 rfl qX | exact Rd.slD 4 rfl qX)
      case h34 => rfl
      refine WA.br2 (i := 1) (j := 10) qK ?_ ?_
      ·
       refine' WS.yl rfl rfl rfl qD (Yl.load1 tab_ok rfl rfl rfl (fun _ => rfl) ?r35 rfl ?h35) qS qR ?_
       case r35 => apply Rd.add; (first | exact Rd.blk 0 rfl | exact Rd.blk 1 rfl | exact Rd.blk 2 rfl | exact Rd.blk 3 rfl | exact Rd.blk 4 rfl | (apply RS.rdD; assumption; ((try dsimp only) <;> omega)) | exact Rd.slD 0 rfl qX | exact Rd.slD 1 rfl qX | exact Rd.slD 2 rfl qX | exact Rd.slD 3 rfl qX | exact Rd.slD 4 rfl qX)
       case h35 => rfl
       refine WA.yl 10 rfl qK rfl rfl qD (Yl.index tab_ok rfl rfl rfl rfl rfl rfl (fun _ => rfl) qA qH) qS qR ?_
       refine' WA.yl 11 rfl qK rfl rfl qD (Yl.load1 tab_ok rfl rfl rfl (fun _ => rfl) ?r36 rfl ?h36) qS qR ?_
       case r36 => (first | (apply RS.rdD; assumption; ((try dsimp only) <;> omega)) | exact Rd.slD 0 rfl qX | exact Rd.slD 1 rfl qX | exact Rd.slD 2 rfl qX | exact Rd.slD 3 rfl qX | exact Rd.slD 4 rfl qX)
       case h36 => rfl
       refine tA 14 ?_
       refine WA.eff 15 rfl qK rfl rfl qD (Ef.buildSliceD (enc := encI) (parts := [.tmp 72]) [_] tab_ok rfl rfl rfl rfl rfl rfl rfl rfl qD qD (fun a73 => ?_))
       refine ⟨qR, qS, ?_⟩
       first | refine WA.eff 16 rfl (by kernel_rfl) rfl rfl (by decide) (Ef.appendD 1 0 tab_ok rfl rfl rfl rfl rfl rfl rfl rfl rfl rfl rfl (fun _ _ => rfl) (by simp only [List.length_cons, List.length_nil]; omega) (by simp only [List.length_cons, List.length_nil]; omega) (fun a74 c74 ha74 => ?_)) | refine WA.eff 16 rfl (by kernel_rfl) rfl rfl (by decide) (Ef.appendD 2 0 tab_ok rfl rfl rfl rfl rfl rfl rfl rfl rfl rfl rfl (fun _ _ => rfl) (by simp only [List.length_cons, List.length_nil]; omega) (by simp only [List.length_cons, List.length_nil]; omega) (fun a74 c74 ha74 => ?_)) | refine WA.eff 16 rfl (by kernel_rfl) rfl rfl (by decide) (Ef.appendD 3 0 tab_ok rfl rfl rfl rfl rfl rfl rfl rfl rfl rfl rfl (fun _ _ => rfl) (by simp only [List.length_cons, List.length_nil]; omega) (by simp only [List.length_cons, List.length_nil]; omega) (fun a74 c74 ha74 => ?_)) | refine WA.eff 16 rfl (by kernel_rfl) rfl rfl (by decide) (Ef.appendD 4 0 tab_ok rfl rfl rfl rfl rfl rfl rfl rfl rfl rfl rfl (fun _ _ => rfl) (by simp only [List.length_cons, List.length_nil]; omega) (by simp only [List.length_cons, List.length_nil]; omega) (fun a74 c74 ha74 => ?_)) | refine WA.eff 16 rfl (by kernel_rfl) rfl rfl (by decide) (Ef.appendR 0 tab_ok rfl rfl rfl rfl rfl rfl rfl rfl rfl rfl (by assumption) (fun _ _ => rfl) (by (try dsimp only); omega) (by omega) (fun a74 c74 ha74 => ?_)) | refine WA.eff 16 rfl (by kernel_rfl) rfl rfl (by decide) (Ef.appendR 1 tab_ok rfl rfl rfl rfl rfl rfl rfl rfl rfl rfl (by assumption) (fun _ _ => rfl) (by (try dsimp only); omega) (by omega) (fun a74 c74 ha74 => ?_)) | refine WA.eff 16 rfl (by kernel_rfl) rfl rfl (by decide) (Ef.appendR 2 tab_ok rfl rfl rfl rfl rfl rfl rfl rfl rfl rfl (by assumption) (fun _ _ => rfl) (by (try dsimp only); omega) (by omega) (fun a74 c74 ha74 => ?_)) | refine WA.eff 16 rfl (by kernel_rfl) rfl rfl (by decide) (Ef.appendR 3 tab_ok rfl rfl rfl rfl rfl rfl rfl rfl rfl rfl (by assumption) (fun _ _ => rfl) (by (try dsimp only); omega) (by omega) (fun a74 c74 ha74 => ?_)) | refine WA.eff 16 rfl (by kernel_rfl) rfl rfl (by decide) (Ef.appendR 4 tab_ok rfl rfl rfl rfl rfl rfl rfl rfl rfl rfl (by assumption) (fun _ _ => rfl) (by (try dsimp only); omega) (by omega) (fun a74 c74 ha74 => ?_))
       refine ⟨qR, qS, ?_⟩
       refine tP 17 ?_
       first | refine WA.effN 18 rfl qK rfl rfl (Ef.store 0 tab_ok rfl rfl rfl rfl rfl rfl rfl rfl ?_) | refine WA.effN 18 rfl qK rfl rfl (Ef.store 1 tab_ok rfl rfl rfl rfl rfl rfl rfl rfl ?_) | refine WA.effN 18 rfl qK rfl rfl (Ef.store 2 tab_ok rfl rfl rfl rfl rfl rfl rfl rfl ?_) | refine WA.effN 18 rfl qK rfl rfl (Ef.store 3 tab_ok rfl rfl rfl rfl rfl rfl rfl rfl ?_) | refine WA.effN 18 rfl qK rfl rfl (Ef.store 4 tab_ok rfl rfl rfl rfl rfl rfl rfl rfl ?_)
       refine ⟨qR, qS, ?_⟩
       refine WA.done qK ?_
       refine zL (zU (zG (zR 1 rfl ?_)))
       refine yS ?_
       rw [show (((more + (times - 1) * P) - i : Nat) : Int) - 1 = (((more + (times - 1) * P) - (i + 1) : Nat) : Int) by omega]
       refine zR 1 rfl (zN ?_)
       refine WE.again ((i + 1, a74, c74)) (by dsimp only; omega) (by (try dsimp only); omega) ⟨rfl, rfl, rfl, rfl, rfl, rfl⟩ (RLe.refl _) (by dsimp only [setAll, List.set_cons_zero, List.set_cons_succ]; rw [e1, List.length_append]; exact qS)
      ·
       refine WS.yl rfl rfl rfl qD (Yl.index tab_ok rfl rfl rfl rfl rfl rfl (fun _ => rfl) qA qH) qS qR ?_
       refine WA.br2 (i := 1) (j := 11) qK ?_ ?_
       ·
        refine' WS.yl rfl rfl rfl qD (Yl.load1 tab_ok rfl rfl rfl (fun _ => rfl) ?r37 rfl ?h37) qS qR ?_
        case r37 => apply Rd.add; (first | exact Rd.blk 0 rfl | exact Rd.blk 1 rfl | exact Rd.blk 2 rfl | exact Rd.blk 3 rfl | exact Rd.blk 4 rfl | (apply RS.rdD; assumption; ((try dsimp only) <;> omega)) | exact Rd.slD 0 rfl qX | exact Rd.slD 1 rfl qX | exact Rd.slD 2 rfl qX | exact Rd.slD 3 rfl qX | exact Rd.slD 4 rfl qX)
        case h37 => rfl
        refine' WA.yl 11 rfl qK rfl rfl qD (Yl.load1 tab_ok rfl rfl rfl (fun _ => rfl) ?r38 rfl ?h38) qS qR ?_
        case r38 => (first | (apply RS.rdD; assumption; ((try dsimp only) <;> omega)) | exact Rd.slD 0 rfl qX | exact Rd.slD 1 rfl qX | exact Rd.slD 2 rfl qX | exact Rd.slD 3 rfl qX | exact Rd.slD 4 rfl qX)
        case h38 => rfl
        refine tA 14 ?_
        refine WA.eff 15 rfl qK rfl rfl qD (Ef.buildSliceD (enc := encI) (parts := [.tmp 72]) [_] tab_ok rfl rfl rfl rfl rfl rfl rfl rfl qD qD (fun a73 => ?_))
        refine ⟨qR, qS, ?_⟩
        first | refine WA.eff 16 rfl (by kernel_rfl) rfl rfl (by decide) (Ef.appendD 1 0 tab_ok rfl rfl rfl rfl rfl rfl rfl rfl rfl rfl rfl (fun _ _ => rfl) (by simp only [List.length_cons, List.length_nil]; omega) (by simp only [List.length_cons, List.length_nil]; omega) (fun a74 c74 ha74 => ?_)) | refine WA.eff 16 rfl (by kernel_rfl) rfl rfl (by decide) (Ef.appendD 2 0 tab_ok rfl rfl rfl rfl rfl rfl rfl rfl rfl rfl rfl (fun _ _ => rfl) (by simp only [List.length_cons, List.length_nil]; omega) (by simp only [List.length_cons, List.length_nil]; omega) (fun a74 c74 ha74 => ?_)) | refine WA.eff 16 rfl (by kernel_rfl) rfl rfl (by decide) (Ef.appendD 3 0 tab_ok rfl rfl rfl rfl rfl rfl rfl rfl rfl rfl rfl (fun _ _ => rfl) (by simp only [List.length_cons, List.length_nil]; omega) (by simp only [List.length_cons, List.length_nil]; omega) (fun a74 c74 ha74 => ?_)) | refine WA.eff 16 rfl (by kernel_rfl) rfl rfl (by decide) (Ef.appendD 4 0 tab_ok rfl rfl rfl rfl rfl rfl rfl rfl rfl rfl rfl (fun _ _ => rfl) (by simp only [List.length_cons, List.length_nil]; omega) (by simp only [List.length_cons, List.length_nil]; omega) (fun a74 c74 ha74 => ?_)) | refine WA.eff 16 rfl (by kernel_rfl) rfl rfl (by decide) (Ef.appendR 0 tab_ok rfl rfl rfl rfl rfl rfl rfl rfl rfl rfl (by assumption) (fun _ _ => rfl) (by (try dsimp only); omega) (by omega) (fun a74 c74 ha74 => ?_)) | refine WA.eff 16 rfl (by kernel_rfl) rfl rfl (by decide) (Ef.appendR 1 tab_ok rfl rfl rfl rfl rfl rfl rfl rfl rfl rfl (by assumption) (fun _ _ => rfl) (by (try dsimp only); omega) (by omega) (fun a74 c74 ha74 => ?_)) | refine WA.eff 16 rfl (by kernel_rfl) rfl rfl (by decide) (Ef.appendR 2 tab_ok rfl rfl rfl rfl rfl rfl rfl rfl rfl rfl (by assumption) (fun _ _ => rfl) (by (try dsimp only); omega) (by omega) (fun a74 c74 ha74 => ?_)) | refine WA.eff 16 rfl (by kernel_rfl) rfl rfl (by decide) (Ef.appendR 3 tab_ok rfl rfl rfl rfl rfl rfl rfl rfl rfl rfl (by assumption) (fun _ _ => rfl) (by (try dsimp only); omega) (by omega) (fun a74 c74 ha74 => ?_)) | refine WA.eff 16 rfl (by kernel_rfl) rfl rfl (by decide) (Ef.appendR 4 tab_ok rfl rfl rfl rfl rfl rfl rfl rfl rfl rfl (by assumption) (fun _ _ => rfl) (by (try dsimp only); omega) (by omega) (fun a74 c74 ha74 => ?_))
        refine ⟨qR, qS, ?_⟩
        refine tP 17 ?_
        first | refine WA.effN 18 rfl qK rfl rfl (Ef.store 0 tab_ok rfl rfl rfl rfl rfl rfl rfl rfl ?_) | refine WA.effN 18 rfl qK rfl rfl (Ef.store 1 tab_ok rfl rfl rfl rfl rfl rfl rfl rfl ?_) | refine WA.effN 18 rfl qK rfl rfl (Ef.store 2 tab_ok rfl rfl rfl rfl rfl rfl rfl rfl ?_) | refine WA.effN 18 rfl qK rfl rfl (Ef.store 3 tab_ok rfl rfl rfl rfl rfl rfl rfl rfl ?_) | refine WA.effN 18 rfl qK rfl rfl (Ef.store 4 tab_ok rfl rfl rfl rfl rfl rfl rfl rfl ?_)
        refine ⟨qR, qS, ?_⟩
        refine WA.done qK ?_
        refine zL (zU (zG (zR 1 rfl ?_)))
        refine yS ?_
        rw [show (((more + (times - 1) * P) - i : Nat) : Int) - 1 = (((more + (times - 1) * P) - (i + 1) : Nat) : Int) by omega]
        refine zR 1 rfl (zN ?_)
        refine WE.again ((i + 1, a74, c74)) (by dsimp only; omega) (by (try dsimp only); omega) ⟨rfl, rfl, rfl, rfl, rfl, rfl⟩ (RLe.refl _) (by dsimp only [setAll, List.set_cons_zero, List.set_cons_succ]; rw [e1, List.length_append]; exact qS)
       ·
        refine' WS.yl rfl rfl rfl qD (Yl.load1 tab_ok rfl rfl rfl (fun _ => rfl) ?r39 rfl ?h39) qS qR ?_
        case r39 => (first | (apply RS.rdD; assumption; ((try dsimp only) <;> omega)) | exact Rd.slD 0 rfl qX | exact Rd.slD 1 rfl qX | exact Rd.slD 2 rfl qX | exact Rd.slD 3 rfl qX | exact Rd.slD 4 rfl qX)
        case h39 => rfl
        refine tA 14 ?_
        refine WA.br2 (i := 1) (j := 15) qK ?_ ?_
        ·
         refine' WS.yl rfl rfl rfl qD (Yl.load1 tab_ok rfl rfl rfl (fun _ => rfl) ?r40 rfl ?h40) qS qR ?_
         case r40 => apply Rd.add; (first | exact Rd.blk 0 rfl | exact Rd.blk 1 rfl | exact Rd.blk 2 rfl | exact Rd.blk 3 rfl | exact Rd.blk 4 rfl | (apply RS.rdD; assumption; ((try dsimp only) <;> omega)) | exact Rd.slD 0 rfl qX | exact Rd.slD 1 rfl qX | exact Rd.slD 2 rfl qX | exact Rd.slD 3 rfl qX | exact Rd.slD 4 rfl qX)
         case h40 => rfl
         refine WA.eff 15 rfl qK rfl rfl qD (Ef.buildSliceD (enc := encI) (parts := [.tmp 72]) [_] tab_ok rfl rfl rfl rfl rfl rfl rfl rfl qD qD (fun a73 => ?_))
         refine ⟨qR, qS, ?_⟩
         first | refine WA.eff 16 rfl (by kernel_rfl) rfl rfl (by decide) (Ef.appendD 1 0 tab_ok rfl rfl rfl rfl rfl rfl rfl rfl rfl rfl rfl (fun _ _ => rfl) (by simp only [List.length_cons, List.length_nil]; omega) (by simp only [List.length_cons, List.length_nil]; omega) (fun a74 c74 ha74 => ?_)) | refine WA.eff 16 rfl (by kernel_rfl) rfl rfl (by decide) (Ef.appendD 2 0 tab_ok rfl rfl rfl rfl rfl rfl rfl rfl rfl rfl rfl (fun _ _ => rfl) (by simp only [List.length_cons, List.length_nil]; omega) (by simp only [List.length_cons, List.length_nil]; omega) (fun a74 c74 ha74 => ?_)) | refine WA.eff 16 rfl (by kernel_rfl) rfl rfl (by decide) (Ef.appendD 3 0 tab_ok rfl rfl rfl rfl rfl rfl rfl rfl rfl rfl rfl (fun _ _ => rfl) (by simp only [List.length_cons, List.length_nil]; omega) (by simp only [List.length_cons, List.length_nil]; omega) (fun a74 c74 ha74 => ?_)) | refine WA.eff 16 rfl (by kernel_rfl) rfl rfl (by decide) (Ef.appendD 4 0 tab_ok rfl rfl rfl rfl rfl rfl rfl rfl rfl rfl rfl (fun _ _ => rfl) (by simp only [List.length_cons, List.length_nil]; omega) (by simp only [List.length_cons, List.length_nil]; omega) (fun a74 c74 ha74 => ?_)) | refine WA.eff 16 rfl (by kernel_rfl) rfl rfl (by decide) (Ef.appendR 0 tab_ok rfl rfl rfl rfl rfl rfl rfl rfl rfl rfl (by assumption) (fun _ _ => rfl) (by (try dsimp only); omega) (by omega) (fun a74 c74 ha74 => ?_)) | refine WA.eff 16 rfl (by kernel_rfl) rfl rfl (by decide) (Ef.appendR 1 tab_ok rfl rfl rfl rfl rfl rfl rfl rfl rfl rfl (by assumption) (fun _ _ => rfl) (by (try dsimp only); omega) (by omega) (fun a74 c74 ha74 => ?_)) | refine WA.eff 16 rfl (by kernel_rfl) rfl rfl (by decide) (Ef.appendR 2 tab_ok rfl rfl rfl rfl rfl rfl rfl rfl rfl rfl (by assumption) (fun _ _ => rfl) (by (try dsimp only); omega) (by omega) (fun a74 c74 ha74 => ?_)) | refine WA.eff 16 rfl (by kernel_rfl) rfl rfl (by decide) (Ef.appendR 3 tab_ok rfl rfl rfl rfl rfl rfl rfl rfl rfl rfl (by assumption) (fun _ _ => rfl) (by (try dsimp only); omega) (by omega) (fun a74 c74 ha74 => ?_)) | refine WA.eff 16 rfl (by kernel_rfl) rfl rfl (by decide) (Ef.appendR 4 tab_ok rfl rfl rfl rfl rfl rfl rfl rfl rfl rfl (by assumption) (fun _ _ => rfl) (by (try dsimp only); omega) (by omega) (fun a74 c74 ha74 => ?_))
         refine ⟨qR, qS, ?_⟩
         refine tP 17 ?_
         first | refine WA.effN 18 rfl qK rfl rfl (Ef.store 0 tab_ok rfl rfl rfl rfl rfl rfl rfl rfl ?_) | refine WA.effN 18 rfl qK rfl rfl (Ef.store 1 tab_ok rfl rfl rfl rfl rfl rfl rfl rfl ?_) | refine WA.effN 18 rfl qK rfl rfl (Ef.store 2 tab_ok rfl rfl rfl rfl rfl rfl rfl rfl ?_) | refine WA.effN 18 rfl qK rfl rfl (Ef.store 3 tab_ok rfl rfl rfl rfl rfl rfl rfl rfl ?_) | refine WA.effN 18 rfl qK rfl rfl (Ef.store 4 tab_ok rfl rfl rfl rfl rfl rfl rfl rfl ?_)
         refine ⟨qR, qS, ?_⟩
         refine WA.done qK ?_
         refine zL (zU (zG (zR 1 rfl ?_)))
         refine yS ?_
         rw [show (((more + (times - 1) * P) - i : Nat) : Int) - 1 = (((more + (times - 1) * P) - (i + 1) : Nat) : Int) by omega]
         refine zR 1 rfl (zN ?_)
         refine WE.again ((i + 1, a74, c74)) (by dsimp only; omega) (by (try dsimp only); omega) ⟨rfl, rfl, rfl, rfl, rfl, rfl⟩ (RLe.refl _) (by dsimp only [setAll, List.set_cons_zero, List.set_cons_succ]; rw [e1, List.length_append]; exact qS)
        ·
         refine WS.eff rfl rfl rfl qD (Ef.buildSliceD (enc := encI) (parts := [.tmp 72]) [_] tab_ok rfl rfl rfl rfl rfl rfl rfl rfl qD qD (fun a73 => ?_))
         refine ⟨qR, qS, ?_⟩
         refine' WA.yl 1 rfl qK rfl rfl qD (Yl.load1 tab_ok rfl rfl rfl (fun _ => rfl) ?r41 rfl ?h41) qS qR ?_
         case r41 => apply Rd.add; (first | exact Rd.blk 0 rfl | exact Rd.blk 1 rfl | exact Rd.blk 2 rfl | exact Rd.blk 3 rfl | exact Rd.blk 4 rfl | (apply RS.rdD; assumption; ((try dsimp only) <;> omega)) | exact Rd.slD 0 rfl qX | exact Rd.slD 1 rfl qX | exact Rd.slD 2 rfl qX | exact Rd.slD 3 rfl qX | exact Rd.slD 4 rfl qX)
         case h41 => rfl
         first | refine WA.eff 16 rfl (by kernel_rfl) rfl rfl (by decide) (Ef.appendD 1 0 tab_ok rfl rfl rfl rfl rfl rfl rfl rfl rfl rfl rfl (fun _ _ => rfl) (by simp only [List.length_cons, List.length_nil]; omega) (by simp only [List.length_cons, List.length_nil]; omega) (fun a74 c74 ha74 => ?_)) | refine WA.eff 16 rfl (by kernel_rfl) rfl rfl (by decide) (Ef.appendD 2 0 tab_ok rfl rfl rfl rfl rfl rfl rfl rfl rfl rfl rfl (fun _ _ => rfl) (by simp only [List.length_cons, List.length_nil]; omega) (by simp only [List.length_cons, List.length_nil]; omega) (fun a74 c74 ha74 => ?_)) | refine WA.eff 16 rfl (by kernel_rfl) rfl rfl (by decide) (Ef.appendD 3 0 tab_ok rfl rfl rfl rfl rfl rfl rfl rfl rfl rfl rfl (fun _ _ => rfl) (by simp only [List.length_cons, List.length_nil]; omega) (by simp only [List.length_cons, List.length_nil]; omega) (fun a74 c74 ha74 => ?_)) | refine WA.eff 16 rfl (by kernel_rfl) rfl rfl (by decide) (Ef.appendD 4 0 tab_ok rfl rfl rfl rfl rfl rfl rfl rfl rfl rfl rfl (fun _ _ => rfl) (by simp only [List.length_cons, List.length_nil]; omega) (by simp only [List.length_cons, List.length_nil]; omega) (fun a74 c74 ha74 => ?_)) | refine WA.eff 16 rfl (by kernel_rfl) rfl rfl (by decide) (Ef.appendR 0 tab_ok rfl rfl rfl rfl rfl rfl rfl rfl rfl rfl (by assumption) (fun _ _ => rfl) (by (try dsimp only); omega) (by omega) (fun a74 c74 ha74 => ?_)) | refine WA.eff 16 rfl (by kernel_rfl) rfl rfl (by decide) (Ef.appendR 1 tab_ok rfl rfl rfl rfl rfl rfl rfl rfl rfl rfl (by assumption) (fun _ _ => rfl) (by (try dsimp only); omega) (by omega) (fun a74 c74 ha74 => ?_)) | refine WA.eff 16 rfl (by kernel_rfl) rfl rfl (by decide) (Ef.appendR 2 tab_ok rfl rfl rfl rfl rfl rfl rfl rfl rfl rfl (by assumption) (fun _ _ => rfl) (by (try dsimp only); omega) (by omega) (fun a74 c74 ha74 => ?_)) | refine WA.eff 16 rfl (by kernel_rfl) rfl rfl (by decide) (Ef.appendR 3 tab_ok rfl rfl rfl rfl rfl rfl rfl rfl rfl rfl (by assumption) (fun _ _ => rfl) (by (try dsimp only); omega) (by omega) (fun a74 c74 ha74 => ?_)) | refine WA.eff 16 rfl (by kernel_rfl) rfl rfl (by decide) (Ef.appendR 4 tab_ok rfl rfl rfl rfl rfl rfl rfl rfl rfl rfl (by assumption) (fun _ _ => rfl) (by (try dsimp only); omega) (by omega) (fun a74 c74 ha74 => ?_))
         refine ⟨qR, qS, ?_⟩
         refine tP 17 ?_
         first | refine WA.effN 18 rfl qK rfl rfl (Ef.store 0 tab_ok rfl rfl rfl rfl rfl rfl rfl rfl ?_) | refine WA.effN 18 rfl qK rfl rfl (Ef.store 1 tab_ok rfl rfl rfl rfl rfl rfl rfl rfl ?_) | refine WA.effN 18 rfl qK rfl rfl (Ef.store 2 tab_ok rfl rfl rfl rfl rfl rfl rfl rfl ?_) | refine WA.effN 18 rfl qK rfl rfl (Ef.store 3 tab_ok rfl rfl rfl rfl rfl rfl rfl rfl ?_) | refine WA.effN 18 rfl qK rfl rfl (Ef.store 4 tab_ok rfl rfl rfl rfl rfl rfl rfl rfl ?_)
         refine ⟨qR, qS, ?_⟩
         refine WA.done qK ?_
         refine zL (zU (zG (zR 1 rfl ?_)))
         refine yS ?_
         rw [show (((more + (times - 1) * P) - i : Nat) : Int) - 1 = (((more + (times - 1) * P) - (i + 1) : Nat) : Int) by omega]
         refine zR 1 rfl (zN ?_)
         refine WE.again ((i + 1, a74, c74)) (by dsimp only; omega) (by (try dsimp only); omega) ⟨rfl, rfl, rfl, rfl, rfl, rfl⟩ (RLe.refl _) (by dsimp only [setAll, List.set_cons_zero, List.set_cons_succ]; rw [e1, List.length_append]; exact qS)
   ·try dsimp only at hc1
    obtain rfl : i = more + (times - 1) * P := by omega
    rw [hkb5]
    refine W.cap 1 rfl ?_
    intro hcp
    rw [List.length_map] at hcp
    refine W.freeze (enc := encI) (xs := fvals F (S + more + P * times)) 1 rfl ?_
    intro R1 hR1 hff
    refine zX ?_
    refine wx (wx (zY (zU (zQ ?_))))
    refine W.regionH _ (ES := [.blk b3 [.slice fa (fvals F (S + P)).length fc, .int .i64 (P : Int), .int .i64 I]]) mixed ?_
    refine tP 0 ?_
    refine' WA.take 1 rfl qK qK qK rfl rfl qD (Yl.load1 tab_ok rfl rfl rfl (fun _ => rfl) ?r42 rfl ?h42) qS qR ?_
    case r42 => apply Rd.add; (first | exact Rd.blk 0 rfl | exact Rd.blk 1 rfl | exact Rd.blk 2 rfl | exact Rd.blk 3 rfl | exact Rd.blk 4 rfl)
    case h42 => rfl
    refine tP 2 ?_
    refine WA.take 3 rfl qK qK qK rfl rfl qD (Yl.mul rfl rfl rfl (fun _ => rfl) qA) qS qR ?_
    refine tP 4 ?_
    refine' WA.take 5 rfl qK qK qK rfl rfl qD (Yl.load1 tab_ok rfl rfl rfl (fun _ => rfl) ?r43 rfl ?h43) qS qR ?_
    case r43 => apply Rd.add; (first | exact Rd.blk 0 rfl | exact Rd.blk 1 rfl | exact Rd.blk 2 rfl | exact Rd.blk 3 rfl | exact Rd.blk 4 rfl)
    case h43 => rfl
    refine tP 6 ?_
    refine WA.take 7 rfl qK qK qK rfl rfl qD (Yl.mul rfl rfl rfl (fun _ => rfl) qA) qS qR ?_
    refine tP 8 ?_
    first | refine WA.effN 9 rfl qK rfl rfl (Ef.store 0 tab_ok rfl rfl rfl rfl rfl rfl rfl rfl ?_) | refine WA.effN 9 rfl qK rfl rfl (Ef.store 1 tab_ok rfl rfl rfl rfl rfl rfl rfl rfl ?_) | refine WA.effN 9 rfl qK rfl rfl (Ef.store 2 tab_ok rfl rfl rfl rfl rfl rfl rfl rfl ?_) | refine WA.effN 9 rfl qK rfl rfl (Ef.store 3 tab_ok rfl rfl rfl rfl rfl rfl rfl rfl ?_) | refine WA.effN 9 rfl qK rfl rfl (Ef.store 4 tab_ok rfl rfl rfl rfl rfl rfl rfl rfl ?_)
    refine ⟨qR, qS, ?_⟩
    refine tP 10 ?_
    first | refine WA.effN 11 rfl qK rfl rfl (Ef.store 0 tab_ok rfl rfl rfl rfl rfl rfl rfl rfl ?_) | refine WA.effN 11 rfl qK rfl rfl (Ef.store 1 tab_ok rfl rfl rfl rfl rfl rfl rfl rfl ?_) | refine WA.effN 11 rfl qK rfl rfl (Ef.store 2 tab_ok rfl rfl rfl rfl rfl rfl rfl rfl ?_) | refine WA.effN 11 rfl qK rfl rfl (Ef.store 3 tab_ok rfl rfl rfl rfl rfl rfl rfl rfl ?_) | refine WA.effN 11 rfl qK rfl rfl (Ef.store 4 tab_ok rfl rfl rfl rfl rfl rfl rfl rfl ?_)
    refine ⟨qR, qS, ?_⟩
    refine WA.done qK ?_
    refine zU (zQ (zG ?_))
    refine' WG.y rfl rfl qD (Yl.load1 tab_ok rfl rfl rfl (fun _ => rfl) ?r44 rfl ?h44) ?_
    case r44 => (first | exact Rd.blk 0 rfl | exact Rd.blk 1 rfl | exact Rd.blk 2 rfl | exact Rd.blk 3 rfl | exact Rd.blk 4 rfl | (apply RS.rdD; assumption; ((try dsimp only) <;> omega)) | exact Rd.slD 0 rfl qX | exact Rd.slD 1 rfl qX | exact Rd.slD 2 rfl qX | exact Rd.slD 3 rfl qX | exact Rd.slD 4 rfl qX)
    case h44 => rfl
    first | refine WL.efN rfl rfl (Ef.store0 0 tab_ok rfl rfl rfl rfl rfl rfl rfl rfl ?_) | refine WL.efN rfl rfl (Ef.store0 1 tab_ok rfl rfl rfl rfl rfl rfl rfl rfl ?_) | refine WL.efN rfl rfl (Ef.store0 2 tab_ok rfl rfl rfl rfl rfl rfl rfl rfl ?_) | refine WL.efN rfl rfl (Ef.store0 3 tab_ok rfl rfl rfl rfl rfl rfl rfl rfl ?_) | refine WL.efN rfl rfl (Ef.store0 4 tab_ok rfl rfl rfl rfl rfl rfl rfl rfl ?_)
    refine zN (zU (zT ?_))
    refine WE.retF tab_ok [_] rfl ⟨⟨_, _, _, rfl, rfl, rfl, qB, rfl⟩, trivial⟩ ((by first | exact hR1 | exact RLe.refl _)) ?_
    exact ⟨a12, c12, by rw [← hkb4]; rfl, hff, hcp, qS⟩
 ·
  refine W.regionH _ (ES := [.blk b3 [.slice fa (fvals F (S + P)).length fc, .int .i64 (P : Int), .int .i64 I]]) mixed ?_
  refine tP 1 ?_
  refine' WA.take 2 rfl qK qK qK rfl rfl qD (Yl.load1 tab_ok rfl rfl rfl (fun _ => rfl) ?r45 rfl ?h45) qS qR ?_
  case r45 => apply Rd.add; (first | exact Rd.blk 0 rfl | exact Rd.blk 1 rfl | exact Rd.blk 2 rfl | exact Rd.blk 3 rfl | exact Rd.blk 4 rfl)
  case h45 => rfl
  refine tP 4 ?_
  refine' WA.take 5 rfl qK qK qK rfl rfl qD (Yl.load1 tab_ok rfl rfl rfl (fun _ => rfl) ?r46 rfl ?h46) qS qR ?_
  case r46 => apply Rd.add; (first | exact Rd.blk 0 rfl | exact Rd.blk 1 rfl | exact Rd.blk 2 rfl | exact Rd.blk 3 rfl | exact Rd.blk 4 rfl)
  case h46 => rfl
  refine tP 6 ?_
  refine' WA.take 7 rfl qK qK qK rfl rfl qD (Yl.load1 tab_ok rfl rfl rfl (fun _ => rfl) ?r47 rfl ?h47) qS qR ?_
  case r47 => apply Rd.add; (first | exact Rd.blk 0 rfl | exact Rd.blk 1 rfl | exact Rd.blk 2 rfl | exact Rd.blk 3 rfl | exact Rd.blk 4 rfl)
  case h47 => rfl
  refine WA.br2 (i := 0) (j := 9) qK ?_ ?_
  ·
   refine WS.eff rfl rfl rfl qD (Ef.buildSliceD (enc := encI) (parts := []) [] tab_ok rfl rfl rfl rfl rfl rfl rfl rfl qD qD (fun a9 => ?_))
   refine ⟨qR, qS, ?_⟩
   refine WA.br2 (i := 3) (j := 9) qK ?_ ?_
   ·
    first | refine WS.eff rfl rfl rfl qD (Ef.cloneL (enc := encI) 0 tab_ok rfl rfl rfl rfl rfl rfl rfl rfl rfl rfl ha (fun _ _ => rfl) (by dsimp only; omega) qO (fun a12 c12 ha12 => ?_)) | refine WS.eff rfl rfl rfl qD (Ef.cloneL (enc := encI) 1 tab_ok rfl rfl rfl rfl rfl rfl rfl rfl rfl rfl ha (fun _ _ => rfl) (by dsimp only; omega) qO (fun a12 c12 ha12 => ?_))
    refine ⟨qR, qS, ?_⟩
    -- build
    refine WA.take 8 rfl qK qK qK rfl rfl qD (Yl.build (parts := [(0, .tmp 12), (1, .tmp 14), (2, .tmp 16)]) tab_ok rfl rfl rfl rfl (fun _ => rfl) rfl rfl) qS qR ?_
    refine WA.eff 9 rfl qK rfl rfl qD (Ef.alloc tab_ok rfl rfl (fun b7 => ?_))
    refine ⟨qR, qS, ?_⟩
    first | refine WA.effN 10 rfl qK rfl rfl (Ef.store0 0 tab_ok rfl rfl rfl rfl rfl rfl rfl rfl ?_) | refine WA.effN 10 rfl qK rfl rfl (Ef.store0 1 tab_ok rfl rfl rfl rfl rfl rfl rfl rfl ?_) | refine WA.effN 10 rfl qK rfl rfl (Ef.store0 2 tab_ok rfl rfl rfl rfl rfl rfl rfl rfl ?_) | refine WA.effN 10 rfl qK rfl rfl (Ef.store0 3 tab_ok rfl rfl rfl rfl rfl rfl rfl rfl ?_) | refine WA.effN 10 rfl qK rfl rfl (Ef.store0 4 tab_ok rfl rfl rfl rfl rfl rfl rfl rfl ?_)
    refine ⟨qR, qS, ?_⟩
    refine WA.done qK ?_
    refine WE.cutP (b7, a12, c12) trivial ⟨rfl, rfl, rfl, rfl, rfl, rfl⟩ (RLe.refl _) (by dsimp only; first | exact List.Perm.refl _ | exact List.Perm.swap _ _ _)
   ·
    refine WS.eff rfl rfl rfl qD (Ef.alloc tab_ok rfl rfl (fun b7 => ?_))
    refine ⟨qR, qS, ?_⟩
    first | refine WA.eff 3 rfl qK rfl rfl qD (Ef.cloneL (enc := encI) 0 tab_ok rfl rfl rfl rfl rfl rfl rfl rfl rfl rfl ha (fun _ _ => rfl) (by dsimp only; omega) qO (fun a12 c12 ha12 => ?_)) | refine WA.eff 3 rfl qK rfl rfl qD (Ef.cloneL (enc := encI) 1 tab_ok rfl rfl rfl rfl rfl rfl rfl rfl rfl rfl ha (fun _ _ => rfl) (by dsimp only; omega) qO (fun a12 c12 ha12 => ?_))
    refine ⟨qR, qS, ?_⟩
    -- build
    refine WA.take 8 rfl qK qK qK rfl rfl qD (Yl.build (parts := [(0, .tmp 12), (1, .tmp 14), (2, .tmp 16)]) tab_ok rfl rfl rfl rfl (fun _ => rfl) rfl rfl) qS qR ?_
    first | refine WA.effN 10 rfl qK rfl rfl (Ef.store0 0 tab_ok rfl rfl rfl rfl rfl rfl rfl rfl ?_) | refine WA.effN 10 rfl qK rfl rfl (Ef.store0 1 tab_ok rfl rfl rfl rfl rfl rfl rfl rfl ?_) | refine WA.effN 10 rfl qK rfl rfl (Ef.store0 2 tab_ok rfl rfl rfl rfl rfl rfl rfl rfl ?_) | refine WA.effN 10 rfl qK rfl rfl (Ef.store0 3 tab_ok rfl rfl rfl rfl rfl rfl rfl rfl ?_) | refine WA.effN 10 rfl qK rfl rfl (Ef.store0 4 tab_ok rfl rfl rfl rfl rfl rfl rfl rfl ?_)
    refine ⟨qR, qS, ?_⟩
    refine WA.done qK ?_
    refine WE.cutP (b7, a12, c12) trivial ⟨rfl, rfl, rfl, rfl, rfl, rfl⟩ (RLe.refl _) (by dsimp only; first | exact List.Perm.refl _ | exact List.Perm.swap _ _ _)
  ·
   refine WS.eff rfl rfl rfl qD (Ef.alloc tab_ok rfl rfl (fun b7 => ?_))
   refine ⟨qR, qS, ?_⟩
   refine WA.eff 0 rfl qK rfl rfl qD (Ef.buildSliceD (enc := encI) (parts := []) [] tab_ok rfl rfl rfl rfl rfl rfl rfl rfl qD qD (fun a9 => ?_))
   refine ⟨qR, qS, ?_⟩
   first | refine WA.eff 3 rfl qK rfl rfl qD (Ef.cloneL (enc := encI) 0 tab_ok rfl rfl rfl rfl rfl rfl rfl rfl rfl rfl ha (fun _ _ => rfl) (by dsimp only; omega) qO (fun a12 c12 ha12 => ?_)) | refine WA.eff 3 rfl qK rfl rfl qD (Ef.cloneL (enc := encI) 1 tab_ok rfl rfl rfl rfl rfl rfl rfl rfl rfl rfl ha (fun _ _ => rfl) (by dsimp only; omega) qO (fun a12 c12 ha12 => ?_))
   refine ⟨qR, qS, ?_⟩
   -- build
   refine WA.take 8 rfl qK qK qK rfl rfl qD (Yl.build (parts := [(0, .tmp 12), (1, .tmp 14), (2, .tmp 16)]) tab_ok rfl rfl rfl rfl (fun _ => rfl) rfl rfl) qS qR ?_
   first | refine WA.effN 10 rfl qK rfl rfl (Ef.store0 0 tab_ok rfl rfl rfl rfl rfl rfl rfl rfl ?_) | refine WA.effN 10 rfl qK rfl rfl (Ef.store0 1 tab_ok rfl rfl rfl rfl rfl rfl rfl rfl ?_) | refine WA.effN 10 rfl qK rfl rfl (Ef.store0 2 tab_ok rfl rfl rfl rfl rfl rfl rfl rfl ?_) | refine WA.effN 10 rfl qK rfl rfl (Ef.store0 3 tab_ok rfl rfl rfl rfl rfl rfl rfl rfl ?_) | refine WA.effN 10 rfl qK rfl rfl (Ef.store0 4 tab_ok rfl rfl rfl rfl rfl rfl rfl rfl ?_)
   refine ⟨qR, qS, ?_⟩
   refine WA.done qK ?_
   refine WE.cutP (b7, a12, c12) trivial ⟨rfl, rfl, rfl, rfl, rfl, rfl⟩ (RLe.refl _) (by dsimp only; first | exact List.Perm.refl _ | exact List.Perm.swap _ _ _)

theorem LongerV_C {R : Ro} {fa : Option Addr} {fc : Nat} {c : Cv} (hs : SmallC c) (hfin : finB c = true) (h1 : c.vals.length ≤ 20) (h2 : c.per ≤ 4) (h3 : c.inc ≤ 50) (h4 : ∀ x ∈ c.vals, x ≤ 200) (ha : RS R 1 encI fa c.vals) {mi ti : Int} (hm : 0 ≤ mi ∧ mi ≤ 3) (ht : 1 ≤ ti ∧ ti ≤ 2) (w0 : World) (E : List Ent) : K.Fn Tryd.prog 34 [.agg #[.slice fa c.vals.length fc, .int .i64 c.per, .int .i64 c.inc], .int .i64 mi, .int .i64 ti] w0 R E (fun v R' E' => ∃ (f : Option Addr) (fc : Nat) (cv : Cv), v = .agg #[.slice f cv.vals.length fc, .int .i64 cv.per, .int .i64 cv.inc] ∧ RS R' 1 encI f cv.vals ∧ SmallC cv ∧ finB cv = true ∧ cv.vals.length ≤ fc ∧ E.Sublist E') := by
 obtain ⟨more, rfl⟩ := Int.eq_ofNat_of_zero_le hm.1
 obtain ⟨times, rfl⟩ := Int.eq_ofNat_of_zero_le (show 0 ≤ ti by omega)
 rcases valid_cases hs.valid with ⟨S, P, e, hl, hp, hfc, _⟩ | ⟨_, _, _, _, _, _, _, hf⟩
 ·generalize cvF c = G at e hfc
  have hP := hfc.hP
  have hb : ∀ t, t < S + P → G t ≤ 200 := fun t htl => by
   have := h4 (nth c.vals t) (nth_mem (by omega))
   rw [e, fvals_nth G htl] at this
   exact this
  have hsl := small_longer hfc (by omega) (by omega) (by omega) hb (show more ≤ 3 by omega) (show 1 ≤ times ∧ times ≤ 2 by omega)
  have hfl : finB ⟨fvals G (S + more + P * times), ((P * times : Nat) : Int), c.inc * (times : Int)⟩ = true := by
   unfold finB
   have e0 : P ≤ P * times := by have := Nat.mul_le_mul_left P (show 1 ≤ times by omega); omega
   have e1 : P * times ≤ 2 * P := by have := Nat.mul_le_mul_left P (show times ≤ 2 by omega); omega
   dsimp only
   rw [fvals_len, fvals_nth G (by omega), bne_iff_ne]
   have := hfc.bound (S + more + P * times - 1)
   have := hfc.hn
   unfold INF
   omega
  have ev : c.vals = fvals G (S + P) := congrArg Cv.vals e
  rw [ev] at ha
  rw [ev, hp]
  refine K.Fn.mono (Longer_C hfc ha (more := more) (times := times) qO qO w0 E) ?_
  rintro v R' E' - ⟨f, fc', rfl, hff, hcp, hsub⟩
  exact ⟨f, fc', _, rfl, hff, hsl, hfl, hcp, hsub⟩
 ·rw [hfin] at hf; cases hf

end Go.Proofs.YtejpkjapmhpmpaaDoor
