/- Rules and walks, joined from 9 texts: the first of them says: Time slots, plain: the curves of the program and of the reference are the same. No condition. -/
import Derived.Test.YtnaeefefggmomaaG2
/- Time slots, plain: the curves of the program and of the reference are the same. No condition. -/
namespace Go.Proofs.Ytnaeefefggmomaa.M
open Go Go.Proofs.Ytnaeefefggmomaa.K

def chkT (cap cls : Int) (tb : List Int) (z : List Sz) : Int := if chk18 cap cls z ≠ 0 then 2 else if okT z.length tb = false then 2 else 0
def someT (cls : Int) (tb : List Int) : Bool := tb.any fun c => c == cls
def allT (cls : Int) (tb : List Int) : Bool := tb.all fun c => c == cls
def lineF (cap lost : Int) (t : Nat) : Int := max 0 (cap * t - lost)
def slotC (cap cls : Int) (tb : List Int) (z : List Sz) : Cv × Int :=
  if chkT cap cls tb z ≠ 0 then (zcv, chkT cap cls tb z)
  else if someT cls tb = false ∨ (nth z cls.toNat).most < 1 then (zcv, 5)
  else if allT cls tb = true then (if 400 * cap < (nth z cls.toNat).most - 1 then (zcv, 3) else madeR ⟨fvals (lineF cap ((nth z cls.toNat).most - 1)) 401, 1, cap⟩)
  else madeR ⟨fvals (slotF cap ((nth z cls.toNat).most - 1) (mineT tb cls) tb.length) (3 * tb.length + tb.length), tb.length,
    slotF cap ((nth z cls.toNat).most - 1) (mineT tb cls) tb.length (4 * tb.length - 1) - slotF cap ((nth z cls.toNat).most - 1) (mineT tb cls) tb.length (3 * tb.length - 1)⟩
theorem chkT_ok {cap cls : Int} {tb : List Int} {z : List Sz} (h : chkT cap cls tb z = 0) : 1 ≤ cap ∧ cap ≤ 4000 ∧ 0 ≤ cls ∧ cls < z.length ∧ z.length ≤ 6 ∧ (1 ≤ tb.length ∧ tb.length ≤ 40 ∧ ∀ c ∈ tb, -1 ≤ c ∧ c < z.length) ∧ ∀ s ∈ z, 0 ≤ s.least ∧ s.least ≤ s.most ∧ s.most ≤ 1500 := by
  unfold chkT at h
  by_cases h1 : chk18 cap cls z ≠ 0
  · rw [if_pos h1] at h; omega
  · rw [if_neg h1] at h
    by_cases h2 : okT z.length tb = false
    · rw [if_pos h2] at h; omega
    · have hw : chkW 20 cap cls (List.replicate z.length 1) z = 0 := by
        unfold chkW
        rw [if_neg h1, if_neg]
        intro h
        rcases h with h | h
        · simp at h
        · have : okW 20 (List.replicate z.length 1) = true := okW_iff.2 (fun x hx => by rw [List.eq_of_mem_replicate hx]; omega)
          rw [this] at h; cases h
      obtain ⟨a1, a2, a3, a4, a5, _, _, a8⟩ := chkW_ok hw
      exact ⟨a1, a2, a3, a4, a5, okT_iff.1 (by simpa using h2), a8⟩
section
variable {cap lost : Int}
theorem lineF_bound (hc : 0 ≤ cap) (hl : 0 ≤ lost) (t : Nat) : 0 ≤ lineF cap lost t ∧ lineF cap lost t ≤ cap * t := by
  have := Int.mul_nonneg hc (show (0 : Int) ≤ (t : Int) by omega)
  unfold lineF; omega
theorem lineF_mono (hc : 0 ≤ cap) (t : Nat) : lineF cap lost t ≤ lineF cap lost (t + 1) := by
  have : cap * ((t + 1 : Nat) : Int) = cap * (t : Int) + cap := by rw [Int.natCast_add, Int.mul_add]; simp
  unfold lineF; omega
theorem lineF_grows (hc : 0 ≤ cap) {S : Nat} (hS : lost ≤ cap * S) : Grows (lineF cap lost) S 1 cap := by
  intro t ht
  have h1 := Int.mul_le_mul_of_nonneg_left (show (S : Int) ≤ (t : Int) by omega) hc
  have : cap * ((t + 1 : Nat) : Int) = cap * (t : Int) + cap := by rw [Int.natCast_add, Int.mul_add]; simp
  unfold lineF; omega
theorem lost_quo (hc : 0 < cap) (hl : 0 ≤ lost) : lost ≤ cap * ((lost / cap + 1).toNat : Int) ∧ 0 ≤ lost / cap ∧ lost / cap ≤ lost := by
  have h0 : 0 ≤ lost / cap := Int.ediv_nonneg hl (by omega)
  have h1 := Int.mul_ediv_add_emod lost cap
  have h2 := Int.emod_lt_of_pos lost hc
  rw [Int.toNat_of_nonneg (by omega), Int.mul_add]
  exact ⟨by omega, h0, Int.ediv_le_self _ hl⟩
theorem line_build (hc : 0 < cap ∧ cap ≤ 4000) (hl : 0 ≤ lost ∧ lost ≤ 1500) :
    mbuild (lineF cap lost) (lost / cap + 1).toNat 1 cap = if 400 * cap < lost then (zcv, 3) else madeR ⟨fvals (lineF cap lost) 401, 1, cap⟩ := by
  obtain ⟨q1, q2, q3⟩ := lost_quo hc.1 hl.1
  have hb : ∀ t : Nat, t ≤ 2000 → lineF cap lost t < INF := fun t ht => by
    have h1 := (lineF_bound (cap := cap) (by omega) hl.1 t).2
    have h2 := (mulB (a := cap) (b := (t : Int)) (A := 4000) (B := 2000) (by omega) (by omega)).2
    unfold INF; omega
  have hg := lineF_grows (cap := cap) (by omega) q1
  have hf : ∀ t, t < (lost / cap + 1).toNat + 1 → lineF cap lost t < INF := fun t ht => hb t (by omega)
  have hne : ∀ t, t < (lost / cap + 1).toNat + 1 → lineF cap lost t ≠ INF := fun t ht => by have := hf t ht; omega
  rw [mbuild_fin hne]
  by_cases hfr : 400 * cap < lost
  · rw [if_pos hfr]
    obtain ⟨p', s', hnf, _, _, e⟩ := finL_nf (by omega) hg hne
    rw [e]
    have hp1 := hnf.least.1
    obtain rfl : p' = 1 := by omega
    have hgr := hnf.starts.1 s' (Nat.le_refl _)
    have hnn := (lineF_bound (cap := cap) (by omega) hl.1 s').1
    have hlen : 400 < s' + 1 := by
      apply Classical.byContradiction
      intro hn
      have h1 := Int.mul_le_mul_of_nonneg_left (show ((s' + 1 : Nat) : Int) ≤ 400 by omega) (show 0 ≤ cap by omega)
      have : lineF cap lost (s' + 1) = 0 := by unfold lineF; omega
      simp at hgr
      omega
    unfold nfC nfE
    rw [if_pos (if_pos (.inr (.inr (.inl hlen))))]
  · rw [if_neg hfr]
    have hg' : Grows (lineF cap lost) 400 1 cap := lineF_grows (by omega) (by show lost ≤ cap * 400; omega)
    exact build_made (by omega) (by omega) hg hg' (fun t => lineF_mono (by omega) t) (lineF_bound (by omega) hl.1 0).1 hf (fun t ht => hb t (by omega))
variable {mine : Nat → Bool} {n : Nat}
theorem slotF_bound (hc : 0 ≤ cap) (hl : 0 ≤ lost) (hn : 0 < n) (t : Nat) : 0 ≤ slotF cap lost mine n t ∧ slotF cap lost mine n t ≤ cap * t := by
  have h1 := minN_le (f := fun a => cntS cap lost mine a t) hn
  have h2 := (cntS_bound (mine := mine) (a := 0) hc hl t).2
  refine ⟨minN_ge (cntS_bound hc hl t).1 (fun i _ => (cntS_bound hc hl t).1), ?_⟩
  unfold slotF
  omega
theorem slotF_mono (hc : 0 ≤ cap) (hn : 0 < n) (t : Nat) : slotF cap lost mine n t ≤ slotF cap lost mine n (t + 1) :=
  minN_ge (Int.le_trans (minN_le (f := fun a => cntS cap lost mine a t) hn) (cntS_mono hc t)) (fun i hi => Int.le_trans (minN_le (f := fun a => cntS cap lost mine a t) hi) (cntS_mono hc t))
/-- all of a table seen, it grows by as much in each cycle -/
theorem slotF_grows (hper : ∀ i, mine (i + n) = mine i) (hn : 0 < n) {b : Nat} (hb : mine b = false) : Grows (slotF cap lost mine n) n n (slotS cap lost mine (b + 1) n).1 :=
  fun k hk => minN_add hn (fun i hi => cntS_cycle hper hn hb hk)
theorem slot_build (hc : 0 < cap ∧ cap ≤ 4000) (hl : 0 ≤ lost ∧ lost ≤ 1500) (hper : ∀ i, mine (i + n) = mine i) (hn : 0 < n ∧ n ≤ 40) {b : Nat} (hb : mine b = false) :
    slotF cap lost mine n (2 * n) - slotF cap lost mine n n = slotF cap lost mine n (4 * n - 1) - slotF cap lost mine n (3 * n - 1) ∧ Grows (slotF cap lost mine n) n n (slotF cap lost mine n (2 * n) - slotF cap lost mine n n) ∧
    0 ≤ slotF cap lost mine n (2 * n) - slotF cap lost mine n n ∧
    mbuild (slotF cap lost mine n) n n (slotF cap lost mine n (2 * n) - slotF cap lost mine n n) = madeR ⟨fvals (slotF cap lost mine n) (3 * n + n), n, slotF cap lost mine n (4 * n - 1) - slotF cap lost mine n (3 * n - 1)⟩ := by
  have hg := slotF_grows (cap := cap) (lost := lost) hper hn.1 hb
  have e1 := hg n (Nat.le_refl _)
  have e2 := hg (3 * n - 1) (by omega)
  rw [show n + n = 2 * n by omega] at e1
  rw [show 3 * n - 1 + n = 4 * n - 1 by omega] at e2
  have e3 : slotF cap lost mine n (2 * n) - slotF cap lost mine n n = (slotS cap lost mine (b + 1) n).1 := by omega
  have e4 : slotF cap lost mine n (4 * n - 1) - slotF cap lost mine n (3 * n - 1) = (slotS cap lost mine (b + 1) n).1 := by omega
  have h0 := (slotS_nonneg (cap := cap) (lost := lost) (mine := mine) (a := b + 1) (by omega) n).1
  have hbd : ∀ t : Nat, t ≤ 2000 → slotF cap lost mine n t < INF := fun t ht => by
    have h1 := (slotF_bound (cap := cap) (lost := lost) (mine := mine) (by omega) hl.1 hn.1 t).2
    have h2 := (mulB (a := cap) (b := (t : Int)) (A := 4000) (B := 2000) (by omega) (by omega)).2
    unfold INF; omega
  rw [e3, e4]
  refine ⟨rfl, hg, h0, ?_⟩
  rw [mbuild_fin (fun t ht => by have := hbd t (by omega); omega)]
  exact build_made hn.1 h0 hg (hg.mono (by omega)) (fun t => slotF_mono (by omega) hn.1 t) (slotF_bound (by omega) hl.1 hn.1 0).1 (fun t ht => hbd t (by omega)) (fun t ht => hbd t (by omega))
theorem someT_iff {cls : Int} {tb : List Int} : someT cls tb = true ↔ ∃ i, i < tb.length ∧ nth tb i = cls := by
  unfold someT
  rw [List.any_eq_true]
  constructor
  · rintro ⟨c, h1, h2⟩
    obtain ⟨i, hi, e⟩ := List.getElem_of_mem h1
    exact ⟨i, hi, by rw [nth_eq hi, e]; simpa using h2⟩
  · rintro ⟨i, hi, e⟩
    exact ⟨_, nth_mem hi, by simpa using e⟩
theorem allT_iff {cls : Int} {tb : List Int} : allT cls tb = true ↔ ∀ i, i < tb.length → nth tb i = cls := by
  unfold allT
  rw [List.all_eq_true]
  constructor
  · intro h i hi
    simpa using h _ (nth_mem hi)
  · intro h c hc
    obtain ⟨i, hi, e⟩ := List.getElem_of_mem hc
    have := h i hi
    rw [nth_eq hi, e] at this
    simpa using this
theorem allT_not {cls : Int} {tb : List Int} (h : ¬ allT cls tb = true) : ∃ b, b < tb.length ∧ mineT tb cls b = false := by
  apply Classical.byContradiction
  intro hn
  refine h (allT_iff.2 (fun i hi => ?_))
  apply Classical.byContradiction
  intro h2
  refine hn ⟨i, hi, ?_⟩
  unfold mineT slotT
  rw [Nat.mod_eq_of_lt hi]
  simpa using h2
end
end Go.Proofs.Ytnaeefefggmomaa.M

/- Time slots: what the walks want. No condition. -/
namespace Go.Proofs.Ytnaeefefggmomaa.M
open Go Go.Proofs.Ytnaeefefggmomaa.K

def aheadP (tb : List Int) (cls : Int) (t n : Nat) : Bool := decide (cls < 0) || nth tb ((t + n) % tb.length) != cls
theorem aheadP_iff {tb : List Int} {cls : Int} {t n : Nat} : aheadP tb cls t n = true ↔ cls < 0 ∨ nth tb ((t + n) % tb.length) ≠ cls := by unfold aheadP; simp
theorem aheadN_some {tb : List Int} {cls : Int} {t n : Nat} (hn : n < tb.length) (hP : aheadP tb cls t n = true) (h : ∀ j, j < n → aheadP tb cls t j = false) : aheadN tb cls t = n :=
  findFrom_some (P := aheadP tb cls t) (Nat.zero_le _) (by omega) hP (fun j _ hj => h j hj)
theorem aheadN_none {tb : List Int} {cls : Int} {t : Nat} (h : ∀ j, j < tb.length → aheadP tb cls t j = false) : aheadN tb cls t = -1 :=
  findFrom_none (P := aheadP tb cls t) (fun j _ hj => h j (by omega))
theorem aheadN_range (tb : List Int) (cls : Int) (t : Nat) : -1 ≤ aheadN tb cls t ∧ aheadN tb cls t < tb.length ∨ aheadN tb cls t = -1 := by
  rcases findFrom_cases (aheadP tb cls t) tb.length 0 with ⟨i, h1, h2, h3, _⟩ | ⟨h1, _⟩
  · left
    have : aheadN tb cls t = i := h3
    omega
  · right; exact h1
def aheadV (tb : List Int) (cls : Int) (t : Nat) : Int × Bool := if aheadN tb cls t = -1 then (0, false) else (aheadN tb cls t, true)
theorem okT_at {n : Int} {tb : List Int} (h1 : 1 ≤ tb.length) (h2 : tb.length ≤ 40) (h : ∀ j, j < tb.length → -1 ≤ nth tb j ∧ nth tb j < n) : okT n tb = true := okT_iff.2 ⟨h1, h2, fun c hc => by
  obtain ⟨i, hi, e⟩ := List.getElem_of_mem hc
  have := h i hi
  rw [nth_eq hi, e] at this; exact this⟩
def clsN (tb : List Int) (k : Nat) : Int := (tb.take k).foldl (fun m c => if m < c + 1 then c + 1 else m) 1
theorem clsN_succ {tb : List Int} {k : Nat} (h : k < tb.length) : clsN tb (k + 1) = max (clsN tb k) (nth tb k + 1) := by
  unfold clsN
  rw [List.take_succ_eq_append_getElem h, List.foldl_append, nth_eq h]
  simp only [List.foldl_cons, List.foldl_nil]
  split <;> omega
theorem clsN_all (tb : List Int) : clsN tb tb.length = classesT tb := by unfold clsN classesT; rw [List.take_length]
theorem clsN_bound {tb : List Int} {B : Int} (hB : 1 ≤ B) (h : ∀ c ∈ tb, c + 1 ≤ B) (k : Nat) : 1 ≤ clsN tb k ∧ clsN tb k ≤ B := by
  have := classesT_facts (tb.take k)
  exact ⟨this.1, this.2.2 B hB (fun c hc => h c (List.mem_of_mem_take hc))⟩
theorem slotCh_if {ps : List Pkt} {cap : Int} {tb : List Int} {ms : MS} (h0 : ¬ slotT tb ms.now.toNat < 0) (h1 : ¬ nextW ps ms (slotT tb ms.now.toNat) < 0) : slotCh ps cap tb ms () =
    if (aheadV tb (slotT tb ms.now.toNat) ms.now.toNat).2 = true ∧ ms.left + ((aheadV tb (slotT tb ms.now.toNat) ms.now.toNat).1 - 1) * cap < szOf ps (nextW ps ms (slotT tb ms.now.toNat)) then (-1, skipTo ms.begun ms.before, ()) else (nextW ps ms (slotT tb ms.now.toNat), skipTo ms.begun ms.before, ()) := by
  unfold slotCh
  rw [if_neg h0, if_neg h1]
  unfold aheadV szOf
  by_cases ha : aheadN tb (slotT tb ms.now.toNat) ms.now.toNat = -1
  · rw [if_pos ha, if_neg (fun h => h.1 ha), if_neg (fun h => by cases h.1)]
  · rw [if_neg ha]
    by_cases hb : (nth ps (nextW ps ms (slotT tb ms.now.toNat)).toNat).size > ms.left + (aheadN tb (slotT tb ms.now.toNat) ms.now.toNat - 1) * cap
    · rw [if_pos ⟨ha, hb⟩, if_pos ⟨rfl, hb⟩]
    · rw [if_neg (fun h => hb h.2), if_neg (fun h => hb h.2)]
/-- what room a packet of a class has at the beginning of a tick -/
def roomT (cap : Int) (tb : List Int) (cls t : Int) : Int :=
  if cap < 1 ∨ 4000 < cap ∨ tb.length < 1 ∨ 40 < tb.length ∨ t < 0 ∨ 2000 < t then 0
  else if (aheadV tb cls t.toNat).2 = false then 1073741824 else (aheadV tb cls t.toNat).1 * cap
theorem srunE_ok {cap ticks : Int} {tb : List Int} {ps : List Pkt} (h : srunE cap ticks tb ps = 0) : okT 6 tb = true ∧ lrunE cap (classesT tb) ticks ps = 0 := by
  unfold srunE at h
  split at h
  · rename_i h1; exact ⟨h1, h⟩
  · omega
/-- how many ticks of the part that goes on -/
def rowS (mine : Nat → Bool) (a : Nat) : Nat → Nat
  | 0 => 0
  | d + 1 => if mine (a + d) = true then rowS mine a d + 1 else 0
end Go.Proofs.Ytnaeefefggmomaa.M

/- Time slots: the table of the least counts, as the walk of the curve fills it. No condition. -/
namespace Go.Proofs.Ytnaeefefggmomaa.M
open Go Go.Proofs.Ytnaeefefggmomaa.K

def someN (tb : List Int) (cls : Int) : Nat → Bool
  | 0 => false
  | k + 1 => someN tb cls k || mineT tb cls k
theorem someN_iff {tb : List Int} {cls : Int} : ∀ {k : Nat}, k ≤ tb.length → (someN tb cls k = true ↔ ∃ i, i < k ∧ nth tb i = cls)
  | 0, _ => by simp [someN]
  | k + 1, h => by
    have ih := someN_iff (tb := tb) (cls := cls) (k := k) (by omega)
    have e : mineT tb cls k = (nth tb k == cls) := by unfold mineT slotT; rw [Nat.mod_eq_of_lt (by omega)]
    simp only [someN, Bool.or_eq_true, ih, e, beq_iff_eq]
    constructor
    · rintro (⟨i, h1, h2⟩ | h1)
      · exact ⟨i, by omega, h2⟩
      · exact ⟨k, by omega, h1⟩
    · rintro ⟨i, h1, h2⟩
      by_cases e : i = k
      · subst e; exact .inr h2
      · exact .inl ⟨i, by omega, h2⟩
theorem someN_all (tb : List Int) (cls : Int) : someN tb cls tb.length = someT cls tb := by
  rw [Bool.eq_iff_iff, someN_iff (Nat.le_refl _), someT_iff]
theorem aheadV_all {tb : List Int} {cls : Int} (hc : 0 ≤ cls) : (aheadV tb cls 0).2 = false ↔ allT cls tb = true := by
  rw [allT_iff]
  unfold aheadV
  constructor
  · intro h i hi
    by_cases ha : aheadN tb cls 0 = -1
    · rcases findFrom_cases (aheadP tb cls 0) tb.length 0 with ⟨j, h1, h2, h3, _⟩ | ⟨_, h2⟩
      · have : aheadN tb cls 0 = j := h3
        omega
      · have h3 := h2 i (Nat.zero_le _) (by omega)
        rw [← Bool.not_eq_true, aheadP_iff, Nat.zero_add, Nat.mod_eq_of_lt hi] at h3
        apply Classical.byContradiction
        intro hn; exact h3 (.inr hn)
    · rw [if_neg ha] at h; cases h
  · intro h
    have ha : aheadN tb cls 0 = -1 := aheadN_none (fun j hj => by
      rw [← Bool.not_eq_true, aheadP_iff, Nat.zero_add, Nat.mod_eq_of_lt hj]
      rintro (h1 | h1)
      · omega
      · exact h1 (h j hj))
    rw [if_pos ha]
def fillL (m k : Nat) : List Int := (List.range m).map fun j => if j < k then INF else 0
def tickL (C : Nat → Nat → Int) (m f k : Nat) : List Int := (List.range m).map fun j => if j < k then minTo (fun a => C a j) (f + 1) else minTo (fun a => C a j) f
theorem fillL_len (m k : Nat) : (fillL m k).length = m := by simp [fillL]
theorem tickL_len (C : Nat → Nat → Int) (m f k : Nat) : (tickL C m f k).length = m := by simp [tickL]
theorem fillL_nth {m k j : Nat} (h : j < m) : nth (fillL m k) j = if j < k then INF else 0 := range_map_nth (fun j => if j < k then INF else 0) h
theorem tickL_nth {C : Nat → Nat → Int} {m f k j : Nat} (h : j < m) : nth (tickL C m f k) j = if j < k then minTo (fun a => C a j) (f + 1) else minTo (fun a => C a j) f := range_map_nth (fun j => if j < k then minTo (fun a => C a j) (f + 1) else minTo (fun a => C a j) f) h
theorem fillL_zero (m : Nat) : fillL m 0 = List.replicate m 0 := nth_ext (by rw [fillL_len, List.length_replicate]) (fun i hi => by
  rw [fillL_len] at hi
  rw [fillL_nth hi, if_neg (by omega), nth_replicate hi])
theorem fillL_set {m k : Nat} (h : k < m) : (fillL m k).set k INF = fillL m (k + 1) := nth_ext (by rw [List.length_set, fillL_len, fillL_len]) (fun i hi => by
  rw [List.length_set, fillL_len] at hi
  rw [fillL_nth hi]
  by_cases e : k = i
  · subst e; rw [nth_set_self (by rw [fillL_len]; exact h), if_pos (by omega)]
  · rw [nth_set_ne e, fillL_nth hi]
    by_cases h2 : i < k
    · rw [if_pos h2, if_pos (by omega)]
    · rw [if_neg h2, if_neg (by omega)])
theorem fillL_all (C : Nat → Nat → Int) (m : Nat) : fillL m m = tickL C m 0 0 := nth_ext (by rw [fillL_len, tickL_len]) (fun i hi => by
  rw [fillL_len] at hi
  rw [fillL_nth hi, tickL_nth hi, if_pos hi, if_neg (by omega)]; rfl)
theorem tickL_next (C : Nat → Nat → Int) (m f : Nat) : tickL C m f m = tickL C m (f + 1) 0 := nth_ext (by rw [tickL_len, tickL_len]) (fun i hi => by
  rw [tickL_len] at hi
  rw [tickL_nth hi, tickL_nth hi, if_pos hi, if_neg (by omega)])
theorem tickL_set {C : Nat → Nat → Int} {m f k : Nat} (h : k < m) {v : Int} (hv : v = min (nth (tickL C m f k) k) (C f k)) : (tickL C m f k).set k v = tickL C m f (k + 1) := nth_ext (by rw [List.length_set, tickL_len, tickL_len]) (fun i hi => by
  rw [List.length_set, tickL_len] at hi
  rw [tickL_nth hi]
  by_cases e : k = i
  · subst e
    rw [nth_set_self (by rw [tickL_len]; exact h), if_pos (by omega), hv, tickL_nth h, if_neg (by omega)]; rfl
  · rw [nth_set_ne e, tickL_nth hi]
    by_cases h2 : i < k
    · rw [if_pos h2, if_pos (by omega)]
    · rw [if_neg h2, if_neg (by omega)])
theorem tickL_end {C : Nat → Nat → Int} {m n : Nat} (hn : 0 < n) (h : ∀ j, j < m → C 0 j ≤ 4611686018427387904) : tickL C m n 0 = fvals (fun j => minN (fun a => C a j) n) m := nth_ext (by rw [tickL_len, fvals_len]) (fun i hi => by
  rw [tickL_len] at hi
  rw [tickL_nth hi, if_neg (by omega), fvals_nth _ hi]
  exact minTo_minN (f := fun a => C a i) (h i hi) hn)
theorem tickL_bound {C : Nat → Nat → Int} {m f k : Nat} (h : ∀ a j, 0 ≤ C a j) {j : Nat} (hj : j < m) : 0 ≤ nth (tickL C m f k) j ∧ nth (tickL C m f k) j ≤ 4611686018427387904 := by
  rw [tickL_nth hj]
  have key : ∀ n, 0 ≤ minTo (fun a => C a j) n ∧ minTo (fun a => C a j) n ≤ 4611686018427387904 := fun n => by
    induction n with
    | zero => simp [minTo]
    | succ n ih => have := h n j; simp only [minTo]; omega
  split
  · exact key _
  · exact key _
/-- four copies of a table -/
def longT (tb : List Int) : List Int := ((tb ++ tb) ++ tb) ++ tb
theorem longT_len (tb : List Int) : (longT tb).length = 4 * tb.length := by simp [longT]; omega
theorem nth_app {l r : List Int} {i : Nat} : nth (l ++ r) i = if i < l.length then nth l i else nth r (i - l.length) := by
  unfold nth List.getD
  split
  · rename_i h; rw [List.getElem?_append_left h]
  · rename_i h; rw [List.getElem?_append_right (by omega)]
theorem longT_nth {tb : List Int} {i : Nat} (h : i < 4 * tb.length) : nth (longT tb) i = slotT tb i := by
  unfold longT slotT
  rw [nth_app, nth_app, nth_app]
  simp only [List.length_append]
  by_cases h1 : i < tb.length
  · rw [if_pos (by omega), if_pos (by omega), if_pos h1, Nat.mod_eq_of_lt h1]
  · by_cases h2 : i < tb.length + tb.length
    · rw [if_pos (by omega), if_pos h2, if_neg h1, Nat.mod_eq_sub_mod (by omega), Nat.mod_eq_of_lt (by omega)]
    · by_cases h3 : i < tb.length + tb.length + tb.length
      · rw [if_pos h3, if_neg h2, Nat.mod_eq_sub_mod (by omega), Nat.mod_eq_sub_mod (by omega), Nat.mod_eq_of_lt (by omega)]
        congr 1; omega
      · rw [if_neg h3, Nat.mod_eq_sub_mod (by omega), Nat.mod_eq_sub_mod (by omega), Nat.mod_eq_sub_mod (by omega), Nat.mod_eq_of_lt (by omega)]
        congr 1; omega
end Go.Proofs.Ytnaeefefggmomaa.M

/- Time slots, plain: a class is sent what it is sent alone. No condition. -/
namespace Go.Proofs.Ytnaeefefggmomaa.M
open Go Go.Proofs.Ytnaeefefggmomaa.K

/-- the places of the packets of a class -/
def selI (ps : List Pkt) (k : Int) : List Nat := (List.range ps.length).filter fun i => (nth ps i).flow == k
def selP (ps : List Pkt) (k : Int) : List Pkt := ps.filter fun p => p.flow == k
structure Sel (ps : List Pkt) (k : Int) (qs : List Pkt) (ix : Nat → Nat) : Prop where
  at_ : ∀ j, j < qs.length → ix j < ps.length ∧ (nth ps (ix j)).flow = k ∧ nth qs j = nth ps (ix j)
  mono : ∀ j j', j < j' → j' < qs.length → ix j < ix j'
  onto : ∀ i, i < ps.length → (nth ps i).flow = k → ∃ j, j < qs.length ∧ ix j = i
section
variable {ps qs : List Pkt} {cap : Int} {tb : List Int} {classes k : Nat} {ix : Nat → Nat}
theorem Sel.inj (h : Sel ps k qs ix) {j j' : Nat} (hj : j < qs.length) (hj' : j' < qs.length) (e : ix j = ix j') : j = j' := by
  rcases Nat.lt_trichotomy j j' with h1 | h1 | h1
  · have := h.mono _ _ h1 hj'; omega
  · exact h1
  · have := h.mono _ _ h1 hj; omega
/-- the first packet of the class that waits, here and there -/
theorem Sel.next (h : Sel ps k qs ix) {ms ms' : MS} (hnow : ms'.now = ms.now) (hb : ∀ j, j < qs.length → nth ms'.begun j = nth ms.begun (ix j)) :
    (nextW qs ms' k < 0 ∧ nextW ps ms k < 0) ∨ (0 ≤ nextW qs ms' k ∧ (nextW qs ms' k).toNat < qs.length ∧ nextW ps ms k = ix (nextW qs ms' k).toNat) := by
  have hP : ∀ j, j < qs.length → nextP qs ms' k j = nextP ps ms k (ix j) := fun j hj => by
    obtain ⟨_, h2, h3⟩ := h.at_ j hj
    unfold nextP
    rw [hnow, hb j hj, h3]
  unfold nextW
  rcases findN_cases (nextP qs ms' k) qs.length with ⟨j, j1, j2, j3, j4⟩ | ⟨j1, j2⟩
  · right
    rw [j2, Int.toNat_natCast]
    refine ⟨by omega, j1, ?_⟩
    refine findN_some (h.at_ j j1).1 (by rw [← hP j j1]; exact j3) (fun i hi => ?_)
    by_cases hf : (nth ps i).flow = k
    · obtain ⟨j', e1, e2⟩ := h.onto i (by have := (h.at_ j j1).1; omega) hf
      have hlt : j' < j := by
        apply Classical.byContradiction
        intro hn
        by_cases e : j' = j
        · subst e; omega
        · have := h.mono j j' (by omega) e1; omega
      have := j4 j' hlt
      rw [hP j' e1, e2] at this; exact this
    · unfold nextP
      have : ((nth ps i).flow == (k : Int)) = false := by simpa using hf
      rw [this]; simp
  · left
    refine ⟨by rw [j1]; omega, ?_⟩
    rw [findN_none (fun i hi => ?_)]
    · omega
    · by_cases hf : (nth ps i).flow = k
      · obtain ⟨j', e1, e2⟩ := h.onto i hi hf
        have := j2 j' e1
        rw [hP j' e1, e2] at this; exact this
      · unfold nextP
        have : ((nth ps i).flow == (k : Int)) = false := by simpa using hf
        rw [this]; simp
/-- the two runs while the class is served -/
structure ApI (ps qs : List Pkt) (k t : Nat) (ix : Nat → Nat) (s a : RS Unit) : Prop where
  left : a.ms.left = s.ms.left
  now : a.ms.now = s.ms.now
  begun : ∀ j, j < qs.length → nth a.ms.begun j = nth s.ms.begun (ix j)
  done : ∀ j, j < qs.length → nth a.done j = nth s.done (ix j)
  col : nth (nth a.sent k) (t + 1) = nth (nth s.sent k) (t + 1)
  cur : (0 ≤ a.cur ∧ s.cur = ix a.cur.toNat ∧ a.rest = s.rest) ∨ (a.cur < 0 ∧ s.cur < 0)
/-- the two runs between ticks -/
structure Ap (ps qs : List Pkt) (k t : Nat) (ix : Nat → Nat) (s a : RS Unit) : Prop where
  begun : ∀ j, j < qs.length → nth a.ms.begun j = nth s.ms.begun (ix j)
  done : ∀ j, j < qs.length → nth a.done j = nth s.done (ix j)
  col : nth (nth a.sent k) t = nth (nth s.sent k) t
  cur : (0 ≤ a.cur ∧ s.cur = ix a.cur.toNat ∧ a.rest = s.rest) ∨ (a.cur < 0 ∧ (s.cur < 0 ∨ (nth ps s.cur.toNat).flow ≠ k))
end
end Go.Proofs.Ytnaeefefggmomaa.M

/- Time slots, plain: packets are sent within ticks in a row that belong to their class; a class that has all ticks is sent what a line in order of arrival sends it. No condition. -/
namespace Go.Proofs.Ytnaeefefggmomaa.M
open Go Go.Proofs.Ytnaeefefggmomaa.K

/-- sums -/
def sumUp (f : Nat → Int) : Nat → Int
  | 0 => 0
  | n + 1 => sumUp f n + f n
section
variable {σ : Type} {ps : List Pkt} {ch : MS → σ → Int × Nat × σ} {good : MS → σ → Prop} {rel : Nat → Nat → Prop} {classes col k : Nat} {s : RS σ}
end
section
variable {ps : List Pkt} {cap : Int} {tb : List Int} {classes : Nat}
/-- the bytes of the first packets of a class -/
def ofK (ps : List Pkt) (k : Int) (i : Nat) : Int := if (nth ps i).flow = k then (nth ps i).size else 0
/-- those that are finished before a tick -/
def overK (ps : List Pkt) (dn : List Int) (k t : Int) (i : Nat) : Int := if (nth ps i).flow = k ∧ 0 ≤ nth dn i ∧ nth dn i < t then (nth ps i).size else 0
/-! ### a class that has all ticks -/
end
end Go.Proofs.Ytnaeefefggmomaa.M

/- Time slots, plain: a class's curve is what it is served, and greater packets have a lesser one. No condition. -/
namespace Go.Proofs.Ytnaeefefggmomaa.M
open Go Go.Proofs.Ytnaeefefggmomaa.K

theorem FC.valid {F : Nat → Int} {S P : Nat} {I : Int} (h : FC F S P I) : validB ⟨fvals F (S + P), P, I⟩ = true := by
  have hP := h.hP
  have hn := h.hn
  have hI := h.hI
  rw [validB_iff]
  dsimp only
  rw [fvals_len]
  refine ⟨⟨by omega, by omega, by omega, by omega, by omega, by omega, by unfold MAXV; omega⟩, fun i hi => ?_, ?_⟩
  · rw [fvals_nth F hi]
    have a := h.nonneg i
    have b := h.hb i hi
    refine ⟨.inr ⟨a, by unfold MAXV; omega⟩, ?_⟩
    by_cases h0 : i = 0
    · exact .inl h0
    · right
      rw [fvals_nth F (by omega)]
      exact h.mono (show i - 1 ≤ i by omega)
  · rw [fvals_nth F (by omega), if_neg (h.fin (by omega)), Int.toNat_natCast, fvals_nth F (by omega)]
    have h1 := h.hg (S + P - P) (by omega)
    have h2 := h.mono (show S + P - 1 ≤ S + P - P + P by omega)
    omega
theorem slotS_all {cap lost : Int} {mine : Nat → Bool} (h : ∀ i, mine i = true) (a : Nat) : ∀ d : Nat, slotS cap lost mine a d = (0, cap * d)
  | 0 => by simp [slotS]
  | d + 1 => by
    have : cap * ((d + 1 : Nat) : Int) = cap * (d : Int) + cap := by rw [Int.natCast_add, Int.mul_add]; simp
    rw [slotS, slotS_all h a d, if_pos (h _), this]
theorem mineT_all {cls : Int} {tb : List Int} (hn : 0 < tb.length) (h : allT cls tb = true) (i : Nat) : mineT tb cls i = true := by
  unfold mineT slotT
  rw [allT_iff.1 h _ (Nat.mod_lt _ hn)]
  simp
theorem slot_for {cap cls : Int} {tb : List Int} {z : List Sz} (h : (slotC cap cls tb z).2 = 0) : chkT cap cls tb z = 0 ∧ 1 ≤ (nth z cls.toNat).most ∧
    ∃ (G : Nat → Int) (s p : Nat) (q : Int), slotC cap cls tb z = (⟨fvals G (s + p), p, q⟩, 0) ∧ FC G s p q ∧ G 0 = 0 ∧ (∀ a d : Nat, G d ≤ cntS cap ((nth z cls.toNat).most - 1) (mineT tb cls) a d) ∧
      (allT cls tb = true → G = lineF cap ((nth z cls.toNat).most - 1)) ∧ (¬ allT cls tb = true → G = slotF cap ((nth z cls.toNat).most - 1) (mineT tb cls) tb.length) := by
  by_cases h0 : chkT cap cls tb z = 0
  · by_cases h1 : someT cls tb = false ∨ (nth z cls.toNat).most < 1
    · have : slotC cap cls tb z = (zcv, 5) := by unfold slotC; rw [if_neg (fun h => h h0), if_pos h1]
      rw [this] at h; cases h
    · have hm1 : 1 ≤ (nth z cls.toNat).most := by
        apply Classical.byContradiction
        intro hn; exact h1 (.inr (by omega))
      refine ⟨h0, hm1, ?_⟩
      obtain ⟨c1, c2, k1, k2, zl, ⟨t1, t2, _⟩, hz⟩ := chkT_ok h0
      have hzk := hz _ (nth_mem (xs := z) (k := cls.toNat) (by omega))
      by_cases ha : allT cls tb = true
      · by_cases hf : 400 * cap < (nth z cls.toNat).most - 1
        · have : slotC cap cls tb z = (zcv, 3) := by unfold slotC; rw [if_neg (fun h => h h0), if_neg h1, if_pos ha, if_pos hf]
          rw [this] at h; cases h
        · have e0 : slotC cap cls tb z = madeR ⟨fvals (lineF cap ((nth z cls.toNat).most - 1)) 401, 1, cap⟩ := by unfold slotC; rw [if_neg (fun h => h h0), if_neg h1, if_pos ha, if_neg hf]
          have e1 := line_build (cap := cap) (lost := (nth z cls.toNat).most - 1) (by omega) (by omega)
          rw [if_neg hf] at e1
          obtain ⟨q1, q2, q3⟩ := lost_quo (cap := cap) (lost := (nth z cls.toNat).most - 1) (by omega) (by omega)
          have hb : ∀ t : Nat, t ≤ 2000 → lineF cap ((nth z cls.toNat).most - 1) t < INF := fun t ht => by
            have h1 := (lineF_bound (cap := cap) (lost := (nth z cls.toNat).most - 1) (by omega) (by omega) t).2
            have h2 := (mulB (a := cap) (b := (t : Int)) (A := 4000) (B := 2000) (by omega) (by omega)).2
            unfold INF; omega
          rcases build_fc (P := 1) (by omega) (by omega) (lineF_grows (cap := cap) (by omega) q1) (fun t => lineF_mono (by omega) t) (lineF_bound (by omega) (by omega) 0).1 (fun t ht => hb t (by omega)) with e | ⟨s, p, q, e, hfc⟩
          · rw [e0, ← e1, e] at h; cases h
          · refine ⟨_, s, p, q, by rw [e0, ← e1, e], hfc, ?_, fun a d => ?_, fun _ => rfl, fun hna => absurd ha hna⟩
            · unfold lineF; simp; omega
            · unfold cntS
              rw [slotS_all (mineT_all (by omega) ha)]
              unfold lineF
              dsimp only; omega
      · obtain ⟨b, _, hb⟩ := allT_not ha
        have e0 : slotC cap cls tb z = madeR ⟨fvals (slotF cap ((nth z cls.toNat).most - 1) (mineT tb cls) tb.length) (3 * tb.length + tb.length), tb.length,
    slotF cap ((nth z cls.toNat).most - 1) (mineT tb cls) tb.length (4 * tb.length - 1) - slotF cap ((nth z cls.toNat).most - 1) (mineT tb cls) tb.length (3 * tb.length - 1)⟩ := by unfold slotC; rw [if_neg (fun h => h h0), if_neg h1, if_neg ha]
        obtain ⟨i1, hg, i2, e1⟩ := slot_build (cap := cap) (lost := (nth z cls.toNat).most - 1) (mine := mineT tb cls) (n := tb.length) (by omega) (by omega) (fun i => mineT_per i) (by omega) hb
        rw [← e1] at e0
        have hbd : ∀ t : Nat, t ≤ 2000 → slotF cap ((nth z cls.toNat).most - 1) (mineT tb cls) tb.length t ≤ 8000000 := fun t ht => by
          have h1 := (slotF_bound (cap := cap) (lost := (nth z cls.toNat).most - 1) (mine := mineT tb cls) (n := tb.length) (by omega) (by omega) (by omega) t).2
          have h2 := (mulB (a := cap) (b := (t : Int)) (A := 4000) (B := 2000) (by omega) (by omega)).2
          omega
        obtain ⟨s, p, q, e, hfc, _, _⟩ := build_ok (by omega) ⟨i2, by have := hbd (2 * tb.length) (by omega); have := (slotF_bound (cap := cap) (lost := (nth z cls.toNat).most - 1) (mine := mineT tb cls) (n := tb.length) (by omega) (by omega) (by omega) tb.length).1; omega⟩ (by omega) hg (fun t => slotF_mono (by omega) (by omega) t) (slotF_bound (by omega) (by omega) (by omega) 0).1 (fun t ht => by have := hbd t (by omega); omega)
        refine ⟨_, s, p, q, by rw [e0, e], hfc, ?_, fun a d => slotF_le (by omega) a d, fun h => absurd h ha, fun _ => rfl⟩
        have := slotF_bound (cap := cap) (lost := (nth z cls.toNat).most - 1) (mine := mineT tb cls) (n := tb.length) (by omega) (by omega) (by omega) 0
        simp at this; omega
  · have : slotC cap cls tb z = (zcv, chkT cap cls tb z) := if_pos h0
    rw [this] at h
    exact absurd h h0
theorem slot_ok {cap cls : Int} {tb : List Int} {z : List Sz} (h0 : chkT cap cls tb z = 0) (h1 : someT cls tb = true) (h2 : 1 ≤ (nth z cls.toNat).most) (ha : ¬ allT cls tb = true) : (slotC cap cls tb z).2 = 0 := by
  obtain ⟨c1, c2, k1, k2, zl, ⟨t1, t2, _⟩, hz⟩ := chkT_ok h0
  have hzk := hz _ (nth_mem (xs := z) (k := cls.toNat) (by omega))
  have hno : ¬ (someT cls tb = false ∨ (nth z cls.toNat).most < 1) := by
    rintro (h | h)
    · rw [h1] at h; cases h
    · omega
  obtain ⟨b, _, hb⟩ := allT_not ha
  have e0 : slotC cap cls tb z = madeR ⟨fvals (slotF cap ((nth z cls.toNat).most - 1) (mineT tb cls) tb.length) (3 * tb.length + tb.length), tb.length,
    slotF cap ((nth z cls.toNat).most - 1) (mineT tb cls) tb.length (4 * tb.length - 1) - slotF cap ((nth z cls.toNat).most - 1) (mineT tb cls) tb.length (3 * tb.length - 1)⟩ := by unfold slotC; rw [if_neg (fun h => h h0), if_neg hno, if_neg ha]
  obtain ⟨i1, hg, i2, e1⟩ := slot_build (cap := cap) (lost := (nth z cls.toNat).most - 1) (mine := mineT tb cls) (n := tb.length) (by omega) (by omega) (fun i => mineT_per i) (by omega) hb
  rw [← e1] at e0
  have hbd : ∀ t : Nat, t ≤ 2000 → slotF cap ((nth z cls.toNat).most - 1) (mineT tb cls) tb.length t ≤ 8000000 := fun t ht => by
    have h1 := (slotF_bound (cap := cap) (lost := (nth z cls.toNat).most - 1) (mine := mineT tb cls) (n := tb.length) (by omega) (by omega) (by omega) t).2
    have h2 := (mulB (a := cap) (b := (t : Int)) (A := 4000) (B := 2000) (by omega) (by omega)).2
    omega
  obtain ⟨s, p, q, e, hfc, _, _⟩ := build_ok (by omega) ⟨i2, by have := hbd (2 * tb.length) (by omega); have := (slotF_bound (cap := cap) (lost := (nth z cls.toNat).most - 1) (mine := mineT tb cls) (n := tb.length) (by omega) (by omega) (by omega) tb.length).1; omega⟩ (by omega) hg (fun t => slotF_mono (by omega) (by omega) t) (slotF_bound (by omega) (by omega) (by omega) 0).1 (fun t ht => by have := hbd t (by omega); omega)
  rw [e0, e]
/-- the errors that a class may have -/
theorem slot_err {cap cls : Int} {tb : List Int} {z : List Sz} (h0 : chkT cap cls tb z = 0) (h : (slotC cap cls tb z).2 ≠ 0) : (slotC cap cls tb z).2 = 3 ∨ (slotC cap cls tb z).2 = 5 := by
  by_cases h1 : someT cls tb = false ∨ (nth z cls.toNat).most < 1
  · right; unfold slotC; rw [if_neg (fun h => h h0), if_pos h1]
  · left
    by_cases ha : allT cls tb = true
    · by_cases hf : 400 * cap < (nth z cls.toNat).most - 1
      · unfold slotC; rw [if_neg (fun h => h h0), if_neg h1, if_pos ha, if_pos hf]
      · have e0 : slotC cap cls tb z = madeR ⟨fvals (lineF cap ((nth z cls.toNat).most - 1)) 401, 1, cap⟩ := by unfold slotC; rw [if_neg (fun h => h h0), if_neg h1, if_pos ha, if_neg hf]
        rw [e0] at h ⊢
        unfold madeR at h ⊢
        split at h
        · exact absurd rfl h
        · rename_i hv; rw [if_neg hv]
    · exfalso
      refine h (slot_ok h0 ?_ ?_ ha)
      · rw [← Bool.not_eq_false]; exact fun h => h1 (.inl h)
      · apply Classical.byContradiction
        intro hn; exact h1 (.inr (by omega))
end Go.Proofs.Ytnaeefefggmomaa.M

/- A trial. No condition. -/
set_option linter.unusedSimpArgs false
set_option linter.unusedVariables false
namespace Go.Proofs.Ytnaeefefggmomaa
open Go Go.RowKit Go.Proofs.Ytnaeefefggmomaa.K Go.Proofs.Ytnaeefefggmomaa.M

theorem Ints_V {R : Ro} {a b : Option Addr} {ca cb : Nat} {xs ys : List Int} (ha : RS R 1 encI a xs) (hb : RS R 1 encI b ys) :
    FnV Try.prog 37 [.slice a xs.length ca, .slice b ys.length cb] R (.bool (decide (xs = ys))) := by
  have hla := ha.len
  have hlb := hb.len
  refine Fn.toV (fun w0 E => ?_)
  refine Fn.enter (n := 26) Try.func37 rfl rfl (Nat.le_of_ble_eq_true rfl) rfl ?_
  refine W.seq ?_
  refine W.region _ ?_
  refine WG.run tab_ok 1 rfl ?_
  refine WG.nil ?_
  refine WE.nxt ?_
  refine W.seq ?_
  refine W.seq ?_
  refine W.region _ ?_
  refine WG.run tab_ok 5 rfl ?_
  refine WG.nil ?_
  refine WE.nxt ?_
  refine W.condN rfl (fun hc0 => ?_) (fun hc0 => ?_)
  · try dsimp only at hc0
    refine W.seq ?_
    refine W.region _ ?_
    refine WG.run tab_ok 1 rfl ?_
    refine WG.nil ?_
    refine WE.nxt ?_
    refine W.ret ?_
    refine WE.then_ret ?_
    refine WE.retF tab_ok [_] rfl ⟨rfl, trivial⟩ (RLe.refl _) ?_
    exact ⟨congrArg Value.bool (by symm; apply decide_eq_false; rintro rfl; exact hc0 rfl), rfl⟩
  · try dsimp only at hc0
    refine W.skip ?_
    refine WE.nxt ?_
    refine W.seq ?_
    refine W.seq ?_
    refine W.region _ ?_
    refine WG.run tab_ok 1 rfl ?_
    refine WG.nil ?_
    refine WE.nxt ?_
    refine W.block ?_
    refine W.loop (β := Nat) (fun k => k ≤ xs.length ∧ ∀ i, i < k → nth xs i = nth ys i) (fun k => [(0, true, .slice a xs.length ca), (1, true, .slice b ys.length cb), (5, true, .int .i64 k)]) (fun _ => R) (fun _ => E) (fun k => xs.length - k) 0 ⟨Nat.zero_le _, fun i hi => absurd hi (Nat.not_lt_zero i)⟩ ⟨rfl, rfl, rfl, rfl⟩ (RLe.refl _) (List.Sublist.refl _) ?_
    intro st hst
    obtain ⟨hk, hpre⟩ := hst
    refine W.seq ?_
    refine W.seq ?_
    refine W.region _ ?_
    refine WG.run tab_ok 4 rfl ?_
    refine WG.nil ?_
    refine WE.nxt ?_
    refine W.condD rfl (fun hc1 => ?_) (fun hc1 => ?_)
    · try dsimp only at hc1
      refine W.skip ?_
      refine WE.nxt ?_
      refine W.seq ?_
      refine W.block ?_
      refine W.seq ?_
      refine W.regionQ _ mixed (by kernel_rfl) ?_
      refine WG.run tab_ok 2 rfl ?_
      refine WG.y rfl rfl (by decide) (Yl.indexN tab_ok rfl rfl rfl rfl rfl rfl (fun _ => rfl) (by intro _; (try dsimp only) <;> omega) (by intro _; first | exact fun _ _ _ _ => rfl | exact RS.has (by assumption) | exact fun _ _ _ _ => (by assumption) | exact HasMem.ownD 0 rfl | exact HasMem.ownD 1 rfl | exact HasMem.ownD 2 rfl | exact HasMem.ownD 3 rfl | exact HasMem.ownD 4 rfl | exact HasMem.ownD 5 rfl | exact HasMem.ownD 6 rfl | exact HasMem.ownD 7 rfl)) ?_
      refine' WG.y rfl rfl (by decide) (Yl.load1 tab_ok rfl rfl rfl (fun _ => rfl) ?r1 rfl ?h1) ?_
      case r1 => (first | (apply RS.rdD; assumption; ((try dsimp only) <;> omega)) | exact Rd.slD 0 rfl (by (try dsimp only) <;> omega) | exact Rd.slD 1 rfl (by (try dsimp only) <;> omega) | exact Rd.slD 2 rfl (by (try dsimp only) <;> omega) | exact Rd.slD 3 rfl (by (try dsimp only) <;> omega) | exact Rd.slD 4 rfl (by (try dsimp only) <;> omega) | exact Rd.slD 5 rfl (by (try dsimp only) <;> omega) | exact Rd.slD 6 rfl (by (try dsimp only) <;> omega) | exact Rd.slD 7 rfl (by (try dsimp only) <;> omega))
      case h1 => rfl
      refine WG.run tab_ok 2 rfl ?_
      refine WG.y rfl rfl (by decide) (Yl.indexN tab_ok rfl rfl rfl rfl rfl rfl (fun _ => rfl) (by intro _; (try dsimp only) <;> omega) (by intro _; first | exact fun _ _ _ _ => rfl | exact RS.has (by assumption) | exact fun _ _ _ _ => (by assumption) | exact HasMem.ownD 0 rfl | exact HasMem.ownD 1 rfl | exact HasMem.ownD 2 rfl | exact HasMem.ownD 3 rfl | exact HasMem.ownD 4 rfl | exact HasMem.ownD 5 rfl | exact HasMem.ownD 6 rfl | exact HasMem.ownD 7 rfl)) ?_
      refine' WG.y rfl rfl (by decide) (Yl.load1 tab_ok rfl rfl rfl (fun _ => rfl) ?r2 rfl ?h2) ?_
      case r2 => (first | (apply RS.rdD; assumption; ((try dsimp only) <;> omega)) | exact Rd.slD 0 rfl (by (try dsimp only) <;> omega) | exact Rd.slD 1 rfl (by (try dsimp only) <;> omega) | exact Rd.slD 2 rfl (by (try dsimp only) <;> omega) | exact Rd.slD 3 rfl (by (try dsimp only) <;> omega) | exact Rd.slD 4 rfl (by (try dsimp only) <;> omega) | exact Rd.slD 5 rfl (by (try dsimp only) <;> omega) | exact Rd.slD 6 rfl (by (try dsimp only) <;> omega) | exact Rd.slD 7 rfl (by (try dsimp only) <;> omega))
      case h2 => rfl
      refine WG.run tab_ok 1 rfl ?_
      refine WG.nil ?_
      refine WE.nxt ?_
      refine W.condN rfl (fun hc2 => ?_) (fun hc2 => ?_)
      · try dsimp only at hc2
        refine W.seq ?_
        refine W.region _ ?_
        refine WG.run tab_ok 1 rfl ?_
        refine WG.nil ?_
        refine WE.nxt ?_
        refine W.ret ?_
        refine WE.blk_ret ?_
        refine WE.then_ret ?_
        refine WE.then_ret ?_
        refine WE.blk_ret ?_
        refine WE.then_ret ?_
        refine WE.retF tab_ok [_] rfl ⟨rfl, trivial⟩ (RLe.refl _) ?_
        exact ⟨congrArg Value.bool (by symm; apply decide_eq_false; rintro rfl; exact hc2 rfl), rfl⟩
      · try dsimp only at hc2
        refine W.skip ?_
        refine WE.blk _ ?_
        refine WE.nxt ?_
        refine W.region _ ?_
        refine WG.run tab_ok 1 rfl ?_
        refine WG.y rfl rfl (by decide) (Yl.add rfl rfl rfl (fun _ => rfl) (by intro _; constructor <;> (try dsimp only) <;> omega)) ?_
        refine WG.run tab_ok 1 rfl ?_
        refine WG.nil ?_
        refine WE.again (st + 1) ⟨by omega, fun i hi => ?_⟩ (by omega) ⟨rfl, rfl, rfl, rfl⟩ (RLe.refl _) (List.Sublist.refl _)
        rcases Nat.lt_or_ge i st with h | h
        · exact hpre i h
        · obtain rfl : i = st := by omega
          exact hc2
    · try dsimp only at hc1
      refine W.exit ?_
      refine WE.then_exit ?_
      refine WE.then_exit ?_
      refine WE.blk_exit ?_
      refine WE.nxt ?_
      refine W.seq ?_
      refine W.region _ ?_
      refine WG.run tab_ok 1 rfl ?_
      refine WG.nil ?_
      refine WE.nxt ?_
      refine W.ret ?_
      refine WE.retF tab_ok [_] rfl ⟨rfl, trivial⟩ (RLe.refl _) ?_
      exact ⟨congrArg Value.bool (by symm; apply decide_eq_true; exact nth_ext (by omega) (fun i hi => hpre i (by omega))), rfl⟩

end Go.Proofs.Ytnaeefefggmomaa

/- A trial. No condition. -/
set_option linter.unusedSimpArgs false
set_option linter.unusedVariables false
namespace Go.Proofs.Ytnaeefefggmomaa
open Go Go.RowKit Go.Proofs.Ytnaeefefggmomaa.K Go.Proofs.Ytnaeefefggmomaa.M

theorem tmod_gt (x : Int) {n : Int} (h : 0 < n) : -n < x.tmod n := by
  rcases Int.le_total 0 x with h0 | h0
  · have := Int.tmod_nonneg n h0; omega
  · have h1 := Int.neg_tmod (a := x) (b := n)
    have h2 := Int.tmod_lt_of_pos (-x) h
    omega
theorem mod_pos {x n : Int} (h : 1 ≤ n) (hc : ¬ x.tmod n < 0) : x.tmod n = x % n := by
  rw [Int.tmod_eq_emod] at hc ⊢
  split at hc
  · rename_i h1; rw [if_pos h1]; omega
  · rename_i h1
    rw [if_neg h1]
    have := Int.emod_lt_of_pos x (show 0 < n by omega)
    have h2 : (n.natAbs : Int) = n := by omega
    omega
theorem mod_neg {x n : Int} (h : 1 ≤ n) (hc : x.tmod n < 0) : x.tmod n + n = x % n := by
  rw [Int.tmod_eq_emod] at hc ⊢
  split at hc
  · rename_i h1
    have := Int.emod_nonneg x (show n ≠ 0 by omega)
    omega
  · rename_i h1; rw [if_neg h1]
    have h2 : (n.natAbs : Int) = n := by omega
    omega
theorem src_end {b : Nat} {a : Option Addr} {cp : Nat} {xs : List Int} {c : Nat} (h : xs.length ≤ c) : srcE b a cp xs c = srcE b a cp xs (c + 1) := by
  unfold srcE
  rw [show min c xs.length = min (c + 1) xs.length by omega]
theorem src_next {b : Nat} {a : Option Addr} {cp : Nat} {xs : List Int} {c : Nat} (h : c < xs.length) : Ent.blk b [.slice a xs.length cp, .int .i64 (((min c xs.length : Nat) : Int) + 1)] = srcE b a cp xs (c + 1) := by
  unfold srcE
  rw [show ((min c xs.length : Nat) : Int) + 1 = ((min (c + 1) xs.length : Nat) : Int) by omega]

theorem Mod_V {R : Ro} {x n : Int} (hn : InR n) : FnV Try.prog 67 [.int .i64 x, .int .i64 n] R (.int .i64 (mod x n)) := by
  refine Fn.toV (fun w0 E => ?_)
  refine Fn.enter (n := 16) Try.func67 rfl rfl (Nat.le_of_ble_eq_true rfl) rfl ?_
  refine W.seq ?_
  refine W.region _ ?_
  refine WG.run tab_ok 1 rfl ?_
  refine WG.nil ?_
  refine WE.nxt ?_
  refine W.seq ?_
  refine W.seq ?_
  refine W.region _ ?_
  refine WG.run tab_ok 2 rfl ?_
  refine WG.nil ?_
  refine WE.nxt ?_
  refine W.condD rfl (fun hc0 => ?_) (fun hc0 => ?_)
  · try dsimp only at hc0
    refine W.seq ?_
    refine W.region _ ?_
    refine WG.run tab_ok 1 rfl ?_
    refine WG.nil ?_
    refine WE.nxt ?_
    refine W.ret ?_
    refine WE.then_ret ?_
    refine WE.retF tab_ok [_] rfl ⟨rfl, trivial⟩ (RLe.refl _) ?_
    exact ⟨by unfold mod; rw [if_pos hc0]; rfl, rfl⟩
  · try dsimp only at hc0
    refine W.skip ?_
    refine WE.nxt ?_
    refine W.seq ?_
    refine W.region _ ?_
    refine WG.run tab_ok 2 rfl ?_
    refine WG.y rfl rfl (by decide) (Yl.tmod rfl rfl rfl (fun _ => rfl) (by intro _; omega)) ?_
    refine WG.run tab_ok 1 rfl ?_
    refine WG.nil ?_
    refine WE.nxt ?_
    refine W.seq ?_
    refine W.seq ?_
    refine W.region _ ?_
    refine WG.run tab_ok 2 rfl ?_
    refine WG.nil ?_
    refine WE.nxt ?_
    refine W.condD rfl (fun hc1 => ?_) (fun hc1 => ?_)
    · try dsimp only at hc1
      refine W.region _ ?_
      refine WG.run tab_ok 2 rfl ?_
      refine WG.y rfl rfl (by decide) (Yl.add rfl rfl rfl (fun _ => rfl) (by intro _; have h9 := tmod_gt x (show (0 : Int) < n by omega); constructor <;> omega)) ?_
      refine WG.run tab_ok 1 rfl ?_
      refine WG.nil ?_
      refine WE.nxt ?_
      refine W.seq ?_
      refine W.region _ ?_
      refine WG.run tab_ok 2 rfl ?_
      refine WG.nil ?_
      refine WE.nxt ?_
      refine W.ret ?_
      refine WE.retF tab_ok [_] rfl ⟨rfl, trivial⟩ (RLe.refl _) ?_
      refine ⟨congrArg (Value.int .i64) ?_, rfl⟩
      unfold mod; rw [if_neg hc0]; exact mod_neg (by omega) hc1
    · try dsimp only at hc1
      refine W.skip ?_
      refine WE.nxt ?_
      refine W.seq ?_
      refine W.region _ ?_
      refine WG.run tab_ok 2 rfl ?_
      refine WG.nil ?_
      refine WE.nxt ?_
      refine W.ret ?_
      refine WE.retF tab_ok [_] rfl ⟨rfl, trivial⟩ (RLe.refl _) ?_
      refine ⟨congrArg (Value.int .i64) ?_, rfl⟩
      unfold mod; rw [if_neg hc0]; exact mod_pos (by omega) hc1

theorem Raw_C {R : Ro} {b : Nat} {a : Option Addr} {cp : Nat} {xs : List Int} {c : Nat} (w0 : World) (ha : RS R 1 encI a xs) : FnAt Try.prog 68 [.pointer (some ⟨b, 0, none⟩)] w0 R (srcE b a cp xs c) (RdPost (.int .i64 (nth xs c)) R (srcE b a cp xs (c + 1))) := by
  intro F
  have hla := ha.len
  refine Fn.enter (n := 31) Try.func68 rfl rfl (Nat.le_of_ble_eq_true rfl) rfl ?_
  refine W.seq ?_
  refine W.region _ ?_
  refine WG.run tab_ok 1 rfl ?_
  refine WG.nil ?_
  refine WE.nxt ?_
  refine W.seq ?_
  refine W.seq ?_
  refine W.regionQ _ mixed (by kernel_rfl) ?_
  refine WG.run tab_ok 3 rfl ?_
  refine' WG.y rfl rfl (by decide) (Yl.load1 tab_ok rfl rfl rfl (fun _ => rfl) ?r1 rfl ?h1) ?_
  case r1 => apply Rd.add; (first | exact Rd.blk 0 rfl | exact Rd.blk 1 rfl | exact Rd.blk 2 rfl | exact Rd.blk 3 rfl | exact Rd.blk 4 rfl | exact Rd.blk 5 rfl | exact Rd.blk 6 rfl | exact Rd.blk 7 rfl | (apply RS.rdD; assumption; ((try dsimp only) <;> omega)) | exact Rd.slD 0 rfl (by (try dsimp only) <;> omega) | exact Rd.slD 1 rfl (by (try dsimp only) <;> omega) | exact Rd.slD 2 rfl (by (try dsimp only) <;> omega) | exact Rd.slD 3 rfl (by (try dsimp only) <;> omega) | exact Rd.slD 4 rfl (by (try dsimp only) <;> omega) | exact Rd.slD 5 rfl (by (try dsimp only) <;> omega) | exact Rd.slD 6 rfl (by (try dsimp only) <;> omega) | exact Rd.slD 7 rfl (by (try dsimp only) <;> omega))
  case h1 => rfl
  refine WG.run tab_ok 3 rfl ?_
  refine' WG.y rfl rfl (by decide) (Yl.load1 tab_ok rfl rfl rfl (fun _ => rfl) ?r2 rfl ?h2) ?_
  case r2 => apply Rd.add; (first | exact Rd.blk 0 rfl | exact Rd.blk 1 rfl | exact Rd.blk 2 rfl | exact Rd.blk 3 rfl | exact Rd.blk 4 rfl | exact Rd.blk 5 rfl | exact Rd.blk 6 rfl | exact Rd.blk 7 rfl | (apply RS.rdD; assumption; ((try dsimp only) <;> omega)) | exact Rd.slD 0 rfl (by (try dsimp only) <;> omega) | exact Rd.slD 1 rfl (by (try dsimp only) <;> omega) | exact Rd.slD 2 rfl (by (try dsimp only) <;> omega) | exact Rd.slD 3 rfl (by (try dsimp only) <;> omega) | exact Rd.slD 4 rfl (by (try dsimp only) <;> omega) | exact Rd.slD 5 rfl (by (try dsimp only) <;> omega) | exact Rd.slD 6 rfl (by (try dsimp only) <;> omega) | exact Rd.slD 7 rfl (by (try dsimp only) <;> omega))
  case h2 => rfl
  refine WG.run tab_ok 2 rfl ?_
  refine WG.nil ?_
  refine WE.nxt ?_
  refine W.condD rfl (fun hc0 => ?_) (fun hc0 => ?_)
  · try dsimp only at hc0
    refine W.seq ?_
    refine W.region _ ?_
    refine WG.run tab_ok 1 rfl ?_
    refine WG.nil ?_
    refine WE.nxt ?_
    refine W.ret ?_
    refine WE.then_ret ?_
    refine WE.retF tab_ok [_] rfl ⟨rfl, trivial⟩ (RLe.refl _) ?_
    exact ⟨_, [], rfl, by rw [nth_out (by omega)]; rfl, rfl, src_end (by omega), rfl⟩
  · try dsimp only at hc0
    refine W.skip ?_
    refine WE.nxt ?_
    refine W.seq ?_
    refine W.region _ ?_
    refine WG.run tab_ok 3 rfl ?_
    refine' WG.y rfl rfl (by decide) (Yl.load1 tab_ok rfl rfl rfl (fun _ => rfl) ?r3 rfl ?h3) ?_
    case r3 => apply Rd.add; (first | exact Rd.blk 0 rfl | exact Rd.blk 1 rfl | exact Rd.blk 2 rfl | exact Rd.blk 3 rfl | exact Rd.blk 4 rfl | exact Rd.blk 5 rfl | exact Rd.blk 6 rfl | exact Rd.blk 7 rfl | (apply RS.rdD; assumption; ((try dsimp only) <;> omega)) | exact Rd.slD 0 rfl (by (try dsimp only) <;> omega) | exact Rd.slD 1 rfl (by (try dsimp only) <;> omega) | exact Rd.slD 2 rfl (by (try dsimp only) <;> omega) | exact Rd.slD 3 rfl (by (try dsimp only) <;> omega) | exact Rd.slD 4 rfl (by (try dsimp only) <;> omega) | exact Rd.slD 5 rfl (by (try dsimp only) <;> omega) | exact Rd.slD 6 rfl (by (try dsimp only) <;> omega) | exact Rd.slD 7 rfl (by (try dsimp only) <;> omega))
    case h3 => rfl
    refine WG.y rfl rfl (by decide) (Yl.add rfl rfl rfl (fun _ => rfl) (by intro _; constructor <;> (try dsimp only) <;> omega)) ?_
    refine WG.run tab_ok 2 rfl ?_
    first | refine WL.efN rfl rfl (Ef.store 0 tab_ok rfl rfl rfl rfl rfl rfl rfl rfl ?_) | refine WL.efN rfl rfl (Ef.store 1 tab_ok rfl rfl rfl rfl rfl rfl rfl rfl ?_) | refine WL.efN rfl rfl (Ef.store 2 tab_ok rfl rfl rfl rfl rfl rfl rfl rfl ?_) | refine WL.efN rfl rfl (Ef.store 3 tab_ok rfl rfl rfl rfl rfl rfl rfl rfl ?_) | refine WL.efN rfl rfl (Ef.store 4 tab_ok rfl rfl rfl rfl rfl rfl rfl rfl ?_) | refine WL.efN rfl rfl (Ef.store 5 tab_ok rfl rfl rfl rfl rfl rfl rfl rfl ?_) | refine WL.efN rfl rfl (Ef.store 6 tab_ok rfl rfl rfl rfl rfl rfl rfl rfl ?_) | refine WL.efN rfl rfl (Ef.store 7 tab_ok rfl rfl rfl rfl rfl rfl rfl rfl ?_)
    refine WG.nil ?_
    refine WE.nxt ?_
    refine W.seq ?_
    refine W.regionQ _ mixed (by kernel_rfl) ?_
    refine WG.run tab_ok 3 rfl ?_
    refine' WG.y rfl rfl (by decide) (Yl.load1 tab_ok rfl rfl rfl (fun _ => rfl) ?r4 rfl ?h4) ?_
    case r4 => apply Rd.add; (first | exact Rd.blk 0 rfl | exact Rd.blk 1 rfl | exact Rd.blk 2 rfl | exact Rd.blk 3 rfl | exact Rd.blk 4 rfl | exact Rd.blk 5 rfl | exact Rd.blk 6 rfl | exact Rd.blk 7 rfl | (apply RS.rdD; assumption; ((try dsimp only) <;> omega)) | exact Rd.slD 0 rfl (by (try dsimp only) <;> omega) | exact Rd.slD 1 rfl (by (try dsimp only) <;> omega) | exact Rd.slD 2 rfl (by (try dsimp only) <;> omega) | exact Rd.slD 3 rfl (by (try dsimp only) <;> omega) | exact Rd.slD 4 rfl (by (try dsimp only) <;> omega) | exact Rd.slD 5 rfl (by (try dsimp only) <;> omega) | exact Rd.slD 6 rfl (by (try dsimp only) <;> omega) | exact Rd.slD 7 rfl (by (try dsimp only) <;> omega))
    case h4 => rfl
    refine WG.run tab_ok 3 rfl ?_
    refine' WG.y rfl rfl (by decide) (Yl.load1 tab_ok rfl rfl rfl (fun _ => rfl) ?r5 rfl ?h5) ?_
    case r5 => apply Rd.add; (first | exact Rd.blk 0 rfl | exact Rd.blk 1 rfl | exact Rd.blk 2 rfl | exact Rd.blk 3 rfl | exact Rd.blk 4 rfl | exact Rd.blk 5 rfl | exact Rd.blk 6 rfl | exact Rd.blk 7 rfl | (apply RS.rdD; assumption; ((try dsimp only) <;> omega)) | exact Rd.slD 0 rfl (by (try dsimp only) <;> omega) | exact Rd.slD 1 rfl (by (try dsimp only) <;> omega) | exact Rd.slD 2 rfl (by (try dsimp only) <;> omega) | exact Rd.slD 3 rfl (by (try dsimp only) <;> omega) | exact Rd.slD 4 rfl (by (try dsimp only) <;> omega) | exact Rd.slD 5 rfl (by (try dsimp only) <;> omega) | exact Rd.slD 6 rfl (by (try dsimp only) <;> omega) | exact Rd.slD 7 rfl (by (try dsimp only) <;> omega))
    case h5 => rfl
    refine WG.y rfl rfl (by decide) (Yl.sub rfl rfl rfl (fun _ => rfl) (by intro _; constructor <;> (try dsimp only) <;> omega)) ?_
    refine WG.y rfl rfl (by decide) (Yl.index tab_ok rfl rfl rfl rfl rfl rfl (fun _ => rfl) (by intro _; constructor <;> (try dsimp only) <;> omega) (by intro _; first | exact fun _ _ _ _ => rfl | exact RS.has (by assumption) | exact fun _ _ _ _ => (by assumption) | exact HasMem.ownD 0 rfl | exact HasMem.ownD 1 rfl | exact HasMem.ownD 2 rfl | exact HasMem.ownD 3 rfl | exact HasMem.ownD 4 rfl | exact HasMem.ownD 5 rfl | exact HasMem.ownD 6 rfl | exact HasMem.ownD 7 rfl)) ?_
    refine' WG.y rfl rfl (by decide) (Yl.load1 tab_ok rfl rfl rfl (fun _ => rfl) ?r6 rfl ?h6) ?_
    case r6 => (first | (apply RS.rdD; assumption; ((try dsimp only) <;> omega)) | exact Rd.slD 0 rfl (by (try dsimp only) <;> omega) | exact Rd.slD 1 rfl (by (try dsimp only) <;> omega) | exact Rd.slD 2 rfl (by (try dsimp only) <;> omega) | exact Rd.slD 3 rfl (by (try dsimp only) <;> omega) | exact Rd.slD 4 rfl (by (try dsimp only) <;> omega) | exact Rd.slD 5 rfl (by (try dsimp only) <;> omega) | exact Rd.slD 6 rfl (by (try dsimp only) <;> omega) | exact Rd.slD 7 rfl (by (try dsimp only) <;> omega))
    case h6 => rfl
    refine WG.run tab_ok 1 rfl ?_
    refine WG.nil ?_
    refine WE.nxt ?_
    refine W.ret ?_
    refine WE.retF tab_ok [_] rfl ⟨rfl, trivial⟩ (RLe.refl _) ?_
    exact ⟨_, [], rfl, congrArg (fun i => Value.int .i64 (nth xs i)) (show _ = c by omega), rfl, src_next (by omega), rfl⟩

theorem N_C {R : Ro} {b : Nat} {a : Option Addr} {cp : Nat} {xs : List Int} {c : Nat} (w0 : World) {n : Int} (ha : RS R 1 encI a xs) (hn : InR n) : FnAt Try.prog 21 [.pointer (some ⟨b, 0, none⟩), .int .i64 n] w0 R (srcE b a cp xs c) (RdPost (.int .i64 (mod (nth xs c) n)) R (srcE b a cp xs (c + 1))) := by
  intro F
  refine Fn.enter (n := 9) Try.func21 rfl rfl (Nat.le_of_ble_eq_true rfl) rfl ?_
  refine W.seq ?_
  refine W.region _ ?_
  refine WG.run tab_ok 1 rfl ?_
  refine WG.nil ?_
  refine WE.nxt ?_
  refine W.seq ?_
  refine W.region _ ?_
  refine WG.run tab_ok 1 rfl ?_
  refine WL.callAt 0 en68 rfl rfl (by decide) (CallOp.mkT rfl rfl rfl rfl) rfl (Raw_C w0 ha _) ?_
  rintro _ _ _ _ - ⟨rfl, rfl, rfl, rfl⟩
  refine WG.run tab_ok 1 rfl ?_
  refine WG.callV en67 rfl rfl (by decide) (CallOp.mk' rfl rfl rfl rfl) (fun _ => rfl) (fun hg => Mod_V hn) ?_
  refine WG.run tab_ok 1 rfl ?_
  refine WG.nil ?_
  refine WE.nxt ?_
  refine W.ret ?_
  refine WE.retF tab_ok [_] rfl ⟨rfl, trivial⟩ (RLe.refl _) ?_
  exact ⟨_, [], rfl, rfl, rfl, rfl, rfl⟩

theorem Pick_C {R : Ro} {b : Nat} {a : Option Addr} {cp : Nat} {xs : List Int} {c : Nat} (w0 : World) {a2 : Option Addr} {c2 : Nat} {ys : List Int} {j : Nat} {F : List Ent} (ha : RS R 1 encI a xs) (hy : F[j]? = some (.sl 3 1 a2 c2 (ys.map encI))) (hne : 0 < ys.length) (hl : ys.length ≤ 1000000) :
    K.Fn Try.prog 22 [.pointer (some ⟨b, 0, none⟩), .slice a2 ys.length c2] w0 R (srcE b a cp xs c :: F) (fun v R' E' => ∃ e' N, E' = N ++ e' :: F ∧ RdPost (.int .i64 (nth ys (mod (nth xs c) ys.length).toNat)) R (srcE b a cp xs (c + 1)) v R' e' N) := by
  have hr := mod_range (nth xs c) (show (1 : Int) ≤ ys.length by omega)
  refine Fn.enter (n := 12) Try.func22 rfl rfl (Nat.le_of_ble_eq_true rfl) rfl ?_
  refine W.seq ?_
  refine W.region _ ?_
  refine WG.run tab_ok 1 rfl ?_
  refine WG.nil ?_
  refine WE.nxt ?_
  refine W.seq ?_
  refine W.region _ ?_
  refine WG.run tab_ok 4 rfl ?_
  refine WL.callAt 0 en21 rfl rfl (by decide) (CallOp.mkT rfl rfl rfl rfl) rfl (N_C w0 ha (by constructor <;> omega) _) ?_
  rintro _ _ _ _ - ⟨rfl, rfl, rfl, rfl⟩
  refine WG.y rfl rfl (by decide) (Yl.index tab_ok rfl rfl rfl rfl rfl rfl (fun _ => rfl) (by intro _; constructor <;> (try dsimp only) <;> omega) (by intro _; first | exact HasMem.ownD (j + 1) hy | exact fun _ _ _ _ => rfl | exact RS.has (by assumption) | exact fun _ _ _ _ => (by assumption) | exact HasMem.ownD 0 rfl | exact HasMem.ownD 1 rfl | exact HasMem.ownD 2 rfl | exact HasMem.ownD 3 rfl | exact HasMem.ownD 4 rfl | exact HasMem.ownD 5 rfl | exact HasMem.ownD 6 rfl | exact HasMem.ownD 7 rfl)) ?_
  refine' WG.y rfl rfl (by decide) (Yl.load1 tab_ok rfl rfl rfl (fun _ => rfl) ?r1 rfl ?h1) ?_
  case r1 => (first | exact Rd.slD (j + 1) hy (by omega) | (apply RS.rdD; assumption; ((try dsimp only) <;> omega)) | exact Rd.slD 0 rfl (by (try dsimp only) <;> omega) | exact Rd.slD 1 rfl (by (try dsimp only) <;> omega) | exact Rd.slD 2 rfl (by (try dsimp only) <;> omega) | exact Rd.slD 3 rfl (by (try dsimp only) <;> omega) | exact Rd.slD 4 rfl (by (try dsimp only) <;> omega) | exact Rd.slD 5 rfl (by (try dsimp only) <;> omega) | exact Rd.slD 6 rfl (by (try dsimp only) <;> omega) | exact Rd.slD 7 rfl (by (try dsimp only) <;> omega))
  case h1 => rfl
  refine WG.run tab_ok 1 rfl ?_
  refine WG.nil ?_
  refine WE.nxt ?_
  refine W.ret ?_
  refine WE.retF tab_ok [_] rfl ⟨rfl, trivial⟩ (RLe.refl _) ?_
  exact ⟨_, [], rfl, rfl, rfl, rfl, rfl⟩

theorem New_C {R : Ro} {a : Option Addr} {cp : Nat} {l : List Int} (w0 : World) (E : List Ent) (hc : l.length ≤ cp) :
    K.Fn Try.prog 16 [.slice a l.length cp] w0 R E (fun v R' E' => ∃ b, v = .pointer (some ⟨b, 0, none⟩) ∧ R = R' ∧ E' = srcE b a cp (l.take 2000) 0 :: E) := by
  refine Fn.enter (n := 10) Try.func16 rfl rfl (Nat.le_of_ble_eq_true rfl) rfl ?_
  refine W.seq ?_
  refine W.region _ ?_
  refine WG.run tab_ok 1 rfl ?_
  refine WG.nil ?_
  refine WE.nxt ?_
  refine W.seq ?_
  refine W.region _ ?_
  refine WG.run tab_ok 4 rfl ?_
  refine WG.y rfl rfl (by decide) (Yl.sliceH tab_ok rfl rfl rfl rfl rfl (fun _ => rfl) (by intro _; split <;> constructor <;> omega) rfl) ?_
  -- build
  refine WG.y rfl rfl (by decide) (Yl.build (parts := [(0, .tmp 7)]) tab_ok rfl rfl rfl rfl (fun _ => rfl) rfl rfl) ?_
  refine WL.ef rfl rfl (by decide) (Ef.box rfl rfl (fun b9 => ?_))
  refine WG.run tab_ok 1 rfl ?_
  refine WG.nil ?_
  refine WE.nxt ?_
  refine W.ret ?_
  refine WE.retF tab_ok [_] rfl ⟨rfl, trivial⟩ (RLe.refl _) ?_
  refine ⟨_, rfl, rfl, ?_⟩
  unfold srcE
  rw [List.length_take, Nat.min_comm 0, Nat.min_zero]
  have e1 : ((if (2000 : Int) < (l.length : Int) then 2000 else (l.length : Int))).toNat = min 2000 l.length := by split <;> omega
  exact congrArg (fun n => Ent.blk _ [Value.slice a n cp, .int .i64 0] :: E) e1

theorem Pick7_C {R : Ro} {b : Nat} {a : Option Addr} {cp : Nat} {xs : List Int} {c : Nat} (w0 : World) {a2 : Option Addr} {c2 : Nat} {j : Nat} {F : List Ent} (ha : RS R 1 encI a xs) (hy : F[j]? = some (.sl 3 1 a2 c2 ([0, 0, 0, 1, 1, 2, 7].map encI))) :
    K.Fn Try.prog 22 [.pointer (some ⟨b, 0, none⟩), .slice a2 7 c2] w0 R (srcE b a cp xs c :: F) (fun v R' E' => ∃ e' N, E' = N ++ e' :: F ∧ RdPost (.int .i64 (pick7 (mod (nth xs c) 7))) R (srcE b a cp xs (c + 1)) v R' e' N) :=
  Pick_C (ys := [0, 0, 0, 1, 1, 2, 7]) w0 ha hy (by decide) (by decide)

theorem Traffic_C {R : Ro} {b : Nat} {a : Option Addr} {cp : Nat} {xs : List Int} {c : Nat} (w0 : World) {n flows most : Int} (ha : RS R 1 encI a xs) (hn : 0 ≤ n ∧ n ≤ 1000) (hf : InR flows) (hm : 1 ≤ most ∧ most ≤ 1000000) (F : List Ent) :
    K.Fn Try.prog 17 [.pointer (some ⟨b, 0, none⟩), .int .i64 n, .int .i64 flows, .int .i64 most] w0 R (srcE b a cp xs c :: F) (fun v R' E' => ∃ e' N, E' = N ++ e' :: F ∧
      ∃ a2 c2, v = .slice a2 (traffic xs n flows most c).length c2 ∧ R = R' ∧ e' = srcE b a cp xs (c + 1 + 3 * trafficK xs n c) ∧ N = [.sl 62 3 a2 c2 ((traffic xs n flows most c).map encP)]) := by
  have hr := mod_range (nth xs c) (show (1 : Int) ≤ n + 1 by omega)
  have hK : (trafficK xs n c : Int) = mod (nth xs c) (n + 1) := by unfold trafficK; omega
  refine Fn.enter (n := 38) Try.func17 rfl rfl (Nat.le_of_ble_eq_true rfl) rfl ?_
  refine W.seq ?_
  refine W.region _ ?_
  refine WG.run tab_ok 1 rfl ?_
  refine WG.nil ?_
  refine WE.nxt ?_
  refine W.seq ?_
  refine W.region _ ?_
  refine WG.run tab_ok 1 rfl ?_
  refine WG.nil ?_
  refine WE.nxt ?_
  refine W.seq ?_
  refine W.region _ ?_
  refine WG.run tab_ok 1 rfl ?_
  refine WG.nil ?_
  refine WE.nxt ?_
  refine W.seq ?_
  refine W.seq ?_
  refine W.region _ ?_
  refine WG.run tab_ok 2 rfl ?_
  refine WG.y rfl rfl (by decide) (Yl.add rfl rfl rfl (fun _ => rfl) (by intro _; constructor <;> (try dsimp only) <;> omega)) ?_
  refine WL.callAt 0 en21 rfl rfl (by decide) (CallOp.mkT rfl rfl rfl rfl) rfl (N_C w0 ha (by constructor <;> omega) _) ?_
  rintro _ _ _ _ - ⟨rfl, rfl, rfl, rfl⟩
  refine WG.run tab_ok 1 rfl ?_
  refine WG.nil ?_
  refine WE.nxt ?_
  refine W.block ?_
  refine W.nil 62 3 (by decide) ?_
  refine W.loop (β := Nat × Nat × Int × List Pkt × Option Addr × Nat) (fun (k, c1, t, acc, a2, c2) => acc ++ trafficGo xs flows most k c1 t = traffic xs n flows most c ∧ c1 + 3 * k = c + 1 + 3 * trafficK xs n c ∧ 0 ≤ t ∧ t + 7 * k ≤ 7 * trafficK xs n c ∧ acc.length + k = trafficK xs n c) (fun (k, c1, t, acc, a2, c2) => [(0, true, .pointer (some ⟨b, 0, none⟩)), (1, true, .int .i64 n), (2, true, .int .i64 flows), (3, true, .int .i64 most), (9, true, .slice a2 acc.length c2), (10, true, .int .i64 t), (11, true, .int .i64 (k : Int))]) (fun _ => R) (fun (k, c1, t, acc, a2, c2) => .sl 62 3 a2 c2 (acc.map encP) :: srcE b a cp xs c1 :: F) (fun (k, c1, t, acc, a2, c2) => k) ((trafficK xs n c, c + 1, 0, [], none, 0)) (⟨rfl, rfl, Int.le_refl _, by omega, by simp⟩) ⟨rfl, rfl, rfl, rfl, rfl, rfl, vint hK.symm, rfl⟩ (RLe.refl _) (by (repeat (first | exact List.Sublist.refl _ | exact List.nil_sublist _ | apply List.Sublist.cons_cons | apply List.Sublist.cons)); done) ?_
  intro st hst
  obtain ⟨k, c1, t, acc, a2, c2⟩ := st
  obtain ⟨h1, h2, h3, h4, h5⟩ := hst
  dsimp only
  refine W.seq ?_
  refine W.seq ?_
  refine W.region _ ?_
  refine WG.run tab_ok 2 rfl ?_
  refine WG.nil ?_
  refine WE.nxt ?_
  refine W.condD rfl (fun hc0 => ?_) (fun hc0 => ?_)
  · try dsimp only at hc0
    obtain ⟨k, rfl⟩ : ∃ m, k = m + 1 := ⟨k - 1, by omega⟩
    have hr1 := mod_range (nth xs (c1 + 1)) (show (1 : Int) ≤ most by omega)
    have hr2 := pick7_range (mod (nth xs (c1 + 1 + 1)) 7)
    have hr3 := pick7_range (mod (nth xs (c1 + 2)) 7)
    refine W.skip ?_
    refine WE.nxt ?_
    refine W.seq ?_
    refine W.block ?_
    refine W.seq ?_
    refine W.region _ ?_
    refine WG.run tab_ok 3 rfl ?_
    refine WL.callAt 1 en21 rfl rfl (by decide) (CallOp.mkT rfl rfl rfl rfl) rfl (N_C w0 ha hf _) ?_
    rintro _ _ _ _ - ⟨rfl, rfl, rfl, rfl⟩
    refine WG.run tab_ok 3 rfl ?_
    refine WL.callAt 1 en21 rfl rfl (by decide) (CallOp.mkT rfl rfl rfl rfl) rfl (N_C w0 ha (by constructor <;> omega) _) ?_
    rintro _ _ _ _ - ⟨rfl, rfl, rfl, rfl⟩
    refine WG.y rfl rfl (by decide) (Yl.add rfl rfl rfl (fun _ => rfl) (by intro _; constructor <;> (try dsimp only) <;> omega)) ?_
    -- build
    refine WG.y rfl rfl (by decide) (Yl.build (parts := [(0, .tmp 23), (1, .tmp 24), (2, .tmp 28)]) tab_ok rfl rfl rfl rfl (fun _ => rfl) rfl rfl) ?_
    refine WL.ef rfl rfl (by decide) (Ef.buildSliceD (enc := encP) (parts := [.tmp 29]) [⟨_, _, _⟩] tab_ok rfl rfl rfl rfl rfl rfl rfl rfl (by decide) (by decide) (fun a30 => ?_))
    first | refine WL.ef rfl rfl (by decide) (Ef.appendD 1 0 tab_ok rfl rfl rfl rfl rfl rfl rfl rfl rfl rfl rfl (fun _ _ => rfl) (by simp only [List.length_cons, List.length_nil]; omega) (by simp only [List.length_cons, List.length_nil]; omega) (fun a31 c31 ha31 => ?_)) | refine WL.ef rfl rfl (by decide) (Ef.appendD 2 0 tab_ok rfl rfl rfl rfl rfl rfl rfl rfl rfl rfl rfl (fun _ _ => rfl) (by simp only [List.length_cons, List.length_nil]; omega) (by simp only [List.length_cons, List.length_nil]; omega) (fun a31 c31 ha31 => ?_)) | refine WL.ef rfl rfl (by decide) (Ef.appendD 3 0 tab_ok rfl rfl rfl rfl rfl rfl rfl rfl rfl rfl rfl (fun _ _ => rfl) (by simp only [List.length_cons, List.length_nil]; omega) (by simp only [List.length_cons, List.length_nil]; omega) (fun a31 c31 ha31 => ?_)) | refine WL.ef rfl rfl (by decide) (Ef.appendD 4 0 tab_ok rfl rfl rfl rfl rfl rfl rfl rfl rfl rfl rfl (fun _ _ => rfl) (by simp only [List.length_cons, List.length_nil]; omega) (by simp only [List.length_cons, List.length_nil]; omega) (fun a31 c31 ha31 => ?_)) | refine WL.ef rfl rfl (by decide) (Ef.appendD 5 0 tab_ok rfl rfl rfl rfl rfl rfl rfl rfl rfl rfl rfl (fun _ _ => rfl) (by simp only [List.length_cons, List.length_nil]; omega) (by simp only [List.length_cons, List.length_nil]; omega) (fun a31 c31 ha31 => ?_)) | refine WL.ef rfl rfl (by decide) (Ef.appendD 6 0 tab_ok rfl rfl rfl rfl rfl rfl rfl rfl rfl rfl rfl (fun _ _ => rfl) (by simp only [List.length_cons, List.length_nil]; omega) (by simp only [List.length_cons, List.length_nil]; omega) (fun a31 c31 ha31 => ?_)) | refine WL.ef rfl rfl (by decide) (Ef.appendD 7 0 tab_ok rfl rfl rfl rfl rfl rfl rfl rfl rfl rfl rfl (fun _ _ => rfl) (by simp only [List.length_cons, List.length_nil]; omega) (by simp only [List.length_cons, List.length_nil]; omega) (fun a31 c31 ha31 => ?_)) | refine WL.ef rfl rfl (by decide) (Ef.appendR 0 tab_ok rfl rfl rfl rfl rfl rfl rfl rfl rfl rfl (by assumption) (fun _ _ => rfl) (by (try dsimp only); omega) (by omega) (fun a31 c31 ha31 => ?_)) | refine WL.ef rfl rfl (by decide) (Ef.appendR 1 tab_ok rfl rfl rfl rfl rfl rfl rfl rfl rfl rfl (by assumption) (fun _ _ => rfl) (by (try dsimp only); omega) (by omega) (fun a31 c31 ha31 => ?_)) | refine WL.ef rfl rfl (by decide) (Ef.appendR 2 tab_ok rfl rfl rfl rfl rfl rfl rfl rfl rfl rfl (by assumption) (fun _ _ => rfl) (by (try dsimp only); omega) (by omega) (fun a31 c31 ha31 => ?_)) | refine WL.ef rfl rfl (by decide) (Ef.appendR 3 tab_ok rfl rfl rfl rfl rfl rfl rfl rfl rfl rfl (by assumption) (fun _ _ => rfl) (by (try dsimp only); omega) (by omega) (fun a31 c31 ha31 => ?_)) | refine WL.ef rfl rfl (by decide) (Ef.appendR 4 tab_ok rfl rfl rfl rfl rfl rfl rfl rfl rfl rfl (by assumption) (fun _ _ => rfl) (by (try dsimp only); omega) (by omega) (fun a31 c31 ha31 => ?_)) | refine WL.ef rfl rfl (by decide) (Ef.appendR 5 tab_ok rfl rfl rfl rfl rfl rfl rfl rfl rfl rfl (by assumption) (fun _ _ => rfl) (by (try dsimp only); omega) (by omega) (fun a31 c31 ha31 => ?_)) | refine WL.ef rfl rfl (by decide) (Ef.appendR 6 tab_ok rfl rfl rfl rfl rfl rfl rfl rfl rfl rfl (by assumption) (fun _ _ => rfl) (by (try dsimp only); omega) (by omega) (fun a31 c31 ha31 => ?_)) | refine WL.ef rfl rfl (by decide) (Ef.appendR 7 tab_ok rfl rfl rfl rfl rfl rfl rfl rfl rfl rfl (by assumption) (fun _ _ => rfl) (by (try dsimp only); omega) (by omega) (fun a31 c31 ha31 => ?_))
    refine WG.run tab_ok 1 rfl ?_
    refine WG.nil ?_
    refine WE.nxt ?_
    refine W.region _ ?_
    refine WG.run tab_ok 2 rfl ?_
    refine WL.ef rfl rfl (by decide) (Ef.buildSliceD (enc := encI) (parts := [.const (.int .i64 0), .const (.int .i64 0), .const (.int .i64 0), .const (.int .i64 1), .const (.int .i64 1), .const (.int .i64 2), .const (.int .i64 7)]) [_, _, _, _, _, _, _] tab_ok rfl rfl rfl rfl rfl rfl rfl rfl (by decide) (by decide) (fun a34 => ?_))
    refine WL.callAt 3 en22 rfl rfl (by decide) (CallOp.mkT rfl rfl rfl rfl) rfl (Pick7_C (j := 0) w0 ha rfl) ?_
    rintro _ _ _ _ - ⟨rfl, rfl, rfl, rfl⟩
    refine WG.y rfl rfl (by decide) (Yl.add rfl rfl rfl (fun _ => rfl) (by intro _; constructor <;> (try dsimp only) <;> omega)) ?_
    refine WG.run tab_ok 1 rfl ?_
    refine WG.nil ?_
    refine WE.blk _ ?_
    refine WE.nxt ?_
    refine W.region _ ?_
    refine WG.run tab_ok 1 rfl ?_
    refine WG.y rfl rfl (by decide) (Yl.sub rfl rfl rfl (fun _ => rfl) (by intro _; constructor <;> (try dsimp only) <;> omega)) ?_
    refine WG.run tab_ok 1 rfl ?_
    refine WG.nil ?_
    refine WE.again ((k, c1 + 3, t + pick7 (mod (nth xs (c1 + 2)) 7), acc ++ [⟨mod (nth xs c1) flows, t, 1 + mod (nth xs (c1 + 1)) most⟩], a31, c31)) (⟨by dsimp only; rw [← h1]; simp [trafficGo], by dsimp only; omega, by dsimp only; omega, by dsimp only; omega, by simp; omega⟩) (by (try dsimp only); omega) ⟨rfl, rfl, rfl, rfl, rfl, rfl, vint (by omega), rfl⟩ (RLe.refl _) (by (repeat (first | exact List.Sublist.refl _ | exact List.nil_sublist _ | apply List.Sublist.cons_cons | apply List.Sublist.cons)); done)
  · try dsimp only at hc0
    obtain rfl : k = 0 := by omega
    simp only [trafficGo, List.append_nil] at h1
    subst h1
    refine W.exit ?_
    refine WE.then_exit ?_
    refine WE.then_exit ?_
    refine WE.blk_exit ?_
    refine WE.nxt ?_
    refine W.seq ?_
    refine W.region _ ?_
    refine WG.run tab_ok 2 rfl ?_
    refine WG.nil ?_
    refine WE.nxt ?_
    refine W.ret ?_
    refine WE.retF tab_ok [_] rfl ⟨rfl, trivial⟩ (RLe.refl _) ?_
    exact ⟨_, [_], rfl, _, _, rfl, rfl, congrArg (srcE b a cp xs) (by omega), rfl⟩

end Go.Proofs.Ytnaeefefggmomaa

/- A trial. No condition. -/
set_option linter.unusedSimpArgs false
set_option linter.unusedVariables false
namespace Go.Proofs.Ytnaeefefggmomaa
open Go Go.RowKit Go.Proofs.Ytnaeefefggmomaa.K Go.Proofs.Ytnaeefefggmomaa.M

theorem Validate_V {R : Ro} {a : Option Addr} {c : Nat} {ps : List Pkt} (ha : RS R 3 encP a ps) : FnV Try.prog 70 [.slice a ps.length c] R (.int .i64 (validate ps)) := by
  have hla := ha.len
  refine Fn.toV (fun w0 E => ?_)
  refine Fn.enter (n := 50) Try.func70 rfl rfl (Nat.le_of_ble_eq_true rfl) rfl ?_
  refine W.seq ?_
  refine W.region _ ?_
  refine WG.run tab_ok 1 rfl ?_
  refine WG.nil ?_
  refine WE.nxt ?_
  refine W.seq ?_
  refine W.seq ?_
  refine W.region _ ?_
  refine WG.run tab_ok 3 rfl ?_
  refine WG.nil ?_
  refine WE.nxt ?_
  refine W.condD rfl (fun hc0 => ?_) (fun hc0 => ?_)
  · try dsimp only at hc0
    refine W.seq ?_
    refine W.region _ ?_
    refine WG.run tab_ok 1 rfl ?_
    refine WG.nil ?_
    refine WE.nxt ?_
    refine W.ret ?_
    refine WE.then_ret ?_
    refine WE.subE (E' := E) (by (repeat (first | exact List.Sublist.refl _ | exact List.nil_sublist _ | apply List.Sublist.cons_cons | apply List.Sublist.cons)); done) ?_
    refine WE.retF tab_ok [_] rfl ⟨rfl, trivial⟩ (RLe.refl _) ?_
    exact ⟨by unfold validate; rw [if_pos (show 60 < ps.length by omega)]; rfl, rfl⟩
  · try dsimp only at hc0
    refine W.skip ?_
    refine WE.nxt ?_
    refine W.seq ?_
    refine W.region _ ?_
    refine WG.run tab_ok 1 rfl ?_
    refine WG.nil ?_
    refine WE.nxt ?_
    refine W.seq ?_
    refine W.seq ?_
    refine W.region _ ?_
    refine WG.run tab_ok 3 rfl ?_
    refine WG.nil ?_
    refine WE.nxt ?_
    refine W.block ?_
    refine W.loop (β := Nat × Int) (fun (k, last) => k ≤ ps.length ∧ valGo last (ps.drop k) = valGo 0 ps) (fun (k, last) => [(0, true, .slice a ps.length c), (3, true, .int .i64 last), (9, true, .slice a ps.length c), (10, true, .int .i64 ps.length), (11, true, .int .i64 (k : Int))]) (fun _ => R) (fun _ => E) (fun (k, last) => ps.length - k) ((0, 0)) (⟨Nat.zero_le _, rfl⟩) ⟨rfl, rfl, rfl, rfl, rfl, rfl⟩ (RLe.refl _) (by (repeat (first | exact List.Sublist.refl _ | exact List.nil_sublist _ | apply List.Sublist.cons_cons | apply List.Sublist.cons)); done) ?_
    intro st hst
    obtain ⟨k, last⟩ := st
    obtain ⟨hk, hv⟩ := hst
    dsimp only
    refine W.seq ?_
    refine W.region _ ?_
    refine WG.run tab_ok 1 rfl ?_
    refine WG.nil ?_
    refine WE.nxt ?_
    refine W.seq ?_
    refine W.condD rfl (fun hc1 => ?_) (fun hc1 => ?_)
    · try dsimp only at hc1
      have hd := drop_nth (xs := ps) (k := k) (by omega)
      rw [hd, valGo] at hv
      refine W.skip ?_
      refine WE.nxt ?_
      refine W.seq ?_
      refine W.block ?_
      refine W.seq ?_
      refine W.region _ ?_
      refine WG.y rfl rfl (by decide) (Yl.indexN tab_ok rfl rfl rfl rfl rfl rfl (fun _ => rfl) (by intro _; (try dsimp only) <;> omega) (by intro _; first | exact fun _ _ _ _ => rfl | exact RS.has (by assumption) | exact fun _ _ _ _ => (by assumption) | exact HasMem.ownD 0 rfl | exact HasMem.ownD 1 rfl | exact HasMem.ownD 2 rfl | exact HasMem.ownD 3 rfl | exact HasMem.ownD 4 rfl | exact HasMem.ownD 5 rfl | exact HasMem.ownD 6 rfl | exact HasMem.ownD 7 rfl)) ?_
      refine' WG.y rfl rfl (by decide) (Yl.load1 tab_ok rfl rfl rfl (fun _ => rfl) ?r1 rfl ?h1) ?_
      case r1 => (first | (apply RS.rdD; assumption; ((try dsimp only) <;> omega)) | exact Rd.slD 0 rfl (by (try dsimp only) <;> omega) | exact Rd.slD 1 rfl (by (try dsimp only) <;> omega) | exact Rd.slD 2 rfl (by (try dsimp only) <;> omega) | exact Rd.slD 3 rfl (by (try dsimp only) <;> omega) | exact Rd.slD 4 rfl (by (try dsimp only) <;> omega) | exact Rd.slD 5 rfl (by (try dsimp only) <;> omega) | exact Rd.slD 6 rfl (by (try dsimp only) <;> omega) | exact Rd.slD 7 rfl (by (try dsimp only) <;> omega))
      case h1 => rfl
      refine WL.ef rfl rfl (by decide) (Ef.alloc tab_ok rfl rfl (fun b5 => ?_))
      first | refine WL.efN rfl rfl (Ef.store0 0 tab_ok rfl rfl rfl rfl rfl rfl rfl rfl ?_) | refine WL.efN rfl rfl (Ef.store0 1 tab_ok rfl rfl rfl rfl rfl rfl rfl rfl ?_) | refine WL.efN rfl rfl (Ef.store0 2 tab_ok rfl rfl rfl rfl rfl rfl rfl rfl ?_) | refine WL.efN rfl rfl (Ef.store0 3 tab_ok rfl rfl rfl rfl rfl rfl rfl rfl ?_) | refine WL.efN rfl rfl (Ef.store0 4 tab_ok rfl rfl rfl rfl rfl rfl rfl rfl ?_) | refine WL.efN rfl rfl (Ef.store0 5 tab_ok rfl rfl rfl rfl rfl rfl rfl rfl ?_) | refine WL.efN rfl rfl (Ef.store0 6 tab_ok rfl rfl rfl rfl rfl rfl rfl rfl ?_) | refine WL.efN rfl rfl (Ef.store0 7 tab_ok rfl rfl rfl rfl rfl rfl rfl rfl ?_)
      refine WG.nil ?_
      refine WE.nxt ?_
      refine W.seq ?_
      refine W.seq ?_
      refine W.region _ ?_
      refine WG.run tab_ok 1 rfl ?_
      refine' WG.y rfl rfl (by decide) (Yl.load1 tab_ok rfl rfl rfl (fun _ => rfl) ?r2 rfl ?h2) ?_
      case r2 => apply Rd.add; (first | exact Rd.blk 0 rfl | exact Rd.blk 1 rfl | exact Rd.blk 2 rfl | exact Rd.blk 3 rfl | exact Rd.blk 4 rfl | exact Rd.blk 5 rfl | exact Rd.blk 6 rfl | exact Rd.blk 7 rfl)
      case h2 => rfl
      refine WG.run tab_ok 2 rfl ?_
      refine WG.y rfl rfl (by decide) (pureV_ok tab_ok rfl (by first | exact fun _ => rfl | exact fun h => h | (intro h; simp_all))) ?_
      refine' WG.y rfl rfl (by decide) (Yl.loadG tab_ok rfl rfl rfl (by first | exact fun _ => rfl | exact fun h => h | (intro h; simp_all)) ?r3 rfl ?h3 ?g3) ?_
      case r3 => apply Rd.addC; (first | exact Rd.blkC 0 rfl | exact Rd.blkC 1 rfl | exact Rd.blkC 2 rfl | exact Rd.blkC 3 rfl | exact Rd.blkC 4 rfl | exact Rd.blkC 5 rfl | exact Rd.blkC 6 rfl | exact Rd.blkC 7 rfl)
      case h3 => rfl
      case g3 => first | exact fun _ => trivial | (intro hg; (try simp only [decide_eq_true_eq, decide_eq_false_iff_not, beq_iff_eq, bne_iff_ne, beq_eq_false_iff_ne, bne_eq_false_iff_eq, ne_eq, Bool.or_eq_true, Bool.or_eq_false_iff, Bool.and_eq_true, Bool.and_eq_false_imp, Bool.not_eq_true, Bool.not_eq_true', Bool.not_eq_false', Classical.not_not, Int.not_lt, Int.not_le, gt_iff_lt, ge_iff_le] at hg); (try dsimp only); omega)
      refine WG.y rfl rfl (by decide) (pureV_ok tab_ok rfl (by first | exact fun _ => rfl | exact fun h => h | (intro h; simp_all))) ?_
      refine WG.y rfl rfl (by decide) (Yl.por rfl rfl rfl (fun _ => rfl) (by intro h1 h2; simp_all <;> omega)) ?_
      refine WG.run tab_ok 1 rfl ?_
      refine WG.y rfl rfl (by decide) (pureV_ok tab_ok rfl (by first | exact fun _ => rfl | exact fun h => h | (intro h; simp_all))) ?_
      refine' WG.y rfl rfl (by decide) (Yl.loadG tab_ok rfl rfl rfl (by first | exact fun _ => rfl | exact fun h => h | (intro h; simp_all)) ?r4 rfl ?h4 ?g4) ?_
      case r4 => apply Rd.addC; (first | exact Rd.blkC 0 rfl | exact Rd.blkC 1 rfl | exact Rd.blkC 2 rfl | exact Rd.blkC 3 rfl | exact Rd.blkC 4 rfl | exact Rd.blkC 5 rfl | exact Rd.blkC 6 rfl | exact Rd.blkC 7 rfl)
      case h4 => rfl
      case g4 => first | exact fun _ => trivial | (intro hg; (try simp only [decide_eq_true_eq, decide_eq_false_iff_not, beq_iff_eq, bne_iff_ne, beq_eq_false_iff_ne, bne_eq_false_iff_eq, ne_eq, Bool.or_eq_true, Bool.or_eq_false_iff, Bool.and_eq_true, Bool.and_eq_false_imp, Bool.not_eq_true, Bool.not_eq_true', Bool.not_eq_false', Classical.not_not, Int.not_lt, Int.not_le, gt_iff_lt, ge_iff_le] at hg); (try dsimp only); omega)
      refine WG.y rfl rfl (by decide) (pureV_ok tab_ok rfl (by first | exact fun _ => rfl | exact fun h => h | (intro h; simp_all))) ?_
      refine WG.y rfl rfl (by decide) (Yl.por rfl rfl rfl (fun _ => rfl) (by intro h1 h2; simp_all <;> omega)) ?_
      refine WG.run tab_ok 1 rfl ?_
      refine WG.y rfl rfl (by decide) (pureV_ok tab_ok rfl (by first | exact fun _ => rfl | exact fun h => h | (intro h; simp_all))) ?_
      refine' WG.y rfl rfl (by decide) (Yl.loadG tab_ok rfl rfl rfl (by first | exact fun _ => rfl | exact fun h => h | (intro h; simp_all)) ?r5 rfl ?h5 ?g5) ?_
      case r5 => apply Rd.addC; (first | exact Rd.blkC 0 rfl | exact Rd.blkC 1 rfl | exact Rd.blkC 2 rfl | exact Rd.blkC 3 rfl | exact Rd.blkC 4 rfl | exact Rd.blkC 5 rfl | exact Rd.blkC 6 rfl | exact Rd.blkC 7 rfl)
      case h5 => rfl
      case g5 => first | exact fun _ => trivial | (intro hg; (try simp only [decide_eq_true_eq, decide_eq_false_iff_not, beq_iff_eq, bne_iff_ne, beq_eq_false_iff_ne, bne_eq_false_iff_eq, ne_eq, Bool.or_eq_true, Bool.or_eq_false_iff, Bool.and_eq_true, Bool.and_eq_false_imp, Bool.not_eq_true, Bool.not_eq_true', Bool.not_eq_false', Classical.not_not, Int.not_lt, Int.not_le, gt_iff_lt, ge_iff_le] at hg); (try dsimp only); omega)
      refine WG.y rfl rfl (by decide) (pureV_ok tab_ok rfl (by first | exact fun _ => rfl | exact fun h => h | (intro h; simp_all))) ?_
      refine WG.y rfl rfl (by decide) (Yl.por rfl rfl rfl (fun _ => rfl) (by intro h1 h2; simp_all <;> omega)) ?_
      refine WG.run tab_ok 1 rfl ?_
      refine WG.y rfl rfl (by decide) (pureV_ok tab_ok rfl (by first | exact fun _ => rfl | exact fun h => h | (intro h; simp_all))) ?_
      refine' WG.y rfl rfl (by decide) (Yl.loadG tab_ok rfl rfl rfl (by first | exact fun _ => rfl | exact fun h => h | (intro h; simp_all)) ?r6 rfl ?h6 ?g6) ?_
      case r6 => apply Rd.addC; (first | exact Rd.blkC 0 rfl | exact Rd.blkC 1 rfl | exact Rd.blkC 2 rfl | exact Rd.blkC 3 rfl | exact Rd.blkC 4 rfl | exact Rd.blkC 5 rfl | exact Rd.blkC 6 rfl | exact Rd.blkC 7 rfl)
      case h6 => rfl
      case g6 => first | exact fun _ => trivial | (intro hg; (try simp only [decide_eq_true_eq, decide_eq_false_iff_not, beq_iff_eq, bne_iff_ne, beq_eq_false_iff_ne, bne_eq_false_iff_eq, ne_eq, Bool.or_eq_true, Bool.or_eq_false_iff, Bool.and_eq_true, Bool.and_eq_false_imp, Bool.not_eq_true, Bool.not_eq_true', Bool.not_eq_false', Classical.not_not, Int.not_lt, Int.not_le, gt_iff_lt, ge_iff_le] at hg); (try dsimp only); omega)
      refine WG.y rfl rfl (by decide) (pureV_ok tab_ok rfl (by first | exact fun _ => rfl | exact fun h => h | (intro h; simp_all))) ?_
      refine WG.y rfl rfl (by decide) (Yl.por rfl rfl rfl (fun _ => rfl) (by intro h1 h2; simp_all <;> omega)) ?_
      refine WG.run tab_ok 1 rfl ?_
      refine WG.y rfl rfl (by decide) (pureV_ok tab_ok rfl (by first | exact fun _ => rfl | exact fun h => h | (intro h; simp_all))) ?_
      refine' WG.y rfl rfl (by decide) (Yl.loadG tab_ok rfl rfl rfl (by first | exact fun _ => rfl | exact fun h => h | (intro h; simp_all)) ?r7 rfl ?h7 ?g7) ?_
      case r7 => apply Rd.addC; (first | exact Rd.blkC 0 rfl | exact Rd.blkC 1 rfl | exact Rd.blkC 2 rfl | exact Rd.blkC 3 rfl | exact Rd.blkC 4 rfl | exact Rd.blkC 5 rfl | exact Rd.blkC 6 rfl | exact Rd.blkC 7 rfl)
      case h7 => rfl
      case g7 => first | exact fun _ => trivial | (intro hg; (try simp only [decide_eq_true_eq, decide_eq_false_iff_not, beq_iff_eq, bne_iff_ne, beq_eq_false_iff_ne, bne_eq_false_iff_eq, ne_eq, Bool.or_eq_true, Bool.or_eq_false_iff, Bool.and_eq_true, Bool.and_eq_false_imp, Bool.not_eq_true, Bool.not_eq_true', Bool.not_eq_false', Classical.not_not, Int.not_lt, Int.not_le, gt_iff_lt, ge_iff_le] at hg); (try dsimp only); omega)
      refine WG.y rfl rfl (by decide) (pureV_ok tab_ok rfl (by first | exact fun _ => rfl | exact fun h => h | (intro h; simp_all))) ?_
      refine WG.y rfl rfl (by decide) (Yl.por rfl rfl rfl (fun _ => rfl) (by intro h1 h2; simp_all <;> omega)) ?_
      refine WG.nil ?_
      refine WE.nxt ?_
      refine W.cond rfl (fun hc2 => ?_) (fun hc2 => ?_)
      · try simp only [decide_eq_true_eq, decide_eq_false_iff_not, beq_iff_eq, bne_iff_ne, beq_eq_false_iff_ne, bne_eq_false_iff_eq, ne_eq, Bool.or_eq_true, Bool.or_eq_false_iff, Bool.and_eq_true, Bool.and_eq_false_imp, Bool.not_eq_true, Bool.not_eq_true', Bool.not_eq_false', Classical.not_not, Int.not_lt, Int.not_le, gt_iff_lt, ge_iff_le] at hc2
        rw [if_pos (show BadP (nth ps k) by unfold BadP; omega)] at hv
        refine W.seq ?_
        refine W.region _ ?_
        refine WG.run tab_ok 1 rfl ?_
        refine WG.nil ?_
        refine WE.nxt ?_
        refine W.ret ?_
        refine WE.then_ret ?_
        refine WE.blk_ret ?_
        refine WE.then_ret ?_
        refine WE.then_ret ?_
        refine WE.blk_ret ?_
        refine WE.then_ret ?_
        refine WE.subE (E' := E) (by (repeat (first | exact List.Sublist.refl _ | exact List.nil_sublist _ | apply List.Sublist.cons_cons | apply List.Sublist.cons)); done) ?_
        refine WE.retF tab_ok [_] rfl ⟨rfl, trivial⟩ (RLe.refl _) ?_
        exact ⟨by unfold validate; rw [if_neg (show ¬ 60 < ps.length by omega), ← hv]; rfl, rfl⟩
      · try simp only [decide_eq_true_eq, decide_eq_false_iff_not, beq_iff_eq, bne_iff_ne, beq_eq_false_iff_ne, bne_eq_false_iff_eq, ne_eq, Bool.or_eq_true, Bool.or_eq_false_iff, Bool.and_eq_true, Bool.and_eq_false_imp, Bool.not_eq_true, Bool.not_eq_true', Bool.not_eq_false', Classical.not_not, Int.not_lt, Int.not_le, gt_iff_lt, ge_iff_le] at hc2
        rw [if_neg (show ¬ BadP (nth ps k) by unfold BadP; omega)] at hv
        refine W.skip ?_
        refine WE.nxt ?_
        refine W.seq ?_
        refine W.seq ?_
        refine W.region _ ?_
        refine WG.run tab_ok 1 rfl ?_
        refine' WG.y rfl rfl (by decide) (Yl.load1 tab_ok rfl rfl rfl (fun _ => rfl) ?r8 rfl ?h8) ?_
        case r8 => apply Rd.add; (first | exact Rd.blk 0 rfl | exact Rd.blk 1 rfl | exact Rd.blk 2 rfl | exact Rd.blk 3 rfl | exact Rd.blk 4 rfl | exact Rd.blk 5 rfl | exact Rd.blk 6 rfl | exact Rd.blk 7 rfl)
        case h8 => rfl
        refine WG.run tab_ok 2 rfl ?_
        refine WG.nil ?_
        refine WE.nxt ?_
        refine W.condD rfl (fun hc3 => ?_) (fun hc3 => ?_)
        · try dsimp only at hc3
          rw [if_pos hc3] at hv
          refine W.seq ?_
          refine W.region _ ?_
          refine WG.run tab_ok 1 rfl ?_
          refine WG.nil ?_
          refine WE.nxt ?_
          refine W.ret ?_
          refine WE.then_ret ?_
          refine WE.blk_ret ?_
          refine WE.then_ret ?_
          refine WE.then_ret ?_
          refine WE.blk_ret ?_
          refine WE.then_ret ?_
          refine WE.subE (E' := E) (by (repeat (first | exact List.Sublist.refl _ | exact List.nil_sublist _ | apply List.Sublist.cons_cons | apply List.Sublist.cons)); done) ?_
          refine WE.retF tab_ok [_] rfl ⟨rfl, trivial⟩ (RLe.refl _) ?_
          exact ⟨by unfold validate; rw [if_neg (show ¬ 60 < ps.length by omega), ← hv]; rfl, rfl⟩
        · try dsimp only at hc3
          rw [if_neg hc3] at hv
          refine W.skip ?_
          refine WE.nxt ?_
          refine W.region _ ?_
          refine WG.run tab_ok 1 rfl ?_
          refine' WG.y rfl rfl (by decide) (Yl.load1 tab_ok rfl rfl rfl (fun _ => rfl) ?r9 rfl ?h9) ?_
          case r9 => apply Rd.add; (first | exact Rd.blk 0 rfl | exact Rd.blk 1 rfl | exact Rd.blk 2 rfl | exact Rd.blk 3 rfl | exact Rd.blk 4 rfl | exact Rd.blk 5 rfl | exact Rd.blk 6 rfl | exact Rd.blk 7 rfl)
          case h9 => rfl
          refine WG.run tab_ok 1 rfl ?_
          refine WG.nil ?_
          refine WE.blk _ ?_
          refine WE.nxt ?_
          refine W.region _ ?_
          refine WG.y rfl rfl (by decide) (Yl.add rfl rfl rfl (fun _ => rfl) (by intro _; constructor <;> (try dsimp only) <;> omega)) ?_
          refine WG.run tab_ok 1 rfl ?_
          refine WG.nil ?_
          refine WE.again ((k + 1, (nth ps k).time)) (⟨by dsimp only; omega, hv⟩) (by (try dsimp only); omega) ⟨rfl, rfl, rfl, rfl, rfl, rfl⟩ (RLe.refl _) (by (repeat (first | exact List.Sublist.refl _ | exact List.nil_sublist _ | apply List.Sublist.cons_cons | apply List.Sublist.cons)); done)
    · try dsimp only at hc1
      obtain rfl : k = ps.length := by omega
      simp only [List.drop_length, valGo] at hv
      refine W.exit ?_
      refine WE.then_exit ?_
      refine WE.then_exit ?_
      refine WE.blk_exit ?_
      refine WE.nxt ?_
      refine W.seq ?_
      refine W.region _ ?_
      refine WG.run tab_ok 1 rfl ?_
      refine WG.nil ?_
      refine WE.nxt ?_
      refine W.ret ?_
      refine WE.subE (E' := E) (by (repeat (first | exact List.Sublist.refl _ | exact List.nil_sublist _ | apply List.Sublist.cons_cons | apply List.Sublist.cons)); done) ?_
      refine WE.retF tab_ok [_] rfl ⟨rfl, trivial⟩ (RLe.refl _) ?_
      exact ⟨by unfold validate; rw [if_neg (show ¬ 60 < ps.length by omega), ← hv]; rfl, rfl⟩

theorem ValidateR_V {R : Ro} {a : Option Addr} {c : Nat} {ps : List Pkt} (ha : RS R 3 encP a ps) : FnV Try.prog 136 [.slice a ps.length c] R (.int .i64 (validate ps)) := by
  have hla := ha.len
  refine Fn.toV (fun w0 E => ?_)
  refine Fn.enter (n := 59) Try.func136 rfl rfl (Nat.le_of_ble_eq_true rfl) rfl ?_
  refine W.seq ?_
  refine W.region _ ?_
  refine WG.run tab_ok 1 rfl ?_
  refine WG.nil ?_
  refine WE.nxt ?_
  refine W.seq ?_
  refine W.seq ?_
  refine W.region _ ?_
  refine WG.run tab_ok 3 rfl ?_
  refine WG.nil ?_
  refine WE.nxt ?_
  refine W.condD rfl (fun hc0 => ?_) (fun hc0 => ?_)
  · try dsimp only at hc0
    refine W.seq ?_
    refine W.region _ ?_
    refine WG.run tab_ok 1 rfl ?_
    refine WG.nil ?_
    refine WE.nxt ?_
    refine W.ret ?_
    refine WE.then_ret ?_
    refine WE.subE (E' := E) (by (repeat (first | exact List.Sublist.refl _ | exact List.nil_sublist _ | apply List.Sublist.cons_cons | apply List.Sublist.cons)); done) ?_
    refine WE.retF tab_ok [_] rfl ⟨rfl, trivial⟩ (RLe.refl _) ?_
    exact ⟨by unfold validate; rw [if_pos (show 60 < ps.length by omega)]; rfl, rfl⟩
  · try dsimp only at hc0
    refine W.skip ?_
    refine WE.nxt ?_
    refine W.seq ?_
    refine W.seq ?_
    refine W.region _ ?_
    refine WG.run tab_ok 1 rfl ?_
    refine WG.nil ?_
    refine WE.nxt ?_
    refine W.block ?_
    refine W.loop (β := Nat) (fun k => k ≤ ps.length ∧ valGo (if k = 0 then 0 else (nth ps (k - 1)).time) (ps.drop k) = valGo 0 ps) (fun k => [(0, true, .slice a ps.length c), (3, true, .int .i64 (k : Int))]) (fun _ => R) (fun _ => E) (fun k => ps.length - k) (0) (⟨Nat.zero_le _, rfl⟩) ⟨rfl, rfl, rfl⟩ (RLe.refl _) (by (repeat (first | exact List.Sublist.refl _ | exact List.nil_sublist _ | apply List.Sublist.cons_cons | apply List.Sublist.cons)); done) ?_
    intro st hst
    obtain ⟨hk, hv⟩ := hst
    have hk0 : st ≠ 0 → ((st : Int) - 1).toNat = st - 1 := by omega
    refine W.seq ?_
    refine W.seq ?_
    refine W.region _ ?_
    refine WG.run tab_ok 4 rfl ?_
    refine WG.nil ?_
    refine WE.nxt ?_
    refine W.condD rfl (fun hc1 => ?_) (fun hc1 => ?_)
    · try dsimp only at hc1
      have hd := drop_nth (xs := ps) (k := st) (by omega)
      rw [hd, valGo] at hv
      refine W.skip ?_
      refine WE.nxt ?_
      refine W.seq ?_
      refine W.block ?_
      refine W.seq ?_
      refine W.region _ ?_
      refine WG.run tab_ok 2 rfl ?_
      refine WG.y rfl rfl (by decide) (Yl.indexN tab_ok rfl rfl rfl rfl rfl rfl (fun _ => rfl) (by intro _; (try dsimp only) <;> omega) (by intro _; first | exact fun _ _ _ _ => rfl | exact RS.has (by assumption) | exact fun _ _ _ _ => (by assumption) | exact HasMem.ownD 0 rfl | exact HasMem.ownD 1 rfl | exact HasMem.ownD 2 rfl | exact HasMem.ownD 3 rfl | exact HasMem.ownD 4 rfl | exact HasMem.ownD 5 rfl | exact HasMem.ownD 6 rfl | exact HasMem.ownD 7 rfl)) ?_
      refine' WG.y rfl rfl (by decide) (Yl.load1 tab_ok rfl rfl rfl (fun _ => rfl) ?r1 rfl ?h1) ?_
      case r1 => (first | (apply RS.rdD; assumption; ((try dsimp only) <;> omega)) | exact Rd.slD 0 rfl (by (try dsimp only) <;> omega) | exact Rd.slD 1 rfl (by (try dsimp only) <;> omega) | exact Rd.slD 2 rfl (by (try dsimp only) <;> omega) | exact Rd.slD 3 rfl (by (try dsimp only) <;> omega) | exact Rd.slD 4 rfl (by (try dsimp only) <;> omega) | exact Rd.slD 5 rfl (by (try dsimp only) <;> omega) | exact Rd.slD 6 rfl (by (try dsimp only) <;> omega) | exact Rd.slD 7 rfl (by (try dsimp only) <;> omega))
      case h1 => rfl
      refine WL.ef rfl rfl (by decide) (Ef.alloc tab_ok rfl rfl (fun b4 => ?_))
      first | refine WL.efN rfl rfl (Ef.store0 0 tab_ok rfl rfl rfl rfl rfl rfl rfl rfl ?_) | refine WL.efN rfl rfl (Ef.store0 1 tab_ok rfl rfl rfl rfl rfl rfl rfl rfl ?_) | refine WL.efN rfl rfl (Ef.store0 2 tab_ok rfl rfl rfl rfl rfl rfl rfl rfl ?_) | refine WL.efN rfl rfl (Ef.store0 3 tab_ok rfl rfl rfl rfl rfl rfl rfl rfl ?_) | refine WL.efN rfl rfl (Ef.store0 4 tab_ok rfl rfl rfl rfl rfl rfl rfl rfl ?_) | refine WL.efN rfl rfl (Ef.store0 5 tab_ok rfl rfl rfl rfl rfl rfl rfl rfl ?_) | refine WL.efN rfl rfl (Ef.store0 6 tab_ok rfl rfl rfl rfl rfl rfl rfl rfl ?_) | refine WL.efN rfl rfl (Ef.store0 7 tab_ok rfl rfl rfl rfl rfl rfl rfl rfl ?_)
      refine WG.nil ?_
      refine WE.nxt ?_
      refine W.seq ?_
      refine W.seq ?_
      refine W.region _ ?_
      refine WG.run tab_ok 1 rfl ?_
      refine' WG.y rfl rfl (by decide) (Yl.load1 tab_ok rfl rfl rfl (fun _ => rfl) ?r2 rfl ?h2) ?_
      case r2 => apply Rd.add; (first | exact Rd.blk 0 rfl | exact Rd.blk 1 rfl | exact Rd.blk 2 rfl | exact Rd.blk 3 rfl | exact Rd.blk 4 rfl | exact Rd.blk 5 rfl | exact Rd.blk 6 rfl | exact Rd.blk 7 rfl)
      case h2 => rfl
      refine WG.run tab_ok 2 rfl ?_
      refine WG.y rfl rfl (by decide) (pureV_ok tab_ok rfl (by first | exact fun _ => rfl | exact fun h => h | (intro h; simp_all))) ?_
      refine' WG.y rfl rfl (by decide) (Yl.loadG tab_ok rfl rfl rfl (by first | exact fun _ => rfl | exact fun h => h | (intro h; simp_all)) ?r3 rfl ?h3 ?g3) ?_
      case r3 => apply Rd.addC; (first | exact Rd.blkC 0 rfl | exact Rd.blkC 1 rfl | exact Rd.blkC 2 rfl | exact Rd.blkC 3 rfl | exact Rd.blkC 4 rfl | exact Rd.blkC 5 rfl | exact Rd.blkC 6 rfl | exact Rd.blkC 7 rfl)
      case h3 => rfl
      case g3 => first | exact fun _ => trivial | (intro hg; (try simp only [decide_eq_true_eq, decide_eq_false_iff_not, beq_iff_eq, bne_iff_ne, beq_eq_false_iff_ne, bne_eq_false_iff_eq, ne_eq, Bool.or_eq_true, Bool.or_eq_false_iff, Bool.and_eq_true, Bool.and_eq_false_imp, Bool.not_eq_true, Bool.not_eq_true', Bool.not_eq_false', Classical.not_not, Int.not_lt, Int.not_le, gt_iff_lt, ge_iff_le] at hg); (try dsimp only); omega)
      refine WG.y rfl rfl (by decide) (pureV_ok tab_ok rfl (by first | exact fun _ => rfl | exact fun h => h | (intro h; simp_all))) ?_
      refine WG.y rfl rfl (by decide) (Yl.por rfl rfl rfl (fun _ => rfl) (by intro h1 h2; simp_all <;> omega)) ?_
      refine WG.run tab_ok 1 rfl ?_
      refine WG.y rfl rfl (by decide) (pureV_ok tab_ok rfl (by first | exact fun _ => rfl | exact fun h => h | (intro h; simp_all))) ?_
      refine' WG.y rfl rfl (by decide) (Yl.loadG tab_ok rfl rfl rfl (by first | exact fun _ => rfl | exact fun h => h | (intro h; simp_all)) ?r4 rfl ?h4 ?g4) ?_
      case r4 => apply Rd.addC; (first | exact Rd.blkC 0 rfl | exact Rd.blkC 1 rfl | exact Rd.blkC 2 rfl | exact Rd.blkC 3 rfl | exact Rd.blkC 4 rfl | exact Rd.blkC 5 rfl | exact Rd.blkC 6 rfl | exact Rd.blkC 7 rfl)
      case h4 => rfl
      case g4 => first | exact fun _ => trivial | (intro hg; (try simp only [decide_eq_true_eq, decide_eq_false_iff_not, beq_iff_eq, bne_iff_ne, beq_eq_false_iff_ne, bne_eq_false_iff_eq, ne_eq, Bool.or_eq_true, Bool.or_eq_false_iff, Bool.and_eq_true, Bool.and_eq_false_imp, Bool.not_eq_true, Bool.not_eq_true', Bool.not_eq_false', Classical.not_not, Int.not_lt, Int.not_le, gt_iff_lt, ge_iff_le] at hg); (try dsimp only); omega)
      refine WG.y rfl rfl (by decide) (pureV_ok tab_ok rfl (by first | exact fun _ => rfl | exact fun h => h | (intro h; simp_all))) ?_
      refine WG.y rfl rfl (by decide) (Yl.por rfl rfl rfl (fun _ => rfl) (by intro h1 h2; simp_all <;> omega)) ?_
      refine WG.run tab_ok 1 rfl ?_
      refine WG.y rfl rfl (by decide) (pureV_ok tab_ok rfl (by first | exact fun _ => rfl | exact fun h => h | (intro h; simp_all))) ?_
      refine' WG.y rfl rfl (by decide) (Yl.loadG tab_ok rfl rfl rfl (by first | exact fun _ => rfl | exact fun h => h | (intro h; simp_all)) ?r5 rfl ?h5 ?g5) ?_
      case r5 => apply Rd.addC; (first | exact Rd.blkC 0 rfl | exact Rd.blkC 1 rfl | exact Rd.blkC 2 rfl | exact Rd.blkC 3 rfl | exact Rd.blkC 4 rfl | exact Rd.blkC 5 rfl | exact Rd.blkC 6 rfl | exact Rd.blkC 7 rfl)
      case h5 => rfl
      case g5 => first | exact fun _ => trivial | (intro hg; (try simp only [decide_eq_true_eq, decide_eq_false_iff_not, beq_iff_eq, bne_iff_ne, beq_eq_false_iff_ne, bne_eq_false_iff_eq, ne_eq, Bool.or_eq_true, Bool.or_eq_false_iff, Bool.and_eq_true, Bool.and_eq_false_imp, Bool.not_eq_true, Bool.not_eq_true', Bool.not_eq_false', Classical.not_not, Int.not_lt, Int.not_le, gt_iff_lt, ge_iff_le] at hg); (try dsimp only); omega)
      refine WG.y rfl rfl (by decide) (pureV_ok tab_ok rfl (by first | exact fun _ => rfl | exact fun h => h | (intro h; simp_all))) ?_
      refine WG.y rfl rfl (by decide) (Yl.por rfl rfl rfl (fun _ => rfl) (by intro h1 h2; simp_all <;> omega)) ?_
      refine WG.run tab_ok 1 rfl ?_
      refine WG.y rfl rfl (by decide) (pureV_ok tab_ok rfl (by first | exact fun _ => rfl | exact fun h => h | (intro h; simp_all))) ?_
      refine' WG.y rfl rfl (by decide) (Yl.loadG tab_ok rfl rfl rfl (by first | exact fun _ => rfl | exact fun h => h | (intro h; simp_all)) ?r6 rfl ?h6 ?g6) ?_
      case r6 => apply Rd.addC; (first | exact Rd.blkC 0 rfl | exact Rd.blkC 1 rfl | exact Rd.blkC 2 rfl | exact Rd.blkC 3 rfl | exact Rd.blkC 4 rfl | exact Rd.blkC 5 rfl | exact Rd.blkC 6 rfl | exact Rd.blkC 7 rfl)
      case h6 => rfl
      case g6 => first | exact fun _ => trivial | (intro hg; (try simp only [decide_eq_true_eq, decide_eq_false_iff_not, beq_iff_eq, bne_iff_ne, beq_eq_false_iff_ne, bne_eq_false_iff_eq, ne_eq, Bool.or_eq_true, Bool.or_eq_false_iff, Bool.and_eq_true, Bool.and_eq_false_imp, Bool.not_eq_true, Bool.not_eq_true', Bool.not_eq_false', Classical.not_not, Int.not_lt, Int.not_le, gt_iff_lt, ge_iff_le] at hg); (try dsimp only); omega)
      refine WG.y rfl rfl (by decide) (pureV_ok tab_ok rfl (by first | exact fun _ => rfl | exact fun h => h | (intro h; simp_all))) ?_
      refine WG.y rfl rfl (by decide) (Yl.por rfl rfl rfl (fun _ => rfl) (by intro h1 h2; simp_all <;> omega)) ?_
      refine WG.run tab_ok 1 rfl ?_
      refine WG.y rfl rfl (by decide) (pureV_ok tab_ok rfl (by first | exact fun _ => rfl | exact fun h => h | (intro h; simp_all))) ?_
      refine' WG.y rfl rfl (by decide) (Yl.loadG tab_ok rfl rfl rfl (by first | exact fun _ => rfl | exact fun h => h | (intro h; simp_all)) ?r7 rfl ?h7 ?g7) ?_
      case r7 => apply Rd.addC; (first | exact Rd.blkC 0 rfl | exact Rd.blkC 1 rfl | exact Rd.blkC 2 rfl | exact Rd.blkC 3 rfl | exact Rd.blkC 4 rfl | exact Rd.blkC 5 rfl | exact Rd.blkC 6 rfl | exact Rd.blkC 7 rfl)
      case h7 => rfl
      case g7 => first | exact fun _ => trivial | (intro hg; (try simp only [decide_eq_true_eq, decide_eq_false_iff_not, beq_iff_eq, bne_iff_ne, beq_eq_false_iff_ne, bne_eq_false_iff_eq, ne_eq, Bool.or_eq_true, Bool.or_eq_false_iff, Bool.and_eq_true, Bool.and_eq_false_imp, Bool.not_eq_true, Bool.not_eq_true', Bool.not_eq_false', Classical.not_not, Int.not_lt, Int.not_le, gt_iff_lt, ge_iff_le] at hg); (try dsimp only); omega)
      refine WG.y rfl rfl (by decide) (pureV_ok tab_ok rfl (by first | exact fun _ => rfl | exact fun h => h | (intro h; simp_all))) ?_
      refine WG.y rfl rfl (by decide) (Yl.por rfl rfl rfl (fun _ => rfl) (by intro h1 h2; simp_all <;> omega)) ?_
      refine WG.nil ?_
      refine WE.nxt ?_
      refine W.cond rfl (fun hc2 => ?_) (fun hc2 => ?_)
      · try simp only [decide_eq_true_eq, decide_eq_false_iff_not, beq_iff_eq, bne_iff_ne, beq_eq_false_iff_ne, bne_eq_false_iff_eq, ne_eq, Bool.or_eq_true, Bool.or_eq_false_iff, Bool.and_eq_true, Bool.and_eq_false_imp, Bool.not_eq_true, Bool.not_eq_true', Bool.not_eq_false', Classical.not_not, Int.not_lt, Int.not_le, gt_iff_lt, ge_iff_le] at hc2
        rw [if_pos (show BadP (nth ps st) by unfold BadP; omega)] at hv
        refine W.seq ?_
        refine W.region _ ?_
        refine WG.run tab_ok 1 rfl ?_
        refine WG.nil ?_
        refine WE.nxt ?_
        refine W.ret ?_
        refine WE.then_ret ?_
        refine WE.blk_ret ?_
        refine WE.then_ret ?_
        refine WE.then_ret ?_
        refine WE.blk_ret ?_
        refine WE.then_ret ?_
        refine WE.subE (E' := E) (by (repeat (first | exact List.Sublist.refl _ | exact List.nil_sublist _ | apply List.Sublist.cons_cons | apply List.Sublist.cons)); done) ?_
        refine WE.retF tab_ok [_] rfl ⟨rfl, trivial⟩ (RLe.refl _) ?_
        exact ⟨by unfold validate; rw [if_neg (show ¬ 60 < ps.length by omega), ← hv]; rfl, rfl⟩
      · try simp only [decide_eq_true_eq, decide_eq_false_iff_not, beq_iff_eq, bne_iff_ne, beq_eq_false_iff_ne, bne_eq_false_iff_eq, ne_eq, Bool.or_eq_true, Bool.or_eq_false_iff, Bool.and_eq_true, Bool.and_eq_false_imp, Bool.not_eq_true, Bool.not_eq_true', Bool.not_eq_false', Classical.not_not, Int.not_lt, Int.not_le, gt_iff_lt, ge_iff_le] at hc2
        rw [if_neg (show ¬ BadP (nth ps st) by unfold BadP; omega)] at hv
        refine W.skip ?_
        refine WE.nxt ?_
        refine W.seq ?_
        refine W.regionQ _ mixed (by kernel_rfl) ?_
        refine WG.run tab_ok 3 rfl ?_
        refine WG.y rfl rfl (by decide) (pureV_ok tab_ok rfl (by first | exact fun _ => rfl | exact fun h => h | (intro h; simp_all))) ?_
        refine' WG.y rfl rfl (by decide) (Yl.loadG tab_ok rfl rfl rfl (by first | exact fun _ => rfl | exact fun h => h | (intro h; simp_all)) ?r8 rfl ?h8 ?g8) ?_
        case r8 => apply Rd.addC; (first | exact Rd.blkC 0 rfl | exact Rd.blkC 1 rfl | exact Rd.blkC 2 rfl | exact Rd.blkC 3 rfl | exact Rd.blkC 4 rfl | exact Rd.blkC 5 rfl | exact Rd.blkC 6 rfl | exact Rd.blkC 7 rfl)
        case h8 => rfl
        case g8 => first | exact fun _ => trivial | (intro hg; (try simp only [decide_eq_true_eq, decide_eq_false_iff_not, beq_iff_eq, bne_iff_ne, beq_eq_false_iff_ne, bne_eq_false_iff_eq, ne_eq, Bool.or_eq_true, Bool.or_eq_false_iff, Bool.and_eq_true, Bool.and_eq_false_imp, Bool.not_eq_true, Bool.not_eq_true', Bool.not_eq_false', Classical.not_not, Int.not_lt, Int.not_le, gt_iff_lt, ge_iff_le] at hg); (try dsimp only); omega)
        refine WG.y rfl rfl (by decide) (pureV_ok tab_ok rfl (by first | exact fun _ => rfl | exact fun h => h | (intro h; simp_all))) ?_
        refine WG.y rfl rfl (by decide) (pureV_ok tab_ok rfl (by first | exact fun _ => rfl | exact fun h => h | (intro h; simp_all))) ?_
        refine WG.y rfl rfl (by decide) (Yl.sub rfl rfl rfl (by first | exact fun _ => rfl | exact fun h => h | (intro h; simp_all)) (by intro hg; (try simp only [decide_eq_true_eq, decide_eq_false_iff_not, beq_iff_eq, bne_iff_ne, beq_eq_false_iff_ne, bne_eq_false_iff_eq, ne_eq, Bool.or_eq_true, Bool.or_eq_false_iff, Bool.and_eq_true, Bool.and_eq_false_imp, Bool.not_eq_true, Bool.not_eq_true', Bool.not_eq_false', Classical.not_not, Int.not_lt, Int.not_le, gt_iff_lt, ge_iff_le] at hg); constructor <;> (try dsimp only) <;> omega)) ?_
        refine WG.y rfl rfl (by decide) (Yl.index tab_ok rfl rfl rfl rfl rfl rfl (by first | exact fun _ => rfl | exact fun h => h | (intro h; simp_all)) (by intro hg; (try simp only [decide_eq_true_eq, decide_eq_false_iff_not, beq_iff_eq, bne_iff_ne, beq_eq_false_iff_ne, bne_eq_false_iff_eq, ne_eq, Bool.or_eq_true, Bool.or_eq_false_iff, Bool.and_eq_true, Bool.and_eq_false_imp, Bool.not_eq_true, Bool.not_eq_true', Bool.not_eq_false', Classical.not_not, Int.not_lt, Int.not_le, gt_iff_lt, ge_iff_le] at hg); constructor <;> (try dsimp only) <;> omega) (by intro hg; (try simp only [decide_eq_true_eq, decide_eq_false_iff_not, beq_iff_eq, bne_iff_ne, beq_eq_false_iff_ne, bne_eq_false_iff_eq, ne_eq, Bool.or_eq_true, Bool.or_eq_false_iff, Bool.and_eq_true, Bool.and_eq_false_imp, Bool.not_eq_true, Bool.not_eq_true', Bool.not_eq_false', Classical.not_not, Int.not_lt, Int.not_le, gt_iff_lt, ge_iff_le] at hg); first | exact fun _ _ _ _ => rfl | exact RS.has (by assumption) | exact fun _ _ _ _ => (by assumption) | exact HasMem.ownD 0 rfl | exact HasMem.ownD 1 rfl | exact HasMem.ownD 2 rfl | exact HasMem.ownD 3 rfl | exact HasMem.ownD 4 rfl | exact HasMem.ownD 5 rfl | exact HasMem.ownD 6 rfl | exact HasMem.ownD 7 rfl)) ?_
        refine WG.y rfl rfl (by decide) (pureV_ok tab_ok rfl (by first | exact fun _ => rfl | exact fun h => h | (intro h; simp_all))) ?_
        refine' WG.y rfl rfl (by decide) (Yl.loadG tab_ok rfl rfl rfl (by first | exact fun _ => rfl | exact fun h => h | (intro h; simp_all)) ?r9 rfl ?h9 ?g9) ?_
        case r9 => apply Rd.addC; (first | (apply RS.rdC; assumption) | exact Rd.slC 0 rfl | exact Rd.slC 1 rfl | exact Rd.slC 2 rfl | exact Rd.slC 3 rfl | exact Rd.slC 4 rfl | exact Rd.slC 5 rfl | exact Rd.slC 6 rfl | exact Rd.slC 7 rfl)
        case h9 => rfl
        case g9 => first | exact fun _ => trivial | (intro hg; (try simp only [decide_eq_true_eq, decide_eq_false_iff_not, beq_iff_eq, bne_iff_ne, beq_eq_false_iff_ne, bne_eq_false_iff_eq, ne_eq, Bool.or_eq_true, Bool.or_eq_false_iff, Bool.and_eq_true, Bool.and_eq_false_imp, Bool.not_eq_true, Bool.not_eq_true', Bool.not_eq_false', Classical.not_not, Int.not_lt, Int.not_le, gt_iff_lt, ge_iff_le] at hg); (try dsimp only); omega)
        refine WG.y rfl rfl (by decide) (pureV_ok tab_ok rfl (by first | exact fun _ => rfl | exact fun h => h | (intro h; simp_all))) ?_
        refine WG.y rfl rfl (by decide) (Yl.pand rfl rfl rfl (fun _ => rfl) (by intro h1 h2; simp_all <;> omega)) ?_
        refine WG.nil ?_
        refine WE.nxt ?_
        refine W.cond rfl (fun hc3 => ?_) (fun hc3 => ?_)
        · try simp only [decide_eq_true_eq, decide_eq_false_iff_not, beq_iff_eq, bne_iff_ne, beq_eq_false_iff_ne, bne_eq_false_iff_eq, ne_eq, Bool.or_eq_true, Bool.or_eq_false_iff, Bool.and_eq_true, Bool.and_eq_false_imp, Bool.not_eq_true, Bool.not_eq_true', Bool.not_eq_false', Classical.not_not, Int.not_lt, Int.not_le, gt_iff_lt, ge_iff_le] at hc3
          obtain ⟨hc4, hc5⟩ := hc3
          rw [hk0 (by omega)] at hc5
          rw [if_neg (show ¬ st = 0 by omega), if_pos hc5] at hv
          refine W.seq ?_
          refine W.region _ ?_
          refine WG.run tab_ok 1 rfl ?_
          refine WG.nil ?_
          refine WE.nxt ?_
          refine W.ret ?_
          refine WE.blk_ret ?_
          refine WE.then_ret ?_
          refine WE.then_ret ?_
          refine WE.blk_ret ?_
          refine WE.then_ret ?_
          refine WE.subE (E' := E) (by (repeat (first | exact List.Sublist.refl _ | exact List.nil_sublist _ | apply List.Sublist.cons_cons | apply List.Sublist.cons)); done) ?_
          refine WE.retF tab_ok [_] rfl ⟨rfl, trivial⟩ (RLe.refl _) ?_
          exact ⟨by unfold validate; rw [if_neg (show ¬ 60 < ps.length by omega), ← hv]; rfl, rfl⟩
        · try simp only [decide_eq_true_eq, decide_eq_false_iff_not, beq_iff_eq, bne_iff_ne, beq_eq_false_iff_ne, bne_eq_false_iff_eq, ne_eq, Bool.or_eq_true, Bool.or_eq_false_iff, Bool.and_eq_true, Bool.and_eq_false_imp, Bool.not_eq_true, Bool.not_eq_true', Bool.not_eq_false', Classical.not_not, Int.not_lt, Int.not_le, gt_iff_lt, ge_iff_le] at hc3
          have hc4 : ¬ (nth ps st).time < (if st = 0 then 0 else (nth ps (st - 1)).time) := by
            split
            · have hb : ¬ BadP (nth ps st) := by unfold BadP; omega
              unfold BadP at hb; omega
            · rw [← hk0 (by omega)]
              have := hc3 (by omega); omega
          rw [if_neg hc4] at hv
          refine W.skip ?_
          refine WE.blk _ ?_
          refine WE.nxt ?_
          refine W.region _ ?_
          refine WG.run tab_ok 1 rfl ?_
          refine WG.y rfl rfl (by decide) (Yl.add rfl rfl rfl (fun _ => rfl) (by intro _; constructor <;> (try dsimp only) <;> omega)) ?_
          refine WG.run tab_ok 1 rfl ?_
          refine WG.nil ?_
          refine WE.again (st + 1) (⟨by omega, by simpa using hv⟩) (by (try dsimp only); omega) ⟨rfl, rfl, rfl⟩ (RLe.refl _) (by (repeat (first | exact List.Sublist.refl _ | exact List.nil_sublist _ | apply List.Sublist.cons_cons | apply List.Sublist.cons)); done)
    · try dsimp only at hc1
      obtain rfl : st = ps.length := by omega
      simp only [List.drop_length, valGo] at hv
      refine W.exit ?_
      refine WE.then_exit ?_
      refine WE.then_exit ?_
      refine WE.blk_exit ?_
      refine WE.nxt ?_
      refine W.seq ?_
      refine W.region _ ?_
      refine WG.run tab_ok 1 rfl ?_
      refine WG.nil ?_
      refine WE.nxt ?_
      refine W.ret ?_
      refine WE.subE (E' := E) (by (repeat (first | exact List.Sublist.refl _ | exact List.nil_sublist _ | apply List.Sublist.cons_cons | apply List.Sublist.cons)); done) ?_
      refine WE.retF tab_ok [_] rfl ⟨rfl, trivial⟩ (RLe.refl _) ?_
      exact ⟨by unfold validate; rw [if_neg (show ¬ 60 < ps.length by omega)]; exact congrArg (Value.int .i64) hv, rfl⟩

theorem BytesR_V {R : Ro} {a : Option Addr} {c : Nat} {ps : List Pkt} (ha : RS R 3 encP a ps) {flow t : Int} (hs : ∀ p ∈ ps, 0 ≤ p.size ∧ p.size ≤ 1000000) (hl : ps.length ≤ 1000000) : FnV Try.prog 156 [.slice a ps.length c, .int .i64 flow, .int .i64 t] R (.int .i64 (pbytes flow t ps)) := by
  have hla := ha.len
  refine Fn.toV (fun w0 E => ?_)
  refine Fn.enter (n := 47) Try.func156 rfl rfl (Nat.le_of_ble_eq_true rfl) rfl ?_
  refine W.seq ?_
  refine W.region _ ?_
  refine WG.run tab_ok 1 rfl ?_
  refine WG.nil ?_
  refine WE.nxt ?_
  refine W.seq ?_
  refine W.region _ ?_
  refine WG.run tab_ok 1 rfl ?_
  refine WG.nil ?_
  refine WE.nxt ?_
  refine W.seq ?_
  refine W.seq ?_
  refine W.region _ ?_
  refine WG.run tab_ok 1 rfl ?_
  refine WG.nil ?_
  refine WE.nxt ?_
  refine W.block ?_
  refine W.loop (β := Nat) (fun k => k ≤ ps.length) (fun k => [(0, true, .slice a ps.length c), (1, true, .int .i64 flow), (2, true, .int .i64 t), (7, true, .int .i64 (pbytes flow t (ps.take k))), (8, true, .int .i64 (k : Int))]) (fun _ => R) (fun _ => E) (fun k => ps.length - k) (0) (Nat.zero_le _) ⟨rfl, rfl, rfl, rfl, rfl, rfl⟩ (RLe.refl _) (by (repeat (first | exact List.Sublist.refl _ | exact List.nil_sublist _ | apply List.Sublist.cons_cons | apply List.Sublist.cons)); done) ?_
  intro st hst
  have hk : st ≤ ps.length := hst
  have hb := pbytes_bound flow t (ps.take st) (fun p hp => hs p (List.mem_of_mem_take hp))
  have hb2 := List.length_take_le st ps
  refine W.seq ?_
  refine W.seq ?_
  refine W.region _ ?_
  refine WG.run tab_ok 4 rfl ?_
  refine WG.nil ?_
  refine WE.nxt ?_
  refine W.condD rfl (fun hc0 => ?_) (fun hc0 => ?_)
  · try dsimp only at hc0
    have hm := hs _ (nth_mem (xs := ps) (k := st) (by omega))
    have htk := pbytes_snoc flow t (ps.take st) (nth ps st)
    rw [← take_nth (by omega)] at htk
    refine W.skip ?_
    refine WE.nxt ?_
    refine W.seq ?_
    refine W.block ?_
    refine W.seq ?_
    refine W.region _ ?_
    refine WG.run tab_ok 2 rfl ?_
    refine WG.y rfl rfl (by decide) (Yl.indexN tab_ok rfl rfl rfl rfl rfl rfl (fun _ => rfl) (by intro _; (try dsimp only) <;> omega) (by intro _; first | exact fun _ _ _ _ => rfl | exact RS.has (by assumption) | exact fun _ _ _ _ => (by assumption) | exact HasMem.ownD 0 rfl | exact HasMem.ownD 1 rfl | exact HasMem.ownD 2 rfl | exact HasMem.ownD 3 rfl | exact HasMem.ownD 4 rfl | exact HasMem.ownD 5 rfl | exact HasMem.ownD 6 rfl | exact HasMem.ownD 7 rfl)) ?_
    refine WG.run tab_ok 1 rfl ?_
    refine' WG.y rfl rfl (by decide) (Yl.load1 tab_ok rfl rfl rfl (fun _ => rfl) ?r1 rfl ?h1) ?_
    case r1 => apply Rd.add; (first | (apply RS.rdD; assumption; ((try dsimp only) <;> omega)) | exact Rd.slD 0 rfl (by (try dsimp only) <;> omega) | exact Rd.slD 1 rfl (by (try dsimp only) <;> omega) | exact Rd.slD 2 rfl (by (try dsimp only) <;> omega) | exact Rd.slD 3 rfl (by (try dsimp only) <;> omega) | exact Rd.slD 4 rfl (by (try dsimp only) <;> omega) | exact Rd.slD 5 rfl (by (try dsimp only) <;> omega) | exact Rd.slD 6 rfl (by (try dsimp only) <;> omega) | exact Rd.slD 7 rfl (by (try dsimp only) <;> omega))
    case h1 => rfl
    refine WG.run tab_ok 3 rfl ?_
    refine WG.y rfl rfl (by decide) (pureV_ok tab_ok rfl (by first | exact fun _ => rfl | exact fun h => h | (intro h; simp_all))) ?_
    refine WG.y rfl rfl (by decide) (pureV_ok tab_ok rfl (by first | exact fun _ => rfl | exact fun h => h | (intro h; simp_all))) ?_
    refine WG.y rfl rfl (by decide) (Yl.pand rfl rfl rfl (fun _ => rfl) (by intro h1 h2; simp_all <;> omega)) ?_
    refine WG.run tab_ok 1 rfl ?_
    refine WG.y rfl rfl (by decide) (pureV_ok tab_ok rfl (by first | exact fun _ => rfl | exact fun h => h | (intro h; simp_all))) ?_
    refine WG.y rfl rfl (by decide) (pureV_ok tab_ok rfl (by first | exact fun _ => rfl | exact fun h => h | (intro h; simp_all))) ?_
    refine WG.y rfl rfl (by decide) (pureV_ok tab_ok rfl (by first | exact fun _ => rfl | exact fun h => h | (intro h; simp_all))) ?_
    refine WG.y rfl rfl (by decide) (pureV_ok tab_ok rfl (by first | exact fun _ => rfl | exact fun h => h | (intro h; simp_all))) ?_
    refine WG.y rfl rfl (by decide) (pureV_ok tab_ok rfl (by first | exact fun _ => rfl | exact fun h => h | (intro h; simp_all))) ?_
    refine WG.y rfl rfl (by decide) (Yl.indexN tab_ok rfl rfl rfl rfl rfl rfl (by first | exact fun _ => rfl | exact fun h => h | (intro h; simp_all)) (by intro hg; (try simp only [decide_eq_true_eq, decide_eq_false_iff_not, beq_iff_eq, bne_iff_ne, beq_eq_false_iff_ne, bne_eq_false_iff_eq, ne_eq, Bool.or_eq_true, Bool.or_eq_false_iff, Bool.and_eq_true, Bool.and_eq_false_imp, Bool.not_eq_true, Bool.not_eq_true', Bool.not_eq_false', Classical.not_not, Int.not_lt, Int.not_le, gt_iff_lt, ge_iff_le] at hg); (try dsimp only) <;> omega) (by intro hg; (try simp only [decide_eq_true_eq, decide_eq_false_iff_not, beq_iff_eq, bne_iff_ne, beq_eq_false_iff_ne, bne_eq_false_iff_eq, ne_eq, Bool.or_eq_true, Bool.or_eq_false_iff, Bool.and_eq_true, Bool.and_eq_false_imp, Bool.not_eq_true, Bool.not_eq_true', Bool.not_eq_false', Classical.not_not, Int.not_lt, Int.not_le, gt_iff_lt, ge_iff_le] at hg); first | exact fun _ _ _ _ => rfl | exact RS.has (by assumption) | exact fun _ _ _ _ => (by assumption) | exact HasMem.ownD 0 rfl | exact HasMem.ownD 1 rfl | exact HasMem.ownD 2 rfl | exact HasMem.ownD 3 rfl | exact HasMem.ownD 4 rfl | exact HasMem.ownD 5 rfl | exact HasMem.ownD 6 rfl | exact HasMem.ownD 7 rfl)) ?_
    refine WG.y rfl rfl (by decide) (pureV_ok tab_ok rfl (by first | exact fun _ => rfl | exact fun h => h | (intro h; simp_all))) ?_
    refine' WG.y rfl rfl (by decide) (Yl.loadG tab_ok rfl rfl rfl (by first | exact fun _ => rfl | exact fun h => h | (intro h; simp_all)) ?r2 rfl ?h2 ?g2) ?_
    case r2 => apply Rd.addC; (first | (apply RS.rdC; assumption) | exact Rd.slC 0 rfl | exact Rd.slC 1 rfl | exact Rd.slC 2 rfl | exact Rd.slC 3 rfl | exact Rd.slC 4 rfl | exact Rd.slC 5 rfl | exact Rd.slC 6 rfl | exact Rd.slC 7 rfl)
    case h2 => rfl
    case g2 => first | exact fun _ => trivial | (intro hg; (try simp only [decide_eq_true_eq, decide_eq_false_iff_not, beq_iff_eq, bne_iff_ne, beq_eq_false_iff_ne, bne_eq_false_iff_eq, ne_eq, Bool.or_eq_true, Bool.or_eq_false_iff, Bool.and_eq_true, Bool.and_eq_false_imp, Bool.not_eq_true, Bool.not_eq_true', Bool.not_eq_false', Classical.not_not, Int.not_lt, Int.not_le, gt_iff_lt, ge_iff_le] at hg); (try dsimp only); omega)
    refine WG.y rfl rfl (by decide) (pureV_ok tab_ok rfl (by first | exact fun _ => rfl | exact fun h => h | (intro h; simp_all))) ?_
    refine WG.y rfl rfl (by decide) (pureV_ok tab_ok rfl (by first | exact fun _ => rfl | exact fun h => h | (intro h; simp_all))) ?_
    refine WG.y rfl rfl (by decide) (Yl.por rfl rfl rfl (by first | exact fun _ => rfl | exact fun h => h | (intro h; simp_all)) (by intro h1 h2; simp_all <;> omega)) ?_
    refine WG.y rfl rfl (by decide) (Yl.pand rfl rfl rfl (fun _ => rfl) (by intro h1 h2; simp_all <;> omega)) ?_
    refine WG.nil ?_
    refine WE.nxt ?_
    refine W.cond rfl (fun hc1 => ?_) (fun hc1 => ?_)
    · try simp only [decide_eq_true_eq, decide_eq_false_iff_not, beq_iff_eq, bne_iff_ne, beq_eq_false_iff_ne, bne_eq_false_iff_eq, ne_eq, Bool.or_eq_true, Bool.or_eq_false_iff, Bool.and_eq_true, Bool.and_eq_false_imp, Bool.not_eq_true, Bool.not_eq_true', Bool.not_eq_false', Classical.not_not, Int.not_lt, Int.not_le, gt_iff_lt, ge_iff_le] at hc1
      rw [if_pos (show hit flow t (nth ps st) by unfold hit; omega)] at htk
      refine W.region _ ?_
      refine WG.run tab_ok 3 rfl ?_
      refine WG.y rfl rfl (by decide) (Yl.indexN tab_ok rfl rfl rfl rfl rfl rfl (fun _ => rfl) (by intro _; (try dsimp only) <;> omega) (by intro _; first | exact fun _ _ _ _ => rfl | exact RS.has (by assumption) | exact fun _ _ _ _ => (by assumption) | exact HasMem.ownD 0 rfl | exact HasMem.ownD 1 rfl | exact HasMem.ownD 2 rfl | exact HasMem.ownD 3 rfl | exact HasMem.ownD 4 rfl | exact HasMem.ownD 5 rfl | exact HasMem.ownD 6 rfl | exact HasMem.ownD 7 rfl)) ?_
      refine WG.run tab_ok 1 rfl ?_
      refine' WG.y rfl rfl (by decide) (Yl.load1 tab_ok rfl rfl rfl (fun _ => rfl) ?r3 rfl ?h3) ?_
      case r3 => apply Rd.add; (first | (apply RS.rdD; assumption; ((try dsimp only) <;> omega)) | exact Rd.slD 0 rfl (by (try dsimp only) <;> omega) | exact Rd.slD 1 rfl (by (try dsimp only) <;> omega) | exact Rd.slD 2 rfl (by (try dsimp only) <;> omega) | exact Rd.slD 3 rfl (by (try dsimp only) <;> omega) | exact Rd.slD 4 rfl (by (try dsimp only) <;> omega) | exact Rd.slD 5 rfl (by (try dsimp only) <;> omega) | exact Rd.slD 6 rfl (by (try dsimp only) <;> omega) | exact Rd.slD 7 rfl (by (try dsimp only) <;> omega))
      case h3 => rfl
      refine WG.y rfl rfl (by decide) (Yl.add rfl rfl rfl (fun _ => rfl) (by intro _; constructor <;> (try dsimp only) <;> omega)) ?_
      refine WG.run tab_ok 1 rfl ?_
      refine WG.nil ?_
      refine WE.blk _ ?_
      refine WE.nxt ?_
      refine W.region _ ?_
      refine WG.run tab_ok 1 rfl ?_
      refine WG.y rfl rfl (by decide) (Yl.add rfl rfl rfl (fun _ => rfl) (by intro _; constructor <;> (try dsimp only) <;> omega)) ?_
      refine WG.run tab_ok 1 rfl ?_
      refine WG.nil ?_
      refine WE.again (st + 1) (by omega) (by (try dsimp only); omega) ⟨rfl, rfl, rfl, vint htk.symm, rfl, rfl⟩ (RLe.refl _) (by (repeat (first | exact List.Sublist.refl _ | exact List.nil_sublist _ | apply List.Sublist.cons_cons | apply List.Sublist.cons)); done)
    · try simp only [decide_eq_true_eq, decide_eq_false_iff_not, beq_iff_eq, bne_iff_ne, beq_eq_false_iff_ne, bne_eq_false_iff_eq, ne_eq, Bool.or_eq_true, Bool.or_eq_false_iff, Bool.and_eq_true, Bool.and_eq_false_imp, Bool.not_eq_true, Bool.not_eq_true', Bool.not_eq_false', Classical.not_not, Int.not_lt, Int.not_le, gt_iff_lt, ge_iff_le] at hc1
      rw [if_neg (show ¬ hit flow t (nth ps st) by unfold hit; omega)] at htk
      refine W.skip ?_
      refine WE.blk _ ?_
      refine WE.nxt ?_
      refine W.region _ ?_
      refine WG.run tab_ok 1 rfl ?_
      refine WG.y rfl rfl (by decide) (Yl.add rfl rfl rfl (fun _ => rfl) (by intro _; constructor <;> (try dsimp only) <;> omega)) ?_
      refine WG.run tab_ok 1 rfl ?_
      refine WG.nil ?_
      refine WE.again (st + 1) (by omega) (by (try dsimp only); omega) ⟨rfl, rfl, rfl, vint (by rw [htk]; omega), rfl, rfl⟩ (RLe.refl _) (by (repeat (first | exact List.Sublist.refl _ | exact List.nil_sublist _ | apply List.Sublist.cons_cons | apply List.Sublist.cons)); done)
  · try dsimp only at hc0
    obtain rfl : st = ps.length := by omega
    refine W.exit ?_
    refine WE.then_exit ?_
    refine WE.then_exit ?_
    refine WE.blk_exit ?_
    refine WE.nxt ?_
    refine W.seq ?_
    refine W.region _ ?_
    refine WG.run tab_ok 2 rfl ?_
    refine WG.nil ?_
    refine WE.nxt ?_
    refine W.ret ?_
    refine WE.subE (E' := E) (by (repeat (first | exact List.Sublist.refl _ | exact List.nil_sublist _ | apply List.Sublist.cons_cons | apply List.Sublist.cons)); done) ?_
    refine WE.retF tab_ok [_] rfl ⟨rfl, trivial⟩ (RLe.refl _) ?_
    exact ⟨by rw [List.take_length]; rfl, rfl⟩

end Go.Proofs.Ytnaeefefggmomaa
