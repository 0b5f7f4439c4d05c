/- Curves of schedulers, plain: what the walks of rounds, the first enough and the build want. No condition. -/
import Derived.Test.YtcfnckccmkjjlaaCurveB
namespace Go.Proofs.Ytcfnckccmkjjlaa.M
open Go Go.Proofs.Ytcfnckccmkjjlaa.K

theorem findFrom_some {P : Nat → Bool} {k a i : Nat} (h1 : a ≤ i) (h2 : i < a + k) (hP : P i = true) (h : ∀ j, a ≤ j → j < i → P j = false) : findFrom P k a = i := by
  rcases findFrom_cases P k a with ⟨r, r1, r2, r3, r4, r5⟩ | ⟨_, r2⟩
  · rcases Nat.lt_trichotomy i r with h5 | h5 | h5
    · rw [r5 i h1 h5] at hP; cases hP
    · subst h5; exact r3
    · rw [h r r1 h5] at r4; cases r4
  · rw [r2 i h1 h2] at hP; cases hP
theorem findFrom_none {P : Nat → Bool} {k a : Nat} (h : ∀ j, a ≤ j → j < a + k → P j = false) : findFrom P k a = -1 := by
  rcases findFrom_cases P k a with ⟨r, r1, r2, r3, r4, r5⟩ | ⟨r1, _⟩
  · rw [h r r1 r2] at r4; cases r4
  · exact r1
theorem gcd_step (x y : Nat) : Nat.gcd y (x % y) = Nat.gcd x y := by
  rw [Nat.gcd_comm y (x % y), ← Nat.gcd_rec, Nat.gcd_comm]
def shortP (cap : Nat) (s : Nat) : Bool := decide (s / Nat.gcd s cap ≤ 120)
theorem shortN_eq (low cap : Nat) : shortN low cap = findFrom (shortP cap) (120 * cap + 1 - low) low := rfl
theorem shortN_some {low cap s : Nat} (h1 : low ≤ s) (h2 : s ≤ 120 * cap) (h : s / Nat.gcd s cap ≤ 120) (hn : ∀ j, low ≤ j → j < s → ¬ j / Nat.gcd j cap ≤ 120) : shortN low cap = s := by
  rw [shortN_eq]; exact findFrom_some h1 (by omega) (decide_eq_true h) (fun j a b => decide_eq_false (hn j a b))
theorem shortN_none {low cap s : Nat} (h2 : 120 * cap < s) (hn : ∀ j, low ≤ j → j < s → ¬ j / Nat.gcd j cap ≤ 120) : shortN low cap = -1 := by
  rw [shortN_eq]; exact findFrom_none (fun j a b => decide_eq_false (hn j a (by omega)))
theorem shortN_cases (low cap : Nat) : shortN low cap = -1 ∨ ∃ s : Nat, shortN low cap = s ∧ low ≤ s ∧ s ≤ 120 * cap ∧ s / Nat.gcd s cap ≤ 120 := by
  rw [shortN_eq]
  rcases findFrom_cases (shortP cap) (120 * cap + 1 - low) low with ⟨r, r1, r2, r3, r4, r5⟩ | ⟨r1, _⟩
  · exact .inr ⟨r, r3, r1, by omega, of_decide_eq_true r4⟩
  · exact .inl r1
def rvR (s : Int) (cap : Nat) : Value := .tuple #[.int .i64 (if s = -1 then 0 else s), .int .i64 (if s = -1 then 0 else ((s.toNat / Nat.gcd s.toNat cap : Nat) : Int)), .bool (s != -1)]
def svR (s : Int) : Value := .tuple #[.int .i64 (if s = -1 then 0 else s), .bool (s != -1)]
theorem ne_m1 (s : Nat) : ((s : Int) != -1) = true := by rw [bne_iff_ne]; omega
theorem rvR_some (s cap : Nat) : rvR s cap = .tuple #[.int .i64 s, .int .i64 ((s / Nat.gcd s cap : Nat) : Int), .bool true] := by
  unfold rvR; rw [if_neg (by omega), if_neg (by omega), Int.toNat_natCast, ne_m1]
theorem svR_some (s : Nat) : svR s = .tuple #[.int .i64 s, .bool true] := by
  unfold svR; rw [if_neg (by omega), ne_m1]
theorem leastY_eq {H : Nat → Bool} {b lo : Nat} (hb : H b = true) (h1 : H lo = true) (h2 : ∀ j, j < lo → H j = false) : leastY H b = lo := by
  obtain ⟨a1, a2, a3⟩ := leastY_is hb
  rcases Nat.lt_trichotomy lo (leastY H b) with h | h | h
  · rw [a3 _ h] at h1; cases h1
  · exact h.symm
  · rw [h2 _ h] at a2; cases a2
def partV (F : Nat → Int) (t n : Nat) : List Int := fvals F t ++ List.replicate (n - t) 0
theorem partV_zero (F : Nat → Int) (n : Nat) : partV F 0 n = List.replicate n 0 := by simp [partV, fvals]
theorem partV_all (F : Nat → Int) (n : Nat) : partV F n n = fvals F n := by simp [partV]
theorem partV_len (F : Nat → Int) {t n : Nat} (h : t ≤ n) : (partV F t n).length = n := by simp [partV, fvals_len]; omega
theorem partV_take (F : Nat → Int) (t n : Nat) : (partV F t n).take t = fvals F t := by
  unfold partV; rw [List.take_append_of_le_length (by rw [fvals_len]; exact Nat.le_refl _)]; exact List.take_of_length_le (by rw [fvals_len]; exact Nat.le_refl _)
theorem partV_set (F : Nat → Int) {t n : Nat} (h : t < n) : (partV F t n).set t (F t) = partV F (t + 1) n := by
  unfold partV
  rw [List.set_append_right _ _ (by rw [fvals_len]; exact Nat.le_refl _), fvals_len, Nat.sub_self, show n - t = (n - (t + 1)) + 1 by omega, List.replicate_succ, List.set_cons_zero, fvals_snoc, List.append_assoc]
  rfl
theorem partV_nth (F : Nat → Int) {t k n : Nat} (h : t < k) : nth (partV F k n) t = F t := by
  have e : (partV F k n)[t]? = some (F t) := by
    unfold partV
    rw [List.getElem?_append_left (by rw [fvals_len]; exact h)]
    have := nth_get (xs := fvals F k) (i := t) (by rw [fvals_len]; exact h)
    rw [fvals_nth F h] at this
    exact this
  unfold nth; rw [List.getD_eq_getElem?_getD, e]; rfl
def cvV (f : Option Addr) (fc : Nat) (x : Cv × Int) : Value := .tuple #[.agg #[.slice f x.1.vals.length fc, .int .i64 x.1.per, .int .i64 x.1.inc], .int .i64 x.2]
def cuV (f : Option Addr) (fc : Nat) (x : Cv) : Value := .agg #[.slice f x.vals.length fc, .int .i64 x.per, .int .i64 x.inc]
theorem checkedE_vals (v : List Int) : checkedE v = 3 ∨ checkedE v = 0 := by unfold checkedE; split <;> simp
theorem checkedL_bad {v : List Int} {p q : Int} (h : checkedE v = 3) : checkedL v p q = (zcv, 3) := if_pos h
theorem checkedL_good {v : List Int} {p q : Int} (h : checkedE v ≠ 3) : checkedL v p q = (⟨v, p, q⟩, 0) := if_neg h
theorem checkedE_big {v : List Int} (h : 400 < v.length) : checkedE v = 3 := if_pos (.inl h)
theorem checkedE_one {v : List Int} {i : Nat} (hi : i < v.length) (h1 : nth v i ≠ INF) (h2 : MAXV < nth v i) : checkedE v = 3 :=
  if_pos (.inr (List.any_eq_true.2 ⟨_, nth_mem hi, by simp [h1, h2]⟩))
theorem checkedE_fine {v : List Int} (h : v.length ≤ 400) (hn : ∀ j, j < v.length → nth v j = INF ∨ nth v j ≤ MAXV) : checkedE v ≠ 3 := by
  unfold checkedE
  rw [if_neg]
  · decide
  · rintro (h1 | h1)
    · omega
    · obtain ⟨x, hx, h2⟩ := List.any_eq_true.1 h1
      obtain ⟨i, hi, rfl⟩ := List.getElem_of_mem hx
      have h3 := hn i hi
      rw [nth_eq hi] at h3
      simp at h2
      rcases h3 with h3 | h3
      · exact h2.1 h3
      · have := h2.2; omega
theorem infAt_some {F : Nat → Int} {n t : Nat} (ht : t < n) (h : F t = INF) (hn : ∀ j, j < t → F j ≠ INF) : infAt F n = t :=
  findFrom_some (Nat.zero_le _) (by omega) (by simp [h]) (fun j _ h2 => by simp [hn j h2])
theorem infAt_none {F : Nat → Int} {n : Nat} (hn : ∀ j, j < n → F j ≠ INF) : infAt F n = -1 :=
  findFrom_none (fun j _ h2 => by simp [hn j (by omega)])
theorem leastL_some {v : List Int} {inc : Int} {p : Nat} (h0 : 1 ≤ p) (h1 : p < v.length) (hp : leastOk v inc p = true) (hn : ∀ j, 1 ≤ j → j < p → leastOk v inc j = false) : leastL v inc = p := by
  unfold leastL
  rw [findFrom_some h0 (by omega) hp hn, if_neg (by omega), Int.toNat_natCast]
theorem leastL_none {v : List Int} {inc : Int} (h : ∀ j, 1 ≤ j → j < v.length → leastOk v inc j = false) : leastL v inc = v.length := by
  unfold leastL
  rw [if_pos (findFrom_none (fun j a b => h j a (by omega)))]
theorem leastL_pos {v : List Int} {inc : Int} (h : 0 < v.length) : 1 ≤ leastL v inc ∧ leastL v inc ≤ v.length := by
  unfold leastL
  rcases findFrom_cases (leastOk v inc) (v.length - 1) 1 with ⟨r, r1, r2, r3, r4, r5⟩ | ⟨r1, _⟩
  · rw [r3, if_neg (by omega), Int.toNat_natCast]; omega
  · rw [r1, if_pos rfl]; omega
theorem downL_le (v : List Int) (p : Nat) (q : Int) : ∀ s, downL v p q s ≤ s
  | 0 => Nat.le_refl _
  | s + 1 => by simp only [downL]; have := downL_le v p q s; split <;> omega
/-- the pattern of `least`, one place of the row -/
def leastC (v : List Int) (inc : Int) (p i : Nat) : Bool := (if i + p < v.length then nth v (i + p) else nth v (i + p - v.length) + inc) == nth v i + inc * p / v.length
theorem leastOk_eq (v : List Int) (inc : Int) (p : Nat) : leastOk v inc p = (v.length % p == 0 && (inc * p) % v.length == 0 && (List.range v.length).all (leastC v inc p)) := rfl
theorem leastOk_no1 {v : List Int} {inc : Int} {p : Nat} (h : v.length % p ≠ 0 ∨ (inc * p) % v.length ≠ 0) : leastOk v inc p = false := by
  rw [leastOk_eq, ← Bool.not_eq_true]
  intro hh
  simp only [Bool.and_eq_true, beq_iff_eq] at hh
  rcases h with h | h
  · exact h hh.1.1
  · exact h hh.1.2
theorem leastOk_no2 {v : List Int} {inc : Int} {p i : Nat} (hi : i < v.length) (h : leastC v inc p i = false) : leastOk v inc p = false := by
  rw [leastOk_eq, ← Bool.not_eq_true]
  intro hh
  simp only [Bool.and_eq_true, List.all_eq_true, List.mem_range] at hh
  rw [hh.2 i hi] at h; cases h
theorem leastOk_yes {v : List Int} {inc : Int} {p : Nat} (h1 : v.length % p = 0) (h2 : (inc * p) % v.length = 0) (h3 : ∀ i, i < v.length → leastC v inc p i = true) : leastOk v inc p = true := by
  rw [leastOk_eq]
  simp only [Bool.and_eq_true, beq_iff_eq, List.all_eq_true, List.mem_range]
  exact ⟨⟨h1, h2⟩, h3⟩
end Go.Proofs.Ytcfnckccmkjjlaa.M
