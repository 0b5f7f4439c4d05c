/- Rules and walks, joined from 28 texts: the first of them says: Sums of curves, curves raised, what is left of a line, plain: the program and the reference make the same. No condition. -/
import Derived.Test.YtlgjkmebpnnphaaGreatG2
import Derived.WideMake
/- Sums of curves, curves raised, what is left of a line, plain: the program and the reference make the same. No condition. -/
namespace Go.Proofs.YtlgjkmebpnnphaaGreat.M
open Go Go.Proofs.YtlgjkmebpnnphaaGreat.K

/-! ### functions that repeat, or are infinite from some tick on -/
structure RepF (F : Nat → Int) (S P : Nat) (I : Int) : Prop where
  hP : 0 < P
  hI : 0 ≤ I
  hg : Grows F S P I
  hm : ∀ t, F t ≤ F (t + 1)
  h0 : 0 ≤ F 0
  hf : ∀ t, t < S + P → F t < INF
structure RepI (F : Nat → Int) (n m : Nat) : Prop where
  hn : n < m
  hi : ∀ t, n ≤ t → F t = INF
  hf : ∀ t, t < n → 0 ≤ F t ∧ F t < INF
  hm : ∀ t, F t ≤ F (t + 1)
/-- a curve in normal form -/
structure Nrm (c : Cv) : Prop where
  valid : validB c = true
  norm : normR c = c
theorem RepF.ne {F : Nat → Int} {S P : Nat} {I : Int} (h : RepF F S P I) {t : Nat} (ht : t < S + P) : F t ≠ INF := by have := h.hf t ht; omega
/-- what Build makes of it -/
theorem RepF.res {F : Nat → Int} {S P : Nat} {I : Int} (h : RepF F S P I) : mbuild F S P I = (zcv, 3) ∨ ∃ c, mbuild F S P I = (c, 0) ∧ Nrm c ∧ cvF c = F ∧ finB c = true := by
  rw [mbuild_fin (fun t ht => h.ne ht)]
  obtain ⟨p, s, hnf, h1, h2, e⟩ := finL_nf h.hP h.hg (fun t ht => h.ne ht)
  rw [e]
  unfold nfC
  by_cases h3 : nfE F p s (I * p / P) = 3
  · rw [if_pos h3]; exact .inl rfl
  · rw [if_neg h3]
    right
    have h4 : ¬ (120 < p ∨ MAXV < I * p / P ∨ 400 < s + p ∨ ((List.range (s + p)).any fun i => decide (F i > MAXV)) = true) := fun hh => h3 (if_pos hh)
    have hp := hnf.least.1
    have hP := h.hP
    have hI := h.hI
    have hfc : FC F s p (I * p / P) := by
      refine ⟨by omega, by omega, ⟨Int.ediv_nonneg (Int.mul_nonneg hI (by omega)) (by omega), ?_⟩, hnf.starts.1, h.hm, h.h0, fun t ht => ?_⟩
      · have : ¬ MAXV < I * p / P := fun hh => h4 (.inr (.inl hh))
        unfold MAXV at this; omega
      · apply Classical.byContradiction
        intro hh
        refine h4 (.inr (.inr (.inr ?_)))
        rw [List.any_eq_true]
        exact ⟨t, List.mem_range.2 ht, decide_eq_true (by unfold MAXV; omega)⟩
    have hv := hfc.valid'
    refine ⟨_, rfl, ⟨hv, ?_⟩, cvF_fc hfc, ?_⟩
    · obtain ⟨s', p', q', e', _, _, _, hnf', hq'⟩ := hfc.norm
      obtain ⟨e1, e2, e3⟩ := nf_same h.hP (by omega) h.hg hfc.hg hnf hnf'
      rw [e', hq', ← e3, ← e1, ← e2]
    · rcases valid_cases hv with ⟨_, _, _, _, _, _, f1⟩ | ⟨n, _, _, _, _, _, hic, _⟩
      · exact f1
      · have := hic.hi (n + s + p) (by omega)
        rw [cvF_fc hfc] at this
        have h5 := hic.hi n (Nat.le_refl _)
        rw [cvF_fc hfc] at h5
        have h6 := hfc.bound n
        have := hic.hn
        unfold INF at h5; omega
theorem RepI.ne {F : Nat → Int} {n m : Nat} (h : RepI F n m) {t : Nat} (ht : t < n) : F t ≠ INF := by have := h.hf t ht; omega
theorem RepI.res {F : Nat → Int} {n S P : Nat} {I : Int} (h : RepI F n (S + P)) : mbuild F S P I = (zcv, 3) ∨ ∃ c, mbuild F S P I = (c, 0) ∧ Nrm c ∧ cvF c = F ∧ finB c = false := by
  rw [mbuild_inf h.hn (h.hi n (Nat.le_refl _)) (fun t ht => h.ne ht)]
  rcases checkedE_vals (fvals F (n + 1)) with hc | hc
  · rw [checkedL_bad hc]; exact .inl rfl
  · rw [checkedL_good (by omega)]
    right
    obtain ⟨h1, h2⟩ := (checked_inf (h.hi n (Nat.le_refl _)) h.hf).1 (by omega)
    have hic : IC F n := ⟨by omega, h.hi, fun t ht => by have := h.hf t ht; have := h2 t ht; unfold MAXV at this; omega, h.hm⟩
    have hv := hic.valid (show n < n + 1 by omega) h1
    refine ⟨_, rfl, ⟨hv, hic.norm (by omega)⟩, cvF_ic hic (by omega), ?_⟩
    unfold finB
    dsimp only
    rw [fvals_len, show n + 1 - 1 = n by omega, fvals_nth F (by omega), h.hi n (Nat.le_refl _)]
    simp
theorem norm_nrm {c : Cv} (h : validB c = true) : Nrm (normR c) := by
  refine ⟨(norm_valid h).1, ?_⟩
  rcases valid_cases h with ⟨S, P, e, hl, hp, hfc, _⟩ | ⟨n, e, hl, hp, hI, _, hic, _⟩
  · obtain ⟨s, p, q, h1, h2, h3, h4, h5, h6⟩ := hfc.norm
    have e2 : normR c = ⟨fvals (cvF c) (s + p), p, q⟩ := by rw [← h1, ← e]
    obtain ⟨s', p', q', g1, g2, g3, g4, g5, g6⟩ := h2.norm
    have hP := hfc.hP
    have hp2 := h2.hP
    obtain ⟨e3, e4, e5⟩ := nf_same (by omega) (by omega) hfc.hg h2.hg h5 g5
    rw [e2, g1, g6, ← e5, ← e3, ← e4, ← h6]
  · have h1 := hic.norm hl
    have e2 : normR c = ⟨fvals (cvF c) (n + 1), 1, 0⟩ := by rw [← h1, ← e]
    rw [e2]; exact hic.norm (by omega)
def stN (c : Cv) : Nat := c.vals.length - c.per.toNat
theorem norm_build {c : Cv} (h : validB c = true) : mbuild (cvF c) (stN c) c.per.toNat c.inc = (normR c, 0) := by
  have hn := (norm_nrm h).valid
  have hm : madeR c = (normR c, 0) := by unfold madeR; rw [if_pos hn]
  rcases valid_cases h with ⟨S, P, e, hl, hp, hfc, _⟩ | ⟨n, e, hl, hp, hI, _, hic, _⟩
  · have hP := hfc.hP
    have hs : stN c = S := by unfold stN; rw [hl, hp, Int.toNat_natCast]; omega
    have hf : ∀ t, t < S + P → cvF c t < INF := fun t ht => by have := hfc.hb t ht; unfold INF; omega
    rw [hs, hp, Int.toNat_natCast, build_made_fin (by omega) hfc.hI.1 hfc.hg (by omega) hfc.hI.1 hfc.hg hfc.hm hfc.h0 hf hf, ← e, hm]
  · have hr := valid_range h
    have hs : stN c + c.per.toNat = c.vals.length := by unfold stN; omega
    rw [build_made_inf (n := n) (m := c.vals.length) (per := 1) (inc := 0) (by rw [hs]; exact hl) hl (hic.hi n (Nat.le_refl _)) (fun t ht => by have := hic.hb t ht; unfold INF; omega) (fun t _ => hic.hm t), ← e, hm]
/-- a curve, if it is one, in normal form -/
def normC (c : Cv) : Cv × Int := if validB c = true then (normR c, 0) else (zcv, 1)
/-! ### sums -/
def lcmC (a b : Cv) : Nat := lcmN a.per.toNat b.per.toNat
def gainC (c : Cv) (L : Nat) : Int := (L : Int) / c.per * c.inc
def plusF (a b : Cv) (t : Nat) : Int := if isInf a t ∨ isInf b t then INF else cvF a t + cvF b t
theorem grows_gain {F : Nat → Int} {S P L : Nat} {I : Int} (hP : 1 ≤ P) (hg : Grows F S P I) (hL : L % P = 0) : Grows F S L ((L : Int) / (P : Int) * I) := fun t ht => by
  have h1 := hg.mul (L / P) t ht
  have h2 : L / P * P = L := Nat.div_mul_cancel (Nat.dvd_of_mod_eq_zero hL)
  rw [h2] at h1
  rw [h1]; rfl
theorem lcm_mod {a b : Nat} (ha : 0 < a) (hb : 0 < b) : lcmN a b % a = 0 ∧ lcmN a b % b = 0 ∧ 0 < lcmN a b := by
  obtain ⟨h1, h2, _, h4⟩ := lcmN_facts ha hb
  refine ⟨?_, ?_, h4⟩
  · rw [h1]; exact Nat.mul_mod_left _ _
  · rw [h2]; exact Nat.mul_mod_left _ _
theorem isInf_ic {c : Cv} {n : Nat} (hic : IC (cvF c) n) (hf : finB c = false) (t : Nat) : isInf c t ↔ n ≤ t := by
  constructor
  · intro h
    apply Classical.byContradiction
    intro hh
    exact hic.fin (show t < n by omega) h.2
  · intro h
    exact ⟨hf, hic.hi t h⟩
theorem isInf_fin {c : Cv} (hf : finB c = true) (t : Nat) : ¬ isInf c t := fun h => by have := h.1; rw [hf] at this; cases this
section
variable {a b : Cv}
theorem plus_fin (ha : validB a = true) (hb : validB b = true) (fa : finB a = true) (fb : finB b = true) (hl : lcmC a b ≤ 10000) {S : Nat} (hS : stN a ≤ S ∧ stN b ≤ S) (hS2 : S ≤ 10000) : RepF (plusF a b) S (lcmC a b) (gainC a (lcmC a b) + gainC b (lcmC a b)) := by
  rcases valid_cases ha with ⟨S1, P1, _, l1, p1, fc1, _⟩ | ⟨_, _, _, _, _, _, _, f⟩
  · rcases valid_cases hb with ⟨S2, P2, _, l2, p2, fc2, _⟩ | ⟨_, _, _, _, _, _, _, f⟩
    · have hP1 := fc1.hP
      have hP2 := fc2.hP
      have hI1 := fc1.hI
      have hI2 := fc2.hI
      unfold stN at hS
      unfold lcmC gainC at *
      rw [l1, p1, Int.toNat_natCast, l2, p2, Int.toNat_natCast] at hS
      rw [p1, p2, Int.toNat_natCast, Int.toNat_natCast] at hl ⊢
      obtain ⟨m1, m2, m3⟩ := lcm_mod (a := P1) (b := P2) (by omega) (by omega)
      have g1 := grows_gain (L := lcmN P1 P2) (by omega) (fc1.hg.mono (show S1 ≤ S by omega)) m1
      have g2 := grows_gain (L := lcmN P1 P2) (by omega) (fc2.hg.mono (show S2 ≤ S by omega)) m2
      have hpl : ∀ t, plusF a b t = cvF a t + cvF b t := fun t => if_neg (fun h => h.elim (isInf_fin fa t) (isInf_fin fb t))
      refine ⟨m3, ?_, fun t ht => by rw [hpl, hpl, g1 t ht, g2 t ht]; omega, fun t => by rw [hpl, hpl]; have := fc1.hm t; have := fc2.hm t; omega, by rw [hpl]; have := fc1.h0; have := fc2.h0; omega, fun t ht => ?_⟩
      · have a1 : 0 ≤ (lcmN P1 P2 : Int) / (P1 : Int) * a.inc := Int.mul_nonneg (Int.ediv_nonneg (by omega) (by omega)) hI1.1
        have a2 : 0 ≤ (lcmN P1 P2 : Int) / (P2 : Int) * b.inc := Int.mul_nonneg (Int.ediv_nonneg (by omega) (by omega)) hI2.1
        omega
      · rw [hpl]
        have := fc1.bound t
        have := fc2.bound t
        unfold INF; omega
    · rw [fb] at f; cases f
  · rw [fa] at f; cases f
/-- an infinite valid curve and any valid one -/
theorem inf_at (ha : validB a = true) (fa : finB a = false) : ∃ n, n ≤ stN a ∧ (∀ t, isInf a t ↔ n ≤ t) ∧ IC (cvF a) n := by
  rcases valid_cases ha with ⟨_, _, _, _, _, _, f⟩ | ⟨n, _, h1, h2, _, _, hic, f⟩
  · rw [fa] at f; cases f
  · refine ⟨n, ?_, isInf_ic hic f, hic⟩
    unfold stN
    rw [h2]
    have : (1 : Int).toNat = 1 := rfl
    omega
theorem fin_part (ha : validB a = true) {t : Nat} (h : ¬ isInf a t) (ht : t ≤ 1000000000) : 0 ≤ cvF a t ∧ cvF a t ≤ 1073741824 * ((t : Int) + 2) := by
  have h1 := cvF_bound ha t
  refine ⟨h1.1, h1.2.resolve_left (fun e => h ((isInf_iff ha ht).2 e))⟩
theorem isInf_mono (ha : validB a = true) {s t : Nat} (hst : s ≤ t) (h : isInf a s) : isInf a t := by
  obtain ⟨n, _, h1, _⟩ := inf_at ha h.1
  have := (h1 s).1 h
  exact (h1 t).2 (by omega)
theorem plus_inf (ha : validB a = true) (hb : validB b = true) (hab : ¬ (finB a = true ∧ finB b = true)) {m : Nat} (hm : stN a < m ∧ stN b < m) : ∃ n, RepI (plusF a b) n m := by
  have key : ∀ n : Nat, n < m → n ≤ 400 → (∀ t, (isInf a t ∨ isInf b t) ↔ n ≤ t) → RepI (plusF a b) n m := fun n hn hn4 h => by
    refine ⟨hn, fun t ht => if_pos ((h t).2 ht), fun t ht => ?_, fun t => ?_⟩
    · have hno : ¬ (isInf a t ∨ isInf b t) := fun hh => by have := (h t).1 hh; omega
      have e : plusF a b t = cvF a t + cvF b t := if_neg hno
      have h1 := fin_part ha (fun x => hno (.inl x)) (show t ≤ 1000000000 by omega)
      have h2 := fin_part hb (fun x => hno (.inr x)) (show t ≤ 1000000000 by omega)
      rw [e]
      unfold INF; omega
    · by_cases h1 : isInf a (t + 1) ∨ isInf b (t + 1)
      · rw [show plusF a b (t + 1) = INF from if_pos h1]
        by_cases h2 : isInf a t ∨ isInf b t
        · rw [show plusF a b t = INF from if_pos h2]; exact Int.le_refl _
        · have e : plusF a b t = cvF a t + cvF b t := if_neg h2
          have ht : t < n := by
            apply Classical.byContradiction
            intro hh; exact h2 ((h t).2 (by omega))
          have a1 := fin_part ha (fun x => h2 (.inl x)) (show t ≤ 1000000000 by omega)
          have a2 := fin_part hb (fun x => h2 (.inr x)) (show t ≤ 1000000000 by omega)
          rw [e]; unfold INF; omega
      · have h2 : ¬ (isInf a t ∨ isInf b t) := fun hh => h1 (hh.imp (isInf_mono ha (by omega)) (isInf_mono hb (by omega)))
        rw [show plusF a b (t + 1) = _ from if_neg h1, show plusF a b t = _ from if_neg h2]
        have := cvF_mono ha t
        have := cvF_mono hb t
        omega
  by_cases fa : finB a = true
  · have fb : finB b = false := by simpa using fun h => hab ⟨fa, h⟩
    obtain ⟨n, h1, h2, h3⟩ := inf_at hb fb
    have := h3.hn
    exact ⟨n, key n (by omega) (by omega) (fun t => by
      rw [h2 t]
      exact ⟨fun h => h.elim (fun x => absurd x (isInf_fin fa t)) id, .inr⟩)⟩
  · have fa : finB a = false := by simpa using fa
    obtain ⟨n, h1, h2, h3⟩ := inf_at ha fa
    have hn := h3.hn
    by_cases fb : finB b = true
    · exact ⟨n, key n (by omega) (by omega) (fun t => by
        rw [h2 t]
        exact ⟨fun h => h.elim id (fun x => absurd x (isInf_fin fb t)), .inl⟩)⟩
    · have fb : finB b = false := by simpa using fb
      obtain ⟨n', h1', h2', h3'⟩ := inf_at hb fb
      exact ⟨min n n', key _ (by omega) (by omega) (fun t => by rw [h2 t, h2' t]; omega)⟩
end
def sumC (f g : Cv) : Cv × Int :=
  if validB f = false ∨ validB g = false then (zcv, 1)
  else if 120 < lcmC (normR f) (normR g) then (zcv, 3)
  else mbuild (plusF (normR f) (normR g)) (max (stN (normR f)) (stN (normR g))) (lcmC (normR f) (normR g)) (gainC (normR f) (lcmC (normR f) (normR g)) + gainC (normR g) (lcmC (normR f) (normR g)))
theorem stN_lt {c : Cv} (h : validB c = true) : stN c < c.vals.length ∧ stN c + c.per.toNat = c.vals.length ∧ c.vals.length ≤ 400 := by
  obtain ⟨_, h1, h2, h3, h4, h5, _⟩ := valid_range h
  unfold stN; omega
theorem sum_res {f g : Cv} (hf : validB f = true) (hg : validB g = true) : sumC f g = (zcv, 3) ∨ ∃ c, sumC f g = (c, 0) ∧ Nrm c ∧ cvF c = plusF (normR f) (normR g) ∧ (finB f = true → finB g = true → finB c = true) := by
  have hnf := norm_nrm hf
  have hng := norm_nrm hg
  unfold sumC
  rw [if_neg (by rw [hf, hg]; simp)]
  by_cases hl : 120 < lcmC (normR f) (normR g)
  · rw [if_pos hl]; exact .inl rfl
  · rw [if_neg hl]
    have s1 := stN_lt hnf.valid
    have s2 := stN_lt hng.valid
    by_cases hfin : finB (normR f) = true ∧ finB (normR g) = true
    · rcases (plus_fin hnf.valid hng.valid hfin.1 hfin.2 (by omega) ⟨Nat.le_max_left _ _, Nat.le_max_right _ _⟩ (by omega)).res with h | ⟨c, h1, h2, h3, h4⟩
      · exact .inl h
      · exact .inr ⟨c, h1, h2, h3, fun _ _ => h4⟩
    · have hl0 : 0 < lcmC (normR f) (normR g) := by
        obtain ⟨_, _, _, q1, _⟩ := valid_range hnf.valid
        obtain ⟨_, _, _, q2, _⟩ := valid_range hng.valid
        exact (lcm_mod (by omega) (by omega)).2.2
      obtain ⟨n, hn⟩ := plus_inf hnf.valid hng.valid hfin (m := max (stN (normR f)) (stN (normR g)) + lcmC (normR f) (normR g)) (by omega)
      rcases hn.res (I := gainC (normR f) (lcmC (normR f) (normR g)) + gainC (normR g) (lcmC (normR f) (normR g))) with h | ⟨c, h1, h2, h3, h4⟩
      · exact .inl h
      · refine .inr ⟨c, h1, h2, h3, fun q1 q2 => ?_⟩
        exact absurd ⟨by rw [(norm_valid hf).2.2.2.1]; exact q1, by rw [(norm_valid hg).2.2.2.1]; exact q2⟩ hfin
/-! ### raised -/
def raiseF (a : Cv) (k : Int) (t : Nat) : Int := if t = 0 then 0 else if isInf a t then INF else cvF a t + k
def raiseC (f : Cv) (k : Int) : Cv × Int :=
  if validB f = false then (zcv, 1) else if k < 0 ∨ MAXV < k then (zcv, 2)
  else mbuild (raiseF (normR f) k) (max 1 (stN (normR f))) (normR f).per.toNat (normR f).inc
/-! ### totals -/
def zeroC : Cv := ⟨[0], 1, 0⟩
def totalGo (s : Cv) : List Cv → Cv × Int
  | [] => (s, 0)
  | f :: l => if (sumC s f).2 ≠ 0 then (zcv, (sumC s f).2) else totalGo (sumC s f).1 l
def totalC (l : List Cv) : Cv × Int := totalGo zeroC l
theorem zero_nrm : Nrm zeroC := ⟨by kernel_rfl, by kernel_rfl⟩
theorem total_res : ∀ (l : List Cv) (s : Cv), validB s = true → Nrm s → (∀ f ∈ l, validB f = true) → totalGo s l = (zcv, 3) ∨ ∃ c, totalGo s l = (c, 0) ∧ Nrm c ∧ (finB s = true → (∀ f ∈ l, finB f = true) → finB c = true)
  | [], s, hv, hn, _ => .inr ⟨s, rfl, hn, fun h _ => h⟩
  | f :: l, s, hv, hn, hl => by
    simp only [totalGo]
    rcases sum_res hv (hl f (by simp)) with h | ⟨c, h1, h2, h3, h4⟩
    · rw [h, if_pos (by decide)]; exact .inl rfl
    · rw [h1, if_neg (by simp)]
      rcases total_res l c h2.valid h2 (fun f hf => hl f (by simp [hf])) with h | ⟨c', e1, e2, e3⟩
      · exact .inl h
      · exact .inr ⟨c', e1, e2, fun q1 q2 => e3 (h4 q1 (q2 f (by simp))) (fun f hf => q2 f (by simp [hf]))⟩
/-- a flat one -/
def flatF (k : Int) (t : Nat) : Int := if t = 0 then 0 else k
theorem flatF_bound {k : Int} (hk : 0 ≤ k ∧ k ≤ 1073741824) (t : Nat) : 0 ≤ flatF k t ∧ flatF k t ≤ 1000000000000000 := by unfold flatF; split <;> omega
def flatC (k : Int) : Cv × Int := mbuild (flatF k) 1 1 0
theorem flat_zero : flatC 0 = (zeroC, 0) := by kernel_rfl
/-- curves in memory -/
structure CvS where
  a : Option Addr
  cap : Nat
  cv : Cv
instance instCvS : Inhabited CvS := ⟨⟨none, 0, zcv⟩⟩
def encC (s : CvS) : List Value := [.slice s.a s.cv.vals.length s.cap, .int .i64 s.cv.per, .int .i64 s.cv.inc]
theorem drop_map_cons {ls : List CvS} {i : Nat} (h : i < ls.length) : (ls.map CvS.cv).drop i = (nth ls i).cv :: (ls.map CvS.cv).drop (i + 1) := by
  rw [List.drop_eq_getElem_cons (by simpa using h), List.getElem_map, ← nth_eq h]
/-- the last value that was looked at -/
def lastV (v : List Int) (t : Nat) : Int := if t = 0 then 0 else nth v (t - 1)
theorem lastV_succ (v : List Int) (t : Nat) : lastV v (t + 1) = nth v t := by unfold lastV; rw [if_neg (by omega)]; rfl
end Go.Proofs.YtlgjkmebpnnphaaGreat.M

/- What a curve leaves of a line, plain: the program and the reference make the same. No condition. -/
namespace Go.Proofs.YtlgjkmebpnnphaaGreat.M
open Go Go.Proofs.YtlgjkmebpnnphaaGreat.K

/-- the greatest of the first so many, and 0 -/
def mostF (f : Nat → Int) : Nat → Int
  | 0 => 0
  | n + 1 => max (mostF f n) (f n)
/-- the greatest from s on -/
def tailF (f : Nat → Int) (s : Nat) : Nat → Int
  | 0 => f s
  | d + 1 => max (tailF f s d) (f (s + (d + 1)))
section
variable {f : Nat → Int} {s P : Nat} {D : Int}
end
/-- the difference -/
def rawL (cap : Int) (b : Cv) (t : Nat) : Int := if isInf b t then 0 else cap * (t : Int) - cvF b t
def restF (cap : Int) (b : Cv) (t : Nat) : Int := mostF (rawL cap b) (t + 1)
def driftL (cap : Int) (b : Cv) : Int := b.per * cap - b.inc
def restC (cap : Int) (g : Cv) : Cv × Int :=
  if validB g = false then (zcv, 1)
  else if finB (normR g) = true ∧ 0 < driftL cap (normR g) then
    (if tailF (rawL cap (normR g)) (stN (normR g)) (400 - stN (normR g)) < mostF (rawL cap (normR g)) (stN (normR g)) then (zcv, 3) else mbuild (restF cap (normR g)) 400 (normR g).per.toNat (driftL cap (normR g)))
  else mbuild (restF cap (normR g)) (stN (normR g) + (normR g).per.toNat) 1 0
/-- what the reference adds in a period -/
def gainL (cap : Int) (b : Cv) : Int := if finB b = true then max 0 (driftL cap b) else 0
def restQ (cap : Int) (g : Cv) : Cv × Int :=
  if restF cap (normR g) (400 + (normR g).per.toNat) ≠ restF cap (normR g) 400 + gainL cap (normR g) then (zcv, 3)
  else madeR ⟨fvals (restF cap (normR g)) (400 + (normR g).per.toNat), (normR g).per, gainL cap (normR g)⟩
section
variable {cap : Int} {b : Cv}
end
/-! ### the line itself; what the walk of Rest keeps -/
def lineC (cap : Int) : Cv := ⟨[0], 1, cap⟩
theorem line_facts {cap : Int} (hc : 0 ≤ cap ∧ cap ≤ 1073741824) : Nrm (lineC cap) ∧ cvF (lineC cap) = (fun t : Nat => cap * (t : Int)) ∧ finB (lineC cap) = true ∧ stN (lineC cap) = 0 := by
  have hfc := fc_line (c := cap) hc
  have e0 : fvals (fun t : Nat => cap * (t : Int)) (0 + 1) = [0] := by simp [fvals]
  have hv := hfc.valid'
  rw [e0] at hv
  have hn : normR ⟨[0], 1, cap⟩ = ⟨[0], 1, cap⟩ := by
    obtain ⟨s, p, q, h1, h2, h3, h4, _, h6⟩ := hfc.norm
    have hp := h2.hP
    obtain rfl : s = 0 := by omega
    obtain rfl : p = 1 := by omega
    rw [e0] at h1
    have hq : q = cap := by rw [h6]; simp
    rw [hq] at h1
    exact h1
  have hcv : cvF ⟨[0], 1, cap⟩ = fun t : Nat => cap * (t : Int) := by
    have := cvF_fc hfc
    rw [e0] at this; exact this
  exact ⟨⟨hv, hn⟩, hcv, rfl, rfl⟩
def tailV (f : Nat → Int) (s t : Nat) : Int := if t ≤ s then -INF else tailF f s (t - 1 - s)
def mostV (f : Nat → Int) (s t : Nat) : Int := mostF f (min t s)
end Go.Proofs.YtlgjkmebpnnphaaGreat.M

/- The curve of deficit round robin, plain: it repeats itself from some tick on, so that the program's and the references' forms are one. No condition. -/
namespace Go.Proofs.YtlgjkmebpnnphaaGreat.M
open Go Go.Proofs.YtlgjkmebpnnphaaGreat.K

/-- the quanta of the other classes that have packets, and what they may have saved -/
def xSum (k : Int) (w : List Int) (z : List Sz) : Nat → Int
  | 0 => 0
  | n + 1 => xSum k w z n + (if (n : Int) ≠ k ∧ 1 ≤ (nth z n).most then nth w n else 0)
def zSum (k : Int) (z : List Sz) : Nat → Int
  | 0 => 0
  | n + 1 => zSum k z n + (if (n : Int) ≠ k ∧ 1 ≤ (nth z n).most then (nth z n).most - 1 else 0)
def defOthers (k : Int) (w : List Int) (z : List Sz) (own : Int) : Int :=
  if chkW 6000 1 k w z ≠ 0 ∨ (nth z k.toNat).most < 1 ∨ own < 0 ∨ MAXV < own then 0
  else ((own + (nth z k.toNat).most - 1) / nth w k.toNat + 1) * xSum k w z w.length + zSum k z w.length
def allD (s q l z y : Int) : Int := y + (s - q) * ((y + l - 1) / q + 1) + z
def defH (cap s q l z : Int) (t y : Nat) : Bool := decide (allD s q l z (y : Int) ≥ cap * t)
def defFn (cap s q l z : Int) (t : Nat) : Int := leastY (defH cap s q l z t) (cap * t).toNat
def startD (cap s q l z : Int) : Int := if 2 ≤ l then (allD s q l z (-1)).tdiv cap + 1 else if 1 ≤ z then (z - 1) / cap + 1 else 0
def fromD (cap s q l z : Int) : Int := ((s - q) * ((l - 1) / q + 1) + z) / cap + 1
def defC (cap k : Int) (w : List Int) (z : List Sz) : Cv × Int :=
  if chkW 6000 cap k w z ≠ 0 then (zcv, chkW 6000 cap k w z) else if (nth z k.toNat).most < 1 then (zcv, 5) else
    let q := nth w k.toNat
    let l := (nth z k.toNat).most
    let s := shortN (q + xSum k w z w.length).toNat cap.toNat
    let zz := zSum k z w.length
    if s = -1 then (zcv, 3) else
      let p := s.toNat / Nat.gcd s.toNat cap.toNat
      if 400 < fromD cap s q l zz then (zcv, 3)
      else madeR ⟨fvals (defFn cap s q l zz) ((fromD cap s q l zz).toNat + p), p, cap * p / s * q⟩
section
variable {cap s q l z : Int}
end
/-- all of it, for the walks -/
structure DefOk (cap k : Int) (w : List Int) (z : List Sz) (cn kn m s p mm : Nat) (q l x y : Int) : Prop where
  hs : shortN m cn = s
  s1 : q ≤ s ∧ s ≤ 120 * cn
  sx : q + x ≤ s
  hp : p = s / Nat.gcd s cn
  p1 : 1 ≤ p ∧ p ≤ 120
  hmm : (cn : Int) * p = mm * s
  mm1 : mm ≤ 4000
  hinc : (cn : Int) * p / s * q = mm * q
end Go.Proofs.YtlgjkmebpnnphaaGreat.M

/- Deficit round robin, plain: greater quanta and packets of others leave less. No condition. -/
namespace Go.Proofs.YtlgjkmebpnnphaaGreat.M
open Go Go.Proofs.YtlgjkmebpnnphaaGreat.K

end Go.Proofs.YtlgjkmebpnnphaaGreat.M

/- Priorities, plain: the curve of a class. No condition. -/
namespace Go.Proofs.YtlgjkmebpnnphaaGreat.M
open Go Go.Proofs.YtlgjkmebpnnphaaGreat.K

/-- what may block a class -/
def blkF (cls : Int) (z : List Sz) (i : Nat) : Int := (nth (z.drop (cls + 1).toNat) i).most - 1
def blkN (cls : Int) (z : List Sz) : Int := mostF (blkF cls z) (z.length - (cls + 1).toNat)
def allV (ls : List Cv) : Bool := ls.all fun c => validB c
def midC (tot : Cv × Int) (k : Int) : Cv × Int := if tot.2 = 0 then raiseC tot.1 k else tot
def prioC (cap cls : Int) (ls : List Cv) (z : List Sz) : Cv × Int :=
  if chk18 cap cls z ≠ 0 then (zcv, chk18 cap cls z)
  else if ls.length ≠ z.length then (zcv, 2)
  else if allV ls = false then (zcv, 1)
  else if (midC (totalC (ls.take cls.toNat)) (blkN cls z)).2 ≠ 0 then (zcv, (midC (totalC (ls.take cls.toNat)) (blkN cls z)).2)
  else restC cap (midC (totalC (ls.take cls.toNat)) (blkN cls z)).1
end Go.Proofs.YtlgjkmebpnnphaaGreat.M

/- What one valid curve leaves of another one behind a theta, plain: the program and the reference make the same. No condition. -/
namespace Go.Proofs.YtlgjkmebpnnphaaGreat.M
open Go Go.Proofs.YtlgjkmebpnnphaaGreat.K

/-- the least of n values from a place on, as the program looks for it -/
def leastG (f : Nat → Int) (a : Nat) : Nat → Int
  | 0 => 4611686018427387904
  | n + 1 => min (leastG f a n) (f (a + n))
/-- the least from s to s + d -/
def minF (f : Nat → Int) (s : Nat) : Nat → Int
  | 0 => f s
  | d + 1 => min (minF f s d) (f (s + (d + 1)))
section
variable {f : Nat → Int} {s a : Nat} {D : Int}
end
/-! ### the differences -/
def rawG (b o : Cv) (th u : Nat) : Int := if isInf o (u - th) then 0 else if isInf b u then INF else cvF b u - cvF o (u - th)
def driftG (b o : Cv) : Int := gainC b (lcmC b o) - gainC o (lcmC b o)
def frG (b o : Cv) (th : Nat) : Nat := max (max (stN b) (stN o + th)) (th + 1)
def hG (b o : Cv) (th u : Nat) : Int := if u ≤ th then 0 else max 0 (minF (rawG b o th) u (max (frG b o th) u - u + (lcmC b o - 1)))
section
variable {b o : Cv} {th : Nat}
theorem lcm_pos (hb : validB b = true) (ho : validB o = true) : 0 < lcmC b o := by
  obtain ⟨_, _, _, q1, _⟩ := valid_range hb
  obtain ⟨_, _, _, q2, _⟩ := valid_range ho
  exact (lcm_mod (by omega) (by omega)).2.2
theorem gain_grows (hb : validB b = true) (fb : finB b = true) {L : Nat} (hL : L % b.per.toNat = 0) : Grows (cvF b) (stN b) L (gainC b L) := by
  rcases valid_cases hb with ⟨S1, P1, _, l1, p1, fc1, _⟩ | ⟨_, _, _, _, _, _, _, f⟩
  · have hP1 := fc1.hP
    have hs : stN b = S1 := by unfold stN; rw [l1, p1, Int.toNat_natCast]; omega
    rw [p1, Int.toNat_natCast] at hL
    unfold gainC
    rw [hs, p1]
    exact grows_gain (by omega) fc1.hg hL
  · rw [fb] at f; cases f
/-- the differences do not fall over a common period -/
def UpG (b o : Cv) : Prop := finB o = true ∧ (finB b = true → 0 ≤ driftG b o)
/-! ### what Rest makes -/
def flatB (b o : Cv) (th : Nat) : Prop := finB o = false ∨ (finB b = true ∧ (driftG b o < 0 ∨ (driftG b o = 0 ∧ minF (rawG b o th) (frG b o th) (lcmC b o - 1) ≤ 0)))
instance (b o : Cv) (th : Nat) : Decidable (flatB b o th) := by unfold flatB; infer_instance
def shareN (b o : Cv) (th : Nat) : Cv × Int :=
  if 120 < lcmC b o then (zcv, 3)
  else if flatB b o th then (zeroC, 0)
  else if 400 ≤ th then (zcv, 3)
  else if finB b = true ∧ 0 < driftG b o then
    (if minF (rawG b o th) (max (frG b o th) 400) (lcmC b o - 1) < 0 then (zcv, 3) else mbuild (hG b o th) (max (frG b o th) 400) (lcmC b o) (driftG b o))
  else mbuild (hG b o th) (frG b o th) 1 0
/-! ### what the reference makes -/
def leftG (b o : Cv) (th u : Nat) : Int := if u ≤ th then 0 else max 0 (rawG b o th u)
def bothB (b o : Cv) : Prop := finB b = true ∧ finB o = true
instance (b o : Cv) : Decidable (bothB b o) := by unfold bothB; infer_instance
def flatQ (b o : Cv) (th : Nat) : Prop := (bothB b o ∧ driftG b o < 0) ∨ finB o = false ∨ (bothB b o ∧ driftG b o = 0 ∧ minF (leftG b o th) (th + 400) (lcmC b o - 1) = 0)
instance (b o : Cv) (th : Nat) : Decidable (flatQ b o th) := by unfold flatQ; infer_instance
def incQ (b o : Cv) : Int := if bothB b o then driftG b o else 0
def shareQ (b o : Cv) (th : Nat) : Cv × Int :=
  if 120 < lcmC b o then (zcv, 3)
  else if flatQ b o th then (zeroC, 0)
  else if 400 ≤ th then (zcv, 3)
  else if bothB b o ∧ 0 < driftG b o ∧ minF (rawG b o th) (th + 400) (lcmC b o - 1) < 0 then (zcv, 3)
  else madeR ⟨fvals (hG b o th) (th + 400 + lcmC b o), lcmC b o, incQ b o⟩
end
end Go.Proofs.YtlgjkmebpnnphaaGreat.M

/- Delays and backlogs of any two valid curves, plain: the program and the reference find the same. No condition. -/
namespace Go.Proofs.YtlgjkmebpnnphaaGreat.M
open Go Go.Proofs.YtlgjkmebpnnphaaGreat.K

/-- the least tick with so much, as the program looks for it -/
def reachG (c : Cv) (v : Int) : Int × Bool :=
  if findFrom (fun t => decide (cvF c t ≥ v)) c.vals.length 0 ≠ -1 then (findFrom (fun t => decide (cvF c t ≥ v)) c.vals.length 0, true)
  else if v = INF ∨ c.inc = 0 then (0, false)
  else (findFrom (fun t => decide (cvF c t ≥ v)) (c.per.toNat + 1) (c.vals.length + (((v - cvF c (c.vals.length - 1) + c.inc - 1) / c.inc).toNat - 1) * c.per.toNat), true)
structure IsFirst (F : Nat → Int) (v : Int) (r : Int × Bool) : Prop where
  yes : r.2 = true → ∃ t : Nat, r.1 = t ∧ v ≤ F t ∧ ∀ j, j < t → F j < v
  no : r.2 = false → r.1 = 0 ∧ ∀ t, F t < v
theorem reachG_F {c : Cv} {S P : Nat} (hl : c.vals.length = S + P) (hp : c.per = P) {v : Int} (hv : v ≠ INF) : reachG c v = reachF (cvF c) S P c.inc v := by
  have e : (v = INF ∨ c.inc = 0) ↔ c.inc = 0 := ⟨fun h => h.resolve_left hv, .inr⟩
  unfold reachG reachF
  rw [hl, hp, Int.toNat_natCast]
  simp only [e]
theorem reachG_inf {c : Cv} (hv : validB c = true) (hf : finB c = false) {v : Int} (h : v ≤ INF) : IsFirst (cvF c) v (reachG c v) ∧ (reachG c v).2 = true ∧ (reachG c v).1 ≤ stN c := by
  obtain ⟨n, h1, h2, h3⟩ := inf_at hv hf
  have hs := stN_lt hv
  unfold reachG
  rcases findFrom_cases (fun t => decide (cvF c t ≥ v)) c.vals.length 0 with ⟨i, k1, k2, k3, k4, k5⟩ | ⟨k1, k2⟩
  · have hin : i ≤ n := by
      apply Classical.byContradiction
      intro hh
      have := of_decide_eq_false (k5 n (Nat.zero_le _) (by omega))
      rw [h3.hi n (Nat.le_refl _)] at this
      omega
    rw [k3, if_pos (by omega)]
    exact ⟨⟨fun _ => ⟨i, rfl, of_decide_eq_true k4, fun j hj => by have := of_decide_eq_false (k5 j (Nat.zero_le _) hj); omega⟩, fun hh => by cases hh⟩, rfl, by dsimp only; omega⟩
  · have := of_decide_eq_false (k2 n (Nat.zero_le _) (by omega))
    rw [h3.hi n (Nat.le_refl _)] at this
    omega
theorem reachG_none {c : Cv} (hv : validB c = true) (hf : finB c = true) : reachG c INF = (0, false) := by
  rcases valid_cases hv with ⟨S, P, _, hl, hp, hfc, _⟩ | ⟨_, _, _, _, _, _, _, f⟩
  · unfold reachG
    rw [show findFrom (fun t => decide (cvF c t ≥ INF)) c.vals.length 0 = -1 from findFrom_none (fun j _ hj => decide_eq_false (by have := hfc.hb j (by omega); unfold INF; omega)), if_neg (fun hh => hh rfl), if_pos (.inl rfl)]
  · rw [hf] at f; cases f
theorem reachG_bound {c : Cv} (hv : validB c = true) {v : Int} (h : v = INF ∨ (0 ≤ v ∧ v ≤ 1000000000000000)) : -1 ≤ (reachG c v).1 ∧ (reachG c v).1 ≤ 200000000000000000 := by
  cases hf : finB c with
  | false =>
    obtain ⟨h1, h2, h3⟩ := reachG_inf hv hf (v := v) (by unfold INF at *; omega)
    obtain ⟨t, e, _⟩ := h1.yes h2
    have := stN_lt hv
    omega
  | true =>
    rcases h with rfl | h
    · rw [reachG_none hv hf]; decide
    · rcases valid_cases hv with ⟨S, P, _, hl, hp, hfc, _⟩ | ⟨_, _, _, _, _, _, _, f⟩
      · rw [reachG_F hl hp (by unfold INF; omega)]
        exact reach_bound hfc h
      · rw [hf] at f; cases f
/-! ### the greatest distance -/
/-! ### delays, backlogs -/
def loose (a b : Cv) : Prop := finB b = true ∧ (finB a = false ∨ gainC b (lcmC a b) < gainC a (lcmC a b))
instance (a b : Cv) : Decidable (loose a b) := by unfold loose; infer_instance
def fastQ (a b : Cv) : Prop := finB a = true ∧ finB b = true ∧ 0 < gainC a (lcmC a b) - gainC b (lcmC a b)
instance (a b : Cv) : Decidable (fastQ a b) := by unfold fastQ; infer_instance
def gapD (a b : Cv) (t : Nat) : Int × Bool := ((reachG b (cvF a t)).1 - t, (reachG b (cvF a t)).2)
def gapA (a b : Cv) (d t : Nat) : Int × Bool := if isInf b t then (0, true) else (cvF a (t + d) - cvF b t, !decide (isInf a (t + d)))
def devN (a b : Cv) (f : Nat → Int × Bool) : (Bool × Int × Int) × Int :=
  if 120 < lcmC a b then ((false, 0, 0), 3) else if loose a b then ((true, 0, 0), 0) else (greatW f (max (stN a) (stN b) + lcmC a b) 0 0 0, 0)
def devQ (a b : Cv) (f : Nat → Int × Bool) : (Bool × Int × Int) × Int :=
  if 120 < lcmC a b then ((false, 0, 0), 3) else if fastQ a b then ((true, 0, 0), 0) else (greatW f (max a.vals.length b.vals.length + lcmC a b) 0 0 0, 0)
section
variable {a b : Cv}
theorem gains (ha : validB a = true) (hb : validB b = true) (fa : finB a = true) (fb : finB b = true) : Grows (cvF a) (stN a) (lcmC a b) (gainC a (lcmC a b)) ∧ Grows (cvF b) (stN b) (lcmC a b) (gainC b (lcmC a b)) := by
  obtain ⟨_, _, _, q1, _⟩ := valid_range ha
  obtain ⟨_, _, _, q2, _⟩ := valid_range hb
  obtain ⟨m1, m2, _⟩ := lcm_mod (a := a.per.toNat) (b := b.per.toNat) (by omega) (by omega)
  exact ⟨gain_grows ha fa m1, gain_grows hb fb m2⟩
theorem cvF_low15 (ha : validB a = true) {u : Nat} (hu : u ≤ 100000) : cvF a u = INF ∨ (0 ≤ cvF a u ∧ cvF a u ≤ 1000000000000000) := by
  have := cvF_bound ha u
  rcases this.2 with h | h
  · exact .inl h
  · right; omega
end
end Go.Proofs.YtlgjkmebpnnphaaGreat.M

/- What a class is sent while it is backlogged, plain, whatever the choice: an invariant of the rounds is carried from tick to tick. No condition. -/
namespace Go.Proofs.YtlgjkmebpnnphaaGreat.M
open Go Go.Proofs.YtlgjkmebpnnphaaGreat.K

/-- the bytes of a class that have been begun -/
def begK (k : Int) : List Pkt → List Bool → Int
  | p :: ps, b :: bs => (if b = true ∧ p.flow = k then p.size else 0) + begK k ps bs
  | _, _ => 0
theorem begK_set (k : Int) : ∀ (ps : List Pkt) (bs : List Bool) (i : Nat), i < ps.length → i < bs.length → nth bs i = false → begK k ps (bs.set i true) = begK k ps bs + (if (nth ps i).flow = k then (nth ps i).size else 0)
  | [], _, i, h, _, _ => by simp at h
  | _ :: _, [], i, _, h, _ => by simp at h
  | p :: ps, b :: bs, 0, _, _, hb => by
    have : b = false := hb
    subst this
    simp only [List.set_cons_zero, begK, show nth (p :: ps) 0 = p from rfl]
    simp; omega
  | p :: ps, b :: bs, i + 1, h1, h2, hb => by
    have := begK_set k ps bs i (by simpa using h1) (by simpa using h2) hb
    simp only [List.set_cons_succ, begK, this]
    rw [show nth (p :: ps) (i + 1) = nth ps i from rfl]; omega
/-- a class of which less has been begun than has arrived waits -/
theorem begK_wait {k t : Int} (hk : 0 ≤ k) : ∀ (ps : List Pkt) (bs : List Bool), bs.length = ps.length → (∀ p ∈ ps, 0 ≤ p.size) → begK k ps bs < pbytes k (t + 1) ps → ∃ i, i < ps.length ∧ nth bs i = false ∧ (nth ps i).flow = k ∧ (nth ps i).time ≤ t
  | [], _, _, _, h => by simp [begK, pbytes] at h
  | _ :: _, [], hl, _, _ => by simp at hl
  | p :: ps, b :: bs, hl, hs, h => by
    have hp := hs p (by simp)
    by_cases h0 : b = false ∧ p.flow = k ∧ p.time ≤ t
    · exact ⟨0, by simp, h0.1, h0.2.1, h0.2.2⟩
    · have h1 : begK k ps bs < pbytes k (t + 1) ps := by
        simp only [begK, pbytes] at h
        by_cases hh : hit k (t + 1) p
        · rw [if_pos hh] at h
          have hb : b = true ∧ p.flow = k := by
            unfold hit at hh
            have hf : p.flow = k := by omega
            refine ⟨?_, hf⟩
            cases b with
            | true => rfl
            | false => exact absurd ⟨rfl, hf, by omega⟩ h0
          rw [if_pos hb] at h
          omega
        · rw [if_neg hh] at h
          split at h <;> omega
      obtain ⟨i, g1, g2, g3, g4⟩ := begK_wait hk ps bs (by simpa using hl) (fun q hq => hs q (by simp [hq])) h1
      exact ⟨i + 1, by simpa using g1, g2, g3, g4⟩

/-- the sums of a class: begun, less what is still to be sent of the open packet -/
def Cl {σ : Type} (ps : List Pkt) (k : Nat) (col : Nat) (s : RS σ) : Prop :=
  nth (nth s.sent k) col = begK k ps s.ms.begun - (if 0 ≤ s.cur ∧ (nth ps s.cur.toNat).flow = k then s.rest else 0)
/-- an invariant of the rounds: of the choice's state, the open packet and what is left of it, what the class and all others have been sent -/
structure Per {σ : Type} (ps : List Pkt) (ch : MS → σ → Int × Nat × σ) (good : MS → σ → Prop) (k : Nat) (J : σ → Int → Int → Int → Int → Prop) : Prop where
  pick : ∀ ms sg r own oth, good ms sg → ms.begun.length = ps.length → (∃ i, i < ps.length ∧ nth ms.begun i = false ∧ (nth ps i).flow = k ∧ (nth ps i).time ≤ ms.now) → J sg (-1) r own oth → 0 ≤ (ch ms sg).1 → J (ch ms sg).2.2 (ch ms sg).1 (nth ps (ch ms sg).1.toNat).size own oth
  send : ∀ (sg : σ) (cur rest own oth n : Int), 0 ≤ cur → cur < ps.length → 1 ≤ n → n ≤ rest → J sg cur rest own oth →
    J sg (if rest - n = 0 then -1 else cur) (rest - n) (own + (if (nth ps cur.toNat).flow = k then n else 0)) (oth + (if (nth ps cur.toNat).flow = k then 0 else n))
  none : ∀ sg c c' r r' own oth, c < 0 → c' < 0 → J sg c r own oth → J sg c' r' own oth
section
variable {σ : Type} {ps : List Pkt} {ch : MS → σ → Int × Nat × σ} {good : MS → σ → Prop} {rel : Nat → Nat → Prop} {classes col k : Nat} {s : RS σ} {J : σ → Int → Int → Int → Int → Prop}
theorem Cl.pickup (hg : Fair ps ch good rel) (hw : Wk ps classes good rel col s) (h : Cl ps k col s) : Cl ps k col (pickup ps ch s) := by
  unfold M.pickup
  by_cases hc : 0 ≤ s.cur
  · rw [if_pos hc]; exact h
  · rw [if_neg hc]
    unfold Cl at h
    rw [if_neg (by omega)] at h
    by_cases hr : (ch s.ms s.sg).1 < 0
    · simp only [hr, if_true]
      unfold Cl
      dsimp only
      rw [if_neg (by omega)]; exact h
    · simp only [hr, if_false]
      have hi := hg.idx _ _ hw.good hw.blen (by omega)
      obtain ⟨w1, w2⟩ := hg.waits _ _ hw.good hw.blen (by omega)
      have hb := hw.blen
      unfold Cl
      dsimp only
      rw [begK_set _ _ _ _ (by omega) (by omega) w1, h]
      by_cases hf : (nth ps (ch s.ms s.sg).1.toNat).flow = k
      · rw [if_pos hf, if_pos ⟨by omega, hf⟩]; omega
      · rw [if_neg hf, if_neg (fun h => hf h.2)]; omega
/-- what is sent of the class: n or nothing -/
theorem Cl.send (hfl : ∀ p ∈ ps, 0 ≤ p.flow ∧ p.flow < classes) (hk : k < classes) {t : Nat} (hw : Wk ps classes good rel (t + 1) s) (h : Cl ps k (t + 1) s) (hc : 0 ≤ s.cur) (hl : 0 < s.ms.left) :
    ∃ n, 1 ≤ n ∧ n ≤ s.rest ∧ (M.send ps t s).ms.left = s.ms.left - n ∧ (M.send ps t s).rest = s.rest - n ∧ (M.send ps t s).cur = (if s.rest - n = 0 then -1 else s.cur) ∧ (M.send ps t s).sg = s.sg ∧ (M.send ps t s).ms.begun = s.ms.begun ∧
      nth (nth (M.send ps t s).sent k) (t + 1) = nth (nth s.sent k) (t + 1) + (if (nth ps s.cur.toNat).flow = k then n else 0) ∧ Cl ps k (t + 1) (M.send ps t s) := by
  obtain ⟨c1, c2, c3⟩ := hw.cur hc
  have hfl' := hfl _ (nth_mem (show s.cur.toNat < ps.length by omega))
  have hlen := hw.slen
  refine ⟨if s.ms.left < s.rest then s.ms.left else s.rest, by split <;> omega, by split <;> omega, rfl, rfl, rfl, rfl, rfl, ?_⟩
  have hn : (if s.ms.left < s.rest then s.ms.left else s.rest) ≤ s.rest := by split <;> omega
  have hcol : nth (nth (M.send ps t s).sent k) (t + 1) = nth (nth s.sent k) (t + 1) + (if (nth ps s.cur.toNat).flow = k then (if s.ms.left < s.rest then s.ms.left else s.rest) else 0) := by
    unfold M.send
    dsimp only
    by_cases hf : (nth ps s.cur.toNat).flow = k
    · have e : (nth ps s.cur.toNat).flow.toNat = k := by omega
      rw [if_pos hf, e, nth_set_self (by omega), nth_set_self]
      have := hw.rlen _ (nth_mem (xs := s.sent) (k := k) (by omega))
      omega
    · rw [if_neg hf, nth_set_ne (by omega)]; omega
  refine ⟨hcol, ?_⟩
  unfold Cl at h ⊢
  rw [hcol, h]
  unfold M.send
  dsimp only
  generalize (if s.ms.left < s.rest then s.ms.left else s.rest) = n at hn ⊢
  by_cases hf : (nth ps s.cur.toNat).flow = k
  · rw [if_pos ⟨hc, hf⟩, if_pos hf]
    by_cases hz : s.rest - n = 0
    · simp only [hz, if_true]; rw [if_neg (by omega)]; omega
    · simp only [hz, if_false]; rw [if_pos ⟨hc, hf⟩]; omega
  · rw [if_neg (fun h => hf h.2), if_neg hf]
    by_cases hz : s.rest - n = 0
    · simp only [hz, if_true]; rw [if_neg (by omega)]; omega
    · simp only [hz, if_false]; rw [if_neg (fun h => hf h.2)]; omega
theorem Per.inner (hg : Fair ps ch good rel) (hb : Busy ps ch good) (hJ : Per ps ch good k J) (hs : ∀ p ∈ ps, 1 ≤ p.size) (hfl : ∀ p ∈ ps, 0 ≤ p.flow ∧ p.flow < classes) (hk : k < classes) {t : Nat} : ∀ (j : Nat) (s : RS σ) (own oth : Int), Wk ps classes good rel (t + 1) s → Cl ps k (t + 1) s → s.ms.now = t → 0 ≤ s.ms.left →
    (J s.sg s.cur s.rest own oth ∨ pbytes k ((t : Int) + 1) ps ≤ nth (nth s.sent k) (t + 1)) →
    Cl ps k (t + 1) (inner ps ch t j s) ∧ nth (nth s.sent k) (t + 1) ≤ nth (nth (inner ps ch t j s).sent k) (t + 1) ∧
      (nth (nth (inner ps ch t j s).sent k) (t + 1) < pbytes k ((t : Int) + 1) ps →
        J (inner ps ch t j s).sg (inner ps ch t j s).cur (inner ps ch t j s).rest (own + (nth (nth (inner ps ch t j s).sent k) (t + 1) - nth (nth s.sent k) (t + 1))) (oth + ((colSum (inner ps ch t j s).sent (t + 1) - colSum s.sent (t + 1)) - (nth (nth (inner ps ch t j s).sent k) (t + 1) - nth (nth s.sent k) (t + 1)))))
  | 0, s, own, oth, hw, hc, hn, hl, h => by
    simp only [M.inner]
    refine ⟨hc, Int.le_refl _, fun hlt => ?_⟩
    rcases h with h | h
    · simpa using h
    · omega
  | j + 1, s, own, oth, hw, hc, hn, hl, h => by
    simp only [M.inner]
    by_cases hl0 : s.ms.left ≤ 0
    · rw [if_pos hl0]
      refine ⟨hc, Int.le_refl _, fun hlt => ?_⟩
      rcases h with h | h
      · simpa using h
      · omega
    · rw [if_neg hl0]
      have hw1 := hw.pickup hg hs
      have hc1 := hc.pickup hg hw
      obtain ⟨e1, e2, e3, e4⟩ := pickup_same ps ch s
      -- the choice
      have hJ1 : nth (nth s.sent k) (t + 1) < pbytes k ((t : Int) + 1) ps → 0 ≤ (M.pickup ps ch s).cur ∧ J (M.pickup ps ch s).sg (M.pickup ps ch s).cur (M.pickup ps ch s).rest own oth := fun hlt => by
        have h := h.resolve_right (by omega)
        by_cases hcur : 0 ≤ s.cur
        · unfold M.pickup; rw [if_pos hcur]; exact ⟨hcur, h⟩
        · unfold Cl at hc
          rw [if_neg (fun x => hcur x.1)] at hc
          obtain ⟨i, g1, g2, g3, g4⟩ := begK_wait (k := (k : Int)) (t := (t : Int)) (by omega) ps s.ms.begun hw.blen (fun p hp => by have := hs p hp; omega) (by omega)
          have hr0 : 0 ≤ (ch s.ms s.sg).1 := by
            apply Classical.byContradiction
            intro hneg
            have := hb _ _ hw.good hw.blen (by omega) i g1 (by omega)
            rw [this] at g2; cases g2
          have hp := hJ.pick s.ms s.sg s.rest own oth hw.good hw.blen ⟨i, g1, g2, g3, by omega⟩ (hJ.none _ s.cur _ s.rest _ own oth (by omega) (by omega) h) hr0
          unfold M.pickup
          rw [if_neg hcur]
          dsimp only
          rw [if_neg (by omega)]
          exact ⟨hr0, hp⟩
      by_cases hcn : (M.pickup ps ch s).cur < 0
      · rw [if_pos hcn]
        refine ⟨hc1, by rw [e3]; exact Int.le_refl _, fun hlt => ?_⟩
        rw [e3] at hlt
        have := (hJ1 hlt).1
        omega
      · rw [if_neg hcn]
        obtain ⟨n, n1, n2, n3, n4, n5, n6, n7, n8, n9⟩ := Cl.send hfl hk hw1 hc1 (by omega) (by rw [e1]; omega)
        obtain ⟨g1, g2, g3, g4, g5, g6⟩ := hw1.send hfl hg.free (by rw [e2]; exact hn) (by omega) (by rw [e1]; omega)
        have hn0 : 0 ≤ (if (nth ps (M.pickup ps ch s).cur.toNat).flow = (k : Int) then n else 0) := by split <;> omega
        have hcc := hw1.cur (by omega)
        obtain ⟨r1, r2, r3⟩ := Per.inner hg hb hJ hs hfl hk j (M.send ps t (M.pickup ps ch s)) (own + (if (nth ps (M.pickup ps ch s).cur.toNat).flow = (k : Int) then n else 0)) (oth + (if (nth ps (M.pickup ps ch s).cur.toNat).flow = (k : Int) then 0 else n)) g1 n9 (by rw [g5, e2]; exact hn) g3 (by
          by_cases hlt : nth (nth s.sent k) (t + 1) < pbytes k ((t : Int) + 1) ps
          · left
            have := hJ.send _ _ _ _ _ n (by omega) hcc.1 n1 n2 (hJ1 hlt).2
            rw [n4, n5, n6]; exact this
          · right; rw [n8, e3]; omega)
        have hcs : colSum (M.send ps t (M.pickup ps ch s)).sent (t + 1) = colSum s.sent (t + 1) + n := by rw [g2, n3, e3]; omega
        refine ⟨r1, by rw [n8, e3] at r2; omega, fun hlt => ?_⟩
        have := r3 hlt
        rw [n8, hcs, e3] at this
        have ea : own + (if (nth ps (M.pickup ps ch s).cur.toNat).flow = (k : Int) then n else 0) + (nth (nth (M.inner ps ch t j (M.send ps t (M.pickup ps ch s))).sent k) (t + 1) - (nth (nth s.sent k) (t + 1) + (if (nth ps (M.pickup ps ch s).cur.toNat).flow = (k : Int) then n else 0))) = own + (nth (nth (M.inner ps ch t j (M.send ps t (M.pickup ps ch s))).sent k) (t + 1) - nth (nth s.sent k) (t + 1)) := by omega
        rw [ea] at this
        have eb : oth + (if (nth ps (M.pickup ps ch s).cur.toNat).flow = (k : Int) then 0 else n) + ((colSum (M.inner ps ch t j (M.send ps t (M.pickup ps ch s))).sent (t + 1) - (colSum s.sent (t + 1) + n)) - (nth (nth (M.inner ps ch t j (M.send ps t (M.pickup ps ch s))).sent k) (t + 1) - (nth (nth s.sent k) (t + 1) + (if (nth ps (M.pickup ps ch s).cur.toNat).flow = (k : Int) then n else 0)))) = oth + ((colSum (M.inner ps ch t j (M.send ps t (M.pickup ps ch s))).sent (t + 1) - colSum s.sent (t + 1)) - (nth (nth (M.inner ps ch t j (M.send ps t (M.pickup ps ch s))).sent k) (t + 1) - nth (nth s.sent k) (t + 1))) := by split <;> omega
        rw [eb] at this
        exact this
/-- the state at the beginning of a tick -/
def opened (cap : Int) (t : Nat) (s : RS σ) : RS σ := { s with ms := { s.ms with now := t, left := cap }, sent := s.sent.map fun l => l ++ [nth l t] }
theorem opened_row {t : Nat} {l : List Int} (h : l.length = t + 1) : nth (l ++ [nth l t]) (t + 1) = nth l t := by
  unfold nth List.getD
  rw [List.getElem?_append_right (by omega), h]; simp
theorem Wk.opened (hg : Fair ps ch good rel) {t : Nat} {cap : Int} (h : Wk ps classes good rel t s) (hnow : s.ms.now ≤ t) : Wk ps classes good rel (t + 1) (M.opened cap t s) ∧ colSum (M.opened cap t s).sent (t + 1) = colSum s.sent t := by
  have hcol : colSum (s.sent.map fun l => l ++ [nth l t]) (t + 1) = colSum s.sent t := colSum_map _ (fun l hl => opened_row (h.rlen l hl))
  refine ⟨⟨hg.free _ _ _ _ h.good, h.dlen, h.blen, by simp [M.opened, h.slen], fun l hl => ?_, h.cur, h.open_, fun i hi hb hne => ?_, fun i hi hb => ?_, h.ord, h.dord, by unfold M.opened; dsimp only; rw [hcol]; exact h.sum⟩, hcol⟩
  · obtain ⟨l', h2, rfl⟩ := List.mem_map.1 hl
    simp [h.rlen l' h2]
  · have := h.shut i hi hb hne
    unfold M.opened; dsimp only; omega
  · have := h.time i hi hb
    unfold M.opened; dsimp only; omega
end
end Go.Proofs.YtlgjkmebpnnphaaGreat.M

/- Weighted round robin while a class is backlogged, plain: what the others take. No condition. -/
namespace Go.Proofs.YtlgjkmebpnnphaaGreat.M
open Go Go.Proofs.YtlgjkmebpnnphaaGreat.K

section
variable {w : List Int} {z : List Sz} {k : Nat}
/-- what the others may still take, from the beginning of class c on until class k -/
def restR (w : List Int) (z : List Sz) (k c : Nat) : Int := if c ≤ k then qSum k w z k - qSum k w z c else qSum k w z w.length - qSum k w z c + qSum k w z k
def mosts (w : List Int) (z : List Sz) (c : Nat) : Int := nth w c * (nth z c).most
theorem qSum_succ (i : Nat) : qSum k w z (i + 1) = qSum k w z i + (if i ≠ k then mosts w z i else 0) := by
  simp only [qSum, mosts]
  by_cases h : i = k
  · rw [if_neg (by omega), if_neg (by omega)]
  · rw [if_pos (by omega), if_pos h]
theorem restR_self : restR w z k k = 0 := by unfold restR; rw [if_pos (Nat.le_refl _)]; omega
theorem restR_next {c : Nat} (hc : c < w.length) (hk : k < w.length) (hne : c ≠ k) : restR w z k ((c + 1) % w.length) = restR w z k c - mosts w z c := by
  have hs := qSum_succ (w := w) (z := z) (k := k) c
  rw [if_pos hne] at hs
  by_cases hl : c + 1 < w.length
  · rw [Nat.mod_eq_of_lt hl]
    unfold restR
    by_cases h : c ≤ k
    · rw [if_pos h, if_pos (by omega), hs]; omega
    · rw [if_neg h, if_neg (by omega), hs]; omega
  · have e : c + 1 = w.length := by omega
    rw [e, Nat.mod_self]
    unfold restR
    rw [if_pos (Nat.zero_le _), if_neg (by omega), ← e, hs]
    have h0 : qSum k w z 0 = 0 := rfl
    omega
theorem restR_first (hk : k < w.length) : restR w z k ((k + 1) % w.length) = qSum k w z w.length := by
  have hs := qSum_succ (w := w) (z := z) (k := k) k
  rw [if_neg (by omega)] at hs
  by_cases hl : k + 1 < w.length
  · rw [Nat.mod_eq_of_lt hl]
    unfold restR
    rw [if_neg (by omega), hs]; omega
  · have e : k + 1 = w.length := by omega
    rw [e, Nat.mod_self]
    unfold restR
    rw [if_pos (Nat.zero_le _), ← e, hs]
    have h0 : qSum k w z 0 = 0 := rfl
    omega
/-- in class c, l packets of whose visit are to come and op bytes of the open one -/
def JR (w : List Int) (z : List Sz) (k c : Nat) (l op own oth : Int) : Prop :=
  c < w.length ∧ 0 ≤ l ∧
  if c = k then ∃ f : Nat, oth ≤ qSum k w z w.length * f ∧ nth w k * (nth z k).least * f ≤ own + op + l * (nth z k).least ∧ nth w k * (nth z k).least * ((f : Int) - 1) ≤ own
  else ∃ f : Nat, oth + op + l * (nth z c).most + (restR w z k c - mosts w z c) ≤ qSum k w z w.length * ((f : Int) + 1) ∧ nth w k * (nth z k).least * f ≤ own
theorem JR.next (hw : ∀ x ∈ w, 1 ≤ x) (hz : ∀ c, c < w.length → 0 ≤ (nth z c).least ∧ (nth z c).least ≤ (nth z c).most) (hk : k < w.length) (hn : 2 ≤ w.length) {c : Nat} {l own oth : Int} (h : JR w z k c l 0 own oth) (hl : c = k → l ≤ 0) :
    JR w z k ((c + 1) % w.length) (nth w ((c + 1) % w.length)) 0 own oth := by
  obtain ⟨h1, h2, h3⟩ := h
  have hlt : (c + 1) % w.length < w.length := Nat.mod_lt _ (by omega)
  have hwc := hw _ (nth_mem hlt)
  refine ⟨hlt, by omega, ?_⟩
  by_cases hck : c = k
  · subst hck
    rw [if_pos rfl] at h3
    obtain ⟨f, f1, f2, f3⟩ := h3
    have hne : (c + 1) % w.length ≠ c := by
      by_cases hh : c + 1 < w.length
      · rw [Nat.mod_eq_of_lt hh]; omega
      · rw [show c + 1 = w.length by omega, Nat.mod_self]; omega
    rw [if_neg hne]
    refine ⟨f, ?_, ?_⟩
    · rw [restR_first hk]
      show oth + 0 + mosts w z ((c + 1) % w.length) + (_ - mosts w z ((c + 1) % w.length)) ≤ _
      rw [Int.mul_add, Int.mul_one]; omega
    · have : l = 0 := by have := hl rfl; omega
      rw [this] at f2
      simpa using f2
  · rw [if_neg hck] at h3
    obtain ⟨f, f1, f2⟩ := h3
    have hr := restR_next (z := z) h1 hk hck
    have hl0 : 0 ≤ l * (nth z c).most := Int.mul_nonneg h2 (by have := hz c h1; omega)
    by_cases hnk : (c + 1) % w.length = k
    · rw [if_pos hnk, hnk]
      rw [hnk, restR_self] at hr
      refine ⟨f + 1, ?_, ?_, ?_⟩
      · have : ((f + 1 : Nat) : Int) = (f : Int) + 1 := by omega
        rw [this]; omega
      · have : ((f + 1 : Nat) : Int) = (f : Int) + 1 := by omega
        rw [this, Int.mul_add, Int.mul_one]; omega
      · have : ((f + 1 : Nat) : Int) - 1 = (f : Int) := by omega
        rw [this]; exact f2
    · rw [if_neg hnk]
      refine ⟨f, ?_, f2⟩
      show oth + 0 + mosts w z ((c + 1) % w.length) + (_ - mosts w z ((c + 1) % w.length)) ≤ _
      omega
end
end Go.Proofs.YtlgjkmebpnnphaaGreat.M

/- Weighted round robin: the invariant of the rounds while a class is backlogged, plain. No condition. -/
namespace Go.Proofs.YtlgjkmebpnnphaaGreat.M
open Go Go.Proofs.YtlgjkmebpnnphaaGreat.K

/-- an invariant of every run: of the choice's state, the open packet and what is left of it -/
structure Vis {σ : Type} (ps : List Pkt) (ch : MS → σ → Int × Nat × σ) (good : MS → σ → Prop) (V : σ → Int → Int → Prop) : Prop where
  pick : ∀ ms sg r, good ms sg → ms.begun.length = ps.length → V sg (-1) r → 0 ≤ (ch ms sg).1 → V (ch ms sg).2.2 (ch ms sg).1 (nth ps (ch ms sg).1.toNat).size
  idle : ∀ ms sg r r', good ms sg → ms.begun.length = ps.length → V sg (-1) r → (ch ms sg).1 < 0 → V (ch ms sg).2.2 (ch ms sg).1 r'
  send : ∀ (sg : σ) (cur rest n : Int), 0 ≤ cur → cur < ps.length → 1 ≤ n → n ≤ rest → V sg cur rest → V sg (if rest - n = 0 then -1 else cur) (rest - n)
  none : ∀ sg c c' r r', c < 0 → c' < 0 → V sg c r → V sg c' r'
section
variable {σ : Type} {ps : List Pkt} {ch : MS → σ → Int × Nat × σ} {good : MS → σ → Prop} {rel : Nat → Nat → Prop} {classes k : Nat} {V : σ → Int → Int → Prop}
theorem Vis.inner (hg : Fair ps ch good rel) (hV : Vis ps ch good V) (hs : ∀ p ∈ ps, 1 ≤ p.size) (hfl : ∀ p ∈ ps, 0 ≤ p.flow ∧ p.flow < classes) {t : Nat} : ∀ (j : Nat) (s : RS σ), Wk ps classes good rel (t + 1) s → s.ms.now = t → 0 ≤ s.ms.left → V s.sg s.cur s.rest →
    V (inner ps ch t j s).sg (inner ps ch t j s).cur (inner ps ch t j s).rest
  | 0, s, hw, hn, hl, h => h
  | j + 1, s, hw, hn, hl, h => by
    simp only [M.inner]
    by_cases hl0 : s.ms.left ≤ 0
    · rw [if_pos hl0]; exact h
    · rw [if_neg hl0]
      have hw1 := hw.pickup hg hs
      obtain ⟨e1, e2, e3, e4⟩ := pickup_same ps ch s
      have h1 : V (M.pickup ps ch s).sg (M.pickup ps ch s).cur (M.pickup ps ch s).rest := by
        unfold M.pickup
        by_cases hcur : 0 ≤ s.cur
        · rw [if_pos hcur]; exact h
        · rw [if_neg hcur]
          have h0 := hV.none s.sg s.cur (-1) s.rest s.rest (by omega) (by omega) h
          by_cases hr : (ch s.ms s.sg).1 < 0
          · simp only [hr, if_true]
            exact hV.idle _ _ _ _ hw.good hw.blen h0 hr
          · simp only [hr, if_false]
            exact hV.pick _ _ _ hw.good hw.blen h0 (by omega)
      by_cases hcn : (M.pickup ps ch s).cur < 0
      · rw [if_pos hcn]; exact h1
      · rw [if_neg hcn]
        obtain ⟨c1, c2, c3⟩ := hw1.cur (by omega)
        obtain ⟨g1, g2, g3, g4, g5, g6⟩ := hw1.send hfl hg.free (by rw [e2]; exact hn) (by omega) (by rw [e1]; omega)
        refine Vis.inner hg hV hs hfl j _ g1 (by rw [g5, e2]; exact hn) g3 ?_
        have hle : (if (M.pickup ps ch s).ms.left < (M.pickup ps ch s).rest then (M.pickup ps ch s).ms.left else (M.pickup ps ch s).rest) ≤ (M.pickup ps ch s).rest := by split <;> omega
        have hge : 1 ≤ (if (M.pickup ps ch s).ms.left < (M.pickup ps ch s).rest then (M.pickup ps ch s).ms.left else (M.pickup ps ch s).rest) := by rw [e1]; split <;> omega
        exact hV.send _ _ _ _ (by omega) c1 hge hle h1
end
/-! ### round robin -/
def Jrob (ps : List Pkt) (w : List Int) (z : List Sz) (k : Nat) (sg : Nat × Int) (cur rest own oth : Int) : Prop := JR w z k sg.1 sg.2 (if 0 ≤ cur then rest else 0) own oth ∧ (0 ≤ cur → (nth ps cur.toNat).flow = sg.1)
/-- sizes of the packets of each class -/
def SzOf (ps : List Pkt) (z : List Sz) : Prop := ∀ i, i < ps.length → (nth z (nth ps i).flow.toNat).least ≤ (nth ps i).size ∧ (nth ps i).size ≤ (nth z (nth ps i).flow.toNat).most
section
variable {ps : List Pkt} {w : List Int} {z : List Sz} {k : Nat}
/-- where every run stands -/
def Vrob (ps : List Pkt) (w : List Int) (sg : Nat × Int) (cur rest : Int) : Prop := sg.1 < w.length ∧ 0 ≤ sg.2 ∧ sg.2 ≤ nth w sg.1 ∧ (0 ≤ cur → cur < ps.length ∧ (nth ps cur.toNat).flow = sg.1 ∧ sg.2 ≤ nth w sg.1 - 1 ∧ 0 ≤ rest ∧ rest ≤ (nth ps cur.toNat).size)
end
end Go.Proofs.YtlgjkmebpnnphaaGreat.M

/- Shares over one run: what the others are sent while a class is backlogged, plain. No condition. -/
namespace Go.Proofs.YtlgjkmebpnnphaaGreat.M
open Go Go.Proofs.YtlgjkmebpnnphaaGreat.K

section
variable {σ : Type} {ps : List Pkt} {ch : MS → σ → Int × Nat × σ} {good : MS → σ → Prop} {rel : Nat → Nat → Prop} {classes k : Nat}
end
end Go.Proofs.YtlgjkmebpnnphaaGreat.M

/- What a flow keeps: the least curve of a trace, plain. No condition. -/
namespace Go.Proofs.YtlgjkmebpnnphaaGreat.M
open Go Go.Proofs.YtlgjkmebpnnphaaGreat.K

theorem pbytes_congr {flow t t' : Int} : ∀ (ps : List Pkt), (∀ p ∈ ps, p.time < t ↔ p.time < t') → pbytes flow t ps = pbytes flow t' ps
  | [], _ => rfl
  | p :: ps, h => by
    have h1 := h p (by simp)
    have ih := pbytes_congr (flow := flow) ps (fun q hq => h q (by simp [hq]))
    simp only [pbytes]
    rw [ih]
    congr 1
    have e : hit flow t p ↔ hit flow t' p := by unfold hit; rw [h1]
    by_cases hh : hit flow t p
    · rw [if_pos hh, if_pos (e.1 hh)]
    · rw [if_neg hh, if_neg (fun h2 => hh (e.2 h2))]
def endN (ps : List Pkt) : Int := if ps.length = 0 then 0 else (nth ps (ps.length - 1)).time + 1
theorem nth_up {vs : List Int} {en : Nat} (hm : ∀ j, j < en → nth vs j ≤ nth vs (j + 1)) {a b : Nat} (hab : a ≤ b) (hb : b ≤ en) : nth vs a ≤ nth vs b := by
  induction b with
  | zero => obtain rfl : a = 0 := by omega
            exact Int.le_refl _
  | succ b ih =>
    by_cases e : a = b + 1
    · subst e; exact Int.le_refl _
    · have h1 := ih (by omega) (by omega)
      have h2 := hm b (by omega)
      omega
theorem keeps {ps : List Pkt} {flow : Int} (hsort : ps.Pairwise fun a b => a.time ≤ b.time) {en : Nat} (hen : ∀ p ∈ ps, 0 ≤ p.time ∧ p.time < en) {vs : List Int} (h0 : ∀ j, j ≤ en → 0 ≤ nth vs j) (hm : ∀ j, j < en → nth vs j ≤ nth vs (j + 1))
    (hP : ∀ i, i < ps.length → ∀ T t : Nat, (nth ps i).time = T → T ≤ t → t ≤ en → pbytes flow (t : Int) ps - pbytes flow (T : Int) ps ≤ nth vs (t - T)) {x t : Nat} (hxt : x ≤ t) : pbytes flow (t : Int) ps - pbytes flow (x : Int) ps ≤ nth vs (min (t - x) en) := by
  have hnn := h0 (min (t - x) en) (by omega)
  by_cases hex : ∃ i, i < ps.length ∧ (x : Int) ≤ (nth ps i).time ∧ (nth ps i).time < t
  · obtain ⟨i0, i1, i2, i3⟩ := hex
    rcases findFrom_cases (fun i => decide ((x : Int) ≤ (nth ps i).time)) ps.length 0 with ⟨j, j1, j2, _, j4, j5⟩ | ⟨_, h2⟩
    · have j4 := of_decide_eq_true j4
      have hji : j ≤ i0 := by
        apply Classical.byContradiction
        intro hn
        have := of_decide_eq_false (j5 i0 (Nat.zero_le _) (by omega))
        exact this i2
      have hle : ∀ i, j ≤ i → i < ps.length → (nth ps j).time ≤ (nth ps i).time := fun i h1 h2 => by
        by_cases e : j = i
        · subst e; exact Int.le_refl _
        · have := List.pairwise_iff_getElem.1 hsort j i (by omega) h2 (by omega)
          rwa [← nth_eq (show j < ps.length by omega), ← nth_eq h2] at this
      have hj := hen _ (nth_mem (xs := ps) (k := j) (by omega))
      obtain ⟨T, hT⟩ := Int.eq_ofNat_of_zero_le hj.1
      have hTi := hle i0 hji i1
      have e1 : pbytes flow (x : Int) ps = pbytes flow (T : Int) ps := by
        refine pbytes_congr ps (all_of_nth (fun i hi => ?_))
        constructor
        · intro h; omega
        · intro h
          apply Classical.byContradiction
          intro hn
          by_cases hij : i < j
          · have := of_decide_eq_false (j5 i (Nat.zero_le _) hij)
            omega
          · have := hle i (by omega) hi
            omega
      have e2 : pbytes flow (t : Int) ps = pbytes flow ((min t en : Nat) : Int) ps := by
        refine pbytes_congr ps (fun p hp => ?_)
        have := hen p hp
        omega
      have h3 := hP j (by omega) T (min t en) hT (by omega) (by omega)
      have h4 := nth_up hm (a := min t en - T) (b := min (t - x) en) (by omega) (by omega)
      omega
    · exact absurd i2 (of_decide_eq_false (h2 i0 (Nat.zero_le _) (by omega)))
  · have e : pbytes flow (t : Int) ps = pbytes flow (x : Int) ps := by
      refine pbytes_congr ps (all_of_nth (fun i hi => ?_))
      constructor
      · intro h
        apply Classical.byContradiction
        intro hn
        exact hex ⟨i, hi, by omega, h⟩
      · intro h; omega
    omega
end Go.Proofs.YtlgjkmebpnnphaaGreat.M

/- Any line that is never idle and keeps the order within a class: service and waits of a class, plain. No condition. -/
namespace Go.Proofs.YtlgjkmebpnnphaaGreat.M
open Go Go.Proofs.YtlgjkmebpnnphaaGreat.K

section
variable {σ : Type} {ps : List Pkt} {ch : MS → σ → Int × Nat × σ} {good : MS → σ → Prop} {rel : Nat → Nat → Prop} {classes col k : Nat} {s : RS σ}
end
end Go.Proofs.YtlgjkmebpnnphaaGreat.M
namespace Go.Proofs.YtlgjkmebpnnphaaGreat.M
open Go Go.Proofs.YtlgjkmebpnnphaaGreat.K
end Go.Proofs.YtlgjkmebpnnphaaGreat.M

/- Deficit round robin while a class is backlogged, plain: what the others take. No condition. -/
namespace Go.Proofs.YtlgjkmebpnnphaaGreat.M
open Go Go.Proofs.YtlgjkmebpnnphaaGreat.K

def sumF (f : Nat → Int) : Nat → Int
  | 0 => 0
  | n + 1 => sumF f n + f n
theorem sumF_congr {f g : Nat → Int} : ∀ {n : Nat}, (∀ i, i < n → f i = g i) → sumF f n = sumF g n
  | 0, _ => rfl
  | n + 1, h => by simp only [sumF]; rw [sumF_congr (fun i hi => h i (by omega)), h n (by omega)]
theorem sumF_le {f g : Nat → Int} : ∀ {n : Nat}, (∀ i, i < n → f i ≤ g i) → sumF f n ≤ sumF g n
  | 0, _ => Int.le_refl _
  | n + 1, h => by have a := sumF_le (fun i hi => h i (by omega) : ∀ i, i < n → f i ≤ g i); have b := h n (by omega); simp only [sumF]; omega
theorem sumF_change {f g : Nat → Int} {c : Nat} : ∀ {n : Nat}, c < n → (∀ i, i < n → i ≠ c → g i = f i) → sumF g n = sumF f n + (g c - f c)
  | 0, h, _ => by omega
  | n + 1, hc, h => by
    simp only [sumF]
    by_cases e : c = n
    · subst e
      rw [sumF_congr (fun i hi => h i (by omega) (by omega) : ∀ i, i < c → g i = f i)]; omega
    · rw [sumF_change (by omega) (fun i hi hne => h i (by omega) hne : ∀ i, i < n → i ≠ c → g i = f i), h n (by omega) (by omega)]; omega
theorem sumF_add {f g : Nat → Int} : ∀ {n : Nat}, sumF (fun i => f i + g i) n = sumF f n + sumF g n
  | 0 => rfl
  | n + 1 => by simp only [sumF]; rw [sumF_add]; omega
def xF (k : Nat) (w : List Int) (z : List Sz) (i : Nat) : Int := if i ≠ k ∧ 1 ≤ (nth z i).most then nth w i else 0
def zF (k : Nat) (z : List Sz) (i : Nat) : Int := if i ≠ k ∧ 1 ≤ (nth z i).most then (nth z i).most - 1 else 0
theorem xSum_eq {k : Nat} {w : List Int} {z : List Sz} : ∀ n : Nat, xSum k w z n = sumF (xF k w z) n
  | 0 => rfl
  | n + 1 => by
    simp only [xSum, sumF, xSum_eq n]
    congr 1
    unfold xF
    by_cases h : n ≠ k ∧ 1 ≤ (nth z n).most
    · rw [if_pos h, if_pos ⟨by omega, h.2⟩]
    · rw [if_neg h, if_neg (fun hh => h ⟨by omega, hh.2⟩)]
/-- the quantum of class i is still to be given before class k's next one -/
def pend (k c : Nat) (b : Bool) (i : Nat) : Bool := if c = k then b else (decide (i ≠ c) || !b) && (if c ≤ k then decide (c ≤ i ∧ i < k) else decide (c ≤ i ∨ i < k))
theorem pend_iff {k c i : Nat} {b : Bool} : pend k c b i = true ↔ (c = k ∧ b = true) ∨ (c ≠ k ∧ (i ≠ c ∨ b = false) ∧ ((c ≤ k ∧ c ≤ i ∧ i < k) ∨ (¬ c ≤ k ∧ (c ≤ i ∨ i < k)))) := by
  unfold pend
  by_cases h1 : c = k
  · rw [if_pos h1]; simp [h1]
  · rw [if_neg h1]
    by_cases h2 : c ≤ k
    · rw [if_pos h2]; cases b <;> simp [h1, h2]
    · rw [if_neg h2]; cases b <;> simp [h1, h2]
theorem pend_next {k c n i : Nat} (hc : c < n) (hk : k < n) (hn : 2 ≤ n) (hi : i < n) (hik : i ≠ k) : pend k ((c + 1) % n) false i = pend k c true i := by
  rw [mod_succ hc, Bool.eq_iff_iff, pend_iff, pend_iff]
  have e1 : (false = true) = False := by simp
  have e2 : (true = false) = False := by simp
  by_cases hl : c + 1 < n
  · rw [if_pos hl, e1, e2]
    simp only [and_false, or_false, and_true, or_true, true_and, false_or]
    omega
  · rw [if_neg hl, e1, e2]
    simp only [and_false, or_false, and_true, or_true, true_and, false_or]
    omega
theorem pend_self {k c : Nat} (h : c ≠ k) : pend k c true c = false := by unfold pend; rw [if_neg h]; simp
theorem pend_self' {k c : Nat} (h : c ≠ k) : pend k c false c = true := by unfold pend; rw [if_neg h]; split <;> simp <;> omega
theorem pend_other {k c i : Nat} {b : Bool} (h : c ≠ k) (hi : i ≠ c) : pend k c b i = pend k c true i := by unfold pend; rw [if_neg h, if_neg h]; simp [hi]
theorem pend_k {k i : Nat} {b : Bool} : pend k k b i = b := by unfold pend; rw [if_pos rfl]
/-- deficits saved, and quanta to come -/
def potF (w : List Int) (z : List Sz) (k c : Nat) (b : Bool) (d : List Int) (i : Nat) : Int := if i ≠ k ∧ 1 ≤ (nth z i).most then nth d i + (if pend k c b i = true then nth w i else 0) else 0
/-- the deficits: what is saved is less than a packet, but of the class that is visited -/
def DD (n : Nat) (z : List Sz) (c : Nat) (b : Bool) (d : List Int) : Prop := c < n ∧ d.length = n ∧ ∀ i, i < n → 0 ≤ nth d i ∧ (¬ (i = c ∧ b = true) → 1 ≤ (nth z i).most → nth d i ≤ (nth z i).most - 1)
def JD (w : List Int) (z : List Sz) (k c : Nat) (b : Bool) (d : List Int) (op own oth : Int) : Prop :=
  DD w.length z c b d ∧ ∃ v : Nat, oth + (if c = k then 0 else op) + sumF (potF w z k c b d) w.length ≤ ((v : Int) + 1) * xSum k w z w.length + zSum k z w.length ∧
    (v : Int) * nth w k ≤ own + (if c = k then op else 0) + nth d k ∧ (c = k → b = true → ((v : Int) - 1) * nth w k - ((nth z k).most - 1) ≤ own)
section
variable {nx sz : Int → Int} {w : List Int} {z : List Sz} {k : Nat}
theorem DD.grant (hw : ∀ x ∈ w, 1 ≤ x) {c : Nat} {b : Bool} {d : List Int} (h : DD w.length z c b d) (h0 : 0 ≤ nx c) : DD w.length z c true (M.grant nx w c b d) := by
  obtain ⟨h1, h2, h3⟩ := h
  refine ⟨h1, by rw [grant_len]; exact h2, fun i hi => ?_⟩
  have a := h3 i hi
  by_cases e : i = c
  · subst e
    refine ⟨?_, fun hn => absurd ⟨rfl, rfl⟩ hn⟩
    rw [grant_self (by omega)]
    have := hw _ (nth_mem hi)
    split <;> omega
  · rw [grant_ne e]
    exact ⟨a.1, fun _ hm => a.2 (fun hh => e hh.1) hm⟩
theorem DD.pick {c : Nat} {d : List Int} (h : DD w.length z c true d) {s : Int} (hs : s ≤ nth d c) : DD w.length z c true (d.set c (nth d c - s)) := by
  obtain ⟨h1, h2, h3⟩ := h
  refine ⟨h1, by rw [List.length_set]; exact h2, fun i hi => ?_⟩
  have a := h3 i hi
  by_cases e : i = c
  · subst e
    rw [nth_set_self (by omega)]
    exact ⟨by omega, fun hn => absurd ⟨rfl, rfl⟩ hn⟩
  · rw [nth_set_ne (Ne.symm e)]
    exact ⟨a.1, fun _ hm => a.2 (fun hh => e hh.1) hm⟩
theorem DD.next {c : Nat} {b : Bool} {d : List Int} (h : DD w.length z c b d) (hlt : 1 ≤ (nth z c).most → nth d c ≤ (nth z c).most - 1) : DD w.length z ((c + 1) % w.length) false d := by
  obtain ⟨h1, h2, h3⟩ := h
  refine ⟨Nat.mod_lt _ (by omega), h2, fun i hi => ?_⟩
  have a := h3 i hi
  refine ⟨a.1, fun _ hm => ?_⟩
  by_cases e : i = c
  · subst e; exact hlt hm
  · exact a.2 (fun hh => e hh.1) hm
theorem JD.grant (hw : ∀ x ∈ w, 1 ≤ x) (hk : k < w.length) (hL : 1 ≤ (nth z k).most) {c : Nat} {b : Bool} {d : List Int} {own oth : Int} (h : JD w z k c b d 0 own oth) (h0 : 0 ≤ nx c) : JD w z k c true (M.grant nx w c b d) 0 own oth := by
  obtain ⟨hd, v, a1, a2, a3⟩ := h
  refine ⟨hd.grant hw h0, ?_⟩
  have hcl : c < d.length := by rw [hd.2.1]; exact hd.1
  cases b with
  | true =>
    have e : M.grant nx w c true d = d := by unfold M.grant; rw [if_neg (by simp)]
    rw [e]; exact ⟨v, a1, a2, a3⟩
  | false =>
    have eg : nth (M.grant nx w c false d) c = nth d c + nth w c := by rw [grant_self hcl, if_pos ⟨h0, rfl⟩]
    by_cases hck : c = k
    · subst hck
      rw [if_pos rfl] at a1 a2
      refine ⟨v + 1, ?_, ?_, fun _ _ => ?_⟩
      · rw [if_pos rfl]
        have e : sumF (potF w z c c true (M.grant nx w c false d)) w.length = sumF (potF w z c c false d) w.length + xSum c w z w.length := by
          rw [xSum_eq, ← sumF_add]
          refine sumF_congr (fun i hi => ?_)
          unfold potF xF
          by_cases hh : i ≠ c ∧ 1 ≤ (nth z i).most
          · rw [if_pos hh, if_pos hh, if_pos hh, grant_ne hh.1, pend_k, pend_k, if_pos rfl, if_neg (by simp)]; omega
          · rw [if_neg hh, if_neg hh, if_neg hh]; omega
        rw [e]
        have e2 : (((v + 1 : Nat) : Int) + 1) * xSum c w z w.length = ((v : Int) + 1) * xSum c w z w.length + xSum c w z w.length := by rw [show (((v + 1 : Nat) : Int) + 1) = ((v : Int) + 1) + 1 by omega, Int.add_mul, Int.one_mul]
        rw [e2]; omega
      · rw [if_pos rfl, eg]
        have e2 : (((v + 1 : Nat) : Int)) * nth w c = (v : Int) * nth w c + nth w c := by rw [show ((v + 1 : Nat) : Int) = (v : Int) + 1 by omega, Int.add_mul, Int.one_mul]
        rw [e2]; omega
      · have hdk := (hd.2.2 c hk).2 (by simp) hL
        rw [show (((v + 1 : Nat) : Int) - 1) = (v : Int) by omega]
        omega
    · rw [if_neg hck] at a1 a2
      refine ⟨v, ?_, ?_, fun h => absurd h hck⟩
      · rw [if_neg hck]
        have e : sumF (potF w z k c true (M.grant nx w c false d)) w.length = sumF (potF w z k c false d) w.length := by
          refine sumF_congr (fun i hi => ?_)
          unfold potF
          by_cases hh : i ≠ k ∧ 1 ≤ (nth z i).most
          · rw [if_pos hh, if_pos hh]
            by_cases e : i = c
            · subst e
              rw [eg, pend_self hck, pend_self' hck, if_neg (by simp), if_pos rfl]; omega
            · rw [grant_ne e, pend_other (b := false) hck e]
          · rw [if_neg hh, if_neg hh]
        rw [e]; exact a1
      · rw [if_neg hck, grant_ne (Ne.symm hck)]; exact a2
theorem JD.pick {c : Nat} {d : List Int} {own oth : Int} (h : JD w z k c true d 0 own oth) {s : Int} (hs : s ≤ nth d c) (hm : 1 ≤ (nth z c).most) : JD w z k c true (d.set c (nth d c - s)) s own oth := by
  obtain ⟨hd, v, a1, a2, a3⟩ := h
  have hcl : c < d.length := by rw [hd.2.1]; exact hd.1
  refine ⟨hd.pick hs, v, ?_, ?_, a3⟩
  · by_cases hck : c = k
    · subst hck
      rw [if_pos rfl] at a1 ⊢
      have e : sumF (potF w z c c true (d.set c (nth d c - s))) w.length = sumF (potF w z c c true d) w.length := by
        refine sumF_congr (fun i hi => ?_)
        unfold potF
        by_cases hh : i ≠ c ∧ 1 ≤ (nth z i).most
        · rw [if_pos hh, if_pos hh, nth_set_ne (Ne.symm hh.1)]
        · rw [if_neg hh, if_neg hh]
      rw [e]; exact a1
    · rw [if_neg hck] at a1 ⊢
      have e : sumF (potF w z k c true (d.set c (nth d c - s))) w.length = sumF (potF w z k c true d) w.length + (potF w z k c true (d.set c (nth d c - s)) c - potF w z k c true d c) := by
        refine sumF_change hd.1 (fun i hi hne => ?_)
        unfold potF
        rw [nth_set_ne (Ne.symm hne)]
      have e2 : potF w z k c true (d.set c (nth d c - s)) c - potF w z k c true d c = - s := by
        unfold potF
        have hcm : c ≠ k ∧ 1 ≤ (nth z c).most := ⟨hck, hm⟩
        rw [if_pos hcm, if_pos hcm, nth_set_self hcl]; omega
      rw [e, e2]; omega
  · by_cases hck : c = k
    · subst hck
      rw [if_pos rfl] at a2 ⊢
      rw [nth_set_self hcl]; omega
    · rw [if_neg hck] at a2 ⊢
      rw [nth_set_ne hck]; exact a2
theorem JD.next (hw : ∀ x ∈ w, 1 ≤ x) (hk : k < w.length) (hn : 2 ≤ w.length) {c : Nat} {d : List Int} {own oth : Int} (h : JD w z k c true d 0 own oth) (hlt : 1 ≤ (nth z c).most → nth d c ≤ (nth z c).most - 1) : JD w z k ((c + 1) % w.length) false d 0 own oth := by
  obtain ⟨hd, v, a1, a2, a3⟩ := h
  refine ⟨hd.next hlt, v, ?_, ?_, fun _ h => by cases h⟩
  · have e : sumF (potF w z k ((c + 1) % w.length) false d) w.length = sumF (potF w z k c true d) w.length := by
      refine sumF_congr (fun i hi => ?_)
      unfold potF
      by_cases hh : i ≠ k ∧ 1 ≤ (nth z i).most
      · rw [if_pos hh, if_pos hh, pend_next hd.1 hk hn hi hh.1]
      · rw [if_neg hh, if_neg hh]
    rw [e]
    split <;> split at a1 <;> omega
  · split <;> split at a2 <;> omega
/-- a class without a waiting packet loses its deficit -/
theorem JD.skip (hw : ∀ x ∈ w, 1 ≤ x) (hk : k < w.length) (hn : 2 ≤ w.length) {c : Nat} {b : Bool} {d : List Int} {own oth : Int} (h : JD w z k c b d 0 own oth) (hck : c ≠ k) : JD w z k ((c + 1) % w.length) false (d.set c 0) 0 own oth := by
  obtain ⟨hd, v, a1, a2, a3⟩ := h
  have hcl : c < d.length := by rw [hd.2.1]; exact hd.1
  have hd2 : DD w.length z c b (d.set c 0) := by
    refine ⟨hd.1, by rw [List.length_set]; exact hd.2.1, fun i hi => ?_⟩
    by_cases e : i = c
    · subst e
      rw [nth_set_self hcl]
      exact ⟨Int.le_refl _, fun _ hm => by omega⟩
    · rw [nth_set_ne (Ne.symm e)]; exact hd.2.2 i hi
  refine ⟨hd2.next (fun hm => by rw [nth_set_self hcl]; omega), v, ?_, ?_, fun _ h => by cases h⟩
  · have e : sumF (potF w z k ((c + 1) % w.length) false (d.set c 0)) w.length ≤ sumF (potF w z k c b d) w.length := by
      refine sumF_le (fun i hi => ?_)
      unfold potF
      by_cases hh : i ≠ k ∧ 1 ≤ (nth z i).most
      · rw [if_pos hh, if_pos hh, pend_next hd.1 hk hn hi hh.1]
        by_cases e : i = c
        · subst e
          rw [nth_set_self hcl, pend_self hck, if_neg (by simp)]
          have := (hd.2.2 i hi).1
          have := hw _ (nth_mem hi)
          split <;> omega
        · rw [nth_set_ne (Ne.symm e), pend_other (b := b) hck e]; exact Int.le_refl _
      · rw [if_neg hh, if_neg hh]; exact Int.le_refl _
    rw [if_neg hck] at a1
    split <;> omega
  · rw [nth_set_ne hck]
    rw [if_neg hck] at a2
    split <;> omega
end
def Jdef (ps : List Pkt) (w : List Int) (z : List Sz) (k : Nat) (sg : Nat × Bool × List Int) (cur rest own oth : Int) : Prop := JD w z k sg.1 sg.2.1 sg.2.2 (if 0 ≤ cur then rest else 0) own oth ∧ (0 ≤ cur → (nth ps cur.toNat).flow = sg.1 ∧ sg.2.1 = true)
section
variable {ps : List Pkt} {w : List Int} {z : List Sz} {k : Nat}
/-- where every run stands -/
def V0 (w : List Int) (z : List Sz) (c : Nat) (b : Bool) (d : List Int) (op : Int) : Prop := DD w.length z c b d ∧ (b = true → 1 ≤ (nth z c).most → nth d c + op ≤ (nth z c).most - 1 + nth w c)
def Vdef (ps : List Pkt) (w : List Int) (z : List Sz) (sg : Nat × Bool × List Int) (cur rest : Int) : Prop := V0 w z sg.1 sg.2.1 sg.2.2 (if 0 ≤ cur then rest else 0) ∧ (0 ≤ cur → cur < ps.length ∧ (nth ps cur.toNat).flow = sg.1 ∧ sg.2.1 = true ∧ 0 ≤ rest ∧ 1 ≤ (nth z sg.1).most)
theorem V0.grant (hw : ∀ x ∈ w, 1 ≤ x) {nx : Int → Int} {c : Nat} {b : Bool} {d : List Int} (h : V0 w z c b d 0) (h0 : 0 ≤ nx c) : V0 w z c true (M.grant nx w c b d) 0 := by
  obtain ⟨hd, h1⟩ := h
  have hcl : c < d.length := by rw [hd.2.1]; exact hd.1
  refine ⟨hd.grant hw h0, fun _ hm => ?_⟩
  rw [grant_self hcl]
  cases b with
  | true => rw [if_neg (by simp)]; exact h1 rfl hm
  | false =>
    rw [if_pos ⟨h0, rfl⟩]
    have := (hd.2.2 c hd.1).2 (by simp) hm
    omega
end
end Go.Proofs.YtlgjkmebpnnphaaGreat.M

/- Weighted and deficit round robin: the curve of a class is what it is served while it is backlogged, plain. No condition. -/
namespace Go.Proofs.YtlgjkmebpnnphaaGreat.M
open Go Go.Proofs.YtlgjkmebpnnphaaGreat.K

/-- what a law over a scheduler wants of a class's curve: its form, and that it is less than what is sent where the others take at most O -/
def CurveFor (x : Cv × Int) (cap : Int) (O : Int → Int) (G : Nat → Int) (s p : Nat) (q : Int) : Prop :=
  x = (⟨fvals G (s + p), p, q⟩, 0) ∧ FC G s p q ∧ G 0 = 0 ∧ ∀ (t : Nat) (own : Int), 0 ≤ own → cap * (t : Int) ≤ own + O own → G t ≤ own
section
variable {σ : Type} {ps : List Pkt} {ch : MS → σ → Int × Nat × σ} {good : MS → σ → Prop} {classes k : Nat}
end
end Go.Proofs.YtlgjkmebpnnphaaGreat.M

/- Time slots, plain: what every run of such a line keeps. No condition. -/
namespace Go.Proofs.YtlgjkmebpnnphaaGreat.M
open Go Go.Proofs.YtlgjkmebpnnphaaGreat.K

/-- the rest of a packet has room in the ticks in a row from t on -/
def Fits (tb : List Int) (cap : Int) (t : Nat) (left rest : Int) : Prop := (∀ i, slotT tb i = slotT tb t) ∨ ∃ n : Nat, (∀ j, j ≤ n → slotT tb (t + j) = slotT tb t) ∧ rest ≤ left + cap * n
theorem Fits.next {tb : List Int} {cap : Int} {t : Nat} {rest : Int} (h : Fits tb cap t 0 rest) (hr : 1 ≤ rest) : slotT tb (t + 1) = slotT tb t ∧ Fits tb cap (t + 1) cap rest := by
  rcases h with h | ⟨n, h1, h2⟩
  · exact ⟨h _, .inl (fun i => by rw [h i, h (t + 1)])⟩
  · cases n with
    | zero => simp at h2; omega
    | succ n =>
      have e := h1 1 (by omega)
      refine ⟨e, .inr ⟨n, fun j hj => ?_, ?_⟩⟩
      · rw [show t + 1 + j = t + (j + 1) by omega, h1 (j + 1) (by omega), e]
      · rw [Int.natCast_add, Int.mul_add] at h2
        simp at h2; omega
structure SlotPost (ps : List Pkt) (cap : Int) (tb : List Int) (classes t : Nat) (s s' : RS Unit) : Prop where
  open_ : 0 ≤ s'.cur → (nth ps s'.cur.toNat).flow = slotT tb t ∧ Fits tb cap t s'.ms.left s'.rest
  left0 : 0 ≤ s'.cur → s'.ms.left = 0
  other : ∀ c : Nat, (c : Int) ≠ slotT tb t → c < classes → nth (nth s'.sent c) (t + 1) = nth (nth s.sent c) (t + 1)
  mine : ∀ c : Nat, (c : Int) = slotT tb t → c < classes → nth (nth s'.sent c) (t + 1) + s'.ms.left = nth (nth s.sent c) (t + 1) + s.ms.left
  done : ∀ i, i < ps.length → nth s'.done i = nth s.done i ∨ (nth s'.done i = t ∧ (nth ps i).flow = slotT tb t)
  beg : ∀ i, (nth ps i).flow ≠ slotT tb t → nth s'.ms.begun i = nth s.ms.begun i
  lft : 0 ≤ s'.ms.left ∧ s'.ms.left ≤ s.ms.left
  idle : 0 < s'.ms.left → s'.cur < 0 ∧ (slotT tb t < 0 ∨ nextW ps s'.ms (slotT tb t) < 0 ∨ ∃ n : Nat, aheadN tb (slotT tb t) t = n + 1 ∧ (nth ps (nextW ps s'.ms (slotT tb t)).toNat).size > s'.ms.left + cap * n)
section
variable {ps : List Pkt} {cap : Int} {tb : List Int} {classes : Nat}
end
end Go.Proofs.YtlgjkmebpnnphaaGreat.M

/- Time slots, plain: the curve of a class, and that it is what the class is served. No condition. -/
namespace Go.Proofs.YtlgjkmebpnnphaaGreat.M
open Go Go.Proofs.YtlgjkmebpnnphaaGreat.K

/-- of so many ticks from a tick on: what the parts that have ended count, and the part that goes on -/
def slotS (cap lost : Int) (mine : Nat → Bool) (from_ : Nat) : Nat → Int × Int
  | 0 => (0, 0)
  | d + 1 => if mine (from_ + d) = true then ((slotS cap lost mine from_ d).1, (slotS cap lost mine from_ d).2 + cap) else ((slotS cap lost mine from_ d).1 + max 0 ((slotS cap lost mine from_ d).2 - lost), 0)
def cntS (cap lost : Int) (mine : Nat → Bool) (from_ k : Nat) : Int := (slotS cap lost mine from_ k).1 + max 0 ((slotS cap lost mine from_ k).2 - lost)
/-- the least of so many -/
def minTo (f : Nat → Int) : Nat → Int
  | 0 => 4611686018427387904
  | n + 1 => min (minTo f n) (f n)
def minN (f : Nat → Int) : Nat → Int
  | 0 => f 0
  | n + 1 => min (minN f n) (f n)
def slotF (cap lost : Int) (mine : Nat → Bool) (n : Nat) (k : Nat) : Int := minN (fun a => cntS cap lost mine a k) n
section
variable {cap lost : Int} {mine : Nat → Bool} {a : Nat}
end
/-- the ticks of a class -/
def mineT (tb : List Int) (k : Int) (t : Nat) : Bool := slotT tb t == k
section
variable {ps : List Pkt} {cap : Int} {tb : List Int} {classes k : Nat}
end
end Go.Proofs.YtlgjkmebpnnphaaGreat.M

/- Time slots, plain: the curves of the program and of the reference are the same. No condition. -/
namespace Go.Proofs.YtlgjkmebpnnphaaGreat.M
open Go Go.Proofs.YtlgjkmebpnnphaaGreat.K

def chkT (cap cls : Int) (tb : List Int) (z : List Sz) : Int := if chk18 cap cls z ≠ 0 then 2 else if okT z.length tb = false then 2 else 0
def someT (cls : Int) (tb : List Int) : Bool := tb.any fun c => c == cls
def allT (cls : Int) (tb : List Int) : Bool := tb.all fun c => c == cls
def lineF (cap lost : Int) (t : Nat) : Int := max 0 (cap * t - lost)
def slotC (cap cls : Int) (tb : List Int) (z : List Sz) : Cv × Int :=
  if chkT cap cls tb z ≠ 0 then (zcv, chkT cap cls tb z)
  else if someT cls tb = false ∨ (nth z cls.toNat).most < 1 then (zcv, 5)
  else if allT cls tb = true then (if 400 * cap < (nth z cls.toNat).most - 1 then (zcv, 3) else madeR ⟨fvals (lineF cap ((nth z cls.toNat).most - 1)) 401, 1, cap⟩)
  else madeR ⟨fvals (slotF cap ((nth z cls.toNat).most - 1) (mineT tb cls) tb.length) (3 * tb.length + tb.length), tb.length,
    slotF cap ((nth z cls.toNat).most - 1) (mineT tb cls) tb.length (4 * tb.length - 1) - slotF cap ((nth z cls.toNat).most - 1) (mineT tb cls) tb.length (3 * tb.length - 1)⟩
section
variable {cap lost : Int}
variable {mine : Nat → Bool} {n : Nat}
end
end Go.Proofs.YtlgjkmebpnnphaaGreat.M

/- Lines with any of the schedulers, plain: their curves and delays. No condition. -/
namespace Go.Proofs.YtlgjkmebpnnphaaGreat.M
open Go Go.Proofs.YtlgjkmebpnnphaaGreat.K
def delayC (a b : Cv) : (Bool × Int × Int) × Int := devN (normR a) (normR b) (gapD (normR a) (normR b))
def waitL (v : Int) : List Int := (List.replicate (v + 2).toNat 0).set (v + 1).toNat INF
def waitC (v : Int) : Cv × Int := if v < 0 then (zcv, 2) else if 398 < v then (zcv, 3) else (⟨waitL v, 1, 0⟩, 0)
def allC (cap : Int) (ls : List Cv) : (Bool × Int × Int) × Int := if (totalC ls).2 ≠ 0 then ((false, 0, 0), (totalC ls).2) else delayC (totalC ls).1 (lineC cap)
def fifoC (cap : Int) (ls : List Cv) : Cv × Int := if (allC cap ls).2 ≠ 0 then (zcv, (allC cap ls).2) else if (allC cap ls).1.1 = true then (zcv, 5) else waitC (allC cap ls).1.2.1
def argE (L : Ln) (cls : Int) (ls : List Cv) (z : List Sz) : Int :=
  if chkL L ≠ 0 then chkL L else if cls < 0 ∨ L.n ≤ cls ∨ (ls.length : Int) ≠ L.n ∨ (z.length : Int) ≠ L.n then 2 else if chk18 L.cap cls z ≠ 0 then chk18 L.cap cls z else if ls.all validB = true then 0 else 1
def schedC (L : Ln) (cls : Int) (ls : List Cv) (z : List Sz) : Cv × Int :=
  if L.kind = 1 then fifoC L.cap ls else if L.kind = 2 then prioC L.cap cls ls z else if L.kind = 3 then robinC L.cap cls L.w z else if L.kind = 4 then defC L.cap cls L.w z else slotC L.cap cls L.tb z
def curveL (L : Ln) (cls : Int) (ls : List Cv) (z : List Sz) : Cv × Int := if argE L cls ls z ≠ 0 then (zcv, argE L cls ls z) else schedC L cls ls z
def devV (x : (Bool × Int × Int) × Int) : Value := .tuple #[.agg #[.bool x.1.1, .int .i64 x.1.2.1, .int .i64 x.1.2.2], .int .i64 x.2]
theorem total_valid {ls : List Cv} (h : ∀ c ∈ ls, validB c = true) (h0 : (totalC ls).2 = 0) : validB (totalC ls).1 = true := by
  rcases total_res ls zeroC zero_nrm.valid zero_nrm h with e | ⟨c, e, h2, _⟩
  · rw [show totalC ls = (zcv, 3) from e] at h0; cases h0
  · rw [show totalC ls = (c, 0) from e]; exact h2.valid
end Go.Proofs.YtlgjkmebpnnphaaGreat.M

/- A function made with any captured values. No condition. -/
namespace Go.Proofs.YtlgjkmebpnnphaaGreat.K
open Go Go.RowKit
variable {P : Program} {T : Tab} {n : Nat} {env : Env} {w0 : World} {R : Ro} {E : List Ent} {o : Oper} {pc p q : Bool}
theorem Yl.makeFunc {fn : Go.Fn} {fi ca : List Operand} {us vs : List Value} (ho : o.op = .makeFunc fn fi.toArray ca.toArray) (hf : evs env fi = some (p, us)) (hc : evs env ca = some (q, vs)) (hpq : pc = true → (p && q) = true) : Yl P n env w0 R E o pc (.func fn us.toArray vs.toArray) := by
  intro a w hk hm hpc
  obtain ⟨h1, h2⟩ := and_both (hpq hpc)
  have e1 := evs_ok hk hf h1
  have e2 := evs_ok hk hc h2
  have e3 : fi.toArray.map a.eval = us.toArray := by rw [← e1]; simp
  have e4 : ca.toArray.map a.eval = vs.toArray := by rw [← e2]; simp
  unfold execOp
  rw [ho]
  simp only [Instr.makeFunc]
  rw [e3, e4]
  rfl
/-- a field of a value, of one cell -/
theorem Yl.field {t : TypeId} {x : Operand} {f : Nat} {ff : Array Field} {fl : Field} {cs : Array Value} {v : Value} {d : TD} (hT : TabOk P T) (ho : o.op = .field t x f) (hu : P.underlying t = some (.struct ff)) (hfl : ff[f]? = some fl) (hd : T.at fl.type = some d) (hk : d.k.known = true) (hka : d.k.agg = false)
    (hx : ev env x = some (p, .agg cs)) (hpq : pc = true → p = true) (hv : cs[fl.offset]? = some v) : Yl P n env w0 R E o pc v := by
  intro a w hk2 hm hpc
  have h1 := hk2.ev hx (hpq hpc)
  have h2 := run_isAgg hT hd (TK.ne_other hk) w
  unfold execOp
  rw [ho]
  simp [Instr.field, underlying, hu, hfl, h1, asAgg, part, h2, hka, hv]
/-- an owned slice lies within its room -/
theorem WL.cap {ops rest : List Oper} {Q : Exit → Act → World → Prop} {e : TypeId} {k : Nat} {a : Option Addr} {cap : Nat} {rows : List (List Value)} (i : Nat) (hE : E[i]? = some (.sl e k a cap rows)) (h : rows.length ≤ cap → WG false P ops Q rest n env w0 R E) : WG false P ops Q rest n env w0 R E := by
  intro ac w hk hm
  refine h ?_ ac w hk hm
  obtain ⟨g1, g2, h⟩ := own_sl hm (List.mem_of_getElem? hE)
  rcases h with ⟨_, h2, _⟩ | ⟨g, cur, _, _, _, hn, _⟩
  · subst h2; exact Nat.zero_le _
  · simpa using hn
theorem W.cap {c : Code} {Q : Exit → Act → World → Prop} {e : TypeId} {k : Nat} {a : Option Addr} {cap : Nat} {rows : List (List Value)} (i : Nat) (hE : E[i]? = some (.sl e k a cap rows)) (h : rows.length ≤ cap → W P c Q n env w0 R E) : W P c Q n env w0 R E := by
  intro ac w hk hm
  refine h ?_ ac w hk hm
  obtain ⟨g1, g2, h⟩ := own_sl hm (List.mem_of_getElem? hE)
  rcases h with ⟨_, h2, _⟩ | ⟨g, cur, _, _, _, hn, _⟩
  · subst h2; exact Nat.zero_le _
  · simpa using hn
theorem WS.callAt {ops : List Oper} {Q : Exit → Act → World → Prop} {ES : List Ent} {R0 : Ro} {fuel : Nat} {listed : Array Bool} {d : Nat} {f : FuncId} {vs : List Value} {e : Ent} {Post : Value → Ro → Ent → List Ent → Prop} (k : Nat) {i : Nat} (hi : ops.toArray[i]? = some o) (hf : Enters P f) (hg : o.guard = none) (hd : o.dst = some d) (hdn : d < n)
    (hc : CallOp env o.op true f vs) (hE : E[k]? = some e) (hv : Fn P f vs w0 R (e :: E.eraseIdx k) (fun v R' E' => ∃ e' N, E' = N ++ e' :: E.eraseIdx k ∧ Post v R' e' N))
    (h : ∀ v R' e' N, RLe R R' → Post v R' e' N → RLe R0 R' ∧ ES.Sublist (N ++ E.set k e') ∧ WA P ops Q ES R0 w0 fuel (listed.setIfInBounds i true) n ((d, true, v) :: env) R' (N ++ E.set k e')) : WS P ops Q ES R0 w0 fuel listed n env R E i := by
  intro a w hk hm
  unfold wpOp
  rw [hi]
  simp only [Region.wanted, hg, if_true]
  left
  unfold Oper.wp
  rw [run_call hk hc rfl hf]
  refine (hv w (hm.perm (perm_get hE))).mono ?_
  rintro e0 w' ⟨v, R', E', rfl, hR, hm', e', N, rfl, hp⟩
  obtain ⟨g1, g2, g3⟩ := h v R' e' N hR hp
  have hm2 := hm'.perm ((perm_set e' hE).append_left N)
  simp only [hd]
  exact ⟨hm2.sub g1 g2, g3 _ _ (hk.putT hdn v) hm2⟩
end Go.Proofs.YtlgjkmebpnnphaaGreat.K

/- Rules: calls that hand back one value and leave memory, under any guard, in regions that draw their order and write; what is not wanted. No condition. -/
namespace Go.Proofs.YtlgjkmebpnnphaaGreat.K
open Go Go.RowKit
section
variable {P : Program} {ops : List Oper} {o : Oper} {Q : Exit → Act → World → Prop} {ES : List Ent} {R0 : Ro} {w0 : World} {fuel : Nat} {listed : Array Bool} {n : Nat} {env : Env} {R : Ro} {E : List Ent} {pc q : Bool}
theorem WA.callV {v : Value} {d : Nat} {f : FuncId} {vs : List Value} (i : Nat) (hi : ops.toArray[i]? = some o) (hr : Region.ready .any ops.toArray listed = [i]) (hf : Enters P f) (hg : gpc ops env o = some pc) (hd : o.dst = some d) (hdn : d < n)
    (hc : CallOp env o.op q f vs) (hq : pc = true → q = true) (hv : pc = true → FnV P f vs R v) (hsub : ES.Sublist E) (hR : RLe R0 R)
    (h : WA P ops Q ES R0 w0 fuel (listed.setIfInBounds i true) n ((d, pc, v) :: env) R E) : WA P ops Q ES R0 w0 (fuel + 1) listed n env R E := by
  intro a w hk hm
  refine wpAnyH_all hr (by simp) fun j hj => ?_
  obtain rfl : j = i := by simpa using hj
  unfold wpOp
  rw [hi]
  have hput := hk.put hdn pc v
  have hw := hk.wanted hg
  cases pc with
  | true =>
    simp only [hw, if_true]
    left
    unfold Oper.wp
    rw [run_call hk hc (hq rfl) hf]
    refine (hv rfl w0 E w hm).mono ?_
    rintro e w' ⟨rfl, hm'⟩
    simp only [hd]
    exact ⟨hm'.sub hR hsub, h _ _ (by simpa using hput) hm'⟩
  | false =>
    simp only [hw, Bool.false_eq_true, if_false, hd]
    exact ⟨hm.sub hR hsub, h _ _ (by simpa using hput) hm⟩
theorem WS.callV {v : Value} {d : Nat} {f : FuncId} {vs : List Value} {i : Nat} (hi : ops.toArray[i]? = some o) (hf : Enters P f) (hg : gpc ops env o = some pc) (hd : o.dst = some d) (hdn : d < n)
    (hc : CallOp env o.op q f vs) (hq : pc = true → q = true) (hv : pc = true → FnV P f vs R v) (hsub : ES.Sublist E) (hR : RLe R0 R)
    (h : WA P ops Q ES R0 w0 fuel (listed.setIfInBounds i true) n ((d, pc, v) :: env) R E) : WS P ops Q ES R0 w0 fuel listed n env R E i := by
  intro a w hk hm
  unfold wpOp
  rw [hi]
  have hput := hk.put hdn pc v
  have hw := hk.wanted hg
  cases pc with
  | true =>
    simp only [hw, if_true]
    left
    unfold Oper.wp
    rw [run_call hk hc (hq rfl) hf]
    refine (hv rfl w0 E w hm).mono ?_
    rintro e w' ⟨rfl, hm'⟩
    simp only [hd]
    exact ⟨hm'.sub hR hsub, h _ _ (by simpa using hput) hm'⟩
  | false =>
    simp only [hw, Bool.false_eq_true, if_false, hd]
    exact ⟨hm.sub hR hsub, h _ _ (by simpa using hput) hm⟩
theorem Yl.off {v : Value} (h : pc = false) : Yl P n env w0 R E o pc v := fun _ _ _ _ hp => by rw [h] at hp; cases hp
end
end Go.Proofs.YtlgjkmebpnnphaaGreat.K

/- Rules: maps of a few keys (make, insert, look up), values in interfaces, calls of methods. No condition. -/
namespace Go.Proofs.YtlgjkmebpnnphaaGreat.K
open Go Go.RowKit
section
variable {P : Program} {T : Tab} {ops rest : List Oper} {Q : Exit → Act → World → Prop} {n : Nat} {env : Env} {w0 : World} {R : Ro} {E : List Ent} {o : Oper} {pc p q : Bool}
theorem under_map (hT : TabOk P T) {t k e : TypeId} {d : TD} (hd : T.at t = some d) (hk : d.k = .map k e) : P.underlying t = some (.map k e) := by
  have := hT.kind hd
  rw [hk] at this
  unfold kindOf at this
  split at this <;> simp_all
theorem under_int (hT : TabOk P T) {t : TypeId} {k : IntKind} {d : TD} (hd : T.at t = some d) (hk : d.k = .int k) : P.underlying t = some (.int k) := by
  have := hT.kind hd
  rw [hk] at this
  unfold kindOf at this
  split at this <;> simp_all
theorem Ef.makeMap {K : Value → Ro → List Ent → Prop} {t : TypeId} (ho : o.op = .makeMap t none) (hK : ∀ b, K (.map (some b)) R (.obj b (.map #[] 0) :: E)) : Ef P n env w0 R E o K := by
  intro a w hk hm
  refine ⟨_, w.alloc (.map #[] 0), R, _, .inl ?_, hm.newObj _, hK _⟩
  unfold execOp
  simp [ho, run_makeMap_plain]
theorem Ef.insert {K : Value → Ro → List Ent → Prop} {t kt et : TypeId} {x y z : Operand} {b clock : Nat} {es : Array MapEntry} {kk : IntKind} {k : Int} {v : Value} {d d2 : TD} (hT : TabOk P T) (ho : o.op = .insert t x y z) (hd : T.at t = some d) (hkd : d.k = .map kt et) (hd2 : T.at kt = some d2) (hk2 : d2.k = .int kk)
    (hx : ev env x = some (true, .map (some b))) (hy : ev env y = some (true, .int kk k)) (hz : ev env z = some (true, v)) (hf : Instr.findNow (.int kk) (.int kk k) es.toList 0 = some none)
    (hK : K undef R (.obj b (.map (es.push { key := .int kk k, val := v, born := clock }) (clock + 1)) :: E)) : Ef P n env w0 R (.obj b (.map es clock) :: E) o K := by
  intro a w hk hm
  have hb := hm.getObj
  have hm1 := under_map hT hd hkd
  have hu2 := under_int hT hd2 hk2
  have hc : (Instr.checkKey false 10000 kt (.int kk k)).run P w = .ok () w := MapKept.run_checkKey (k := .int kk k) hu2 (by simp [MapKept.IsKey]) false 9999
  refine ⟨undef, w.putObj b (.map (es.push { key := .int kk k, val := v, born := clock }) (clock + 1)), R, _, .inr ⟨?_, rfl⟩, hm.putObj _, hK⟩
  unfold execOp
  simp [ho, hk.ev hx rfl, hk.ev hy rfl, hk.ev hz rfl, Instr.mapUpdate, run_underlying hm1, MapKept.run_getObj_map hb, hc, MapKept.run_findKey hu2 hf, MapKept.run_setObj_map _ hb, Result.andThen, World.putObj]
def foundV (z : Value) : Option (Nat × Value) → Value
  | some (_, u) => .tuple #[u, .bool true]
  | none => .tuple #[z, .bool false]
theorem Yl.lookup {t kt et : TypeId} {x y : Operand} {b clock : Nat} {es : Array MapEntry} {kk : IntKind} {k : Int} {v z : Value} {d d2 : TD} {r : Option (Nat × Value)} (hT : TabOk P T) (ho : o.op = .lookup t x y true) (hd : T.at t = some d) (hkd : d.k = .map kt et) (hd2 : T.at kt = some d2) (hk2 : d2.k = .int kk) (hz : (P.info? et).bind (·.zero) = some z)
    (hx : ev env x = some (p, .map (some b))) (hy : ev env y = some (q, .int kk k)) (hpq : pc = true → (p && q) = true) (hf : Instr.findNow (.int kk) (.int kk k) es.toList 0 = some r)
    (hv : foundV z r = v) : Yl P n env w0 R (.obj b (.map es clock) :: E) o pc v := by
  intro a w hk hm hpc
  obtain ⟨h1, h2⟩ := and_both (hpq hpc)
  have hb := hm.getObj
  have hm1 := under_map hT hd hkd
  have hu2 := under_int hT hd2 hk2
  have hc : (Instr.checkKey es.isEmpty 10000 kt (.int kk k)).run P w = .ok () w := MapKept.run_checkKey (k := .int kk k) hu2 (by simp [MapKept.IsKey]) es.isEmpty 9999
  have hz' : (zeroValue et).run P w = .ok z w := by
    cases hi : P.info? et with
    | none => rw [hi] at hz; cases hz
    | some inf =>
      rw [hi] at hz
      have : inf.zero = some z := hz
      simp [zeroValue, typeInfo, hi, this]
  subst hv
  unfold execOp
  cases r with
  | none => simp [foundV, ho, hk.ev hx h1, hk.ev hy h2, Instr.lookup, run_underlying hm1, MapKept.run_getObj_map hb, hc, MapKept.run_findKey hu2 hf, hz', Result.andThen]
  | some r => simp [foundV, ho, hk.ev hx h1, hk.ev hy h2, Instr.lookup, run_underlying hm1, MapKept.run_getObj_map hb, hc, MapKept.run_findKey hu2 hf, Result.andThen]
theorem Yl.toIface {t : TypeId} {fs : List (Nat × Nat)} {x : Operand} {v : Value} {d : TD} (hT : TabOk P T) (ho : o.op = .makeInterface t x) (hd : T.at t = some d) (hk : d.k = .strct fs) (hx : ev env x = some (p, v)) (hpq : pc = true → p = true) : Yl P n env w0 R E o pc (.iface t v) := by
  intro a w hk2 hm hpc
  obtain ⟨ff, hu, _⟩ := hT.strct hd hk
  unfold execOp
  simp [ho, hk2.ev hx (hpq hpc), Instr.makeInterface, run_underlying hu]
/-- the method of what stands in an interface -/
def Meth (P : Program) (t : TypeId) (rv : Value) (name : String) (f : FuncId) (us : List Value) : Prop :=
  ∀ w, (callMethod (.iface t rv) name us.toArray).run P w = .ok (.enter f (rv :: us).toArray) w
theorem run_callI {a : Act} {w : World} (hk : Kn n env a) {x : Operand} {args : List Operand} {ats : Array TypeId} {name : String} {t : TypeId} {rv : Value} {f : FuncId} {us : List Value} (ho : o.op = .call { callee := .invoke x name, args := args.toArray, argTypes := ats })
    (hx : ev env x = some (true, .iface t rv)) (ha : evs env args = some (true, us)) (hm : Meth P t rv name f us) : (execOp a.eval o).run P w = .ok (.enter f (rv :: us).toArray) w := by
  have e1 := hk.ev hx rfl
  have e2 := evs_ok hk ha rfl
  have e3 : args.toArray.map a.eval = us.toArray := by rw [← e2]; simp
  have e4 : (#[Value.iface t rv] ++ us.toArray).extract 1 (#[Value.iface t rv] ++ us.toArray).size = us.toArray := by simp
  have e5 : (#[Value.iface t rv] ++ us.toArray)[0]? = some (.iface t rv) := by simp
  unfold execOp
  rw [ho]
  simp only [resolve, e1, e3, invoke, Sem.run_bind, Sem.run_pure, Result.andThen_ok]
  rw [e5]
  simp only [e4]
  exact hm w
theorem WL.callI {d : Nat} {x : Operand} {args : List Operand} {ats : Array TypeId} {name : String} {t : TypeId} {rv : Value} {f : FuncId} {us : List Value} {Post : Value → Ro → List Ent → Prop} (ho : o.op = .call { callee := .invoke x name, args := args.toArray, argTypes := ats }) (hg : o.guard = none) (hd : o.dst = some d) (hdn : d < n)
    (hx : ev env x = some (true, .iface t rv)) (ha : evs env args = some (true, us)) (hm : Meth P t rv name f us) (hv : Fn P f (rv :: us) w0 R E Post)
    (h : ∀ v R' E', RLe R R' → Post v R' E' → WG false P ops Q rest n ((d, true, v) :: env) w0 R' E') : WG false P ops Q (o :: rest) n env w0 R E := by
  intro a w hk hmm
  refine wpList_plain hg fun K hK => ?_
  unfold Oper.wp
  rw [run_callI hk ho hx ha hm]
  refine (hv w hmm).mono ?_
  rintro e w' ⟨v, R', E', rfl, hR, hm', hp⟩
  simp only [hd]
  exact hK _ _ (h v R' E' hR hp _ _ (hk.putT hdn v) hm')
theorem WA.freezeBlk {ES : List Ent} {R0 : Ro} {fuel : Nat} {listed : Array Bool} {b : Nat} {cs : List Value} (i : Nat) (hE : E[i]? = some (.blk b cs)) (h : ∀ R', RLe R R' → R' b = some cs → WA P ops Q ES R0 w0 fuel listed n env R' (E.eraseIdx i)) : WA P ops Q ES R0 w0 fuel listed n env R E := by
  intro a w hk hm
  obtain ⟨R', hR, hb, hm'⟩ := hm.freezeBlk hE
  exact h R' hR hb a w hk hm'
/-- what a run hands back, read only: the ticks and the bytes -/
def RunV (out : List Int × List (List Int)) (E : List Ent) (T : Value → Value) (v : Value) (R' : Ro) (E' : List Ent) : Prop :=
  ∃ (da oa : Option Addr) (dc oc : Nat) (rows : List M.Sl), v = T (.agg #[.slice da out.1.length dc, .slice oa rows.length oc]) ∧ RS R' 1 encI da out.1 ∧ RS R' 1 M.encS oa rows ∧ (∀ r ∈ rows, RS R' 1 encI r.a r.xs) ∧ rows.map M.Sl.xs = out.2 ∧ (∀ r ∈ rows, r.xs.length ≤ r.cap) ∧ E.Sublist E'
end
end Go.Proofs.YtlgjkmebpnnphaaGreat.K

/- Chapter 22: the kinds, the numbers within, the lists. No condition. -/
set_option maxRecDepth 4000
set_option linter.unusedSimpArgs false
set_option linter.unusedVariables false
namespace Go.Proofs.YtlgjkmebpnnphaaGreat
open Go Go.RowKit Go.Proofs.YtlgjkmebpnnphaaGreat.K Go.Proofs.YtlgjkmebpnnphaaGreat.M

def kindI (k : Int) : Value := if k = 1 then .iface 121 (.agg #[]) else if k = 2 then .iface 122 (.agg #[]) else if k = 3 then .iface 123 (.agg #[]) else if k = 4 then .iface 124 (.agg #[]) else if k = 5 then .iface 125 (.agg #[]) else .nilIface
def kindB (k : Int) : Bool := decide (1 ≤ k) && decide (k ≤ 5)
def kindR (k : Int) : Option (Nat × Value) := if k = 1 then some (0, .iface 121 (.agg #[])) else if k = 2 then some (1, .iface 122 (.agg #[])) else if k = 3 then some (2, .iface 123 (.agg #[])) else if k = 4 then some (3, .iface 124 (.agg #[])) else if k = 5 then some (4, .iface 125 (.agg #[])) else none
theorem kind_find (k : Int) : Instr.findNow (.int .i64) (.int .i64 k) [{ key := .int .i64 1, val := .iface 121 (.agg #[]), born := 0 }, { key := .int .i64 2, val := .iface 122 (.agg #[]), born := 1 }, { key := .int .i64 3, val := .iface 123 (.agg #[]), born := 2 }, { key := .int .i64 4, val := .iface 124 (.agg #[]), born := 3 }, { key := .int .i64 5, val := .iface 125 (.agg #[]), born := 4 }] 0 = some (kindR k) := by
  unfold kindR
  by_cases h1 : k = 1
  · subst h1; rfl
  · by_cases h2 : k = 2
    · subst h2; rfl
    · by_cases h3 : k = 3
      · subst h3; rfl
      · by_cases h4 : k = 4
        · subst h4; rfl
        · by_cases h5 : k = 5
          · subst h5; rfl
          · have e1 : (k == 1) = false := by simpa using h1
            have e2 : (k == 2) = false := by simpa using h2
            have e3 : (k == 3) = false := by simpa using h3
            have e4 : (k == 4) = false := by simpa using h4
            have e5 : (k == 5) = false := by simpa using h5
            simp [Instr.findNow, Instr.sameNow, h1, h2, h3, h4, h5, e1, e2, e3, e4, e5]
theorem kind_hit (k : Int) : foundV .nilIface (kindR k) = .tuple #[kindI k, .bool (kindB k)] := by
  unfold kindR kindI kindB
  by_cases h1 : k = 1
  · subst h1; rfl
  · by_cases h2 : k = 2
    · subst h2; rfl
    · by_cases h3 : k = 3
      · subst h3; rfl
      · by_cases h4 : k = 4
        · subst h4; rfl
        · by_cases h5 : k = 5
          · subst h5; rfl
          · have : (decide (1 ≤ k) && decide (k ≤ 5)) = false := by simp only [Bool.and_eq_false_iff, decide_eq_false_iff_not]; omega
            simp [h1, h2, h3, h4, h5, this, foundV]

theorem Kind_V {R : Ro} (k : Int) : FnV Tryz.prog 52 [.int .i64 k] R (.tuple #[kindI k, .bool (kindB k)]) := by
  refine Fn.toV (fun w0 E => ?_)
  refine Fn.enter (n := 25) Tryz.func52 rfl rfl (Nat.le_of_ble_eq_true rfl) rfl ?_
  refine W.seq ?_
  refine W.region _ ?_
  refine WG.run tab_ok 2 rfl ?_
  refine WG.nil ?_
  refine WE.nxt ?_
  refine W.seq ?_
  refine W.region _ ?_
  refine WL.ef rfl rfl (by decide) (Ef.makeMap rfl (fun b7 => ?_))
  -- build
  refine WG.y rfl rfl (by decide) (Yl.build (parts := []) tab_ok rfl rfl rfl rfl (fun _ => rfl) rfl rfl) ?_
  refine WG.y rfl rfl (by decide) (Yl.toIface tab_ok rfl rfl rfl rfl (fun _ => rfl)) ?_
  refine WL.efN rfl rfl (Ef.insert tab_ok rfl rfl rfl rfl rfl rfl rfl rfl rfl ?_)
  -- build
  refine WG.y rfl rfl (by decide) (Yl.build (parts := []) tab_ok rfl rfl rfl rfl (fun _ => rfl) rfl rfl) ?_
  refine WG.y rfl rfl (by decide) (Yl.toIface tab_ok rfl rfl rfl rfl (fun _ => rfl)) ?_
  refine WL.efN rfl rfl (Ef.insert tab_ok rfl rfl rfl rfl rfl rfl rfl rfl rfl ?_)
  -- build
  refine WG.y rfl rfl (by decide) (Yl.build (parts := []) tab_ok rfl rfl rfl rfl (fun _ => rfl) rfl rfl) ?_
  refine WG.y rfl rfl (by decide) (Yl.toIface tab_ok rfl rfl rfl rfl (fun _ => rfl)) ?_
  refine WL.efN rfl rfl (Ef.insert tab_ok rfl rfl rfl rfl rfl rfl rfl rfl rfl ?_)
  -- build
  refine WG.y rfl rfl (by decide) (Yl.build (parts := []) tab_ok rfl rfl rfl rfl (fun _ => rfl) rfl rfl) ?_
  refine WG.y rfl rfl (by decide) (Yl.toIface tab_ok rfl rfl rfl rfl (fun _ => rfl)) ?_
  refine WL.efN rfl rfl (Ef.insert tab_ok rfl rfl rfl rfl rfl rfl rfl rfl rfl ?_)
  -- build
  refine WG.y rfl rfl (by decide) (Yl.build (parts := []) tab_ok rfl rfl rfl rfl (fun _ => rfl) rfl rfl) ?_
  refine WG.y rfl rfl (by decide) (Yl.toIface tab_ok rfl rfl rfl rfl (fun _ => rfl)) ?_
  refine WL.efN rfl rfl (Ef.insert tab_ok rfl rfl rfl rfl rfl rfl rfl rfl rfl ?_)
  refine WG.run tab_ok 2 rfl ?_
  refine WG.y rfl rfl (by decide) (Yl.lookup (r := kindR k) (v := .tuple #[kindI k, .bool (kindB k)]) tab_ok rfl rfl rfl rfl rfl rfl rfl rfl (fun _ => rfl) (kind_find k) (kind_hit k)) ?_
  refine WG.run tab_ok 5 rfl ?_
  refine WG.nil ?_
  refine WE.nxt ?_
  refine W.seq ?_
  refine W.region _ ?_
  refine WG.run tab_ok 4 rfl ?_
  refine WG.nil ?_
  refine WE.nxt ?_
  refine W.ret ?_
  refine WE.subE (E' := E) qS ?_
  refine WE.retF tab_ok [_, _] rfl ⟨rfl, rfl, trivial⟩ (RLe.refl _) ?_
  exact ⟨rfl, rfl⟩

theorem IndexI_V {R : Ro} {a : Option Addr} {c : Nat} {xs : List Int} {g : FuncId} {first capd : Array Value} {p : Int → Bool} (ha : RS R 1 encI a xs) (heg : Enters Tryz.prog g) (hp : ∀ i, i < xs.length → FnV Tryz.prog g (first.toList ++ [.int .i64 (nth xs i)] ++ capd.toList) R (.bool (p (nth xs i)))) :
    FnV Tryz.prog 230 [.slice a xs.length c, .func (.func g) first capd] R (.int .i64 (findN (fun i => p (nth xs i)) xs.length)) := by
  have hla := ha.len
  refine Fn.toV (fun w0 E => ?_)
  refine Fn.enter (n := 19) Tryz.func230 rfl rfl (Nat.le_of_ble_eq_true rfl) rfl ?_
  refine W.seq ?_
  refine W.region _ ?_
  refine WG.run tab_ok 1 rfl ?_
  refine WG.nil ?_
  refine WE.nxt ?_
  refine W.seq ?_
  refine W.seq ?_
  refine W.region _ ?_
  refine WG.run tab_ok 3 rfl ?_
  refine WG.nil ?_
  refine WE.nxt ?_
  refine W.block ?_
  refine W.loopK (β := Nat) (fun k => k ≤ xs.length ∧ ∀ i, i < k → p (nth xs i) = false) (fun k => [(8, true, .int .i64 (k : Int))]) [0, 1, 7] [_, _, _] [] _ rfl (fun k => []) (fun k => xs.length - k) (0) (⟨Nat.zero_le _, fun i hi => absurd hi (Nat.not_lt_zero i)⟩) ⟨rfl, rfl, rfl, rfl, rfl⟩ qS ?_
  intro k hst
  dsimp only [zipE, setAll, List.cons_append, List.nil_append, List.set_cons_zero, List.set_cons_succ] at hst ⊢
  obtain ⟨hk, hpre⟩ := hst
  refine W.seq ?_
  refine W.region _ ?_
  refine WG.run tab_ok 1 rfl ?_
  refine WG.nil ?_
  refine WE.nxt ?_
  refine W.seq ?_
  refine W.condD rfl (fun hc0 => ?_) (fun hc0 => ?_)
  · try dsimp only at hc0
    refine W.skip ?_
    refine WE.nxt ?_
    refine W.seq ?_
    refine W.block ?_
    refine W.seq ?_
    refine W.region _ ?_
    refine WG.run tab_ok 2 rfl ?_
    refine WG.nil ?_
    refine WE.nxt ?_
    refine W.seq ?_
    refine W.region _ ?_
    refine WG.run tab_ok 3 rfl ?_
    refine WG.y rfl rfl (by decide) (Yl.indexN tab_ok rfl rfl rfl rfl rfl rfl (fun _ => rfl) (by intro _; (try dsimp only) <;> omega) (by intro _; first | exact fun _ _ _ _ => rfl | exact RS.has (by assumption) | exact fun _ _ _ _ => (by assumption) | exact HasMem.ownD 0 rfl | exact HasMem.ownD 1 rfl | exact HasMem.ownD 2 rfl)) ?_
    refine' WG.y rfl rfl (by decide) (Yl.load1 tab_ok rfl rfl rfl (fun _ => rfl) ?r1 rfl ?h1) ?_
    case r1 => ((apply RS.rdD; assumption; ((try dsimp only) <;> omega)))
    case h1 => rfl
    refine WG.callV (v := .bool (p (nth xs k))) heg rfl rfl (by decide) (CallOp.mk' rfl rfl rfl rfl) (fun _ => rfl) (fun hg => hp k (by omega)) ?_
    refine WG.nil ?_
    refine WE.nxt ?_
    refine W.cond rfl (fun hc1 => ?_) (fun hc1 => ?_)
    · try simp only [decide_eq_true_eq, decide_eq_false_iff_not, beq_iff_eq, bne_iff_ne, beq_eq_false_iff_ne, bne_eq_false_iff_eq, ne_eq, Bool.or_eq_true, Bool.or_eq_false_iff, Bool.and_eq_true, Bool.and_eq_false_imp, Bool.not_eq_true, Bool.not_eq_true', Bool.not_eq_false', Classical.not_not, Int.not_lt, Int.not_le, gt_iff_lt, ge_iff_le] at hc1
      refine W.seq ?_
      refine W.region _ ?_
      refine WG.run tab_ok 2 rfl ?_
      refine WG.nil ?_
      refine WE.nxt ?_
      refine W.ret ?_
      refine WE.blk_ret ?_
      refine WE.then_ret ?_
      refine WE.then_ret ?_
      refine WE.blk_ret ?_
      refine WE.then_ret ?_
      refine WE.subE (E' := E) qS ?_
      refine WE.retF tab_ok [_] rfl ⟨rfl, trivial⟩ (RLe.refl _) ?_
      exact ⟨congrArg (Value.int IntKind.i64) (findN_some (by omega) hc1 hpre).symm, rfl⟩
    · try simp only [decide_eq_true_eq, decide_eq_false_iff_not, beq_iff_eq, bne_iff_ne, beq_eq_false_iff_ne, bne_eq_false_iff_eq, ne_eq, Bool.or_eq_true, Bool.or_eq_false_iff, Bool.and_eq_true, Bool.and_eq_false_imp, Bool.not_eq_true, Bool.not_eq_true', Bool.not_eq_false', Classical.not_not, Int.not_lt, Int.not_le, gt_iff_lt, ge_iff_le] at hc1
      refine W.skip ?_
      refine WE.blk _ ?_
      refine WE.nxt ?_
      refine W.region _ ?_
      refine WG.y rfl rfl (by decide) (Yl.add rfl rfl rfl (fun _ => rfl) (by intro _; constructor <;> (try dsimp only) <;> omega)) ?_
      refine WG.run tab_ok 1 rfl ?_
      refine WG.nil ?_
      refine WE.again (k + 1) (⟨by omega, fun i hi => by rcases Nat.lt_or_ge i k with h | h; exact hpre i h; rw [show i = k by omega]; simpa using hc1⟩) (by (try dsimp only); omega) ⟨rfl, rfl, rfl, rfl, rfl⟩ (RLe.refl _) qS
  · try dsimp only at hc0
    refine W.exit ?_
    refine WE.then_exit ?_
    refine WE.then_exit ?_
    refine WE.blk_exit ?_
    refine WE.nxt ?_
    refine W.seq ?_
    refine W.region _ ?_
    refine WG.run tab_ok 1 rfl ?_
    refine WG.nil ?_
    refine WE.nxt ?_
    refine W.ret ?_
    refine WE.subE (E' := E) qS ?_
    refine WE.retF tab_ok [_] rfl ⟨rfl, trivial⟩ (RLe.refl _) ?_
    exact ⟨congrArg (Value.int IntKind.i64) (findN_none (fun j hj => hpre j (by omega))).symm, rfl⟩

theorem ContainsI_V {R : Ro} {a : Option Addr} {c : Nat} {xs : List Int} {g : FuncId} {first capd : Array Value} {p : Int → Bool} (ha : RS R 1 encI a xs) (heg : Enters Tryz.prog g) (hp : ∀ i, i < xs.length → FnV Tryz.prog g (first.toList ++ [.int .i64 (nth xs i)] ++ capd.toList) R (.bool (p (nth xs i)))) :
    FnV Tryz.prog 220 [.slice a xs.length c, .func (.func g) first capd] R (.bool (decide (0 ≤ findN (fun i => p (nth xs i)) xs.length))) := by
  refine Fn.toV (fun w0 E => ?_)
  refine Fn.enter (n := 9) Tryz.func220 rfl rfl (Nat.le_of_ble_eq_true rfl) rfl ?_
  refine W.seq ?_
  refine W.region _ ?_
  refine WG.run tab_ok 1 rfl ?_
  refine WG.nil ?_
  refine WE.nxt ?_
  refine W.seq ?_
  refine W.region _ ?_
  refine WG.run tab_ok 2 rfl ?_
  refine WG.callV en230 rfl rfl (by decide) (CallOp.mk' rfl rfl rfl rfl) (fun _ => rfl) (fun hg => IndexI_V ha heg hp) ?_
  refine WG.run tab_ok 2 rfl ?_
  refine WG.nil ?_
  refine WE.nxt ?_
  refine W.ret ?_
  refine WE.subE (E' := E) qS ?_
  refine WE.retF tab_ok [_] rfl ⟨rfl, trivial⟩ (RLe.refl _) ?_
  exact ⟨rfl, rfl⟩

theorem Within1_V {R : Ro} {b4 b5 : Nat} {lo hi x : Int} (h4 : R b4 = some [.int .i64 lo]) (h5 : R b5 = some [.int .i64 hi]) :
    FnV Tryz.prog 221 [.int .i64 x, .pointer (some ⟨b4, 0, none⟩), .pointer (some ⟨b5, 0, none⟩)] R (.bool (outB lo hi x)) := by
  refine Fn.toV (fun w0 E => ?_)
  refine Fn.enter (n := 13) Tryz.func221 rfl rfl (Nat.le_of_ble_eq_true rfl) rfl ?_
  refine W.seq ?_
  refine W.region _ ?_
  refine WG.run tab_ok 1 rfl ?_
  refine WG.nil ?_
  refine WE.nxt ?_
  refine W.seq ?_
  refine W.region _ ?_
  refine WG.run tab_ok 1 rfl ?_
  refine' WG.y rfl rfl (by decide) (Yl.load1 tab_ok rfl rfl rfl (fun _ => rfl) ?r1 rfl ?h1) ?_
  case r1 => exact Rd.ro h4
  case h1 => rfl
  refine WG.run tab_ok 2 rfl ?_
  refine WG.y rfl rfl (by decide) (pureV_ok tab_ok rfl qE) ?_
  refine' WG.y rfl rfl (by decide) (Yl.loadG tab_ok rfl rfl rfl qE ?r2 rfl ?h2 ?g2) ?_
  case r2 => exact fun (_ : True) => Rd.ro h5
  case h2 => rfl
  case g2 => exact fun _ => trivial
  refine WG.y rfl rfl (by decide) (pureV_ok tab_ok rfl qE) ?_
  refine WG.y rfl rfl (by decide) (Yl.por rfl rfl rfl (fun _ => rfl) (by intro h1 h2; simp_all <;> omega)) ?_
  refine WG.run tab_ok 1 rfl ?_
  refine WG.nil ?_
  refine WE.nxt ?_
  refine W.ret ?_
  refine WE.subE (E' := E) qS ?_
  refine WE.retF tab_ok [_] rfl ⟨rfl, trivial⟩ (RLe.refl _) ?_
  exact ⟨by unfold outB; rfl, rfl⟩

theorem Within_V {R : Ro} {a : Option Addr} {c l : Nat} {xs : List Int} {lo hi : Int} (ha : RS R 1 encI a xs) (hl : xs.length = l) :
    FnV Tryz.prog 217 [.slice a l c, .int .i64 lo, .int .i64 hi] R (.bool (withinB xs lo hi)) := by
  subst hl
  refine Fn.toV (fun w0 E => ?_)
  refine Fn.enter (n := 11) Tryz.func217 rfl rfl (Nat.le_of_ble_eq_true rfl) rfl ?_
  refine W.seq ?_
  refine W.region _ ?_
  refine WL.ef rfl rfl (by decide) (Ef.box rfl rfl (fun b4 => ?_))
  refine WL.ef rfl rfl (by decide) (Ef.box rfl rfl (fun b5 => ?_))
  refine WG.run tab_ok 1 rfl ?_
  refine WG.nil ?_
  refine WE.nxt ?_
  refine W.freezeBlk (b := b4) 1 rfl (fun R1 hR1 hb1 => ?_)
  refine W.freezeBlk (b := b5) 0 rfl (fun R2 hR2 hb2 => ?_)
  refine W.seq ?_
  refine W.region _ ?_
  refine WG.run tab_ok 2 rfl ?_
  refine WG.callV en220 rfl rfl (by decide) (CallOp.mk' rfl rfl rfl rfl) (fun _ => rfl) (fun hg => ContainsI_V (ha.mono (hR1.trans hR2)) en221 (fun i hi => Within1_V (hR2 _ _ hb1) hb2)) ?_
  refine WG.run tab_ok 2 rfl ?_
  refine WG.nil ?_
  refine WE.nxt ?_
  refine W.ret ?_
  refine WE.subE (E' := E) qS ?_
  refine WE.retF tab_ok [_] rfl ⟨rfl, trivial⟩ (hR1.trans hR2) ?_
  exact ⟨congrArg Value.bool within_find, rfl⟩

theorem Lists_V {R : Ro} {a : Option Addr} {c : Nat} {rows : List Sl} {b : Bool} (ha : RS R 1 encS a rows) :
    FnV Tryz.prog 194 [.bool b, .slice a rows.length c] R (.int .i64 (listsE b (rows.map Sl.xs))) := by
  have hla := ha.len
  refine Fn.toV (fun w0 E => ?_)
  refine Fn.enter (n := 19) Tryz.func194 rfl rfl (Nat.le_of_ble_eq_true rfl) rfl ?_
  refine W.seq ?_
  refine W.region _ ?_
  refine WG.run tab_ok 1 rfl ?_
  refine WG.nil ?_
  refine WE.nxt ?_
  refine W.seq ?_
  refine W.seq ?_
  refine W.region _ ?_
  refine WG.run tab_ok 2 rfl ?_
  refine WG.nil ?_
  refine WE.nxt ?_
  refine W.cond rfl (fun hc0 => ?_) (fun hc0 => ?_)
  · try simp only [decide_eq_true_eq, decide_eq_false_iff_not, beq_iff_eq, bne_iff_ne, beq_eq_false_iff_ne, bne_eq_false_iff_eq, ne_eq, Bool.or_eq_true, Bool.or_eq_false_iff, Bool.and_eq_true, Bool.and_eq_false_imp, Bool.not_eq_true, Bool.not_eq_true', Bool.not_eq_false', Classical.not_not, Int.not_lt, Int.not_le, gt_iff_lt, ge_iff_le] at hc0
    refine W.seq ?_
    refine W.region _ ?_
    refine WG.run tab_ok 1 rfl ?_
    refine WG.nil ?_
    refine WE.nxt ?_
    refine W.ret ?_
    refine WE.then_ret ?_
    refine WE.subE (E' := E) qS ?_
    refine WE.retF tab_ok [_] rfl ⟨rfl, trivial⟩ (RLe.refl _) ?_
    exact ⟨by rw [show listsE b (rows.map Sl.xs) = 2 by simp [hc0, listsE]]; rfl, rfl⟩
  · try simp only [decide_eq_true_eq, decide_eq_false_iff_not, beq_iff_eq, bne_iff_ne, beq_eq_false_iff_ne, bne_eq_false_iff_eq, ne_eq, Bool.or_eq_true, Bool.or_eq_false_iff, Bool.and_eq_true, Bool.and_eq_false_imp, Bool.not_eq_true, Bool.not_eq_true', Bool.not_eq_false', Classical.not_not, Int.not_lt, Int.not_le, gt_iff_lt, ge_iff_le] at hc0
    refine W.skip ?_
    refine WE.nxt ?_
    refine W.seq ?_
    refine W.seq ?_
    refine W.region _ ?_
    refine WG.run tab_ok 3 rfl ?_
    refine WG.nil ?_
    refine WE.nxt ?_
    refine W.block ?_
    refine W.loopK (β := Nat) (fun k => k ≤ rows.length ∧ ∀ i, i < k → (nth rows i).xs.length = 0) (fun k => [(11, true, .int .i64 (k : Int))]) [9, 10] [_, _] [] _ rfl (fun k => []) (fun k => rows.length - k) (0) (⟨Nat.zero_le _, fun i hi => absurd hi (Nat.not_lt_zero i)⟩) ⟨rfl, rfl, rfl, rfl⟩ qS ?_
    intro k hst
    dsimp only [zipE, setAll, List.cons_append, List.nil_append, List.set_cons_zero, List.set_cons_succ] at hst ⊢
    obtain ⟨hk, hpre⟩ := hst
    refine W.seq ?_
    refine W.region _ ?_
    refine WG.run tab_ok 1 rfl ?_
    refine WG.nil ?_
    refine WE.nxt ?_
    refine W.seq ?_
    refine W.condD rfl (fun hc1 => ?_) (fun hc1 => ?_)
    · try dsimp only at hc1
      refine W.skip ?_
      refine WE.nxt ?_
      refine W.seq ?_
      refine W.block ?_
      refine W.seq ?_
      refine W.region _ ?_
      refine WG.y rfl rfl (by decide) (Yl.indexN tab_ok rfl rfl rfl rfl rfl rfl (fun _ => rfl) (by intro _; (try dsimp only) <;> omega) (by intro _; first | exact fun _ _ _ _ => rfl | exact RS.has (by assumption) | exact fun _ _ _ _ => (by assumption) | exact HasMem.ownD 0 rfl | exact HasMem.ownD 1 rfl | exact HasMem.ownD 2 rfl)) ?_
      refine' WG.y rfl rfl (by decide) (Yl.load1 tab_ok rfl rfl rfl (fun _ => rfl) ?r1 rfl ?h1) ?_
      case r1 => ((apply RS.rdD; assumption; ((try dsimp only) <;> omega)))
      case h1 => rfl
      refine WG.run tab_ok 1 rfl ?_
      refine WG.nil ?_
      refine WE.nxt ?_
      refine W.seq ?_
      refine W.region _ ?_
      refine WG.run tab_ok 3 rfl ?_
      refine WG.nil ?_
      refine WE.nxt ?_
      refine W.condD rfl (fun hc2 => ?_) (fun hc2 => ?_)
      · try dsimp only at hc2
        refine W.seq ?_
        refine W.region _ ?_
        refine WG.run tab_ok 1 rfl ?_
        refine WG.nil ?_
        refine WE.nxt ?_
        refine W.ret ?_
        refine WE.blk_ret ?_
        refine WE.then_ret ?_
        refine WE.then_ret ?_
        refine WE.blk_ret ?_
        refine WE.then_ret ?_
        refine WE.subE (E' := E) qS ?_
        refine WE.retF tab_ok [_] rfl ⟨rfl, trivial⟩ (RLe.refl _) ?_
        have hb : b = true := by simpa using hc0
        exact ⟨by unfold listsE; rw [if_neg (by simp [hb]), if_pos (List.any_eq_true.2 ⟨(nth rows k).xs, List.mem_map.2 ⟨_, nth_mem (xs := rows) (k := k) (by omega), rfl⟩, by simp; omega⟩)]; rfl, rfl⟩
      · try dsimp only at hc2
        refine W.skip ?_
        refine WE.blk _ ?_
        refine WE.nxt ?_
        refine W.region _ ?_
        refine WG.y rfl rfl (by decide) (Yl.add rfl rfl rfl (fun _ => rfl) (by intro _; constructor <;> (try dsimp only) <;> omega)) ?_
        refine WG.run tab_ok 1 rfl ?_
        refine WG.nil ?_
        refine WE.again (k + 1) (⟨by omega, fun i hi => by rcases Nat.lt_or_ge i k with h | h; exact hpre i h; rw [show i = k by omega]; omega⟩) (by (try dsimp only); omega) ⟨rfl, rfl, rfl, rfl⟩ (RLe.refl _) qS
    · try dsimp only at hc1
      refine W.exit ?_
      refine WE.then_exit ?_
      refine WE.then_exit ?_
      refine WE.blk_exit ?_
      refine WE.nxt ?_
      refine W.seq ?_
      refine W.region _ ?_
      refine WG.run tab_ok 1 rfl ?_
      refine WG.nil ?_
      refine WE.nxt ?_
      refine W.ret ?_
      refine WE.subE (E' := E) qS ?_
      refine WE.retF tab_ok [_] rfl ⟨rfl, trivial⟩ (RLe.refl _) ?_
      have hb : b = true := by simpa using hc0
      have hno : ((rows.map Sl.xs).any fun r => decide (0 < r.length)) = false := by
        rw [List.any_eq_false]
        intro r hr
        obtain ⟨x, hx, rfl⟩ := List.mem_map.1 hr
        obtain ⟨i, hi, rfl⟩ := List.getElem_of_mem hx
        have := hpre i (by omega)
        rw [show nth rows i = rows[i] by unfold nth List.getD; rw [List.getElem?_eq_getElem hi]; rfl] at this
        simp [this]
      exact ⟨by unfold listsE; rw [if_neg (by simp [hb]), hno]; rfl, rfl⟩

end Go.Proofs.YtlgjkmebpnnphaaGreat

/- Chapter 22: the lists of each kind. No condition. -/
set_option maxRecDepth 4000
set_option linter.unusedSimpArgs false
set_option linter.unusedVariables false
namespace Go.Proofs.YtlgjkmebpnnphaaGreat
open Go Go.RowKit Go.Proofs.YtlgjkmebpnnphaaGreat.K Go.Proofs.YtlgjkmebpnnphaaGreat.M

theorem ChkFifo_V {R : Ro} {aw at_ : Option Addr} {lw cw lt ct : Nat} {L : Ln} (hw : RS R 1 encI aw L.w) (hlw : L.w.length = lw) (ht : RS R 1 encI at_ L.tb) (hlt : L.tb.length = lt) (hn : 1 ≤ L.n ∧ L.n ≤ 6) : FnV Tryz.prog 191 [.agg #[], .agg #[.int .i64 L.kind, .int .i64 L.cap, .int .i64 L.n, .slice aw lw cw, .slice at_ lt ct]] R (.int .i64 (listsE true [L.w, L.tb])) := by
  subst hlw
  subst hlt
  have hw1 := hw.len
  have ht1 := ht.len
  refine Fn.toV (fun w0 E => ?_)
  refine Fn.enter (n := 11) Tryz.func191 rfl rfl (Nat.le_of_ble_eq_true rfl) rfl ?_
  refine W.seq ?_
  refine W.region _ ?_
  refine WL.ef rfl rfl (by decide) (Ef.box rfl rfl (fun b2 => ?_))
  refine WL.ef rfl rfl (by decide) (Ef.box rfl rfl (fun b3 => ?_))
  refine WG.run tab_ok 1 rfl ?_
  refine WG.nil ?_
  refine WE.nxt ?_
  refine W.seq ?_
  refine W.region _ ?_
  refine WG.run tab_ok 1 rfl ?_
  refine' WG.y rfl rfl (by decide) (Yl.load1 tab_ok rfl rfl rfl (fun _ => rfl) ?r1 rfl ?h1) ?_
  case r1 => apply Rd.add; (exact Rd.blk 0 rfl)
  case h1 => rfl
  refine WG.run tab_ok 1 rfl ?_
  refine' WG.y rfl rfl (by decide) (Yl.load1 tab_ok rfl rfl rfl (fun _ => rfl) ?r2 rfl ?h2) ?_
  case r2 => apply Rd.add; (exact Rd.blk 0 rfl)
  case h2 => rfl
  refine WL.ef rfl rfl (by decide) (Ef.buildSliceD (enc := encS) (parts := [.tmp 6, .tmp 8]) [⟨_, _, _⟩, ⟨_, _, _⟩] tab_ok rfl rfl rfl rfl rfl rfl rfl rfl (by decide) (by decide) (fun a9 => ?_))
  refine WL.freeze (enc := encS) (xs := [⟨aw, cw, L.w⟩, ⟨at_, ct, L.tb⟩]) 0 rfl ?_
  intro R1 hR1 hz
  refine WG.callV en194 rfl rfl (by decide) (CallOp.mk' rfl rfl rfl rfl) (fun _ => rfl) (fun hg => Lists_V (rows := [⟨aw, cw, L.w⟩, ⟨at_, ct, L.tb⟩]) hz) ?_
  refine WG.run tab_ok 1 rfl ?_
  refine WG.nil ?_
  refine WE.nxt ?_
  refine W.ret ?_
  refine WE.subE (E' := E) qS ?_
  refine WE.retF tab_ok [_] rfl ⟨rfl, trivial⟩ (hR1) ?_
  exact ⟨rfl, rfl⟩

theorem ChkRanks_V {R : Ro} {aw at_ : Option Addr} {lw cw lt ct : Nat} {L : Ln} (hw : RS R 1 encI aw L.w) (hlw : L.w.length = lw) (ht : RS R 1 encI at_ L.tb) (hlt : L.tb.length = lt) (hn : 1 ≤ L.n ∧ L.n ≤ 6) : FnV Tryz.prog 200 [.agg #[], .agg #[.int .i64 L.kind, .int .i64 L.cap, .int .i64 L.n, .slice aw lw cw, .slice at_ lt ct]] R (.int .i64 (listsE true [L.w, L.tb])) := by
  subst hlw
  subst hlt
  have hw1 := hw.len
  have ht1 := ht.len
  refine Fn.toV (fun w0 E => ?_)
  refine Fn.enter (n := 11) Tryz.func200 rfl rfl (Nat.le_of_ble_eq_true rfl) rfl ?_
  refine W.seq ?_
  refine W.region _ ?_
  refine WL.ef rfl rfl (by decide) (Ef.box rfl rfl (fun b2 => ?_))
  refine WL.ef rfl rfl (by decide) (Ef.box rfl rfl (fun b3 => ?_))
  refine WG.run tab_ok 1 rfl ?_
  refine WG.nil ?_
  refine WE.nxt ?_
  refine W.seq ?_
  refine W.region _ ?_
  refine WG.run tab_ok 1 rfl ?_
  refine' WG.y rfl rfl (by decide) (Yl.load1 tab_ok rfl rfl rfl (fun _ => rfl) ?r1 rfl ?h1) ?_
  case r1 => apply Rd.add; (exact Rd.blk 0 rfl)
  case h1 => rfl
  refine WG.run tab_ok 1 rfl ?_
  refine' WG.y rfl rfl (by decide) (Yl.load1 tab_ok rfl rfl rfl (fun _ => rfl) ?r2 rfl ?h2) ?_
  case r2 => apply Rd.add; (exact Rd.blk 0 rfl)
  case h2 => rfl
  refine WL.ef rfl rfl (by decide) (Ef.buildSliceD (enc := encS) (parts := [.tmp 6, .tmp 8]) [⟨_, _, _⟩, ⟨_, _, _⟩] tab_ok rfl rfl rfl rfl rfl rfl rfl rfl (by decide) (by decide) (fun a9 => ?_))
  refine WL.freeze (enc := encS) (xs := [⟨aw, cw, L.w⟩, ⟨at_, ct, L.tb⟩]) 0 rfl ?_
  intro R1 hR1 hz
  refine WG.callV en194 rfl rfl (by decide) (CallOp.mk' rfl rfl rfl rfl) (fun _ => rfl) (fun hg => Lists_V (rows := [⟨aw, cw, L.w⟩, ⟨at_, ct, L.tb⟩]) hz) ?_
  refine WG.run tab_ok 1 rfl ?_
  refine WG.nil ?_
  refine WE.nxt ?_
  refine W.ret ?_
  refine WE.subE (E' := E) qS ?_
  refine WE.retF tab_ok [_] rfl ⟨rfl, trivial⟩ (hR1) ?_
  exact ⟨rfl, rfl⟩

theorem ChkRobin_V {R : Ro} {aw at_ : Option Addr} {lw cw lt ct : Nat} {L : Ln} (hw : RS R 1 encI aw L.w) (hlw : L.w.length = lw) (ht : RS R 1 encI at_ L.tb) (hlt : L.tb.length = lt) (hn : 1 ≤ L.n ∧ L.n ≤ 6) : FnV Tryz.prog 214 [.agg #[], .agg #[.int .i64 L.kind, .int .i64 L.cap, .int .i64 L.n, .slice aw lw cw, .slice at_ lt ct]] R (.int .i64 (listsE (decide ((L.w.length : Int) = L.n) && withinB L.w 1 20) [L.tb])) := by
  subst hlw
  subst hlt
  have hw1 := hw.len
  have ht1 := ht.len
  refine Fn.toV (fun w0 E => ?_)
  refine Fn.enter (n := 20) Tryz.func214 rfl rfl (Nat.le_of_ble_eq_true rfl) rfl ?_
  refine W.seq ?_
  refine W.region _ ?_
  refine WL.ef rfl rfl (by decide) (Ef.box rfl rfl (fun b2 => ?_))
  refine WL.ef rfl rfl (by decide) (Ef.box rfl rfl (fun b3 => ?_))
  refine WG.run tab_ok 1 rfl ?_
  refine WG.nil ?_
  refine WE.nxt ?_
  refine W.seq ?_
  refine W.regionH _ (ES := (.blk b3 [.int .i64 L.kind, .int .i64 L.cap, .int .i64 L.n, .slice aw L.w.length cw, .slice at_ L.tb.length ct] :: .blk b2 [] :: E)) mixed ?_
  refine WA.take 0 rfl (by kernel_rfl) (by kernel_rfl) (by kernel_rfl) rfl rfl (by decide) (pureV_ok tab_ok rfl (fun _ => rfl)) qS (by first | exact RLe.refl _ | assumption) ?_
  refine' WA.take 1 rfl (by kernel_rfl) (by kernel_rfl) (by kernel_rfl) rfl rfl (by decide) (Yl.load1 tab_ok rfl rfl rfl (fun _ => rfl) ?r1 rfl ?h1) qS (by first | exact RLe.refl _ | assumption) ?_
  case r1 => apply Rd.add; (exact Rd.blk 0 rfl)
  case h1 => rfl
  refine WA.take 2 rfl (by kernel_rfl) (by kernel_rfl) (by kernel_rfl) rfl rfl (by decide) (pureV_ok tab_ok rfl (fun _ => rfl)) qS (by first | exact RLe.refl _ | assumption) ?_
  refine WA.take 3 rfl (by kernel_rfl) (by kernel_rfl) (by kernel_rfl) rfl rfl (by decide) (pureV_ok tab_ok rfl (fun _ => rfl)) qS (by first | exact RLe.refl _ | assumption) ?_
  refine' WA.take 4 rfl (by kernel_rfl) (by kernel_rfl) (by kernel_rfl) rfl rfl (by decide) (Yl.load1 tab_ok rfl rfl rfl (fun _ => rfl) ?r2 rfl ?h2) qS (by first | exact RLe.refl _ | assumption) ?_
  case r2 => apply Rd.add; (exact Rd.blk 0 rfl)
  case h2 => rfl
  refine WA.take 5 rfl (by kernel_rfl) (by kernel_rfl) (by kernel_rfl) rfl rfl (by decide) (pureV_ok tab_ok rfl (fun _ => rfl)) qS (by first | exact RLe.refl _ | assumption) ?_
  refine WA.take 6 rfl (by kernel_rfl) (by kernel_rfl) (by kernel_rfl) rfl rfl (by decide) (pureV_ok tab_ok rfl (fun _ => rfl)) qS (by first | exact RLe.refl _ | assumption) ?_
  refine WA.take 7 rfl (by kernel_rfl) (by kernel_rfl) (by kernel_rfl) rfl rfl (by decide) (pureV_ok tab_ok rfl qE) qS (by first | exact RLe.refl _ | assumption) ?_
  refine' WA.take 8 rfl (by kernel_rfl) (by kernel_rfl) (by kernel_rfl) rfl rfl (by decide) (Yl.loadG tab_ok rfl rfl rfl qE ?r3 rfl ?h3 ?g3) qS (by first | exact RLe.refl _ | assumption) ?_
  case r3 => apply Rd.addC; (exact Rd.blkC 0 rfl)
  case h3 => rfl
  case g3 => exact fun _ => trivial
  refine WA.take 11 rfl (by kernel_rfl) (by kernel_rfl) (by kernel_rfl) rfl rfl (by decide) (pureV_ok tab_ok rfl (fun _ => rfl)) qS (by first | exact RLe.refl _ | assumption) ?_
  refine' WA.take 12 rfl (by kernel_rfl) (by kernel_rfl) (by kernel_rfl) rfl rfl (by decide) (Yl.load1 tab_ok rfl rfl rfl (fun _ => rfl) ?r4 rfl ?h4) qS (by first | exact RLe.refl _ | assumption) ?_
  case r4 => apply Rd.add; (exact Rd.blk 0 rfl)
  case h4 => rfl
  refine WA.br2 (i := 9) (j := 13) (by kernel_rfl) ?_ ?_
  ·
    refine WS.callV rfl en217 rfl rfl (by decide) (CallOp.mk' rfl rfl rfl rfl) qE (fun hg => Within_V (by first | exact hw | exact hw.mono hR1) rfl) qS (by first | exact RLe.refl _ | assumption) ?_
    refine WA.take 10 rfl (by kernel_rfl) (by kernel_rfl) (by kernel_rfl) rfl rfl (by decide) (Yl.pand rfl rfl rfl (fun _ => rfl) (by intro h1 h2; simp_all <;> omega)) qS (by first | exact RLe.refl _ | assumption) ?_
    refine WA.eff 13 rfl (by kernel_rfl) rfl rfl (by decide) (Ef.buildSliceD (enc := encS) (parts := [.tmp 17]) [⟨_, _, _⟩] tab_ok rfl rfl rfl rfl rfl rfl rfl rfl (by decide) (by decide) (fun a18 => ?_))
    refine ⟨by first | exact RLe.refl _ | assumption, qS, ?_⟩
    refine WA.freeze (enc := encS) (xs := [⟨at_, ct, L.tb⟩]) 0 rfl ?_
    intro R1 hR1 hz
    refine WA.callV 14 rfl (by kernel_rfl) en194 rfl rfl (by decide) (CallOp.mk' rfl rfl rfl rfl) (fun _ => rfl) (fun hg => Lists_V (rows := [⟨at_, ct, L.tb⟩]) hz) qS (by first | exact RLe.refl _ | assumption) ?_
    refine WA.take 15 rfl (by kernel_rfl) (by kernel_rfl) (by kernel_rfl) rfl rfl (by decide) (pureV_ok tab_ok rfl (fun _ => rfl)) qS (by first | exact RLe.refl _ | assumption) ?_
    refine WA.done (by kernel_rfl) ?_
    refine WE.nxt ?_
    refine W.ret ?_
    refine WE.subE (E' := E) qS ?_
    refine WE.retF tab_ok [_] rfl ⟨rfl, trivial⟩ (hR1) ?_
    exact ⟨rfl, rfl⟩
  ·
    refine WS.eff rfl rfl rfl (by decide) (Ef.buildSliceD (enc := encS) (parts := [.tmp 17]) [⟨_, _, _⟩] tab_ok rfl rfl rfl rfl rfl rfl rfl rfl (by decide) (by decide) (fun a18 => ?_))
    refine ⟨by first | exact RLe.refl _ | assumption, qS, ?_⟩
    refine WA.freeze (enc := encS) (xs := [⟨at_, ct, L.tb⟩]) 0 rfl ?_
    intro R1 hR1 hz
    refine WA.callV 9 rfl (by kernel_rfl) en217 rfl rfl (by decide) (CallOp.mk' rfl rfl rfl rfl) qE (fun hg => Within_V (by first | exact hw | exact hw.mono hR1) rfl) qS (by first | exact RLe.refl _ | assumption) ?_
    refine WA.take 10 rfl (by kernel_rfl) (by kernel_rfl) (by kernel_rfl) rfl rfl (by decide) (Yl.pand rfl rfl rfl (fun _ => rfl) (by intro h1 h2; simp_all <;> omega)) qS (by first | exact RLe.refl _ | assumption) ?_
    refine WA.callV 14 rfl (by kernel_rfl) en194 rfl rfl (by decide) (CallOp.mk' rfl rfl rfl rfl) (fun _ => rfl) (fun hg => Lists_V (rows := [⟨at_, ct, L.tb⟩]) hz) qS (by first | exact RLe.refl _ | assumption) ?_
    refine WA.take 15 rfl (by kernel_rfl) (by kernel_rfl) (by kernel_rfl) rfl rfl (by decide) (pureV_ok tab_ok rfl (fun _ => rfl)) qS (by first | exact RLe.refl _ | assumption) ?_
    refine WA.done (by kernel_rfl) ?_
    refine WE.nxt ?_
    refine W.ret ?_
    refine WE.subE (E' := E) qS ?_
    refine WE.retF tab_ok [_] rfl ⟨rfl, trivial⟩ (hR1) ?_
    exact ⟨rfl, rfl⟩

theorem ChkDef_V {R : Ro} {aw at_ : Option Addr} {lw cw lt ct : Nat} {L : Ln} (hw : RS R 1 encI aw L.w) (hlw : L.w.length = lw) (ht : RS R 1 encI at_ L.tb) (hlt : L.tb.length = lt) (hn : 1 ≤ L.n ∧ L.n ≤ 6) : FnV Tryz.prog 231 [.agg #[], .agg #[.int .i64 L.kind, .int .i64 L.cap, .int .i64 L.n, .slice aw lw cw, .slice at_ lt ct]] R (.int .i64 (listsE (decide ((L.w.length : Int) = L.n) && withinB L.w 1 6000) [L.tb])) := by
  subst hlw
  subst hlt
  have hw1 := hw.len
  have ht1 := ht.len
  refine Fn.toV (fun w0 E => ?_)
  refine Fn.enter (n := 20) Tryz.func231 rfl rfl (Nat.le_of_ble_eq_true rfl) rfl ?_
  refine W.seq ?_
  refine W.region _ ?_
  refine WL.ef rfl rfl (by decide) (Ef.box rfl rfl (fun b2 => ?_))
  refine WL.ef rfl rfl (by decide) (Ef.box rfl rfl (fun b3 => ?_))
  refine WG.run tab_ok 1 rfl ?_
  refine WG.nil ?_
  refine WE.nxt ?_
  refine W.seq ?_
  refine W.regionH _ (ES := (.blk b3 [.int .i64 L.kind, .int .i64 L.cap, .int .i64 L.n, .slice aw L.w.length cw, .slice at_ L.tb.length ct] :: .blk b2 [] :: E)) mixed ?_
  refine WA.take 0 rfl (by kernel_rfl) (by kernel_rfl) (by kernel_rfl) rfl rfl (by decide) (pureV_ok tab_ok rfl (fun _ => rfl)) qS (by first | exact RLe.refl _ | assumption) ?_
  refine' WA.take 1 rfl (by kernel_rfl) (by kernel_rfl) (by kernel_rfl) rfl rfl (by decide) (Yl.load1 tab_ok rfl rfl rfl (fun _ => rfl) ?r1 rfl ?h1) qS (by first | exact RLe.refl _ | assumption) ?_
  case r1 => apply Rd.add; (exact Rd.blk 0 rfl)
  case h1 => rfl
  refine WA.take 2 rfl (by kernel_rfl) (by kernel_rfl) (by kernel_rfl) rfl rfl (by decide) (pureV_ok tab_ok rfl (fun _ => rfl)) qS (by first | exact RLe.refl _ | assumption) ?_
  refine WA.take 3 rfl (by kernel_rfl) (by kernel_rfl) (by kernel_rfl) rfl rfl (by decide) (pureV_ok tab_ok rfl (fun _ => rfl)) qS (by first | exact RLe.refl _ | assumption) ?_
  refine' WA.take 4 rfl (by kernel_rfl) (by kernel_rfl) (by kernel_rfl) rfl rfl (by decide) (Yl.load1 tab_ok rfl rfl rfl (fun _ => rfl) ?r2 rfl ?h2) qS (by first | exact RLe.refl _ | assumption) ?_
  case r2 => apply Rd.add; (exact Rd.blk 0 rfl)
  case h2 => rfl
  refine WA.take 5 rfl (by kernel_rfl) (by kernel_rfl) (by kernel_rfl) rfl rfl (by decide) (pureV_ok tab_ok rfl (fun _ => rfl)) qS (by first | exact RLe.refl _ | assumption) ?_
  refine WA.take 6 rfl (by kernel_rfl) (by kernel_rfl) (by kernel_rfl) rfl rfl (by decide) (pureV_ok tab_ok rfl (fun _ => rfl)) qS (by first | exact RLe.refl _ | assumption) ?_
  refine WA.take 7 rfl (by kernel_rfl) (by kernel_rfl) (by kernel_rfl) rfl rfl (by decide) (pureV_ok tab_ok rfl qE) qS (by first | exact RLe.refl _ | assumption) ?_
  refine' WA.take 8 rfl (by kernel_rfl) (by kernel_rfl) (by kernel_rfl) rfl rfl (by decide) (Yl.loadG tab_ok rfl rfl rfl qE ?r3 rfl ?h3 ?g3) qS (by first | exact RLe.refl _ | assumption) ?_
  case r3 => apply Rd.addC; (exact Rd.blkC 0 rfl)
  case h3 => rfl
  case g3 => exact fun _ => trivial
  refine WA.take 11 rfl (by kernel_rfl) (by kernel_rfl) (by kernel_rfl) rfl rfl (by decide) (pureV_ok tab_ok rfl (fun _ => rfl)) qS (by first | exact RLe.refl _ | assumption) ?_
  refine' WA.take 12 rfl (by kernel_rfl) (by kernel_rfl) (by kernel_rfl) rfl rfl (by decide) (Yl.load1 tab_ok rfl rfl rfl (fun _ => rfl) ?r4 rfl ?h4) qS (by first | exact RLe.refl _ | assumption) ?_
  case r4 => apply Rd.add; (exact Rd.blk 0 rfl)
  case h4 => rfl
  refine WA.br2 (i := 9) (j := 13) (by kernel_rfl) ?_ ?_
  ·
    refine WS.callV rfl en217 rfl rfl (by decide) (CallOp.mk' rfl rfl rfl rfl) qE (fun hg => Within_V (by first | exact hw | exact hw.mono hR1) rfl) qS (by first | exact RLe.refl _ | assumption) ?_
    refine WA.take 10 rfl (by kernel_rfl) (by kernel_rfl) (by kernel_rfl) rfl rfl (by decide) (Yl.pand rfl rfl rfl (fun _ => rfl) (by intro h1 h2; simp_all <;> omega)) qS (by first | exact RLe.refl _ | assumption) ?_
    refine WA.eff 13 rfl (by kernel_rfl) rfl rfl (by decide) (Ef.buildSliceD (enc := encS) (parts := [.tmp 17]) [⟨_, _, _⟩] tab_ok rfl rfl rfl rfl rfl rfl rfl rfl (by decide) (by decide) (fun a18 => ?_))
    refine ⟨by first | exact RLe.refl _ | assumption, qS, ?_⟩
    refine WA.freeze (enc := encS) (xs := [⟨at_, ct, L.tb⟩]) 0 rfl ?_
    intro R1 hR1 hz
    refine WA.callV 14 rfl (by kernel_rfl) en194 rfl rfl (by decide) (CallOp.mk' rfl rfl rfl rfl) (fun _ => rfl) (fun hg => Lists_V (rows := [⟨at_, ct, L.tb⟩]) hz) qS (by first | exact RLe.refl _ | assumption) ?_
    refine WA.take 15 rfl (by kernel_rfl) (by kernel_rfl) (by kernel_rfl) rfl rfl (by decide) (pureV_ok tab_ok rfl (fun _ => rfl)) qS (by first | exact RLe.refl _ | assumption) ?_
    refine WA.done (by kernel_rfl) ?_
    refine WE.nxt ?_
    refine W.ret ?_
    refine WE.subE (E' := E) qS ?_
    refine WE.retF tab_ok [_] rfl ⟨rfl, trivial⟩ (hR1) ?_
    exact ⟨rfl, rfl⟩
  ·
    refine WS.eff rfl rfl rfl (by decide) (Ef.buildSliceD (enc := encS) (parts := [.tmp 17]) [⟨_, _, _⟩] tab_ok rfl rfl rfl rfl rfl rfl rfl rfl (by decide) (by decide) (fun a18 => ?_))
    refine ⟨by first | exact RLe.refl _ | assumption, qS, ?_⟩
    refine WA.freeze (enc := encS) (xs := [⟨at_, ct, L.tb⟩]) 0 rfl ?_
    intro R1 hR1 hz
    refine WA.callV 9 rfl (by kernel_rfl) en217 rfl rfl (by decide) (CallOp.mk' rfl rfl rfl rfl) qE (fun hg => Within_V (by first | exact hw | exact hw.mono hR1) rfl) qS (by first | exact RLe.refl _ | assumption) ?_
    refine WA.take 10 rfl (by kernel_rfl) (by kernel_rfl) (by kernel_rfl) rfl rfl (by decide) (Yl.pand rfl rfl rfl (fun _ => rfl) (by intro h1 h2; simp_all <;> omega)) qS (by first | exact RLe.refl _ | assumption) ?_
    refine WA.callV 14 rfl (by kernel_rfl) en194 rfl rfl (by decide) (CallOp.mk' rfl rfl rfl rfl) (fun _ => rfl) (fun hg => Lists_V (rows := [⟨at_, ct, L.tb⟩]) hz) qS (by first | exact RLe.refl _ | assumption) ?_
    refine WA.take 15 rfl (by kernel_rfl) (by kernel_rfl) (by kernel_rfl) rfl rfl (by decide) (pureV_ok tab_ok rfl (fun _ => rfl)) qS (by first | exact RLe.refl _ | assumption) ?_
    refine WA.done (by kernel_rfl) ?_
    refine WE.nxt ?_
    refine W.ret ?_
    refine WE.subE (E' := E) qS ?_
    refine WE.retF tab_ok [_] rfl ⟨rfl, trivial⟩ (hR1) ?_
    exact ⟨rfl, rfl⟩

theorem ChkTimes_V {R : Ro} {aw at_ : Option Addr} {lw cw lt ct : Nat} {L : Ln} (hw : RS R 1 encI aw L.w) (hlw : L.w.length = lw) (ht : RS R 1 encI at_ L.tb) (hlt : L.tb.length = lt) (hn : 1 ≤ L.n ∧ L.n ≤ 6) : FnV Tryz.prog 244 [.agg #[], .agg #[.int .i64 L.kind, .int .i64 L.cap, .int .i64 L.n, .slice aw lw cw, .slice at_ lt ct]] R (.int .i64 (listsE (decide (1 ≤ (L.tb.length : Int)) && decide ((L.tb.length : Int) ≤ 40) && withinB L.tb (-1) (L.n - 1)) [L.w])) := by
  subst hlw
  subst hlt
  have hw1 := hw.len
  have ht1 := ht.len
  refine Fn.toV (fun w0 E => ?_)
  refine Fn.enter (n := 27) Tryz.func244 rfl rfl (Nat.le_of_ble_eq_true rfl) rfl ?_
  refine W.seq ?_
  refine W.region _ ?_
  refine WL.ef rfl rfl (by decide) (Ef.box rfl rfl (fun b2 => ?_))
  refine WL.ef rfl rfl (by decide) (Ef.box rfl rfl (fun b3 => ?_))
  refine WG.run tab_ok 1 rfl ?_
  refine WG.nil ?_
  refine WE.nxt ?_
  refine W.seq ?_
  refine W.regionH _ (ES := (.blk b3 [.int .i64 L.kind, .int .i64 L.cap, .int .i64 L.n, .slice aw L.w.length cw, .slice at_ L.tb.length ct] :: .blk b2 [] :: E)) mixed ?_
  refine WA.take 0 rfl (by kernel_rfl) (by kernel_rfl) (by kernel_rfl) rfl rfl (by decide) (pureV_ok tab_ok rfl (fun _ => rfl)) qS (by first | exact RLe.refl _ | assumption) ?_
  refine' WA.take 1 rfl (by kernel_rfl) (by kernel_rfl) (by kernel_rfl) rfl rfl (by decide) (Yl.load1 tab_ok rfl rfl rfl (fun _ => rfl) ?r1 rfl ?h1) qS (by first | exact RLe.refl _ | assumption) ?_
  case r1 => apply Rd.add; (exact Rd.blk 0 rfl)
  case h1 => rfl
  refine WA.take 2 rfl (by kernel_rfl) (by kernel_rfl) (by kernel_rfl) rfl rfl (by decide) (pureV_ok tab_ok rfl (fun _ => rfl)) qS (by first | exact RLe.refl _ | assumption) ?_
  refine WA.take 3 rfl (by kernel_rfl) (by kernel_rfl) (by kernel_rfl) rfl rfl (by decide) (pureV_ok tab_ok rfl (fun _ => rfl)) qS (by first | exact RLe.refl _ | assumption) ?_
  refine WA.take 4 rfl (by kernel_rfl) (by kernel_rfl) (by kernel_rfl) rfl rfl (by decide) (pureV_ok tab_ok rfl (fun _ => rfl)) qS (by first | exact RLe.refl _ | assumption) ?_
  refine WA.take 5 rfl (by kernel_rfl) (by kernel_rfl) (by kernel_rfl) rfl rfl (by decide) (pureV_ok tab_ok rfl qE) qS (by first | exact RLe.refl _ | assumption) ?_
  refine' WA.take 6 rfl (by kernel_rfl) (by kernel_rfl) (by kernel_rfl) rfl rfl (by decide) (Yl.loadG tab_ok rfl rfl rfl qE ?r2 rfl ?h2 ?g2) qS (by first | exact RLe.refl _ | assumption) ?_
  case r2 => apply Rd.addC; (exact Rd.blkC 0 rfl)
  case h2 => rfl
  case g2 => exact fun _ => trivial
  refine WA.take 7 rfl (by kernel_rfl) (by kernel_rfl) (by kernel_rfl) rfl rfl (by decide) (pureV_ok tab_ok rfl qE) qS (by first | exact RLe.refl _ | assumption) ?_
  refine WA.take 8 rfl (by kernel_rfl) (by kernel_rfl) (by kernel_rfl) rfl rfl (by decide) (pureV_ok tab_ok rfl qE) qS (by first | exact RLe.refl _ | assumption) ?_
  refine WA.take 9 rfl (by kernel_rfl) (by kernel_rfl) (by kernel_rfl) rfl rfl (by decide) (Yl.pand rfl rfl rfl (fun _ => rfl) (by intro h1 h2; simp_all <;> omega)) qS (by first | exact RLe.refl _ | assumption) ?_
  refine WA.take 10 rfl (by kernel_rfl) (by kernel_rfl) (by kernel_rfl) rfl rfl (by decide) (pureV_ok tab_ok rfl (fun _ => rfl)) qS (by first | exact RLe.refl _ | assumption) ?_
  refine WA.take 11 rfl (by kernel_rfl) (by kernel_rfl) (by kernel_rfl) rfl rfl (by decide) (pureV_ok tab_ok rfl qE) qS (by first | exact RLe.refl _ | assumption) ?_
  refine' WA.take 12 rfl (by kernel_rfl) (by kernel_rfl) (by kernel_rfl) rfl rfl (by decide) (Yl.loadG tab_ok rfl rfl rfl qE ?r3 rfl ?h3 ?g3) qS (by first | exact RLe.refl _ | assumption) ?_
  case r3 => apply Rd.addC; (exact Rd.blkC 0 rfl)
  case h3 => rfl
  case g3 => exact fun _ => trivial
  refine WA.take 13 rfl (by kernel_rfl) (by kernel_rfl) (by kernel_rfl) rfl rfl (by decide) (pureV_ok tab_ok rfl qE) qS (by first | exact RLe.refl _ | assumption) ?_
  refine' WA.take 14 rfl (by kernel_rfl) (by kernel_rfl) (by kernel_rfl) rfl rfl (by decide) (Yl.loadG tab_ok rfl rfl rfl qE ?r4 rfl ?h4 ?g4) qS (by first | exact RLe.refl _ | assumption) ?_
  case r4 => apply Rd.addC; (exact Rd.blkC 0 rfl)
  case h4 => rfl
  case g4 => exact fun _ => trivial
  refine WA.take 15 rfl (by kernel_rfl) (by kernel_rfl) (by kernel_rfl) rfl rfl (by decide) (Yl.sub rfl rfl rfl qE (by intro hg; (try simp only [decide_eq_true_eq, decide_eq_false_iff_not, beq_iff_eq, bne_iff_ne, beq_eq_false_iff_ne, bne_eq_false_iff_eq, ne_eq, Bool.or_eq_true, Bool.or_eq_false_iff, Bool.and_eq_true, Bool.and_eq_false_imp, Bool.not_eq_true, Bool.not_eq_true', Bool.not_eq_false', Classical.not_not, Int.not_lt, Int.not_le, gt_iff_lt, ge_iff_le] at hg); constructor <;> (try dsimp only) <;> omega)) qS (by first | exact RLe.refl _ | assumption) ?_
  refine WA.take 18 rfl (by kernel_rfl) (by kernel_rfl) (by kernel_rfl) rfl rfl (by decide) (pureV_ok tab_ok rfl (fun _ => rfl)) qS (by first | exact RLe.refl _ | assumption) ?_
  refine' WA.take 19 rfl (by kernel_rfl) (by kernel_rfl) (by kernel_rfl) rfl rfl (by decide) (Yl.load1 tab_ok rfl rfl rfl (fun _ => rfl) ?r5 rfl ?h5) qS (by first | exact RLe.refl _ | assumption) ?_
  case r5 => apply Rd.add; (exact Rd.blk 0 rfl)
  case h5 => rfl
  refine WA.br2 (i := 16) (j := 20) (by kernel_rfl) ?_ ?_
  ·
    refine WS.callV rfl en217 rfl rfl (by decide) (CallOp.mk' rfl rfl rfl rfl) qE (fun hg => Within_V (by first | exact ht | exact ht.mono hR1) rfl) qS (by first | exact RLe.refl _ | assumption) ?_
    refine WA.take 17 rfl (by kernel_rfl) (by kernel_rfl) (by kernel_rfl) rfl rfl (by decide) (Yl.pand rfl rfl rfl (fun _ => rfl) (by intro h1 h2; simp_all <;> omega)) qS (by first | exact RLe.refl _ | assumption) ?_
    refine WA.eff 20 rfl (by kernel_rfl) rfl rfl (by decide) (Ef.buildSliceD (enc := encS) (parts := [.tmp 24]) [⟨_, _, _⟩] tab_ok rfl rfl rfl rfl rfl rfl rfl rfl (by decide) (by decide) (fun a25 => ?_))
    refine ⟨by first | exact RLe.refl _ | assumption, qS, ?_⟩
    refine WA.freeze (enc := encS) (xs := [⟨aw, cw, L.w⟩]) 0 rfl ?_
    intro R1 hR1 hz
    refine WA.callV 21 rfl (by kernel_rfl) en194 rfl rfl (by decide) (CallOp.mk' rfl rfl rfl rfl) (fun _ => rfl) (fun hg => Lists_V (rows := [⟨aw, cw, L.w⟩]) hz) qS (by first | exact RLe.refl _ | assumption) ?_
    refine WA.take 22 rfl (by kernel_rfl) (by kernel_rfl) (by kernel_rfl) rfl rfl (by decide) (pureV_ok tab_ok rfl (fun _ => rfl)) qS (by first | exact RLe.refl _ | assumption) ?_
    refine WA.done (by kernel_rfl) ?_
    refine WE.nxt ?_
    refine W.ret ?_
    refine WE.subE (E' := E) qS ?_
    refine WE.retF tab_ok [_] rfl ⟨rfl, trivial⟩ (hR1) ?_
    exact ⟨rfl, rfl⟩
  ·
    refine WS.eff rfl rfl rfl (by decide) (Ef.buildSliceD (enc := encS) (parts := [.tmp 24]) [⟨_, _, _⟩] tab_ok rfl rfl rfl rfl rfl rfl rfl rfl (by decide) (by decide) (fun a25 => ?_))
    refine ⟨by first | exact RLe.refl _ | assumption, qS, ?_⟩
    refine WA.freeze (enc := encS) (xs := [⟨aw, cw, L.w⟩]) 0 rfl ?_
    intro R1 hR1 hz
    refine WA.callV 16 rfl (by kernel_rfl) en217 rfl rfl (by decide) (CallOp.mk' rfl rfl rfl rfl) qE (fun hg => Within_V (by first | exact ht | exact ht.mono hR1) rfl) qS (by first | exact RLe.refl _ | assumption) ?_
    refine WA.take 17 rfl (by kernel_rfl) (by kernel_rfl) (by kernel_rfl) rfl rfl (by decide) (Yl.pand rfl rfl rfl (fun _ => rfl) (by intro h1 h2; simp_all <;> omega)) qS (by first | exact RLe.refl _ | assumption) ?_
    refine WA.callV 21 rfl (by kernel_rfl) en194 rfl rfl (by decide) (CallOp.mk' rfl rfl rfl rfl) (fun _ => rfl) (fun hg => Lists_V (rows := [⟨aw, cw, L.w⟩]) hz) qS (by first | exact RLe.refl _ | assumption) ?_
    refine WA.take 22 rfl (by kernel_rfl) (by kernel_rfl) (by kernel_rfl) rfl rfl (by decide) (pureV_ok tab_ok rfl (fun _ => rfl)) qS (by first | exact RLe.refl _ | assumption) ?_
    refine WA.done (by kernel_rfl) ?_
    refine WE.nxt ?_
    refine W.ret ?_
    refine WE.subE (E' := E) qS ?_
    refine WE.retF tab_ok [_] rfl ⟨rfl, trivial⟩ (hR1) ?_
    exact ⟨rfl, rfl⟩

end Go.Proofs.YtlgjkmebpnnphaaGreat

/- Chapter 22: server.Check. No condition. -/
set_option maxRecDepth 4000
set_option linter.unusedSimpArgs false
set_option linter.unusedVariables false
namespace Go.Proofs.YtlgjkmebpnnphaaGreat
open Go Go.RowKit Go.Proofs.YtlgjkmebpnnphaaGreat.K Go.Proofs.YtlgjkmebpnnphaaGreat.M

theorem meth_check1 (x : Value) : Meth Tryz.prog 121 (.agg #[]) "netcalculus/server.check" 191 [x] := fun w => by kernel_rfl
theorem meth_run1 (x y z : Value) : Meth Tryz.prog 121 (.agg #[]) "netcalculus/server.run" 193 [x, y, z] := fun w => by kernel_rfl
theorem meth_check2 (x : Value) : Meth Tryz.prog 122 (.agg #[]) "netcalculus/server.check" 200 [x] := fun w => by kernel_rfl
theorem meth_run2 (x y z : Value) : Meth Tryz.prog 122 (.agg #[]) "netcalculus/server.run" 202 [x, y, z] := fun w => by kernel_rfl
theorem meth_check3 (x : Value) : Meth Tryz.prog 123 (.agg #[]) "netcalculus/server.check" 214 [x] := fun w => by kernel_rfl
theorem meth_run3 (x y z : Value) : Meth Tryz.prog 123 (.agg #[]) "netcalculus/server.run" 216 [x, y, z] := fun w => by kernel_rfl
theorem meth_check4 (x : Value) : Meth Tryz.prog 124 (.agg #[]) "netcalculus/server.check" 231 [x] := fun w => by kernel_rfl
theorem meth_run4 (x y z : Value) : Meth Tryz.prog 124 (.agg #[]) "netcalculus/server.run" 233 [x, y, z] := fun w => by kernel_rfl
theorem meth_check5 (x : Value) : Meth Tryz.prog 125 (.agg #[]) "netcalculus/server.check" 244 [x] := fun w => by kernel_rfl
theorem meth_run5 (x y z : Value) : Meth Tryz.prog 125 (.agg #[]) "netcalculus/server.run" 246 [x, y, z] := fun w => by kernel_rfl

theorem check_any {R : Ro} {aw at_ : Option Addr} {lw cw lt ct : Nat} {L : Ln} (hw : RS R 1 encI aw L.w) (hlw : L.w.length = lw) (ht : RS R 1 encI at_ L.tb) (hlt : L.tb.length = lt) (hn : 1 ≤ L.n ∧ L.n ≤ 6) (hk : 1 ≤ L.kind ∧ L.kind ≤ 5) :
    ∃ (T f : Nat), kindI L.kind = .iface T (.agg #[]) ∧ Meth Tryz.prog T (.agg #[]) "netcalculus/server.check" f [.agg #[.int .i64 L.kind, .int .i64 L.cap, .int .i64 L.n, .slice aw lw cw, .slice at_ lt ct]] ∧ FnV Tryz.prog f [.agg #[], .agg #[.int .i64 L.kind, .int .i64 L.cap, .int .i64 L.n, .slice aw lw cw, .slice at_ lt ct]] R (.int .i64 (lchkL L)) := by
  rcases (show L.kind = 1 ∨ L.kind = 2 ∨ L.kind = 3 ∨ L.kind = 4 ∨ L.kind = 5 by omega) with h | h | h | h | h
  · exact ⟨_, _, by unfold kindI; rw [h]; rfl, meth_check1 _, by have e : lchkL L = _ := (show lchkL L = listsE true [L.w, L.tb] by unfold lchkL; rw [h]; rfl); rw [e]; exact ChkFifo_V hw hlw ht hlt hn⟩
  · exact ⟨_, _, by unfold kindI; rw [h]; rfl, meth_check2 _, by have e : lchkL L = _ := (show lchkL L = listsE true [L.w, L.tb] by unfold lchkL; rw [h]; rfl); rw [e]; exact ChkRanks_V hw hlw ht hlt hn⟩
  · exact ⟨_, _, by unfold kindI; rw [h]; rfl, meth_check3 _, by have e : lchkL L = _ := (show lchkL L = listsE (decide ((L.w.length : Int) = L.n) && withinB L.w 1 20) [L.tb] by unfold lchkL; rw [h]; rfl); rw [e]; exact ChkRobin_V hw hlw ht hlt hn⟩
  · exact ⟨_, _, by unfold kindI; rw [h]; rfl, meth_check4 _, by have e : lchkL L = _ := (show lchkL L = listsE (decide ((L.w.length : Int) = L.n) && withinB L.w 1 6000) [L.tb] by unfold lchkL; rw [h]; rfl); rw [e]; exact ChkDef_V hw hlw ht hlt hn⟩
  · exact ⟨_, _, by unfold kindI; rw [h]; rfl, meth_check5 _, by have e : lchkL L = _ := (show lchkL L = listsE (decide (1 ≤ (L.tb.length : Int)) && decide ((L.tb.length : Int) ≤ 40) && withinB L.tb (-1) (L.n - 1)) [L.w] by unfold lchkL; rw [h]; rfl); rw [e]; exact ChkTimes_V hw hlw ht hlt hn⟩

theorem ChkSrv_V {R : Ro} {aw at_ : Option Addr} {lw cw lt ct : Nat} {L : Ln} (hw : RS R 1 encI aw L.w) (hlw : L.w.length = lw) (ht : RS R 1 encI at_ L.tb) (hlt : L.tb.length = lt) : FnV Tryz.prog 26 [.agg #[.int .i64 L.kind, .int .i64 L.cap, .int .i64 L.n, .slice aw lw cw, .slice at_ lt ct]] R (.int .i64 (chkL L)) := by
  refine Fn.toV (fun w0 E => ?_)
  refine Fn.enter (n := 34) Tryz.func26 rfl rfl (Nat.le_of_ble_eq_true rfl) rfl ?_
  refine W.seq ?_
  refine W.region _ ?_
  refine WL.ef rfl rfl (by decide) (Ef.box rfl rfl (fun b1 => ?_))
  refine WG.run tab_ok 1 rfl ?_
  refine WG.nil ?_
  refine WE.nxt ?_
  refine W.seq ?_
  refine W.region _ ?_
  refine WG.run tab_ok 1 rfl ?_
  refine' WG.y rfl rfl (by decide) (Yl.load1 tab_ok rfl rfl rfl (fun _ => rfl) ?r1 rfl ?h1) ?_
  case r1 => apply Rd.add; (exact Rd.blk 0 rfl)
  case h1 => rfl
  refine WG.callV en52 rfl rfl (by decide) (CallOp.mk' rfl rfl rfl rfl) (fun _ => rfl) (fun hg => Kind_V L.kind) ?_
  refine WG.run tab_ok 5 rfl ?_
  refine WG.nil ?_
  refine WE.nxt ?_
  refine W.seq ?_
  refine W.seq ?_
  refine W.region _ ?_
  refine WG.run tab_ok 2 rfl ?_
  refine WG.nil ?_
  refine WE.nxt ?_
  refine W.cond rfl (fun hc0 => ?_) (fun hc0 => ?_)
  · try simp only [decide_eq_true_eq, decide_eq_false_iff_not, beq_iff_eq, bne_iff_ne, beq_eq_false_iff_ne, bne_eq_false_iff_eq, ne_eq, Bool.or_eq_true, Bool.or_eq_false_iff, Bool.and_eq_true, Bool.and_eq_false_imp, Bool.not_eq_true, Bool.not_eq_true', Bool.not_eq_false', Classical.not_not, Int.not_lt, Int.not_le, gt_iff_lt, ge_iff_le] at hc0
    have e : chkL L = 9 := by
      unfold chkL
      rw [if_pos]
      unfold kindB at hc0
      simp only [Bool.and_eq_false_iff, decide_eq_false_iff_not] at hc0
      omega
    refine W.seq ?_
    refine W.region _ ?_
    refine WG.run tab_ok 1 rfl ?_
    refine WG.nil ?_
    refine WE.nxt ?_
    refine W.ret ?_
    refine WE.then_ret ?_
    refine WE.subE (E' := E) qS ?_
    refine WE.retF tab_ok [_] rfl ⟨rfl, trivial⟩ (RLe.refl _) ?_
    exact ⟨by rw [e]; rfl, rfl⟩
  · try simp only [decide_eq_true_eq, decide_eq_false_iff_not, beq_iff_eq, bne_iff_ne, beq_eq_false_iff_ne, bne_eq_false_iff_eq, ne_eq, Bool.or_eq_true, Bool.or_eq_false_iff, Bool.and_eq_true, Bool.and_eq_false_imp, Bool.not_eq_true, Bool.not_eq_true', Bool.not_eq_false', Classical.not_not, Int.not_lt, Int.not_le, gt_iff_lt, ge_iff_le] at hc0
    have hkk : 1 ≤ L.kind ∧ L.kind ≤ 5 := by
      unfold kindB at hc0
      simpa using hc0
    refine W.skip ?_
    refine WE.nxt ?_
    refine W.seq ?_
    refine W.seq ?_
    refine W.region _ ?_
    refine WG.run tab_ok 1 rfl ?_
    refine' WG.y rfl rfl (by decide) (Yl.load1 tab_ok rfl rfl rfl (fun _ => rfl) ?r2 rfl ?h2) ?_
    case r2 => apply Rd.add; (exact Rd.blk 0 rfl)
    case h2 => rfl
    refine WG.run tab_ok 2 rfl ?_
    refine WG.y rfl rfl (by decide) (pureV_ok tab_ok rfl qE) ?_
    refine' WG.y rfl rfl (by decide) (Yl.loadG tab_ok rfl rfl rfl qE ?r3 rfl ?h3 ?g3) ?_
    case r3 => apply Rd.addC; (exact Rd.blkC 0 rfl)
    case h3 => rfl
    case g3 => exact fun _ => trivial
    refine WG.y rfl rfl (by decide) (pureV_ok tab_ok rfl qE) ?_
    refine WG.y rfl rfl (by decide) (Yl.por rfl rfl rfl (fun _ => rfl) (by intro h1 h2; simp_all <;> omega)) ?_
    refine WG.run tab_ok 1 rfl ?_
    refine WG.y rfl rfl (by decide) (pureV_ok tab_ok rfl qE) ?_
    refine' WG.y rfl rfl (by decide) (Yl.loadG tab_ok rfl rfl rfl qE ?r4 rfl ?h4 ?g4) ?_
    case r4 => apply Rd.addC; (exact Rd.blkC 0 rfl)
    case h4 => rfl
    case g4 => exact fun _ => trivial
    refine WG.y rfl rfl (by decide) (pureV_ok tab_ok rfl qE) ?_
    refine WG.y rfl rfl (by decide) (Yl.por rfl rfl rfl (fun _ => rfl) (by intro h1 h2; simp_all <;> omega)) ?_
    refine WG.run tab_ok 1 rfl ?_
    refine WG.y rfl rfl (by decide) (pureV_ok tab_ok rfl qE) ?_
    refine' WG.y rfl rfl (by decide) (Yl.loadG tab_ok rfl rfl rfl qE ?r5 rfl ?h5 ?g5) ?_
    case r5 => apply Rd.addC; (exact Rd.blkC 0 rfl)
    case h5 => rfl
    case g5 => exact fun _ => trivial
    refine WG.y rfl rfl (by decide) (pureV_ok tab_ok rfl qE) ?_
    refine WG.y rfl rfl (by decide) (Yl.por rfl rfl rfl (fun _ => rfl) (by intro h1 h2; simp_all <;> omega)) ?_
    refine WG.nil ?_
    refine WE.nxt ?_
    refine W.cond rfl (fun hc1 => ?_) (fun hc1 => ?_)
    · try simp only [decide_eq_true_eq, decide_eq_false_iff_not, beq_iff_eq, bne_iff_ne, beq_eq_false_iff_ne, bne_eq_false_iff_eq, ne_eq, Bool.or_eq_true, Bool.or_eq_false_iff, Bool.and_eq_true, Bool.and_eq_false_imp, Bool.not_eq_true, Bool.not_eq_true', Bool.not_eq_false', Classical.not_not, Int.not_lt, Int.not_le, gt_iff_lt, ge_iff_le] at hc1
      have e : chkL L = 2 := by unfold chkL; rw [if_neg (by omega), if_pos (by omega)]
      refine W.seq ?_
      refine W.region _ ?_
      refine WG.run tab_ok 1 rfl ?_
      refine WG.nil ?_
      refine WE.nxt ?_
      refine W.ret ?_
      refine WE.then_ret ?_
      refine WE.subE (E' := E) qS ?_
      refine WE.retF tab_ok [_] rfl ⟨rfl, trivial⟩ (RLe.refl _) ?_
      exact ⟨by rw [e]; rfl, rfl⟩
    · try simp only [decide_eq_true_eq, decide_eq_false_iff_not, beq_iff_eq, bne_iff_ne, beq_eq_false_iff_ne, bne_eq_false_iff_eq, ne_eq, Bool.or_eq_true, Bool.or_eq_false_iff, Bool.and_eq_true, Bool.and_eq_false_imp, Bool.not_eq_true, Bool.not_eq_true', Bool.not_eq_false', Classical.not_not, Int.not_lt, Int.not_le, gt_iff_lt, ge_iff_le] at hc1
      have hn : 1 ≤ L.n ∧ L.n ≤ 6 := by omega
      have e : chkL L = lchkL L := by unfold chkL; rw [if_neg (by omega), if_neg (by omega)]
      obtain ⟨T9, f9, e9, m9, v9⟩ := check_any (R := R) (lw := lw) (lt := lt) (cw := cw) (ct := ct) hw hlw ht hlt hn hkk
      refine W.skip ?_
      refine WE.nxt ?_
      rw [e9]
      refine W.seq ?_
      refine W.region _ ?_
      refine WG.run tab_ok 1 rfl ?_
      refine' WG.y rfl rfl (by decide) (Yl.load1 tab_ok rfl rfl rfl (fun _ => rfl) ?r6 rfl ?h6) ?_
      case r6 => (exact Rd.blk 0 rfl)
      case h6 => rfl
      refine WL.callI (args := [.tmp 32]) rfl rfl rfl (by decide) rfl rfl (m9) (v9.toFn) ?_
      rintro _ _ _ - ⟨rfl, rfl, rfl⟩
      refine WG.run tab_ok 1 rfl ?_
      refine WG.nil ?_
      refine WE.nxt ?_
      refine W.ret ?_
      refine WE.subE (E' := E) qS ?_
      refine WE.retF tab_ok [_] rfl ⟨rfl, trivial⟩ (RLe.refl _) ?_
      exact ⟨by rw [e]; rfl, rfl⟩

end Go.Proofs.YtlgjkmebpnnphaaGreat

/- A trial. No condition. -/
set_option maxRecDepth 4000
set_option linter.unusedSimpArgs false
set_option linter.unusedVariables false
namespace Go.Proofs.YtlgjkmebpnnphaaGreat
open Go Go.RowKit Go.Proofs.YtlgjkmebpnnphaaGreat.K Go.Proofs.YtlgjkmebpnnphaaGreat.M

theorem Ints_V {R : Ro} {a b : Option Addr} {ca cb : Nat} {xs ys : List Int} (ha : RS R 1 encI a xs) (hb : RS R 1 encI b ys) :
    FnV Tryz.prog 21 [.slice a xs.length ca, .slice b ys.length cb] R (.bool (decide (xs = ys))) := by
  have hla := ha.len
  have hlb := hb.len
  refine Fn.toV (fun w0 E => ?_)
  refine Fn.enter (n := 26) Tryz.func21 rfl rfl (Nat.le_of_ble_eq_true rfl) rfl ?_
  refine W.seq ?_
  refine W.region _ ?_
  refine WG.run tab_ok 1 rfl ?_
  refine WG.nil ?_
  refine WE.nxt ?_
  refine W.seq ?_
  refine W.seq ?_
  refine W.region _ ?_
  refine WG.run tab_ok 5 rfl ?_
  refine WG.nil ?_
  refine WE.nxt ?_
  refine W.condN rfl (fun hc0 => ?_) (fun hc0 => ?_)
  · try dsimp only at hc0
    refine W.seq ?_
    refine W.region _ ?_
    refine WG.run tab_ok 1 rfl ?_
    refine WG.nil ?_
    refine WE.nxt ?_
    refine W.ret ?_
    refine WE.then_ret ?_
    refine WE.retF tab_ok [_] rfl ⟨rfl, trivial⟩ (RLe.refl _) ?_
    exact ⟨congrArg Value.bool (by symm; apply decide_eq_false; rintro rfl; exact hc0 rfl), rfl⟩
  · try dsimp only at hc0
    refine W.skip ?_
    refine WE.nxt ?_
    refine W.seq ?_
    refine W.seq ?_
    refine W.region _ ?_
    refine WG.run tab_ok 1 rfl ?_
    refine WG.nil ?_
    refine WE.nxt ?_
    refine W.block ?_
    refine W.loop (β := Nat) (fun k => k ≤ xs.length ∧ ∀ i, i < k → nth xs i = nth ys i) (fun k => [(0, true, .slice a xs.length ca), (1, true, .slice b ys.length cb), (5, true, .int .i64 k)]) (fun _ => R) (fun _ => E) (fun k => xs.length - k) 0 ⟨Nat.zero_le _, fun i hi => absurd hi (Nat.not_lt_zero i)⟩ ⟨rfl, rfl, rfl, rfl⟩ (RLe.refl _) (List.Sublist.refl _) ?_
    intro st hst
    obtain ⟨hk, hpre⟩ := hst
    refine W.seq ?_
    refine W.seq ?_
    refine W.region _ ?_
    refine WG.run tab_ok 4 rfl ?_
    refine WG.nil ?_
    refine WE.nxt ?_
    refine W.condD rfl (fun hc1 => ?_) (fun hc1 => ?_)
    · try dsimp only at hc1
      refine W.skip ?_
      refine WE.nxt ?_
      refine W.seq ?_
      refine W.block ?_
      refine W.seq ?_
      refine W.regionQ _ mixed (by kernel_rfl) ?_
      refine WG.run tab_ok 2 rfl ?_
      refine WG.y rfl rfl (by decide) (Yl.indexN tab_ok rfl rfl rfl rfl rfl rfl (fun _ => rfl) (by intro _; (try dsimp only) <;> omega) (by intro _; first | exact fun _ _ _ _ => rfl | exact RS.has (by assumption) | exact fun _ _ _ _ => (by assumption) | exact HasMem.ownD 0 rfl | exact HasMem.ownD 1 rfl | exact HasMem.ownD 2 rfl | exact HasMem.ownD 3 rfl | exact HasMem.ownD 4 rfl | exact HasMem.ownD 5 rfl | exact HasMem.ownD 6 rfl | exact HasMem.ownD 7 rfl)) ?_
      refine' WG.y rfl rfl (by decide) (Yl.load1 tab_ok rfl rfl rfl (fun _ => rfl) ?r1 rfl ?h1) ?_
      case r1 => ((apply RS.rdD; assumption; ((try dsimp only) <;> omega)))
      case h1 => rfl
      refine WG.run tab_ok 2 rfl ?_
      refine WG.y rfl rfl (by decide) (Yl.indexN tab_ok rfl rfl rfl rfl rfl rfl (fun _ => rfl) (by intro _; (try dsimp only) <;> omega) (by intro _; first | exact fun _ _ _ _ => rfl | exact RS.has (by assumption) | exact fun _ _ _ _ => (by assumption) | exact HasMem.ownD 0 rfl | exact HasMem.ownD 1 rfl | exact HasMem.ownD 2 rfl | exact HasMem.ownD 3 rfl | exact HasMem.ownD 4 rfl | exact HasMem.ownD 5 rfl | exact HasMem.ownD 6 rfl | exact HasMem.ownD 7 rfl)) ?_
      refine' WG.y rfl rfl (by decide) (Yl.load1 tab_ok rfl rfl rfl (fun _ => rfl) ?r2 rfl ?h2) ?_
      case r2 => ((apply RS.rdD; assumption; ((try dsimp only) <;> omega)))
      case h2 => rfl
      refine WG.run tab_ok 1 rfl ?_
      refine WG.nil ?_
      refine WE.nxt ?_
      refine W.condN rfl (fun hc2 => ?_) (fun hc2 => ?_)
      · try dsimp only at hc2
        refine W.seq ?_
        refine W.region _ ?_
        refine WG.run tab_ok 1 rfl ?_
        refine WG.nil ?_
        refine WE.nxt ?_
        refine W.ret ?_
        refine WE.blk_ret ?_
        refine WE.then_ret ?_
        refine WE.then_ret ?_
        refine WE.blk_ret ?_
        refine WE.then_ret ?_
        refine WE.retF tab_ok [_] rfl ⟨rfl, trivial⟩ (RLe.refl _) ?_
        exact ⟨congrArg Value.bool (by symm; apply decide_eq_false; rintro rfl; exact hc2 rfl), rfl⟩
      · try dsimp only at hc2
        refine W.skip ?_
        refine WE.blk _ ?_
        refine WE.nxt ?_
        refine W.region _ ?_
        refine WG.run tab_ok 1 rfl ?_
        refine WG.y rfl rfl (by decide) (Yl.add rfl rfl rfl (fun _ => rfl) (by intro _; constructor <;> (try dsimp only) <;> omega)) ?_
        refine WG.run tab_ok 1 rfl ?_
        refine WG.nil ?_
        refine WE.again (st + 1) ⟨by omega, fun i hi => ?_⟩ (by omega) ⟨rfl, rfl, rfl, rfl⟩ (RLe.refl _) (List.Sublist.refl _)
        rcases Nat.lt_or_ge i st with h | h
        · exact hpre i h
        · obtain rfl : i = st := by omega
          exact hc2
    · try dsimp only at hc1
      refine W.exit ?_
      refine WE.then_exit ?_
      refine WE.then_exit ?_
      refine WE.blk_exit ?_
      refine WE.nxt ?_
      refine W.seq ?_
      refine W.region _ ?_
      refine WG.run tab_ok 1 rfl ?_
      refine WG.nil ?_
      refine WE.nxt ?_
      refine W.ret ?_
      refine WE.retF tab_ok [_] rfl ⟨rfl, trivial⟩ (RLe.refl _) ?_
      exact ⟨congrArg Value.bool (by symm; apply decide_eq_true; exact nth_ext (by omega) (fun i hi => hpre i (by omega))), rfl⟩

end Go.Proofs.YtlgjkmebpnnphaaGreat

/- A trial. No condition. -/
set_option maxRecDepth 4000
set_option linter.unusedSimpArgs false
set_option linter.unusedVariables false
namespace Go.Proofs.YtlgjkmebpnnphaaGreat
open Go Go.RowKit Go.Proofs.YtlgjkmebpnnphaaGreat.K Go.Proofs.YtlgjkmebpnnphaaGreat.M

theorem tmod_gt (x : Int) {n : Int} (h : 0 < n) : -n < x.tmod n := by
  rcases Int.le_total 0 x with h0 | h0
  · have := Int.tmod_nonneg n h0; omega
  · have h1 := Int.neg_tmod (a := x) (b := n)
    have h2 := Int.tmod_lt_of_pos (-x) h
    omega
theorem mod_pos {x n : Int} (h : 1 ≤ n) (hc : ¬ x.tmod n < 0) : x.tmod n = x % n := by
  rw [Int.tmod_eq_emod] at hc ⊢
  split at hc
  · rename_i h1; rw [if_pos h1]; omega
  · rename_i h1
    rw [if_neg h1]
    have := Int.emod_lt_of_pos x (show 0 < n by omega)
    have h2 : (n.natAbs : Int) = n := by omega
    omega
theorem mod_neg {x n : Int} (h : 1 ≤ n) (hc : x.tmod n < 0) : x.tmod n + n = x % n := by
  rw [Int.tmod_eq_emod] at hc ⊢
  split at hc
  · rename_i h1
    have := Int.emod_nonneg x (show n ≠ 0 by omega)
    omega
  · rename_i h1; rw [if_neg h1]
    have h2 : (n.natAbs : Int) = n := by omega
    omega
theorem src_end {b : Nat} {a : Option Addr} {cp : Nat} {xs : List Int} {c : Nat} (h : xs.length ≤ c) : srcE b a cp xs c = srcE b a cp xs (c + 1) := by
  unfold srcE
  rw [show min c xs.length = min (c + 1) xs.length by omega]
theorem src_next {b : Nat} {a : Option Addr} {cp : Nat} {xs : List Int} {c : Nat} (h : c < xs.length) : Ent.blk b [.slice a xs.length cp, .int .i64 (((min c xs.length : Nat) : Int) + 1)] = srcE b a cp xs (c + 1) := by
  unfold srcE
  rw [show ((min c xs.length : Nat) : Int) + 1 = ((min (c + 1) xs.length : Nat) : Int) by omega]

theorem Mod_V {R : Ro} {x n : Int} (hn : InR n) : FnV Tryz.prog 53 [.int .i64 x, .int .i64 n] R (.int .i64 (mod x n)) := by
  refine Fn.toV (fun w0 E => ?_)
  refine Fn.enter (n := 16) Tryz.func53 rfl rfl (Nat.le_of_ble_eq_true rfl) rfl ?_
  refine W.seq ?_
  refine W.region _ ?_
  refine WG.run tab_ok 1 rfl ?_
  refine WG.nil ?_
  refine WE.nxt ?_
  refine W.seq ?_
  refine W.seq ?_
  refine W.region _ ?_
  refine WG.run tab_ok 2 rfl ?_
  refine WG.nil ?_
  refine WE.nxt ?_
  refine W.condD rfl (fun hc0 => ?_) (fun hc0 => ?_)
  · try dsimp only at hc0
    refine W.seq ?_
    refine W.region _ ?_
    refine WG.run tab_ok 1 rfl ?_
    refine WG.nil ?_
    refine WE.nxt ?_
    refine W.ret ?_
    refine WE.then_ret ?_
    refine WE.retF tab_ok [_] rfl ⟨rfl, trivial⟩ (RLe.refl _) ?_
    exact ⟨by unfold mod; rw [if_pos hc0]; rfl, rfl⟩
  · try dsimp only at hc0
    refine W.skip ?_
    refine WE.nxt ?_
    refine W.seq ?_
    refine W.region _ ?_
    refine WG.run tab_ok 2 rfl ?_
    refine WG.y rfl rfl (by decide) (Yl.tmod rfl rfl rfl (fun _ => rfl) (by intro _; omega)) ?_
    refine WG.run tab_ok 1 rfl ?_
    refine WG.nil ?_
    refine WE.nxt ?_
    refine W.seq ?_
    refine W.seq ?_
    refine W.region _ ?_
    refine WG.run tab_ok 2 rfl ?_
    refine WG.nil ?_
    refine WE.nxt ?_
    refine W.condD rfl (fun hc1 => ?_) (fun hc1 => ?_)
    · try dsimp only at hc1
      refine W.region _ ?_
      refine WG.run tab_ok 2 rfl ?_
      refine WG.y rfl rfl (by decide) (Yl.add rfl rfl rfl (fun _ => rfl) (by intro _; have h9 := tmod_gt x (show (0 : Int) < n by omega); constructor <;> omega)) ?_
      refine WG.run tab_ok 1 rfl ?_
      refine WG.nil ?_
      refine WE.nxt ?_
      refine W.seq ?_
      refine W.region _ ?_
      refine WG.run tab_ok 2 rfl ?_
      refine WG.nil ?_
      refine WE.nxt ?_
      refine W.ret ?_
      refine WE.retF tab_ok [_] rfl ⟨rfl, trivial⟩ (RLe.refl _) ?_
      refine ⟨congrArg (Value.int .i64) ?_, rfl⟩
      unfold mod; rw [if_neg hc0]; exact mod_neg (by omega) hc1
    · try dsimp only at hc1
      refine W.skip ?_
      refine WE.nxt ?_
      refine W.seq ?_
      refine W.region _ ?_
      refine WG.run tab_ok 2 rfl ?_
      refine WG.nil ?_
      refine WE.nxt ?_
      refine W.ret ?_
      refine WE.retF tab_ok [_] rfl ⟨rfl, trivial⟩ (RLe.refl _) ?_
      refine ⟨congrArg (Value.int .i64) ?_, rfl⟩
      unfold mod; rw [if_neg hc0]; exact mod_pos (by omega) hc1

theorem Raw_C {R : Ro} {b : Nat} {a : Option Addr} {cp : Nat} {xs : List Int} {c : Nat} (w0 : World) (ha : RS R 1 encI a xs) : FnAt Tryz.prog 54 [.pointer (some ⟨b, 0, none⟩)] w0 R (srcE b a cp xs c) (RdPost (.int .i64 (nth xs c)) R (srcE b a cp xs (c + 1))) := by
  intro F
  have hla := ha.len
  refine Fn.enter (n := 31) Tryz.func54 rfl rfl (Nat.le_of_ble_eq_true rfl) rfl ?_
  refine W.seq ?_
  refine W.region _ ?_
  refine WG.run tab_ok 1 rfl ?_
  refine WG.nil ?_
  refine WE.nxt ?_
  refine W.seq ?_
  refine W.seq ?_
  refine W.regionQ _ mixed (by kernel_rfl) ?_
  refine WG.run tab_ok 3 rfl ?_
  refine' WG.y rfl rfl (by decide) (Yl.load1 tab_ok rfl rfl rfl (fun _ => rfl) ?r1 rfl ?h1) ?_
  case r1 => apply Rd.add; (exact Rd.blk 0 rfl)
  case h1 => rfl
  refine WG.run tab_ok 3 rfl ?_
  refine' WG.y rfl rfl (by decide) (Yl.load1 tab_ok rfl rfl rfl (fun _ => rfl) ?r2 rfl ?h2) ?_
  case r2 => apply Rd.add; (exact Rd.blk 0 rfl)
  case h2 => rfl
  refine WG.run tab_ok 2 rfl ?_
  refine WG.nil ?_
  refine WE.nxt ?_
  refine W.condD rfl (fun hc0 => ?_) (fun hc0 => ?_)
  · try dsimp only at hc0
    refine W.seq ?_
    refine W.region _ ?_
    refine WG.run tab_ok 1 rfl ?_
    refine WG.nil ?_
    refine WE.nxt ?_
    refine W.ret ?_
    refine WE.then_ret ?_
    refine WE.retF tab_ok [_] rfl ⟨rfl, trivial⟩ (RLe.refl _) ?_
    exact ⟨_, [], rfl, by rw [nth_out (by omega)]; rfl, rfl, src_end (by omega), rfl⟩
  · try dsimp only at hc0
    refine W.skip ?_
    refine WE.nxt ?_
    refine W.seq ?_
    refine W.region _ ?_
    refine WG.run tab_ok 3 rfl ?_
    refine' WG.y rfl rfl (by decide) (Yl.load1 tab_ok rfl rfl rfl (fun _ => rfl) ?r3 rfl ?h3) ?_
    case r3 => apply Rd.add; (exact Rd.blk 0 rfl)
    case h3 => rfl
    refine WG.y rfl rfl (by decide) (Yl.add rfl rfl rfl (fun _ => rfl) (by intro _; constructor <;> (try dsimp only) <;> omega)) ?_
    refine WG.run tab_ok 2 rfl ?_
    refine WL.efN rfl rfl (Ef.store 0 tab_ok rfl rfl rfl rfl rfl rfl rfl rfl ?_)
    refine WG.nil ?_
    refine WE.nxt ?_
    refine W.seq ?_
    refine W.regionQ _ mixed (by kernel_rfl) ?_
    refine WG.run tab_ok 3 rfl ?_
    refine' WG.y rfl rfl (by decide) (Yl.load1 tab_ok rfl rfl rfl (fun _ => rfl) ?r4 rfl ?h4) ?_
    case r4 => apply Rd.add; (exact Rd.blk 0 rfl)
    case h4 => rfl
    refine WG.run tab_ok 3 rfl ?_
    refine' WG.y rfl rfl (by decide) (Yl.load1 tab_ok rfl rfl rfl (fun _ => rfl) ?r5 rfl ?h5) ?_
    case r5 => apply Rd.add; (exact Rd.blk 0 rfl)
    case h5 => rfl
    refine WG.y rfl rfl (by decide) (Yl.sub rfl rfl rfl (fun _ => rfl) (by intro _; constructor <;> (try dsimp only) <;> omega)) ?_
    refine WG.y rfl rfl (by decide) (Yl.index tab_ok rfl rfl rfl rfl rfl rfl (fun _ => rfl) (by intro _; constructor <;> (try dsimp only) <;> omega) (by intro _; first | exact fun _ _ _ _ => rfl | exact RS.has (by assumption) | exact fun _ _ _ _ => (by assumption) | exact HasMem.ownD 0 rfl | exact HasMem.ownD 1 rfl | exact HasMem.ownD 2 rfl | exact HasMem.ownD 3 rfl | exact HasMem.ownD 4 rfl | exact HasMem.ownD 5 rfl | exact HasMem.ownD 6 rfl | exact HasMem.ownD 7 rfl)) ?_
    refine' WG.y rfl rfl (by decide) (Yl.load1 tab_ok rfl rfl rfl (fun _ => rfl) ?r6 rfl ?h6) ?_
    case r6 => ((apply RS.rdD; assumption; ((try dsimp only) <;> omega)))
    case h6 => rfl
    refine WG.run tab_ok 1 rfl ?_
    refine WG.nil ?_
    refine WE.nxt ?_
    refine W.ret ?_
    refine WE.retF tab_ok [_] rfl ⟨rfl, trivial⟩ (RLe.refl _) ?_
    exact ⟨_, [], rfl, congrArg (fun i => Value.int .i64 (nth xs i)) (show _ = c by omega), rfl, src_next (by omega), rfl⟩

theorem N_C {R : Ro} {b : Nat} {a : Option Addr} {cp : Nat} {xs : List Int} {c : Nat} (w0 : World) {n : Int} (ha : RS R 1 encI a xs) (hn : InR n) : FnAt Tryz.prog 20 [.pointer (some ⟨b, 0, none⟩), .int .i64 n] w0 R (srcE b a cp xs c) (RdPost (.int .i64 (mod (nth xs c) n)) R (srcE b a cp xs (c + 1))) := by
  intro F
  refine Fn.enter (n := 9) Tryz.func20 rfl rfl (Nat.le_of_ble_eq_true rfl) rfl ?_
  refine W.seq ?_
  refine W.region _ ?_
  refine WG.run tab_ok 1 rfl ?_
  refine WG.nil ?_
  refine WE.nxt ?_
  refine W.seq ?_
  refine W.region _ ?_
  refine WG.run tab_ok 1 rfl ?_
  refine WL.callAt 0 en54 rfl rfl (by decide) (CallOp.mkT rfl rfl rfl rfl) rfl (Raw_C w0 ha _) ?_
  rintro _ _ _ _ - ⟨rfl, rfl, rfl, rfl⟩
  refine WG.run tab_ok 1 rfl ?_
  refine WG.callV en53 rfl rfl (by decide) (CallOp.mk' rfl rfl rfl rfl) (fun _ => rfl) (fun hg => Mod_V hn) ?_
  refine WG.run tab_ok 1 rfl ?_
  refine WG.nil ?_
  refine WE.nxt ?_
  refine W.ret ?_
  refine WE.retF tab_ok [_] rfl ⟨rfl, trivial⟩ (RLe.refl _) ?_
  exact ⟨_, [], rfl, rfl, rfl, rfl, rfl⟩

theorem Pick_C {R : Ro} {b : Nat} {a : Option Addr} {cp : Nat} {xs : List Int} {c : Nat} (w0 : World) {a2 : Option Addr} {c2 : Nat} {ys : List Int} {j : Nat} {F : List Ent} (ha : RS R 1 encI a xs) (hy : F[j]? = some (.sl 3 1 a2 c2 (ys.map encI))) (hne : 0 < ys.length) (hl : ys.length ≤ 1000000) :
    K.Fn Tryz.prog 31 [.pointer (some ⟨b, 0, none⟩), .slice a2 ys.length c2] w0 R (srcE b a cp xs c :: F) (fun v R' E' => ∃ e' N, E' = N ++ e' :: F ∧ RdPost (.int .i64 (nth ys (mod (nth xs c) ys.length).toNat)) R (srcE b a cp xs (c + 1)) v R' e' N) := by
  have hr := mod_range (nth xs c) (show (1 : Int) ≤ ys.length by omega)
  refine Fn.enter (n := 12) Tryz.func31 rfl rfl (Nat.le_of_ble_eq_true rfl) rfl ?_
  refine W.seq ?_
  refine W.region _ ?_
  refine WG.run tab_ok 1 rfl ?_
  refine WG.nil ?_
  refine WE.nxt ?_
  refine W.seq ?_
  refine W.region _ ?_
  refine WG.run tab_ok 4 rfl ?_
  refine WL.callAt 0 en20 rfl rfl (by decide) (CallOp.mkT rfl rfl rfl rfl) rfl (N_C w0 ha (by constructor <;> omega) _) ?_
  rintro _ _ _ _ - ⟨rfl, rfl, rfl, rfl⟩
  refine WG.y rfl rfl (by decide) (Yl.index tab_ok rfl rfl rfl rfl rfl rfl (fun _ => rfl) (by intro _; constructor <;> (try dsimp only) <;> omega) (by intro _; first | exact HasMem.ownD (j + 1) hy | exact fun _ _ _ _ => rfl | exact RS.has (by assumption) | exact fun _ _ _ _ => (by assumption) | exact HasMem.ownD 0 rfl | exact HasMem.ownD 1 rfl | exact HasMem.ownD 2 rfl | exact HasMem.ownD 3 rfl | exact HasMem.ownD 4 rfl | exact HasMem.ownD 5 rfl | exact HasMem.ownD 6 rfl | exact HasMem.ownD 7 rfl)) ?_
  refine' WG.y rfl rfl (by decide) (Yl.load1 tab_ok rfl rfl rfl (fun _ => rfl) ?r1 rfl ?h1) ?_
  case r1 => (exact Rd.slD (j + 1) hy (by omega))
  case h1 => rfl
  refine WG.run tab_ok 1 rfl ?_
  refine WG.nil ?_
  refine WE.nxt ?_
  refine W.ret ?_
  refine WE.retF tab_ok [_] rfl ⟨rfl, trivial⟩ (RLe.refl _) ?_
  exact ⟨_, [], rfl, rfl, rfl, rfl, rfl⟩

theorem New_C {R : Ro} {a : Option Addr} {cp : Nat} {l : List Int} (w0 : World) (E : List Ent) (hc : l.length ≤ cp) :
    K.Fn Tryz.prog 13 [.slice a l.length cp] w0 R E (fun v R' E' => ∃ b, v = .pointer (some ⟨b, 0, none⟩) ∧ R = R' ∧ E' = srcE b a cp (l.take 2000) 0 :: E) := by
  refine Fn.enter (n := 10) Tryz.func13 rfl rfl (Nat.le_of_ble_eq_true rfl) rfl ?_
  refine W.seq ?_
  refine W.region _ ?_
  refine WG.run tab_ok 1 rfl ?_
  refine WG.nil ?_
  refine WE.nxt ?_
  refine W.seq ?_
  refine W.region _ ?_
  refine WG.run tab_ok 4 rfl ?_
  refine WG.y rfl rfl (by decide) (Yl.sliceH tab_ok rfl rfl rfl rfl rfl (fun _ => rfl) (by intro _; split <;> constructor <;> omega) rfl) ?_
  -- build
  refine WG.y rfl rfl (by decide) (Yl.build (parts := [(0, .tmp 7)]) tab_ok rfl rfl rfl rfl (fun _ => rfl) rfl rfl) ?_
  refine WL.ef rfl rfl (by decide) (Ef.box rfl rfl (fun b9 => ?_))
  refine WG.run tab_ok 1 rfl ?_
  refine WG.nil ?_
  refine WE.nxt ?_
  refine W.ret ?_
  refine WE.retF tab_ok [_] rfl ⟨rfl, trivial⟩ (RLe.refl _) ?_
  refine ⟨_, rfl, rfl, ?_⟩
  unfold srcE
  rw [List.length_take, Nat.min_comm 0, Nat.min_zero]
  have e1 : ((if (2000 : Int) < (l.length : Int) then 2000 else (l.length : Int))).toNat = min 2000 l.length := by split <;> omega
  exact congrArg (fun n => Ent.blk _ [Value.slice a n cp, .int .i64 0] :: E) e1

theorem Pick7_C {R : Ro} {b : Nat} {a : Option Addr} {cp : Nat} {xs : List Int} {c : Nat} (w0 : World) {a2 : Option Addr} {c2 : Nat} {j : Nat} {F : List Ent} (ha : RS R 1 encI a xs) (hy : F[j]? = some (.sl 3 1 a2 c2 ([0, 0, 0, 1, 1, 2, 7].map encI))) :
    K.Fn Tryz.prog 31 [.pointer (some ⟨b, 0, none⟩), .slice a2 7 c2] w0 R (srcE b a cp xs c :: F) (fun v R' E' => ∃ e' N, E' = N ++ e' :: F ∧ RdPost (.int .i64 (pick7 (mod (nth xs c) 7))) R (srcE b a cp xs (c + 1)) v R' e' N) :=
  Pick_C (ys := [0, 0, 0, 1, 1, 2, 7]) w0 ha hy (by decide) (by decide)

theorem Traffic_C {R : Ro} {b : Nat} {a : Option Addr} {cp : Nat} {xs : List Int} {c : Nat} (w0 : World) {n flows most : Int} (ha : RS R 1 encI a xs) (hn : 0 ≤ n ∧ n ≤ 1000) (hf : InR flows) (hm : 1 ≤ most ∧ most ≤ 1000000) (F : List Ent) :
    K.Fn Tryz.prog 15 [.pointer (some ⟨b, 0, none⟩), .int .i64 n, .int .i64 flows, .int .i64 most] w0 R (srcE b a cp xs c :: F) (fun v R' E' => ∃ e' N, E' = N ++ e' :: F ∧
      ∃ a2 c2, v = .slice a2 (traffic xs n flows most c).length c2 ∧ R = R' ∧ e' = srcE b a cp xs (c + 1 + 3 * trafficK xs n c) ∧ N = [.sl 42 3 a2 c2 ((traffic xs n flows most c).map encP)]) := by
  have hr := mod_range (nth xs c) (show (1 : Int) ≤ n + 1 by omega)
  have hK : (trafficK xs n c : Int) = mod (nth xs c) (n + 1) := by unfold trafficK; omega
  refine Fn.enter (n := 38) Tryz.func15 rfl rfl (Nat.le_of_ble_eq_true rfl) rfl ?_
  refine W.seq ?_
  refine W.region _ ?_
  refine WG.run tab_ok 1 rfl ?_
  refine WG.nil ?_
  refine WE.nxt ?_
  refine W.seq ?_
  refine W.region _ ?_
  refine WG.run tab_ok 1 rfl ?_
  refine WG.nil ?_
  refine WE.nxt ?_
  refine W.seq ?_
  refine W.region _ ?_
  refine WG.run tab_ok 1 rfl ?_
  refine WG.nil ?_
  refine WE.nxt ?_
  refine W.seq ?_
  refine W.seq ?_
  refine W.region _ ?_
  refine WG.run tab_ok 2 rfl ?_
  refine WG.y rfl rfl (by decide) (Yl.add rfl rfl rfl (fun _ => rfl) (by intro _; constructor <;> (try dsimp only) <;> omega)) ?_
  refine WL.callAt 0 en20 rfl rfl (by decide) (CallOp.mkT rfl rfl rfl rfl) rfl (N_C w0 ha (by constructor <;> omega) _) ?_
  rintro _ _ _ _ - ⟨rfl, rfl, rfl, rfl⟩
  refine WG.run tab_ok 1 rfl ?_
  refine WG.nil ?_
  refine WE.nxt ?_
  refine W.block ?_
  refine W.nil 42 3 (by decide) ?_
  refine W.loop (β := Nat × Nat × Int × List Pkt × Option Addr × Nat) (fun (k, c1, t, acc, a2, c2) => acc ++ trafficGo xs flows most k c1 t = traffic xs n flows most c ∧ c1 + 3 * k = c + 1 + 3 * trafficK xs n c ∧ 0 ≤ t ∧ t + 7 * k ≤ 7 * trafficK xs n c ∧ acc.length + k = trafficK xs n c) (fun (k, c1, t, acc, a2, c2) => [(0, true, .pointer (some ⟨b, 0, none⟩)), (1, true, .int .i64 n), (2, true, .int .i64 flows), (3, true, .int .i64 most), (9, true, .slice a2 acc.length c2), (10, true, .int .i64 t), (11, true, .int .i64 (k : Int))]) (fun _ => R) (fun (k, c1, t, acc, a2, c2) => .sl 42 3 a2 c2 (acc.map encP) :: srcE b a cp xs c1 :: F) (fun (k, c1, t, acc, a2, c2) => k) ((trafficK xs n c, c + 1, 0, [], none, 0)) (⟨rfl, rfl, Int.le_refl _, by omega, by simp⟩) ⟨rfl, rfl, rfl, rfl, rfl, rfl, vint hK.symm, rfl⟩ (RLe.refl _) qS ?_
  intro st hst
  obtain ⟨k, c1, t, acc, a2, c2⟩ := st
  obtain ⟨h1, h2, h3, h4, h5⟩ := hst
  dsimp only
  refine W.seq ?_
  refine W.seq ?_
  refine W.region _ ?_
  refine WG.run tab_ok 2 rfl ?_
  refine WG.nil ?_
  refine WE.nxt ?_
  refine W.condD rfl (fun hc0 => ?_) (fun hc0 => ?_)
  · try dsimp only at hc0
    obtain ⟨k, rfl⟩ : ∃ m, k = m + 1 := ⟨k - 1, by omega⟩
    have hr1 := mod_range (nth xs (c1 + 1)) (show (1 : Int) ≤ most by omega)
    have hr2 := pick7_range (mod (nth xs (c1 + 1 + 1)) 7)
    have hr3 := pick7_range (mod (nth xs (c1 + 2)) 7)
    refine W.skip ?_
    refine WE.nxt ?_
    refine W.seq ?_
    refine W.block ?_
    refine W.seq ?_
    refine W.region _ ?_
    refine WG.run tab_ok 3 rfl ?_
    refine WL.callAt 1 en20 rfl rfl (by decide) (CallOp.mkT rfl rfl rfl rfl) rfl (N_C w0 ha hf _) ?_
    rintro _ _ _ _ - ⟨rfl, rfl, rfl, rfl⟩
    refine WG.run tab_ok 3 rfl ?_
    refine WL.callAt 1 en20 rfl rfl (by decide) (CallOp.mkT rfl rfl rfl rfl) rfl (N_C w0 ha (by constructor <;> omega) _) ?_
    rintro _ _ _ _ - ⟨rfl, rfl, rfl, rfl⟩
    refine WG.y rfl rfl (by decide) (Yl.add rfl rfl rfl (fun _ => rfl) (by intro _; constructor <;> (try dsimp only) <;> omega)) ?_
    -- build
    refine WG.y rfl rfl (by decide) (Yl.build (parts := [(0, .tmp 23), (1, .tmp 24), (2, .tmp 28)]) tab_ok rfl rfl rfl rfl (fun _ => rfl) rfl rfl) ?_
    refine WL.ef rfl rfl (by decide) (Ef.buildSliceD (enc := encP) (parts := [.tmp 29]) [⟨_, _, _⟩] tab_ok rfl rfl rfl rfl rfl rfl rfl rfl (by decide) (by decide) (fun a30 => ?_))
    refine WL.ef rfl rfl (by decide) (Ef.appendD 1 0 tab_ok rfl rfl rfl rfl rfl rfl rfl rfl rfl rfl rfl (fun _ _ => rfl) (by simp only [List.length_cons, List.length_nil]; omega) (by simp only [List.length_cons, List.length_nil]; omega) (fun a31 c31 ha31 => ?_))
    refine WG.run tab_ok 1 rfl ?_
    refine WG.nil ?_
    refine WE.nxt ?_
    refine W.region _ ?_
    refine WG.run tab_ok 2 rfl ?_
    refine WL.ef rfl rfl (by decide) (Ef.buildSliceD (enc := encI) (parts := [.const (.int .i64 0), .const (.int .i64 0), .const (.int .i64 0), .const (.int .i64 1), .const (.int .i64 1), .const (.int .i64 2), .const (.int .i64 7)]) [_, _, _, _, _, _, _] tab_ok rfl rfl rfl rfl rfl rfl rfl rfl (by decide) (by decide) (fun a34 => ?_))
    refine WL.callAt 3 en31 rfl rfl (by decide) (CallOp.mkT rfl rfl rfl rfl) rfl (Pick7_C (j := 0) w0 ha rfl) ?_
    rintro _ _ _ _ - ⟨rfl, rfl, rfl, rfl⟩
    refine WG.y rfl rfl (by decide) (Yl.add rfl rfl rfl (fun _ => rfl) (by intro _; constructor <;> (try dsimp only) <;> omega)) ?_
    refine WG.run tab_ok 1 rfl ?_
    refine WG.nil ?_
    refine WE.blk _ ?_
    refine WE.nxt ?_
    refine W.region _ ?_
    refine WG.run tab_ok 1 rfl ?_
    refine WG.y rfl rfl (by decide) (Yl.sub rfl rfl rfl (fun _ => rfl) (by intro _; constructor <;> (try dsimp only) <;> omega)) ?_
    refine WG.run tab_ok 1 rfl ?_
    refine WG.nil ?_
    refine WE.again ((k, c1 + 3, t + pick7 (mod (nth xs (c1 + 2)) 7), acc ++ [⟨mod (nth xs c1) flows, t, 1 + mod (nth xs (c1 + 1)) most⟩], a31, c31)) (⟨by dsimp only; rw [← h1]; simp [trafficGo], by dsimp only; omega, by dsimp only; omega, by dsimp only; omega, by simp; omega⟩) (by (try dsimp only); omega) ⟨rfl, rfl, rfl, rfl, rfl, rfl, vint (by omega), rfl⟩ (RLe.refl _) qS
  · try dsimp only at hc0
    obtain rfl : k = 0 := by omega
    simp only [trafficGo, List.append_nil] at h1
    subst h1
    refine W.exit ?_
    refine WE.then_exit ?_
    refine WE.then_exit ?_
    refine WE.blk_exit ?_
    refine WE.nxt ?_
    refine W.seq ?_
    refine W.region _ ?_
    refine WG.run tab_ok 2 rfl ?_
    refine WG.nil ?_
    refine WE.nxt ?_
    refine W.ret ?_
    refine WE.retF tab_ok [_] rfl ⟨rfl, trivial⟩ (RLe.refl _) ?_
    exact ⟨_, [_], rfl, _, _, rfl, rfl, congrArg (srcE b a cp xs) (by omega), rfl⟩

end Go.Proofs.YtlgjkmebpnnphaaGreat

/- A trial. No condition. -/
set_option maxRecDepth 4000
set_option linter.unusedSimpArgs false
set_option linter.unusedVariables false
namespace Go.Proofs.YtlgjkmebpnnphaaGreat
open Go Go.RowKit Go.Proofs.YtlgjkmebpnnphaaGreat.K Go.Proofs.YtlgjkmebpnnphaaGreat.M

theorem Validate_V {R : Ro} {a : Option Addr} {c : Nat} {ps : List Pkt} (ha : RS R 3 encP a ps) : FnV Tryz.prog 141 [.slice a ps.length c] R (.int .i64 (validate ps)) := by
  have hla := ha.len
  refine Fn.toV (fun w0 E => ?_)
  refine Fn.enter (n := 50) Tryz.func141 rfl rfl (Nat.le_of_ble_eq_true rfl) rfl ?_
  refine W.seq ?_
  refine W.region _ ?_
  refine WG.run tab_ok 1 rfl ?_
  refine WG.nil ?_
  refine WE.nxt ?_
  refine W.seq ?_
  refine W.seq ?_
  refine W.region _ ?_
  refine WG.run tab_ok 3 rfl ?_
  refine WG.nil ?_
  refine WE.nxt ?_
  refine W.condD rfl (fun hc0 => ?_) (fun hc0 => ?_)
  · try dsimp only at hc0
    refine W.seq ?_
    refine W.region _ ?_
    refine WG.run tab_ok 1 rfl ?_
    refine WG.nil ?_
    refine WE.nxt ?_
    refine W.ret ?_
    refine WE.then_ret ?_
    refine WE.subE (E' := E) qS ?_
    refine WE.retF tab_ok [_] rfl ⟨rfl, trivial⟩ (RLe.refl _) ?_
    exact ⟨by unfold validate; rw [if_pos (show 60 < ps.length by omega)]; rfl, rfl⟩
  · try dsimp only at hc0
    refine W.skip ?_
    refine WE.nxt ?_
    refine W.seq ?_
    refine W.region _ ?_
    refine WG.run tab_ok 1 rfl ?_
    refine WG.nil ?_
    refine WE.nxt ?_
    refine W.seq ?_
    refine W.seq ?_
    refine W.region _ ?_
    refine WG.run tab_ok 3 rfl ?_
    refine WG.nil ?_
    refine WE.nxt ?_
    refine W.block ?_
    refine W.loop (β := Nat × Int) (fun (k, last) => k ≤ ps.length ∧ valGo last (ps.drop k) = valGo 0 ps) (fun (k, last) => [(0, true, .slice a ps.length c), (3, true, .int .i64 last), (9, true, .slice a ps.length c), (10, true, .int .i64 ps.length), (11, true, .int .i64 (k : Int))]) (fun _ => R) (fun _ => E) (fun (k, last) => ps.length - k) ((0, 0)) (⟨Nat.zero_le _, rfl⟩) ⟨rfl, rfl, rfl, rfl, rfl, rfl⟩ (RLe.refl _) qS ?_
    intro st hst
    obtain ⟨k, last⟩ := st
    obtain ⟨hk, hv⟩ := hst
    dsimp only
    refine W.seq ?_
    refine W.region _ ?_
    refine WG.run tab_ok 1 rfl ?_
    refine WG.nil ?_
    refine WE.nxt ?_
    refine W.seq ?_
    refine W.condD rfl (fun hc1 => ?_) (fun hc1 => ?_)
    · try dsimp only at hc1
      have hd := drop_nth (xs := ps) (k := k) (by omega)
      rw [hd, valGo] at hv
      refine W.skip ?_
      refine WE.nxt ?_
      refine W.seq ?_
      refine W.block ?_
      refine W.seq ?_
      refine W.region _ ?_
      refine WG.y rfl rfl (by decide) (Yl.indexN tab_ok rfl rfl rfl rfl rfl rfl (fun _ => rfl) (by intro _; (try dsimp only) <;> omega) (by intro _; first | exact fun _ _ _ _ => rfl | exact RS.has (by assumption) | exact fun _ _ _ _ => (by assumption) | exact HasMem.ownD 0 rfl | exact HasMem.ownD 1 rfl | exact HasMem.ownD 2 rfl | exact HasMem.ownD 3 rfl | exact HasMem.ownD 4 rfl | exact HasMem.ownD 5 rfl | exact HasMem.ownD 6 rfl | exact HasMem.ownD 7 rfl)) ?_
      refine' WG.y rfl rfl (by decide) (Yl.load1 tab_ok rfl rfl rfl (fun _ => rfl) ?r1 rfl ?h1) ?_
      case r1 => ((apply RS.rdD; assumption; ((try dsimp only) <;> omega)))
      case h1 => rfl
      refine WL.ef rfl rfl (by decide) (Ef.alloc tab_ok rfl rfl (fun b5 => ?_))
      refine WL.efN rfl rfl (Ef.store0 0 tab_ok rfl rfl rfl rfl rfl rfl rfl rfl ?_)
      refine WG.nil ?_
      refine WE.nxt ?_
      refine W.seq ?_
      refine W.seq ?_
      refine W.region _ ?_
      refine WG.run tab_ok 1 rfl ?_
      refine' WG.y rfl rfl (by decide) (Yl.load1 tab_ok rfl rfl rfl (fun _ => rfl) ?r2 rfl ?h2) ?_
      case r2 => apply Rd.add; (exact Rd.blk 0 rfl)
      case h2 => rfl
      refine WG.run tab_ok 2 rfl ?_
      refine WG.y rfl rfl (by decide) (pureV_ok tab_ok rfl qE) ?_
      refine' WG.y rfl rfl (by decide) (Yl.loadG tab_ok rfl rfl rfl qE ?r3 rfl ?h3 ?g3) ?_
      case r3 => apply Rd.addC; (exact Rd.blkC 0 rfl)
      case h3 => rfl
      case g3 => exact fun _ => trivial
      refine WG.y rfl rfl (by decide) (pureV_ok tab_ok rfl qE) ?_
      refine WG.y rfl rfl (by decide) (Yl.por rfl rfl rfl (fun _ => rfl) (by intro h1 h2; simp_all <;> omega)) ?_
      refine WG.run tab_ok 1 rfl ?_
      refine WG.y rfl rfl (by decide) (pureV_ok tab_ok rfl qE) ?_
      refine' WG.y rfl rfl (by decide) (Yl.loadG tab_ok rfl rfl rfl qE ?r4 rfl ?h4 ?g4) ?_
      case r4 => apply Rd.addC; (exact Rd.blkC 0 rfl)
      case h4 => rfl
      case g4 => exact fun _ => trivial
      refine WG.y rfl rfl (by decide) (pureV_ok tab_ok rfl qE) ?_
      refine WG.y rfl rfl (by decide) (Yl.por rfl rfl rfl (fun _ => rfl) (by intro h1 h2; simp_all <;> omega)) ?_
      refine WG.run tab_ok 1 rfl ?_
      refine WG.y rfl rfl (by decide) (pureV_ok tab_ok rfl qE) ?_
      refine' WG.y rfl rfl (by decide) (Yl.loadG tab_ok rfl rfl rfl qE ?r5 rfl ?h5 ?g5) ?_
      case r5 => apply Rd.addC; (exact Rd.blkC 0 rfl)
      case h5 => rfl
      case g5 => exact fun _ => trivial
      refine WG.y rfl rfl (by decide) (pureV_ok tab_ok rfl qE) ?_
      refine WG.y rfl rfl (by decide) (Yl.por rfl rfl rfl (fun _ => rfl) (by intro h1 h2; simp_all <;> omega)) ?_
      refine WG.run tab_ok 1 rfl ?_
      refine WG.y rfl rfl (by decide) (pureV_ok tab_ok rfl qE) ?_
      refine' WG.y rfl rfl (by decide) (Yl.loadG tab_ok rfl rfl rfl qE ?r6 rfl ?h6 ?g6) ?_
      case r6 => apply Rd.addC; (exact Rd.blkC 0 rfl)
      case h6 => rfl
      case g6 => exact fun _ => trivial
      refine WG.y rfl rfl (by decide) (pureV_ok tab_ok rfl qE) ?_
      refine WG.y rfl rfl (by decide) (Yl.por rfl rfl rfl (fun _ => rfl) (by intro h1 h2; simp_all <;> omega)) ?_
      refine WG.run tab_ok 1 rfl ?_
      refine WG.y rfl rfl (by decide) (pureV_ok tab_ok rfl qE) ?_
      refine' WG.y rfl rfl (by decide) (Yl.loadG tab_ok rfl rfl rfl qE ?r7 rfl ?h7 ?g7) ?_
      case r7 => apply Rd.addC; (exact Rd.blkC 0 rfl)
      case h7 => rfl
      case g7 => exact fun _ => trivial
      refine WG.y rfl rfl (by decide) (pureV_ok tab_ok rfl qE) ?_
      refine WG.y rfl rfl (by decide) (Yl.por rfl rfl rfl (fun _ => rfl) (by intro h1 h2; simp_all <;> omega)) ?_
      refine WG.nil ?_
      refine WE.nxt ?_
      refine W.cond rfl (fun hc2 => ?_) (fun hc2 => ?_)
      · try simp only [decide_eq_true_eq, decide_eq_false_iff_not, beq_iff_eq, bne_iff_ne, beq_eq_false_iff_ne, bne_eq_false_iff_eq, ne_eq, Bool.or_eq_true, Bool.or_eq_false_iff, Bool.and_eq_true, Bool.and_eq_false_imp, Bool.not_eq_true, Bool.not_eq_true', Bool.not_eq_false', Classical.not_not, Int.not_lt, Int.not_le, gt_iff_lt, ge_iff_le] at hc2
        rw [if_pos (show BadP (nth ps k) by unfold BadP; omega)] at hv
        refine W.seq ?_
        refine W.region _ ?_
        refine WG.run tab_ok 1 rfl ?_
        refine WG.nil ?_
        refine WE.nxt ?_
        refine W.ret ?_
        refine WE.then_ret ?_
        refine WE.blk_ret ?_
        refine WE.then_ret ?_
        refine WE.then_ret ?_
        refine WE.blk_ret ?_
        refine WE.then_ret ?_
        refine WE.subE (E' := E) qS ?_
        refine WE.retF tab_ok [_] rfl ⟨rfl, trivial⟩ (RLe.refl _) ?_
        exact ⟨by unfold validate; rw [if_neg (show ¬ 60 < ps.length by omega), ← hv]; rfl, rfl⟩
      · try simp only [decide_eq_true_eq, decide_eq_false_iff_not, beq_iff_eq, bne_iff_ne, beq_eq_false_iff_ne, bne_eq_false_iff_eq, ne_eq, Bool.or_eq_true, Bool.or_eq_false_iff, Bool.and_eq_true, Bool.and_eq_false_imp, Bool.not_eq_true, Bool.not_eq_true', Bool.not_eq_false', Classical.not_not, Int.not_lt, Int.not_le, gt_iff_lt, ge_iff_le] at hc2
        rw [if_neg (show ¬ BadP (nth ps k) by unfold BadP; omega)] at hv
        refine W.skip ?_
        refine WE.nxt ?_
        refine W.seq ?_
        refine W.seq ?_
        refine W.region _ ?_
        refine WG.run tab_ok 1 rfl ?_
        refine' WG.y rfl rfl (by decide) (Yl.load1 tab_ok rfl rfl rfl (fun _ => rfl) ?r8 rfl ?h8) ?_
        case r8 => apply Rd.add; (exact Rd.blk 0 rfl)
        case h8 => rfl
        refine WG.run tab_ok 2 rfl ?_
        refine WG.nil ?_
        refine WE.nxt ?_
        refine W.condD rfl (fun hc3 => ?_) (fun hc3 => ?_)
        · try dsimp only at hc3
          rw [if_pos hc3] at hv
          refine W.seq ?_
          refine W.region _ ?_
          refine WG.run tab_ok 1 rfl ?_
          refine WG.nil ?_
          refine WE.nxt ?_
          refine W.ret ?_
          refine WE.then_ret ?_
          refine WE.blk_ret ?_
          refine WE.then_ret ?_
          refine WE.then_ret ?_
          refine WE.blk_ret ?_
          refine WE.then_ret ?_
          refine WE.subE (E' := E) qS ?_
          refine WE.retF tab_ok [_] rfl ⟨rfl, trivial⟩ (RLe.refl _) ?_
          exact ⟨by unfold validate; rw [if_neg (show ¬ 60 < ps.length by omega), ← hv]; rfl, rfl⟩
        · try dsimp only at hc3
          rw [if_neg hc3] at hv
          refine W.skip ?_
          refine WE.nxt ?_
          refine W.region _ ?_
          refine WG.run tab_ok 1 rfl ?_
          refine' WG.y rfl rfl (by decide) (Yl.load1 tab_ok rfl rfl rfl (fun _ => rfl) ?r9 rfl ?h9) ?_
          case r9 => apply Rd.add; (exact Rd.blk 0 rfl)
          case h9 => rfl
          refine WG.run tab_ok 1 rfl ?_
          refine WG.nil ?_
          refine WE.blk _ ?_
          refine WE.nxt ?_
          refine W.region _ ?_
          refine WG.y rfl rfl (by decide) (Yl.add rfl rfl rfl (fun _ => rfl) (by intro _; constructor <;> (try dsimp only) <;> omega)) ?_
          refine WG.run tab_ok 1 rfl ?_
          refine WG.nil ?_
          refine WE.again ((k + 1, (nth ps k).time)) (⟨by dsimp only; omega, hv⟩) (by (try dsimp only); omega) ⟨rfl, rfl, rfl, rfl, rfl, rfl⟩ (RLe.refl _) qS
    · try dsimp only at hc1
      obtain rfl : k = ps.length := by omega
      simp only [List.drop_length, valGo] at hv
      refine W.exit ?_
      refine WE.then_exit ?_
      refine WE.then_exit ?_
      refine WE.blk_exit ?_
      refine WE.nxt ?_
      refine W.seq ?_
      refine W.region _ ?_
      refine WG.run tab_ok 1 rfl ?_
      refine WG.nil ?_
      refine WE.nxt ?_
      refine W.ret ?_
      refine WE.subE (E' := E) qS ?_
      refine WE.retF tab_ok [_] rfl ⟨rfl, trivial⟩ (RLe.refl _) ?_
      exact ⟨by unfold validate; rw [if_neg (show ¬ 60 < ps.length by omega), ← hv]; rfl, rfl⟩

theorem ValidateR_V {R : Ro} {a : Option Addr} {c : Nat} {ps : List Pkt} (ha : RS R 3 encP a ps) : FnV Tryz.prog 55 [.slice a ps.length c] R (.int .i64 (validate ps)) := by
  have hla := ha.len
  refine Fn.toV (fun w0 E => ?_)
  refine Fn.enter (n := 59) Tryz.func55 rfl rfl (Nat.le_of_ble_eq_true rfl) rfl ?_
  refine W.seq ?_
  refine W.region _ ?_
  refine WG.run tab_ok 1 rfl ?_
  refine WG.nil ?_
  refine WE.nxt ?_
  refine W.seq ?_
  refine W.seq ?_
  refine W.region _ ?_
  refine WG.run tab_ok 3 rfl ?_
  refine WG.nil ?_
  refine WE.nxt ?_
  refine W.condD rfl (fun hc0 => ?_) (fun hc0 => ?_)
  · try dsimp only at hc0
    refine W.seq ?_
    refine W.region _ ?_
    refine WG.run tab_ok 1 rfl ?_
    refine WG.nil ?_
    refine WE.nxt ?_
    refine W.ret ?_
    refine WE.then_ret ?_
    refine WE.subE (E' := E) qS ?_
    refine WE.retF tab_ok [_] rfl ⟨rfl, trivial⟩ (RLe.refl _) ?_
    exact ⟨by unfold validate; rw [if_pos (show 60 < ps.length by omega)]; rfl, rfl⟩
  · try dsimp only at hc0
    refine W.skip ?_
    refine WE.nxt ?_
    refine W.seq ?_
    refine W.seq ?_
    refine W.region _ ?_
    refine WG.run tab_ok 1 rfl ?_
    refine WG.nil ?_
    refine WE.nxt ?_
    refine W.block ?_
    refine W.loop (β := Nat) (fun k => k ≤ ps.length ∧ valGo (if k = 0 then 0 else (nth ps (k - 1)).time) (ps.drop k) = valGo 0 ps) (fun k => [(0, true, .slice a ps.length c), (3, true, .int .i64 (k : Int))]) (fun _ => R) (fun _ => E) (fun k => ps.length - k) (0) (⟨Nat.zero_le _, rfl⟩) ⟨rfl, rfl, rfl⟩ (RLe.refl _) qS ?_
    intro st hst
    obtain ⟨hk, hv⟩ := hst
    have hk0 : st ≠ 0 → ((st : Int) - 1).toNat = st - 1 := by omega
    refine W.seq ?_
    refine W.seq ?_
    refine W.region _ ?_
    refine WG.run tab_ok 4 rfl ?_
    refine WG.nil ?_
    refine WE.nxt ?_
    refine W.condD rfl (fun hc1 => ?_) (fun hc1 => ?_)
    · try dsimp only at hc1
      have hd := drop_nth (xs := ps) (k := st) (by omega)
      rw [hd, valGo] at hv
      refine W.skip ?_
      refine WE.nxt ?_
      refine W.seq ?_
      refine W.block ?_
      refine W.seq ?_
      refine W.region _ ?_
      refine WG.run tab_ok 2 rfl ?_
      refine WG.y rfl rfl (by decide) (Yl.indexN tab_ok rfl rfl rfl rfl rfl rfl (fun _ => rfl) (by intro _; (try dsimp only) <;> omega) (by intro _; first | exact fun _ _ _ _ => rfl | exact RS.has (by assumption) | exact fun _ _ _ _ => (by assumption) | exact HasMem.ownD 0 rfl | exact HasMem.ownD 1 rfl | exact HasMem.ownD 2 rfl | exact HasMem.ownD 3 rfl | exact HasMem.ownD 4 rfl | exact HasMem.ownD 5 rfl | exact HasMem.ownD 6 rfl | exact HasMem.ownD 7 rfl)) ?_
      refine' WG.y rfl rfl (by decide) (Yl.load1 tab_ok rfl rfl rfl (fun _ => rfl) ?r1 rfl ?h1) ?_
      case r1 => ((apply RS.rdD; assumption; ((try dsimp only) <;> omega)))
      case h1 => rfl
      refine WL.ef rfl rfl (by decide) (Ef.alloc tab_ok rfl rfl (fun b4 => ?_))
      refine WL.efN rfl rfl (Ef.store0 0 tab_ok rfl rfl rfl rfl rfl rfl rfl rfl ?_)
      refine WG.nil ?_
      refine WE.nxt ?_
      refine W.seq ?_
      refine W.seq ?_
      refine W.region _ ?_
      refine WG.run tab_ok 1 rfl ?_
      refine' WG.y rfl rfl (by decide) (Yl.load1 tab_ok rfl rfl rfl (fun _ => rfl) ?r2 rfl ?h2) ?_
      case r2 => apply Rd.add; (exact Rd.blk 0 rfl)
      case h2 => rfl
      refine WG.run tab_ok 2 rfl ?_
      refine WG.y rfl rfl (by decide) (pureV_ok tab_ok rfl qE) ?_
      refine' WG.y rfl rfl (by decide) (Yl.loadG tab_ok rfl rfl rfl qE ?r3 rfl ?h3 ?g3) ?_
      case r3 => apply Rd.addC; (exact Rd.blkC 0 rfl)
      case h3 => rfl
      case g3 => exact fun _ => trivial
      refine WG.y rfl rfl (by decide) (pureV_ok tab_ok rfl qE) ?_
      refine WG.y rfl rfl (by decide) (Yl.por rfl rfl rfl (fun _ => rfl) (by intro h1 h2; simp_all <;> omega)) ?_
      refine WG.run tab_ok 1 rfl ?_
      refine WG.y rfl rfl (by decide) (pureV_ok tab_ok rfl qE) ?_
      refine' WG.y rfl rfl (by decide) (Yl.loadG tab_ok rfl rfl rfl qE ?r4 rfl ?h4 ?g4) ?_
      case r4 => apply Rd.addC; (exact Rd.blkC 0 rfl)
      case h4 => rfl
      case g4 => exact fun _ => trivial
      refine WG.y rfl rfl (by decide) (pureV_ok tab_ok rfl qE) ?_
      refine WG.y rfl rfl (by decide) (Yl.por rfl rfl rfl (fun _ => rfl) (by intro h1 h2; simp_all <;> omega)) ?_
      refine WG.run tab_ok 1 rfl ?_
      refine WG.y rfl rfl (by decide) (pureV_ok tab_ok rfl qE) ?_
      refine' WG.y rfl rfl (by decide) (Yl.loadG tab_ok rfl rfl rfl qE ?r5 rfl ?h5 ?g5) ?_
      case r5 => apply Rd.addC; (exact Rd.blkC 0 rfl)
      case h5 => rfl
      case g5 => exact fun _ => trivial
      refine WG.y rfl rfl (by decide) (pureV_ok tab_ok rfl qE) ?_
      refine WG.y rfl rfl (by decide) (Yl.por rfl rfl rfl (fun _ => rfl) (by intro h1 h2; simp_all <;> omega)) ?_
      refine WG.run tab_ok 1 rfl ?_
      refine WG.y rfl rfl (by decide) (pureV_ok tab_ok rfl qE) ?_
      refine' WG.y rfl rfl (by decide) (Yl.loadG tab_ok rfl rfl rfl qE ?r6 rfl ?h6 ?g6) ?_
      case r6 => apply Rd.addC; (exact Rd.blkC 0 rfl)
      case h6 => rfl
      case g6 => exact fun _ => trivial
      refine WG.y rfl rfl (by decide) (pureV_ok tab_ok rfl qE) ?_
      refine WG.y rfl rfl (by decide) (Yl.por rfl rfl rfl (fun _ => rfl) (by intro h1 h2; simp_all <;> omega)) ?_
      refine WG.run tab_ok 1 rfl ?_
      refine WG.y rfl rfl (by decide) (pureV_ok tab_ok rfl qE) ?_
      refine' WG.y rfl rfl (by decide) (Yl.loadG tab_ok rfl rfl rfl qE ?r7 rfl ?h7 ?g7) ?_
      case r7 => apply Rd.addC; (exact Rd.blkC 0 rfl)
      case h7 => rfl
      case g7 => exact fun _ => trivial
      refine WG.y rfl rfl (by decide) (pureV_ok tab_ok rfl qE) ?_
      refine WG.y rfl rfl (by decide) (Yl.por rfl rfl rfl (fun _ => rfl) (by intro h1 h2; simp_all <;> omega)) ?_
      refine WG.nil ?_
      refine WE.nxt ?_
      refine W.cond rfl (fun hc2 => ?_) (fun hc2 => ?_)
      · try simp only [decide_eq_true_eq, decide_eq_false_iff_not, beq_iff_eq, bne_iff_ne, beq_eq_false_iff_ne, bne_eq_false_iff_eq, ne_eq, Bool.or_eq_true, Bool.or_eq_false_iff, Bool.and_eq_true, Bool.and_eq_false_imp, Bool.not_eq_true, Bool.not_eq_true', Bool.not_eq_false', Classical.not_not, Int.not_lt, Int.not_le, gt_iff_lt, ge_iff_le] at hc2
        rw [if_pos (show BadP (nth ps st) by unfold BadP; omega)] at hv
        refine W.seq ?_
        refine W.region _ ?_
        refine WG.run tab_ok 1 rfl ?_
        refine WG.nil ?_
        refine WE.nxt ?_
        refine W.ret ?_
        refine WE.then_ret ?_
        refine WE.blk_ret ?_
        refine WE.then_ret ?_
        refine WE.then_ret ?_
        refine WE.blk_ret ?_
        refine WE.then_ret ?_
        refine WE.subE (E' := E) qS ?_
        refine WE.retF tab_ok [_] rfl ⟨rfl, trivial⟩ (RLe.refl _) ?_
        exact ⟨by unfold validate; rw [if_neg (show ¬ 60 < ps.length by omega), ← hv]; rfl, rfl⟩
      · try simp only [decide_eq_true_eq, decide_eq_false_iff_not, beq_iff_eq, bne_iff_ne, beq_eq_false_iff_ne, bne_eq_false_iff_eq, ne_eq, Bool.or_eq_true, Bool.or_eq_false_iff, Bool.and_eq_true, Bool.and_eq_false_imp, Bool.not_eq_true, Bool.not_eq_true', Bool.not_eq_false', Classical.not_not, Int.not_lt, Int.not_le, gt_iff_lt, ge_iff_le] at hc2
        rw [if_neg (show ¬ BadP (nth ps st) by unfold BadP; omega)] at hv
        refine W.skip ?_
        refine WE.nxt ?_
        refine W.seq ?_
        refine W.regionQ _ mixed (by kernel_rfl) ?_
        refine WG.run tab_ok 3 rfl ?_
        refine WG.y rfl rfl (by decide) (pureV_ok tab_ok rfl qE) ?_
        refine' WG.y rfl rfl (by decide) (Yl.loadG tab_ok rfl rfl rfl qE ?r8 rfl ?h8 ?g8) ?_
        case r8 => apply Rd.addC; (exact Rd.blkC 0 rfl)
        case h8 => rfl
        case g8 => exact fun _ => trivial
        refine WG.y rfl rfl (by decide) (pureV_ok tab_ok rfl qE) ?_
        refine WG.y rfl rfl (by decide) (pureV_ok tab_ok rfl qE) ?_
        refine WG.y rfl rfl (by decide) (Yl.sub rfl rfl rfl qE (by intro hg; (try simp only [decide_eq_true_eq, decide_eq_false_iff_not, beq_iff_eq, bne_iff_ne, beq_eq_false_iff_ne, bne_eq_false_iff_eq, ne_eq, Bool.or_eq_true, Bool.or_eq_false_iff, Bool.and_eq_true, Bool.and_eq_false_imp, Bool.not_eq_true, Bool.not_eq_true', Bool.not_eq_false', Classical.not_not, Int.not_lt, Int.not_le, gt_iff_lt, ge_iff_le] at hg); constructor <;> (try dsimp only) <;> omega)) ?_
        refine WG.y rfl rfl (by decide) (Yl.index tab_ok rfl rfl rfl rfl rfl rfl qE (by intro hg; (try simp only [decide_eq_true_eq, decide_eq_false_iff_not, beq_iff_eq, bne_iff_ne, beq_eq_false_iff_ne, bne_eq_false_iff_eq, ne_eq, Bool.or_eq_true, Bool.or_eq_false_iff, Bool.and_eq_true, Bool.and_eq_false_imp, Bool.not_eq_true, Bool.not_eq_true', Bool.not_eq_false', Classical.not_not, Int.not_lt, Int.not_le, gt_iff_lt, ge_iff_le] at hg); constructor <;> (try dsimp only) <;> omega) (by intro hg; (try simp only [decide_eq_true_eq, decide_eq_false_iff_not, beq_iff_eq, bne_iff_ne, beq_eq_false_iff_ne, bne_eq_false_iff_eq, ne_eq, Bool.or_eq_true, Bool.or_eq_false_iff, Bool.and_eq_true, Bool.and_eq_false_imp, Bool.not_eq_true, Bool.not_eq_true', Bool.not_eq_false', Classical.not_not, Int.not_lt, Int.not_le, gt_iff_lt, ge_iff_le] at hg); first | exact fun _ _ _ _ => rfl | exact RS.has (by assumption) | exact fun _ _ _ _ => (by assumption) | exact HasMem.ownD 0 rfl | exact HasMem.ownD 1 rfl | exact HasMem.ownD 2 rfl | exact HasMem.ownD 3 rfl | exact HasMem.ownD 4 rfl | exact HasMem.ownD 5 rfl | exact HasMem.ownD 6 rfl | exact HasMem.ownD 7 rfl)) ?_
        refine WG.y rfl rfl (by decide) (pureV_ok tab_ok rfl qE) ?_
        refine' WG.y rfl rfl (by decide) (Yl.loadG tab_ok rfl rfl rfl qE ?r9 rfl ?h9 ?g9) ?_
        case r9 => apply Rd.addC; ((apply RS.rdC; assumption))
        case h9 => rfl
        case g9 => (intro hg; (try simp only [decide_eq_true_eq, decide_eq_false_iff_not, beq_iff_eq, bne_iff_ne, beq_eq_false_iff_ne, bne_eq_false_iff_eq, ne_eq, Bool.or_eq_true, Bool.or_eq_false_iff, Bool.and_eq_true, Bool.and_eq_false_imp, Bool.not_eq_true, Bool.not_eq_true', Bool.not_eq_false', Classical.not_not, Int.not_lt, Int.not_le, gt_iff_lt, ge_iff_le] at hg); (try dsimp only); omega)
        refine WG.y rfl rfl (by decide) (pureV_ok tab_ok rfl qE) ?_
        refine WG.y rfl rfl (by decide) (Yl.pand rfl rfl rfl (fun _ => rfl) (by intro h1 h2; simp_all <;> omega)) ?_
        refine WG.nil ?_
        refine WE.nxt ?_
        refine W.cond rfl (fun hc3 => ?_) (fun hc3 => ?_)
        · try simp only [decide_eq_true_eq, decide_eq_false_iff_not, beq_iff_eq, bne_iff_ne, beq_eq_false_iff_ne, bne_eq_false_iff_eq, ne_eq, Bool.or_eq_true, Bool.or_eq_false_iff, Bool.and_eq_true, Bool.and_eq_false_imp, Bool.not_eq_true, Bool.not_eq_true', Bool.not_eq_false', Classical.not_not, Int.not_lt, Int.not_le, gt_iff_lt, ge_iff_le] at hc3
          obtain ⟨hc4, hc5⟩ := hc3
          rw [hk0 (by omega)] at hc5
          rw [if_neg (show ¬ st = 0 by omega), if_pos hc5] at hv
          refine W.seq ?_
          refine W.region _ ?_
          refine WG.run tab_ok 1 rfl ?_
          refine WG.nil ?_
          refine WE.nxt ?_
          refine W.ret ?_
          refine WE.blk_ret ?_
          refine WE.then_ret ?_
          refine WE.then_ret ?_
          refine WE.blk_ret ?_
          refine WE.then_ret ?_
          refine WE.subE (E' := E) qS ?_
          refine WE.retF tab_ok [_] rfl ⟨rfl, trivial⟩ (RLe.refl _) ?_
          exact ⟨by unfold validate; rw [if_neg (show ¬ 60 < ps.length by omega), ← hv]; rfl, rfl⟩
        · try simp only [decide_eq_true_eq, decide_eq_false_iff_not, beq_iff_eq, bne_iff_ne, beq_eq_false_iff_ne, bne_eq_false_iff_eq, ne_eq, Bool.or_eq_true, Bool.or_eq_false_iff, Bool.and_eq_true, Bool.and_eq_false_imp, Bool.not_eq_true, Bool.not_eq_true', Bool.not_eq_false', Classical.not_not, Int.not_lt, Int.not_le, gt_iff_lt, ge_iff_le] at hc3
          have hc4 : ¬ (nth ps st).time < (if st = 0 then 0 else (nth ps (st - 1)).time) := by
            split
            · have hb : ¬ BadP (nth ps st) := by unfold BadP; omega
              unfold BadP at hb; omega
            · rw [← hk0 (by omega)]
              have := hc3 (by omega); omega
          rw [if_neg hc4] at hv
          refine W.skip ?_
          refine WE.blk _ ?_
          refine WE.nxt ?_
          refine W.region _ ?_
          refine WG.run tab_ok 1 rfl ?_
          refine WG.y rfl rfl (by decide) (Yl.add rfl rfl rfl (fun _ => rfl) (by intro _; constructor <;> (try dsimp only) <;> omega)) ?_
          refine WG.run tab_ok 1 rfl ?_
          refine WG.nil ?_
          refine WE.again (st + 1) (⟨by omega, by simpa using hv⟩) (by (try dsimp only); omega) ⟨rfl, rfl, rfl⟩ (RLe.refl _) qS
    · try dsimp only at hc1
      obtain rfl : st = ps.length := by omega
      simp only [List.drop_length, valGo] at hv
      refine W.exit ?_
      refine WE.then_exit ?_
      refine WE.then_exit ?_
      refine WE.blk_exit ?_
      refine WE.nxt ?_
      refine W.seq ?_
      refine W.region _ ?_
      refine WG.run tab_ok 1 rfl ?_
      refine WG.nil ?_
      refine WE.nxt ?_
      refine W.ret ?_
      refine WE.subE (E' := E) qS ?_
      refine WE.retF tab_ok [_] rfl ⟨rfl, trivial⟩ (RLe.refl _) ?_
      exact ⟨by unfold validate; rw [if_neg (show ¬ 60 < ps.length by omega)]; exact congrArg (Value.int .i64) hv, rfl⟩

end Go.Proofs.YtlgjkmebpnnphaaGreat
