/- SlotsCurves: for every input the law returns true, and the input reads afterwards as it read before. No condition. -/
import Derived.Test.YtnaeefefggmomaaG5
/- Chapter 21: a table that is changed. No condition. -/
set_option linter.unusedSimpArgs false
set_option linter.unusedVariables false
namespace Go.Proofs.Ytnaeefefggmomaa
open Go Go.RowKit Go.Proofs.Ytnaeefefggmomaa.K Go.Proofs.Ytnaeefefggmomaa.M

theorem Odd21_C {R : Ro} {b : Nat} {a : Option Addr} {cp : Nat} {xs : List Int} {c : Nat} {wa : Option Addr} {wc : Nat} {w : List Int} (w0 : World) (ha : RS R 1 encI a xs) (hwr : RS R 1 encI wa w) (hl : w.length ≤ 1000) (hl1 : 1 ≤ w.length) : FnAt Try.prog 20 [.pointer (some ⟨b, 0, none⟩), .slice wa w.length wc] w0 R (srcE b a cp xs c)
    (fun v R' e' N => ∃ (a' : Option Addr) (c' cn : Nat) (qs : List Int), v = .slice a' qs.length c' ∧ RS R' 1 encI a' qs ∧ qs.length ≤ c' ∧ e' = srcE b a cp xs cn ∧ N = []) := by
  intro F
  refine Fn.enter (n := 36) Try.func20 rfl rfl (Nat.le_of_ble_eq_true rfl) rfl ?_
  refine W.seq ?_
  refine W.region _ ?_
  refine WG.run tab_ok 1 rfl ?_
  refine WG.nil ?_
  refine WE.nxt ?_
  refine W.seq ?_
  refine W.region _ ?_
  refine WL.ef rfl rfl (by decide) (Ef.buildSliceD (enc := encI) (parts := []) [] tab_ok rfl rfl rfl rfl rfl rfl rfl rfl (by decide) (by decide) (fun a6 => ?_))
  refine WG.run tab_ok 1 rfl ?_
  refine WL.ef rfl rfl (by decide) (Ef.cloneL (enc := encI) 0 tab_ok rfl rfl rfl rfl rfl rfl rfl rfl rfl rfl hwr (fun _ _ => rfl) (by dsimp only; omega) (by omega) (fun a8 c8 ha8 => ?_))
  refine WG.run tab_ok 1 rfl ?_
  refine WG.nil ?_
  refine WE.nxt ?_
  refine W.seq ?_
  refine W.seq ?_
  refine W.region _ ?_
  refine WG.run tab_ok 1 rfl ?_
  refine WL.callAt 1 en21 rfl rfl (by decide) (CallOp.mkT rfl rfl rfl rfl) rfl (N_C w0 ha (by constructor <;> omega) _) ?_
  rintro _ _ _ _ - ⟨rfl, rfl, rfl, rfl⟩
  refine WG.nil ?_
  refine WE.nxt ?_
  refine W.block ?_
  refine W.seq ?_
  refine W.region _ ?_
  refine WG.run tab_ok 2 rfl ?_
  refine WG.nil ?_
  refine WE.nxt ?_
  refine W.condE rfl (fun hc0 => ?_) (fun hc0 => ?_)
  · try dsimp only at hc0
    refine W.region _ ?_
    refine WG.run tab_ok 4 rfl ?_
    refine WL.callAt 1 en21 rfl rfl (by decide) (CallOp.mkT rfl rfl rfl rfl) rfl (N_C w0 ha (by constructor <;> omega) _) ?_
    rintro _ _ _ _ - ⟨rfl, rfl, rfl, rfl⟩
    have hm1 := mod_range (nth xs (c + 1)) (show (1 : Int) ≤ w.length by omega)
    refine WG.run tab_ok 1 rfl ?_
    refine WL.ef rfl rfl (by decide) (Ef.buildSliceD (enc := encI) (parts := [.const (.int .i64 (-2)), .const (.int .i64 (-1)), .const (.int .i64 3), .const (.int .i64 5), .const (.int .i64 6)]) [_, _, _, _, _] tab_ok rfl rfl rfl rfl rfl rfl rfl rfl (by decide) (by decide) (fun a30 => ?_))
    refine WL.callAt 2 en22 rfl rfl (by decide) (CallOp.mkT rfl rfl rfl rfl) rfl (PickM_C (j := 0) w0 ([-2, -1, 3, 5, 6] : List Int) rfl (by decide) (by decide) ha rfl) ?_
    rintro _ _ _ _ - ⟨rfl, rfl, rfl, rfl⟩
    refine WG.y rfl rfl (by decide) (Yl.index tab_ok rfl rfl rfl rfl rfl rfl (fun _ => rfl) (by intro _; constructor <;> (try dsimp only) <;> omega) (by intro _; first | exact fun _ _ _ h => ha8 h | exact fun _ _ _ _ => rfl | exact RS.has (by assumption) | exact fun _ _ _ _ => (by assumption) | exact HasMem.ownD 0 rfl | exact HasMem.ownD 1 rfl | exact HasMem.ownD 2 rfl | exact HasMem.ownD 3 rfl | exact HasMem.ownD 4 rfl)) ?_
    refine WL.efN rfl rfl (Ef.storeD (enc := encI) (xs := w) (nth ([-2, -1, 3, 5, 6] : List Int) (mod (nth xs (c + 1 + 1)) ((5 : Nat) : Int)).toNat) 1 tab_ok rfl rfl rfl rfl rfl (by omega) rfl rfl rfl rfl ?_)
    refine WL.cap 1 rfl ?_
    intro hcap
    rw [List.length_map, List.length_set] at hcap
    refine WL.freeze (enc := encI) (xs := w.set (mod (nth xs (c + 1)) w.length).toNat (nth ([-2, -1, 3, 5, 6] : List Int) (mod (nth xs (c + 1 + 1)) ((5 : Nat) : Int)).toNat)) 1 rfl ?_
    intro R1 hR1 hqs
    refine WG.nil ?_
    refine WE.blk _ ?_
    refine WE.nxt ?_
    refine W.seq ?_
    refine W.region _ ?_
    refine WG.run tab_ok 2 rfl ?_
    refine WG.nil ?_
    refine WE.nxt ?_
    refine W.ret ?_
    refine WE.subE (E' := srcE b a cp xs (c + 1 + 1 + 1) :: F) (by (repeat (first | exact List.Sublist.refl _ | exact List.nil_sublist _ | apply List.Sublist.cons_cons | apply List.Sublist.cons)); done) ?_
    refine WE.retF tab_ok [_] rfl ⟨rfl, trivial⟩ ((by first | exact hR1 | exact RLe.refl _)) ?_
    refine ⟨_, [], rfl, a8, c8, _, _, ?_, hqs, by rw [List.length_set]; exact hcap, rfl, rfl⟩
    rw [List.length_set]; rfl
  · try dsimp only at hc0
    refine W.seq ?_
    refine W.region _ ?_
    refine WG.run tab_ok 2 rfl ?_
    refine WG.nil ?_
    refine WE.nxt ?_
    refine W.condE rfl (fun hc1 => ?_) (fun hc1 => ?_)
    · try dsimp only at hc1
      refine W.seq ?_
      refine W.region _ ?_
      refine WG.run tab_ok 1 rfl ?_
      refine WG.nil ?_
      refine WE.nxt ?_
      refine W.ret ?_
      refine WE.blk_ret ?_
      refine WE.then_ret ?_
      refine WE.subE (E' := srcE b a cp xs (c + 1) :: F) (by (repeat (first | exact List.Sublist.refl _ | exact List.nil_sublist _ | apply List.Sublist.cons_cons | apply List.Sublist.cons)); done) ?_
      refine WE.retF tab_ok [_] rfl ⟨rfl, trivial⟩ ((by first | exact hR1 | exact RLe.refl _)) ?_
      exact ⟨_, [], rfl, none, 0, _, [], rfl, rs_nil, Nat.le_refl _, rfl, rfl⟩
    · try dsimp only at hc1
      refine W.block ?_
      refine W.loopK (β := List Int × Nat × Option Addr × Nat) (fun (ys, cn, a9, c9) => ys.length ≤ 1000) (fun (ys, cn, a9, c9) => [(5, true, .slice a9 ys.length c9)]) [0] [_] [] _ rfl (fun (ys, cn, a9, c9) => [(0, .sl 3 1 a9 c9 (ys.map encI)), (1, srcE b a cp xs cn)]) (fun (ys, cn, a9, c9) => 42 - ys.length) ((w, c + 1, a8, c8)) (hl) ⟨rfl, rfl, rfl⟩ (by (repeat (first | exact List.Sublist.refl _ | exact List.nil_sublist _ | apply List.Sublist.cons_cons | apply List.Sublist.cons)); done) ?_
      intro zz hst
      obtain ⟨ys, cn, a9, c9⟩ := zz
      dsimp only [zipE, setAll, List.cons_append, List.nil_append, List.set_cons_zero, List.set_cons_succ] at hst ⊢
      
      refine W.seq ?_
      refine W.seq ?_
      refine W.region _ ?_
      refine WG.run tab_ok 3 rfl ?_
      refine WL.callAt 1 en21 rfl rfl (by decide) (CallOp.mkT rfl rfl rfl rfl) rfl (N_C w0 ha (by constructor <;> omega) _) ?_
      rintro _ _ _ _ - ⟨rfl, rfl, rfl, rfl⟩
      have hm2 := mod_range (nth xs cn) (show (1 : Int) ≤ 2 by omega)
      refine WG.y rfl rfl (by decide) (Yl.add rfl rfl rfl (fun _ => rfl) (by intro _; constructor <;> (try dsimp only) <;> omega)) ?_
      refine WG.run tab_ok 1 rfl ?_
      refine WG.nil ?_
      refine WE.nxt ?_
      refine W.condD rfl (fun hc2 => ?_) (fun hc2 => ?_)
      · try dsimp only at hc2
        refine W.skip ?_
        refine WE.nxt ?_
        refine W.block ?_
        refine W.region _ ?_
        refine WG.run tab_ok 2 rfl ?_
        refine WL.callAt 1 en21 rfl rfl (by decide) (CallOp.mkT rfl rfl rfl rfl) rfl (N_C w0 ha (by constructor <;> omega) _) ?_
        rintro _ _ _ _ - ⟨rfl, rfl, rfl, rfl⟩
        refine WL.ef rfl rfl (by decide) (Ef.buildSliceD (enc := encI) (parts := [.tmp 19]) [_] tab_ok rfl rfl rfl rfl rfl rfl rfl rfl (by decide) (by decide) (fun a20 => ?_))
        first | refine WL.ef rfl rfl (by decide) (Ef.appendD 1 0 tab_ok rfl rfl rfl rfl rfl rfl rfl rfl rfl rfl rfl (fun _ _ => rfl) (by simp only [List.length_cons, List.length_nil]; omega) (by simp only [List.length_cons, List.length_nil]; omega) (fun a21 c21 ha21 => ?_)) | refine WL.ef rfl rfl (by decide) (Ef.appendD 2 0 tab_ok rfl rfl rfl rfl rfl rfl rfl rfl rfl rfl rfl (fun _ _ => rfl) (by simp only [List.length_cons, List.length_nil]; omega) (by simp only [List.length_cons, List.length_nil]; omega) (fun a21 c21 ha21 => ?_)) | refine WL.ef rfl rfl (by decide) (Ef.appendD 3 0 tab_ok rfl rfl rfl rfl rfl rfl rfl rfl rfl rfl rfl (fun _ _ => rfl) (by simp only [List.length_cons, List.length_nil]; omega) (by simp only [List.length_cons, List.length_nil]; omega) (fun a21 c21 ha21 => ?_)) | refine WL.ef rfl rfl (by decide) (Ef.appendD 4 0 tab_ok rfl rfl rfl rfl rfl rfl rfl rfl rfl rfl rfl (fun _ _ => rfl) (by simp only [List.length_cons, List.length_nil]; omega) (by simp only [List.length_cons, List.length_nil]; omega) (fun a21 c21 ha21 => ?_)) | refine WL.ef rfl rfl (by decide) (Ef.appendR 0 tab_ok rfl rfl rfl rfl rfl rfl rfl rfl rfl rfl (by assumption) (fun _ _ => rfl) (by (try dsimp only); omega) (by omega) (fun a21 c21 ha21 => ?_)) | refine WL.ef rfl rfl (by decide) (Ef.appendR 1 tab_ok rfl rfl rfl rfl rfl rfl rfl rfl rfl rfl (by assumption) (fun _ _ => rfl) (by (try dsimp only); omega) (by omega) (fun a21 c21 ha21 => ?_)) | refine WL.ef rfl rfl (by decide) (Ef.appendR 2 tab_ok rfl rfl rfl rfl rfl rfl rfl rfl rfl rfl (by assumption) (fun _ _ => rfl) (by (try dsimp only); omega) (by omega) (fun a21 c21 ha21 => ?_)) | refine WL.ef rfl rfl (by decide) (Ef.appendR 3 tab_ok rfl rfl rfl rfl rfl rfl rfl rfl rfl rfl (by assumption) (fun _ _ => rfl) (by (try dsimp only); omega) (by omega) (fun a21 c21 ha21 => ?_)) | refine WL.ef rfl rfl (by decide) (Ef.appendR 4 tab_ok rfl rfl rfl rfl rfl rfl rfl rfl rfl rfl (by assumption) (fun _ _ => rfl) (by (try dsimp only); omega) (by omega) (fun a21 c21 ha21 => ?_))
        refine WG.run tab_ok 1 rfl ?_
        refine WG.nil ?_
        refine WE.blk _ ?_
        refine WE.again ((ys ++ [mod (nth xs (cn + 1)) 3], cn + 1 + 1, a21, c21)) (by simp only [List.length_append, List.length_cons, List.length_nil]; omega) (by simp only [List.length_append, List.length_cons, List.length_nil]; omega) ⟨rfl, rfl, rfl⟩ (RLe.refl _) (by (repeat (first | exact List.Sublist.refl _ | exact List.nil_sublist _ | apply List.Sublist.cons_cons | apply List.Sublist.cons)); done)
      · try dsimp only at hc2
        refine W.cap 0 rfl ?_
        intro hcap
        rw [List.length_map] at hcap
        refine W.freeze (enc := encI) (xs := ys) 0 rfl ?_
        intro R1 hR1 hqs
        refine W.exit ?_
        refine WE.then_exit ?_
        refine WE.then_exit ?_
        refine WE.blk_exit ?_
        refine WE.blk _ ?_
        refine WE.nxt ?_
        refine W.seq ?_
        refine W.region _ ?_
        refine WG.run tab_ok 2 rfl ?_
        refine WG.nil ?_
        refine WE.nxt ?_
        refine W.ret ?_
        refine WE.subE (E' := srcE b a cp xs (cn + 1) :: F) (by (repeat (first | exact List.Sublist.refl _ | exact List.nil_sublist _ | apply List.Sublist.cons_cons | apply List.Sublist.cons)); done) ?_
        refine WE.retF tab_ok [_] rfl ⟨rfl, trivial⟩ ((by first | exact hR1 | exact RLe.refl _)) ?_
        exact ⟨_, [], rfl, _, _, _, _, rfl, hqs, hcap, rfl, rfl⟩

end Go.Proofs.Ytnaeefefggmomaa

/- Valid curves, finite or not, plain: what they say, their normal forms, and that two ways to make a curve give the same. No condition. -/
namespace Go.Proofs.Ytnaeefefggmomaa.M
open Go Go.Proofs.Ytnaeefefggmomaa.K

/-! ### normal forms do not depend on the period that one began with -/
section
variable {F : Nat → Int} {S P S' P' : Nat} {I I' : Int}
theorem infL_some {n m : Nat} (hn : n < m) (hi : F n = INF) (hf : ∀ t, t < n → F t ≠ INF) : infL (fvals F m) = n := by
  unfold infL
  rw [fvals_len]
  exact findFrom_some (Nat.zero_le _) (by omega) (by rw [fvals_nth F hn, hi]; simp) (fun j _ hj => by rw [fvals_nth F (by omega)]; simp [hf j hj])
theorem normR_inf {n m : Nat} {per inc : Int} (hn : n < m) (hi : F n = INF) (hf : ∀ t, t < n → F t ≠ INF) : normR ⟨fvals F m, per, inc⟩ = ⟨fvals F (n + 1), 1, 0⟩ := by
  unfold normR
  dsimp only
  rw [infL_some hn hi hf, if_neg (by omega), Int.toNat_natCast, fvals_take F (by omega)]
end
/-! ### what valid curves say -/
/-- infinite from n on -/
structure IC (F : Nat → Int) (n : Nat) : Prop where
  hn : n < 400
  hi : ∀ t, n ≤ t → F t = INF
  hb : ∀ t, t < n → 0 ≤ F t ∧ F t ≤ 1073741824
  hm : ∀ t, F t ≤ F (t + 1)
def cvF (c : Cv) (t : Nat) : Int := atR c.vals c.per c.inc (t : Int)
theorem cvF_low {c : Cv} {t : Nat} (ht : t < c.vals.length) : cvF c t = nth c.vals t := by
  unfold cvF atR
  rw [if_neg (by omega), if_pos (by omega), Int.toNat_natCast]
theorem cvF_vals (c : Cv) : c.vals = fvals (cvF c) c.vals.length := fvals_eq (fun i hi => (cvF_low hi).symm)
/-- where the value of a late tick stands -/
def cvJ (n P t : Nat) : Nat := t - ((t - n) / P + 1) * P
theorem cvJ_at {n P t : Nat} (hP : 1 ≤ P ∧ P ≤ n) (ht : n ≤ t) : n - P ≤ cvJ n P t ∧ cvJ n P t < n ∧ cvJ n P t + ((t - n) / P + 1) * P = t := by
  have hd := Nat.mod_add_div (t - n) P
  have hm := Nat.mod_lt (t - n) (show 0 < P by omega)
  have hmul : ((t - n) / P + 1) * P = P * ((t - n) / P) + P := by rw [Nat.add_mul, Nat.mul_comm]; simp
  unfold cvJ
  omega
theorem cvF_high {c : Cv} {P : Nat} (hc : c.per = P) (hP : 1 ≤ P ∧ P ≤ c.vals.length) {t : Nat} (ht : c.vals.length ≤ t) :
    cvF c t = if nth c.vals (cvJ c.vals.length P t) = INF then INF else nth c.vals (cvJ c.vals.length P t) + (((t - c.vals.length) / P + 1 : Nat) : Int) * c.inc := by
  obtain ⟨j1, j2, j3⟩ := cvJ_at hP ht
  unfold cvF atR
  have e1 : ((t : Int) - (c.vals.length : Int)) / c.per + 1 = (((t - c.vals.length) / P + 1 : Nat) : Int) := by
    rw [hc, show (t : Int) - (c.vals.length : Int) = ((t - c.vals.length : Nat) : Int) by omega]
    rfl
  rw [if_neg (by omega), if_neg (by omega), e1, hc]
  have e2 : ((t : Int) - (((t - c.vals.length) / P + 1 : Nat) : Int) * (P : Int)).toNat = cvJ c.vals.length P t := by
    rw [← Int.natCast_mul]
    omega
  rw [e2]
  rfl
section
variable {c : Cv}
theorem valid_each (h : validB c = true) : ∀ i, i < c.vals.length → (nth c.vals i = INF ∨ (0 ≤ nth c.vals i ∧ nth c.vals i ≤ MAXV)) := fun i hi => ((validB_iff.1 h).2.1 i hi).1
theorem valid_mono (h : validB c = true) {i : Nat} : ∀ {j : Nat}, i ≤ j → j < c.vals.length → nth c.vals i ≤ nth c.vals j
  | 0, hij, _ => by obtain rfl : i = 0 := by omega
                    exact Int.le_refl _
  | j + 1, hij, hj => by
    by_cases e : i = j + 1
    · subst e; exact Int.le_refl _
    · have a := valid_mono h (i := i) (j := j) (by omega) (by omega)
      have b := (((validB_iff.1 h).2.1 (j + 1) hj).2).resolve_left (by omega)
      rw [show j + 1 - 1 = j by omega] at b
      omega
/-- a finite valid curve -/
theorem valid_fin (h : validB c = true) (hf : nth c.vals (c.vals.length - 1) ≠ INF) : ∃ S P : Nat, c.per = P ∧ c.vals.length = S + P ∧ FC (cvF c) S P c.inc := by
  obtain ⟨⟨h1, h2, h3, h4, h5, h6, h7⟩, _, h8⟩ := validB_iff.1 h
  rw [if_neg hf] at h8
  obtain ⟨P, hP⟩ := Int.eq_ofNat_of_zero_le (show 0 ≤ c.per by omega)
  have hPn : 1 ≤ P ∧ P ≤ c.vals.length := by omega
  have hlow : ∀ t, t < c.vals.length → 0 ≤ cvF c t ∧ cvF c t ≤ 1073741824 := fun t ht => by
    rw [cvF_low ht]
    have a := valid_mono h (i := t) (j := c.vals.length - 1) (by omega) (by omega)
    have b := valid_each h (c.vals.length - 1) (by omega)
    have d := valid_each h t ht
    unfold INF MAXV at b d
    unfold INF at hf
    omega
  have hfin : ∀ j, j < c.vals.length → nth c.vals j ≠ INF := fun j hj => by
    have := hlow j hj
    rw [cvF_low hj] at this
    unfold INF; omega
  have hg : Grows (cvF c) (c.vals.length - P) P c.inc := fun t ht => by
    obtain ⟨j1, j2, j3⟩ := cvJ_at hPn (show c.vals.length ≤ t + P by omega)
    rw [cvF_high hP hPn (show c.vals.length ≤ t + P by omega), if_neg (hfin _ j2)]
    by_cases hn : t < c.vals.length
    · have e : (t + P - c.vals.length) / P = 0 := Nat.div_eq_of_lt (by omega)
      rw [e] at j3 ⊢
      have ej : cvJ c.vals.length P (t + P) = t := by omega
      rw [ej, cvF_low hn]; simp
    · obtain ⟨i1, i2, i3⟩ := cvJ_at hPn (show c.vals.length ≤ t by omega)
      rw [cvF_high hP hPn (show c.vals.length ≤ t by omega), if_neg (hfin _ i2)]
      have e : (t + P - c.vals.length) / P = (t - c.vals.length) / P + 1 := by
        rw [show t + P - c.vals.length = t - c.vals.length + P by omega, Nat.add_div_right _ (by omega)]
      rw [e] at j3 ⊢
      have ej : cvJ c.vals.length P (t + P) = cvJ c.vals.length P t := by
        have : ((t - c.vals.length) / P + 1 + 1) * P = ((t - c.vals.length) / P + 1) * P + P := by rw [Nat.add_mul _ 1 P]; simp
        omega
      rw [ej]
      have e3 : (((t - c.vals.length) / P + 1 + 1 : Nat) : Int) * c.inc = (((t - c.vals.length) / P + 1 : Nat) : Int) * c.inc + c.inc := by
        rw [Int.natCast_add _ 1, Int.add_mul]; simp
      rw [e3]; omega
  have hstep : ∀ t, t + 1 ≤ c.vals.length → cvF c t ≤ cvF c (t + 1) := fun t ht => by
    by_cases e : t + 1 < c.vals.length
    · rw [cvF_low e, cvF_low (show t < c.vals.length by omega)]
      exact valid_mono h (by omega) e
    · have g := hg (c.vals.length - P) (Nat.le_refl _)
      rw [show c.vals.length - P + P = t + 1 by omega, cvF_low (show c.vals.length - P < c.vals.length by omega)] at g
      rw [g, cvF_low (show t < c.vals.length by omega)]
      rw [hP, Int.toNat_natCast, show c.vals.length - 1 = t by omega] at h8
      exact h8
  refine ⟨c.vals.length - P, P, hP, by omega, by omega, by omega, by unfold MAXV at h7; omega, hg, ?_, (hlow 0 (by omega)).1, fun t ht => (hlow t (by omega)).2⟩
  intro t
  induction t using Nat.strongRecOn with
  | _ t ih =>
    by_cases ht : t + 1 ≤ c.vals.length
    · exact hstep t ht
    · have a := ih (t - P) (by omega)
      have g1 := hg (t - P) (by omega)
      have g2 := hg (t - P + 1) (by omega)
      rw [show t - P + P = t by omega] at g1
      rw [show t - P + 1 + P = t + 1 by omega] at g2
      omega
theorem valid_ic (h : validB c = true) (hf : nth c.vals (c.vals.length - 1) = INF) : c.per = 1 ∧ c.inc = 0 ∧ ∃ n : Nat, n < c.vals.length ∧ infL c.vals = n ∧ IC (cvF c) n := by
  obtain ⟨⟨h1, h2, h3, h4, h5, h6, h7⟩, _, h8⟩ := validB_iff.1 h
  rw [if_pos hf] at h8
  refine ⟨h8.1, h8.2, ?_⟩
  unfold infL
  rcases findFrom_cases (fun i => nth c.vals i == INF) c.vals.length 0 with ⟨n, n1, n2, n3, n4, n5⟩ | ⟨_, n2⟩
  · rw [n3]
    have hnI : nth c.vals n = INF := by simpa using n4
    have hlow : ∀ t, t < n → 0 ≤ nth c.vals t ∧ nth c.vals t ≤ 1073741824 := fun t ht => by
      have a := valid_each h t (by omega)
      have b := n5 t (by omega) ht
      unfold MAXV at a
      rcases a with a | a
      · rw [a] at b; simp at b
      · exact a
    have hhi : ∀ t, n ≤ t → cvF c t = INF := fun t ht => by
      by_cases e : t < c.vals.length
      · rw [cvF_low e]
        have a := valid_mono h ht e
        have b := valid_each h t e
        rw [hnI] at a
        unfold MAXV INF at b
        unfold INF at a ⊢
        omega
      · obtain ⟨j1, j2, j3⟩ := cvJ_at (n := c.vals.length) (P := 1) (t := t) (by omega) (by omega)
        have ej : cvJ c.vals.length 1 t = c.vals.length - 1 := by omega
        rw [cvF_high (P := 1) (by rw [h8.1]; rfl) (by omega) (by omega), ej, if_pos hf]
    refine ⟨n, by omega, rfl, by omega, hhi, fun t ht => by rw [cvF_low (by omega)]; exact hlow t ht, fun t => ?_⟩
    by_cases ht : t + 1 < n
    · rw [cvF_low (show t + 1 < c.vals.length by omega), cvF_low (show t < c.vals.length by omega)]
      exact valid_mono h (by omega) (by omega)
    · rw [hhi (t + 1) (by omega)]
      by_cases e : t < n
      · rw [cvF_low (by omega)]
        have := hlow t e
        unfold INF; omega
      · rw [hhi t (by omega)]; exact Int.le_refl _
  · have := n2 (c.vals.length - 1) (by omega) (by omega)
    rw [hf] at this; simp at this
/-- of a finite curve, of any valid one -/
def finB (c : Cv) : Bool := nth c.vals (c.vals.length - 1) != INF
theorem cv_eq {S P : Nat} (hP : c.per = P) (hn : c.vals.length = S + P) : c = ⟨fvals (cvF c) (S + P), P, c.inc⟩ := by
  have := cvF_vals c
  rw [hn] at this
  cases c
  simp only at *
  subst hP
  rw [← this]
theorem cv_eqI {n : Nat} (hP : c.per = 1) (hI : c.inc = 0) (hn : n < c.vals.length) : c = ⟨fvals (cvF c) c.vals.length, 1, 0⟩ := by
  have := cvF_vals c
  cases c
  simp only at *
  subst hP; subst hI
  rw [← this]
end
theorem cvF_fc {F : Nat → Int} {S P : Nat} {I : Int} (h : FC F S P I) : cvF ⟨fvals F (S + P), P, I⟩ = F := funext fun t => h.atR t
theorem cvF_ic {F : Nat → Int} {n m : Nat} (h : IC F n) (hm : n < m) : cvF ⟨fvals F m, 1, 0⟩ = F := funext fun t => by
  by_cases ht : t < m
  · rw [cvF_low (by rw [fvals_len]; exact ht)]
    exact fvals_nth F ht
  · have hl : (fvals F m).length = m := fvals_len F m
    rw [cvF_high (c := ⟨fvals F m, 1, 0⟩) (P := 1) rfl (by rw [hl]; omega) (by rw [hl]; omega)]
    obtain ⟨j1, j2, j3⟩ := cvJ_at (n := m) (P := 1) (t := t) (by omega) (by omega)
    rw [hl]
    dsimp only
    rw [show cvJ m 1 t = m - 1 by omega, fvals_nth F (by omega), h.hi _ (by omega), if_pos rfl, h.hi t (by omega)]
theorem IC.fin {F : Nat → Int} {n t : Nat} (h : IC F n) (ht : t < n) : F t ≠ INF := by have := h.hb t ht; unfold INF; omega
theorem IC.valid {F : Nat → Int} {n m : Nat} (h : IC F n) (hm : n < m) (hm' : m ≤ 400) : validB ⟨fvals F m, 1, 0⟩ = true := by
  rw [validB_iff]
  dsimp only
  rw [fvals_len, fvals_nth F (show m - 1 < m by omega), if_pos (h.hi _ (by omega))]
  refine ⟨⟨by omega, hm', by decide, by decide, by omega, by decide, by unfold MAXV; omega⟩, fun i hi => ?_, rfl, rfl⟩
  rw [fvals_nth F hi]
  refine ⟨?_, ?_⟩
  · by_cases e : i < n
    · have := h.hb i e
      right; unfold MAXV; exact this
    · exact .inl (h.hi i (by omega))
  · by_cases e : i = 0
    · exact .inl e
    · right
      rw [fvals_nth F (by omega)]
      have := h.hm (i - 1)
      rwa [show i - 1 + 1 = i by omega] at this
theorem FC.valid' {F : Nat → Int} {S P : Nat} {I : Int} (h : FC F S P I) : validB ⟨fvals F (S + P), P, I⟩ = true := by
  have hP := h.hP
  have hn := h.hn
  have hI := h.hI
  rw [validB_iff]
  dsimp only
  rw [fvals_len]
  refine ⟨⟨by omega, by omega, by omega, by omega, by omega, by omega, by unfold MAXV; omega⟩, fun i hi => ?_, ?_⟩
  · rw [fvals_nth F hi]
    have a := h.nonneg i
    have b := h.hb i hi
    refine ⟨.inr ⟨a, by unfold MAXV; omega⟩, ?_⟩
    by_cases h0 : i = 0
    · exact .inl h0
    · right
      rw [fvals_nth F (by omega)]
      exact h.mono (show i - 1 ≤ i by omega)
  · rw [fvals_nth F (by omega), if_neg (h.fin (by omega)), Int.toNat_natCast, fvals_nth F (by omega)]
    have h1 := h.hg (S + P - P) (by omega)
    have h2 := h.mono (show S + P - 1 ≤ S + P - P + P by omega)
    omega
/-- the normal form of a finite curve -/
theorem FC.norm {F : Nat → Int} {S P : Nat} {I : Int} (h : FC F S P I) : ∃ (s p : Nat) (q : Int), normR ⟨fvals F (S + P), P, I⟩ = ⟨fvals F (s + p), p, q⟩ ∧ FC F s p q ∧ s ≤ S ∧ p ≤ P ∧ NF F S P I p s ∧ q = I * p / P := by
  have hP := h.hP
  have hI := h.hI
  obtain ⟨p, s, h1, h2, h3, h4⟩ := normR_nf (by omega) hI.1 h.hg (fun t ht => h.fin ht)
  have hp := h1.least.1
  have hq0 : 0 ≤ I * (p : Int) / P := Int.ediv_nonneg (Int.mul_nonneg hI.1 (by omega)) (by omega)
  have hq : I * (p : Int) / P ≤ I := by
    have h3 : I * (p : Int) ≤ I * (P : Int) := Int.mul_le_mul_of_nonneg_left (by omega) hI.1
    have h4 : I * (p : Int) / P ≤ I * (P : Int) / P := Int.ediv_le_ediv (by omega) h3
    rw [Int.mul_ediv_cancel _ (by omega)] at h4
    exact h4
  have hn := h.hn
  exact ⟨s, p, I * p / P, h4, ⟨by omega, by omega, ⟨hq0, by omega⟩, h1.starts.1, h.hm, h.h0, fun t ht => h.hb t (by omega)⟩, h3, h2, h1, rfl⟩
theorem IC.norm {F : Nat → Int} {n m : Nat} (h : IC F n) (hm : n < m) : normR ⟨fvals F m, 1, 0⟩ = ⟨fvals F (n + 1), 1, 0⟩ :=
  normR_inf hm (h.hi n (Nat.le_refl _)) (fun t ht => h.fin ht)
/-- what is known of a valid curve: finite or not -/
theorem valid_cases {c : Cv} (h : validB c = true) : (∃ S P : Nat, c = ⟨fvals (cvF c) (S + P), P, c.inc⟩ ∧ c.vals.length = S + P ∧ c.per = P ∧ FC (cvF c) S P c.inc ∧ finB c = true) ∨ (∃ n : Nat, c = ⟨fvals (cvF c) c.vals.length, 1, 0⟩ ∧ n < c.vals.length ∧ c.per = 1 ∧ c.inc = 0 ∧ infL c.vals = n ∧ IC (cvF c) n ∧ finB c = false) := by
  by_cases hf : nth c.vals (c.vals.length - 1) = INF
  · obtain ⟨h1, h2, n, h3, h4, h5⟩ := valid_ic h hf
    exact .inr ⟨n, cv_eqI h1 h2 h3, h3, h1, h2, h4, h5, by unfold finB; rw [hf]; simp⟩
  · obtain ⟨S, P, h1, h2, h3⟩ := valid_fin h hf
    exact .inl ⟨S, P, cv_eq h1 h2, h2, h1, h3, by unfold finB; simp [hf]⟩
theorem norm_valid {c : Cv} (h : validB c = true) : validB (normR c) = true ∧ cvF (normR c) = cvF c ∧ (normR c).vals.length ≤ c.vals.length ∧ finB (normR c) = finB c ∧ (∀ S P : Nat, c.vals.length = S + P → c.per = P → ∃ s p : Nat, (normR c).vals.length = s + p ∧ (normR c).per = p ∧ s ≤ S ∧ p ≤ P) := by
  have hfb : ∀ {a b : Cv}, validB a = true → validB b = true → cvF a = cvF b → finB a = finB b := fun {a b} ha hb e => by
    rcases valid_cases ha with ⟨S, P, _, _, _, hfc, f1⟩ | ⟨n, _, _, _, _, _, hic, f1⟩
    · rcases valid_cases hb with ⟨_, _, _, _, _, _, f2⟩ | ⟨n, _, _, _, _, _, hic, f2⟩
      · rw [f1, f2]
      · rw [e] at hfc
        have a1 := hic.hi (n + S + P) (by omega)
        have a2 := hfc.bound n
        have a3 := hic.hi n (Nat.le_refl _)
        have := hic.hn
        unfold INF at a3; omega
    · rcases valid_cases hb with ⟨S, P, _, _, _, hfc, f2⟩ | ⟨_, _, _, _, _, _, _, f2⟩
      · rw [← e] at hfc
        have a2 := hfc.bound n
        have a3 := hic.hi n (Nat.le_refl _)
        have := hic.hn
        unfold INF at a3; omega
      · rw [f1, f2]
  rcases valid_cases h with ⟨S, P, e, hl, hp, hfc, _⟩ | ⟨n, e, hl, hp, hI, _, hic, _⟩
  · obtain ⟨s, p, q, h1, h2, h3, h4, _⟩ := hfc.norm
    have e2 : normR c = ⟨fvals (cvF c) (s + p), p, q⟩ := by rw [← h1, ← e]
    have e3 : cvF (normR c) = cvF c := by rw [e2]; exact cvF_fc h2
    have hv : validB (normR c) = true := by rw [e2]; exact h2.valid'
    have hp1 := h2.hP
    refine ⟨hv, e3, by rw [e2, hl, fvals_len]; omega, hfb hv h e3, fun S' P' hl' hp' => ⟨s, p, by rw [e2]; exact fvals_len _ _, by rw [e2], by omega, by omega⟩⟩
  · have h1 := hic.norm hl
    have e2 : normR c = ⟨fvals (cvF c) (n + 1), 1, 0⟩ := by rw [← h1, ← e]
    have e3 : cvF (normR c) = cvF c := by rw [e2]; exact cvF_ic hic (by omega)
    have hn := hic.hn
    have hv : validB (normR c) = true := by rw [e2]; exact hic.valid (by omega) (by omega)
    refine ⟨hv, e3, by rw [e2, fvals_len]; omega, hfb hv h e3, fun S' P' hl' hp' => ⟨n, 1, by rw [e2]; exact fvals_len _ _, by rw [e2]; rfl, by omega, by omega⟩⟩
end Go.Proofs.Ytnaeefefggmomaa.M

/- What the references' normal form wants of long lists, plain; curves less a number. No condition. -/
namespace Go.Proofs.Ytnaeefefggmomaa.M
open Go Go.Proofs.Ytnaeefefggmomaa.K

/-- what Made wants -/
structure MadeOk (v : List Int) (per inc : Int) : Prop where
  vals : ∀ x ∈ v, -2305843009213693952 ≤ x ∧ x ≤ 4611686018427387904
  hper : 1 ≤ per ∧ per ≤ 10000 ∧ per ≤ v.length
  hinc : 0 ≤ inc ∧ inc ≤ 2147483648
  self : infL v = -1 → perR ⟨v, per, inc⟩ ((v.length : Int) - per) per = true
  at_ : ∀ t : Int, 0 ≤ t → t ≤ (v.length : Int) + per → infL v = -1 → 0 ≤ atR v per inc t ∧ atR v per inc t ≤ 1000000000000000
  nb : (∀ x ∈ (normR ⟨v, per, inc⟩).vals, -2305843009213693952 ≤ x ∧ x ≤ 4611686018427387904) ∧ InR (normR ⟨v, per, inc⟩).per ∧ InR (normR ⟨v, per, inc⟩).inc
theorem madeOk_fin {F : Nat → Int} {S P : Nat} {I : Int} (hP : 0 < P ∧ P ≤ 10000) (hS : S ≤ 10000) (hI : 0 ≤ I ∧ I ≤ 2147483648) (hg : Grows F S P I) (hb : ∀ t, t ≤ S + P + P → 0 ≤ F t ∧ F t ≤ 1000000000000) : MadeOk (fvals F (S + P)) P I := by
  obtain ⟨h1, h2, h3, h4, h5⟩ := made_pre hP hS hI hg hb
  exact ⟨h1, by rw [fvals_len]; omega, hI, fun _ => h2, fun t a b _ => h3 t a b, h5⟩
theorem madeOk_inf {F : Nat → Int} {n m : Nat} {per inc : Int} (hn : n < m) (hm : m ≤ 100000) (hper : 1 ≤ per ∧ per ≤ 10000 ∧ per ≤ m) (hinc : 0 ≤ inc ∧ inc ≤ 2147483648) (hi : F n = INF) (hb : ∀ t, t < n → 0 ≤ F t ∧ F t < INF) (hb' : ∀ t, t < m → 0 ≤ F t ∧ F t ≤ INF) : MadeOk (fvals F m) per inc := by
  have hne : ∀ t, t < n → F t ≠ INF := fun t ht => by have := hb t ht; omega
  have hl := infL_some hn hi hne
  have hv : ∀ k, k ≤ m → ∀ x ∈ fvals F k, -2305843009213693952 ≤ x ∧ x ≤ 4611686018427387904 := fun k hk => all_of_nth (fun j hj => by
    rw [fvals_len] at hj
    rw [fvals_nth F hj]
    have := hb' j (by omega)
    unfold INF at this
    omega)
  refine ⟨hv m (Nat.le_refl _), by rw [fvals_len]; exact hper, hinc, fun h => by rw [hl] at h; omega, fun t _ _ h => by rw [hl] at h; omega, ?_⟩
  rw [normR_inf hn hi hne]
  exact ⟨hv _ (by omega), by constructor <;> dsimp only <;> decide, by constructor <;> dsimp only <;> decide⟩
theorem cvF_bound {c : Cv} (h : validB c = true) (t : Nat) : 0 ≤ cvF c t ∧ (cvF c t = INF ∨ cvF c t ≤ 1073741824 * ((t : Int) + 2)) := by
  rcases valid_cases h with ⟨S, P, _, _, _, hfc, _⟩ | ⟨n, _, _, _, _, _, hic, _⟩
  · exact ⟨hfc.nonneg t, .inr (hfc.bound t)⟩
  · by_cases ht : t < n
    · have := hic.hb t ht
      exact ⟨this.1, .inr (by omega)⟩
    · have := hic.hi t (by omega)
      exact ⟨by rw [this]; unfold INF; omega, .inl this⟩
theorem valid_range {c : Cv} (h : validB c = true) : (∀ x ∈ c.vals, -2305843009213693952 ≤ x ∧ x ≤ 4611686018427387904) ∧ 1 ≤ c.vals.length ∧ c.vals.length ≤ 400 ∧ 1 ≤ c.per ∧ c.per ≤ 120 ∧ c.per ≤ c.vals.length ∧ 0 ≤ c.inc ∧ c.inc ≤ 1073741824 := by
  obtain ⟨⟨h1, h2, h3, h4, h5, h6, h7⟩, _, _⟩ := validB_iff.1 h
  refine ⟨all_of_nth (fun j hj => ?_), h1, h2, h3, h4, h5, h6, by unfold MAXV at h7; omega⟩
  have := valid_each h j hj
  unfold INF MAXV at this
  omega
/-- a valid curve may be made normal -/
theorem valid_madeOk {c : Cv} (h : validB c = true) : MadeOk c.vals c.per c.inc := by
  rcases valid_cases h with ⟨S, P, e, hl, hp, hfc, _⟩ | ⟨n, e, hl, hp, hI, _, hic, _⟩
  · have hP := hfc.hP
    have hn := hfc.hn
    have hI := hfc.hI
    have := madeOk_fin (F := cvF c) (S := S) (P := P) (I := c.inc) (by omega) (by omega) (by omega) hfc.hg (fun t ht => by have := hfc.bound t; have := hfc.nonneg t; omega)
    rw [cvF_vals c, hl, hp]; exact this
  · have hr := valid_range h
    have := madeOk_inf (F := cvF c) (per := 1) (inc := 0) hl (by omega) ⟨by decide, by decide, by omega⟩ (by decide) (hic.hi n (Nat.le_refl _)) (fun t ht => by have := hic.hb t ht; unfold INF; omega) (fun t ht => by
      have := cvF_bound h t
      unfold INF at this ⊢
      omega)
    rw [cvF_vals c, hp, hI]; exact this
/-! ### a curve less a number -/
/-- infinite there -/
def isInf (c : Cv) (t : Nat) : Prop := finB c = false ∧ cvF c t = INF
instance (c : Cv) (t : Nat) : Decidable (isInf c t) := by unfold isInf; infer_instance
theorem isInf_iff {c : Cv} (h : validB c = true) {t : Nat} (ht : t ≤ 1000000000) : isInf c t ↔ cvF c t = INF := by
  refine ⟨fun h => h.2, fun h0 => ⟨?_, h0⟩⟩
  rcases valid_cases h with ⟨S, P, _, _, _, hfc, _⟩ | ⟨n, _, _, _, _, _, hic, hf⟩
  · have := hfc.bound t
    unfold INF at h0; omega
  · exact hf
def lowF (c : Cv) (k : Int) (t : Nat) : Int := if isInf c t then INF else max 0 (cvF c t - k)
def lowerR (c : Cv) (k : Int) : Cv × Int :=
  if finB (normR c) = true ∧ 0 < (normR c).inc ∧ cvF (normR c) 400 < k then (zcv, 3)
  else madeR ⟨fvals (lowF (normR c) k) (400 + (normR c).per.toNat), (normR c).per, (normR c).inc⟩
theorem lowF_ok {c : Cv} (h : validB c = true) {k : Int} (hk : 0 ≤ k) (hb : ¬ (finB c = true ∧ 0 < c.inc ∧ cvF c 400 < k)) : MadeOk (fvals (lowF c k) (400 + c.per.toNat)) c.per c.inc := by
  rcases valid_cases h with ⟨S, P, e, hl, hp, hfc, hfb⟩ | ⟨n, e, hl, hp, hI, _, hic, hfb⟩
  · have hP := hfc.hP
    have hn := hfc.hn
    have hI := hfc.hI
    have hlo : ∀ t, lowF c k t = max 0 (cvF c t - k) := fun t => if_neg (fun hh => by have h1 := hh.1; rw [hfb] at h1; cases h1)
    rw [hp, Int.toNat_natCast]
    refine madeOk_fin (by omega) (by omega) (by omega) (fun t ht => ?_) (fun t ht => ?_)
    · rw [hlo, hlo, hfc.hg t (by omega)]
      by_cases h0 : c.inc = 0
      · rw [h0, Int.add_zero, Int.add_zero]
      · have h1 : k ≤ cvF c 400 := by
          apply Classical.byContradiction
          intro hh
          exact hb ⟨hfb, by omega, by omega⟩
        have h2 := hfc.mono ht
        omega
    · rw [hlo]
      have := hfc.bound t
      have := hfc.nonneg t
      omega
  · have hr := valid_range h
    have hin : ∀ t, cvF c t = INF → isInf c t := fun t ht => ⟨hfb, ht⟩
    rw [hp]
    refine madeOk_inf (n := n) (by have := hic.hn; omega) (by decide) ⟨by decide, by decide, by decide⟩ (by omega) (by unfold lowF; rw [if_pos (hin _ (hic.hi n (Nat.le_refl _)))]) (fun t ht => ?_) (fun t ht => ?_)
    · unfold lowF
      rw [if_neg (fun hh => hic.fin ht hh.2)]
      have := hic.hb t ht
      unfold INF; omega
    · unfold lowF
      have := cvF_bound h t
      unfold INF at this ⊢
      split <;> omega
end Go.Proofs.Ytnaeefefggmomaa.M

/- Time slots, plain: what the reference counts, and the line less a packet. No condition. -/
namespace Go.Proofs.Ytnaeefefggmomaa.M
open Go Go.Proofs.Ytnaeefefggmomaa.K

def rowR (cap lost : Int) (mine : Nat → Bool) (a : Nat) : Nat → Int × Nat
  | 0 => (0, 0)
  | d + 1 => if mine (a + d) = true then ((rowR cap lost mine a d).1, (rowR cap lost mine a d).2 + 1) else ((rowR cap lost mine a d).1 + max 0 (cap * ((rowR cap lost mine a d).2 : Int) - lost), 0)
theorem slotS_rowR (cap lost : Int) (mine : Nat → Bool) (a : Nat) : ∀ d : Nat, slotS cap lost mine a d = ((rowR cap lost mine a d).1, cap * ((rowR cap lost mine a d).2 : Int))
  | 0 => by simp [slotS, rowR]
  | d + 1 => by
    simp only [slotS, rowR, slotS_rowR cap lost mine a d]
    split
    · have : cap * (((rowR cap lost mine a d).2 + 1 : Nat) : Int) = cap * ((rowR cap lost mine a d).2 : Int) + cap := by rw [Int.natCast_add, Int.mul_add]; simp
      rw [this]
    · simp
theorem rowR_le (cap lost : Int) (mine : Nat → Bool) (a : Nat) : ∀ d : Nat, (rowR cap lost mine a d).2 ≤ d
  | 0 => Nat.le_refl _
  | d + 1 => by
    have := rowR_le cap lost mine a d
    simp only [rowR]
    split <;> (dsimp only; omega)
/-- the reference's sums when i ticks have been looked at -/
def crow (cap lost : Int) (mine : Nat → Bool) (a k i : Nat) : Int × Nat := if i ≤ k then rowR cap lost mine a i else (cntS cap lost mine a k, 0)
theorem cntS_rowR (cap lost : Int) (mine : Nat → Bool) (a k : Nat) : cntS cap lost mine a k = (rowR cap lost mine a k).1 + max 0 (cap * ((rowR cap lost mine a k).2 : Int) - lost) := by
  unfold cntS
  rw [slotS_rowR]
/-- a class that may have all ticks -/
def allN (tb : List Int) (cls : Int) : Nat → Bool
  | 0 => true
  | k + 1 => allN tb cls k && mineT tb cls k
theorem allN_iff {tb : List Int} {cls : Int} : ∀ {k : Nat}, k ≤ tb.length → (allN tb cls k = true ↔ ∀ i, i < k → nth tb i = cls)
  | 0, _ => by simp [allN]
  | k + 1, h => by
    have ih := allN_iff (tb := tb) (cls := cls) (k := k) (by omega)
    have e : mineT tb cls k = (nth tb k == cls) := by unfold mineT slotT; rw [Nat.mod_eq_of_lt (by omega)]
    simp only [allN, Bool.and_eq_true, ih, e, beq_iff_eq]
    constructor
    · rintro ⟨h1, h2⟩ i hi
      by_cases hk : i = k
      · subst hk; exact h2
      · exact h1 i (by omega)
    · intro h1
      exact ⟨fun i hi => h1 i (by omega), h1 k (by omega)⟩
theorem allN_all (tb : List Int) (cls : Int) : allN tb cls tb.length = allT cls tb := by
  rw [Bool.eq_iff_iff, allN_iff (Nat.le_refl _), allT_iff]
theorem lower_line {cap lost : Int} (hc : 1 ≤ cap ∧ cap ≤ 4000) (hl : 0 ≤ lost) : validB ⟨[0], 1, cap⟩ = true ∧ lowerR ⟨[0], 1, cap⟩ lost = if 400 * cap < lost then (zcv, 3) else madeR ⟨fvals (lineF cap lost) 401, 1, cap⟩ := by
  have hfc := fc_line (c := cap) (by omega)
  have e0 : fvals (fun t : Nat => cap * (t : Int)) (0 + 1) = [0] := by simp [fvals]
  have hv := hfc.valid'
  rw [e0] at hv
  have hn : normR ⟨[0], 1, cap⟩ = ⟨[0], 1, cap⟩ := by
    obtain ⟨s, p, q, h1, h2, h3, h4, _, h6⟩ := hfc.norm
    have hp := h2.hP
    obtain rfl : s = 0 := by omega
    obtain rfl : p = 1 := by omega
    rw [e0] at h1
    have hq : q = cap := by rw [h6]; simp
    rw [hq] at h1
    exact h1
  have hcv : cvF ⟨[0], 1, cap⟩ = fun t : Nat => cap * (t : Int) := by
    have := cvF_fc hfc
    rw [e0] at this; exact this
  have hfb : finB ⟨[0], 1, cap⟩ = true := rfl
  refine ⟨hv, ?_⟩
  unfold lowerR
  rw [hn, hcv]
  dsimp only
  have ep : (1 : Int).toNat = 1 := rfl
  rw [ep, show 400 + 1 = 401 from rfl]
  have ef : lowF ⟨[0], 1, cap⟩ lost = lineF cap lost := funext fun t => by
    unfold lowF lineF
    rw [if_neg (fun h => by have := h.1; rw [hfb] at this; cases this), hcv]
  rw [ef]
  by_cases h : 400 * cap < lost
  · rw [if_pos h, if_pos ⟨hfb, by (show 0 < cap); omega, by (show cap * ((400 : Nat) : Int) < lost); omega⟩]
  · rw [if_neg h, if_neg (fun hh => h (by have h2 : cap * ((400 : Nat) : Int) < lost := hh.2.2; omega))]
end Go.Proofs.Ytnaeefefggmomaa.M

/- Any valid curve: what the references make of it. No condition. -/
set_option linter.unusedSimpArgs false
set_option linter.unusedVariables false
namespace Go.Proofs.Ytnaeefefggmomaa
open Go Go.RowKit Go.Proofs.Ytnaeefefggmomaa.K Go.Proofs.Ytnaeefefggmomaa.M

theorem AtG_V {R : Ro} {fa : Option Addr} {fc : Nat} {c : Cv} (hv : validB c = true) (ha : RS R 1 encI fa c.vals) {t : Nat} (ht : t ≤ 1000000000) : FnV Try.prog 39 [.agg #[.slice fa c.vals.length fc, .int .i64 c.per, .int .i64 c.inc], .int .i64 (t : Int)] R (.int .i64 (cvF c t)) := by
  obtain ⟨h1, h2, h3, h4, h5, h6, h7, h8⟩ := valid_range hv
  exact At_V ha (by constructor <;> omega) ⟨by constructor <;> omega, by omega⟩ (by omega) h1
theorem ValidG_V {R : Ro} {fa : Option Addr} {fc : Nat} {c : Cv} (hv : validB c = true) (ha : RS R 1 encI fa c.vals) : FnV Try.prog 66 [.agg #[.slice fa c.vals.length fc, .int .i64 c.per, .int .i64 c.inc]] R (.bool true) := by
  obtain ⟨h1, h2, h3, h4, h5, h6, h7, h8⟩ := valid_range hv
  have h := Valid_V (c := fc) (per := c.per) (inc := c.inc) ha (by constructor <;> omega) (by constructor <;> omega) h1
  rw [show validB ⟨c.vals, c.per, c.inc⟩ = true from hv] at h
  exact h
theorem MadeG_C {R : Ro} {a : Option Addr} {cc : Nat} {v : List Int} {per inc : Int} (ha : RS R 1 encI a v) (hl : v.length ≤ 100000) (hok : MadeOk v per inc) (hac : v.length ≤ cc) (w0 : World) (E : List Ent) : K.Fn Try.prog 86 [.agg #[.slice a v.length cc, .int .i64 per, .int .i64 inc]] w0 R E (fun r R' E' => ∃ (f : Option Addr) (fc : Nat), r = cvV f fc (madeR ⟨v, per, inc⟩) ∧ RS R' 1 encI f (madeR ⟨v, per, inc⟩).1.vals ∧ E.Sublist E') :=
  Made_C ha ⟨hl, hok.hper.2.2⟩ (fun _ => hac) ⟨hok.hper.1, by have := hok.hper; omega⟩ hok.hinc hok.vals hok.self hok.at_ hok.nb w0 E

theorem Normal02_C {R : Ro} {fa : Option Addr} {fc : Nat} {c : Cv} (hv : validB c = true) (ha : RS R 1 encI fa c.vals) (hcap : c.vals.length ≤ fc) (w0 : World) (E : List Ent) : K.Fn Try.prog 131 [.agg #[.slice fa c.vals.length fc, .int .i64 c.per, .int .i64 c.inc]] w0 R E (fun r R' E' => ∃ (f : Option Addr) (fc : Nat), r = cvV f fc (normR c, 0) ∧ RS R' 1 encI f (normR c).vals ∧ E.Sublist E') := by
  obtain ⟨h1, h2, h3, h4, h5, h6, h7, h8⟩ := valid_range hv
  have hok := valid_madeOk hv
  refine Fn.enter (n := 10) Try.func131 rfl rfl (Nat.le_of_ble_eq_true rfl) rfl ?_
  refine W.seq ?_
  refine W.region _ ?_
  refine WL.ef rfl rfl (by decide) (Ef.box rfl rfl (fun b1 => ?_))
  refine WL.ef rfl rfl (by decide) (Ef.alloc tab_ok rfl rfl (fun b2 => ?_))
  refine WG.run tab_ok 1 rfl ?_
  refine WG.nil ?_
  refine WE.nxt ?_
  refine W.seq ?_
  refine W.seq ?_
  refine W.region _ ?_
  refine' WG.y rfl rfl (by decide) (Yl.load1 tab_ok rfl rfl rfl (fun _ => rfl) ?r1 rfl ?h1) ?_
  case r1 => (first | exact Rd.blk 0 rfl | exact Rd.blk 1 rfl | exact Rd.blk 2 rfl | exact Rd.blk 3 rfl)
  case h1 => rfl
  refine WG.callV (v := .bool true) en66 rfl rfl (by decide) (CallOp.mk' rfl rfl rfl rfl) (fun _ => rfl) (fun hg => ValidG_V hv ha) ?_
  refine WG.run tab_ok 1 rfl ?_
  refine WG.nil ?_
  refine WE.nxt ?_
  refine W.cond rfl (fun hc0 => ?_) (fun hc0 => ?_)
  · try simp only [decide_eq_true_eq, decide_eq_false_iff_not, beq_iff_eq, bne_iff_ne, beq_eq_false_iff_ne, bne_eq_false_iff_eq, ne_eq, Bool.or_eq_true, Bool.or_eq_false_iff, Bool.and_eq_true, Bool.and_eq_false_imp, Bool.not_eq_true, Bool.not_eq_true', Bool.not_eq_false', Classical.not_not, Int.not_lt, Int.not_le, gt_iff_lt, ge_iff_le] at hc0
    first | (simp at hc0; done) | exact absurd hc0 (by decide)
  · try simp only [decide_eq_true_eq, decide_eq_false_iff_not, beq_iff_eq, bne_iff_ne, beq_eq_false_iff_ne, bne_eq_false_iff_eq, ne_eq, Bool.or_eq_true, Bool.or_eq_false_iff, Bool.and_eq_true, Bool.and_eq_false_imp, Bool.not_eq_true, Bool.not_eq_true', Bool.not_eq_false', Classical.not_not, Int.not_lt, Int.not_le, gt_iff_lt, ge_iff_le] at hc0
    refine W.skip ?_
    refine WE.nxt ?_
    refine W.seq ?_
    refine W.region _ ?_
    refine' WG.y rfl rfl (by decide) (Yl.load1 tab_ok rfl rfl rfl (fun _ => rfl) ?r2 rfl ?h2) ?_
    case r2 => (first | exact Rd.blk 0 rfl | exact Rd.blk 1 rfl | exact Rd.blk 2 rfl | exact Rd.blk 3 rfl)
    case h2 => rfl
    refine WL.call en133 rfl rfl (by decide) (CallOp.mkT rfl rfl rfl rfl) (Least02_C ha ⟨by omega, by omega⟩ (fun _ => hcap) ⟨by omega, by omega⟩ hok.hinc hok.vals hok.self hok.at_ w0 _) ?_
    rintro _ R1 E1 hR1 ⟨f, fc2, rfl, hf, hsub⟩
    refine WL.subE hsub ?_
    unfold cuV
    first | refine WL.efN rfl rfl (Ef.store0 0 tab_ok rfl rfl rfl rfl rfl rfl rfl rfl ?_) | refine WL.efN rfl rfl (Ef.store0 1 tab_ok rfl rfl rfl rfl rfl rfl rfl rfl ?_) | refine WL.efN rfl rfl (Ef.store0 2 tab_ok rfl rfl rfl rfl rfl rfl rfl rfl ?_) | refine WL.efN rfl rfl (Ef.store0 3 tab_ok rfl rfl rfl rfl rfl rfl rfl rfl ?_)
    refine WG.run tab_ok 1 rfl ?_
    refine WG.nil ?_
    refine WE.nxt ?_
    refine W.ret ?_
    refine WE.retF tab_ok [_, _] rfl ⟨⟨_, _, _, rfl, rfl, rfl, ((by first | exact Rd.blk 0 rfl | exact Rd.blk 1 rfl | exact Rd.blk 2 rfl | exact Rd.blk 3 rfl)), rfl⟩, rfl, trivial⟩ (hR1) ?_
    exact ⟨f, fc2, rfl, hf, (by (repeat (first | exact List.Sublist.refl _ | exact List.nil_sublist _ | apply List.Sublist.cons_cons | apply List.Sublist.cons)); done)⟩

theorem FiniteG_V {R : Ro} {fa : Option Addr} {fc : Nat} {c : Cv} (hv : validB c = true) (ha : RS R 1 encI fa c.vals) : FnV Try.prog 132 [.agg #[.slice fa c.vals.length fc, .int .i64 c.per, .int .i64 c.inc]] R (.bool (finB c)) := by
  refine Fn.toV (fun w0 E => ?_)
  obtain ⟨h1, h2, h3, h4, h5, h6, h7, h8⟩ := valid_range hv
  have hl : ((c.vals.length : Int) - 1).toNat = c.vals.length - 1 := by omega
  refine Fn.enter (n := 16) Try.func132 rfl rfl (Nat.le_of_ble_eq_true rfl) rfl ?_
  refine W.seq ?_
  refine W.region _ ?_
  refine WL.ef rfl rfl (by decide) (Ef.box rfl rfl (fun b1 => ?_))
  refine WG.run tab_ok 1 rfl ?_
  refine WG.nil ?_
  refine WE.nxt ?_
  refine W.seq ?_
  refine W.region _ ?_
  refine' WG.y rfl rfl (by decide) (Yl.load1 tab_ok rfl rfl rfl (fun _ => rfl) ?r1 rfl ?h1) ?_
  case r1 => (first | exact Rd.blk 0 rfl | exact Rd.blk 1 rfl)
  case h1 => rfl
  refine WG.callV (v := .bool true) en66 rfl rfl (by decide) (CallOp.mk' rfl rfl rfl rfl) (fun _ => rfl) (fun hg => ValidG_V hv ha) ?_
  refine WG.run tab_ok 1 rfl ?_
  refine WL.guardT rfl (by rfl) ?_
  refine WG.y rfl rfl (by decide) (pureV_ok tab_ok rfl (fun _ => rfl)) ?_
  refine WL.guardT rfl (by rfl) ?_
  refine' WG.y rfl rfl (by decide) (Yl.load1 tab_ok rfl rfl rfl (fun _ => rfl) ?r2 rfl ?h2) ?_
  case r2 => apply Rd.add; (first | exact Rd.blk 0 rfl | exact Rd.blk 1 rfl)
  case h2 => rfl
  refine WL.guardT rfl (by rfl) ?_
  refine WG.y rfl rfl (by decide) (pureV_ok tab_ok rfl (fun _ => rfl)) ?_
  refine WL.guardT rfl (by rfl) ?_
  refine' WG.y rfl rfl (by decide) (Yl.load1 tab_ok rfl rfl rfl (fun _ => rfl) ?r3 rfl ?h3) ?_
  case r3 => apply Rd.add; (first | exact Rd.blk 0 rfl | exact Rd.blk 1 rfl)
  case h3 => rfl
  refine WL.guardT rfl (by rfl) ?_
  refine WG.y rfl rfl (by decide) (pureV_ok tab_ok rfl (fun _ => rfl)) ?_
  refine WL.guardT rfl (by rfl) ?_
  refine WG.y rfl rfl (by decide) (Yl.sub rfl rfl rfl (fun _ => rfl) (by intro _; constructor <;> (try dsimp only) <;> omega)) ?_
  refine WL.guardT rfl (by rfl) ?_
  refine WG.y rfl rfl (by decide) (Yl.index tab_ok rfl rfl rfl rfl rfl rfl (fun _ => rfl) (by intro _; constructor <;> (try dsimp only) <;> omega) (by intro _; first | exact fun _ _ _ _ => rfl | exact RS.has (by assumption) | exact fun _ _ _ _ => (by assumption) | exact HasMem.ownD 0 rfl | exact HasMem.ownD 1 rfl)) ?_
  refine WL.guardT rfl (by rfl) ?_
  refine' WG.y rfl rfl (by decide) (Yl.load1 tab_ok rfl rfl rfl (fun _ => rfl) ?r4 rfl ?h4) ?_
  case r4 => (first | (apply RS.rdD; assumption; ((try dsimp only) <;> omega)) | exact Rd.slD 0 rfl (by (try dsimp only) <;> omega) | exact Rd.slD 1 rfl (by (try dsimp only) <;> omega))
  case h4 => rfl
  refine WL.guardT rfl (by rfl) ?_
  refine WG.y rfl rfl (by decide) (pureV_ok tab_ok rfl (fun _ => rfl)) ?_
  refine WG.y rfl rfl (by decide) (Yl.pand rfl rfl rfl (fun _ => rfl) (by intro h1 h2; simp_all <;> omega)) ?_
  refine WG.run tab_ok 1 rfl ?_
  refine WG.nil ?_
  refine WE.nxt ?_
  refine W.ret ?_
  refine WE.subE (E' := E) (by (repeat (first | exact List.Sublist.refl _ | exact List.nil_sublist _ | apply List.Sublist.cons_cons | apply List.Sublist.cons)); done) ?_
  refine WE.retF tab_ok [_] rfl ⟨rfl, trivial⟩ (RLe.refl _) ?_
  exact ⟨by rw [hl]; rfl, rfl⟩

theorem Lower05_C {R : Ro} {fa : Option Addr} {fc : Nat} {c : Cv} (hv : validB c = true) (ha : RS R 1 encI fa c.vals) (hcap : c.vals.length ≤ fc) {k : Int} (hk : 0 ≤ k ∧ k ≤ 1073741824) (w0 : World) (E : List Ent) : K.Fn Try.prog 84 [.agg #[.slice fa c.vals.length fc, .int .i64 c.per, .int .i64 c.inc], .int .i64 k] w0 R E (fun r R' E' => ∃ (f : Option Addr) (fc : Nat), r = cvV f fc (lowerR c k) ∧ RS R' 1 encI f (lowerR c k).1.vals ∧ E.Sublist E') := by
  refine Fn.enter (n := 72) Try.func84 rfl rfl (Nat.le_of_ble_eq_true rfl) rfl ?_
  refine W.seq ?_
  refine W.region _ ?_
  refine WL.ef rfl rfl (by decide) (Ef.box rfl rfl (fun b2 => ?_))
  refine WL.ef rfl rfl (by decide) (Ef.alloc tab_ok rfl rfl (fun b4 => ?_))
  refine WG.run tab_ok 1 rfl ?_
  refine WG.nil ?_
  refine WE.nxt ?_
  refine W.seq ?_
  refine W.region _ ?_
  refine' WG.y rfl rfl (by decide) (Yl.load1 tab_ok rfl rfl rfl (fun _ => rfl) ?r1 rfl ?h1) ?_
  case r1 => (first | exact Rd.blk 0 rfl | exact Rd.blk 1 rfl | exact Rd.blk 2 rfl | exact Rd.blk 3 rfl | exact Rd.blk 4 rfl)
  case h1 => rfl
  refine WL.call en131 rfl rfl (by decide) (CallOp.mkT rfl rfl rfl rfl) (Normal02_C hv ha hcap w0 _) ?_
  rintro _ R1 E1 hR1 ⟨fn, fnc, rfl, hfn, hsub⟩
  refine WL.subE hsub ?_
  unfold cvV
  obtain ⟨hnv, hncv, hnl, _, _⟩ := norm_valid hv
  generalize hN : normR c = n at hfn hnv hncv hnl ⊢
  obtain ⟨h1, h2, h3, h4, h5, h6, h7, h8⟩ := valid_range hnv
  refine WG.run tab_ok 3 rfl ?_
  refine WL.ef rfl rfl (by decide) (Ef.alloc tab_ok rfl rfl (fun b6 => ?_))
  first | refine WL.efN rfl rfl (Ef.store0 0 tab_ok rfl rfl rfl rfl rfl rfl rfl rfl ?_) | refine WL.efN rfl rfl (Ef.store0 1 tab_ok rfl rfl rfl rfl rfl rfl rfl rfl ?_) | refine WL.efN rfl rfl (Ef.store0 2 tab_ok rfl rfl rfl rfl rfl rfl rfl rfl ?_) | refine WL.efN rfl rfl (Ef.store0 3 tab_ok rfl rfl rfl rfl rfl rfl rfl rfl ?_) | refine WL.efN rfl rfl (Ef.store0 4 tab_ok rfl rfl rfl rfl rfl rfl rfl rfl ?_)
  refine WG.run tab_ok 1 rfl ?_
  refine WG.nil ?_
  refine WE.nxt ?_
  refine W.seq ?_
  refine W.seq ?_
  refine W.region _ ?_
  refine WG.run tab_ok 2 rfl ?_
  refine WG.nil ?_
  refine WE.nxt ?_
  refine W.condN rfl (fun hc0 => ?_) (fun hc0 => ?_)
  · try dsimp only at hc0
    first | done | exact absurd rfl hc0 | (simp at hc0; done)
  · try dsimp only at hc0
    refine W.skip ?_
    refine WE.nxt ?_
    refine W.seq ?_
    refine W.seq ?_
    refine W.region _ ?_
    refine WG.run tab_ok 3 rfl ?_
    refine WG.y rfl rfl (by decide) (pureV_ok tab_ok rfl (by first | exact fun _ => rfl | exact fun h => h | (intro h; simp_all))) ?_
    refine WG.y rfl rfl (by decide) (pureV_ok tab_ok rfl (by first | exact fun _ => rfl | exact fun h => h | (intro h; simp_all))) ?_
    refine WG.y rfl rfl (by decide) (Yl.por rfl rfl rfl (fun _ => rfl) (by intro h1 h2; simp_all <;> omega)) ?_
    refine WG.nil ?_
    refine WE.nxt ?_
    refine W.cond rfl (fun hc1 => ?_) (fun hc1 => ?_)
    · try simp only [decide_eq_true_eq, decide_eq_false_iff_not, beq_iff_eq, bne_iff_ne, beq_eq_false_iff_ne, bne_eq_false_iff_eq, ne_eq, Bool.or_eq_true, Bool.or_eq_false_iff, Bool.and_eq_true, Bool.and_eq_false_imp, Bool.not_eq_true, Bool.not_eq_true', Bool.not_eq_false', Classical.not_not, Int.not_lt, Int.not_le, gt_iff_lt, ge_iff_le] at hc1
      omega
    · try simp only [decide_eq_true_eq, decide_eq_false_iff_not, beq_iff_eq, bne_iff_ne, beq_eq_false_iff_ne, bne_eq_false_iff_eq, ne_eq, Bool.or_eq_true, Bool.or_eq_false_iff, Bool.and_eq_true, Bool.and_eq_false_imp, Bool.not_eq_true, Bool.not_eq_true', Bool.not_eq_false', Classical.not_not, Int.not_lt, Int.not_le, gt_iff_lt, ge_iff_le] at hc1
      refine W.skip ?_
      refine WE.nxt ?_
      refine W.seq ?_
      refine W.seq ?_
      refine W.region _ ?_
      refine' WG.y rfl rfl (by decide) (Yl.load1 tab_ok rfl rfl rfl (fun _ => rfl) ?r2 rfl ?h2) ?_
      case r2 => (first | exact Rd.blk 0 rfl | exact Rd.blk 1 rfl | exact Rd.blk 2 rfl | exact Rd.blk 3 rfl | exact Rd.blk 4 rfl)
      case h2 => rfl
      refine WG.callV en132 rfl rfl (by decide) (CallOp.mk' rfl rfl rfl rfl) (fun _ => rfl) (fun hg => FiniteG_V hnv hfn) ?_
      refine WG.run tab_ok 1 rfl ?_
      refine WG.y rfl rfl (by decide) (pureV_ok tab_ok rfl (by first | exact fun _ => rfl | exact fun h => h | (intro h; simp_all))) ?_
      refine' WG.y rfl rfl (by decide) (Yl.loadG tab_ok rfl rfl rfl (by first | exact fun _ => rfl | exact fun h => h | (intro h; simp_all)) ?r3 rfl ?h3 ?g3) ?_
      case r3 => apply Rd.addC; (first | exact Rd.blkC 0 rfl | exact Rd.blkC 1 rfl | exact Rd.blkC 2 rfl | exact Rd.blkC 3 rfl | exact Rd.blkC 4 rfl)
      case h3 => rfl
      case g3 => first | exact fun _ => trivial | (intro hg; (try simp only [decide_eq_true_eq, decide_eq_false_iff_not, beq_iff_eq, bne_iff_ne, beq_eq_false_iff_ne, bne_eq_false_iff_eq, ne_eq, Bool.or_eq_true, Bool.or_eq_false_iff, Bool.and_eq_true, Bool.and_eq_false_imp, Bool.not_eq_true, Bool.not_eq_true', Bool.not_eq_false', Classical.not_not, Int.not_lt, Int.not_le, gt_iff_lt, ge_iff_le] at hg); (try dsimp only); omega)
      refine WG.y rfl rfl (by decide) (pureV_ok tab_ok rfl (by first | exact fun _ => rfl | exact fun h => h | (intro h; simp_all))) ?_
      refine WG.y rfl rfl (by decide) (Yl.pand rfl rfl rfl (fun _ => rfl) (by intro h1 h2; simp_all <;> omega)) ?_
      refine WG.run tab_ok 1 rfl ?_
      refine' WG.y rfl rfl (by decide) (Yl.loadG tab_ok rfl rfl rfl (by first | exact fun _ => rfl | exact fun h => h | (intro h; simp_all)) ?r4 rfl ?h4 ?g4) ?_
      case r4 => (first | exact Rd.blkC 0 rfl | exact Rd.blkC 1 rfl | exact Rd.blkC 2 rfl | exact Rd.blkC 3 rfl | exact Rd.blkC 4 rfl)
      case h4 => rfl
      case g4 => first | exact fun _ => trivial | (intro hg; (try simp only [decide_eq_true_eq, decide_eq_false_iff_not, beq_iff_eq, bne_iff_ne, beq_eq_false_iff_ne, bne_eq_false_iff_eq, ne_eq, Bool.or_eq_true, Bool.or_eq_false_iff, Bool.and_eq_true, Bool.and_eq_false_imp, Bool.not_eq_true, Bool.not_eq_true', Bool.not_eq_false', Classical.not_not, Int.not_lt, Int.not_le, gt_iff_lt, ge_iff_le] at hg); (try dsimp only); omega)
      refine WG.callV (v := .int .i64 (cvF n 400)) en39 rfl rfl (by decide) (CallOp.mk' rfl rfl rfl rfl) (by first | exact fun _ => rfl | exact fun h => h | (intro h; simp_all)) (fun hg => by have h := AtG_V (fc := fnc) hnv hfn (t := 400) (by decide); exact h) ?_
      refine WG.y rfl rfl (by decide) (pureV_ok tab_ok rfl (by first | exact fun _ => rfl | exact fun h => h | (intro h; simp_all))) ?_
      refine WG.y rfl rfl (by decide) (pureV_ok tab_ok rfl (by first | exact fun _ => rfl | exact fun h => h | (intro h; simp_all))) ?_
      refine WG.y rfl rfl (by decide) (Yl.pand rfl rfl rfl (fun _ => rfl) (by intro h1 h2; simp_all <;> omega)) ?_
      refine WG.nil ?_
      refine WE.nxt ?_
      refine W.cond rfl (fun hc2 => ?_) (fun hc2 => ?_)
      · try simp only [decide_eq_true_eq, decide_eq_false_iff_not, beq_iff_eq, bne_iff_ne, beq_eq_false_iff_ne, bne_eq_false_iff_eq, ne_eq, Bool.or_eq_true, Bool.or_eq_false_iff, Bool.and_eq_true, Bool.and_eq_false_imp, Bool.not_eq_true, Bool.not_eq_true', Bool.not_eq_false', Classical.not_not, Int.not_lt, Int.not_le, gt_iff_lt, ge_iff_le] at hc2
        have hlr : lowerR c k = (zcv, 3) := by unfold lowerR; rw [hN]; exact if_pos ⟨hc2.1.1, hc2.1.2, hc2.2⟩
        refine W.seq ?_
        refine W.region _ ?_
        -- build
        refine WG.y rfl rfl (by decide) (Yl.build (parts := []) tab_ok rfl rfl rfl rfl (fun _ => rfl) rfl rfl) ?_
        first | refine WL.efN rfl rfl (Ef.store0 0 tab_ok rfl rfl rfl rfl rfl rfl rfl rfl ?_) | refine WL.efN rfl rfl (Ef.store0 1 tab_ok rfl rfl rfl rfl rfl rfl rfl rfl ?_) | refine WL.efN rfl rfl (Ef.store0 2 tab_ok rfl rfl rfl rfl rfl rfl rfl rfl ?_) | refine WL.efN rfl rfl (Ef.store0 3 tab_ok rfl rfl rfl rfl rfl rfl rfl rfl ?_) | refine WL.efN rfl rfl (Ef.store0 4 tab_ok rfl rfl rfl rfl rfl rfl rfl rfl ?_)
        refine WG.run tab_ok 1 rfl ?_
        refine WG.nil ?_
        refine WE.nxt ?_
        refine W.ret ?_
        refine WE.then_ret ?_
        refine WE.retF tab_ok [_, _] rfl ⟨⟨_, _, _, rfl, rfl, rfl, ((by first | exact Rd.blk 0 rfl | exact Rd.blk 1 rfl | exact Rd.blk 2 rfl | exact Rd.blk 3 rfl | exact Rd.blk 4 rfl)), rfl⟩, rfl, trivial⟩ ((by first | exact hR1.trans (hR2.trans hR4) | exact hR1 | exact RLe.refl _)) ?_
        exact ⟨none, 0, by rw [hlr]; rfl, by rw [hlr]; exact rs_nil, (by (repeat (first | exact List.Sublist.refl _ | exact List.nil_sublist _ | apply List.Sublist.cons_cons | apply List.Sublist.cons)); done)⟩
      · try simp only [decide_eq_true_eq, decide_eq_false_iff_not, beq_iff_eq, bne_iff_ne, beq_eq_false_iff_ne, bne_eq_false_iff_eq, ne_eq, Bool.or_eq_true, Bool.or_eq_false_iff, Bool.and_eq_true, Bool.and_eq_false_imp, Bool.not_eq_true, Bool.not_eq_true', Bool.not_eq_false', Classical.not_not, Int.not_lt, Int.not_le, gt_iff_lt, ge_iff_le] at hc2
        have hno : ¬ (finB n = true ∧ 0 < n.inc ∧ cvF n 400 < k) := fun h => by first | exact hc2 ⟨⟨h.1, h.2.1⟩, h.2.2⟩ | (have := hc2 ⟨h.1, h.2.1⟩; omega) | (have := hc2 h.1 h.2.1; omega)
        have hlr : lowerR c k = madeR ⟨fvals (lowF n k) (400 + n.per.toNat), n.per, n.inc⟩ := by unfold lowerR; rw [hN]; exact if_neg hno
        obtain ⟨P, hP⟩ := Int.eq_ofNat_of_zero_le (show 0 ≤ n.per by omega)
        refine W.skip ?_
        refine WE.nxt ?_
        refine W.seq ?_
        refine W.region _ ?_
        refine WG.run tab_ok 1 rfl ?_
        refine' WG.y rfl rfl (by decide) (Yl.load1 tab_ok rfl rfl rfl (fun _ => rfl) ?r5 rfl ?h5) ?_
        case r5 => apply Rd.add; (first | exact Rd.blk 0 rfl | exact Rd.blk 1 rfl | exact Rd.blk 2 rfl | exact Rd.blk 3 rfl | exact Rd.blk 4 rfl)
        case h5 => rfl
        refine WG.run tab_ok 1 rfl ?_
        refine' WG.y rfl rfl (by decide) (Yl.load1 tab_ok rfl rfl rfl (fun _ => rfl) ?r6 rfl ?h6) ?_
        case r6 => apply Rd.add; (first | exact Rd.blk 0 rfl | exact Rd.blk 1 rfl | exact Rd.blk 2 rfl | exact Rd.blk 3 rfl | exact Rd.blk 4 rfl)
        case h6 => rfl
        -- build
        refine WG.y rfl rfl (by decide) (Yl.build (parts := [(1, .tmp 42), (2, .tmp 44)]) tab_ok rfl rfl rfl rfl (fun _ => rfl) rfl rfl) ?_
        refine WL.ef rfl rfl (by decide) (Ef.alloc tab_ok rfl rfl (fun b8 => ?_))
        first | refine WL.efN rfl rfl (Ef.store0 0 tab_ok rfl rfl rfl rfl rfl rfl rfl rfl ?_) | refine WL.efN rfl rfl (Ef.store0 1 tab_ok rfl rfl rfl rfl rfl rfl rfl rfl ?_) | refine WL.efN rfl rfl (Ef.store0 2 tab_ok rfl rfl rfl rfl rfl rfl rfl rfl ?_) | refine WL.efN rfl rfl (Ef.store0 3 tab_ok rfl rfl rfl rfl rfl rfl rfl rfl ?_) | refine WL.efN rfl rfl (Ef.store0 4 tab_ok rfl rfl rfl rfl rfl rfl rfl rfl ?_)
        refine WG.nil ?_
        refine WE.nxt ?_
        refine W.seq ?_
        refine W.nil 3 1 (by decide) ?_
        refine W.seq ?_
        refine W.region _ ?_
        refine WG.run tab_ok 1 rfl ?_
        refine WG.nil ?_
        refine WE.nxt ?_
        refine W.block ?_
        refine W.loopK (β := Nat × Option Addr × Nat) (fun (t, a9, c9) => t ≤ 400 + n.per.toNat) (fun (t, a9, c9) => [(9, true, .int .i64 (t : Int))]) [1, 4, 6, 8] [_, _, _, _] [] _ rfl (fun (t, a9, c9) => [(0, .sl 3 1 a9 c9 ((fvals (lowF n k) t).map encI)), (1, .blk b8 [.slice a9 (fvals (lowF n k) t).length c9, .int .i64 n.per, .int .i64 n.inc])]) (fun (t, a9, c9) => 400 + n.per.toNat - t) ((0, none, 0)) (Nat.zero_le _) ⟨rfl, rfl, rfl, rfl, rfl, rfl⟩ (by (repeat (first | exact List.Sublist.refl _ | exact List.nil_sublist _ | apply List.Sublist.cons_cons | apply List.Sublist.cons)); done) ?_
        intro st hst
        obtain ⟨t, a9, c9⟩ := st
        dsimp only [zipE, setAll, List.cons_append, List.nil_append, List.set_cons_zero, List.set_cons_succ] at hst ⊢
        have hfl := fvals_len (lowF n k) t
        refine W.seq ?_
        refine W.seq ?_
        refine W.region _ ?_
        refine WG.run tab_ok 2 rfl ?_
        refine' WG.y rfl rfl (by decide) (Yl.load1 tab_ok rfl rfl rfl (fun _ => rfl) ?r7 rfl ?h7) ?_
        case r7 => apply Rd.add; (first | exact Rd.blk 0 rfl | exact Rd.blk 1 rfl | exact Rd.blk 2 rfl | exact Rd.blk 3 rfl | exact Rd.blk 4 rfl)
        case h7 => rfl
        refine WG.y rfl rfl (by decide) (Yl.add rfl rfl rfl (fun _ => rfl) (by intro _; constructor <;> (try dsimp only) <;> omega)) ?_
        refine WG.run tab_ok 1 rfl ?_
        refine WG.nil ?_
        refine WE.nxt ?_
        refine W.condD rfl (fun hc3 => ?_) (fun hc3 => ?_)
        · try dsimp only at hc3
          have htp : t < 400 + n.per.toNat := by omega
          have hcb := cvF_bound hnv t
          have hinf := isInf_iff hnv (t := t) (by omega)
          refine W.skip ?_
          refine WE.nxt ?_
          refine W.seq ?_
          refine W.block ?_
          refine W.seq ?_
          refine W.region _ ?_
          refine' WG.y rfl rfl (by decide) (Yl.load1 tab_ok rfl rfl rfl (fun _ => rfl) ?r8 rfl ?h8) ?_
          case r8 => (first | exact Rd.blk 0 rfl | exact Rd.blk 1 rfl | exact Rd.blk 2 rfl | exact Rd.blk 3 rfl | exact Rd.blk 4 rfl)
          case h8 => rfl
          refine WG.run tab_ok 1 rfl ?_
          refine WG.callV en39 rfl rfl (by decide) (CallOp.mk' rfl rfl rfl rfl) (fun _ => rfl) (fun hg => AtG_V hnv hfn (by omega)) ?_
          refine WG.run tab_ok 1 rfl ?_
          refine WG.nil ?_
          refine WE.nxt ?_
          refine W.seq ?_
          refine W.seq ?_
          refine W.region _ ?_
          refine WG.run tab_ok 2 rfl ?_
          refine WG.nil ?_
          refine WE.nxt ?_
          refine W.condN rfl (fun hc4 => ?_) (fun hc4 => ?_)
          · try dsimp only at hc4
            have hlo : lowF n k t = max 0 (cvF n t - k) := if_neg (fun h => hc4 (hinf.1 h))
            have hb2 : cvF n t ≤ 1073741824 * ((t : Int) + 2) := hcb.2.resolve_left hc4
            have hmx : (if (0 : Int) < cvF n t - k then cvF n t - k else 0) = lowF n k t := by rw [hlo]; split <;> omega
            have e1 : fvals (lowF n k) (t + 1) = fvals (lowF n k) t ++ [if (0 : Int) < cvF n t - k then cvF n t - k else 0] := by rw [fvals_snoc, hmx]
            refine W.region _ ?_
            refine WG.run tab_ok 2 rfl ?_
            refine WG.y rfl rfl (by decide) (Yl.sub rfl rfl rfl (fun _ => rfl) (by intro _; constructor <;> (try dsimp only) <;> omega)) ?_
            refine WG.run tab_ok 2 rfl ?_
            refine WG.nil ?_
            refine WE.nxt ?_
            refine W.region _ ?_
            refine WG.run tab_ok 1 rfl ?_
            refine' WG.y rfl rfl (by decide) (Yl.load1 tab_ok rfl rfl rfl (fun _ => rfl) ?r9 rfl ?h9) ?_
            case r9 => apply Rd.add; (first | exact Rd.blk 0 rfl | exact Rd.blk 1 rfl | exact Rd.blk 2 rfl | exact Rd.blk 3 rfl | exact Rd.blk 4 rfl)
            case h9 => rfl
            refine WG.run tab_ok 1 rfl ?_
            refine WL.ef rfl rfl (by decide) (Ef.buildSliceD (enc := encI) (parts := [.tmp 64]) [_] tab_ok rfl rfl rfl rfl rfl rfl rfl rfl (by decide) (by decide) (fun a65 => ?_))
            first | refine WL.ef rfl rfl (by decide) (Ef.appendD 1 0 tab_ok rfl rfl rfl rfl rfl rfl rfl rfl rfl rfl rfl (fun _ _ => rfl) (by simp only [List.length_cons, List.length_nil]; omega) (by simp only [List.length_cons, List.length_nil]; omega) (fun a66 c66 ha66 => ?_)) | refine WL.ef rfl rfl (by decide) (Ef.appendD 2 0 tab_ok rfl rfl rfl rfl rfl rfl rfl rfl rfl rfl rfl (fun _ _ => rfl) (by simp only [List.length_cons, List.length_nil]; omega) (by simp only [List.length_cons, List.length_nil]; omega) (fun a66 c66 ha66 => ?_)) | refine WL.ef rfl rfl (by decide) (Ef.appendD 3 0 tab_ok rfl rfl rfl rfl rfl rfl rfl rfl rfl rfl rfl (fun _ _ => rfl) (by simp only [List.length_cons, List.length_nil]; omega) (by simp only [List.length_cons, List.length_nil]; omega) (fun a66 c66 ha66 => ?_)) | refine WL.ef rfl rfl (by decide) (Ef.appendD 4 0 tab_ok rfl rfl rfl rfl rfl rfl rfl rfl rfl rfl rfl (fun _ _ => rfl) (by simp only [List.length_cons, List.length_nil]; omega) (by simp only [List.length_cons, List.length_nil]; omega) (fun a66 c66 ha66 => ?_)) | refine WL.ef rfl rfl (by decide) (Ef.appendR 0 tab_ok rfl rfl rfl rfl rfl rfl rfl rfl rfl rfl (by assumption) (fun _ _ => rfl) (by (try dsimp only); omega) (by omega) (fun a66 c66 ha66 => ?_)) | refine WL.ef rfl rfl (by decide) (Ef.appendR 1 tab_ok rfl rfl rfl rfl rfl rfl rfl rfl rfl rfl (by assumption) (fun _ _ => rfl) (by (try dsimp only); omega) (by omega) (fun a66 c66 ha66 => ?_)) | refine WL.ef rfl rfl (by decide) (Ef.appendR 2 tab_ok rfl rfl rfl rfl rfl rfl rfl rfl rfl rfl (by assumption) (fun _ _ => rfl) (by (try dsimp only); omega) (by omega) (fun a66 c66 ha66 => ?_)) | refine WL.ef rfl rfl (by decide) (Ef.appendR 3 tab_ok rfl rfl rfl rfl rfl rfl rfl rfl rfl rfl (by assumption) (fun _ _ => rfl) (by (try dsimp only); omega) (by omega) (fun a66 c66 ha66 => ?_)) | refine WL.ef rfl rfl (by decide) (Ef.appendR 4 tab_ok rfl rfl rfl rfl rfl rfl rfl rfl rfl rfl (by assumption) (fun _ _ => rfl) (by (try dsimp only); omega) (by omega) (fun a66 c66 ha66 => ?_))
            refine WG.run tab_ok 1 rfl ?_
            first | refine WL.efN rfl rfl (Ef.store 0 tab_ok rfl rfl rfl rfl rfl rfl rfl rfl ?_) | refine WL.efN rfl rfl (Ef.store 1 tab_ok rfl rfl rfl rfl rfl rfl rfl rfl ?_) | refine WL.efN rfl rfl (Ef.store 2 tab_ok rfl rfl rfl rfl rfl rfl rfl rfl ?_) | refine WL.efN rfl rfl (Ef.store 3 tab_ok rfl rfl rfl rfl rfl rfl rfl rfl ?_) | refine WL.efN rfl rfl (Ef.store 4 tab_ok rfl rfl rfl rfl rfl rfl rfl rfl ?_)
            refine WG.nil ?_
            refine WE.blk _ ?_
            refine WE.nxt ?_
            refine W.region _ ?_
            refine WG.run tab_ok 1 rfl ?_
            refine WG.y rfl rfl (by decide) (Yl.add rfl rfl rfl (fun _ => rfl) (by intro _; constructor <;> (try dsimp only) <;> omega)) ?_
            refine WG.run tab_ok 1 rfl ?_
            refine WG.nil ?_
            refine WE.again ((t + 1, a66, c66)) (by dsimp only; omega) (by (try dsimp only); omega) ⟨rfl, rfl, rfl, rfl, rfl, rfl⟩ (RLe.refl _) (by dsimp only [setAll, List.set_cons_zero, List.set_cons_succ]; rw [e1]; exact List.Sublist.cons _ (List.Sublist.refl _))
          · try dsimp only at hc4
            have hlo : lowF n k t = 4611686018427387904 := if_pos (hinf.2 (by first | exact hc4 | simpa using hc4))
            have hc4e : cvF n t = 4611686018427387904 := by first | exact hc4 | simpa using hc4
            have e1 : fvals (lowF n k) (t + 1) = fvals (lowF n k) t ++ [cvF n t] := by rw [fvals_snoc, hlo, hc4e]
            refine W.skip ?_
            refine WE.nxt ?_
            refine W.region _ ?_
            refine WG.run tab_ok 1 rfl ?_
            refine' WG.y rfl rfl (by decide) (Yl.load1 tab_ok rfl rfl rfl (fun _ => rfl) ?r10 rfl ?h10) ?_
            case r10 => apply Rd.add; (first | exact Rd.blk 0 rfl | exact Rd.blk 1 rfl | exact Rd.blk 2 rfl | exact Rd.blk 3 rfl | exact Rd.blk 4 rfl)
            case h10 => rfl
            refine WG.run tab_ok 1 rfl ?_
            refine WL.ef rfl rfl (by decide) (Ef.buildSliceD (enc := encI) (parts := [.tmp 64]) [_] tab_ok rfl rfl rfl rfl rfl rfl rfl rfl (by decide) (by decide) (fun a65 => ?_))
            first | refine WL.ef rfl rfl (by decide) (Ef.appendD 1 0 tab_ok rfl rfl rfl rfl rfl rfl rfl rfl rfl rfl rfl (fun _ _ => rfl) (by simp only [List.length_cons, List.length_nil]; omega) (by simp only [List.length_cons, List.length_nil]; omega) (fun a66 c66 ha66 => ?_)) | refine WL.ef rfl rfl (by decide) (Ef.appendD 2 0 tab_ok rfl rfl rfl rfl rfl rfl rfl rfl rfl rfl rfl (fun _ _ => rfl) (by simp only [List.length_cons, List.length_nil]; omega) (by simp only [List.length_cons, List.length_nil]; omega) (fun a66 c66 ha66 => ?_)) | refine WL.ef rfl rfl (by decide) (Ef.appendD 3 0 tab_ok rfl rfl rfl rfl rfl rfl rfl rfl rfl rfl rfl (fun _ _ => rfl) (by simp only [List.length_cons, List.length_nil]; omega) (by simp only [List.length_cons, List.length_nil]; omega) (fun a66 c66 ha66 => ?_)) | refine WL.ef rfl rfl (by decide) (Ef.appendD 4 0 tab_ok rfl rfl rfl rfl rfl rfl rfl rfl rfl rfl rfl (fun _ _ => rfl) (by simp only [List.length_cons, List.length_nil]; omega) (by simp only [List.length_cons, List.length_nil]; omega) (fun a66 c66 ha66 => ?_)) | refine WL.ef rfl rfl (by decide) (Ef.appendR 0 tab_ok rfl rfl rfl rfl rfl rfl rfl rfl rfl rfl (by assumption) (fun _ _ => rfl) (by (try dsimp only); omega) (by omega) (fun a66 c66 ha66 => ?_)) | refine WL.ef rfl rfl (by decide) (Ef.appendR 1 tab_ok rfl rfl rfl rfl rfl rfl rfl rfl rfl rfl (by assumption) (fun _ _ => rfl) (by (try dsimp only); omega) (by omega) (fun a66 c66 ha66 => ?_)) | refine WL.ef rfl rfl (by decide) (Ef.appendR 2 tab_ok rfl rfl rfl rfl rfl rfl rfl rfl rfl rfl (by assumption) (fun _ _ => rfl) (by (try dsimp only); omega) (by omega) (fun a66 c66 ha66 => ?_)) | refine WL.ef rfl rfl (by decide) (Ef.appendR 3 tab_ok rfl rfl rfl rfl rfl rfl rfl rfl rfl rfl (by assumption) (fun _ _ => rfl) (by (try dsimp only); omega) (by omega) (fun a66 c66 ha66 => ?_)) | refine WL.ef rfl rfl (by decide) (Ef.appendR 4 tab_ok rfl rfl rfl rfl rfl rfl rfl rfl rfl rfl (by assumption) (fun _ _ => rfl) (by (try dsimp only); omega) (by omega) (fun a66 c66 ha66 => ?_))
            refine WG.run tab_ok 1 rfl ?_
            first | refine WL.efN rfl rfl (Ef.store 0 tab_ok rfl rfl rfl rfl rfl rfl rfl rfl ?_) | refine WL.efN rfl rfl (Ef.store 1 tab_ok rfl rfl rfl rfl rfl rfl rfl rfl ?_) | refine WL.efN rfl rfl (Ef.store 2 tab_ok rfl rfl rfl rfl rfl rfl rfl rfl ?_) | refine WL.efN rfl rfl (Ef.store 3 tab_ok rfl rfl rfl rfl rfl rfl rfl rfl ?_) | refine WL.efN rfl rfl (Ef.store 4 tab_ok rfl rfl rfl rfl rfl rfl rfl rfl ?_)
            refine WG.nil ?_
            refine WE.blk _ ?_
            refine WE.nxt ?_
            refine W.region _ ?_
            refine WG.run tab_ok 1 rfl ?_
            refine WG.y rfl rfl (by decide) (Yl.add rfl rfl rfl (fun _ => rfl) (by intro _; constructor <;> (try dsimp only) <;> omega)) ?_
            refine WG.run tab_ok 1 rfl ?_
            refine WG.nil ?_
            refine WE.again ((t + 1, a66, c66)) (by dsimp only; omega) (by (try dsimp only); omega) ⟨rfl, rfl, rfl, rfl, rfl, rfl⟩ (RLe.refl _) (by dsimp only [setAll, List.set_cons_zero, List.set_cons_succ]; rw [e1]; exact List.Sublist.cons _ (List.Sublist.refl _))
        · try dsimp only at hc3
          obtain rfl : t = 400 + n.per.toNat := by omega
          refine W.exit ?_
          refine WE.then_exit ?_
          refine WE.then_exit ?_
          refine WE.blk_exit ?_
          refine WE.nxt ?_
          refine W.cap 0 rfl ?_
          intro hcp
          rw [List.length_map, fvals_len] at hcp
          refine W.freeze (enc := encI) (xs := fvals (lowF n k) (400 + n.per.toNat)) 0 rfl ?_
          intro R2 hR2 hv0
          refine W.seq ?_
          refine W.region _ ?_
          refine' WG.y rfl rfl (by decide) (Yl.load1 tab_ok rfl rfl rfl (fun _ => rfl) ?r11 rfl ?h11) ?_
          case r11 => (first | exact Rd.blk 0 rfl | exact Rd.blk 1 rfl | exact Rd.blk 2 rfl | exact Rd.blk 3 rfl | exact Rd.blk 4 rfl)
          case h11 => rfl
          refine WL.call en86 rfl rfl (by decide) (CallOp.mkT rfl rfl rfl rfl) (MadeG_C hv0 (by rw [fvals_len]; omega) (lowF_ok hnv hk.1 hno) (by rw [fvals_len]; exact hcp) w0 _) ?_
          rintro _ R4 E4 hR4 ⟨f, fc, rfl, hf, hsub⟩
          refine WL.subE hsub ?_
          unfold cvV
          refine WG.run tab_ok 2 rfl ?_
          first | refine WL.efN rfl rfl (Ef.store0 0 tab_ok rfl rfl rfl rfl rfl rfl rfl rfl ?_) | refine WL.efN rfl rfl (Ef.store0 1 tab_ok rfl rfl rfl rfl rfl rfl rfl rfl ?_) | refine WL.efN rfl rfl (Ef.store0 2 tab_ok rfl rfl rfl rfl rfl rfl rfl rfl ?_) | refine WL.efN rfl rfl (Ef.store0 3 tab_ok rfl rfl rfl rfl rfl rfl rfl rfl ?_) | refine WL.efN rfl rfl (Ef.store0 4 tab_ok rfl rfl rfl rfl rfl rfl rfl rfl ?_)
          refine WG.run tab_ok 1 rfl ?_
          refine WG.nil ?_
          refine WE.nxt ?_
          refine W.ret ?_
          refine WE.retF tab_ok [_, _] rfl ⟨⟨_, _, _, rfl, rfl, rfl, ((by first | exact Rd.blk 0 rfl | exact Rd.blk 1 rfl | exact Rd.blk 2 rfl | exact Rd.blk 3 rfl | exact Rd.blk 4 rfl)), rfl⟩, rfl, trivial⟩ ((by first | exact hR1.trans (hR2.trans hR4) | exact hR1 | exact RLe.refl _)) ?_
          exact ⟨f, fc, by rw [hlr]; rfl, by rw [hlr]; exact hf, (by (repeat (first | exact List.Sublist.refl _ | exact List.nil_sublist _ | apply List.Sublist.cons_cons | apply List.Sublist.cons)); done)⟩

end Go.Proofs.Ytnaeefefggmomaa

/- Chapter 21: the curve of the reference. No condition. -/
set_option linter.unusedSimpArgs false
set_option linter.unusedVariables false
namespace Go.Proofs.Ytnaeefefggmomaa
open Go Go.RowKit Go.Proofs.Ytnaeefefggmomaa.K Go.Proofs.Ytnaeefefggmomaa.M

theorem vbool {a b : Bool} (h : a = b) : some (true, Value.bool a) = some (true, Value.bool b) := by rw [h]

theorem Counts_V {R : Ro} {wa : Option Addr} {wc : Nat} {tb : List Int} (hwr : RS R 1 encI wa tb) {cap cls most : Int} {a k : Nat} (hn : 0 < tb.length) (hc : 0 ≤ cap ∧ cap ≤ 4000) (hm : 1 ≤ most ∧ most ≤ 1500) (hak : a + k ≤ 1000) : FnV Try.prog 85 [.int .i64 cap, .int .i64 cls, .slice wa tb.length wc, .int .i64 most, .int .i64 (a : Int), .int .i64 (k : Int)] R (.int .i64 (cntS cap (most - 1) (mineT tb cls) a k)) := by
  have hla := hwr.len
  refine Fn.toV (fun w0 E => ?_)
  refine Fn.enter (n := 52) Try.func85 rfl rfl (Nat.le_of_ble_eq_true rfl) rfl ?_
  refine W.seq ?_
  refine W.region _ ?_
  refine WG.run tab_ok 1 rfl ?_
  refine WG.nil ?_
  refine WE.nxt ?_
  refine W.seq ?_
  refine W.region _ ?_
  refine WG.run tab_ok 2 rfl ?_
  refine WG.nil ?_
  refine WE.nxt ?_
  refine W.seq ?_
  refine W.seq ?_
  refine W.region _ ?_
  refine WG.run tab_ok 2 rfl ?_
  refine WG.nil ?_
  refine WE.nxt ?_
  refine W.block ?_
  refine W.loopK (β := Nat) (fun i => i ≤ k + 1) (fun i => [(13, true, .int .i64 (crow cap (most - 1) (mineT tb cls) a k i).1), (14, true, .int .i64 ((crow cap (most - 1) (mineT tb cls) a k i).2 : Int)), (15, true, .int .i64 ((a : Int) + (i : Int)))]) [0, 1, 2, 3, 4, 5] [_, _, _, _, _, _] [] _ rfl (fun i => []) (fun i => k + 1 - i) (0) (Nat.zero_le _) ⟨vint (by unfold crow; rw [if_pos (Nat.zero_le _)]; rfl), vint (by unfold crow; rw [if_pos (Nat.zero_le _)]; rfl), vint (by simp), rfl, rfl, rfl, rfl, rfl, rfl, rfl⟩ (by (repeat (first | exact List.Sublist.refl _ | exact List.nil_sublist _ | apply List.Sublist.cons_cons | apply List.Sublist.cons)); done) ?_
  intro i hst
  dsimp only [zipE, setAll, List.cons_append, List.nil_append, List.set_cons_zero, List.set_cons_succ] at hst ⊢
  have hce : ((a : Int) + (i : Int)) % (tb.length : Int) = (((a + i) % tb.length : Nat) : Int) := rfl
  have hml := Nat.mod_lt (a + i) hn
  have hS := slotS_nonneg (cap := cap) (lost := (most - 1)) (mine := mineT tb cls) (a := a) hc.1 i
  rw [slotS_rowR, show max 0 (-(most - 1)) = 0 by omega, Int.zero_mul] at hS
  dsimp only at hS
  have hcb := mulB (a := cap) (b := (i : Int)) (A := 4000) (B := 1001) (by omega) (by omega)
  have hrl := rowR_le cap (most - 1) (mineT tb cls) a i
  generalize hRR : rowR cap (most - 1) (mineT tb cls) a i = rr at hS hrl
  refine W.seq ?_
  refine W.seq ?_
  refine W.region _ ?_
  refine WG.run tab_ok 3 rfl ?_
  refine WG.y rfl rfl (by decide) (Yl.add rfl rfl rfl (fun _ => rfl) (by intro _; constructor <;> (try dsimp only) <;> omega)) ?_
  refine WG.run tab_ok 1 rfl ?_
  refine WG.nil ?_
  refine WE.nxt ?_
  refine W.condD rfl (fun hc0 => ?_) (fun hc0 => ?_)
  · try dsimp only at hc0
    have hik : i ≤ k := by omega
    have ecr : (crow cap (most - 1) (mineT tb cls) a k i) = rr := by unfold crow; rw [if_pos hik, hRR]
    refine W.skip ?_
    refine WE.nxt ?_
    refine W.seq ?_
    refine W.block ?_
    refine W.seq ?_
    rw [ecr]
    refine W.seq ?_
    refine W.region _ ?_
    refine WG.run tab_ok 3 rfl ?_
    refine WG.y rfl rfl (by decide) (Yl.add rfl rfl rfl (fun _ => rfl) (by intro _; constructor <;> (try dsimp only) <;> omega)) ?_
    refine WG.run tab_ok 2 rfl ?_
    refine WG.y rfl rfl (by decide) (pureV_ok tab_ok rfl (by first | exact fun _ => rfl | exact fun h => h | (intro h; simp_all))) ?_
    refine WG.y rfl rfl (by decide) (pureV_ok tab_ok rfl (by first | exact fun _ => rfl | exact fun h => h | (intro h; simp_all))) ?_
    refine WG.y rfl rfl (by decide) (pureV_ok tab_ok rfl (by first | exact fun _ => rfl | exact fun h => h | (intro h; simp_all))) ?_
    refine WG.y rfl rfl (by decide) (pureV_ok tab_ok rfl (by first | exact fun _ => rfl | exact fun h => h | (intro h; simp_all))) ?_
    refine WG.y rfl rfl (by decide) (Yl.rem rfl rfl rfl (by first | exact fun _ => rfl | exact fun h => h | (intro h; simp_all)) (by intro hg; (try simp only [decide_eq_true_eq, decide_eq_false_iff_not, beq_iff_eq, bne_iff_ne, beq_eq_false_iff_ne, bne_eq_false_iff_eq, ne_eq, Bool.or_eq_true, Bool.or_eq_false_iff, Bool.and_eq_true, Bool.and_eq_false_imp, Bool.not_eq_true, Bool.not_eq_true', Bool.not_eq_false', Classical.not_not, Int.not_lt, Int.not_le, gt_iff_lt, ge_iff_le] at hg); (try dsimp only) <;> omega) (by intro hg; (try simp only [decide_eq_true_eq, decide_eq_false_iff_not, beq_iff_eq, bne_iff_ne, beq_eq_false_iff_ne, bne_eq_false_iff_eq, ne_eq, Bool.or_eq_true, Bool.or_eq_false_iff, Bool.and_eq_true, Bool.and_eq_false_imp, Bool.not_eq_true, Bool.not_eq_true', Bool.not_eq_false', Classical.not_not, Int.not_lt, Int.not_le, gt_iff_lt, ge_iff_le] at hg); (try dsimp only) <;> omega)) ?_
    rw [hce]
    refine WG.y rfl rfl (by decide) (Yl.indexN tab_ok rfl rfl rfl rfl rfl rfl (by first | exact fun _ => rfl | exact fun h => h | (intro h; simp_all)) (by intro hg; (try simp only [decide_eq_true_eq, decide_eq_false_iff_not, beq_iff_eq, bne_iff_ne, beq_eq_false_iff_ne, bne_eq_false_iff_eq, ne_eq, Bool.or_eq_true, Bool.or_eq_false_iff, Bool.and_eq_true, Bool.and_eq_false_imp, Bool.not_eq_true, Bool.not_eq_true', Bool.not_eq_false', Classical.not_not, Int.not_lt, Int.not_le, gt_iff_lt, ge_iff_le] at hg); (try dsimp only) <;> omega) (by intro hg; (try simp only [decide_eq_true_eq, decide_eq_false_iff_not, beq_iff_eq, bne_iff_ne, beq_eq_false_iff_ne, bne_eq_false_iff_eq, ne_eq, Bool.or_eq_true, Bool.or_eq_false_iff, Bool.and_eq_true, Bool.and_eq_false_imp, Bool.not_eq_true, Bool.not_eq_true', Bool.not_eq_false', Classical.not_not, Int.not_lt, Int.not_le, gt_iff_lt, ge_iff_le] at hg); first | exact fun _ _ _ _ => rfl | exact RS.has (by assumption) | exact fun _ _ _ _ => (by assumption) | exact HasMem.ownD 0 rfl | exact HasMem.ownD 1 rfl)) ?_
    refine' WG.y rfl rfl (by decide) (Yl.loadG tab_ok rfl rfl rfl (by first | exact fun _ => rfl | exact fun h => h | (intro h; simp_all)) ?r1 rfl ?h1 ?g1) ?_
    case r1 => (first | (apply RS.rdC; assumption) | exact Rd.slC 0 rfl | exact Rd.slC 1 rfl)
    case h1 => rfl
    case g1 => first | exact fun _ => trivial | (intro hg; (try simp only [decide_eq_true_eq, decide_eq_false_iff_not, beq_iff_eq, bne_iff_ne, beq_eq_false_iff_ne, bne_eq_false_iff_eq, ne_eq, Bool.or_eq_true, Bool.or_eq_false_iff, Bool.and_eq_true, Bool.and_eq_false_imp, Bool.not_eq_true, Bool.not_eq_true', Bool.not_eq_false', Classical.not_not, Int.not_lt, Int.not_le, gt_iff_lt, ge_iff_le] at hg); (try dsimp only); omega)
    refine WG.y rfl rfl (by decide) (pureV_ok tab_ok rfl (by first | exact fun _ => rfl | exact fun h => h | (intro h; simp_all))) ?_
    refine WG.y rfl rfl (by decide) (pureV_ok tab_ok rfl (by first | exact fun _ => rfl | exact fun h => h | (intro h; simp_all))) ?_
    refine WG.y rfl rfl (by decide) (Yl.pand rfl rfl rfl (fun _ => rfl) (by intro h1 h2; simp_all <;> omega)) ?_
    refine WG.nil ?_
    refine WE.nxt ?_
    refine W.cond rfl (fun hc1 => ?_) (fun hc1 => ?_)
    · try simp only [decide_eq_true_eq, decide_eq_false_iff_not, beq_iff_eq, bne_iff_ne, beq_eq_false_iff_ne, bne_eq_false_iff_eq, ne_eq, Bool.or_eq_true, Bool.or_eq_false_iff, Bool.and_eq_true, Bool.and_eq_false_imp, Bool.not_eq_true, Bool.not_eq_true', Bool.not_eq_false', Classical.not_not, Int.not_lt, Int.not_le, gt_iff_lt, ge_iff_le] at hc1
      have hm1 : mineT tb cls (a + i) = true := by unfold mineT slotT; rw [beq_iff_eq]; exact hc1.2
      have ecn : crow cap (most - 1) (mineT tb cls) a k (i + 1) = (rr.1, rr.2 + 1) := by unfold crow; rw [if_pos (by omega)]; simp only [rowR]; rw [if_pos hm1, hRR]
      refine W.seq ?_
      refine W.region _ ?_
      refine WG.run tab_ok 1 rfl ?_
      refine WG.y rfl rfl (by decide) (Yl.add rfl rfl rfl (fun _ => rfl) (by intro _; constructor <;> (try dsimp only) <;> omega)) ?_
      refine WG.run tab_ok 1 rfl ?_
      refine WG.nil ?_
      refine WE.nxt ?_
      refine W.exit ?_
      refine WE.then_exit ?_
      refine WE.blk_exit ?_
      refine WE.nxt ?_
      refine W.region _ ?_
      refine WG.run tab_ok 1 rfl ?_
      refine WG.y rfl rfl (by decide) (Yl.add rfl rfl rfl (fun _ => rfl) (by intro _; constructor <;> (try dsimp only) <;> omega)) ?_
      refine WG.run tab_ok 1 rfl ?_
      refine WG.nil ?_
      refine WE.again (i + 1) (by omega) (by (try dsimp only); omega) ⟨vint (by rw [ecn]), vint (by rw [ecn]; simp), vint (by simp; omega), rfl, rfl, rfl, rfl, rfl, rfl, rfl⟩ (RLe.refl _) (by (repeat (first | exact List.Sublist.refl _ | exact List.nil_sublist _ | apply List.Sublist.cons_cons | apply List.Sublist.cons)); done)
    · try simp only [decide_eq_true_eq, decide_eq_false_iff_not, beq_iff_eq, bne_iff_ne, beq_eq_false_iff_ne, bne_eq_false_iff_eq, ne_eq, Bool.or_eq_true, Bool.or_eq_false_iff, Bool.and_eq_true, Bool.and_eq_false_imp, Bool.not_eq_true, Bool.not_eq_true', Bool.not_eq_false', Classical.not_not, Int.not_lt, Int.not_le, gt_iff_lt, ge_iff_le] at hc1
      have hmx : (if (0 : Int) < cap * (rr.2 : Int) - (most - 1) then cap * (rr.2 : Int) - (most - 1) else 0) = max 0 (cap * (rr.2 : Int) - (most - 1)) := by split <;> omega
      have ecn : crow cap (most - 1) (mineT tb cls) a k (i + 1) = (rr.1 + max 0 (cap * (rr.2 : Int) - (most - 1)), 0) := by
        unfold crow
        by_cases hik2 : i + 1 ≤ k
        · have hm1 : ¬ mineT tb cls (a + i) = true := by
            unfold mineT slotT
            rw [beq_iff_eq]
            intro h
            have hlt : (a : Int) + (i : Int) < (a : Int) + (k : Int) := by omega
            first | exact hc1 hlt h | exact hc1 ⟨hlt, h⟩
          rw [if_pos hik2]; simp only [rowR]; rw [if_neg hm1, hRR]
        · obtain rfl : i = k := by omega
          rw [if_neg hik2, cntS_rowR, hRR]
      refine W.skip ?_
      refine WE.nxt ?_
      refine W.seq ?_
      refine W.region _ ?_
      refine WG.run tab_ok 3 rfl ?_
      refine WG.y rfl rfl (by decide) (Yl.mul rfl rfl rfl (fun _ => rfl) (by intro _; constructor <;> (try dsimp only) <;> omega)) ?_
      refine WG.run tab_ok 1 rfl ?_
      refine WG.y rfl rfl (by decide) (Yl.sub rfl rfl rfl (fun _ => rfl) (by intro _; constructor <;> (try dsimp only) <;> omega)) ?_
      refine WG.y rfl rfl (by decide) (Yl.sub rfl rfl rfl (fun _ => rfl) (by intro _; constructor <;> (try dsimp only) <;> omega)) ?_
      refine WG.run tab_ok 1 rfl ?_
      refine WG.y rfl rfl (by decide) (Yl.add rfl rfl rfl (fun _ => rfl) (by intro _; constructor <;> (try dsimp only) <;> omega)) ?_
      refine WG.run tab_ok 1 rfl ?_
      refine WG.nil ?_
      refine WE.nxt ?_
      refine W.region _ ?_
      refine WG.run tab_ok 1 rfl ?_
      refine WG.nil ?_
      refine WE.blk _ ?_
      refine WE.nxt ?_
      refine W.region _ ?_
      refine WG.run tab_ok 1 rfl ?_
      refine WG.y rfl rfl (by decide) (Yl.add rfl rfl rfl (fun _ => rfl) (by intro _; constructor <;> (try dsimp only) <;> omega)) ?_
      refine WG.run tab_ok 1 rfl ?_
      refine WG.nil ?_
      refine WE.again (i + 1) (by omega) (by (try dsimp only); omega) ⟨vint (by rw [ecn, ← hmx]), vint (by rw [ecn]; rfl), vint (by simp; omega), rfl, rfl, rfl, rfl, rfl, rfl, rfl⟩ (RLe.refl _) (by (repeat (first | exact List.Sublist.refl _ | exact List.nil_sublist _ | apply List.Sublist.cons_cons | apply List.Sublist.cons)); done)
  · try dsimp only at hc0
    obtain rfl : i = k + 1 := by omega
    have ecr : (crow cap (most - 1) (mineT tb cls) a k (k + 1)) = (cntS cap (most - 1) (mineT tb cls) a k, 0) := by unfold crow; rw [if_neg (by omega)]
    refine W.exit ?_
    refine WE.then_exit ?_
    refine WE.then_exit ?_
    refine WE.blk_exit ?_
    refine WE.nxt ?_
    refine W.seq ?_
    refine W.region _ ?_
    refine WG.run tab_ok 2 rfl ?_
    refine WG.nil ?_
    refine WE.nxt ?_
    refine W.ret ?_
    refine WE.subE (E' := E) (by (repeat (first | exact List.Sublist.refl _ | exact List.nil_sublist _ | apply List.Sublist.cons_cons | apply List.Sublist.cons)); done) ?_
    refine WE.retF tab_ok [_] rfl ⟨rfl, trivial⟩ (RLe.refl _) ?_
    exact ⟨by rw [ecr]; rfl, rfl⟩

theorem ServeR_ok {R : Ro} {cap : Int} (hc : 1 ≤ cap ∧ cap ≤ 4000) (w0 : World) (E : List Ent) :
    K.Fn Try.prog 83 [.int .i64 cap] w0 R E (fun v R' E' => ∃ f : Option Addr, v = .tuple #[.agg #[.slice f 1 1, .int .i64 1, .int .i64 cap], .int .i64 0] ∧ RS R' 1 encI f [0] ∧ E.Sublist E') := by
  refine Fn.enter (n := 14) Try.func83 rfl rfl (Nat.le_of_ble_eq_true rfl) rfl ?_
  refine W.seq ?_
  refine W.region _ ?_
  refine WL.ef rfl rfl (by decide) (Ef.alloc tab_ok rfl rfl (fun b2 => ?_))
  refine WG.run tab_ok 1 rfl ?_
  refine WG.nil ?_
  refine WE.nxt ?_
  refine W.seq ?_
  refine W.seq ?_
  refine W.region _ ?_
  refine WG.run tab_ok 3 rfl ?_
  refine WG.y rfl rfl (by decide) (pureV_ok tab_ok rfl (by first | exact fun _ => rfl | exact fun h => h | (intro h; simp_all))) ?_
  refine WG.y rfl rfl (by decide) (pureV_ok tab_ok rfl (by first | exact fun _ => rfl | exact fun h => h | (intro h; simp_all))) ?_
  refine WG.y rfl rfl (by decide) (Yl.por rfl rfl rfl (fun _ => rfl) (by intro h1 h2; simp_all <;> omega)) ?_
  refine WG.nil ?_
  refine WE.nxt ?_
  refine W.cond rfl (fun hc0 => ?_) (fun hc0 => ?_)
  · try simp only [decide_eq_true_eq, decide_eq_false_iff_not, beq_iff_eq, bne_iff_ne, beq_eq_false_iff_ne, bne_eq_false_iff_eq, ne_eq, Bool.or_eq_true, Bool.or_eq_false_iff, Bool.and_eq_true, Bool.and_eq_false_imp, Bool.not_eq_true, Bool.not_eq_true', Bool.not_eq_false', Classical.not_not, Int.not_lt, Int.not_le, gt_iff_lt, ge_iff_le] at hc0
    omega
  · try simp only [decide_eq_true_eq, decide_eq_false_iff_not, beq_iff_eq, bne_iff_ne, beq_eq_false_iff_ne, bne_eq_false_iff_eq, ne_eq, Bool.or_eq_true, Bool.or_eq_false_iff, Bool.and_eq_true, Bool.and_eq_false_imp, Bool.not_eq_true, Bool.not_eq_true', Bool.not_eq_false', Classical.not_not, Int.not_lt, Int.not_le, gt_iff_lt, ge_iff_le] at hc0
    refine W.skip ?_
    refine WE.nxt ?_
    refine W.seq ?_
    refine W.region _ ?_
    refine WL.ef rfl rfl (by decide) (Ef.buildSliceD (enc := encI) (parts := [.const (.int .i64 0)]) [_] tab_ok rfl rfl rfl rfl rfl rfl rfl rfl (by decide) (by decide) (fun a11 => ?_))
    refine WL.freeze (enc := encI) (xs := [0]) 0 rfl ?_
    intro R1 hR1 hsv
    refine WG.run tab_ok 1 rfl ?_
    -- build
    refine WG.y rfl rfl (by decide) (Yl.build (parts := [(0, .tmp 11), (1, .const (.int .i64 1)), (2, .tmp 12)]) tab_ok rfl rfl rfl rfl (fun _ => rfl) rfl rfl) ?_
    first | refine WL.efN rfl rfl (Ef.store0 0 tab_ok rfl rfl rfl rfl rfl rfl rfl rfl ?_) | refine WL.efN rfl rfl (Ef.store0 1 tab_ok rfl rfl rfl rfl rfl rfl rfl rfl ?_) | refine WL.efN rfl rfl (Ef.store0 2 tab_ok rfl rfl rfl rfl rfl rfl rfl rfl ?_)
    refine WG.run tab_ok 1 rfl ?_
    refine WG.nil ?_
    refine WE.nxt ?_
    refine W.ret ?_
    refine WE.retF tab_ok [_, _] rfl ⟨⟨_, _, _, rfl, rfl, rfl, ((by first | exact Rd.blk 0 rfl | exact Rd.blk 1 rfl | exact Rd.blk 2 rfl)), rfl⟩, rfl, trivial⟩ (hR1) ?_
    exact ⟨_, rfl, hsv, (by (repeat (first | exact List.Sublist.refl _ | exact List.nil_sublist _ | apply List.Sublist.cons_cons | apply List.Sublist.cons)); done)⟩

set_option maxHeartbeats 1000000 in
theorem Curve21_C {R : Ro} {wa za : Option Addr} {wc zc : Nat} {tb : List Int} {z : List Sz} (hwr : RS R 1 encI wa tb) (hzr : RS R 2 encZ za z) {cap cls : Int} (w0 : World) (E : List Ent) : K.Fn Try.prog 31 [.int .i64 cap, .int .i64 cls, .slice wa tb.length wc, .slice za z.length zc] w0 R E (fun r R' E' => ∃ (f : Option Addr) (fc : Nat), r = cvV f fc (slotC cap cls tb z) ∧ RS R' 1 encI f (slotC cap cls tb z).1.vals ∧ E.Sublist E') := by
  have hla := hzr.len
  have hlw := hwr.len
  refine Fn.enter (n := 135) Try.func31 rfl rfl (Nat.le_of_ble_eq_true rfl) rfl ?_
  refine W.seq ?_
  refine W.region _ ?_
  refine WL.ef rfl rfl (by decide) (Ef.alloc tab_ok rfl rfl (fun b8 => ?_))
  refine WG.run tab_ok 1 rfl ?_
  refine WG.nil ?_
  refine WE.nxt ?_
  refine W.seq ?_
  refine W.seq ?_
  refine W.region _ ?_
  refine WG.run tab_ok 4 rfl ?_
  refine WG.callV en34 rfl rfl (by decide) (CallOp.mk' rfl rfl rfl rfl) (fun _ => rfl) (fun hg => Check21_V hwr hzr) ?_
  refine WG.run tab_ok 1 rfl ?_
  refine WG.nil ?_
  refine WE.nxt ?_
  refine W.seq ?_
  refine W.region _ ?_
  refine WG.run tab_ok 2 rfl ?_
  refine WG.nil ?_
  refine WE.nxt ?_
  refine W.condN rfl (fun hc0 => ?_) (fun hc0 => ?_)
  · try dsimp only at hc0
    have hd : slotC cap cls tb z = (zcv, chkT cap cls tb z) := if_pos hc0
    refine W.seq ?_
    refine W.region _ ?_
    -- build
    refine WG.y rfl rfl (by decide) (Yl.build (parts := []) tab_ok rfl rfl rfl rfl (fun _ => rfl) rfl rfl) ?_
    refine WG.run tab_ok 1 rfl ?_
    first | refine WL.efN rfl rfl (Ef.store0 0 tab_ok rfl rfl rfl rfl rfl rfl rfl rfl ?_) | refine WL.efN rfl rfl (Ef.store0 1 tab_ok rfl rfl rfl rfl rfl rfl rfl rfl ?_) | refine WL.efN rfl rfl (Ef.store0 2 tab_ok rfl rfl rfl rfl rfl rfl rfl rfl ?_) | refine WL.efN rfl rfl (Ef.store0 3 tab_ok rfl rfl rfl rfl rfl rfl rfl rfl ?_) | refine WL.efN rfl rfl (Ef.store0 4 tab_ok rfl rfl rfl rfl rfl rfl rfl rfl ?_) | refine WL.efN rfl rfl (Ef.store0 5 tab_ok rfl rfl rfl rfl rfl rfl rfl rfl ?_)
    refine WG.run tab_ok 1 rfl ?_
    refine WG.nil ?_
    refine WE.nxt ?_
    refine W.ret ?_
    refine WE.then_ret ?_
    refine WE.retF tab_ok [_, _] rfl ⟨⟨_, _, _, rfl, rfl, rfl, ((by first | exact Rd.blk 0 rfl | exact Rd.blk 1 rfl | exact Rd.blk 2 rfl | exact Rd.blk 3 rfl | exact Rd.blk 4 rfl | exact Rd.blk 5 rfl)), rfl⟩, rfl, trivial⟩ ((by first | exact RLe.refl _ | exact hR1.trans hR4 | exact hR2.trans hR4)) ?_
    exact ⟨none, 0, by rw [hd]; rfl, by rw [hd]; exact rs_nil, (by (repeat (first | exact List.Sublist.refl _ | exact List.nil_sublist _ | apply List.Sublist.cons_cons | apply List.Sublist.cons)); done)⟩
  · try dsimp only at hc0
    obtain ⟨c1, c2, k1, k2, zl, ⟨t1, t2, htb⟩, hz⟩ := chkT_ok hc0
    have hck : cls.toNat < z.length := by omega
    have hzk := hz _ (nth_mem hck)
    refine W.skip ?_
    refine WE.nxt ?_
    refine W.seq ?_
    refine W.region _ ?_
    refine WG.run tab_ok 2 rfl ?_
    refine WG.nil ?_
    refine WE.nxt ?_
    refine W.seq ?_
    refine W.seq ?_
    refine W.region _ ?_
    refine WG.run tab_ok 1 rfl ?_
    refine WG.nil ?_
    refine WE.nxt ?_
    refine W.block ?_
    refine W.loopK (β := Nat) (fun i => i ≤ tb.length) (fun i => [(11, true, .bool (someN tb cls i)), (12, true, .bool (allN tb cls i)), (13, true, .int .i64 (i : Int))]) [0, 1, 2, 3, 8] [_, _, _, _, _] [] _ rfl (fun i => []) (fun i => tb.length - i) (0) (Nat.zero_le _) ⟨rfl, rfl, rfl, rfl, rfl, rfl, rfl, rfl, rfl⟩ (by (repeat (first | exact List.Sublist.refl _ | exact List.nil_sublist _ | apply List.Sublist.cons_cons | apply List.Sublist.cons)); done) ?_
    intro i hst
    dsimp only [zipE, setAll, List.cons_append, List.nil_append, List.set_cons_zero, List.set_cons_succ] at hst ⊢
    
    refine W.seq ?_
    refine W.seq ?_
    refine W.region _ ?_
    refine WG.run tab_ok 4 rfl ?_
    refine WG.nil ?_
    refine WE.nxt ?_
    refine W.condD rfl (fun hc1 => ?_) (fun hc1 => ?_)
    · try dsimp only at hc1
      have hkl : i < tb.length := by omega
      have hmi : mineT tb cls i = (nth tb i == cls) := by unfold mineT slotT; rw [Nat.mod_eq_of_lt hkl]
      have hsn : someN tb cls (i + 1) = (someN tb cls i || (nth tb i == cls)) := by simp only [someN, hmi]
      have han : allN tb cls (i + 1) = (allN tb cls i && (nth tb i == cls)) := by simp only [allN, hmi]
      refine W.skip ?_
      refine WE.nxt ?_
      refine W.seq ?_
      refine W.block ?_
      refine W.regionQ _ mixed (by kernel_rfl) ?_
      refine WG.run tab_ok 2 rfl ?_
      refine WG.y rfl rfl (by decide) (pureV_ok tab_ok rfl (by first | exact fun _ => rfl | exact fun h => h | (intro h; simp_all))) ?_
      refine WG.y rfl rfl (by decide) (pureV_ok tab_ok rfl (by first | exact fun _ => rfl | exact fun h => h | (intro h; simp_all))) ?_
      refine WG.y rfl rfl (by decide) (Yl.indexN tab_ok rfl rfl rfl rfl rfl rfl (by first | exact fun _ => rfl | exact fun h => h | (intro h; simp_all)) (by intro hg; (try simp only [decide_eq_true_eq, decide_eq_false_iff_not, beq_iff_eq, bne_iff_ne, beq_eq_false_iff_ne, bne_eq_false_iff_eq, ne_eq, Bool.or_eq_true, Bool.or_eq_false_iff, Bool.and_eq_true, Bool.and_eq_false_imp, Bool.not_eq_true, Bool.not_eq_true', Bool.not_eq_false', Classical.not_not, Int.not_lt, Int.not_le, gt_iff_lt, ge_iff_le] at hg); (try dsimp only) <;> omega) (by intro hg; (try simp only [decide_eq_true_eq, decide_eq_false_iff_not, beq_iff_eq, bne_iff_ne, beq_eq_false_iff_ne, bne_eq_false_iff_eq, ne_eq, Bool.or_eq_true, Bool.or_eq_false_iff, Bool.and_eq_true, Bool.and_eq_false_imp, Bool.not_eq_true, Bool.not_eq_true', Bool.not_eq_false', Classical.not_not, Int.not_lt, Int.not_le, gt_iff_lt, ge_iff_le] at hg); first | exact fun _ _ _ _ => rfl | exact RS.has (by assumption) | exact fun _ _ _ _ => (by assumption) | exact HasMem.ownD 0 rfl | exact HasMem.ownD 1 rfl | exact HasMem.ownD 2 rfl | exact HasMem.ownD 3 rfl | exact HasMem.ownD 4 rfl | exact HasMem.ownD 5 rfl)) ?_
      refine' WG.y rfl rfl (by decide) (Yl.loadG tab_ok rfl rfl rfl (by first | exact fun _ => rfl | exact fun h => h | (intro h; simp_all)) ?r1 rfl ?h1 ?g1) ?_
      case r1 => (first | (apply RS.rdC; assumption) | exact Rd.slC 0 rfl | exact Rd.slC 1 rfl | exact Rd.slC 2 rfl | exact Rd.slC 3 rfl | exact Rd.slC 4 rfl | exact Rd.slC 5 rfl)
      case h1 => rfl
      case g1 => first | exact fun _ => trivial | (intro hg; (try simp only [decide_eq_true_eq, decide_eq_false_iff_not, beq_iff_eq, bne_iff_ne, beq_eq_false_iff_ne, bne_eq_false_iff_eq, ne_eq, Bool.or_eq_true, Bool.or_eq_false_iff, Bool.and_eq_true, Bool.and_eq_false_imp, Bool.not_eq_true, Bool.not_eq_true', Bool.not_eq_false', Classical.not_not, Int.not_lt, Int.not_le, gt_iff_lt, ge_iff_le] at hg); (try dsimp only); omega)
      refine WG.y rfl rfl (by decide) (pureV_ok tab_ok rfl (by first | exact fun _ => rfl | exact fun h => h | (intro h; simp_all))) ?_
      refine WG.y rfl rfl (by decide) (pureV_ok tab_ok rfl (by first | exact fun _ => rfl | exact fun h => h | (intro h; simp_all))) ?_
      refine WG.y rfl rfl (by decide) (Yl.por rfl rfl rfl (fun _ => rfl) (by intro h1 h2; simp_all <;> omega)) ?_
      refine WG.run tab_ok 2 rfl ?_
      refine WG.y rfl rfl (by decide) (pureV_ok tab_ok rfl (by first | exact fun _ => rfl | exact fun h => h | (intro h; simp_all))) ?_
      refine WG.y rfl rfl (by decide) (pureV_ok tab_ok rfl (by first | exact fun _ => rfl | exact fun h => h | (intro h; simp_all))) ?_
      refine WG.y rfl rfl (by decide) (Yl.indexN tab_ok rfl rfl rfl rfl rfl rfl (by first | exact fun _ => rfl | exact fun h => h | (intro h; simp_all)) (by intro hg; (try simp only [decide_eq_true_eq, decide_eq_false_iff_not, beq_iff_eq, bne_iff_ne, beq_eq_false_iff_ne, bne_eq_false_iff_eq, ne_eq, Bool.or_eq_true, Bool.or_eq_false_iff, Bool.and_eq_true, Bool.and_eq_false_imp, Bool.not_eq_true, Bool.not_eq_true', Bool.not_eq_false', Classical.not_not, Int.not_lt, Int.not_le, gt_iff_lt, ge_iff_le] at hg); (try dsimp only) <;> omega) (by intro hg; (try simp only [decide_eq_true_eq, decide_eq_false_iff_not, beq_iff_eq, bne_iff_ne, beq_eq_false_iff_ne, bne_eq_false_iff_eq, ne_eq, Bool.or_eq_true, Bool.or_eq_false_iff, Bool.and_eq_true, Bool.and_eq_false_imp, Bool.not_eq_true, Bool.not_eq_true', Bool.not_eq_false', Classical.not_not, Int.not_lt, Int.not_le, gt_iff_lt, ge_iff_le] at hg); first | exact fun _ _ _ _ => rfl | exact RS.has (by assumption) | exact fun _ _ _ _ => (by assumption) | exact HasMem.ownD 0 rfl | exact HasMem.ownD 1 rfl | exact HasMem.ownD 2 rfl | exact HasMem.ownD 3 rfl | exact HasMem.ownD 4 rfl | exact HasMem.ownD 5 rfl)) ?_
      refine' WG.y rfl rfl (by decide) (Yl.loadG tab_ok rfl rfl rfl (by first | exact fun _ => rfl | exact fun h => h | (intro h; simp_all)) ?r2 rfl ?h2 ?g2) ?_
      case r2 => (first | (apply RS.rdC; assumption) | exact Rd.slC 0 rfl | exact Rd.slC 1 rfl | exact Rd.slC 2 rfl | exact Rd.slC 3 rfl | exact Rd.slC 4 rfl | exact Rd.slC 5 rfl)
      case h2 => rfl
      case g2 => first | exact fun _ => trivial | (intro hg; (try simp only [decide_eq_true_eq, decide_eq_false_iff_not, beq_iff_eq, bne_iff_ne, beq_eq_false_iff_ne, bne_eq_false_iff_eq, ne_eq, Bool.or_eq_true, Bool.or_eq_false_iff, Bool.and_eq_true, Bool.and_eq_false_imp, Bool.not_eq_true, Bool.not_eq_true', Bool.not_eq_false', Classical.not_not, Int.not_lt, Int.not_le, gt_iff_lt, ge_iff_le] at hg); (try dsimp only); omega)
      refine WG.y rfl rfl (by decide) (pureV_ok tab_ok rfl (by first | exact fun _ => rfl | exact fun h => h | (intro h; simp_all))) ?_
      refine WG.y rfl rfl (by decide) (pureV_ok tab_ok rfl (by first | exact fun _ => rfl | exact fun h => h | (intro h; simp_all))) ?_
      refine WG.y rfl rfl (by decide) (Yl.pand rfl rfl rfl (fun _ => rfl) (by intro h1 h2; simp_all <;> omega)) ?_
      refine WG.run tab_ok 2 rfl ?_
      refine WG.nil ?_
      refine WE.blk _ ?_
      refine WE.nxt ?_
      refine W.region _ ?_
      refine WG.run tab_ok 1 rfl ?_
      refine WG.y rfl rfl (by decide) (Yl.add rfl rfl rfl (fun _ => rfl) (by intro _; constructor <;> (try dsimp only) <;> omega)) ?_
      refine WG.run tab_ok 1 rfl ?_
      refine WG.nil ?_
      refine WE.again (i + 1) (by omega) (by (try dsimp only); omega) ⟨vbool (by rw [hsn]), vbool (by rw [han]), rfl, rfl, rfl, rfl, rfl, rfl, rfl⟩ (RLe.refl _) (by (repeat (first | exact List.Sublist.refl _ | exact List.nil_sublist _ | apply List.Sublist.cons_cons | apply List.Sublist.cons)); done)
    · try dsimp only at hc1
      obtain rfl : i = tb.length := by omega
      rw [someN_all, allN_all]
      refine W.exit ?_
      refine WE.then_exit ?_
      refine WE.then_exit ?_
      refine WE.blk_exit ?_
      refine WE.nxt ?_
      refine W.seq ?_
      refine W.seq ?_
      refine W.region _ ?_
      refine WG.run tab_ok 3 rfl ?_
      refine WG.y rfl rfl (by decide) (pureV_ok tab_ok rfl (by first | exact fun _ => rfl | exact fun h => h | (intro h; simp_all))) ?_
      refine WG.y rfl rfl (by decide) (pureV_ok tab_ok rfl (by first | exact fun _ => rfl | exact fun h => h | (intro h; simp_all))) ?_
      refine WG.y rfl rfl (by decide) (Yl.index tab_ok rfl rfl rfl rfl rfl rfl (by first | exact fun _ => rfl | exact fun h => h | (intro h; simp_all)) (by intro hg; (try simp only [decide_eq_true_eq, decide_eq_false_iff_not, beq_iff_eq, bne_iff_ne, beq_eq_false_iff_ne, bne_eq_false_iff_eq, ne_eq, Bool.or_eq_true, Bool.or_eq_false_iff, Bool.and_eq_true, Bool.and_eq_false_imp, Bool.not_eq_true, Bool.not_eq_true', Bool.not_eq_false', Classical.not_not, Int.not_lt, Int.not_le, gt_iff_lt, ge_iff_le] at hg); constructor <;> (try dsimp only) <;> omega) (by intro hg; (try simp only [decide_eq_true_eq, decide_eq_false_iff_not, beq_iff_eq, bne_iff_ne, beq_eq_false_iff_ne, bne_eq_false_iff_eq, ne_eq, Bool.or_eq_true, Bool.or_eq_false_iff, Bool.and_eq_true, Bool.and_eq_false_imp, Bool.not_eq_true, Bool.not_eq_true', Bool.not_eq_false', Classical.not_not, Int.not_lt, Int.not_le, gt_iff_lt, ge_iff_le] at hg); first | exact fun _ _ _ _ => rfl | exact RS.has (by assumption) | exact fun _ _ _ _ => (by assumption) | exact HasMem.ownD 0 rfl | exact HasMem.ownD 1 rfl | exact HasMem.ownD 2 rfl | exact HasMem.ownD 3 rfl | exact HasMem.ownD 4 rfl | exact HasMem.ownD 5 rfl)) ?_
      refine WG.y rfl rfl (by decide) (pureV_ok tab_ok rfl (by first | exact fun _ => rfl | exact fun h => h | (intro h; simp_all))) ?_
      refine' WG.y rfl rfl (by decide) (Yl.loadG tab_ok rfl rfl rfl (by first | exact fun _ => rfl | exact fun h => h | (intro h; simp_all)) ?r3 rfl ?h3 ?g3) ?_
      case r3 => apply Rd.addC; (first | (apply RS.rdC; assumption) | exact Rd.slC 0 rfl | exact Rd.slC 1 rfl | exact Rd.slC 2 rfl | exact Rd.slC 3 rfl | exact Rd.slC 4 rfl | exact Rd.slC 5 rfl)
      case h3 => rfl
      case g3 => first | exact fun _ => trivial | (intro hg; (try simp only [decide_eq_true_eq, decide_eq_false_iff_not, beq_iff_eq, bne_iff_ne, beq_eq_false_iff_ne, bne_eq_false_iff_eq, ne_eq, Bool.or_eq_true, Bool.or_eq_false_iff, Bool.and_eq_true, Bool.and_eq_false_imp, Bool.not_eq_true, Bool.not_eq_true', Bool.not_eq_false', Classical.not_not, Int.not_lt, Int.not_le, gt_iff_lt, ge_iff_le] at hg); (try dsimp only); omega)
      refine WG.y rfl rfl (by decide) (pureV_ok tab_ok rfl (by first | exact fun _ => rfl | exact fun h => h | (intro h; simp_all))) ?_
      refine WG.y rfl rfl (by decide) (Yl.por rfl rfl rfl (fun _ => rfl) (by intro h1 h2; simp_all <;> omega)) ?_
      refine WG.nil ?_
      refine WE.nxt ?_
      refine W.cond rfl (fun hc2 => ?_) (fun hc2 => ?_)
      · try simp only [decide_eq_true_eq, decide_eq_false_iff_not, beq_iff_eq, bne_iff_ne, beq_eq_false_iff_ne, bne_eq_false_iff_eq, ne_eq, Bool.or_eq_true, Bool.or_eq_false_iff, Bool.and_eq_true, Bool.and_eq_false_imp, Bool.not_eq_true, Bool.not_eq_true', Bool.not_eq_false', Classical.not_not, Int.not_lt, Int.not_le, gt_iff_lt, ge_iff_le] at hc2
        have hd : slotC cap cls tb z = (zcv, 5) := by unfold slotC; rw [if_neg (fun h => h hc0), if_pos hc2]
        refine W.seq ?_
        refine W.region _ ?_
        -- build
        refine WG.y rfl rfl (by decide) (Yl.build (parts := []) tab_ok rfl rfl rfl rfl (fun _ => rfl) rfl rfl) ?_
        first | refine WL.efN rfl rfl (Ef.store0 0 tab_ok rfl rfl rfl rfl rfl rfl rfl rfl ?_) | refine WL.efN rfl rfl (Ef.store0 1 tab_ok rfl rfl rfl rfl rfl rfl rfl rfl ?_) | refine WL.efN rfl rfl (Ef.store0 2 tab_ok rfl rfl rfl rfl rfl rfl rfl rfl ?_) | refine WL.efN rfl rfl (Ef.store0 3 tab_ok rfl rfl rfl rfl rfl rfl rfl rfl ?_) | refine WL.efN rfl rfl (Ef.store0 4 tab_ok rfl rfl rfl rfl rfl rfl rfl rfl ?_) | refine WL.efN rfl rfl (Ef.store0 5 tab_ok rfl rfl rfl rfl rfl rfl rfl rfl ?_)
        refine WG.run tab_ok 1 rfl ?_
        refine WG.nil ?_
        refine WE.nxt ?_
        refine W.ret ?_
        refine WE.then_ret ?_
        refine WE.retF tab_ok [_, _] rfl ⟨⟨_, _, _, rfl, rfl, rfl, ((by first | exact Rd.blk 0 rfl | exact Rd.blk 1 rfl | exact Rd.blk 2 rfl | exact Rd.blk 3 rfl | exact Rd.blk 4 rfl | exact Rd.blk 5 rfl)), rfl⟩, rfl, trivial⟩ ((by first | exact RLe.refl _ | exact hR1.trans hR4 | exact hR2.trans hR4)) ?_
        exact ⟨none, 0, by rw [hd]; rfl, by rw [hd]; exact rs_nil, (by (repeat (first | exact List.Sublist.refl _ | exact List.nil_sublist _ | apply List.Sublist.cons_cons | apply List.Sublist.cons)); done)⟩
      · try simp only [decide_eq_true_eq, decide_eq_false_iff_not, beq_iff_eq, bne_iff_ne, beq_eq_false_iff_ne, bne_eq_false_iff_eq, ne_eq, Bool.or_eq_true, Bool.or_eq_false_iff, Bool.and_eq_true, Bool.and_eq_false_imp, Bool.not_eq_true, Bool.not_eq_true', Bool.not_eq_false', Classical.not_not, Int.not_lt, Int.not_le, gt_iff_lt, ge_iff_le] at hc2
        have hc2n : ¬ (someT cls tb = false ∨ (nth z cls.toNat).most < 1) := by
          rintro (h | h)
          · simp_all
          · omega
        have hmo : 1 ≤ (nth z cls.toNat).most := by omega
        refine W.skip ?_
        refine WE.nxt ?_
        refine W.seq ?_
        refine W.seq ?_
        refine W.region _ ?_
        refine WG.run tab_ok 1 rfl ?_
        refine WG.nil ?_
        refine WE.nxt ?_
        refine W.cond rfl (fun hc3 => ?_) (fun hc3 => ?_)
        · try simp only [decide_eq_true_eq, decide_eq_false_iff_not, beq_iff_eq, bne_iff_ne, beq_eq_false_iff_ne, bne_eq_false_iff_eq, ne_eq, Bool.or_eq_true, Bool.or_eq_false_iff, Bool.and_eq_true, Bool.and_eq_false_imp, Bool.not_eq_true, Bool.not_eq_true', Bool.not_eq_false', Classical.not_not, Int.not_lt, Int.not_le, gt_iff_lt, ge_iff_le] at hc3
          have hd : slotC cap cls tb z = if 400 * cap < (nth z cls.toNat).most - 1 then (zcv, 3) else madeR ⟨fvals (lineF cap ((nth z cls.toNat).most - 1)) 401, 1, cap⟩ := by unfold slotC; rw [if_neg (fun h => h hc0), if_neg hc2n, if_pos hc3]
          have hdl := hd
          refine W.seq ?_
          refine W.region _ ?_
          refine WG.run tab_ok 1 rfl ?_
          refine WL.call en83 rfl rfl (by decide) (CallOp.mkT rfl rfl rfl rfl) (ServeR_ok (cap := cap) (by omega) w0 _) ?_
          rintro _ R1 _ hR1 ⟨fl, rfl, hfl1, hsub⟩
          refine WL.subE hsub ?_
          have hzr := hzr.mono hR1
          refine WG.run tab_ok 3 rfl ?_
          refine WL.ef rfl rfl (by decide) (Ef.alloc tab_ok rfl rfl (fun b14 => ?_))
          first | refine WL.efN rfl rfl (Ef.store0 0 tab_ok rfl rfl rfl rfl rfl rfl rfl rfl ?_) | refine WL.efN rfl rfl (Ef.store0 1 tab_ok rfl rfl rfl rfl rfl rfl rfl rfl ?_) | refine WL.efN rfl rfl (Ef.store0 2 tab_ok rfl rfl rfl rfl rfl rfl rfl rfl ?_) | refine WL.efN rfl rfl (Ef.store0 3 tab_ok rfl rfl rfl rfl rfl rfl rfl rfl ?_) | refine WL.efN rfl rfl (Ef.store0 4 tab_ok rfl rfl rfl rfl rfl rfl rfl rfl ?_) | refine WL.efN rfl rfl (Ef.store0 5 tab_ok rfl rfl rfl rfl rfl rfl rfl rfl ?_)
          refine WG.run tab_ok 1 rfl ?_
          refine WG.nil ?_
          refine WE.nxt ?_
          refine W.seq ?_
          refine W.regionH _ (ES := [.blk b14 [.slice fl 1 1, .int .i64 1, .int .i64 cap]]) mixed ?_
          refine' WA.take 0 rfl (by kernel_rfl) (by kernel_rfl) (by kernel_rfl) rfl rfl (by decide) (Yl.load1 tab_ok rfl rfl rfl (fun _ => rfl) ?r4 rfl ?h4) (by (repeat (first | exact List.Sublist.refl _ | exact List.nil_sublist _ | apply List.Sublist.cons_cons | apply List.Sublist.cons)); done) (by first | exact RLe.refl _ | assumption) ?_
          case r4 => (first | exact Rd.blk 0 rfl | exact Rd.blk 1 rfl | exact Rd.blk 2 rfl | exact Rd.blk 3 rfl | exact Rd.blk 4 rfl | exact Rd.blk 5 rfl)
          case h4 => rfl
          refine WA.take 1 rfl (by kernel_rfl) (by kernel_rfl) (by kernel_rfl) rfl rfl (by decide) (pureV_ok tab_ok rfl (fun _ => rfl)) (by (repeat (first | exact List.Sublist.refl _ | exact List.nil_sublist _ | apply List.Sublist.cons_cons | apply List.Sublist.cons)); done) (by first | exact RLe.refl _ | assumption) ?_
          refine WA.take 2 rfl (by kernel_rfl) (by kernel_rfl) (by kernel_rfl) rfl rfl (by decide) (pureV_ok tab_ok rfl (fun _ => rfl)) (by (repeat (first | exact List.Sublist.refl _ | exact List.nil_sublist _ | apply List.Sublist.cons_cons | apply List.Sublist.cons)); done) (by first | exact RLe.refl _ | assumption) ?_
          refine WA.take 3 rfl (by kernel_rfl) (by kernel_rfl) (by kernel_rfl) rfl rfl (by decide) (Yl.index tab_ok rfl rfl rfl rfl rfl rfl (fun _ => rfl) (by intro _; constructor <;> (try dsimp only) <;> omega) (by intro _; first | exact fun _ _ _ _ => rfl | exact RS.has (by assumption) | exact fun _ _ _ _ => (by assumption) | exact HasMem.ownD 0 rfl | exact HasMem.ownD 1 rfl | exact HasMem.ownD 2 rfl | exact HasMem.ownD 3 rfl | exact HasMem.ownD 4 rfl | exact HasMem.ownD 5 rfl)) (by (repeat (first | exact List.Sublist.refl _ | exact List.nil_sublist _ | apply List.Sublist.cons_cons | apply List.Sublist.cons)); done) (by first | exact RLe.refl _ | assumption) ?_
          refine WA.take 4 rfl (by kernel_rfl) (by kernel_rfl) (by kernel_rfl) rfl rfl (by decide) (pureV_ok tab_ok rfl (fun _ => rfl)) (by (repeat (first | exact List.Sublist.refl _ | exact List.nil_sublist _ | apply List.Sublist.cons_cons | apply List.Sublist.cons)); done) (by first | exact RLe.refl _ | assumption) ?_
          refine' WA.take 5 rfl (by kernel_rfl) (by kernel_rfl) (by kernel_rfl) rfl rfl (by decide) (Yl.load1 tab_ok rfl rfl rfl (fun _ => rfl) ?r5 rfl ?h5) (by (repeat (first | exact List.Sublist.refl _ | exact List.nil_sublist _ | apply List.Sublist.cons_cons | apply List.Sublist.cons)); done) (by first | exact RLe.refl _ | assumption) ?_
          case r5 => apply Rd.add; (first | (apply RS.rdD; assumption; ((try dsimp only) <;> omega)) | exact Rd.slD 0 rfl (by (try dsimp only) <;> omega) | exact Rd.slD 1 rfl (by (try dsimp only) <;> omega) | exact Rd.slD 2 rfl (by (try dsimp only) <;> omega) | exact Rd.slD 3 rfl (by (try dsimp only) <;> omega) | exact Rd.slD 4 rfl (by (try dsimp only) <;> omega) | exact Rd.slD 5 rfl (by (try dsimp only) <;> omega))
          case h5 => rfl
          refine WA.take 6 rfl (by kernel_rfl) (by kernel_rfl) (by kernel_rfl) rfl rfl (by decide) (Yl.sub rfl rfl rfl (fun _ => rfl) (by intro _; constructor <;> (try dsimp only) <;> omega)) (by (repeat (first | exact List.Sublist.refl _ | exact List.nil_sublist _ | apply List.Sublist.cons_cons | apply List.Sublist.cons)); done) (by first | exact RLe.refl _ | assumption) ?_
          refine WA.callG 7 rfl (by kernel_rfl) en84 rfl (by first | rfl | decide) rfl (by decide) (CallOp.mkT rfl rfl rfl rfl) (Lower05_C (c := ⟨[0], 1, cap⟩) (k := (nth z cls.toNat).most - 1) (lower_line (cap := cap) (lost := 0) (by omega) (by decide)).1 hfl1 (Nat.le_refl _) (by omega) w0 _) ?_
          rintro _ R4 E4 hR4 ⟨f, fc, rfl, hf, hsub⟩
          refine ⟨hR4, List.Sublist.trans (by (repeat (first | exact List.Sublist.refl _ | exact List.nil_sublist _ | apply List.Sublist.cons_cons | apply List.Sublist.cons)); done) hsub, ?_⟩
          refine WA.subE hsub ?_
          rw [(lower_line (cap := cap) (lost := (nth z cls.toNat).most - 1) (by omega) (by omega)).2, ← hdl] at hf ⊢
          unfold cvV
          refine WA.take 8 rfl (by kernel_rfl) (by kernel_rfl) (by kernel_rfl) rfl rfl (by decide) (pureV_ok tab_ok rfl (fun _ => rfl)) (by (repeat (first | exact List.Sublist.refl _ | exact List.nil_sublist _ | apply List.Sublist.cons_cons | apply List.Sublist.cons)); done) (by first | exact RLe.refl _ | assumption) ?_
          refine WA.take 9 rfl (by kernel_rfl) (by kernel_rfl) (by kernel_rfl) rfl rfl (by decide) (pureV_ok tab_ok rfl (fun _ => rfl)) (by (repeat (first | exact List.Sublist.refl _ | exact List.nil_sublist _ | apply List.Sublist.cons_cons | apply List.Sublist.cons)); done) (by first | exact RLe.refl _ | assumption) ?_
          first | refine WA.effN 10 rfl (by kernel_rfl) rfl rfl (Ef.store0 0 tab_ok rfl rfl rfl rfl rfl rfl rfl rfl ?_) | refine WA.effN 10 rfl (by kernel_rfl) rfl rfl (Ef.store0 1 tab_ok rfl rfl rfl rfl rfl rfl rfl rfl ?_) | refine WA.effN 10 rfl (by kernel_rfl) rfl rfl (Ef.store0 2 tab_ok rfl rfl rfl rfl rfl rfl rfl rfl ?_) | refine WA.effN 10 rfl (by kernel_rfl) rfl rfl (Ef.store0 3 tab_ok rfl rfl rfl rfl rfl rfl rfl rfl ?_) | refine WA.effN 10 rfl (by kernel_rfl) rfl rfl (Ef.store0 4 tab_ok rfl rfl rfl rfl rfl rfl rfl rfl ?_) | refine WA.effN 10 rfl (by kernel_rfl) rfl rfl (Ef.store0 5 tab_ok rfl rfl rfl rfl rfl rfl rfl rfl ?_)
          refine ⟨by first | exact RLe.refl _ | assumption, (by (repeat (first | exact List.Sublist.refl _ | exact List.nil_sublist _ | apply List.Sublist.cons_cons | apply List.Sublist.cons)); done), ?_⟩
          refine WA.take 11 rfl (by kernel_rfl) (by kernel_rfl) (by kernel_rfl) rfl rfl (by decide) (pureV_ok tab_ok rfl (fun _ => rfl)) (by (repeat (first | exact List.Sublist.refl _ | exact List.nil_sublist _ | apply List.Sublist.cons_cons | apply List.Sublist.cons)); done) (by first | exact RLe.refl _ | assumption) ?_
          refine WA.done (by kernel_rfl) ?_
          refine WE.nxt ?_
          refine W.ret ?_
          refine WE.then_ret ?_
          refine WE.retF tab_ok [_, _] rfl ⟨⟨_, _, _, rfl, rfl, rfl, ((by first | exact Rd.blk 0 rfl | exact Rd.blk 1 rfl | exact Rd.blk 2 rfl | exact Rd.blk 3 rfl | exact Rd.blk 4 rfl | exact Rd.blk 5 rfl)), rfl⟩, rfl, trivial⟩ ((by first | exact RLe.refl _ | exact hR1.trans hR4 | exact hR2.trans hR4)) ?_
          exact ⟨f, fc, by rw [hd]; rfl, by rw [hd]; rw [← hd]; exact hf, (by (repeat (first | exact List.Sublist.refl _ | exact List.nil_sublist _ | apply List.Sublist.cons_cons | apply List.Sublist.cons)); done)⟩
        · try simp only [decide_eq_true_eq, decide_eq_false_iff_not, beq_iff_eq, bne_iff_ne, beq_eq_false_iff_ne, bne_eq_false_iff_eq, ne_eq, Bool.or_eq_true, Bool.or_eq_false_iff, Bool.and_eq_true, Bool.and_eq_false_imp, Bool.not_eq_true, Bool.not_eq_true', Bool.not_eq_false', Classical.not_not, Int.not_lt, Int.not_le, gt_iff_lt, ge_iff_le] at hc3
          have hna : ¬ allT cls tb = true := by simp [hc3]
          obtain ⟨b, _, hbm⟩ := allT_not hna
          obtain ⟨lost, hlm⟩ : ∃ l, (nth z cls.toNat).most - 1 = l := ⟨_, rfl⟩
          obtain ⟨g1, g2, g3, g4⟩ := slot_build (cap := cap) (lost := lost) (mine := mineT tb cls) (n := tb.length) (by omega) (by omega) (fun i => mineT_per i) (by omega) hbm
          have hd : slotC cap cls tb z = madeR ⟨fvals (slotF cap lost (mineT tb cls) tb.length) (3 * tb.length + tb.length), tb.length, (slotF cap lost (mineT tb cls) tb.length) (4 * tb.length - 1) - (slotF cap lost (mineT tb cls) tb.length) (3 * tb.length - 1)⟩ := by unfold slotC; rw [if_neg (fun h => h hc0), if_neg hc2n, if_neg hna, hlm]
          have hFb : ∀ t : Nat, t ≤ 10000 → 0 ≤ (slotF cap lost (mineT tb cls) tb.length) t ∧ (slotF cap lost (mineT tb cls) tb.length) t ≤ 40000000 := fun t ht => by
            have h1 := slotF_bound (cap := cap) (lost := lost) (mine := mineT tb cls) (n := tb.length) (by omega) (by omega) (by omega) t
            have h2 := mulB (a := cap) (b := (t : Int)) (A := 4000) (B := 10000) (by omega) (by omega)
            omega
          have hcb : ∀ a k : Nat, k ≤ 1000 → 0 ≤ cntS cap lost (mineT tb cls) a k ∧ cntS cap lost (mineT tb cls) a k ≤ 4000000 := fun a k hk => by
            have h1 := cntS_bound (cap := cap) (lost := lost) (mine := mineT tb cls) (a := a) (by omega) (by omega) k
            have h2 := mulB (a := cap) (b := (k : Int)) (A := 4000) (B := 1000) (by omega) (by omega)
            omega
          rw [g1] at g2 g3
          have hmok : MadeOk (fvals (slotF cap lost (mineT tb cls) tb.length) (3 * tb.length + tb.length)) tb.length ((slotF cap lost (mineT tb cls) tb.length) (4 * tb.length - 1) - (slotF cap lost (mineT tb cls) tb.length) (3 * tb.length - 1)) := madeOk_fin (by omega) (by omega) (by have := hFb (4 * tb.length - 1) (by omega); have := hFb (3 * tb.length - 1) (by omega); omega) (g2.mono (by omega)) (fun t ht => by have := hFb t (by omega); omega)
          refine W.skip ?_
          refine WE.nxt ?_
          refine W.seq ?_
          refine W.region _ ?_
          refine WG.run tab_ok 3 rfl ?_
          refine WG.nil ?_
          refine WE.nxt ?_
          refine W.seq ?_
          refine W.region _ ?_
          refine WG.run tab_ok 1 rfl ?_
          -- build
          refine WG.y rfl rfl (by decide) (Yl.build (parts := [(1, .tmp 83)]) tab_ok rfl rfl rfl rfl (fun _ => rfl) rfl rfl) ?_
          refine WL.ef rfl rfl (by decide) (Ef.alloc tab_ok rfl rfl (fun b17 => ?_))
          first | refine WL.efN rfl rfl (Ef.store0 0 tab_ok rfl rfl rfl rfl rfl rfl rfl rfl ?_) | refine WL.efN rfl rfl (Ef.store0 1 tab_ok rfl rfl rfl rfl rfl rfl rfl rfl ?_) | refine WL.efN rfl rfl (Ef.store0 2 tab_ok rfl rfl rfl rfl rfl rfl rfl rfl ?_) | refine WL.efN rfl rfl (Ef.store0 3 tab_ok rfl rfl rfl rfl rfl rfl rfl rfl ?_) | refine WL.efN rfl rfl (Ef.store0 4 tab_ok rfl rfl rfl rfl rfl rfl rfl rfl ?_) | refine WL.efN rfl rfl (Ef.store0 5 tab_ok rfl rfl rfl rfl rfl rfl rfl rfl ?_)
          refine WG.nil ?_
          refine WE.nxt ?_
          refine W.seq ?_
          refine W.nil 3 1 (by decide) ?_
          refine W.seq ?_
          refine W.region _ ?_
          refine WG.run tab_ok 1 rfl ?_
          refine WG.nil ?_
          refine WE.nxt ?_
          refine W.block ?_
          refine W.loopK (β := Nat × Option Addr × Nat) (fun (k, a9, c9) => k ≤ 4 * tb.length) (fun (k, a9, c9) => [(18, true, .int .i64 (k : Int))]) [0, 1, 2, 3, 8, 16, 17] [_, _, _, _, _, _, _] [] _ rfl (fun (k, a9, c9) => [(0, .sl 3 1 a9 c9 ((fvals (slotF cap lost (mineT tb cls) tb.length) k).map encI)), (1, .blk b17 [.slice a9 (fvals (slotF cap lost (mineT tb cls) tb.length) k).length c9, .int .i64 (tb.length : Int), .int .i64 0])]) (fun (k, a9, c9) => 4 * tb.length - k) ((0, none, 0)) (Nat.zero_le _) ⟨rfl, rfl, rfl, rfl, rfl, rfl, rfl, rfl, rfl⟩ (by (repeat (first | exact List.Sublist.refl _ | exact List.nil_sublist _ | apply List.Sublist.cons_cons | apply List.Sublist.cons)); done) ?_
          intro st hst
          obtain ⟨k, a9, c9⟩ := st
          dsimp only [zipE, setAll, List.cons_append, List.nil_append, List.set_cons_zero, List.set_cons_succ] at hst ⊢
          have hfl := fvals_len (slotF cap lost (mineT tb cls) tb.length) k
          refine W.seq ?_
          refine W.seq ?_
          refine W.region _ ?_
          refine WG.run tab_ok 2 rfl ?_
          refine WG.y rfl rfl (by decide) (Yl.mul rfl rfl rfl (fun _ => rfl) (by intro _; constructor <;> (try dsimp only) <;> omega)) ?_
          refine WG.run tab_ok 1 rfl ?_
          refine WG.nil ?_
          refine WE.nxt ?_
          refine W.condD rfl (fun hc4 => ?_) (fun hc4 => ?_)
          · try dsimp only at hc4
            have hk4 : k < 4 * tb.length := by omega
            refine W.skip ?_
            refine WE.nxt ?_
            refine W.seq ?_
            refine W.block ?_
            refine W.seq ?_
            refine W.region _ ?_
            refine WG.run tab_ok 1 rfl ?_
            refine WG.nil ?_
            refine WE.nxt ?_
            refine W.seq ?_
            refine W.seq ?_
            refine W.region _ ?_
            refine WG.run tab_ok 1 rfl ?_
            refine WG.nil ?_
            refine WE.nxt ?_
            refine W.block ?_
            refine W.loopK (β := Nat) (fun f => f ≤ tb.length) (fun f => [(19, true, .int .i64 (minTo (fun a => cntS cap lost (mineT tb cls) a k) f)), (20, true, .int .i64 (f : Int))]) [0, 1, 2, 3, 8, 16, 17, 18] [_, _, _, _, _, _, _, _] [] _ rfl (fun f => []) (fun f => tb.length - f) (0) (Nat.zero_le _) ⟨rfl, rfl, rfl, rfl, rfl, rfl, rfl, rfl, rfl, rfl, rfl⟩ (by (repeat (first | exact List.Sublist.refl _ | exact List.nil_sublist _ | apply List.Sublist.cons_cons | apply List.Sublist.cons)); done) ?_
            intro f hst
            dsimp only [zipE, setAll, List.cons_append, List.nil_append, List.set_cons_zero, List.set_cons_succ] at hst ⊢
            
            refine W.seq ?_
            refine W.seq ?_
            refine W.region _ ?_
            refine WG.run tab_ok 3 rfl ?_
            refine WG.nil ?_
            refine WE.nxt ?_
            refine W.condD rfl (fun hc5 => ?_) (fun hc5 => ?_)
            · try dsimp only at hc5
              have hfl : f < tb.length := by omega
              refine W.skip ?_
              refine WE.nxt ?_
              refine W.seq ?_
              refine W.block ?_
              refine W.region _ ?_
              refine WG.run tab_ok 6 rfl ?_
              refine WG.y rfl rfl (by decide) (Yl.index tab_ok rfl rfl rfl rfl rfl rfl (fun _ => rfl) (by intro _; constructor <;> (try dsimp only) <;> omega) (by intro _; first | exact fun _ _ _ _ => rfl | exact RS.has (by assumption) | exact fun _ _ _ _ => (by assumption) | exact HasMem.ownD 0 rfl | exact HasMem.ownD 1 rfl | exact HasMem.ownD 2 rfl | exact HasMem.ownD 3 rfl | exact HasMem.ownD 4 rfl | exact HasMem.ownD 5 rfl)) ?_
              refine WG.run tab_ok 1 rfl ?_
              refine' WG.y rfl rfl (by decide) (Yl.load1 tab_ok rfl rfl rfl (fun _ => rfl) ?r6 rfl ?h6) ?_
              case r6 => apply Rd.add; (first | (apply RS.rdD; assumption; ((try dsimp only) <;> omega)) | exact Rd.slD 0 rfl (by (try dsimp only) <;> omega) | exact Rd.slD 1 rfl (by (try dsimp only) <;> omega) | exact Rd.slD 2 rfl (by (try dsimp only) <;> omega) | exact Rd.slD 3 rfl (by (try dsimp only) <;> omega) | exact Rd.slD 4 rfl (by (try dsimp only) <;> omega) | exact Rd.slD 5 rfl (by (try dsimp only) <;> omega))
              case h6 => rfl
              refine WG.run tab_ok 2 rfl ?_
              refine WG.callV (v := .int .i64 (cntS cap lost (mineT tb cls) f k)) en85 rfl rfl (by decide) (CallOp.mk' rfl rfl rfl rfl) (fun _ => rfl) (fun hg => by have h := Counts_V (wc := wc) (cap := cap) (cls := cls) (most := (nth z cls.toNat).most) (a := f) (k := k) hwr (by omega) (by omega) (by omega) (by omega); rw [hlm] at h; exact h) ?_
              refine WG.run tab_ok 2 rfl ?_
              refine WG.nil ?_
              refine WE.blk _ ?_
              refine WE.nxt ?_
              refine W.region _ ?_
              refine WG.run tab_ok 1 rfl ?_
              refine WG.y rfl rfl (by decide) (Yl.add rfl rfl rfl (fun _ => rfl) (by intro _; constructor <;> (try dsimp only) <;> omega)) ?_
              refine WG.run tab_ok 1 rfl ?_
              refine WG.nil ?_
              refine WE.again (f + 1) (by omega) (by (try dsimp only); omega) ⟨vint (by simp only [minTo]; omega), rfl, rfl, rfl, rfl, rfl, rfl, rfl, rfl, rfl, rfl⟩ (RLe.refl _) (by (repeat (first | exact List.Sublist.refl _ | exact List.nil_sublist _ | apply List.Sublist.cons_cons | apply List.Sublist.cons)); done)
            · try dsimp only at hc5
              obtain rfl : f = tb.length := by omega
              have hmn : minTo (fun a => cntS cap lost (mineT tb cls) a k) tb.length = (slotF cap lost (mineT tb cls) tb.length) k := minTo_minN (by have := hcb 0 k (by omega); omega) (by omega)
              have e1 : fvals (slotF cap lost (mineT tb cls) tb.length) (k + 1) = fvals (slotF cap lost (mineT tb cls) tb.length) k ++ [minTo (fun a => cntS cap lost (mineT tb cls) a k) tb.length] := by rw [fvals_snoc, hmn]
              refine W.exit ?_
              refine WE.then_exit ?_
              refine WE.then_exit ?_
              refine WE.blk_exit ?_
              refine WE.nxt ?_
              refine W.region _ ?_
              refine WG.run tab_ok 1 rfl ?_
              refine' WG.y rfl rfl (by decide) (Yl.load1 tab_ok rfl rfl rfl (fun _ => rfl) ?r7 rfl ?h7) ?_
              case r7 => apply Rd.add; (first | exact Rd.blk 0 rfl | exact Rd.blk 1 rfl | exact Rd.blk 2 rfl | exact Rd.blk 3 rfl | exact Rd.blk 4 rfl | exact Rd.blk 5 rfl)
              case h7 => rfl
              refine WG.run tab_ok 1 rfl ?_
              refine WL.ef rfl rfl (by decide) (Ef.buildSliceD (enc := encI) (parts := [.tmp 111]) [_] tab_ok rfl rfl rfl rfl rfl rfl rfl rfl (by decide) (by decide) (fun a112 => ?_))
              first | refine WL.ef rfl rfl (by decide) (Ef.appendD 1 0 tab_ok rfl rfl rfl rfl rfl rfl rfl rfl rfl rfl rfl (fun _ _ => rfl) (by simp only [List.length_cons, List.length_nil]; omega) (by simp only [List.length_cons, List.length_nil]; omega) (fun a113 c113 ha113 => ?_)) | refine WL.ef rfl rfl (by decide) (Ef.appendD 2 0 tab_ok rfl rfl rfl rfl rfl rfl rfl rfl rfl rfl rfl (fun _ _ => rfl) (by simp only [List.length_cons, List.length_nil]; omega) (by simp only [List.length_cons, List.length_nil]; omega) (fun a113 c113 ha113 => ?_)) | refine WL.ef rfl rfl (by decide) (Ef.appendD 3 0 tab_ok rfl rfl rfl rfl rfl rfl rfl rfl rfl rfl rfl (fun _ _ => rfl) (by simp only [List.length_cons, List.length_nil]; omega) (by simp only [List.length_cons, List.length_nil]; omega) (fun a113 c113 ha113 => ?_)) | refine WL.ef rfl rfl (by decide) (Ef.appendD 4 0 tab_ok rfl rfl rfl rfl rfl rfl rfl rfl rfl rfl rfl (fun _ _ => rfl) (by simp only [List.length_cons, List.length_nil]; omega) (by simp only [List.length_cons, List.length_nil]; omega) (fun a113 c113 ha113 => ?_)) | refine WL.ef rfl rfl (by decide) (Ef.appendD 5 0 tab_ok rfl rfl rfl rfl rfl rfl rfl rfl rfl rfl rfl (fun _ _ => rfl) (by simp only [List.length_cons, List.length_nil]; omega) (by simp only [List.length_cons, List.length_nil]; omega) (fun a113 c113 ha113 => ?_)) | refine WL.ef rfl rfl (by decide) (Ef.appendR 0 tab_ok rfl rfl rfl rfl rfl rfl rfl rfl rfl rfl (by assumption) (fun _ _ => rfl) (by (try dsimp only); omega) (by omega) (fun a113 c113 ha113 => ?_)) | refine WL.ef rfl rfl (by decide) (Ef.appendR 1 tab_ok rfl rfl rfl rfl rfl rfl rfl rfl rfl rfl (by assumption) (fun _ _ => rfl) (by (try dsimp only); omega) (by omega) (fun a113 c113 ha113 => ?_)) | refine WL.ef rfl rfl (by decide) (Ef.appendR 2 tab_ok rfl rfl rfl rfl rfl rfl rfl rfl rfl rfl (by assumption) (fun _ _ => rfl) (by (try dsimp only); omega) (by omega) (fun a113 c113 ha113 => ?_)) | refine WL.ef rfl rfl (by decide) (Ef.appendR 3 tab_ok rfl rfl rfl rfl rfl rfl rfl rfl rfl rfl (by assumption) (fun _ _ => rfl) (by (try dsimp only); omega) (by omega) (fun a113 c113 ha113 => ?_)) | refine WL.ef rfl rfl (by decide) (Ef.appendR 4 tab_ok rfl rfl rfl rfl rfl rfl rfl rfl rfl rfl (by assumption) (fun _ _ => rfl) (by (try dsimp only); omega) (by omega) (fun a113 c113 ha113 => ?_)) | refine WL.ef rfl rfl (by decide) (Ef.appendR 5 tab_ok rfl rfl rfl rfl rfl rfl rfl rfl rfl rfl (by assumption) (fun _ _ => rfl) (by (try dsimp only); omega) (by omega) (fun a113 c113 ha113 => ?_))
              refine WG.run tab_ok 1 rfl ?_
              first | refine WL.efN rfl rfl (Ef.store 0 tab_ok rfl rfl rfl rfl rfl rfl rfl rfl ?_) | refine WL.efN rfl rfl (Ef.store 1 tab_ok rfl rfl rfl rfl rfl rfl rfl rfl ?_) | refine WL.efN rfl rfl (Ef.store 2 tab_ok rfl rfl rfl rfl rfl rfl rfl rfl ?_) | refine WL.efN rfl rfl (Ef.store 3 tab_ok rfl rfl rfl rfl rfl rfl rfl rfl ?_) | refine WL.efN rfl rfl (Ef.store 4 tab_ok rfl rfl rfl rfl rfl rfl rfl rfl ?_) | refine WL.efN rfl rfl (Ef.store 5 tab_ok rfl rfl rfl rfl rfl rfl rfl rfl ?_)
              refine WG.nil ?_
              refine WE.blk _ ?_
              refine WE.nxt ?_
              refine W.region _ ?_
              refine WG.run tab_ok 1 rfl ?_
              refine WG.y rfl rfl (by decide) (Yl.add rfl rfl rfl (fun _ => rfl) (by intro _; constructor <;> (try dsimp only) <;> omega)) ?_
              refine WG.run tab_ok 1 rfl ?_
              refine WG.nil ?_
              refine WE.again ((k + 1, a113, c113)) (by dsimp only; omega) (by (try dsimp only); omega) ⟨rfl, rfl, rfl, rfl, rfl, rfl, rfl, rfl, rfl⟩ (RLe.refl _) (by dsimp only [setAll, List.set_cons_zero, List.set_cons_succ]; rw [e1]; exact List.Sublist.cons _ (List.Sublist.refl _))
          · try dsimp only at hc4
            obtain rfl : k = 4 * tb.length := by omega
            refine W.exit ?_
            refine WE.then_exit ?_
            refine WE.then_exit ?_
            refine WE.blk_exit ?_
            refine WE.nxt ?_
            refine W.cap 0 rfl ?_
            intro hcp
            rw [List.length_map, fvals_len] at hcp
            refine W.freeze (enc := encI) (xs := fvals (slotF cap lost (mineT tb cls) tb.length) (4 * tb.length)) 0 rfl ?_
            intro R2 hR2 hv0
            have h34 : 3 * tb.length + tb.length = 4 * tb.length := by omega
            rw [h34] at hmok hd
            have hfl4 := fvals_len (slotF cap lost (mineT tb cls) tb.length) (4 * tb.length)
            have eA : nth (fvals (slotF cap lost (mineT tb cls) tb.length) (4 * tb.length)) (4 * (tb.length : Int) - 1).toNat = (slotF cap lost (mineT tb cls) tb.length) (4 * tb.length - 1) := by rw [show (4 * (tb.length : Int) - 1).toNat = 4 * tb.length - 1 by omega]; exact fvals_nth _ (by omega)
            have eB : nth (fvals (slotF cap lost (mineT tb cls) tb.length) (4 * tb.length)) (3 * (tb.length : Int) - 1).toNat = (slotF cap lost (mineT tb cls) tb.length) (3 * tb.length - 1) := by rw [show (3 * (tb.length : Int) - 1).toNat = 3 * tb.length - 1 by omega]; exact fvals_nth _ (by omega)
            have hI1 := hFb (4 * tb.length - 1) (by omega)
            have hI2 := hFb (3 * tb.length - 1) (by omega)
            refine W.seq ?_
            refine W.regionH _ (ES := []) mixed ?_
            refine WA.take 0 rfl (by kernel_rfl) (by kernel_rfl) (by kernel_rfl) rfl rfl (by decide) (pureV_ok tab_ok rfl (fun _ => rfl)) (by (repeat (first | exact List.Sublist.refl _ | exact List.nil_sublist _ | apply List.Sublist.cons_cons | apply List.Sublist.cons)); done) (by first | exact RLe.refl _ | assumption) ?_
            refine WA.take 2 rfl (by kernel_rfl) (by kernel_rfl) (by kernel_rfl) rfl rfl (by decide) (pureV_ok tab_ok rfl (fun _ => rfl)) (by (repeat (first | exact List.Sublist.refl _ | exact List.nil_sublist _ | apply List.Sublist.cons_cons | apply List.Sublist.cons)); done) (by first | exact RLe.refl _ | assumption) ?_
            refine WA.take 3 rfl (by kernel_rfl) (by kernel_rfl) (by kernel_rfl) rfl rfl (by decide) (Yl.mul rfl rfl rfl (fun _ => rfl) (by intro _; constructor <;> (try dsimp only) <;> omega)) (by (repeat (first | exact List.Sublist.refl _ | exact List.nil_sublist _ | apply List.Sublist.cons_cons | apply List.Sublist.cons)); done) (by first | exact RLe.refl _ | assumption) ?_
            refine WA.take 4 rfl (by kernel_rfl) (by kernel_rfl) (by kernel_rfl) rfl rfl (by decide) (Yl.sub rfl rfl rfl (fun _ => rfl) (by intro _; constructor <;> (try dsimp only) <;> omega)) (by (repeat (first | exact List.Sublist.refl _ | exact List.nil_sublist _ | apply List.Sublist.cons_cons | apply List.Sublist.cons)); done) (by first | exact RLe.refl _ | assumption) ?_
            refine WA.take 7 rfl (by kernel_rfl) (by kernel_rfl) (by kernel_rfl) rfl rfl (by decide) (pureV_ok tab_ok rfl (fun _ => rfl)) (by (repeat (first | exact List.Sublist.refl _ | exact List.nil_sublist _ | apply List.Sublist.cons_cons | apply List.Sublist.cons)); done) (by first | exact RLe.refl _ | assumption) ?_
            refine WA.take 9 rfl (by kernel_rfl) (by kernel_rfl) (by kernel_rfl) rfl rfl (by decide) (pureV_ok tab_ok rfl (fun _ => rfl)) (by (repeat (first | exact List.Sublist.refl _ | exact List.nil_sublist _ | apply List.Sublist.cons_cons | apply List.Sublist.cons)); done) (by first | exact RLe.refl _ | assumption) ?_
            refine WA.take 10 rfl (by kernel_rfl) (by kernel_rfl) (by kernel_rfl) rfl rfl (by decide) (Yl.mul rfl rfl rfl (fun _ => rfl) (by intro _; constructor <;> (try dsimp only) <;> omega)) (by (repeat (first | exact List.Sublist.refl _ | exact List.nil_sublist _ | apply List.Sublist.cons_cons | apply List.Sublist.cons)); done) (by first | exact RLe.refl _ | assumption) ?_
            refine WA.take 11 rfl (by kernel_rfl) (by kernel_rfl) (by kernel_rfl) rfl rfl (by decide) (Yl.sub rfl rfl rfl (fun _ => rfl) (by intro _; constructor <;> (try dsimp only) <;> omega)) (by (repeat (first | exact List.Sublist.refl _ | exact List.nil_sublist _ | apply List.Sublist.cons_cons | apply List.Sublist.cons)); done) (by first | exact RLe.refl _ | assumption) ?_
            refine WA.br2 (i := 1) (j := 8) (by kernel_rfl) ?_ ?_
            ·
              refine' WS.yl rfl rfl rfl (by decide) (Yl.load1 tab_ok rfl rfl rfl (fun _ => rfl) ?r8 rfl ?h8) (by (repeat (first | exact List.Sublist.refl _ | exact List.nil_sublist _ | apply List.Sublist.cons_cons | apply List.Sublist.cons)); done) (RLe.refl _) ?_
              case r8 => apply Rd.add; (first | exact Rd.blk 0 rfl | exact Rd.blk 1 rfl | exact Rd.blk 2 rfl | exact Rd.blk 3 rfl | exact Rd.blk 4 rfl | exact Rd.blk 5 rfl)
              case h8 => rfl
              refine WA.take 5 rfl (by kernel_rfl) (by kernel_rfl) (by kernel_rfl) rfl rfl (by decide) (Yl.index tab_ok rfl rfl rfl rfl rfl rfl (fun _ => rfl) (by intro _; constructor <;> (try dsimp only) <;> omega) (by intro _; first | exact fun _ _ _ _ => rfl | exact RS.has (by assumption) | exact fun _ _ _ _ => (by assumption) | exact HasMem.ownD 0 rfl | exact HasMem.ownD 1 rfl | exact HasMem.ownD 2 rfl | exact HasMem.ownD 3 rfl | exact HasMem.ownD 4 rfl | exact HasMem.ownD 5 rfl)) (by (repeat (first | exact List.Sublist.refl _ | exact List.nil_sublist _ | apply List.Sublist.cons_cons | apply List.Sublist.cons)); done) (by first | exact RLe.refl _ | assumption) ?_
              refine WA.br2 (i := 6) (j := 8) (by kernel_rfl) ?_ ?_
              ·
                refine' WS.yl rfl rfl rfl (by decide) (Yl.load1 tab_ok rfl rfl rfl (fun _ => rfl) ?r9 rfl ?h9) (by (repeat (first | exact List.Sublist.refl _ | exact List.nil_sublist _ | apply List.Sublist.cons_cons | apply List.Sublist.cons)); done) (RLe.refl _) ?_
                case r9 => exact RS.rdD hv0 (by omega)
                case h9 => rfl
                refine' WA.yl 8 rfl (by kernel_rfl) rfl rfl (by decide) (Yl.load1 tab_ok rfl rfl rfl (fun _ => rfl) ?r10 rfl ?h10) (by (repeat (first | exact List.Sublist.refl _ | exact List.nil_sublist _ | apply List.Sublist.cons_cons | apply List.Sublist.cons)); done) (RLe.refl _) ?_
                case r10 => apply Rd.add; (first | exact Rd.blk 0 rfl | exact Rd.blk 1 rfl | exact Rd.blk 2 rfl | exact Rd.blk 3 rfl | exact Rd.blk 4 rfl | exact Rd.blk 5 rfl)
                case h10 => rfl
                refine WA.take 12 rfl (by kernel_rfl) (by kernel_rfl) (by kernel_rfl) rfl rfl (by decide) (Yl.index tab_ok rfl rfl rfl rfl rfl rfl (fun _ => rfl) (by intro _; constructor <;> (try dsimp only) <;> omega) (by intro _; first | exact fun _ _ _ _ => rfl | exact RS.has (by assumption) | exact fun _ _ _ _ => (by assumption) | exact HasMem.ownD 0 rfl | exact HasMem.ownD 1 rfl | exact HasMem.ownD 2 rfl | exact HasMem.ownD 3 rfl | exact HasMem.ownD 4 rfl | exact HasMem.ownD 5 rfl)) (by (repeat (first | exact List.Sublist.refl _ | exact List.nil_sublist _ | apply List.Sublist.cons_cons | apply List.Sublist.cons)); done) (by first | exact RLe.refl _ | assumption) ?_
                refine' WA.yl 13 rfl (by kernel_rfl) rfl rfl (by decide) (Yl.load1 tab_ok rfl rfl rfl (fun _ => rfl) ?r11 rfl ?h11) (by (repeat (first | exact List.Sublist.refl _ | exact List.nil_sublist _ | apply List.Sublist.cons_cons | apply List.Sublist.cons)); done) (RLe.refl _) ?_
                case r11 => exact RS.rdD hv0 (by omega)
                case h11 => rfl
                refine WA.take 14 rfl (by kernel_rfl) (by kernel_rfl) (by kernel_rfl) rfl rfl (by decide) (Yl.sub rfl rfl rfl (fun _ => rfl) (by intro _; rw [eA, eB]; constructor <;> omega)) (by (repeat (first | exact List.Sublist.refl _ | exact List.nil_sublist _ | apply List.Sublist.cons_cons | apply List.Sublist.cons)); done) (by first | exact RLe.refl _ | assumption) ?_
                refine WA.take 15 rfl (by kernel_rfl) (by kernel_rfl) (by kernel_rfl) rfl rfl (by decide) (pureV_ok tab_ok rfl (fun _ => rfl)) (by (repeat (first | exact List.Sublist.refl _ | exact List.nil_sublist _ | apply List.Sublist.cons_cons | apply List.Sublist.cons)); done) (by first | exact RLe.refl _ | assumption) ?_
                first | refine WA.effN 16 rfl (by kernel_rfl) rfl rfl (Ef.store 0 tab_ok rfl rfl rfl rfl rfl rfl rfl rfl ?_) | refine WA.effN 16 rfl (by kernel_rfl) rfl rfl (Ef.store 1 tab_ok rfl rfl rfl rfl rfl rfl rfl rfl ?_) | refine WA.effN 16 rfl (by kernel_rfl) rfl rfl (Ef.store 2 tab_ok rfl rfl rfl rfl rfl rfl rfl rfl ?_) | refine WA.effN 16 rfl (by kernel_rfl) rfl rfl (Ef.store 3 tab_ok rfl rfl rfl rfl rfl rfl rfl rfl ?_) | refine WA.effN 16 rfl (by kernel_rfl) rfl rfl (Ef.store 4 tab_ok rfl rfl rfl rfl rfl rfl rfl rfl ?_) | refine WA.effN 16 rfl (by kernel_rfl) rfl rfl (Ef.store 5 tab_ok rfl rfl rfl rfl rfl rfl rfl rfl ?_)
                refine ⟨by first | exact RLe.refl _ | assumption, (by (repeat (first | exact List.Sublist.refl _ | exact List.nil_sublist _ | apply List.Sublist.cons_cons | apply List.Sublist.cons)); done), ?_⟩
                refine WA.done (by kernel_rfl) ?_
                refine WE.nxt ?_
                rw [eA, eB]
                refine W.seq ?_
                refine W.region _ ?_
                refine' WG.y rfl rfl (by decide) (Yl.load1 tab_ok rfl rfl rfl (fun _ => rfl) ?r12 rfl ?h12) ?_
                case r12 => (first | exact Rd.blk 0 rfl | exact Rd.blk 1 rfl | exact Rd.blk 2 rfl | exact Rd.blk 3 rfl | exact Rd.blk 4 rfl | exact Rd.blk 5 rfl)
                case h12 => rfl
                refine WL.call en86 rfl rfl (by decide) (CallOp.mkT rfl rfl rfl rfl) (MadeG_C hv0 (by rw [fvals_len]; omega) hmok (by rw [fvals_len]; exact hcp) w0 _) ?_
                rintro _ R4 E4 hR4 ⟨f, fc, rfl, hf, hsub⟩
                refine WL.subE hsub ?_
                unfold cvV
                refine WG.run tab_ok 2 rfl ?_
                first | refine WL.efN rfl rfl (Ef.store0 0 tab_ok rfl rfl rfl rfl rfl rfl rfl rfl ?_) | refine WL.efN rfl rfl (Ef.store0 1 tab_ok rfl rfl rfl rfl rfl rfl rfl rfl ?_) | refine WL.efN rfl rfl (Ef.store0 2 tab_ok rfl rfl rfl rfl rfl rfl rfl rfl ?_) | refine WL.efN rfl rfl (Ef.store0 3 tab_ok rfl rfl rfl rfl rfl rfl rfl rfl ?_) | refine WL.efN rfl rfl (Ef.store0 4 tab_ok rfl rfl rfl rfl rfl rfl rfl rfl ?_) | refine WL.efN rfl rfl (Ef.store0 5 tab_ok rfl rfl rfl rfl rfl rfl rfl rfl ?_)
                refine WG.run tab_ok 1 rfl ?_
                refine WG.nil ?_
                refine WE.nxt ?_
                refine W.ret ?_
                refine WE.retF tab_ok [_, _] rfl ⟨⟨_, _, _, rfl, rfl, rfl, ((by first | exact Rd.blk 0 rfl | exact Rd.blk 1 rfl | exact Rd.blk 2 rfl | exact Rd.blk 3 rfl | exact Rd.blk 4 rfl | exact Rd.blk 5 rfl)), rfl⟩, rfl, trivial⟩ ((by first | exact RLe.refl _ | exact hR1.trans hR4 | exact hR2.trans hR4)) ?_
                exact ⟨f, fc, by rw [hd]; rfl, by rw [hd]; exact hf, (by (repeat (first | exact List.Sublist.refl _ | exact List.nil_sublist _ | apply List.Sublist.cons_cons | apply List.Sublist.cons)); done)⟩
              ·
                refine' WS.yl rfl rfl rfl (by decide) (Yl.load1 tab_ok rfl rfl rfl (fun _ => rfl) ?r13 rfl ?h13) (by (repeat (first | exact List.Sublist.refl _ | exact List.nil_sublist _ | apply List.Sublist.cons_cons | apply List.Sublist.cons)); done) (RLe.refl _) ?_
                case r13 => apply Rd.add; (first | exact Rd.blk 0 rfl | exact Rd.blk 1 rfl | exact Rd.blk 2 rfl | exact Rd.blk 3 rfl | exact Rd.blk 4 rfl | exact Rd.blk 5 rfl)
                case h13 => rfl
                refine WA.take 12 rfl (by kernel_rfl) (by kernel_rfl) (by kernel_rfl) rfl rfl (by decide) (Yl.index tab_ok rfl rfl rfl rfl rfl rfl (fun _ => rfl) (by intro _; constructor <;> (try dsimp only) <;> omega) (by intro _; first | exact fun _ _ _ _ => rfl | exact RS.has (by assumption) | exact fun _ _ _ _ => (by assumption) | exact HasMem.ownD 0 rfl | exact HasMem.ownD 1 rfl | exact HasMem.ownD 2 rfl | exact HasMem.ownD 3 rfl | exact HasMem.ownD 4 rfl | exact HasMem.ownD 5 rfl)) (by (repeat (first | exact List.Sublist.refl _ | exact List.nil_sublist _ | apply List.Sublist.cons_cons | apply List.Sublist.cons)); done) (by first | exact RLe.refl _ | assumption) ?_
                refine WA.br2 (i := 6) (j := 13) (by kernel_rfl) ?_ ?_
                ·
                  refine' WS.yl rfl rfl rfl (by decide) (Yl.load1 tab_ok rfl rfl rfl (fun _ => rfl) ?r14 rfl ?h14) (by (repeat (first | exact List.Sublist.refl _ | exact List.nil_sublist _ | apply List.Sublist.cons_cons | apply List.Sublist.cons)); done) (RLe.refl _) ?_
                  case r14 => exact RS.rdD hv0 (by omega)
                  case h14 => rfl
                  refine' WA.yl 13 rfl (by kernel_rfl) rfl rfl (by decide) (Yl.load1 tab_ok rfl rfl rfl (fun _ => rfl) ?r15 rfl ?h15) (by (repeat (first | exact List.Sublist.refl _ | exact List.nil_sublist _ | apply List.Sublist.cons_cons | apply List.Sublist.cons)); done) (RLe.refl _) ?_
                  case r15 => exact RS.rdD hv0 (by omega)
                  case h15 => rfl
                  refine WA.take 14 rfl (by kernel_rfl) (by kernel_rfl) (by kernel_rfl) rfl rfl (by decide) (Yl.sub rfl rfl rfl (fun _ => rfl) (by intro _; rw [eA, eB]; constructor <;> omega)) (by (repeat (first | exact List.Sublist.refl _ | exact List.nil_sublist _ | apply List.Sublist.cons_cons | apply List.Sublist.cons)); done) (by first | exact RLe.refl _ | assumption) ?_
                  refine WA.take 15 rfl (by kernel_rfl) (by kernel_rfl) (by kernel_rfl) rfl rfl (by decide) (pureV_ok tab_ok rfl (fun _ => rfl)) (by (repeat (first | exact List.Sublist.refl _ | exact List.nil_sublist _ | apply List.Sublist.cons_cons | apply List.Sublist.cons)); done) (by first | exact RLe.refl _ | assumption) ?_
                  first | refine WA.effN 16 rfl (by kernel_rfl) rfl rfl (Ef.store 0 tab_ok rfl rfl rfl rfl rfl rfl rfl rfl ?_) | refine WA.effN 16 rfl (by kernel_rfl) rfl rfl (Ef.store 1 tab_ok rfl rfl rfl rfl rfl rfl rfl rfl ?_) | refine WA.effN 16 rfl (by kernel_rfl) rfl rfl (Ef.store 2 tab_ok rfl rfl rfl rfl rfl rfl rfl rfl ?_) | refine WA.effN 16 rfl (by kernel_rfl) rfl rfl (Ef.store 3 tab_ok rfl rfl rfl rfl rfl rfl rfl rfl ?_) | refine WA.effN 16 rfl (by kernel_rfl) rfl rfl (Ef.store 4 tab_ok rfl rfl rfl rfl rfl rfl rfl rfl ?_) | refine WA.effN 16 rfl (by kernel_rfl) rfl rfl (Ef.store 5 tab_ok rfl rfl rfl rfl rfl rfl rfl rfl ?_)
                  refine ⟨by first | exact RLe.refl _ | assumption, (by (repeat (first | exact List.Sublist.refl _ | exact List.nil_sublist _ | apply List.Sublist.cons_cons | apply List.Sublist.cons)); done), ?_⟩
                  refine WA.done (by kernel_rfl) ?_
                  refine WE.nxt ?_
                  rw [eA, eB]
                  refine W.seq ?_
                  refine W.region _ ?_
                  refine' WG.y rfl rfl (by decide) (Yl.load1 tab_ok rfl rfl rfl (fun _ => rfl) ?r16 rfl ?h16) ?_
                  case r16 => (first | exact Rd.blk 0 rfl | exact Rd.blk 1 rfl | exact Rd.blk 2 rfl | exact Rd.blk 3 rfl | exact Rd.blk 4 rfl | exact Rd.blk 5 rfl)
                  case h16 => rfl
                  refine WL.call en86 rfl rfl (by decide) (CallOp.mkT rfl rfl rfl rfl) (MadeG_C hv0 (by rw [fvals_len]; omega) hmok (by rw [fvals_len]; exact hcp) w0 _) ?_
                  rintro _ R4 E4 hR4 ⟨f, fc, rfl, hf, hsub⟩
                  refine WL.subE hsub ?_
                  unfold cvV
                  refine WG.run tab_ok 2 rfl ?_
                  first | refine WL.efN rfl rfl (Ef.store0 0 tab_ok rfl rfl rfl rfl rfl rfl rfl rfl ?_) | refine WL.efN rfl rfl (Ef.store0 1 tab_ok rfl rfl rfl rfl rfl rfl rfl rfl ?_) | refine WL.efN rfl rfl (Ef.store0 2 tab_ok rfl rfl rfl rfl rfl rfl rfl rfl ?_) | refine WL.efN rfl rfl (Ef.store0 3 tab_ok rfl rfl rfl rfl rfl rfl rfl rfl ?_) | refine WL.efN rfl rfl (Ef.store0 4 tab_ok rfl rfl rfl rfl rfl rfl rfl rfl ?_) | refine WL.efN rfl rfl (Ef.store0 5 tab_ok rfl rfl rfl rfl rfl rfl rfl rfl ?_)
                  refine WG.run tab_ok 1 rfl ?_
                  refine WG.nil ?_
                  refine WE.nxt ?_
                  refine W.ret ?_
                  refine WE.retF tab_ok [_, _] rfl ⟨⟨_, _, _, rfl, rfl, rfl, ((by first | exact Rd.blk 0 rfl | exact Rd.blk 1 rfl | exact Rd.blk 2 rfl | exact Rd.blk 3 rfl | exact Rd.blk 4 rfl | exact Rd.blk 5 rfl)), rfl⟩, rfl, trivial⟩ ((by first | exact RLe.refl _ | exact hR1.trans hR4 | exact hR2.trans hR4)) ?_
                  exact ⟨f, fc, by rw [hd]; rfl, by rw [hd]; exact hf, (by (repeat (first | exact List.Sublist.refl _ | exact List.nil_sublist _ | apply List.Sublist.cons_cons | apply List.Sublist.cons)); done)⟩
                ·
                  refine' WS.yl rfl rfl rfl (by decide) (Yl.load1 tab_ok rfl rfl rfl (fun _ => rfl) ?r17 rfl ?h17) (by (repeat (first | exact List.Sublist.refl _ | exact List.nil_sublist _ | apply List.Sublist.cons_cons | apply List.Sublist.cons)); done) (RLe.refl _) ?_
                  case r17 => exact RS.rdD hv0 (by omega)
                  case h17 => rfl
                  refine' WA.yl 6 rfl (by kernel_rfl) rfl rfl (by decide) (Yl.load1 tab_ok rfl rfl rfl (fun _ => rfl) ?r18 rfl ?h18) (by (repeat (first | exact List.Sublist.refl _ | exact List.nil_sublist _ | apply List.Sublist.cons_cons | apply List.Sublist.cons)); done) (RLe.refl _) ?_
                  case r18 => exact RS.rdD hv0 (by omega)
                  case h18 => rfl
                  refine WA.take 14 rfl (by kernel_rfl) (by kernel_rfl) (by kernel_rfl) rfl rfl (by decide) (Yl.sub rfl rfl rfl (fun _ => rfl) (by intro _; rw [eA, eB]; constructor <;> omega)) (by (repeat (first | exact List.Sublist.refl _ | exact List.nil_sublist _ | apply List.Sublist.cons_cons | apply List.Sublist.cons)); done) (by first | exact RLe.refl _ | assumption) ?_
                  refine WA.take 15 rfl (by kernel_rfl) (by kernel_rfl) (by kernel_rfl) rfl rfl (by decide) (pureV_ok tab_ok rfl (fun _ => rfl)) (by (repeat (first | exact List.Sublist.refl _ | exact List.nil_sublist _ | apply List.Sublist.cons_cons | apply List.Sublist.cons)); done) (by first | exact RLe.refl _ | assumption) ?_
                  first | refine WA.effN 16 rfl (by kernel_rfl) rfl rfl (Ef.store 0 tab_ok rfl rfl rfl rfl rfl rfl rfl rfl ?_) | refine WA.effN 16 rfl (by kernel_rfl) rfl rfl (Ef.store 1 tab_ok rfl rfl rfl rfl rfl rfl rfl rfl ?_) | refine WA.effN 16 rfl (by kernel_rfl) rfl rfl (Ef.store 2 tab_ok rfl rfl rfl rfl rfl rfl rfl rfl ?_) | refine WA.effN 16 rfl (by kernel_rfl) rfl rfl (Ef.store 3 tab_ok rfl rfl rfl rfl rfl rfl rfl rfl ?_) | refine WA.effN 16 rfl (by kernel_rfl) rfl rfl (Ef.store 4 tab_ok rfl rfl rfl rfl rfl rfl rfl rfl ?_) | refine WA.effN 16 rfl (by kernel_rfl) rfl rfl (Ef.store 5 tab_ok rfl rfl rfl rfl rfl rfl rfl rfl ?_)
                  refine ⟨by first | exact RLe.refl _ | assumption, (by (repeat (first | exact List.Sublist.refl _ | exact List.nil_sublist _ | apply List.Sublist.cons_cons | apply List.Sublist.cons)); done), ?_⟩
                  refine WA.done (by kernel_rfl) ?_
                  refine WE.nxt ?_
                  rw [eA, eB]
                  refine W.seq ?_
                  refine W.region _ ?_
                  refine' WG.y rfl rfl (by decide) (Yl.load1 tab_ok rfl rfl rfl (fun _ => rfl) ?r19 rfl ?h19) ?_
                  case r19 => (first | exact Rd.blk 0 rfl | exact Rd.blk 1 rfl | exact Rd.blk 2 rfl | exact Rd.blk 3 rfl | exact Rd.blk 4 rfl | exact Rd.blk 5 rfl)
                  case h19 => rfl
                  refine WL.call en86 rfl rfl (by decide) (CallOp.mkT rfl rfl rfl rfl) (MadeG_C hv0 (by rw [fvals_len]; omega) hmok (by rw [fvals_len]; exact hcp) w0 _) ?_
                  rintro _ R4 E4 hR4 ⟨f, fc, rfl, hf, hsub⟩
                  refine WL.subE hsub ?_
                  unfold cvV
                  refine WG.run tab_ok 2 rfl ?_
                  first | refine WL.efN rfl rfl (Ef.store0 0 tab_ok rfl rfl rfl rfl rfl rfl rfl rfl ?_) | refine WL.efN rfl rfl (Ef.store0 1 tab_ok rfl rfl rfl rfl rfl rfl rfl rfl ?_) | refine WL.efN rfl rfl (Ef.store0 2 tab_ok rfl rfl rfl rfl rfl rfl rfl rfl ?_) | refine WL.efN rfl rfl (Ef.store0 3 tab_ok rfl rfl rfl rfl rfl rfl rfl rfl ?_) | refine WL.efN rfl rfl (Ef.store0 4 tab_ok rfl rfl rfl rfl rfl rfl rfl rfl ?_) | refine WL.efN rfl rfl (Ef.store0 5 tab_ok rfl rfl rfl rfl rfl rfl rfl rfl ?_)
                  refine WG.run tab_ok 1 rfl ?_
                  refine WG.nil ?_
                  refine WE.nxt ?_
                  refine W.ret ?_
                  refine WE.retF tab_ok [_, _] rfl ⟨⟨_, _, _, rfl, rfl, rfl, ((by first | exact Rd.blk 0 rfl | exact Rd.blk 1 rfl | exact Rd.blk 2 rfl | exact Rd.blk 3 rfl | exact Rd.blk 4 rfl | exact Rd.blk 5 rfl)), rfl⟩, rfl, trivial⟩ ((by first | exact RLe.refl _ | exact hR1.trans hR4 | exact hR2.trans hR4)) ?_
                  exact ⟨f, fc, by rw [hd]; rfl, by rw [hd]; exact hf, (by (repeat (first | exact List.Sublist.refl _ | exact List.nil_sublist _ | apply List.Sublist.cons_cons | apply List.Sublist.cons)); done)⟩
            ·
              refine' WS.yl rfl rfl rfl (by decide) (Yl.load1 tab_ok rfl rfl rfl (fun _ => rfl) ?r20 rfl ?h20) (by (repeat (first | exact List.Sublist.refl _ | exact List.nil_sublist _ | apply List.Sublist.cons_cons | apply List.Sublist.cons)); done) (RLe.refl _) ?_
              case r20 => apply Rd.add; (first | exact Rd.blk 0 rfl | exact Rd.blk 1 rfl | exact Rd.blk 2 rfl | exact Rd.blk 3 rfl | exact Rd.blk 4 rfl | exact Rd.blk 5 rfl)
              case h20 => rfl
              refine WA.take 12 rfl (by kernel_rfl) (by kernel_rfl) (by kernel_rfl) rfl rfl (by decide) (Yl.index tab_ok rfl rfl rfl rfl rfl rfl (fun _ => rfl) (by intro _; constructor <;> (try dsimp only) <;> omega) (by intro _; first | exact fun _ _ _ _ => rfl | exact RS.has (by assumption) | exact fun _ _ _ _ => (by assumption) | exact HasMem.ownD 0 rfl | exact HasMem.ownD 1 rfl | exact HasMem.ownD 2 rfl | exact HasMem.ownD 3 rfl | exact HasMem.ownD 4 rfl | exact HasMem.ownD 5 rfl)) (by (repeat (first | exact List.Sublist.refl _ | exact List.nil_sublist _ | apply List.Sublist.cons_cons | apply List.Sublist.cons)); done) (by first | exact RLe.refl _ | assumption) ?_
              refine WA.br2 (i := 1) (j := 13) (by kernel_rfl) ?_ ?_
              ·
                refine' WS.yl rfl rfl rfl (by decide) (Yl.load1 tab_ok rfl rfl rfl (fun _ => rfl) ?r21 rfl ?h21) (by (repeat (first | exact List.Sublist.refl _ | exact List.nil_sublist _ | apply List.Sublist.cons_cons | apply List.Sublist.cons)); done) (RLe.refl _) ?_
                case r21 => apply Rd.add; (first | exact Rd.blk 0 rfl | exact Rd.blk 1 rfl | exact Rd.blk 2 rfl | exact Rd.blk 3 rfl | exact Rd.blk 4 rfl | exact Rd.blk 5 rfl)
                case h21 => rfl
                refine WA.take 5 rfl (by kernel_rfl) (by kernel_rfl) (by kernel_rfl) rfl rfl (by decide) (Yl.index tab_ok rfl rfl rfl rfl rfl rfl (fun _ => rfl) (by intro _; constructor <;> (try dsimp only) <;> omega) (by intro _; first | exact fun _ _ _ _ => rfl | exact RS.has (by assumption) | exact fun _ _ _ _ => (by assumption) | exact HasMem.ownD 0 rfl | exact HasMem.ownD 1 rfl | exact HasMem.ownD 2 rfl | exact HasMem.ownD 3 rfl | exact HasMem.ownD 4 rfl | exact HasMem.ownD 5 rfl)) (by (repeat (first | exact List.Sublist.refl _ | exact List.nil_sublist _ | apply List.Sublist.cons_cons | apply List.Sublist.cons)); done) (by first | exact RLe.refl _ | assumption) ?_
                refine WA.br2 (i := 6) (j := 13) (by kernel_rfl) ?_ ?_
                ·
                  refine' WS.yl rfl rfl rfl (by decide) (Yl.load1 tab_ok rfl rfl rfl (fun _ => rfl) ?r22 rfl ?h22) (by (repeat (first | exact List.Sublist.refl _ | exact List.nil_sublist _ | apply List.Sublist.cons_cons | apply List.Sublist.cons)); done) (RLe.refl _) ?_
                  case r22 => exact RS.rdD hv0 (by omega)
                  case h22 => rfl
                  refine' WA.yl 13 rfl (by kernel_rfl) rfl rfl (by decide) (Yl.load1 tab_ok rfl rfl rfl (fun _ => rfl) ?r23 rfl ?h23) (by (repeat (first | exact List.Sublist.refl _ | exact List.nil_sublist _ | apply List.Sublist.cons_cons | apply List.Sublist.cons)); done) (RLe.refl _) ?_
                  case r23 => exact RS.rdD hv0 (by omega)
                  case h23 => rfl
                  refine WA.take 14 rfl (by kernel_rfl) (by kernel_rfl) (by kernel_rfl) rfl rfl (by decide) (Yl.sub rfl rfl rfl (fun _ => rfl) (by intro _; rw [eA, eB]; constructor <;> omega)) (by (repeat (first | exact List.Sublist.refl _ | exact List.nil_sublist _ | apply List.Sublist.cons_cons | apply List.Sublist.cons)); done) (by first | exact RLe.refl _ | assumption) ?_
                  refine WA.take 15 rfl (by kernel_rfl) (by kernel_rfl) (by kernel_rfl) rfl rfl (by decide) (pureV_ok tab_ok rfl (fun _ => rfl)) (by (repeat (first | exact List.Sublist.refl _ | exact List.nil_sublist _ | apply List.Sublist.cons_cons | apply List.Sublist.cons)); done) (by first | exact RLe.refl _ | assumption) ?_
                  first | refine WA.effN 16 rfl (by kernel_rfl) rfl rfl (Ef.store 0 tab_ok rfl rfl rfl rfl rfl rfl rfl rfl ?_) | refine WA.effN 16 rfl (by kernel_rfl) rfl rfl (Ef.store 1 tab_ok rfl rfl rfl rfl rfl rfl rfl rfl ?_) | refine WA.effN 16 rfl (by kernel_rfl) rfl rfl (Ef.store 2 tab_ok rfl rfl rfl rfl rfl rfl rfl rfl ?_) | refine WA.effN 16 rfl (by kernel_rfl) rfl rfl (Ef.store 3 tab_ok rfl rfl rfl rfl rfl rfl rfl rfl ?_) | refine WA.effN 16 rfl (by kernel_rfl) rfl rfl (Ef.store 4 tab_ok rfl rfl rfl rfl rfl rfl rfl rfl ?_) | refine WA.effN 16 rfl (by kernel_rfl) rfl rfl (Ef.store 5 tab_ok rfl rfl rfl rfl rfl rfl rfl rfl ?_)
                  refine ⟨by first | exact RLe.refl _ | assumption, (by (repeat (first | exact List.Sublist.refl _ | exact List.nil_sublist _ | apply List.Sublist.cons_cons | apply List.Sublist.cons)); done), ?_⟩
                  refine WA.done (by kernel_rfl) ?_
                  refine WE.nxt ?_
                  rw [eA, eB]
                  refine W.seq ?_
                  refine W.region _ ?_
                  refine' WG.y rfl rfl (by decide) (Yl.load1 tab_ok rfl rfl rfl (fun _ => rfl) ?r24 rfl ?h24) ?_
                  case r24 => (first | exact Rd.blk 0 rfl | exact Rd.blk 1 rfl | exact Rd.blk 2 rfl | exact Rd.blk 3 rfl | exact Rd.blk 4 rfl | exact Rd.blk 5 rfl)
                  case h24 => rfl
                  refine WL.call en86 rfl rfl (by decide) (CallOp.mkT rfl rfl rfl rfl) (MadeG_C hv0 (by rw [fvals_len]; omega) hmok (by rw [fvals_len]; exact hcp) w0 _) ?_
                  rintro _ R4 E4 hR4 ⟨f, fc, rfl, hf, hsub⟩
                  refine WL.subE hsub ?_
                  unfold cvV
                  refine WG.run tab_ok 2 rfl ?_
                  first | refine WL.efN rfl rfl (Ef.store0 0 tab_ok rfl rfl rfl rfl rfl rfl rfl rfl ?_) | refine WL.efN rfl rfl (Ef.store0 1 tab_ok rfl rfl rfl rfl rfl rfl rfl rfl ?_) | refine WL.efN rfl rfl (Ef.store0 2 tab_ok rfl rfl rfl rfl rfl rfl rfl rfl ?_) | refine WL.efN rfl rfl (Ef.store0 3 tab_ok rfl rfl rfl rfl rfl rfl rfl rfl ?_) | refine WL.efN rfl rfl (Ef.store0 4 tab_ok rfl rfl rfl rfl rfl rfl rfl rfl ?_) | refine WL.efN rfl rfl (Ef.store0 5 tab_ok rfl rfl rfl rfl rfl rfl rfl rfl ?_)
                  refine WG.run tab_ok 1 rfl ?_
                  refine WG.nil ?_
                  refine WE.nxt ?_
                  refine W.ret ?_
                  refine WE.retF tab_ok [_, _] rfl ⟨⟨_, _, _, rfl, rfl, rfl, ((by first | exact Rd.blk 0 rfl | exact Rd.blk 1 rfl | exact Rd.blk 2 rfl | exact Rd.blk 3 rfl | exact Rd.blk 4 rfl | exact Rd.blk 5 rfl)), rfl⟩, rfl, trivial⟩ ((by first | exact RLe.refl _ | exact hR1.trans hR4 | exact hR2.trans hR4)) ?_
                  exact ⟨f, fc, by rw [hd]; rfl, by rw [hd]; exact hf, (by (repeat (first | exact List.Sublist.refl _ | exact List.nil_sublist _ | apply List.Sublist.cons_cons | apply List.Sublist.cons)); done)⟩
                ·
                  refine' WS.yl rfl rfl rfl (by decide) (Yl.load1 tab_ok rfl rfl rfl (fun _ => rfl) ?r25 rfl ?h25) (by (repeat (first | exact List.Sublist.refl _ | exact List.nil_sublist _ | apply List.Sublist.cons_cons | apply List.Sublist.cons)); done) (RLe.refl _) ?_
                  case r25 => exact RS.rdD hv0 (by omega)
                  case h25 => rfl
                  refine' WA.yl 6 rfl (by kernel_rfl) rfl rfl (by decide) (Yl.load1 tab_ok rfl rfl rfl (fun _ => rfl) ?r26 rfl ?h26) (by (repeat (first | exact List.Sublist.refl _ | exact List.nil_sublist _ | apply List.Sublist.cons_cons | apply List.Sublist.cons)); done) (RLe.refl _) ?_
                  case r26 => exact RS.rdD hv0 (by omega)
                  case h26 => rfl
                  refine WA.take 14 rfl (by kernel_rfl) (by kernel_rfl) (by kernel_rfl) rfl rfl (by decide) (Yl.sub rfl rfl rfl (fun _ => rfl) (by intro _; rw [eA, eB]; constructor <;> omega)) (by (repeat (first | exact List.Sublist.refl _ | exact List.nil_sublist _ | apply List.Sublist.cons_cons | apply List.Sublist.cons)); done) (by first | exact RLe.refl _ | assumption) ?_
                  refine WA.take 15 rfl (by kernel_rfl) (by kernel_rfl) (by kernel_rfl) rfl rfl (by decide) (pureV_ok tab_ok rfl (fun _ => rfl)) (by (repeat (first | exact List.Sublist.refl _ | exact List.nil_sublist _ | apply List.Sublist.cons_cons | apply List.Sublist.cons)); done) (by first | exact RLe.refl _ | assumption) ?_
                  first | refine WA.effN 16 rfl (by kernel_rfl) rfl rfl (Ef.store 0 tab_ok rfl rfl rfl rfl rfl rfl rfl rfl ?_) | refine WA.effN 16 rfl (by kernel_rfl) rfl rfl (Ef.store 1 tab_ok rfl rfl rfl rfl rfl rfl rfl rfl ?_) | refine WA.effN 16 rfl (by kernel_rfl) rfl rfl (Ef.store 2 tab_ok rfl rfl rfl rfl rfl rfl rfl rfl ?_) | refine WA.effN 16 rfl (by kernel_rfl) rfl rfl (Ef.store 3 tab_ok rfl rfl rfl rfl rfl rfl rfl rfl ?_) | refine WA.effN 16 rfl (by kernel_rfl) rfl rfl (Ef.store 4 tab_ok rfl rfl rfl rfl rfl rfl rfl rfl ?_) | refine WA.effN 16 rfl (by kernel_rfl) rfl rfl (Ef.store 5 tab_ok rfl rfl rfl rfl rfl rfl rfl rfl ?_)
                  refine ⟨by first | exact RLe.refl _ | assumption, (by (repeat (first | exact List.Sublist.refl _ | exact List.nil_sublist _ | apply List.Sublist.cons_cons | apply List.Sublist.cons)); done), ?_⟩
                  refine WA.done (by kernel_rfl) ?_
                  refine WE.nxt ?_
                  rw [eA, eB]
                  refine W.seq ?_
                  refine W.region _ ?_
                  refine' WG.y rfl rfl (by decide) (Yl.load1 tab_ok rfl rfl rfl (fun _ => rfl) ?r27 rfl ?h27) ?_
                  case r27 => (first | exact Rd.blk 0 rfl | exact Rd.blk 1 rfl | exact Rd.blk 2 rfl | exact Rd.blk 3 rfl | exact Rd.blk 4 rfl | exact Rd.blk 5 rfl)
                  case h27 => rfl
                  refine WL.call en86 rfl rfl (by decide) (CallOp.mkT rfl rfl rfl rfl) (MadeG_C hv0 (by rw [fvals_len]; omega) hmok (by rw [fvals_len]; exact hcp) w0 _) ?_
                  rintro _ R4 E4 hR4 ⟨f, fc, rfl, hf, hsub⟩
                  refine WL.subE hsub ?_
                  unfold cvV
                  refine WG.run tab_ok 2 rfl ?_
                  first | refine WL.efN rfl rfl (Ef.store0 0 tab_ok rfl rfl rfl rfl rfl rfl rfl rfl ?_) | refine WL.efN rfl rfl (Ef.store0 1 tab_ok rfl rfl rfl rfl rfl rfl rfl rfl ?_) | refine WL.efN rfl rfl (Ef.store0 2 tab_ok rfl rfl rfl rfl rfl rfl rfl rfl ?_) | refine WL.efN rfl rfl (Ef.store0 3 tab_ok rfl rfl rfl rfl rfl rfl rfl rfl ?_) | refine WL.efN rfl rfl (Ef.store0 4 tab_ok rfl rfl rfl rfl rfl rfl rfl rfl ?_) | refine WL.efN rfl rfl (Ef.store0 5 tab_ok rfl rfl rfl rfl rfl rfl rfl rfl ?_)
                  refine WG.run tab_ok 1 rfl ?_
                  refine WG.nil ?_
                  refine WE.nxt ?_
                  refine W.ret ?_
                  refine WE.retF tab_ok [_, _] rfl ⟨⟨_, _, _, rfl, rfl, rfl, ((by first | exact Rd.blk 0 rfl | exact Rd.blk 1 rfl | exact Rd.blk 2 rfl | exact Rd.blk 3 rfl | exact Rd.blk 4 rfl | exact Rd.blk 5 rfl)), rfl⟩, rfl, trivial⟩ ((by first | exact RLe.refl _ | exact hR1.trans hR4 | exact hR2.trans hR4)) ?_
                  exact ⟨f, fc, by rw [hd]; rfl, by rw [hd]; exact hf, (by (repeat (first | exact List.Sublist.refl _ | exact List.nil_sublist _ | apply List.Sublist.cons_cons | apply List.Sublist.cons)); done)⟩
              ·
                refine' WS.yl rfl rfl rfl (by decide) (Yl.load1 tab_ok rfl rfl rfl (fun _ => rfl) ?r28 rfl ?h28) (by (repeat (first | exact List.Sublist.refl _ | exact List.nil_sublist _ | apply List.Sublist.cons_cons | apply List.Sublist.cons)); done) (RLe.refl _) ?_
                case r28 => exact RS.rdD hv0 (by omega)
                case h28 => rfl
                refine' WA.yl 1 rfl (by kernel_rfl) rfl rfl (by decide) (Yl.load1 tab_ok rfl rfl rfl (fun _ => rfl) ?r29 rfl ?h29) (by (repeat (first | exact List.Sublist.refl _ | exact List.nil_sublist _ | apply List.Sublist.cons_cons | apply List.Sublist.cons)); done) (RLe.refl _) ?_
                case r29 => apply Rd.add; (first | exact Rd.blk 0 rfl | exact Rd.blk 1 rfl | exact Rd.blk 2 rfl | exact Rd.blk 3 rfl | exact Rd.blk 4 rfl | exact Rd.blk 5 rfl)
                case h29 => rfl
                refine WA.take 5 rfl (by kernel_rfl) (by kernel_rfl) (by kernel_rfl) rfl rfl (by decide) (Yl.index tab_ok rfl rfl rfl rfl rfl rfl (fun _ => rfl) (by intro _; constructor <;> (try dsimp only) <;> omega) (by intro _; first | exact fun _ _ _ _ => rfl | exact RS.has (by assumption) | exact fun _ _ _ _ => (by assumption) | exact HasMem.ownD 0 rfl | exact HasMem.ownD 1 rfl | exact HasMem.ownD 2 rfl | exact HasMem.ownD 3 rfl | exact HasMem.ownD 4 rfl | exact HasMem.ownD 5 rfl)) (by (repeat (first | exact List.Sublist.refl _ | exact List.nil_sublist _ | apply List.Sublist.cons_cons | apply List.Sublist.cons)); done) (by first | exact RLe.refl _ | assumption) ?_
                refine' WA.yl 6 rfl (by kernel_rfl) rfl rfl (by decide) (Yl.load1 tab_ok rfl rfl rfl (fun _ => rfl) ?r30 rfl ?h30) (by (repeat (first | exact List.Sublist.refl _ | exact List.nil_sublist _ | apply List.Sublist.cons_cons | apply List.Sublist.cons)); done) (RLe.refl _) ?_
                case r30 => exact RS.rdD hv0 (by omega)
                case h30 => rfl
                refine WA.take 14 rfl (by kernel_rfl) (by kernel_rfl) (by kernel_rfl) rfl rfl (by decide) (Yl.sub rfl rfl rfl (fun _ => rfl) (by intro _; rw [eA, eB]; constructor <;> omega)) (by (repeat (first | exact List.Sublist.refl _ | exact List.nil_sublist _ | apply List.Sublist.cons_cons | apply List.Sublist.cons)); done) (by first | exact RLe.refl _ | assumption) ?_
                refine WA.take 15 rfl (by kernel_rfl) (by kernel_rfl) (by kernel_rfl) rfl rfl (by decide) (pureV_ok tab_ok rfl (fun _ => rfl)) (by (repeat (first | exact List.Sublist.refl _ | exact List.nil_sublist _ | apply List.Sublist.cons_cons | apply List.Sublist.cons)); done) (by first | exact RLe.refl _ | assumption) ?_
                first | refine WA.effN 16 rfl (by kernel_rfl) rfl rfl (Ef.store 0 tab_ok rfl rfl rfl rfl rfl rfl rfl rfl ?_) | refine WA.effN 16 rfl (by kernel_rfl) rfl rfl (Ef.store 1 tab_ok rfl rfl rfl rfl rfl rfl rfl rfl ?_) | refine WA.effN 16 rfl (by kernel_rfl) rfl rfl (Ef.store 2 tab_ok rfl rfl rfl rfl rfl rfl rfl rfl ?_) | refine WA.effN 16 rfl (by kernel_rfl) rfl rfl (Ef.store 3 tab_ok rfl rfl rfl rfl rfl rfl rfl rfl ?_) | refine WA.effN 16 rfl (by kernel_rfl) rfl rfl (Ef.store 4 tab_ok rfl rfl rfl rfl rfl rfl rfl rfl ?_) | refine WA.effN 16 rfl (by kernel_rfl) rfl rfl (Ef.store 5 tab_ok rfl rfl rfl rfl rfl rfl rfl rfl ?_)
                refine ⟨by first | exact RLe.refl _ | assumption, (by (repeat (first | exact List.Sublist.refl _ | exact List.nil_sublist _ | apply List.Sublist.cons_cons | apply List.Sublist.cons)); done), ?_⟩
                refine WA.done (by kernel_rfl) ?_
                refine WE.nxt ?_
                rw [eA, eB]
                refine W.seq ?_
                refine W.region _ ?_
                refine' WG.y rfl rfl (by decide) (Yl.load1 tab_ok rfl rfl rfl (fun _ => rfl) ?r31 rfl ?h31) ?_
                case r31 => (first | exact Rd.blk 0 rfl | exact Rd.blk 1 rfl | exact Rd.blk 2 rfl | exact Rd.blk 3 rfl | exact Rd.blk 4 rfl | exact Rd.blk 5 rfl)
                case h31 => rfl
                refine WL.call en86 rfl rfl (by decide) (CallOp.mkT rfl rfl rfl rfl) (MadeG_C hv0 (by rw [fvals_len]; omega) hmok (by rw [fvals_len]; exact hcp) w0 _) ?_
                rintro _ R4 E4 hR4 ⟨f, fc, rfl, hf, hsub⟩
                refine WL.subE hsub ?_
                unfold cvV
                refine WG.run tab_ok 2 rfl ?_
                first | refine WL.efN rfl rfl (Ef.store0 0 tab_ok rfl rfl rfl rfl rfl rfl rfl rfl ?_) | refine WL.efN rfl rfl (Ef.store0 1 tab_ok rfl rfl rfl rfl rfl rfl rfl rfl ?_) | refine WL.efN rfl rfl (Ef.store0 2 tab_ok rfl rfl rfl rfl rfl rfl rfl rfl ?_) | refine WL.efN rfl rfl (Ef.store0 3 tab_ok rfl rfl rfl rfl rfl rfl rfl rfl ?_) | refine WL.efN rfl rfl (Ef.store0 4 tab_ok rfl rfl rfl rfl rfl rfl rfl rfl ?_) | refine WL.efN rfl rfl (Ef.store0 5 tab_ok rfl rfl rfl rfl rfl rfl rfl rfl ?_)
                refine WG.run tab_ok 1 rfl ?_
                refine WG.nil ?_
                refine WE.nxt ?_
                refine W.ret ?_
                refine WE.retF tab_ok [_, _] rfl ⟨⟨_, _, _, rfl, rfl, rfl, ((by first | exact Rd.blk 0 rfl | exact Rd.blk 1 rfl | exact Rd.blk 2 rfl | exact Rd.blk 3 rfl | exact Rd.blk 4 rfl | exact Rd.blk 5 rfl)), rfl⟩, rfl, trivial⟩ ((by first | exact RLe.refl _ | exact hR1.trans hR4 | exact hR2.trans hR4)) ?_
                exact ⟨f, fc, by rw [hd]; rfl, by rw [hd]; exact hf, (by (repeat (first | exact List.Sublist.refl _ | exact List.nil_sublist _ | apply List.Sublist.cons_cons | apply List.Sublist.cons)); done)⟩

end Go.Proofs.Ytnaeefefggmomaa

/- Chapter 21: the curves. No condition. -/
set_option linter.unusedSimpArgs false
set_option linter.unusedVariables false
namespace Go.Proofs.Ytnaeefefggmomaa
open Go Go.RowKit Go.Proofs.Ytnaeefefggmomaa.K Go.Proofs.Ytnaeefefggmomaa.M

set_option maxHeartbeats 2000000 in
theorem SlotsCurves_F {R : Ro} {la sa : Option Addr} {lc sc : Nat} {list : List Int} {sizes : List Sz} {z2 z3 : Int} {a : Option Addr} {c : Nat} {xs : List Int} (hlist : RS R 1 encI la list) (hlc : list.length ≤ lc) (hsizes : RS R 2 encZ sa sizes) (ha : RS R 1 encI a xs) (hc : xs.length ≤ c) (w0 : World) : K.Fn Try.prog 4 [.slice la list.length lc, .slice sa sizes.length sc, .int .i64 z2, .int .i64 z3, .slice a xs.length c] w0 R [] (fun v _ _ => v = .bool true) := by
  have hlr := hsizes.len
  have hll := hlist.len
  refine Fn.enter (n := 144) Try.func4 rfl rfl (Nat.le_of_ble_eq_true rfl) rfl ?_
  refine W.seq ?_
  refine W.region _ ?_
  refine WG.run tab_ok 1 rfl ?_
  refine WG.nil ?_
  refine WE.nxt ?_
  refine W.seq ?_
  refine W.seq ?_
  refine W.region _ ?_
  refine WG.run tab_ok 4 rfl ?_
  refine WG.y rfl rfl (by decide) (pureV_ok tab_ok rfl (by first | exact fun _ => rfl | exact fun h => h | (intro h; simp_all))) ?_
  refine WG.y rfl rfl (by decide) (pureV_ok tab_ok rfl (by first | exact fun _ => rfl | exact fun h => h | (intro h; simp_all))) ?_
  refine WG.y rfl rfl (by decide) (pureV_ok tab_ok rfl (by first | exact fun _ => rfl | exact fun h => h | (intro h; simp_all))) ?_
  refine WG.y rfl rfl (by decide) (Yl.por rfl rfl rfl (fun _ => rfl) (by intro h1 h2; simp_all <;> omega)) ?_
  refine WG.nil ?_
  refine WE.nxt ?_
  refine W.cond rfl (fun hc0 => ?_) (fun hc0 => ?_)
  · try simp only [decide_eq_true_eq, decide_eq_false_iff_not, beq_iff_eq, bne_iff_ne, beq_eq_false_iff_ne, bne_eq_false_iff_eq, ne_eq, Bool.or_eq_true, Bool.or_eq_false_iff, Bool.and_eq_true, Bool.and_eq_false_imp, Bool.not_eq_true, Bool.not_eq_true', Bool.not_eq_false', Classical.not_not, Int.not_lt, Int.not_le, gt_iff_lt, ge_iff_le] at hc0
    refine W.seq ?_
    refine W.region _ ?_
    refine WL.call en15 rfl rfl (by decide) (CallOp.mkT rfl rfl rfl rfl) (Awake21_C w0 _) ?_
    rintro _ R9 E9 hR9 ⟨rfl, hsub9⟩
    refine WL.subE hsub9 ?_
    refine WG.run tab_ok 1 rfl ?_
    refine WG.nil ?_
    refine WE.nxt ?_
    refine W.ret ?_
    refine WE.then_ret ?_
    refine WE.retF tab_ok [_] rfl ⟨rfl, trivial⟩ (by first | exact hR9 | exact hR13.trans (hR4.trans (hRk.trans hR13x))) ?_
    exact rfl
  · try simp only [decide_eq_true_eq, decide_eq_false_iff_not, beq_iff_eq, bne_iff_ne, beq_eq_false_iff_ne, bne_eq_false_iff_eq, ne_eq, Bool.or_eq_true, Bool.or_eq_false_iff, Bool.and_eq_true, Bool.and_eq_false_imp, Bool.not_eq_true, Bool.not_eq_true', Bool.not_eq_false', Classical.not_not, Int.not_lt, Int.not_le, gt_iff_lt, ge_iff_le] at hc0
    refine W.skip ?_
    refine WE.nxt ?_
    refine W.seq ?_
    refine W.region _ ?_
    refine WG.run tab_ok 1 rfl ?_
    refine WL.call en16 rfl rfl (by decide) (CallOp.mkT rfl rfl rfl rfl) (New_C w0 _ hc) ?_
    rintro _ _ _ - ⟨b, rfl, rfl, rfl⟩
    have hz := ha.take 2000
    refine WG.run tab_ok 1 rfl ?_
    refine WG.nil ?_
    refine WE.nxt ?_
    refine W.seq ?_
    refine W.region _ ?_
    refine WG.run tab_ok 1 rfl ?_
    refine WL.callAt 0 en18 rfl rfl (by decide) (CallOp.mkT rfl rfl rfl rfl) rfl (Table21_C w0 hz _) ?_
    rintro _ _ _ _ - ⟨aw, rfl, rfl, rfl, rfl⟩
    have htn := tabN_range (xs.take 2000) 0
    have htl := fvals_len (tabF (xs.take 2000) 0) (tabN (xs.take 2000) 0)
    refine WL.freeze (enc := encI) (xs := (fvals (tabF (xs.take 2000) 0) (tabN (xs.take 2000) 0))) 0 rfl ?_
    intro R1 hR1 hw
    have hz := hz.mono hR1
    refine WG.run tab_ok 1 rfl ?_
    refine WL.callAt 0 en17 rfl rfl (by decide) (CallOp.mkT rfl rfl rfl rfl) rfl (Traffic_C w0 hz (by decide) (by constructor <;> decide) (by decide) _) ?_
    rintro _ _ _ _ - ⟨a2, c2, rfl, rfl, rfl, rfl⟩
    refine WL.freeze (enc := encP) (xs := (traffic (xs.take 2000) 9 3 40 (0 + 1 + tabN (xs.take 2000) 0))) 0 rfl ?_
    intro R2 hR2 hp
    have hok := traffic_ok (xs.take 2000) (n := 9) (flows := 3) (most := 40) (by decide) (by decide) (by decide) (0 + 1 + tabN (xs.take 2000) 0)
    have hat := traffic_at (xs.take 2000) (n := 9) (flows := 3) (most := 40) (by decide) (by decide) (by decide) (0 + 1 + tabN (xs.take 2000) 0)
    have hlt := traffic_len (xs.take 2000) (n := 9) (flows := 3) (most := 40) (by decide) (0 + 1 + tabN (xs.take 2000) 0)
    generalize (traffic (xs.take 2000) 9 3 40 (0 + 1 + tabN (xs.take 2000) 0)) = ps at hp hok hat hlt ⊢
    have hz := hz.mono hR2
    have hw := hw.mono hR2
    refine WL.call en28 rfl rfl (by decide) (CallOp.mkT rfl rfl rfl rfl) (Sizes_C hp rfl (n := 3) (by decide) w0 _) ?_
    rintro _ _ E4 - ⟨az, cz, rfl, rfl, hsub4⟩
    refine WL.subE hsub4 ?_
    obtain ⟨hzzl, hzzb⟩ := sizes_ok (n := 3) (M := 40) (by decide) (fun p hp => by have := hat p hp; omega : ∀ p ∈ ps, 1 ≤ p.size ∧ p.size ≤ 40)
    generalize sizesL 3 ps = zz at hzzl hzzb ⊢
    refine WL.freeze (enc := encZ) (xs := zz) 0 rfl ?_
    intro R3 hR3 hzz
    have hz := hz.mono hR3
    have hw := hw.mono hR3
    generalize 0 + 1 + tabN (xs.take 2000) 0 + 1 + 3 * trafficK (xs.take 2000) 9 (0 + 1 + tabN (xs.take 2000) 0) = cn1
    generalize tabN (xs.take 2000) 0 = nT at *
    generalize hTT : fvals (tabF (xs.take 2000) 0) nT = T at *
    subst htl
    refine WG.run tab_ok 2 rfl ?_
    refine WG.nil ?_
    refine WE.nxt ?_
    refine W.seq ?_
    refine W.seq ?_
    refine W.region _ ?_
    refine WG.run tab_ok 4 rfl ?_
    refine WL.callAt 0 en20 rfl rfl (by decide) (CallOp.mkT rfl rfl rfl rfl) rfl (Odd21_C w0 hz hw (by omega) (by omega) _) ?_
    rintro _ R3b _ _ hR3b ⟨a44, c44, cn0, qs1, rfl, hqs1, hqc, rfl, rfl⟩
    have hz := hz.mono hR3b
    have hw := hw.mono hR3b
    have hzz := hzz.mono hR3b
    refine WL.ef rfl rfl (by decide) (Ef.buildSliceD (enc := encI) (parts := [.const (.int .i64 0)]) [_] tab_ok rfl rfl rfl rfl rfl rfl rfl rfl (by decide) (by decide) (fun a45 => ?_))
    refine WL.freeze (enc := encI) (xs := ([0] : List Int)) 0 rfl ?_
    intro R3c hR3c hlit1
    have hz := hz.mono hR3c
    refine WG.run tab_ok 1 rfl ?_
    refine WL.callAt 0 en21 rfl rfl (by decide) (CallOp.mkT rfl rfl rfl rfl) rfl (N_C w0 hz (by constructor <;> decide) _) ?_
    rintro _ _ _ _ - ⟨rfl, rfl, rfl, rfl⟩
    refine WG.run tab_ok 1 rfl ?_
    refine WL.callAt 0 en21 rfl rfl (by decide) (CallOp.mkT rfl rfl rfl rfl) rfl (N_C w0 hz (by constructor <;> decide) _) ?_
    rintro _ _ _ _ - ⟨rfl, rfl, rfl, rfl⟩
    refine WL.ef rfl rfl (by decide) (Ef.buildSliceD (enc := encI) (parts := [.tmp 47, .tmp 49]) [_, _] tab_ok rfl rfl rfl rfl rfl rfl rfl rfl (by decide) (by decide) (fun a50 => ?_))
    generalize mod (nth (xs.take 2000) cn0) 3 = mx
    generalize mod (nth (xs.take 2000) (cn0 + 1)) 3 = my
    refine WL.freeze (enc := encI) (xs := ([mx, my] : List Int)) 0 rfl ?_
    intro R3d hR3d hlit2
    have hz := hz.mono hR3d
    have hw := hw.mono (hR3c.trans hR3d)
    have hqs1 := hqs1.mono (hR3c.trans hR3d)
    have hlit1 := hlit1.mono hR3d
    have hzz := hzz.mono (hR3c.trans hR3d)
    have hR13 := hR1.trans (hR2.trans (hR3.trans (hR3b.trans (hR3c.trans hR3d))))
    have hlist := hlist.mono hR13
    have hsizes := hsizes.mono hR13
    refine WL.ef rfl rfl (by decide) (Ef.buildSliceD (enc := encS) (parts := [.tmp 40, .tmp 41, .tmp 44, .tmp 45, .tmp 50]) [(⟨some ⟨aw, 0, none⟩, T.length, T⟩ : Sl), ⟨la, lc, list⟩, ⟨a44, c44, qs1⟩, ⟨some ⟨a45, 0, none⟩, 1, [0]⟩, ⟨some ⟨a50, 0, none⟩, 2, [mx, my]⟩] tab_ok rfl rfl rfl rfl rfl rfl rfl rfl (by decide) (by decide) (fun a51 => ?_))
    refine WL.freeze (enc := encS) 0 rfl ?_
    intro R4 hR4 htw0
    obtain ⟨tw, htw0, htwl, htw⟩ : ∃ tw : List Sl, RS R4 1 encS (some ⟨a51, 0, none⟩) tw ∧ tw.length = 5 ∧ ∀ s ∈ tw, RS R4 1 encI s.a s.xs ∧ s.xs.length ≤ s.cap := ⟨_, htw0, rfl, fun s hs => by
      simp only [List.mem_cons, List.not_mem_nil, or_false] at hs
      rcases hs with rfl | rfl | rfl | rfl | rfl
      · exact ⟨hw.mono hR4, Nat.le_refl _⟩
      · exact ⟨hlist.mono hR4, hlc⟩
      · exact ⟨hqs1.mono hR4, hqc⟩
      · exact ⟨hlit1.mono hR4, Nat.le_refl _⟩
      · exact ⟨hlit2.mono hR4, Nat.le_refl _⟩⟩
    have hz3 := hz.mono hR4
    have hzz3 := hzz.mono hR4
    have hsizes3 := hsizes.mono hR4
    refine WG.run tab_ok 2 rfl ?_
    refine WG.nil ?_
    refine WE.nxt ?_
    refine W.block ?_
    refine W.loop (β := Ro × Nat × Nat) (fun (Rk, j, cn) => j ≤ 5 ∧ RLe R4 Rk) (fun (Rk, j, cn) => [(1, true, .slice sa sizes.length sc), (2, true, .int .i64 z2), (3, true, .int .i64 z3), (11, true, .pointer (some ⟨b, 0, none⟩)), (13, true, .slice az zz.length cz), (51, true, .slice (some ⟨a51, 0, none⟩) 5 5), (52, true, .int .i64 ((5 : Nat) : Int)), (53, true, .int .i64 (j : Int))]) (fun (Rk, _, _) => Rk) (fun (Rk, j, cn) => [srcE b a c (xs.take 2000) (cn)]) (fun (Rk, j, cn) => 5 - j) ((R4, 0, _)) (⟨Nat.zero_le _, RLe.refl _⟩) ⟨rfl, rfl, rfl, rfl, rfl, rfl, rfl, rfl, rfl⟩ (RLe.refl _) (by (repeat (first | exact List.Sublist.refl _ | exact List.nil_sublist _ | apply List.Sublist.cons_cons | apply List.Sublist.cons)); done) ?_
    intro st hst
    obtain ⟨Rk, j, cn⟩ := st
    obtain ⟨hj, hRk⟩ := hst
    dsimp only at hj hRk ⊢
    have hz := hz3.mono hRk
    have hzz := hzz3.mono hRk
    have hsizes := hsizes3.mono hRk
    refine W.seq ?_
    refine W.region _ ?_
    refine WG.run tab_ok 1 rfl ?_
    refine WG.nil ?_
    refine WE.nxt ?_
    refine W.seq ?_
    refine W.condD rfl (fun hc1 => ?_) (fun hc1 => ?_)
    · try dsimp only at hc1
      have hjl : j < tw.length := by omega
      have hql := htw _ (nth_mem hjl)
      have htw1 := htw0.mono hRk
      refine W.skip ?_
      refine WE.nxt ?_
      refine W.seq ?_
      refine W.block ?_
      refine W.seq ?_
      refine W.region _ ?_
      refine WG.y rfl rfl (by decide) (Yl.indexN tab_ok rfl rfl rfl rfl rfl rfl (fun _ => rfl) (by intro _; (try dsimp only) <;> omega) (by intro _; first | exact fun _ _ _ _ => rfl | exact RS.has (by assumption) | exact fun _ _ _ _ => (by assumption) | exact HasMem.ownD 0 rfl | exact HasMem.ownD 1 rfl | exact HasMem.ownD 2 rfl | exact HasMem.ownD 3 rfl | exact HasMem.ownD 4 rfl | exact HasMem.ownD 5 rfl)) ?_
      refine' WG.y rfl rfl (by decide) (Yl.load1 tab_ok rfl rfl rfl (fun _ => rfl) ?r1 rfl ?h1) ?_
      case r1 => (first | (apply RS.rdD; assumption; ((try dsimp only) <;> omega)) | exact Rd.slD 0 rfl (by (try dsimp only) <;> omega) | exact Rd.slD 1 rfl (by (try dsimp only) <;> omega) | exact Rd.slD 2 rfl (by (try dsimp only) <;> omega) | exact Rd.slD 3 rfl (by (try dsimp only) <;> omega) | exact Rd.slD 4 rfl (by (try dsimp only) <;> omega) | exact Rd.slD 5 rfl (by (try dsimp only) <;> omega))
      case h1 => rfl
      refine WG.run tab_ok 1 rfl ?_
      refine WG.nil ?_
      refine WE.nxt ?_
      refine W.seq ?_
      refine W.region _ ?_
      refine WG.run tab_ok 4 rfl ?_
      refine WL.callAt 0 en29 rfl rfl (by decide) (CallOp.mkT rfl rfl rfl rfl) rfl (Twisted_C w0 hz hzz rfl (by omega) (fun s hs => by have := hzzb s hs; omega) _) ?_
      rintro _ Ra _ _ hRa ⟨a61, c61, cnb, qs2, rfl, hqs2, rfl, rfl⟩
      have hz := hz.mono hRa
      have hzz := hzz.mono hRa
      have hsizes := hsizes.mono hRa
      -- build
      refine WG.y rfl rfl (by decide) (Yl.build (parts := [(0, .const (.int .i64 64)), (1, .const (.int .i64 1500))]) tab_ok rfl rfl rfl rfl (fun _ => rfl) rfl rfl) ?_
      -- build
      refine WG.y rfl rfl (by decide) (Yl.build (parts := [(0, .const (.int .i64 1)), (1, .const (.int .i64 1500))]) tab_ok rfl rfl rfl rfl (fun _ => rfl) rfl rfl) ?_
      -- build
      refine WG.y rfl rfl (by decide) (Yl.build (parts := []) tab_ok rfl rfl rfl rfl (fun _ => rfl) rfl rfl) ?_
      refine WL.ef rfl rfl (by decide) (Ef.buildSliceD (enc := encZ) (parts := [.tmp 62, .tmp 63, .tmp 64]) [⟨_, _⟩, ⟨_, _⟩, ⟨_, _⟩] tab_ok rfl rfl rfl rfl rfl rfl rfl rfl (by decide) (by decide) (fun a65 => ?_))
      refine WL.freeze (enc := encZ) (xs := ([⟨64, 1500⟩, ⟨1, 1500⟩, ⟨0, 0⟩] : List Sz)) 0 rfl ?_
      intro Rb hRb hlit
      refine WL.ef rfl rfl (by decide) (Ef.buildSliceD (enc := encW) (parts := [.tmp 57, .tmp 58, .tmp 61, .tmp 65]) [(⟨az, cz, zz⟩ : SlZ), ⟨sa, sc, sizes⟩, ⟨a61, c61, qs2⟩, ⟨some ⟨a65, 0, none⟩, 3, ([⟨64, 1500⟩, ⟨1, 1500⟩, ⟨0, 0⟩] : List Sz)⟩] tab_ok rfl rfl rfl rfl rfl rfl rfl rfl (by decide) (by decide) (fun a66 => ?_))
      refine WL.freeze (enc := encW) 0 rfl ?_
      intro Rc hRc htz0
      obtain ⟨tz, htz0, htzl, htz⟩ : ∃ tz : List SlZ, RS Rc 1 encW (some ⟨a66, 0, none⟩) tz ∧ tz.length = 4 ∧ ∀ s ∈ tz, RS Rc 2 encZ s.a s.xs := ⟨_, htz0, rfl, fun s hs => by
        simp only [List.mem_cons, List.not_mem_nil, or_false] at hs
        rcases hs with rfl | rfl | rfl | rfl
        · exact hzz.mono (hRb.trans hRc)
        · exact hsizes.mono (hRb.trans hRc)
        · exact hqs2.mono (hRb.trans hRc)
        · exact hlit.mono hRc⟩
      have hz4c := hz.mono (hRb.trans hRc)
      have hqlc := hql.1.mono (hRk.trans (hRa.trans (hRb.trans hRc)))
      refine WG.run tab_ok 2 rfl ?_
      refine WG.nil ?_
      refine WE.nxt ?_
      refine W.block ?_
      refine W.loop (β := Ro × Nat × Nat) (fun (Rk, i, cn) => i ≤ 4 ∧ RLe Rc Rk) (fun (Rk, i, cn) => [(1, true, .slice sa sizes.length sc), (2, true, .int .i64 z2), (3, true, .int .i64 z3), (11, true, .pointer (some ⟨b, 0, none⟩)), (13, true, .slice az zz.length cz), (51, true, .slice (some ⟨a51, 0, none⟩) 5 5), (52, true, .int .i64 ((5 : Nat) : Int)), (53, true, .int .i64 (j : Int)), (15, true, .slice (nth tw j).a (nth tw j).xs.length (nth tw j).cap), (66, true, .slice (some ⟨a66, 0, none⟩) 4 4), (67, true, .int .i64 ((4 : Nat) : Int)), (68, true, .int .i64 (i : Int))]) (fun (Rk, _, _) => Rk) (fun (Rk, i, cn) => [srcE b a c (xs.take 2000) (cn)]) (fun (Rk, i, cn) => 4 - i) ((Rc, 0, _)) (⟨Nat.zero_le _, RLe.refl _⟩) ⟨rfl, rfl, rfl, rfl, rfl, rfl, rfl, rfl, rfl, rfl, rfl, rfl, rfl⟩ (RLe.refl _) (by (repeat (first | exact List.Sublist.refl _ | exact List.nil_sublist _ | apply List.Sublist.cons_cons | apply List.Sublist.cons)); done) ?_
      intro st hst
      obtain ⟨Rk1, i, cnb⟩ := st
      obtain ⟨hi, hRk1⟩ := hst
      dsimp only at hi hRk1 ⊢
      have hz := hz4c.mono hRk1
      refine W.seq ?_
      refine W.region _ ?_
      refine WG.run tab_ok 1 rfl ?_
      refine WG.nil ?_
      refine WE.nxt ?_
      refine W.seq ?_
      refine W.condD rfl (fun hc2 => ?_) (fun hc2 => ?_)
      · try dsimp only at hc2
        have hil : i < tz.length := by omega
        have hyl := htz _ (nth_mem hil)
        have htz1 := htz0.mono hRk1
        refine W.skip ?_
        refine WE.nxt ?_
        refine W.seq ?_
        refine W.block ?_
        refine W.seq ?_
        refine W.region _ ?_
        refine WG.y rfl rfl (by decide) (Yl.indexN tab_ok rfl rfl rfl rfl rfl rfl (fun _ => rfl) (by intro _; (try dsimp only) <;> omega) (by intro _; first | exact fun _ _ _ _ => rfl | exact RS.has (by assumption) | exact fun _ _ _ _ => (by assumption) | exact HasMem.ownD 0 rfl | exact HasMem.ownD 1 rfl | exact HasMem.ownD 2 rfl | exact HasMem.ownD 3 rfl | exact HasMem.ownD 4 rfl | exact HasMem.ownD 5 rfl)) ?_
        refine' WG.y rfl rfl (by decide) (Yl.load1 tab_ok rfl rfl rfl (fun _ => rfl) ?r2 rfl ?h2) ?_
        case r2 => (first | (apply RS.rdD; assumption; ((try dsimp only) <;> omega)) | exact Rd.slD 0 rfl (by (try dsimp only) <;> omega) | exact Rd.slD 1 rfl (by (try dsimp only) <;> omega) | exact Rd.slD 2 rfl (by (try dsimp only) <;> omega) | exact Rd.slD 3 rfl (by (try dsimp only) <;> omega) | exact Rd.slD 4 rfl (by (try dsimp only) <;> omega) | exact Rd.slD 5 rfl (by (try dsimp only) <;> omega))
        case h2 => rfl
        refine WG.run tab_ok 1 rfl ?_
        refine WG.nil ?_
        refine WE.nxt ?_
        refine W.seq ?_
        refine W.region _ ?_
        refine WG.run tab_ok 1 rfl ?_
        refine WL.callAt 0 en21 rfl rfl (by decide) (CallOp.mkT rfl rfl rfl rfl) rfl (N_C w0 hz (by constructor <;> decide) _) ?_
        rintro _ _ _ _ - ⟨rfl, rfl, rfl, rfl⟩
        have hm60 := mod_range (nth (xs.take 2000) cnb) (show (1 : Int) ≤ 60 by decide)
        refine WG.y rfl rfl (by decide) (Yl.add rfl rfl rfl (fun _ => rfl) (by intro _; constructor <;> (try dsimp only) <;> omega)) ?_
        refine WG.run tab_ok 1 rfl ?_
        refine WL.callAt 0 en21 rfl rfl (by decide) (CallOp.mkT rfl rfl rfl rfl) rfl (N_C w0 hz (by constructor <;> decide) _) ?_
        rintro _ _ _ _ - ⟨rfl, rfl, rfl, rfl⟩
        -- build
        refine WG.y rfl rfl (by decide) (Yl.buildArr (parts := [(0, .tmp 74), (1, .tmp 76)]) tab_ok rfl rfl rfl rfl rfl (fun _ => rfl) rfl) ?_
        refine WG.run tab_ok 2 rfl ?_
        -- build
        refine WG.y rfl rfl (by decide) (Yl.buildArr (parts := [(0, .tmp 78), (1, .tmp 79)]) tab_ok rfl rfl rfl rfl rfl (fun _ => rfl) rfl) ?_
        refine WG.run tab_ok 1 rfl ?_
        refine WL.ef rfl rfl (by decide) (Ef.buildSliceD (enc := encI) (parts := [.const (.int .i64 0), .const (.int .i64 1), .const (.int .i64 1000), .const (.int .i64 4000), .const (.int .i64 4001)]) [_, _, _, _, _] tab_ok rfl rfl rfl rfl rfl rfl rfl rfl (by decide) (by decide) (fun a82 => ?_))
        refine WL.callAt 1 en22 rfl rfl (by decide) (CallOp.mkT rfl rfl rfl rfl) rfl (PickN_C (j := 0) w0 [0, 1, 1000, 4000, 4001] rfl (by decide) (by decide) hz rfl) ?_
        rintro _ _ _ _ - ⟨rfl, rfl, rfl, rfl⟩
        refine WG.run tab_ok 1 rfl ?_
        refine WL.ef rfl rfl (by decide) (Ef.buildSliceD (enc := encI) (parts := [.const (.int .i64 (-1)), .const (.int .i64 0), .const (.int .i64 2), .const (.int .i64 3)]) [_, _, _, _] tab_ok rfl rfl rfl rfl rfl rfl rfl rfl (by decide) (by decide) (fun a85 => ?_))
        refine WL.callAt 2 en22 rfl rfl (by decide) (CallOp.mkT rfl rfl rfl rfl) rfl (PickN_C (j := 0) w0 [-1, 0, 2, 3] rfl (by decide) (by decide) hz rfl) ?_
        rintro _ _ _ _ - ⟨rfl, rfl, rfl, rfl⟩
        -- build
        refine WG.y rfl rfl (by decide) (Yl.buildArr (parts := [(0, .tmp 83), (1, .tmp 86)]) tab_ok rfl rfl rfl rfl rfl (fun _ => rfl) rfl) ?_
        refine WL.ef rfl rfl (by decide) (Ef.buildSliceD (enc := enc2) (parts := [.tmp 77, .tmp 80, .tmp 87]) [⟨_, _⟩, ⟨_, _⟩, ⟨_, _⟩] tab_ok rfl rfl rfl rfl rfl rfl rfl rfl (by decide) (by decide) (fun a88 => ?_))
        refine WL.freeze (enc := enc2) 0 rfl ?_
        intro R7 hR7 htk
        obtain ⟨tk, htk, htkl⟩ : ∃ tk : List (Int × Int), RS R7 2 enc2 (some ⟨a88, 0, none⟩) tk ∧ tk.length = 3 := ⟨_, htk, rfl⟩
        have hq4 := hqlc.mono (hRk1.trans hR7)
        have hy4 := hyl.mono (hRk1.trans hR7)
        have hz7 := hz.mono hR7
        refine WG.run tab_ok 2 rfl ?_
        refine WG.nil ?_
        refine WE.nxt ?_
        refine W.block ?_
        refine W.loop (β := Ro × Nat × Nat) (fun (Rk, k, cn) => k ≤ 3 ∧ RLe R7 Rk) (fun (Rk, k, cn) => [(1, true, .slice sa sizes.length sc), (2, true, .int .i64 z2), (3, true, .int .i64 z3), (11, true, .pointer (some ⟨b, 0, none⟩)), (13, true, .slice az zz.length cz), (51, true, .slice (some ⟨a51, 0, none⟩) 5 5), (52, true, .int .i64 ((5 : Nat) : Int)), (53, true, .int .i64 (j : Int)), (15, true, .slice (nth tw j).a (nth tw j).xs.length (nth tw j).cap), (66, true, .slice (some ⟨a66, 0, none⟩) 4 4), (67, true, .int .i64 ((4 : Nat) : Int)), (68, true, .int .i64 (i : Int)), (17, true, .slice (nth tz i).a (nth tz i).xs.length (nth tz i).cap), (88, true, .slice (some ⟨a88, 0, none⟩) 3 3), (89, true, .int .i64 ((3 : Nat) : Int)), (90, true, .int .i64 (k : Int))]) (fun (Rk, _, _) => Rk) (fun (Rk, k, cn) => [srcE b a c (xs.take 2000) (cn)]) (fun (Rk, k, cn) => 3 - k) ((R7, 0, _)) (⟨Nat.zero_le _, RLe.refl _⟩) ⟨rfl, rfl, rfl, rfl, rfl, rfl, rfl, rfl, rfl, rfl, rfl, rfl, rfl, rfl, rfl, rfl, rfl⟩ (RLe.refl _) (by (repeat (first | exact List.Sublist.refl _ | exact List.nil_sublist _ | apply List.Sublist.cons_cons | apply List.Sublist.cons)); done) ?_
        intro st hst
        obtain ⟨Rk2, k, cnc⟩ := st
        obtain ⟨hk, hRk2⟩ := hst
        dsimp only at hk hRk2 ⊢
        refine W.seq ?_
        refine W.region _ ?_
        refine WG.run tab_ok 1 rfl ?_
        refine WG.nil ?_
        refine WE.nxt ?_
        refine W.seq ?_
        refine W.condD rfl (fun hc3 => ?_) (fun hc3 => ?_)
        · try dsimp only at hc3
          have hkl : k < tk.length := by omega
          have htk1 := htk.mono hRk2
          have hq := hq4.mono hRk2
          have hy := hy4.mono hRk2
          have hz := hz7.mono hRk2
          have hqcap := hql.2
          refine W.skip ?_
          refine WE.nxt ?_
          refine W.seq ?_
          refine W.block ?_
          refine W.seq ?_
          refine W.region _ ?_
          refine WG.y rfl rfl (by decide) (Yl.indexN tab_ok rfl rfl rfl rfl rfl rfl (fun _ => rfl) (by intro _; (try dsimp only) <;> omega) (by intro _; first | exact fun _ _ _ _ => rfl | exact RS.has (by assumption) | exact fun _ _ _ _ => (by assumption) | exact HasMem.ownD 0 rfl | exact HasMem.ownD 1 rfl | exact HasMem.ownD 2 rfl | exact HasMem.ownD 3 rfl | exact HasMem.ownD 4 rfl | exact HasMem.ownD 5 rfl)) ?_
          refine' WG.y rfl rfl (by decide) (Yl.load1 tab_ok rfl rfl rfl (fun _ => rfl) ?r3 rfl ?h3) ?_
          case r3 => (first | (apply RS.rdD; assumption; ((try dsimp only) <;> omega)) | exact Rd.slD 0 rfl (by (try dsimp only) <;> omega) | exact Rd.slD 1 rfl (by (try dsimp only) <;> omega) | exact Rd.slD 2 rfl (by (try dsimp only) <;> omega) | exact Rd.slD 3 rfl (by (try dsimp only) <;> omega) | exact Rd.slD 4 rfl (by (try dsimp only) <;> omega) | exact Rd.slD 5 rfl (by (try dsimp only) <;> omega))
          case h3 => rfl
          refine WL.ef rfl rfl (by decide) (Ef.alloc tab_ok rfl rfl (fun b19 => ?_))
          first | refine WL.efN rfl rfl (Ef.store0 0 tab_ok rfl rfl rfl rfl rfl rfl rfl rfl ?_) | refine WL.efN rfl rfl (Ef.store0 1 tab_ok rfl rfl rfl rfl rfl rfl rfl rfl ?_) | refine WL.efN rfl rfl (Ef.store0 2 tab_ok rfl rfl rfl rfl rfl rfl rfl rfl ?_) | refine WL.efN rfl rfl (Ef.store0 3 tab_ok rfl rfl rfl rfl rfl rfl rfl rfl ?_) | refine WL.efN rfl rfl (Ef.store0 4 tab_ok rfl rfl rfl rfl rfl rfl rfl rfl ?_) | refine WL.efN rfl rfl (Ef.store0 5 tab_ok rfl rfl rfl rfl rfl rfl rfl rfl ?_)
          refine WG.nil ?_
          refine WE.nxt ?_
          refine W.seq ?_
          refine W.region _ ?_
          refine WG.y rfl rfl (by decide) (Yl.indexArr tab_ok rfl rfl rfl rfl rfl rfl (fun _ => rfl) (by intro _; constructor <;> (try dsimp only) <;> omega)) ?_
          refine' WG.y rfl rfl (by decide) (Yl.load1 tab_ok rfl rfl rfl (fun _ => rfl) ?r4 rfl ?h4) ?_
          case r4 => apply Rd.add; (first | exact Rd.blk 0 rfl | exact Rd.blk 1 rfl | exact Rd.blk 2 rfl | exact Rd.blk 3 rfl | exact Rd.blk 4 rfl | exact Rd.blk 5 rfl)
          case h4 => rfl
          refine WG.y rfl rfl (by decide) (Yl.indexArr tab_ok rfl rfl rfl rfl rfl rfl (fun _ => rfl) (by intro _; constructor <;> (try dsimp only) <;> omega)) ?_
          refine' WG.y rfl rfl (by decide) (Yl.load1 tab_ok rfl rfl rfl (fun _ => rfl) ?r5 rfl ?h5) ?_
          case r5 => apply Rd.add; (first | exact Rd.blk 0 rfl | exact Rd.blk 1 rfl | exact Rd.blk 2 rfl | exact Rd.blk 3 rfl | exact Rd.blk 4 rfl | exact Rd.blk 5 rfl)
          case h5 => rfl
          refine WG.run tab_ok 2 rfl ?_
          refine WL.call en30 rfl rfl (by decide) (CallOp.mkT rfl rfl rfl rfl) (CurveT_C hq hy hqcap w0 _) ?_
          rintro _ R5 _ hR5 ⟨f1, fc1, rfl, hf1, hsub1⟩
          refine WL.subE hsub1 ?_
          unfold cvV
          have hq := hq.mono hR5
          have hy := hy.mono hR5
          have hz := hz.mono hR5
          refine WG.run tab_ok 3 rfl ?_
          refine WL.ef rfl rfl (by decide) (Ef.alloc tab_ok rfl rfl (fun b20 => ?_))
          first | refine WL.efN rfl rfl (Ef.store0 0 tab_ok rfl rfl rfl rfl rfl rfl rfl rfl ?_) | refine WL.efN rfl rfl (Ef.store0 1 tab_ok rfl rfl rfl rfl rfl rfl rfl rfl ?_) | refine WL.efN rfl rfl (Ef.store0 2 tab_ok rfl rfl rfl rfl rfl rfl rfl rfl ?_) | refine WL.efN rfl rfl (Ef.store0 3 tab_ok rfl rfl rfl rfl rfl rfl rfl rfl ?_) | refine WL.efN rfl rfl (Ef.store0 4 tab_ok rfl rfl rfl rfl rfl rfl rfl rfl ?_) | refine WL.efN rfl rfl (Ef.store0 5 tab_ok rfl rfl rfl rfl rfl rfl rfl rfl ?_)
          refine WG.run tab_ok 1 rfl ?_
          refine WG.nil ?_
          refine WE.nxt ?_
          refine W.seq ?_
          refine W.region _ ?_
          refine WG.y rfl rfl (by decide) (Yl.indexArr tab_ok rfl rfl rfl rfl rfl rfl (fun _ => rfl) (by intro _; constructor <;> (try dsimp only) <;> omega)) ?_
          refine' WG.y rfl rfl (by decide) (Yl.load1 tab_ok rfl rfl rfl (fun _ => rfl) ?r6 rfl ?h6) ?_
          case r6 => apply Rd.add; (first | exact Rd.blk 0 rfl | exact Rd.blk 1 rfl | exact Rd.blk 2 rfl | exact Rd.blk 3 rfl | exact Rd.blk 4 rfl | exact Rd.blk 5 rfl)
          case h6 => rfl
          refine WG.y rfl rfl (by decide) (Yl.indexArr tab_ok rfl rfl rfl rfl rfl rfl (fun _ => rfl) (by intro _; constructor <;> (try dsimp only) <;> omega)) ?_
          refine' WG.y rfl rfl (by decide) (Yl.load1 tab_ok rfl rfl rfl (fun _ => rfl) ?r7 rfl ?h7) ?_
          case r7 => apply Rd.add; (first | exact Rd.blk 0 rfl | exact Rd.blk 1 rfl | exact Rd.blk 2 rfl | exact Rd.blk 3 rfl | exact Rd.blk 4 rfl | exact Rd.blk 5 rfl)
          case h7 => rfl
          refine WG.run tab_ok 2 rfl ?_
          refine WL.call en31 rfl rfl (by decide) (CallOp.mkT rfl rfl rfl rfl) (Curve21_C hq hy w0 _) ?_
          rintro _ R6 _ hR6 ⟨f2, fc2, rfl, hf2, hsub2⟩
          refine WL.subE hsub2 ?_
          unfold cvV
          have hq := hq.mono hR6
          have hy := hy.mono hR6
          have hz := hz.mono hR6
          have hf1 := hf1.mono hR6
          refine WG.run tab_ok 3 rfl ?_
          refine WL.ef rfl rfl (by decide) (Ef.alloc tab_ok rfl rfl (fun b22 => ?_))
          first | refine WL.efN rfl rfl (Ef.store0 0 tab_ok rfl rfl rfl rfl rfl rfl rfl rfl ?_) | refine WL.efN rfl rfl (Ef.store0 1 tab_ok rfl rfl rfl rfl rfl rfl rfl rfl ?_) | refine WL.efN rfl rfl (Ef.store0 2 tab_ok rfl rfl rfl rfl rfl rfl rfl rfl ?_) | refine WL.efN rfl rfl (Ef.store0 3 tab_ok rfl rfl rfl rfl rfl rfl rfl rfl ?_) | refine WL.efN rfl rfl (Ef.store0 4 tab_ok rfl rfl rfl rfl rfl rfl rfl rfl ?_) | refine WL.efN rfl rfl (Ef.store0 5 tab_ok rfl rfl rfl rfl rfl rfl rfl rfl ?_)
          refine WG.run tab_ok 1 rfl ?_
          refine WG.nil ?_
          refine WE.nxt ?_
          refine W.seq ?_
          refine W.regionQ _ mixed (by kernel_rfl) ?_
          refine WG.run tab_ok 4 rfl ?_
          refine' WG.y rfl rfl (by decide) (Yl.loadG tab_ok rfl rfl rfl (by first | exact fun _ => rfl | exact fun h => h | (intro h; simp_all)) ?r8 rfl ?h8 ?g8) ?_
          case r8 => (first | exact Rd.blkC 0 rfl | exact Rd.blkC 1 rfl | exact Rd.blkC 2 rfl | exact Rd.blkC 3 rfl | exact Rd.blkC 4 rfl | exact Rd.blkC 5 rfl)
          case h8 => rfl
          case g8 => first | exact fun _ => trivial | (intro hg; (try simp only [decide_eq_true_eq, decide_eq_false_iff_not, beq_iff_eq, bne_iff_ne, beq_eq_false_iff_ne, bne_eq_false_iff_eq, ne_eq, Bool.or_eq_true, Bool.or_eq_false_iff, Bool.and_eq_true, Bool.and_eq_false_imp, Bool.not_eq_true, Bool.not_eq_true', Bool.not_eq_false', Classical.not_not, Int.not_lt, Int.not_le, gt_iff_lt, ge_iff_le] at hg); (try dsimp only); omega)
          refine' WG.y rfl rfl (by decide) (Yl.loadG tab_ok rfl rfl rfl (by first | exact fun _ => rfl | exact fun h => h | (intro h; simp_all)) ?r9 rfl ?h9 ?g9) ?_
          case r9 => (first | exact Rd.blkC 0 rfl | exact Rd.blkC 1 rfl | exact Rd.blkC 2 rfl | exact Rd.blkC 3 rfl | exact Rd.blkC 4 rfl | exact Rd.blkC 5 rfl)
          case h9 => rfl
          case g9 => first | exact fun _ => trivial | (intro hg; (try simp only [decide_eq_true_eq, decide_eq_false_iff_not, beq_iff_eq, bne_iff_ne, beq_eq_false_iff_ne, bne_eq_false_iff_eq, ne_eq, Bool.or_eq_true, Bool.or_eq_false_iff, Bool.and_eq_true, Bool.and_eq_false_imp, Bool.not_eq_true, Bool.not_eq_true', Bool.not_eq_false', Classical.not_not, Int.not_lt, Int.not_le, gt_iff_lt, ge_iff_le] at hg); (try dsimp only); omega)
          refine WG.callV (v := .bool true) en32 rfl rfl (by decide) (CallOp.mk' rfl rfl rfl rfl) (by first | exact fun _ => rfl | exact fun h => h | (intro h; simp_all)) (fun hg => by have h := Same02_V (ca := fc1) (cb := fc2) (p1 := (slotC (nth tk k).1 (nth tk k).2 (nth tw j).xs (nth tz i).xs).1.per) (i1 := (slotC (nth tk k).1 (nth tk k).2 (nth tw j).xs (nth tz i).xs).1.inc) (p2 := (slotC (nth tk k).1 (nth tk k).2 (nth tw j).xs (nth tz i).xs).1.per) (i2 := (slotC (nth tk k).1 (nth tk k).2 (nth tw j).xs (nth tz i).xs).1.inc) hf1 hf2; rw [decide_eq_true ⟨rfl, rfl, rfl⟩] at h; exact h) ?_
          refine WG.y rfl rfl (by decide) (pureV_ok tab_ok rfl (by first | exact fun _ => rfl | exact fun h => h | (intro h; simp_all))) ?_
          refine WG.y rfl rfl (by decide) (Yl.por rfl rfl rfl (fun _ => rfl) (by intro h1 h2; simp_all <;> omega)) ?_
          refine WG.run tab_ok 1 rfl ?_
          refine WG.y rfl rfl (by decide) (Yl.indexArr tab_ok rfl rfl rfl rfl rfl rfl (by first | exact fun _ => rfl | exact fun h => h | (intro h; simp_all)) (by intro hg; (try simp only [decide_eq_true_eq, decide_eq_false_iff_not, beq_iff_eq, bne_iff_ne, beq_eq_false_iff_ne, bne_eq_false_iff_eq, ne_eq, Bool.or_eq_true, Bool.or_eq_false_iff, Bool.and_eq_true, Bool.and_eq_false_imp, Bool.not_eq_true, Bool.not_eq_true', Bool.not_eq_false', Classical.not_not, Int.not_lt, Int.not_le, gt_iff_lt, ge_iff_le] at hg); constructor <;> (try dsimp only) <;> omega)) ?_
          refine' WG.y rfl rfl (by decide) (Yl.loadG tab_ok rfl rfl rfl (by first | exact fun _ => rfl | exact fun h => h | (intro h; simp_all)) ?r10 rfl ?h10 ?g10) ?_
          case r10 => apply Rd.addC; (first | exact Rd.blkC 0 rfl | exact Rd.blkC 1 rfl | exact Rd.blkC 2 rfl | exact Rd.blkC 3 rfl | exact Rd.blkC 4 rfl | exact Rd.blkC 5 rfl)
          case h10 => rfl
          case g10 => first | exact fun _ => trivial | (intro hg; (try simp only [decide_eq_true_eq, decide_eq_false_iff_not, beq_iff_eq, bne_iff_ne, beq_eq_false_iff_ne, bne_eq_false_iff_eq, ne_eq, Bool.or_eq_true, Bool.or_eq_false_iff, Bool.and_eq_true, Bool.and_eq_false_imp, Bool.not_eq_true, Bool.not_eq_true', Bool.not_eq_false', Classical.not_not, Int.not_lt, Int.not_le, gt_iff_lt, ge_iff_le] at hg); (try dsimp only); omega)
          refine WG.y rfl rfl (by decide) (Yl.indexArr tab_ok rfl rfl rfl rfl rfl rfl (by first | exact fun _ => rfl | exact fun h => h | (intro h; simp_all)) (by intro hg; (try simp only [decide_eq_true_eq, decide_eq_false_iff_not, beq_iff_eq, bne_iff_ne, beq_eq_false_iff_ne, bne_eq_false_iff_eq, ne_eq, Bool.or_eq_true, Bool.or_eq_false_iff, Bool.and_eq_true, Bool.and_eq_false_imp, Bool.not_eq_true, Bool.not_eq_true', Bool.not_eq_false', Classical.not_not, Int.not_lt, Int.not_le, gt_iff_lt, ge_iff_le] at hg); constructor <;> (try dsimp only) <;> omega)) ?_
          refine' WG.y rfl rfl (by decide) (Yl.loadG tab_ok rfl rfl rfl (by first | exact fun _ => rfl | exact fun h => h | (intro h; simp_all)) ?r11 rfl ?h11 ?g11) ?_
          case r11 => apply Rd.addC; (first | exact Rd.blkC 0 rfl | exact Rd.blkC 1 rfl | exact Rd.blkC 2 rfl | exact Rd.blkC 3 rfl | exact Rd.blkC 4 rfl | exact Rd.blkC 5 rfl)
          case h11 => rfl
          case g11 => first | exact fun _ => trivial | (intro hg; (try simp only [decide_eq_true_eq, decide_eq_false_iff_not, beq_iff_eq, bne_iff_ne, beq_eq_false_iff_ne, bne_eq_false_iff_eq, ne_eq, Bool.or_eq_true, Bool.or_eq_false_iff, Bool.and_eq_true, Bool.and_eq_false_imp, Bool.not_eq_true, Bool.not_eq_true', Bool.not_eq_false', Classical.not_not, Int.not_lt, Int.not_le, gt_iff_lt, ge_iff_le] at hg); (try dsimp only); omega)
          refine WG.y rfl rfl (by decide) (pureV_ok tab_ok rfl (by first | exact fun _ => rfl | exact fun h => h | (intro h; simp_all))) ?_
          refine WG.y rfl rfl (by decide) (pureV_ok tab_ok rfl (by first | exact fun _ => rfl | exact fun h => h | (intro h; simp_all))) ?_
          refine WG.callV en33 rfl rfl (by decide) (CallOp.mk' rfl rfl rfl rfl) (by first | exact fun _ => rfl | exact fun h => h | (intro h; simp_all)) (fun hg => CheckT_V hq hy) ?_
          refine WG.y rfl rfl (by decide) (Yl.indexArr tab_ok rfl rfl rfl rfl rfl rfl (by first | exact fun _ => rfl | exact fun h => h | (intro h; simp_all)) (by intro hg; (try simp only [decide_eq_true_eq, decide_eq_false_iff_not, beq_iff_eq, bne_iff_ne, beq_eq_false_iff_ne, bne_eq_false_iff_eq, ne_eq, Bool.or_eq_true, Bool.or_eq_false_iff, Bool.and_eq_true, Bool.and_eq_false_imp, Bool.not_eq_true, Bool.not_eq_true', Bool.not_eq_false', Classical.not_not, Int.not_lt, Int.not_le, gt_iff_lt, ge_iff_le] at hg); constructor <;> (try dsimp only) <;> omega)) ?_
          refine' WG.y rfl rfl (by decide) (Yl.loadG tab_ok rfl rfl rfl (by first | exact fun _ => rfl | exact fun h => h | (intro h; simp_all)) ?r12 rfl ?h12 ?g12) ?_
          case r12 => apply Rd.addC; (first | exact Rd.blkC 0 rfl | exact Rd.blkC 1 rfl | exact Rd.blkC 2 rfl | exact Rd.blkC 3 rfl | exact Rd.blkC 4 rfl | exact Rd.blkC 5 rfl)
          case h12 => rfl
          case g12 => first | exact fun _ => trivial | (intro hg; (try simp only [decide_eq_true_eq, decide_eq_false_iff_not, beq_iff_eq, bne_iff_ne, beq_eq_false_iff_ne, bne_eq_false_iff_eq, ne_eq, Bool.or_eq_true, Bool.or_eq_false_iff, Bool.and_eq_true, Bool.and_eq_false_imp, Bool.not_eq_true, Bool.not_eq_true', Bool.not_eq_false', Classical.not_not, Int.not_lt, Int.not_le, gt_iff_lt, ge_iff_le] at hg); (try dsimp only); omega)
          refine WG.y rfl rfl (by decide) (Yl.indexArr tab_ok rfl rfl rfl rfl rfl rfl (by first | exact fun _ => rfl | exact fun h => h | (intro h; simp_all)) (by intro hg; (try simp only [decide_eq_true_eq, decide_eq_false_iff_not, beq_iff_eq, bne_iff_ne, beq_eq_false_iff_ne, bne_eq_false_iff_eq, ne_eq, Bool.or_eq_true, Bool.or_eq_false_iff, Bool.and_eq_true, Bool.and_eq_false_imp, Bool.not_eq_true, Bool.not_eq_true', Bool.not_eq_false', Classical.not_not, Int.not_lt, Int.not_le, gt_iff_lt, ge_iff_le] at hg); constructor <;> (try dsimp only) <;> omega)) ?_
          refine' WG.y rfl rfl (by decide) (Yl.loadG tab_ok rfl rfl rfl (by first | exact fun _ => rfl | exact fun h => h | (intro h; simp_all)) ?r13 rfl ?h13 ?g13) ?_
          case r13 => apply Rd.addC; (first | exact Rd.blkC 0 rfl | exact Rd.blkC 1 rfl | exact Rd.blkC 2 rfl | exact Rd.blkC 3 rfl | exact Rd.blkC 4 rfl | exact Rd.blkC 5 rfl)
          case h13 => rfl
          case g13 => first | exact fun _ => trivial | (intro hg; (try simp only [decide_eq_true_eq, decide_eq_false_iff_not, beq_iff_eq, bne_iff_ne, beq_eq_false_iff_ne, bne_eq_false_iff_eq, ne_eq, Bool.or_eq_true, Bool.or_eq_false_iff, Bool.and_eq_true, Bool.and_eq_false_imp, Bool.not_eq_true, Bool.not_eq_true', Bool.not_eq_false', Classical.not_not, Int.not_lt, Int.not_le, gt_iff_lt, ge_iff_le] at hg); (try dsimp only); omega)
          refine WG.y rfl rfl (by decide) (pureV_ok tab_ok rfl (by first | exact fun _ => rfl | exact fun h => h | (intro h; simp_all))) ?_
          refine WG.y rfl rfl (by decide) (pureV_ok tab_ok rfl (by first | exact fun _ => rfl | exact fun h => h | (intro h; simp_all))) ?_
          refine WG.callV en34 rfl rfl (by decide) (CallOp.mk' rfl rfl rfl rfl) (by first | exact fun _ => rfl | exact fun h => h | (intro h; simp_all)) (fun hg => Check21_V hq hy) ?_
          refine WG.y rfl rfl (by decide) (pureV_ok tab_ok rfl (by first | exact fun _ => rfl | exact fun h => h | (intro h; simp_all))) ?_
          refine WG.y rfl rfl (by decide) (Yl.por rfl rfl rfl (fun _ => rfl) (by intro h1 h2; simp_all <;> omega)) ?_
          refine WG.nil ?_
          refine WE.nxt ?_
          refine W.cond rfl (fun hc4 => ?_) (fun hc4 => ?_)
          · try simp only [decide_eq_true_eq, decide_eq_false_iff_not, beq_iff_eq, bne_iff_ne, beq_eq_false_iff_ne, bne_eq_false_iff_eq, ne_eq, Bool.or_eq_true, Bool.or_eq_false_iff, Bool.and_eq_true, Bool.and_eq_false_imp, Bool.not_eq_true, Bool.not_eq_true', Bool.not_eq_false', Classical.not_not, Int.not_lt, Int.not_le, gt_iff_lt, ge_iff_le] at hc4
            first | done | (simp at hc4; done) | exact absurd hc4 (by decide)
          · try simp only [decide_eq_true_eq, decide_eq_false_iff_not, beq_iff_eq, bne_iff_ne, beq_eq_false_iff_ne, bne_eq_false_iff_eq, ne_eq, Bool.or_eq_true, Bool.or_eq_false_iff, Bool.and_eq_true, Bool.and_eq_false_imp, Bool.not_eq_true, Bool.not_eq_true', Bool.not_eq_false', Classical.not_not, Int.not_lt, Int.not_le, gt_iff_lt, ge_iff_le] at hc4
            refine W.skip ?_
            refine WE.blk _ ?_
            refine WE.nxt ?_
            refine W.region _ ?_
            refine WG.y rfl rfl (by decide) (Yl.add rfl rfl rfl (fun _ => rfl) (by intro _; constructor <;> (try dsimp only) <;> omega)) ?_
            refine WG.run tab_ok 1 rfl ?_
            refine WG.nil ?_
            refine WE.again ((R6, k + 1, cnc)) (⟨by dsimp only; omega, hRk2.trans (hR5.trans hR6)⟩) (by (try dsimp only); omega) ⟨rfl, rfl, rfl, rfl, rfl, rfl, rfl, rfl, rfl, rfl, rfl, rfl, rfl, rfl, rfl, rfl, rfl⟩ (RLe.refl _) (by (repeat (first | exact List.Sublist.refl _ | exact List.nil_sublist _ | apply List.Sublist.cons_cons | apply List.Sublist.cons)); done)
        · try dsimp only at hc3
          refine W.exit ?_
          refine WE.then_exit ?_
          refine WE.then_exit ?_
          refine WE.blk_exit ?_
          refine WE.blk _ ?_
          refine WE.nxt ?_
          refine W.region _ ?_
          refine WG.y rfl rfl (by decide) (Yl.add rfl rfl rfl (fun _ => rfl) (by intro _; constructor <;> (try dsimp only) <;> omega)) ?_
          refine WG.run tab_ok 1 rfl ?_
          refine WG.nil ?_
          refine WE.again ((Rk2, i + 1, cnc)) (⟨by dsimp only; omega, hRk1.trans (hR7.trans hRk2)⟩) (by (try dsimp only); omega) ⟨rfl, rfl, rfl, rfl, rfl, rfl, rfl, rfl, rfl, rfl, rfl, rfl, rfl⟩ (RLe.refl _) (by (repeat (first | exact List.Sublist.refl _ | exact List.nil_sublist _ | apply List.Sublist.cons_cons | apply List.Sublist.cons)); done)
      · try dsimp only at hc2
        refine W.exit ?_
        refine WE.then_exit ?_
        refine WE.then_exit ?_
        refine WE.blk_exit ?_
        refine WE.blk _ ?_
        refine WE.nxt ?_
        refine W.region _ ?_
        refine WG.y rfl rfl (by decide) (Yl.add rfl rfl rfl (fun _ => rfl) (by intro _; constructor <;> (try dsimp only) <;> omega)) ?_
        refine WG.run tab_ok 1 rfl ?_
        refine WG.nil ?_
        refine WE.again ((Rk1, j + 1, cnb)) (⟨by dsimp only; omega, hRk.trans (hRa.trans (hRb.trans (hRc.trans hRk1)))⟩) (by (try dsimp only); omega) ⟨rfl, rfl, rfl, rfl, rfl, rfl, rfl, rfl, rfl⟩ (RLe.refl _) (by (repeat (first | exact List.Sublist.refl _ | exact List.nil_sublist _ | apply List.Sublist.cons_cons | apply List.Sublist.cons)); done)
    · try dsimp only at hc1
      refine W.exit ?_
      refine WE.then_exit ?_
      refine WE.then_exit ?_
      refine WE.blk_exit ?_
      refine WE.nxt ?_
      refine W.seq ?_
      refine W.region _ ?_
      refine WL.call en15 rfl rfl (by decide) (CallOp.mkT rfl rfl rfl rfl) (Awake21_C w0 _) ?_
      rintro _ R13x E9 hR13x ⟨rfl, hsub9⟩
      refine WL.subE hsub9 ?_
      refine WG.run tab_ok 1 rfl ?_
      refine WG.nil ?_
      refine WE.nxt ?_
      refine W.ret ?_
      refine WE.retF tab_ok [_] rfl ⟨rfl, trivial⟩ (by first | exact hR9 | exact hR13.trans (hR4.trans (hRk.trans hR13x))) ?_
      exact rfl

end Go.Proofs.Ytnaeefefggmomaa

/- Sizes read from any flat data. No condition. -/
namespace Go.Proofs.Ytnaeefefggmomaa.K
open Go Go.RowKit
def decZ : List Int → M.Sz
  | [a, b] => ⟨a, b⟩
  | _ => ⟨0, 0⟩
theorem decZ_enc : ∀ z : List Int, z.length = 2 → M.encZ (decZ z) = ints z
  | [a, b], _ => rfl
  | [], h => by simp at h
  | [_], h => by simp at h
  | _ :: _ :: _ :: _, h => by simp at h
end Go.Proofs.Ytnaeefefggmomaa.K

/- SlotsCurves: for every input the law returns true, and the input reads afterwards as it read before. No condition. -/
namespace Go.Proofs.Ytnaeefefggmomaa
open Go Go.RowKit Go.ChangeShapes Go.WideShapes Go.ChangeAt Go.WideElems Go.Maps Go.Proofs.Ytnaeefefggmomaa.K Go.Proofs.Ytnaeefefggmomaa.M
namespace slotsCurves
theorem own : ownKnob Try.prog.godebug = none := by kernel_rfl
theorem laidOut : laidOutB Try.prog = true := by kernel_rfl
theorem readable : (Try.f4.params.toList).all (fun t => Try.prog.readableRec t && decide (t < Try.prog.types.size)) = true := by kernel_rfl
theorem cellsI : Try.prog.cellsOf 3 = 1 := by kernel_rfl
section
variable {H : Type} {enc : TypeId × Value → H}
theorem flat_ints : Flat enc Try.prog 3 1 := flat_int Try.underlying3
theorem cells_ints : Try.prog.cellsOf 3 = 1 := by kernel_rfl
theorem flat_sizes : Flat enc Try.prog 49 2 := flat_struct Try.underlying49 (by kernel_rfl) (by
  intro j f hf
  match j, hf with
  | 0, hf => obtain rfl : _ = f := Option.some.inj hf; exact ⟨rfl, by kernel_rfl, Try.underlying3⟩
  | 1, hf => obtain rfl : _ = f := Option.some.inj hf; exact ⟨rfl, by kernel_rfl, Try.underlying3⟩
  | j + 2, hf => simp at hf)
theorem cells_sizes : Try.prog.cellsOf 49 = 2 := by kernel_rfl
end
set_option maxRecDepth 100000 in
theorem lifted (os : Os) (started : os.Started) (H : Type) (enc : TypeId × Value → H) :
    ReturnsInHanded {} Try.checked os 4 .any (Rows.slotsCurvesSpec.pre6 enc Try.prog Try.f4 Rows.slotsCurvesRow.domain false) (Rows.slotsCurvesSpec.post enc Try.prog Try.f4 false true false false) := by
  refine returnsInHanded_of_change (C := Try.checked) own started (by kernel_rfl) Try.func4
    (ChangeSpec.witness6 (enc := enc) (C := Try.checked) false ⟨#[], #[.slice none 0 0, .slice none 0 0, .int .i64 0, .int .i64 0, .slice none 0 0], []⟩ 8 (by kernel_rfl) (by kernel_rfl) (by kernel_rfl) (by kernel_rfl)) ?_
  intro W base args ds gs before hval0 hW _ _
  have hval : ∀ (j : Nat) t v, Try.f4.params[j]? = some t → args[j]? = some v → Value.okWide Try.prog W .any base t v := hval0
  have hW' := hW
  obtain ⟨p, q, hA0, hV, rfl, _, _⟩ := hW
  have hA : DataW.TrodAll enc Try.prog W 0 (fun _ => true) true Try.f4.params.toList args.toList ds p := hA0
  have hA1 := hA
  obtain ⟨rfl, rfl⟩ := trodVars_none hV
  simp only [List.append_nil] at hW'
  have hlt : ∀ x ∈ p, x.block < W.heap.size := fun x hx => by simpa using hW'.lt x hx
  have hcarry : ∀ W', Below W.heap.size W W' → DataW.TrodAll enc Try.prog W' 0 (fun b => decide (b < W.heap.size)) true Try.f4.params.toList args.toList ds p := fun W' hb => carryAll laidOut readable hA1 hb hlt
  clear hA0 hval0 hA1
  rw [Try.params4] at hA
  obtain ⟨v0, vs0, d0, ds0, p0, q0, e0, rfl, e20, h0, t0⟩ := trodAll_cons hA
  obtain ⟨v1, vs1, d1, ds1, p1, q1, rfl, rfl, e21, h1, t1⟩ := trodAll_cons t0
  obtain ⟨v2, vs2, d2, ds2, p2, q2, rfl, rfl, e22, h2, t2⟩ := trodAll_cons t1
  obtain ⟨v3, vs3, d3, ds3, p3, q3, rfl, rfl, e23, h3, t3⟩ := trodAll_cons t2
  obtain ⟨v4, vs4, d4, ds4, p4, q4, rfl, rfl, e24, h4, t4⟩ := trodAll_cons t3
  obtain ⟨rfl, rfl, _⟩ := trodAll_nil t4
  have hargs : args = #[v0, v1, v2, v3, v4] := by rw [← Array.toArray_toList (xs := args), e0]
  subst hargs
  obtain ⟨a0, cp0, zs0, rfl, c0, l0, m0, r0⟩ := open_flat Try.underlying23 (by decide) cells_ints flat_ints (hval 0 23 _ rfl rfl) h0
  have g0 : RS (roOf W) 1 encI a0 (zs0.map decI) := RS.ofFlat m0 l0 decI_enc
  have n0 : (zs0.map decI).length = zs0.length := by simp
  rw [← n0] at c0
  obtain ⟨a1, cp1, zs1, rfl, c1, l1, m1, r1⟩ := open_flat Try.underlying45 (by decide) cells_sizes flat_sizes (hval 1 45 _ rfl rfl) h1
  have g1 : RS (roOf W) 2 encZ a1 (zs1.map decZ) := RS.ofFlat m1 l1 decZ_enc
  have n1 : (zs1.map decZ).length = zs1.length := by simp
  rw [← n1] at c1
  obtain ⟨z2, rfl, _, _, w2⟩ := open_int Try.underlying3 (hval 2 3 _ rfl rfl) h2
  have r2 : InR z2 := bounds_i64 w2
  obtain ⟨z3, rfl, _, _, w3⟩ := open_int Try.underlying3 (hval 3 3 _ rfl rfl) h3
  have r3 : InR z3 := bounds_i64 w3
  obtain ⟨a4, cp4, zs4, rfl, c4, l4, m4, r4⟩ := open_flat Try.underlying23 (by decide) cells_ints flat_ints (hval 4 23 _ rfl rfl) h4
  have g4 : RS (roOf W) 1 encI a4 (zs4.map decI) := RS.ofFlat m4 l4 decI_enc
  have n4 : (zs4.map decI).length = zs4.length := by simp
  rw [← n4] at c4
  have hcall := lift_calls (P := Try.prog) (f := 4) (args := [.slice a0 (zs0.map decI).length cp0, .slice a1 (zs1.map decZ).length cp1, .int .i64 z2, .int .i64 z3, .slice a4 (zs4.map decI).length cp4]) (W := W) (SlotsCurves_F g0 c0 g1 g4 c4 W)
  simp only [List.length_map] at hcall
  refine hcall.mono fun e W' ⟨he, hb⟩ => ?_
  subst he
  exact ⟨_, rfl, ⟨_, _, _, [], _, [], hW', trodAll_mk1 (shut_bool Try.underlying4 _), hcarry W' hb, rfl, hb.frame _, fun h => by cases h⟩⟩
end slotsCurves
theorem slotsCurves_holds : Rows.SlotsCurvesSaid :=
  OpenClaim.holds_of_wide 4 Try.f4 rfl rfl rfl rfl rfl rfl rfl ⟨rfl, rfl, rfl, rfl, rfl⟩ rfl rfl rfl rfl rfl (by kernel_rfl) Try.func4 (by kernel_rfl)
    (of_decide_eq_true (by kernel_rfl)) (by unfold Func.isWrapper; first | (rw [if_pos (by decide +kernel)]; kernel_rfl) | (rw [if_neg (by decide +kernel)]; exact ⟨rfl, rfl⟩))
    (fun os started H enc _ => slotsCurves.lifted os started H enc)
end Go.Proofs.Ytnaeefefggmomaa
