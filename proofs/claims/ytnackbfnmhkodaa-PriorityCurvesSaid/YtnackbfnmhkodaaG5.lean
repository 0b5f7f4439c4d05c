/- Rules and walks, joined from 9 texts: the first of them says: Small curves that the statements make, plain. No condition. -/
import Derived.Test.YtnackbfnmhkodaaG4
/- Small curves that the statements make, plain. No condition. -/
namespace Go.Proofs.Ytnackbfnmhkodaa.M
open Go Go.Proofs.Ytnackbfnmhkodaa.K

/-- small -/
structure SmallC (c : Cv) : Prop where
  valid : validB c = true
  len : c.vals.length ≤ 40
  per : c.per ≤ 8
  inc : c.inc ≤ 1000
  vals : ∀ x ∈ c.vals, x = INF ∨ x ≤ 1000
/-- longer, with a period so often -/
theorem longer_grows {F : Nat → Int} {S P : Nat} {I : Int} (h : Grows F S P I) (more times : Nat) : Grows F (S + more) (P * times) (I * (times : Int)) := fun t ht => by
  have := h.mul times t (by omega)
  rw [Nat.mul_comm P times, Int.mul_comm I]
  exact this
/-- values that are made one by one -/
def upV (xs : List Int) (c : Nat) (v : Int) : Nat → Int
  | 0 => v
  | i + 1 => upV xs c v i + nth ([0, 0, 1, 2, 5, 9] : List Int) (mod (nth xs (c + i)) ((6 : Nat) : Int)).toNat
theorem nth_in {l : List Int} {k : Nat} {lo hi : Int} (h : ∀ x ∈ l, lo ≤ x ∧ x ≤ hi) (hk : k < l.length) : lo ≤ nth l k ∧ nth l k ≤ hi := h _ (nth_mem hk)
theorem upV_step (xs : List Int) (c : Nat) (v : Int) (i : Nat) : upV xs c v i ≤ upV xs c v (i + 1) ∧ upV xs c v (i + 1) ≤ upV xs c v i + 9 := by
  have hm := mod_range (nth xs (c + i)) (show (1 : Int) ≤ ((6 : Nat) : Int) by decide)
  have := nth_in (l := [0, 0, 1, 2, 5, 9]) (k := (mod (nth xs (c + i)) ((6 : Nat) : Int)).toNat) (lo := 0) (hi := 9) (by decide) (by simp only [List.length_cons, List.length_nil]; omega)
  simp only [upV]
  omega
theorem upV_mono (xs : List Int) (c : Nat) (v : Int) {i j : Nat} (h : i ≤ j) : upV xs c v i ≤ upV xs c v j := mono_le (fun t => (upV_step xs c v t).1) h
theorem upV_bound (xs : List Int) (c : Nat) (v : Int) : ∀ i, v ≤ upV xs c v i ∧ upV xs c v i ≤ v + 9 * (i : Int)
  | 0 => ⟨Int.le_refl _, by simp [upV]⟩
  | i + 1 => by
    have h1 := upV_bound xs c v i
    have h2 := upV_step xs c v i
    omega
theorem upV_gap (xs : List Int) (c : Nat) (v : Int) (i : Nat) : ∀ d, upV xs c v (i + d) ≤ upV xs c v i + 9 * (d : Int)
  | 0 => by simp
  | d + 1 => by
    have h1 := upV_gap xs c v i d
    have h2 := upV_step xs c v (i + d)
    rw [← Nat.add_assoc]
    omega
/-- a list that goes up, with a period and what it gains -/
theorem small_fin {F : Nat → Int} {n : Nat} {P I : Int} (hn : 1 ≤ n ∧ n ≤ 20) (hP : 1 ≤ P ∧ P ≤ 4 ∧ P ≤ n) (hI : I ≤ 400) (h0 : 0 ≤ F 0) (hm : ∀ t, F t ≤ F (t + 1)) (hb : ∀ t, t < n → F t ≤ 200) (hg : F (n - 1) - F (n - P.toNat) ≤ I) : SmallC ⟨fvals F n, P, I⟩ := by
  have hmn : ∀ {i j : Nat}, i ≤ j → F i ≤ F j := fun h => mono_le hm h
  have h2 := hmn (show n - P.toNat ≤ n - 1 by omega)
  have hne : F (n - 1) ≠ INF := by have := hb (n - 1) (by omega); unfold INF; omega
  refine ⟨validB_iff.2 ?_, by dsimp only; rw [fvals_len]; omega, by dsimp only; omega, by dsimp only; omega, all_of_nth (fun j hj => ?_)⟩
  · dsimp only
    rw [fvals_len]
    refine ⟨⟨by omega, by omega, by omega, by omega, by omega, by omega, by unfold MAXV; omega⟩, fun i hi => ?_, ?_⟩
    · rw [fvals_nth F hi]
      have a := hb i hi
      have b := hmn (Nat.zero_le i)
      refine ⟨.inr ⟨by omega, by unfold MAXV; omega⟩, ?_⟩
      by_cases hi0 : i = 0
      · exact .inl hi0
      · rw [fvals_nth F (by omega)]; exact .inr (hmn (by omega))
    · rw [fvals_nth F (by omega), if_neg hne, fvals_nth F (by omega)]; omega
  · rw [fvals_len] at hj
    rw [fvals_nth F hj]
    have := hb j hj
    exact .inr (by omega)
theorem small_inf {F : Nat → Int} {n : Nat} (hn : n ≤ 20) (h0 : 0 ≤ F 0) (hm : ∀ t, F t ≤ F (t + 1)) (hb : ∀ t, t < n → F t ≤ 200) : SmallC ⟨fvals F n ++ [INF], 1, 0⟩ := by
  have hmn : ∀ {i j : Nat}, i ≤ j → F i ≤ F j := fun h => mono_le hm h
  have hl : (fvals F n ++ [INF]).length = n + 1 := by simp [fvals_len]
  have e1 : ∀ i, i < n → nth (fvals F n ++ [INF]) i = F i := fun i hi => by
    unfold nth List.getD
    rw [List.getElem?_append_left (by rw [fvals_len]; exact hi)]
    exact fvals_nth F hi
  have e2 : nth (fvals F n ++ [INF]) n = INF := by
    unfold nth List.getD
    rw [List.getElem?_append_right (by rw [fvals_len]; omega), fvals_len]; simp
  refine ⟨validB_iff.2 ?_, by dsimp only; rw [hl]; omega, by dsimp only; omega, by dsimp only; omega, all_of_nth (fun j hj => ?_)⟩
  · dsimp only
    rw [hl]
    refine ⟨⟨by omega, by omega, by omega, by omega, by omega, by omega, by unfold MAXV; omega⟩, fun i hi => ?_, ?_⟩
    · by_cases hi2 : i < n
      · rw [e1 i hi2]
        have a := hb i hi2
        have b := hmn (Nat.zero_le i)
        refine ⟨.inr ⟨by omega, by unfold MAXV; omega⟩, ?_⟩
        by_cases hi0 : i = 0
        · exact .inl hi0
        · rw [e1 (i - 1) (by omega)]; exact .inr (hmn (by omega))
      · obtain rfl : i = n := by omega
        rw [e2]
        refine ⟨.inl rfl, ?_⟩
        by_cases hi0 : i = 0
        · exact .inl hi0
        · rw [e1 (i - 1) (by omega)]
          have := hb (i - 1) (by omega)
          exact .inr (by unfold INF; omega)
    · rw [show n + 1 - 1 = n by omega, e2, if_pos rfl]; exact ⟨rfl, rfl⟩
  · rw [hl] at hj
    by_cases hj2 : j < n
    · rw [e1 j hj2]; have := hb j hj2; exact .inr (by omega)
    · obtain rfl : j = n := by omega
      exact .inl e2
/-- a curve longer than a small one -/
theorem small_longer {F : Nat → Int} {S P more times : Nat} {I : Int} (h : FC F S P I) (hn : S + P ≤ 20) (hP : P ≤ 4) (hI : I ≤ 50) (hb : ∀ t, t < S + P → F t ≤ 200) (hm : more ≤ 3) (ht : 1 ≤ times ∧ times ≤ 2) : SmallC ⟨fvals F (S + more + P * times), ((P * times : Nat) : Int), I * (times : Int)⟩ := by
  have hP0 := h.hP
  have hI0 := h.hI
  have e1 : P * times ≤ 2 * P := by have := Nat.mul_le_mul_left P ht.2; omega
  have e0 : P ≤ P * times := by have := Nat.mul_le_mul_left P ht.1; omega
  have e2 : I * (times : Int) ≤ 800 ∧ 0 ≤ I * (times : Int) := by
    rcases (show times = 1 ∨ times = 2 by omega) with rfl | rfl <;> omega
  have hb2 : ∀ t, t < S + more + P * times → F t ≤ 1000 := fun t ht2 => by
    by_cases h1 : t < S + P
    · have := hb t h1; omega
    · have h3 := h.hg.mul 4 (S + P - 1) (by omega)
      have h5 := hb (S + P - 1) (by omega)
      have h6 : t ≤ S + P - 1 + 4 * P := by omega
      have h7 := h.mono h6
      omega
  have hfc : FC F (S + more) (P * times) (I * (times : Int)) := ⟨by omega, by omega, by omega, longer_grows h.hg more times, h.hm, h.h0, fun t ht => by have := hb2 t ht; omega⟩
  refine ⟨hfc.valid', by dsimp only; rw [fvals_len]; omega, by dsimp only; omega, by dsimp only; omega, all_of_nth (fun j hj => ?_)⟩
  rw [fvals_len] at hj
  rw [fvals_nth F hj]
  exact .inr (hb2 j hj)
/-- the curve that stands for one that is not finite -/
theorem small_lit {m k : Int} (hm : 0 ≤ m ∧ m < 5) (hk : 0 ≤ k ∧ k < 2) : SmallC ⟨[0, 4, 4 + m], 1 + k, 8⟩ ∧ finB ⟨[0, 4, 4 + m], 1 + k, 8⟩ = true := by
  have h1 : m = 0 ∨ m = 1 ∨ m = 2 ∨ m = 3 ∨ m = 4 := by omega
  have h2 : k = 0 ∨ k = 1 := by omega
  rcases h1 with rfl | rfl | rfl | rfl | rfl <;> rcases h2 with rfl | rfl <;> exact ⟨⟨by decide, by decide, by decide, by decide, by decide⟩, by decide⟩
/-- a finite curve less its first value -/
theorem small_sub {c : Cv} (h : SmallC c) (hf : finB c = true) {zs : List Int} (hl : zs.length = c.vals.length) (hz : ∀ j, j < c.vals.length → nth zs j = nth c.vals j - nth c.vals 0) : SmallC ⟨zs, c.per, c.inc⟩ ∧ finB ⟨zs, c.per, c.inc⟩ = true ∧ nth zs 0 = 0 := by
  have hv := h.valid
  have hr := valid_range hv
  obtain ⟨⟨q1, q2, q3, q4, q5, q6, q7⟩, q8, q9⟩ := validB_iff.1 hv
  have hlast : nth c.vals (c.vals.length - 1) ≠ INF := by unfold finB at hf; rwa [bne_iff_ne] at hf
  have hle : ∀ j, j < c.vals.length → nth c.vals j ≠ INF := fun j hj => by
    have h1 := valid_mono hv (show j ≤ c.vals.length - 1 by omega) (by omega)
    have h2 := (q8 (c.vals.length - 1) (by omega)).1
    unfold INF MAXV at *
    omega
  have h0 := (q8 0 (by omega)).1.resolve_left (hle 0 (by omega))
  rw [if_neg hlast] at q9
  have hbd : ∀ j, j < c.vals.length → nth c.vals 0 ≤ nth c.vals j ∧ nth c.vals j ≤ 1000 := fun j hj => ⟨valid_mono hv (Nat.zero_le _) hj, (h.vals _ (nth_mem hj)).resolve_left (hle j hj)⟩
  have hfin : finB ⟨zs, c.per, c.inc⟩ = true := by
    unfold finB
    dsimp only
    rw [hl, hz _ (by omega), bne_iff_ne]
    have := hbd (c.vals.length - 1) (by omega)
    unfold INF; omega
  refine ⟨⟨validB_iff.2 ⟨by dsimp only; rw [hl]; exact ⟨q1, q2, q3, q4, q5, q6, q7⟩, fun i hi => ?_, ?_⟩, by dsimp only; rw [hl]; exact h.len, h.per, h.inc, all_of_nth (fun j hj => ?_)⟩, hfin, by rw [hz 0 (by omega)]; omega⟩
  · dsimp only at hi ⊢
    rw [hl] at hi
    rw [hz i hi]
    have := hbd i hi
    refine ⟨.inr ⟨by omega, by unfold MAXV; omega⟩, ?_⟩
    by_cases hi0 : i = 0
    · exact .inl hi0
    · rw [hz (i - 1) (by omega)]
      have := valid_mono hv (show i - 1 ≤ i by omega) hi
      exact .inr (by omega)
  · dsimp only
    rw [hl, hz _ (by omega), if_neg (by have := hbd (c.vals.length - 1) (by omega); unfold INF; omega), hz _ (by omega)]
    omega
  · rw [hl] at hj
    rw [hz j hj]
    have := hbd j hj
    exact .inr (by omega)
end Go.Proofs.Ytnackbfnmhkodaa.M

/- Four operations of which any may come first. No condition. -/
namespace Go.Proofs.Ytnackbfnmhkodaa.K
open Go Go.RowKit
variable {P : Program} {T : Tab} {n : Nat} {env : Env} {w0 : World} {R : Ro} {E : List Ent} {Q : Exit → Act → World → Prop}
variable {ops : List Oper} {ES : List Ent} {R0 : Ro} {fuel : Nat} {listed : Array Bool}
theorem WA.br4 {i j k l : Nat} (hr : Region.ready .any ops.toArray listed = [i, j, k, l]) (h1 : WS P ops Q ES R0 w0 fuel listed n env R E i) (h2 : WS P ops Q ES R0 w0 fuel listed n env R E j) (h3 : WS P ops Q ES R0 w0 fuel listed n env R E k) (h4 : WS P ops Q ES R0 w0 fuel listed n env R E l) : WA P ops Q ES R0 w0 (fuel + 1) listed n env R E := by
  intro a w hk hm
  refine wpAnyH_all hr (by simp) fun m hm' => ?_
  simp only [List.mem_cons, List.not_mem_nil, or_false] at hm'
  rcases hm' with rfl | rfl | rfl | rfl
  · exact h1 a w hk hm
  · exact h2 a w hk hm
  · exact h3 a w hk hm
  · exact h4 a w hk hm
theorem WE.retFS {E' : List Ent} (hE : E'.Sublist E) (hT : TabOk P T) {fn : Func} {Post : Value → Ro → List Ent → Prop} {R0 : Ro} {rs : List ResultVar} (vs : List Value) (hr : fn.results = rs.toArray) (h : ResAll T env R E rs vs) (hR : RLe R0 R) (hp : Post (resVal vs) R E') (hds : markOf env = none := by rfl) :
    WE (bodyPost P fn (FnR w0 R0 Post)) .ret n env w0 R E := fun _ _ hk hm => ⟨by rw [hk.defers]; unfold dsOf; rw [hds], resVal vs, results_ok hT hr hk hm h, resVal vs, R, E', rfl, hR, hm.sub (RLe.refl R) hE, hp⟩
end Go.Proofs.Ytnackbfnmhkodaa.K

/- Chapter 19: runs of weighted round robin. No condition. -/
set_option maxRecDepth 4000
set_option linter.unusedSimpArgs false
set_option linter.unusedVariables false
namespace Go.Proofs.Ytnackbfnmhkodaa
open Go Go.RowKit Go.Proofs.Ytnackbfnmhkodaa.K Go.Proofs.Ytnackbfnmhkodaa.M

end Go.Proofs.Ytnackbfnmhkodaa

/- Chapter 19: the curve. No condition. -/
set_option maxRecDepth 4000
set_option linter.unusedSimpArgs false
set_option linter.unusedVariables false
namespace Go.Proofs.Ytnackbfnmhkodaa
open Go Go.RowKit Go.Proofs.Ytnackbfnmhkodaa.K Go.Proofs.Ytnackbfnmhkodaa.M

end Go.Proofs.Ytnackbfnmhkodaa

/- Chapter 19: what its laws use. No condition. -/
set_option maxRecDepth 4000
set_option linter.unusedSimpArgs false
set_option linter.unusedVariables false
namespace Go.Proofs.Ytnackbfnmhkodaa
open Go Go.RowKit Go.Proofs.Ytnackbfnmhkodaa.K Go.Proofs.Ytnackbfnmhkodaa.M

def wgtF (hi : Int) (xs : List Int) (c : Nat) (i : Nat) : Int := 1 + mod (nth xs (c + i)) hi
theorem PickM_C {R : Ro} {b : Nat} {a : Option Addr} {cp : Nat} {xs : List Int} {c : Nat} (w0 : World) {n : Nat} {a2 : Option Addr} {c2 : Nat} {j : Nat} {F : List Ent} (ys : List Int) (hn : ys.length = n) (hn0 : 0 < n) (hn1 : n ≤ 1000000) (ha : RS R 1 encI a xs) (hy : F[j]? = some (.sl 3 1 a2 c2 (ys.map encI))) :
  K.Fn Try.prog 13 [.pointer (some ⟨b, 0, none⟩), .slice a2 n c2] w0 R (srcE b a cp xs c :: F) (fun v R' E' => ∃ e' N, E' = N ++ e' :: F ∧ RdPost (.int .i64 (nth ys (mod (nth xs c) n).toNat)) R (srcE b a cp xs (c + 1)) v R' e' N) := by
 subst hn; exact Pick_C w0 ha hy hn0 hn1

end Go.Proofs.Ytnackbfnmhkodaa

/- A curve with more values and a longer period. No condition. -/
set_option maxRecDepth 4000
set_option linter.unusedSimpArgs false
set_option linter.unusedVariables false
namespace Go.Proofs.Ytnackbfnmhkodaa
open Go Go.RowKit Go.Proofs.Ytnackbfnmhkodaa.K Go.Proofs.Ytnackbfnmhkodaa.M

theorem Longer_C {R : Ro} {fa : Option Addr} {fc : Nat} {F : Nat → Int} {S P : Nat} {I : Int} (hf : FC F S P I) (ha : RS R 1 encI fa (fvals F (S + P))) {more times : Nat} (hmo : more ≤ 100) (hti : 1 ≤ times ∧ times ≤ 10) (w0 : World) (E : List Ent) : K.Fn Try.prog 29 [.agg #[.slice fa (fvals F (S + P)).length fc, .int .i64 (P : Int), .int .i64 I], .int .i64 (more : Int), .int .i64 (times : Int)] w0 R E (fun v R' E' => ∃ (f : Option Addr) (c : Nat), v = .agg #[.slice f (fvals F (S + more + P * times)).length c, .int .i64 ((P * times : Nat) : Int), .int .i64 (I * (times : Int))] ∧ RS R' 1 encI f (fvals F (S + more + P * times)) ∧ (fvals F (S + more + P * times)).length ≤ c ∧ E.Sublist E') := by
 have hfl := fvals_len F (S + P)
 have hP := hf.hP
 have hn := hf.hn
 have hI := hf.hI
 have hkb : (times - 1) * P ≤ 9 * 120 := Nat.mul_le_mul (by omega) (by omega)
 have hkb2 : P * times ≤ 120 * 10 := Nat.mul_le_mul (by omega) (by omega)
 have hkb3 : ((times : Int) - 1) * (P : Int) = (((times - 1) * P : Nat) : Int) := by rw [Int.natCast_mul, show ((times - 1 : Nat) : Int) = (times : Int) - 1 by omega]
 have hkb4 : (P : Int) * (times : Int) = ((P * times : Nat) : Int) := by rw [Int.natCast_mul]
 have hkb5 : S + P + (more + (times - 1) * P) = S + more + P * times := by
  obtain ⟨t', rfl⟩ : ∃ t', times = t' + 1 := ⟨times - 1, by omega⟩
  rw [Nat.add_sub_cancel, Nat.mul_add, Nat.mul_comm P t']; omega
 have hIt : 0 ≤ I * (times : Int) ∧ I * (times : Int) ≤ 1073741824 * 10 := ⟨Int.mul_nonneg (by omega) (by omega), Int.mul_le_mul (by omega) (by omega) (by omega) (by omega)⟩
 have hlast := hf.hb (S + P - 1) (by omega)
 have hbd := hf.bound
 have g1 : (((fvals F (S + P)).length : Int) == 0) = false := by rw [beq_eq_false_iff_ne]; omega
 have g2 : (nth (fvals F (S + P)) (((fvals F (S + P)).length : Int) - 1).toNat == 4611686018427387904) = false := by
  rw [show (((fvals F (S + P)).length : Int) - 1).toNat = S + P - 1 by omega, fvals_nth F (by omega), beq_eq_false_iff_ne]; omega
 have g3 : decide ((P : Int) < 1) = false := decide_eq_false (by omega)
 have g4 : decide ((P : Int) > ((fvals F (S + P)).length : Int)) = false := decide_eq_false (by omega)
 refine Fn.enter (n := 87) Try.func29 rfl rfl (Nat.le_of_ble_eq_true rfl) rfl ?_
 refine W.seq (W.region _ ?_)
 refine WL.ef rfl rfl qD (Ef.box rfl rfl (fun b3 => ?_))
 refine WL.ef rfl rfl qD (Ef.alloc tab_ok rfl rfl (fun b6 => ?_))
 refine WG.nil (WE.nxt ?_)
 refine W.seqCut (β := Nat × Option Addr × Nat) (fun (b7, a12, c12) => True) (fun (b7, a12, c12) => [(1, true, .int .i64 (more : Int)), (2, true, .int .i64 (times : Int)), (3, true, .pointer (some ⟨b3, 0, none⟩)), (6, true, .pointer (some ⟨b6, 0, none⟩)), (7, true, .pointer (some ⟨b7, 0, none⟩))]) (fun _ => R) (fun (b7, a12, c12) => .blk b7 [.slice a12 (fvals F (S + P)).length c12, .int .i64 (P : Int), .int .i64 I] :: .sl 3 1 a12 c12 ((fvals F (S + P)).map encI) :: .blk b6 [.slice none 0 0, .int .i64 0, .int .i64 0] :: .blk b3 [.slice fa (fvals F (S + P)).length fc, .int .i64 (P : Int), .int .i64 I] :: E) ?_ ?_
 ·
  intro st hst
  obtain ⟨b7, a12, c12⟩ := st
  dsimp only
  refine W.seq (W.seq (W.region _ (WG.run tab_ok 1 rfl ?_)))
  refine' WG.y rfl rfl qD (Yl.load1 tab_ok rfl rfl rfl (fun _ => rfl) ?r1 rfl ?h1) ?_
  case r1 => apply Rd.add; (exact Rd.blk 3 rfl)
  case h1 => rfl
  refine WG.run tab_ok 3 rfl ?_
  refine WL.guardT rfl (by first | rfl | (simp only [g1, g2, g3]; done) | (simp only [g1, g2, g3]; rfl)) ?_
  refine WG.y rfl rfl qD (pureV_ok tab_ok rfl (fun _ => rfl)) ?_
  refine WL.guardT rfl (by first | rfl | (simp only [g1, g2, g3]; done) | (simp only [g1, g2, g3]; rfl)) ?_
  refine' WG.y rfl rfl qD (Yl.load1 tab_ok rfl rfl rfl (fun _ => rfl) ?r2 rfl ?h2) ?_
  case r2 => apply Rd.add; (exact Rd.blk 3 rfl)
  case h2 => rfl
  refine WL.guardT rfl (by first | rfl | (simp only [g1, g2, g3]; done) | (simp only [g1, g2, g3]; rfl)) ?_
  refine WG.y rfl rfl qD (pureV_ok tab_ok rfl (fun _ => rfl)) ?_
  refine WL.guardT rfl (by first | rfl | (simp only [g1, g2, g3]; done) | (simp only [g1, g2, g3]; rfl)) ?_
  refine' WG.y rfl rfl qD (Yl.load1 tab_ok rfl rfl rfl (fun _ => rfl) ?r3 rfl ?h3) ?_
  case r3 => apply Rd.add; (exact Rd.blk 3 rfl)
  case h3 => rfl
  refine WL.guardT rfl (by first | rfl | (simp only [g1, g2, g3]; done) | (simp only [g1, g2, g3]; rfl)) ?_
  refine WG.y rfl rfl qD (pureV_ok tab_ok rfl (fun _ => rfl)) ?_
  refine WL.guardT rfl (by first | rfl | (simp only [g1, g2, g3]; done) | (simp only [g1, g2, g3]; rfl)) ?_
  refine WG.y rfl rfl qD (Yl.sub rfl rfl rfl (fun _ => rfl) qA) ?_
  refine WL.guardT rfl (by first | rfl | (simp only [g1, g2, g3]; done) | (simp only [g1, g2, g3]; rfl)) ?_
  refine WG.y rfl rfl qD (Yl.index tab_ok rfl rfl rfl rfl rfl rfl (fun _ => rfl) qA qH) ?_
  refine WL.guardT rfl (by first | rfl | (simp only [g1, g2, g3]; done) | (simp only [g1, g2, g3]; rfl)) ?_
  refine' WG.y rfl rfl qD (Yl.load1 tab_ok rfl rfl rfl (fun _ => rfl) ?r4 rfl ?h4) ?_
  case r4 => ((apply RS.rdD; assumption; ((try dsimp only) <;> omega)))
  case h4 => rfl
  refine WL.guardT rfl (by first | rfl | (simp only [g1, g2, g3]; done) | (simp only [g1, g2, g3]; rfl)) ?_
  refine WG.y rfl rfl qD (pureV_ok tab_ok rfl (fun _ => rfl)) ?_
  refine WG.y rfl rfl (by decide) (Yl.por rfl rfl rfl (fun _ => rfl) (by intro h1 h2; simp_all <;> omega)) ?_
  refine WG.run tab_ok 1 rfl ?_
  refine WL.guardT rfl (by first | rfl | (simp only [g1, g2, g3]; done) | (simp only [g1, g2, g3]; rfl)) ?_
  refine WG.y rfl rfl qD (pureV_ok tab_ok rfl (fun _ => rfl)) ?_
  refine WL.guardT rfl (by first | rfl | (simp only [g1, g2, g3]; done) | (simp only [g1, g2, g3]; rfl)) ?_
  refine' WG.y rfl rfl qD (Yl.load1 tab_ok rfl rfl rfl (fun _ => rfl) ?r5 rfl ?h5) ?_
  case r5 => apply Rd.add; (exact Rd.blk 3 rfl)
  case h5 => rfl
  refine WL.guardT rfl (by first | rfl | (simp only [g1, g2, g3]; done) | (simp only [g1, g2, g3]; rfl)) ?_
  refine WG.y rfl rfl qD (pureV_ok tab_ok rfl (fun _ => rfl)) ?_
  refine WG.y rfl rfl (by decide) (Yl.por rfl rfl rfl (fun _ => rfl) (by intro h1 h2; simp_all <;> omega)) ?_
  refine WG.run tab_ok 1 rfl ?_
  refine WL.guardT rfl (by first | rfl | (simp only [g1, g2, g3]; done) | (simp only [g1, g2, g3]; rfl)) ?_
  refine WG.y rfl rfl qD (pureV_ok tab_ok rfl (fun _ => rfl)) ?_
  refine WL.guardT rfl (by first | rfl | (simp only [g1, g2, g3]; done) | (simp only [g1, g2, g3]; rfl)) ?_
  refine' WG.y rfl rfl qD (Yl.load1 tab_ok rfl rfl rfl (fun _ => rfl) ?r6 rfl ?h6) ?_
  case r6 => apply Rd.add; (exact Rd.blk 3 rfl)
  case h6 => rfl
  refine WL.guardT rfl (by first | rfl | (simp only [g1, g2, g3]; done) | (simp only [g1, g2, g3]; rfl)) ?_
  refine WG.y rfl rfl qD (pureV_ok tab_ok rfl (fun _ => rfl)) ?_
  refine WL.guardT rfl (by first | rfl | (simp only [g1, g2, g3]; done) | (simp only [g1, g2, g3]; rfl)) ?_
  refine' WG.y rfl rfl qD (Yl.load1 tab_ok rfl rfl rfl (fun _ => rfl) ?r7 rfl ?h7) ?_
  case r7 => apply Rd.add; (exact Rd.blk 3 rfl)
  case h7 => rfl
  refine WL.guardT rfl (by first | rfl | (simp only [g1, g2, g3]; done) | (simp only [g1, g2, g3]; rfl)) ?_
  refine WG.y rfl rfl qD (pureV_ok tab_ok rfl (fun _ => rfl)) ?_
  refine WL.guardT rfl (by first | rfl | (simp only [g1, g2, g3]; done) | (simp only [g1, g2, g3]; rfl)) ?_
  refine WG.y rfl rfl qD (pureV_ok tab_ok rfl (fun _ => rfl)) ?_
  refine WG.y rfl rfl (by decide) (Yl.por rfl rfl rfl (fun _ => rfl) (by intro h1 h2; simp_all <;> omega)) ?_
  refine WG.nil (WE.nxt ?_)
  refine W.cond rfl (fun hc0 => ?_) (fun hc0 => ?_)
  ·try simp only [kk] at hc0
   rw [beq_eq_false_iff_ne] at g2
   rcases hc0 with ((h | h) | h) | h
   ·omega
   ·exact absurd h g2
   ·omega
   ·omega
  ·try simp only [kk] at hc0
   refine W.skip (WE.nxt (W.seq (W.seq (W.region _ (WG.run tab_ok 2 rfl ?_)))))
   refine WG.y rfl rfl qD (Yl.sub rfl rfl rfl (fun _ => rfl) qA) ?_
   refine WG.run tab_ok 1 rfl ?_
   refine' WG.y rfl rfl qD (Yl.load1 tab_ok rfl rfl rfl (fun _ => rfl) ?r8 rfl ?h8) ?_
   case r8 => apply Rd.add; (exact Rd.blk 3 rfl)
   case h8 => rfl
   refine WG.y rfl rfl qD (Yl.mul rfl rfl rfl (fun _ => rfl) qA) ?_
   rw [hkb3]
   refine WG.y rfl rfl qD (Yl.add rfl rfl rfl (fun _ => rfl) qA) ?_
   rw [show (more : Int) + (((times - 1) * P : Nat) : Int) = (((more + (times - 1) * P) - 0 : Nat) : Int) by omega]
   refine WG.run tab_ok 1 rfl (WG.nil (WE.nxt (W.block ?_)))
   refine W.loopK (β := Nat × Option Addr × Nat) (fun (i, a12, c12) => i ≤ (more + (times - 1) * P)) (fun (i, a12, c12) => [(8, true, .int .i64 (((more + (times - 1) * P) - i : Nat) : Int))]) [2, 3, 6, 7] [_, _, _, _] [] _ rfl (fun (i, a12, c12) => [(0, .blk b7 [.slice a12 (fvals F (S + P + i)).length c12, .int .i64 (P : Int), .int .i64 I]), (1, .sl 3 1 a12 c12 ((fvals F (S + P + i)).map encI))]) (fun (i, a12, c12) => (more + (times - 1) * P) - i) ((0, a12, c12)) (Nat.zero_le _) ⟨rfl, rfl, rfl, rfl, rfl, rfl⟩ qS ?_
   intro st hst
   obtain ⟨i, a12, c12⟩ := st
   dsimp only [zipE, setAll, List.cons_append, List.nil_append, List.set_cons_zero, List.set_cons_succ] at hst ⊢
   
   refine W.seq (W.seq (W.region _ (WG.run tab_ok 2 rfl (WG.nil (WE.nxt ?_)))))
   refine W.condD rfl (fun hc1 => ?_) (fun hc1 => ?_)
   ·try dsimp only at hc1
    have hil : i < more + (times - 1) * P := by omega
    have hvl : (fvals F (S + P + i)).length = S + P + i := fvals_len F _
    have hnx : nth (fvals F (S + P + i)) ((((fvals F (S + P + i)).length : Int) - (P : Int)).toNat) + I = F (S + P + i) := by
     rw [show (((fvals F (S + P + i)).length : Int) - (P : Int)).toNat = S + i by omega, fvals_nth F (by omega), ← hf.hg (S + i) (by omega)]
     congr 1; omega
    have hb9 := hbd (S + P + i)
    have hb8 := hbd (S + i)
    have hn8 := hf.nonneg (S + i)
    have hv8 : nth (fvals F (S + P + i)) ((((fvals F (S + P + i)).length : Int) - (P : Int)).toNat) = F (S + i) := by
     rw [show (((fvals F (S + P + i)).length : Int) - (P : Int)).toNat = S + i by omega, fvals_nth F (by omega)]
    have e1 : fvals F (S + P + (i + 1)) = fvals F (S + P + i) ++ [nth (fvals F (S + P + i)) ((((fvals F (S + P + i)).length : Int) - (P : Int)).toNat) + I] := by rw [hnx]; exact fvals_snoc F _
    refine W.skip (WE.nxt (W.seq (W.block ?_)))
    refine W.regionH _ (ES := [.blk b3 [.slice fa (fvals F (S + P)).length fc, .int .i64 (P : Int), .int .i64 I]]) mixed ?_
    refine WA.take 0 rfl qK qK qK rfl rfl qD (pureV_ok tab_ok rfl (fun _ => rfl)) qS qR ?_
    refine WA.take 2 rfl qK qK qK rfl rfl qD (pureV_ok tab_ok rfl (fun _ => rfl)) qS qR ?_
    refine WA.take 4 rfl qK qK qK rfl rfl qD (pureV_ok tab_ok rfl (fun _ => rfl)) qS qR ?_
    refine WA.take 7 rfl qK qK qK rfl rfl qD (pureV_ok tab_ok rfl (fun _ => rfl)) qS qR ?_
    refine' WA.take 8 rfl qK qK qK rfl rfl qD (Yl.load1 tab_ok rfl rfl rfl (fun _ => rfl) ?r9 rfl ?h9) qS qR ?_
    case r9 => apply Rd.add; (exact Rd.blk 0 rfl)
    case h9 => rfl
    refine WA.take 12 rfl qK qK qK rfl rfl qD (pureV_ok tab_ok rfl (fun _ => rfl)) qS qR ?_
    refine' WA.take 13 rfl qK qK qK rfl rfl qD (Yl.load1 tab_ok rfl rfl rfl (fun _ => rfl) ?r10 rfl ?h10) qS qR ?_
    case r10 => apply Rd.add; (exact Rd.blk 0 rfl)
    case h10 => rfl
    refine WA.br3 (i := 1) (j := 3) (k := 5) qK ?_ ?_ ?_
    ·
     refine' WS.yl rfl rfl rfl qD (Yl.load1 tab_ok rfl rfl rfl (fun _ => rfl) ?r11 rfl ?h11) qS qR ?_
     case r11 => apply Rd.add; (exact Rd.blk 0 rfl)
     case h11 => rfl
     refine WA.br2 (i := 3) (j := 5) qK ?_ ?_
     ·
      refine' WS.yl rfl rfl rfl qD (Yl.load1 tab_ok rfl rfl rfl (fun _ => rfl) ?r12 rfl ?h12) qS qR ?_
      case r12 => apply Rd.add; (exact Rd.blk 0 rfl)
      case h12 => rfl
      refine' WA.yl 5 rfl qK rfl rfl qD (Yl.load1 tab_ok rfl rfl rfl (fun _ => rfl) ?r13 rfl ?h13) qS qR ?_
      case r13 => apply Rd.add; (exact Rd.blk 0 rfl)
      case h13 => rfl
      refine WA.take 6 rfl qK qK qK rfl rfl qD (pureV_ok tab_ok rfl (fun _ => rfl)) qS qR ?_
      refine WA.take 9 rfl qK qK qK rfl rfl qD (Yl.sub rfl rfl rfl (fun _ => rfl) qA) qS qR ?_
      refine WA.yl 10 rfl qK rfl rfl qD (Yl.index tab_ok rfl rfl rfl rfl rfl rfl (fun _ => rfl) qA qH) qS qR ?_
      refine' WA.yl 11 rfl qK rfl rfl qD (Yl.load1 tab_ok rfl rfl rfl (fun _ => rfl) ?r14 rfl ?h14) qS qR ?_
      case r14 => (exact Rd.slD 1 rfl qX)
      case h14 => rfl
      refine WA.take 14 rfl qK qK qK rfl rfl qD (Yl.add rfl rfl rfl (fun _ => rfl) qA) qS qR ?_
      refine WA.eff 15 rfl qK rfl rfl qD (Ef.buildSliceD (enc := encI) (parts := [.tmp 72]) [_] tab_ok rfl rfl rfl rfl rfl rfl rfl rfl qD qD (fun a73 => ?_))
      refine ⟨by first | exact RLe.refl _ | assumption, qS, ?_⟩
      refine WA.eff 16 rfl (by kernel_rfl) rfl rfl (by decide) (Ef.appendD 2 0 tab_ok rfl rfl rfl rfl rfl rfl rfl rfl rfl rfl rfl (fun _ _ => rfl) (by simp only [List.length_cons, List.length_nil]; omega) (by simp only [List.length_cons, List.length_nil]; omega) (fun a74 c74 ha74 => ?_))
      refine ⟨by first | exact RLe.refl _ | assumption, qS, ?_⟩
      refine WA.take 17 rfl qK qK qK rfl rfl qD (pureV_ok tab_ok rfl (fun _ => rfl)) qS qR ?_
      refine WA.effN 18 rfl qK rfl rfl (Ef.store 1 tab_ok rfl rfl rfl rfl rfl rfl rfl rfl ?_)
      refine ⟨by first | exact RLe.refl _ | assumption, qS, ?_⟩
      refine WA.done qK ?_
      refine WE.blk _ (WE.nxt (W.region _ (WG.run tab_ok 1 rfl ?_)))
      refine WG.y rfl rfl qD (Yl.sub rfl rfl rfl (fun _ => rfl) qA) ?_
      rw [show (((more + (times - 1) * P) - i : Nat) : Int) - 1 = (((more + (times - 1) * P) - (i + 1) : Nat) : Int) by omega]
      refine WG.run tab_ok 1 rfl (WG.nil ?_)
      refine WE.again ((i + 1, a74, c74)) (by dsimp only; omega) (by (try dsimp only); omega) ⟨rfl, rfl, rfl, rfl, rfl, rfl⟩ (RLe.refl _) (by dsimp only [setAll, List.set_cons_zero, List.set_cons_succ]; rw [e1, List.length_append]; exact qS)
     ·
      refine' WS.yl rfl rfl rfl qD (Yl.load1 tab_ok rfl rfl rfl (fun _ => rfl) ?r15 rfl ?h15) qS qR ?_
      case r15 => apply Rd.add; (exact Rd.blk 0 rfl)
      case h15 => rfl
      refine WA.take 6 rfl qK qK qK rfl rfl qD (pureV_ok tab_ok rfl (fun _ => rfl)) qS qR ?_
      refine WA.take 9 rfl qK qK qK rfl rfl qD (Yl.sub rfl rfl rfl (fun _ => rfl) qA) qS qR ?_
      refine' WA.yl 3 rfl qK rfl rfl qD (Yl.load1 tab_ok rfl rfl rfl (fun _ => rfl) ?r16 rfl ?h16) qS qR ?_
      case r16 => apply Rd.add; (exact Rd.blk 0 rfl)
      case h16 => rfl
      refine WA.yl 10 rfl qK rfl rfl qD (Yl.index tab_ok rfl rfl rfl rfl rfl rfl (fun _ => rfl) qA qH) qS qR ?_
      refine' WA.yl 11 rfl qK rfl rfl qD (Yl.load1 tab_ok rfl rfl rfl (fun _ => rfl) ?r17 rfl ?h17) qS qR ?_
      case r17 => (exact Rd.slD 1 rfl qX)
      case h17 => rfl
      refine WA.take 14 rfl qK qK qK rfl rfl qD (Yl.add rfl rfl rfl (fun _ => rfl) qA) qS qR ?_
      refine WA.eff 15 rfl qK rfl rfl qD (Ef.buildSliceD (enc := encI) (parts := [.tmp 72]) [_] tab_ok rfl rfl rfl rfl rfl rfl rfl rfl qD qD (fun a73 => ?_))
      refine ⟨by first | exact RLe.refl _ | assumption, qS, ?_⟩
      refine WA.eff 16 rfl (by kernel_rfl) rfl rfl (by decide) (Ef.appendD 2 0 tab_ok rfl rfl rfl rfl rfl rfl rfl rfl rfl rfl rfl (fun _ _ => rfl) (by simp only [List.length_cons, List.length_nil]; omega) (by simp only [List.length_cons, List.length_nil]; omega) (fun a74 c74 ha74 => ?_))
      refine ⟨by first | exact RLe.refl _ | assumption, qS, ?_⟩
      refine WA.take 17 rfl qK qK qK rfl rfl qD (pureV_ok tab_ok rfl (fun _ => rfl)) qS qR ?_
      refine WA.effN 18 rfl qK rfl rfl (Ef.store 1 tab_ok rfl rfl rfl rfl rfl rfl rfl rfl ?_)
      refine ⟨by first | exact RLe.refl _ | assumption, qS, ?_⟩
      refine WA.done qK ?_
      refine WE.blk _ (WE.nxt (W.region _ (WG.run tab_ok 1 rfl ?_)))
      refine WG.y rfl rfl qD (Yl.sub rfl rfl rfl (fun _ => rfl) qA) ?_
      rw [show (((more + (times - 1) * P) - i : Nat) : Int) - 1 = (((more + (times - 1) * P) - (i + 1) : Nat) : Int) by omega]
      refine WG.run tab_ok 1 rfl (WG.nil ?_)
      refine WE.again ((i + 1, a74, c74)) (by dsimp only; omega) (by (try dsimp only); omega) ⟨rfl, rfl, rfl, rfl, rfl, rfl⟩ (RLe.refl _) (by dsimp only [setAll, List.set_cons_zero, List.set_cons_succ]; rw [e1, List.length_append]; exact qS)
    ·
     refine' WS.yl rfl rfl rfl qD (Yl.load1 tab_ok rfl rfl rfl (fun _ => rfl) ?r18 rfl ?h18) qS qR ?_
     case r18 => apply Rd.add; (exact Rd.blk 0 rfl)
     case h18 => rfl
     refine WA.br2 (i := 1) (j := 5) qK ?_ ?_
     ·
      refine' WS.yl rfl rfl rfl qD (Yl.load1 tab_ok rfl rfl rfl (fun _ => rfl) ?r19 rfl ?h19) qS qR ?_
      case r19 => apply Rd.add; (exact Rd.blk 0 rfl)
      case h19 => rfl
      refine' WA.yl 5 rfl qK rfl rfl qD (Yl.load1 tab_ok rfl rfl rfl (fun _ => rfl) ?r20 rfl ?h20) qS qR ?_
      case r20 => apply Rd.add; (exact Rd.blk 0 rfl)
      case h20 => rfl
      refine WA.take 6 rfl qK qK qK rfl rfl qD (pureV_ok tab_ok rfl (fun _ => rfl)) qS qR ?_
      refine WA.take 9 rfl qK qK qK rfl rfl qD (Yl.sub rfl rfl rfl (fun _ => rfl) qA) qS qR ?_
      refine WA.yl 10 rfl qK rfl rfl qD (Yl.index tab_ok rfl rfl rfl rfl rfl rfl (fun _ => rfl) qA qH) qS qR ?_
      refine' WA.yl 11 rfl qK rfl rfl qD (Yl.load1 tab_ok rfl rfl rfl (fun _ => rfl) ?r21 rfl ?h21) qS qR ?_
      case r21 => (exact Rd.slD 1 rfl qX)
      case h21 => rfl
      refine WA.take 14 rfl qK qK qK rfl rfl qD (Yl.add rfl rfl rfl (fun _ => rfl) qA) qS qR ?_
      refine WA.eff 15 rfl qK rfl rfl qD (Ef.buildSliceD (enc := encI) (parts := [.tmp 72]) [_] tab_ok rfl rfl rfl rfl rfl rfl rfl rfl qD qD (fun a73 => ?_))
      refine ⟨by first | exact RLe.refl _ | assumption, qS, ?_⟩
      refine WA.eff 16 rfl (by kernel_rfl) rfl rfl (by decide) (Ef.appendD 2 0 tab_ok rfl rfl rfl rfl rfl rfl rfl rfl rfl rfl rfl (fun _ _ => rfl) (by simp only [List.length_cons, List.length_nil]; omega) (by simp only [List.length_cons, List.length_nil]; omega) (fun a74 c74 ha74 => ?_))
      refine ⟨by first | exact RLe.refl _ | assumption, qS, ?_⟩
      refine WA.take 17 rfl qK qK qK rfl rfl qD (pureV_ok tab_ok rfl (fun _ => rfl)) qS qR ?_
      refine WA.effN 18 rfl qK rfl rfl (Ef.store 1 tab_ok rfl rfl rfl rfl rfl rfl rfl rfl ?_)
      refine ⟨by first | exact RLe.refl _ | assumption, qS, ?_⟩
      refine WA.done qK ?_
      refine WE.blk _ (WE.nxt (W.region _ (WG.run tab_ok 1 rfl ?_)))
      refine WG.y rfl rfl qD (Yl.sub rfl rfl rfl (fun _ => rfl) qA) ?_
      rw [show (((more + (times - 1) * P) - i : Nat) : Int) - 1 = (((more + (times - 1) * P) - (i + 1) : Nat) : Int) by omega]
      refine WG.run tab_ok 1 rfl (WG.nil ?_)
      refine WE.again ((i + 1, a74, c74)) (by dsimp only; omega) (by (try dsimp only); omega) ⟨rfl, rfl, rfl, rfl, rfl, rfl⟩ (RLe.refl _) (by dsimp only [setAll, List.set_cons_zero, List.set_cons_succ]; rw [e1, List.length_append]; exact qS)
     ·
      refine' WS.yl rfl rfl rfl qD (Yl.load1 tab_ok rfl rfl rfl (fun _ => rfl) ?r22 rfl ?h22) qS qR ?_
      case r22 => apply Rd.add; (exact Rd.blk 0 rfl)
      case h22 => rfl
      refine WA.take 6 rfl qK qK qK rfl rfl qD (pureV_ok tab_ok rfl (fun _ => rfl)) qS qR ?_
      refine WA.take 9 rfl qK qK qK rfl rfl qD (Yl.sub rfl rfl rfl (fun _ => rfl) qA) qS qR ?_
      refine WA.br2 (i := 1) (j := 10) qK ?_ ?_
      ·
       refine' WS.yl rfl rfl rfl qD (Yl.load1 tab_ok rfl rfl rfl (fun _ => rfl) ?r23 rfl ?h23) qS qR ?_
       case r23 => apply Rd.add; (exact Rd.blk 0 rfl)
       case h23 => rfl
       refine WA.yl 10 rfl qK rfl rfl qD (Yl.index tab_ok rfl rfl rfl rfl rfl rfl (fun _ => rfl) qA qH) qS qR ?_
       refine' WA.yl 11 rfl qK rfl rfl qD (Yl.load1 tab_ok rfl rfl rfl (fun _ => rfl) ?r24 rfl ?h24) qS qR ?_
       case r24 => (exact Rd.slD 1 rfl qX)
       case h24 => rfl
       refine WA.take 14 rfl qK qK qK rfl rfl qD (Yl.add rfl rfl rfl (fun _ => rfl) qA) qS qR ?_
       refine WA.eff 15 rfl qK rfl rfl qD (Ef.buildSliceD (enc := encI) (parts := [.tmp 72]) [_] tab_ok rfl rfl rfl rfl rfl rfl rfl rfl qD qD (fun a73 => ?_))
       refine ⟨by first | exact RLe.refl _ | assumption, qS, ?_⟩
       refine WA.eff 16 rfl (by kernel_rfl) rfl rfl (by decide) (Ef.appendD 2 0 tab_ok rfl rfl rfl rfl rfl rfl rfl rfl rfl rfl rfl (fun _ _ => rfl) (by simp only [List.length_cons, List.length_nil]; omega) (by simp only [List.length_cons, List.length_nil]; omega) (fun a74 c74 ha74 => ?_))
       refine ⟨by first | exact RLe.refl _ | assumption, qS, ?_⟩
       refine WA.take 17 rfl qK qK qK rfl rfl qD (pureV_ok tab_ok rfl (fun _ => rfl)) qS qR ?_
       refine WA.effN 18 rfl qK rfl rfl (Ef.store 1 tab_ok rfl rfl rfl rfl rfl rfl rfl rfl ?_)
       refine ⟨by first | exact RLe.refl _ | assumption, qS, ?_⟩
       refine WA.done qK ?_
       refine WE.blk _ (WE.nxt (W.region _ (WG.run tab_ok 1 rfl ?_)))
       refine WG.y rfl rfl qD (Yl.sub rfl rfl rfl (fun _ => rfl) qA) ?_
       rw [show (((more + (times - 1) * P) - i : Nat) : Int) - 1 = (((more + (times - 1) * P) - (i + 1) : Nat) : Int) by omega]
       refine WG.run tab_ok 1 rfl (WG.nil ?_)
       refine WE.again ((i + 1, a74, c74)) (by dsimp only; omega) (by (try dsimp only); omega) ⟨rfl, rfl, rfl, rfl, rfl, rfl⟩ (RLe.refl _) (by dsimp only [setAll, List.set_cons_zero, List.set_cons_succ]; rw [e1, List.length_append]; exact qS)
      ·
       refine WS.yl rfl rfl rfl qD (Yl.index tab_ok rfl rfl rfl rfl rfl rfl (fun _ => rfl) qA qH) qS qR ?_
       refine WA.br2 (i := 1) (j := 11) qK ?_ ?_
       ·
        refine' WS.yl rfl rfl rfl qD (Yl.load1 tab_ok rfl rfl rfl (fun _ => rfl) ?r25 rfl ?h25) qS qR ?_
        case r25 => apply Rd.add; (exact Rd.blk 0 rfl)
        case h25 => rfl
        refine' WA.yl 11 rfl qK rfl rfl qD (Yl.load1 tab_ok rfl rfl rfl (fun _ => rfl) ?r26 rfl ?h26) qS qR ?_
        case r26 => (exact Rd.slD 1 rfl qX)
        case h26 => rfl
        refine WA.take 14 rfl qK qK qK rfl rfl qD (Yl.add rfl rfl rfl (fun _ => rfl) qA) qS qR ?_
        refine WA.eff 15 rfl qK rfl rfl qD (Ef.buildSliceD (enc := encI) (parts := [.tmp 72]) [_] tab_ok rfl rfl rfl rfl rfl rfl rfl rfl qD qD (fun a73 => ?_))
        refine ⟨by first | exact RLe.refl _ | assumption, qS, ?_⟩
        refine WA.eff 16 rfl (by kernel_rfl) rfl rfl (by decide) (Ef.appendD 2 0 tab_ok rfl rfl rfl rfl rfl rfl rfl rfl rfl rfl rfl (fun _ _ => rfl) (by simp only [List.length_cons, List.length_nil]; omega) (by simp only [List.length_cons, List.length_nil]; omega) (fun a74 c74 ha74 => ?_))
        refine ⟨by first | exact RLe.refl _ | assumption, qS, ?_⟩
        refine WA.take 17 rfl qK qK qK rfl rfl qD (pureV_ok tab_ok rfl (fun _ => rfl)) qS qR ?_
        refine WA.effN 18 rfl qK rfl rfl (Ef.store 1 tab_ok rfl rfl rfl rfl rfl rfl rfl rfl ?_)
        refine ⟨by first | exact RLe.refl _ | assumption, qS, ?_⟩
        refine WA.done qK ?_
        refine WE.blk _ (WE.nxt (W.region _ (WG.run tab_ok 1 rfl ?_)))
        refine WG.y rfl rfl qD (Yl.sub rfl rfl rfl (fun _ => rfl) qA) ?_
        rw [show (((more + (times - 1) * P) - i : Nat) : Int) - 1 = (((more + (times - 1) * P) - (i + 1) : Nat) : Int) by omega]
        refine WG.run tab_ok 1 rfl (WG.nil ?_)
        refine WE.again ((i + 1, a74, c74)) (by dsimp only; omega) (by (try dsimp only); omega) ⟨rfl, rfl, rfl, rfl, rfl, rfl⟩ (RLe.refl _) (by dsimp only [setAll, List.set_cons_zero, List.set_cons_succ]; rw [e1, List.length_append]; exact qS)
       ·
        refine' WS.yl rfl rfl rfl qD (Yl.load1 tab_ok rfl rfl rfl (fun _ => rfl) ?r27 rfl ?h27) qS qR ?_
        case r27 => (exact Rd.slD 1 rfl qX)
        case h27 => rfl
        refine WA.take 14 rfl qK qK qK rfl rfl qD (Yl.add rfl rfl rfl (fun _ => rfl) qA) qS qR ?_
        refine WA.br2 (i := 1) (j := 15) qK ?_ ?_
        ·
         refine' WS.yl rfl rfl rfl qD (Yl.load1 tab_ok rfl rfl rfl (fun _ => rfl) ?r28 rfl ?h28) qS qR ?_
         case r28 => apply Rd.add; (exact Rd.blk 0 rfl)
         case h28 => rfl
         refine WA.eff 15 rfl qK rfl rfl qD (Ef.buildSliceD (enc := encI) (parts := [.tmp 72]) [_] tab_ok rfl rfl rfl rfl rfl rfl rfl rfl qD qD (fun a73 => ?_))
         refine ⟨by first | exact RLe.refl _ | assumption, qS, ?_⟩
         refine WA.eff 16 rfl (by kernel_rfl) rfl rfl (by decide) (Ef.appendD 2 0 tab_ok rfl rfl rfl rfl rfl rfl rfl rfl rfl rfl rfl (fun _ _ => rfl) (by simp only [List.length_cons, List.length_nil]; omega) (by simp only [List.length_cons, List.length_nil]; omega) (fun a74 c74 ha74 => ?_))
         refine ⟨by first | exact RLe.refl _ | assumption, qS, ?_⟩
         refine WA.take 17 rfl qK qK qK rfl rfl qD (pureV_ok tab_ok rfl (fun _ => rfl)) qS qR ?_
         refine WA.effN 18 rfl qK rfl rfl (Ef.store 1 tab_ok rfl rfl rfl rfl rfl rfl rfl rfl ?_)
         refine ⟨by first | exact RLe.refl _ | assumption, qS, ?_⟩
         refine WA.done qK ?_
         refine WE.blk _ (WE.nxt (W.region _ (WG.run tab_ok 1 rfl ?_)))
         refine WG.y rfl rfl qD (Yl.sub rfl rfl rfl (fun _ => rfl) qA) ?_
         rw [show (((more + (times - 1) * P) - i : Nat) : Int) - 1 = (((more + (times - 1) * P) - (i + 1) : Nat) : Int) by omega]
         refine WG.run tab_ok 1 rfl (WG.nil ?_)
         refine WE.again ((i + 1, a74, c74)) (by dsimp only; omega) (by (try dsimp only); omega) ⟨rfl, rfl, rfl, rfl, rfl, rfl⟩ (RLe.refl _) (by dsimp only [setAll, List.set_cons_zero, List.set_cons_succ]; rw [e1, List.length_append]; exact qS)
        ·
         refine WS.eff rfl rfl rfl qD (Ef.buildSliceD (enc := encI) (parts := [.tmp 72]) [_] tab_ok rfl rfl rfl rfl rfl rfl rfl rfl qD qD (fun a73 => ?_))
         refine ⟨by first | exact RLe.refl _ | assumption, qS, ?_⟩
         refine' WA.yl 1 rfl qK rfl rfl qD (Yl.load1 tab_ok rfl rfl rfl (fun _ => rfl) ?r29 rfl ?h29) qS qR ?_
         case r29 => apply Rd.add; (exact Rd.blk 1 rfl)
         case h29 => rfl
         refine WA.eff 16 rfl (by kernel_rfl) rfl rfl (by decide) (Ef.appendD 2 0 tab_ok rfl rfl rfl rfl rfl rfl rfl rfl rfl rfl rfl (fun _ _ => rfl) (by simp only [List.length_cons, List.length_nil]; omega) (by simp only [List.length_cons, List.length_nil]; omega) (fun a74 c74 ha74 => ?_))
         refine ⟨by first | exact RLe.refl _ | assumption, qS, ?_⟩
         refine WA.take 17 rfl qK qK qK rfl rfl qD (pureV_ok tab_ok rfl (fun _ => rfl)) qS qR ?_
         refine WA.effN 18 rfl qK rfl rfl (Ef.store 1 tab_ok rfl rfl rfl rfl rfl rfl rfl rfl ?_)
         refine ⟨by first | exact RLe.refl _ | assumption, qS, ?_⟩
         refine WA.done qK ?_
         refine WE.blk _ (WE.nxt (W.region _ (WG.run tab_ok 1 rfl ?_)))
         refine WG.y rfl rfl qD (Yl.sub rfl rfl rfl (fun _ => rfl) qA) ?_
         rw [show (((more + (times - 1) * P) - i : Nat) : Int) - 1 = (((more + (times - 1) * P) - (i + 1) : Nat) : Int) by omega]
         refine WG.run tab_ok 1 rfl (WG.nil ?_)
         refine WE.again ((i + 1, a74, c74)) (by dsimp only; omega) (by (try dsimp only); omega) ⟨rfl, rfl, rfl, rfl, rfl, rfl⟩ (RLe.refl _) (by dsimp only [setAll, List.set_cons_zero, List.set_cons_succ]; rw [e1, List.length_append]; exact qS)
    ·
     refine' WS.yl rfl rfl rfl qD (Yl.load1 tab_ok rfl rfl rfl (fun _ => rfl) ?r30 rfl ?h30) qS qR ?_
     case r30 => apply Rd.add; (exact Rd.blk 0 rfl)
     case h30 => rfl
     refine WA.take 6 rfl qK qK qK rfl rfl qD (pureV_ok tab_ok rfl (fun _ => rfl)) qS qR ?_
     refine WA.take 9 rfl qK qK qK rfl rfl qD (Yl.sub rfl rfl rfl (fun _ => rfl) qA) qS qR ?_
     refine WA.br2 (i := 1) (j := 3) qK ?_ ?_
     ·
      refine' WS.yl rfl rfl rfl qD (Yl.load1 tab_ok rfl rfl rfl (fun _ => rfl) ?r31 rfl ?h31) qS qR ?_
      case r31 => apply Rd.add; (exact Rd.blk 0 rfl)
      case h31 => rfl
      refine' WA.yl 3 rfl qK rfl rfl qD (Yl.load1 tab_ok rfl rfl rfl (fun _ => rfl) ?r32 rfl ?h32) qS qR ?_
      case r32 => apply Rd.add; (exact Rd.blk 0 rfl)
      case h32 => rfl
      refine WA.yl 10 rfl qK rfl rfl qD (Yl.index tab_ok rfl rfl rfl rfl rfl rfl (fun _ => rfl) qA qH) qS qR ?_
      refine' WA.yl 11 rfl qK rfl rfl qD (Yl.load1 tab_ok rfl rfl rfl (fun _ => rfl) ?r33 rfl ?h33) qS qR ?_
      case r33 => (exact Rd.slD 1 rfl qX)
      case h33 => rfl
      refine WA.take 14 rfl qK qK qK rfl rfl qD (Yl.add rfl rfl rfl (fun _ => rfl) qA) qS qR ?_
      refine WA.eff 15 rfl qK rfl rfl qD (Ef.buildSliceD (enc := encI) (parts := [.tmp 72]) [_] tab_ok rfl rfl rfl rfl rfl rfl rfl rfl qD qD (fun a73 => ?_))
      refine ⟨by first | exact RLe.refl _ | assumption, qS, ?_⟩
      refine WA.eff 16 rfl (by kernel_rfl) rfl rfl (by decide) (Ef.appendD 2 0 tab_ok rfl rfl rfl rfl rfl rfl rfl rfl rfl rfl rfl (fun _ _ => rfl) (by simp only [List.length_cons, List.length_nil]; omega) (by simp only [List.length_cons, List.length_nil]; omega) (fun a74 c74 ha74 => ?_))
      refine ⟨by first | exact RLe.refl _ | assumption, qS, ?_⟩
      refine WA.take 17 rfl qK qK qK rfl rfl qD (pureV_ok tab_ok rfl (fun _ => rfl)) qS qR ?_
      refine WA.effN 18 rfl qK rfl rfl (Ef.store 1 tab_ok rfl rfl rfl rfl rfl rfl rfl rfl ?_)
      refine ⟨by first | exact RLe.refl _ | assumption, qS, ?_⟩
      refine WA.done qK ?_
      refine WE.blk _ (WE.nxt (W.region _ (WG.run tab_ok 1 rfl ?_)))
      refine WG.y rfl rfl qD (Yl.sub rfl rfl rfl (fun _ => rfl) qA) ?_
      rw [show (((more + (times - 1) * P) - i : Nat) : Int) - 1 = (((more + (times - 1) * P) - (i + 1) : Nat) : Int) by omega]
      refine WG.run tab_ok 1 rfl (WG.nil ?_)
      refine WE.again ((i + 1, a74, c74)) (by dsimp only; omega) (by (try dsimp only); omega) ⟨rfl, rfl, rfl, rfl, rfl, rfl⟩ (RLe.refl _) (by dsimp only [setAll, List.set_cons_zero, List.set_cons_succ]; rw [e1, List.length_append]; exact qS)
     ·
      refine' WS.yl rfl rfl rfl qD (Yl.load1 tab_ok rfl rfl rfl (fun _ => rfl) ?r34 rfl ?h34) qS qR ?_
      case r34 => apply Rd.add; (exact Rd.blk 0 rfl)
      case h34 => rfl
      refine WA.br2 (i := 1) (j := 10) qK ?_ ?_
      ·
       refine' WS.yl rfl rfl rfl qD (Yl.load1 tab_ok rfl rfl rfl (fun _ => rfl) ?r35 rfl ?h35) qS qR ?_
       case r35 => apply Rd.add; (exact Rd.blk 0 rfl)
       case h35 => rfl
       refine WA.yl 10 rfl qK rfl rfl qD (Yl.index tab_ok rfl rfl rfl rfl rfl rfl (fun _ => rfl) qA qH) qS qR ?_
       refine' WA.yl 11 rfl qK rfl rfl qD (Yl.load1 tab_ok rfl rfl rfl (fun _ => rfl) ?r36 rfl ?h36) qS qR ?_
       case r36 => (exact Rd.slD 1 rfl qX)
       case h36 => rfl
       refine WA.take 14 rfl qK qK qK rfl rfl qD (Yl.add rfl rfl rfl (fun _ => rfl) qA) qS qR ?_
       refine WA.eff 15 rfl qK rfl rfl qD (Ef.buildSliceD (enc := encI) (parts := [.tmp 72]) [_] tab_ok rfl rfl rfl rfl rfl rfl rfl rfl qD qD (fun a73 => ?_))
       refine ⟨by first | exact RLe.refl _ | assumption, qS, ?_⟩
       refine WA.eff 16 rfl (by kernel_rfl) rfl rfl (by decide) (Ef.appendD 2 0 tab_ok rfl rfl rfl rfl rfl rfl rfl rfl rfl rfl rfl (fun _ _ => rfl) (by simp only [List.length_cons, List.length_nil]; omega) (by simp only [List.length_cons, List.length_nil]; omega) (fun a74 c74 ha74 => ?_))
       refine ⟨by first | exact RLe.refl _ | assumption, qS, ?_⟩
       refine WA.take 17 rfl qK qK qK rfl rfl qD (pureV_ok tab_ok rfl (fun _ => rfl)) qS qR ?_
       refine WA.effN 18 rfl qK rfl rfl (Ef.store 1 tab_ok rfl rfl rfl rfl rfl rfl rfl rfl ?_)
       refine ⟨by first | exact RLe.refl _ | assumption, qS, ?_⟩
       refine WA.done qK ?_
       refine WE.blk _ (WE.nxt (W.region _ (WG.run tab_ok 1 rfl ?_)))
       refine WG.y rfl rfl qD (Yl.sub rfl rfl rfl (fun _ => rfl) qA) ?_
       rw [show (((more + (times - 1) * P) - i : Nat) : Int) - 1 = (((more + (times - 1) * P) - (i + 1) : Nat) : Int) by omega]
       refine WG.run tab_ok 1 rfl (WG.nil ?_)
       refine WE.again ((i + 1, a74, c74)) (by dsimp only; omega) (by (try dsimp only); omega) ⟨rfl, rfl, rfl, rfl, rfl, rfl⟩ (RLe.refl _) (by dsimp only [setAll, List.set_cons_zero, List.set_cons_succ]; rw [e1, List.length_append]; exact qS)
      ·
       refine WS.yl rfl rfl rfl qD (Yl.index tab_ok rfl rfl rfl rfl rfl rfl (fun _ => rfl) qA qH) qS qR ?_
       refine WA.br2 (i := 1) (j := 11) qK ?_ ?_
       ·
        refine' WS.yl rfl rfl rfl qD (Yl.load1 tab_ok rfl rfl rfl (fun _ => rfl) ?r37 rfl ?h37) qS qR ?_
        case r37 => apply Rd.add; (exact Rd.blk 0 rfl)
        case h37 => rfl
        refine' WA.yl 11 rfl qK rfl rfl qD (Yl.load1 tab_ok rfl rfl rfl (fun _ => rfl) ?r38 rfl ?h38) qS qR ?_
        case r38 => (exact Rd.slD 1 rfl qX)
        case h38 => rfl
        refine WA.take 14 rfl qK qK qK rfl rfl qD (Yl.add rfl rfl rfl (fun _ => rfl) qA) qS qR ?_
        refine WA.eff 15 rfl qK rfl rfl qD (Ef.buildSliceD (enc := encI) (parts := [.tmp 72]) [_] tab_ok rfl rfl rfl rfl rfl rfl rfl rfl qD qD (fun a73 => ?_))
        refine ⟨by first | exact RLe.refl _ | assumption, qS, ?_⟩
        refine WA.eff 16 rfl (by kernel_rfl) rfl rfl (by decide) (Ef.appendD 2 0 tab_ok rfl rfl rfl rfl rfl rfl rfl rfl rfl rfl rfl (fun _ _ => rfl) (by simp only [List.length_cons, List.length_nil]; omega) (by simp only [List.length_cons, List.length_nil]; omega) (fun a74 c74 ha74 => ?_))
        refine ⟨by first | exact RLe.refl _ | assumption, qS, ?_⟩
        refine WA.take 17 rfl qK qK qK rfl rfl qD (pureV_ok tab_ok rfl (fun _ => rfl)) qS qR ?_
        refine WA.effN 18 rfl qK rfl rfl (Ef.store 1 tab_ok rfl rfl rfl rfl rfl rfl rfl rfl ?_)
        refine ⟨by first | exact RLe.refl _ | assumption, qS, ?_⟩
        refine WA.done qK ?_
        refine WE.blk _ (WE.nxt (W.region _ (WG.run tab_ok 1 rfl ?_)))
        refine WG.y rfl rfl qD (Yl.sub rfl rfl rfl (fun _ => rfl) qA) ?_
        rw [show (((more + (times - 1) * P) - i : Nat) : Int) - 1 = (((more + (times - 1) * P) - (i + 1) : Nat) : Int) by omega]
        refine WG.run tab_ok 1 rfl (WG.nil ?_)
        refine WE.again ((i + 1, a74, c74)) (by dsimp only; omega) (by (try dsimp only); omega) ⟨rfl, rfl, rfl, rfl, rfl, rfl⟩ (RLe.refl _) (by dsimp only [setAll, List.set_cons_zero, List.set_cons_succ]; rw [e1, List.length_append]; exact qS)
       ·
        refine' WS.yl rfl rfl rfl qD (Yl.load1 tab_ok rfl rfl rfl (fun _ => rfl) ?r39 rfl ?h39) qS qR ?_
        case r39 => (exact Rd.slD 1 rfl qX)
        case h39 => rfl
        refine WA.take 14 rfl qK qK qK rfl rfl qD (Yl.add rfl rfl rfl (fun _ => rfl) qA) qS qR ?_
        refine WA.br2 (i := 1) (j := 15) qK ?_ ?_
        ·
         refine' WS.yl rfl rfl rfl qD (Yl.load1 tab_ok rfl rfl rfl (fun _ => rfl) ?r40 rfl ?h40) qS qR ?_
         case r40 => apply Rd.add; (exact Rd.blk 0 rfl)
         case h40 => rfl
         refine WA.eff 15 rfl qK rfl rfl qD (Ef.buildSliceD (enc := encI) (parts := [.tmp 72]) [_] tab_ok rfl rfl rfl rfl rfl rfl rfl rfl qD qD (fun a73 => ?_))
         refine ⟨by first | exact RLe.refl _ | assumption, qS, ?_⟩
         refine WA.eff 16 rfl (by kernel_rfl) rfl rfl (by decide) (Ef.appendD 2 0 tab_ok rfl rfl rfl rfl rfl rfl rfl rfl rfl rfl rfl (fun _ _ => rfl) (by simp only [List.length_cons, List.length_nil]; omega) (by simp only [List.length_cons, List.length_nil]; omega) (fun a74 c74 ha74 => ?_))
         refine ⟨by first | exact RLe.refl _ | assumption, qS, ?_⟩
         refine WA.take 17 rfl qK qK qK rfl rfl qD (pureV_ok tab_ok rfl (fun _ => rfl)) qS qR ?_
         refine WA.effN 18 rfl qK rfl rfl (Ef.store 1 tab_ok rfl rfl rfl rfl rfl rfl rfl rfl ?_)
         refine ⟨by first | exact RLe.refl _ | assumption, qS, ?_⟩
         refine WA.done qK ?_
         refine WE.blk _ (WE.nxt (W.region _ (WG.run tab_ok 1 rfl ?_)))
         refine WG.y rfl rfl qD (Yl.sub rfl rfl rfl (fun _ => rfl) qA) ?_
         rw [show (((more + (times - 1) * P) - i : Nat) : Int) - 1 = (((more + (times - 1) * P) - (i + 1) : Nat) : Int) by omega]
         refine WG.run tab_ok 1 rfl (WG.nil ?_)
         refine WE.again ((i + 1, a74, c74)) (by dsimp only; omega) (by (try dsimp only); omega) ⟨rfl, rfl, rfl, rfl, rfl, rfl⟩ (RLe.refl _) (by dsimp only [setAll, List.set_cons_zero, List.set_cons_succ]; rw [e1, List.length_append]; exact qS)
        ·
         refine WS.eff rfl rfl rfl qD (Ef.buildSliceD (enc := encI) (parts := [.tmp 72]) [_] tab_ok rfl rfl rfl rfl rfl rfl rfl rfl qD qD (fun a73 => ?_))
         refine ⟨by first | exact RLe.refl _ | assumption, qS, ?_⟩
         refine' WA.yl 1 rfl qK rfl rfl qD (Yl.load1 tab_ok rfl rfl rfl (fun _ => rfl) ?r41 rfl ?h41) qS qR ?_
         case r41 => apply Rd.add; (exact Rd.blk 1 rfl)
         case h41 => rfl
         refine WA.eff 16 rfl (by kernel_rfl) rfl rfl (by decide) (Ef.appendD 2 0 tab_ok rfl rfl rfl rfl rfl rfl rfl rfl rfl rfl rfl (fun _ _ => rfl) (by simp only [List.length_cons, List.length_nil]; omega) (by simp only [List.length_cons, List.length_nil]; omega) (fun a74 c74 ha74 => ?_))
         refine ⟨by first | exact RLe.refl _ | assumption, qS, ?_⟩
         refine WA.take 17 rfl qK qK qK rfl rfl qD (pureV_ok tab_ok rfl (fun _ => rfl)) qS qR ?_
         refine WA.effN 18 rfl qK rfl rfl (Ef.store 1 tab_ok rfl rfl rfl rfl rfl rfl rfl rfl ?_)
         refine ⟨by first | exact RLe.refl _ | assumption, qS, ?_⟩
         refine WA.done qK ?_
         refine WE.blk _ (WE.nxt (W.region _ (WG.run tab_ok 1 rfl ?_)))
         refine WG.y rfl rfl qD (Yl.sub rfl rfl rfl (fun _ => rfl) qA) ?_
         rw [show (((more + (times - 1) * P) - i : Nat) : Int) - 1 = (((more + (times - 1) * P) - (i + 1) : Nat) : Int) by omega]
         refine WG.run tab_ok 1 rfl (WG.nil ?_)
         refine WE.again ((i + 1, a74, c74)) (by dsimp only; omega) (by (try dsimp only); omega) ⟨rfl, rfl, rfl, rfl, rfl, rfl⟩ (RLe.refl _) (by dsimp only [setAll, List.set_cons_zero, List.set_cons_succ]; rw [e1, List.length_append]; exact qS)
   ·try dsimp only at hc1
    obtain rfl : i = more + (times - 1) * P := by omega
    rw [hkb5]
    refine W.cap 1 rfl ?_
    intro hcp
    rw [List.length_map] at hcp
    refine W.freeze (enc := encI) (xs := fvals F (S + more + P * times)) 1 rfl ?_
    intro R1 hR1 hff
    refine W.exit ?_
    refine WE.then_exit (WE.then_exit (WE.blk_exit (WE.nxt (W.seq ?_))))
    refine W.regionH _ (ES := [.blk b3 [.slice fa (fvals F (S + P)).length fc, .int .i64 (P : Int), .int .i64 I]]) mixed ?_
    refine WA.take 0 rfl qK qK qK rfl rfl qD (pureV_ok tab_ok rfl (fun _ => rfl)) qS qR ?_
    refine' WA.take 1 rfl qK qK qK rfl rfl qD (Yl.load1 tab_ok rfl rfl rfl (fun _ => rfl) ?r42 rfl ?h42) qS qR ?_
    case r42 => apply Rd.add; (exact Rd.blk 0 rfl)
    case h42 => rfl
    refine WA.take 2 rfl qK qK qK rfl rfl qD (pureV_ok tab_ok rfl (fun _ => rfl)) qS qR ?_
    refine WA.take 3 rfl qK qK qK rfl rfl qD (Yl.mul rfl rfl rfl (fun _ => rfl) qA) qS qR ?_
    refine WA.take 4 rfl qK qK qK rfl rfl qD (pureV_ok tab_ok rfl (fun _ => rfl)) qS qR ?_
    refine' WA.take 5 rfl qK qK qK rfl rfl qD (Yl.load1 tab_ok rfl rfl rfl (fun _ => rfl) ?r43 rfl ?h43) qS qR ?_
    case r43 => apply Rd.add; (exact Rd.blk 0 rfl)
    case h43 => rfl
    refine WA.take 6 rfl qK qK qK rfl rfl qD (pureV_ok tab_ok rfl (fun _ => rfl)) qS qR ?_
    refine WA.take 7 rfl qK qK qK rfl rfl qD (Yl.mul rfl rfl rfl (fun _ => rfl) qA) qS qR ?_
    refine WA.take 8 rfl qK qK qK rfl rfl qD (pureV_ok tab_ok rfl (fun _ => rfl)) qS qR ?_
    refine WA.effN 9 rfl qK rfl rfl (Ef.store 0 tab_ok rfl rfl rfl rfl rfl rfl rfl rfl ?_)
    refine ⟨by first | exact RLe.refl _ | assumption, qS, ?_⟩
    refine WA.take 10 rfl qK qK qK rfl rfl qD (pureV_ok tab_ok rfl (fun _ => rfl)) qS qR ?_
    refine WA.effN 11 rfl qK rfl rfl (Ef.store 0 tab_ok rfl rfl rfl rfl rfl rfl rfl rfl ?_)
    refine ⟨by first | exact RLe.refl _ | assumption, qS, ?_⟩
    refine WA.done qK ?_
    refine WE.nxt (W.seq (W.region _ ?_))
    refine' WG.y rfl rfl qD (Yl.load1 tab_ok rfl rfl rfl (fun _ => rfl) ?r44 rfl ?h44) ?_
    case r44 => (exact Rd.blk 0 rfl)
    case h44 => rfl
    refine WL.efN rfl rfl (Ef.store0 1 tab_ok rfl rfl rfl rfl rfl rfl rfl rfl ?_)
    refine WG.nil (WE.nxt (W.ret ?_))
    refine WE.retF tab_ok [_] rfl ⟨⟨_, _, _, rfl, rfl, rfl, ((by first | exact Rd.blk 0 rfl | exact Rd.blk 1 rfl | exact Rd.blk 2 rfl | exact Rd.blk 3 rfl | exact Rd.blk 4 rfl)), rfl⟩, trivial⟩ ((by first | exact hR1 | exact RLe.refl _)) ?_
    exact ⟨a12, c12, by rw [← hkb4]; rfl, hff, hcp, qS⟩
 ·
  refine W.regionH _ (ES := [.blk b3 [.slice fa (fvals F (S + P)).length fc, .int .i64 (P : Int), .int .i64 I]]) mixed ?_
  refine WA.take 1 rfl qK qK qK rfl rfl qD (pureV_ok tab_ok rfl (fun _ => rfl)) qS qR ?_
  refine' WA.take 2 rfl qK qK qK rfl rfl qD (Yl.load1 tab_ok rfl rfl rfl (fun _ => rfl) ?r45 rfl ?h45) qS qR ?_
  case r45 => apply Rd.add; (exact Rd.blk 0 rfl)
  case h45 => rfl
  refine WA.take 4 rfl qK qK qK rfl rfl qD (pureV_ok tab_ok rfl (fun _ => rfl)) qS qR ?_
  refine' WA.take 5 rfl qK qK qK rfl rfl qD (Yl.load1 tab_ok rfl rfl rfl (fun _ => rfl) ?r46 rfl ?h46) qS qR ?_
  case r46 => apply Rd.add; (exact Rd.blk 0 rfl)
  case h46 => rfl
  refine WA.take 6 rfl qK qK qK rfl rfl qD (pureV_ok tab_ok rfl (fun _ => rfl)) qS qR ?_
  refine' WA.take 7 rfl qK qK qK rfl rfl qD (Yl.load1 tab_ok rfl rfl rfl (fun _ => rfl) ?r47 rfl ?h47) qS qR ?_
  case r47 => apply Rd.add; (exact Rd.blk 0 rfl)
  case h47 => rfl
  refine WA.br2 (i := 0) (j := 9) qK ?_ ?_
  ·
   refine WS.eff rfl rfl rfl qD (Ef.buildSliceD (enc := encI) (parts := []) [] tab_ok rfl rfl rfl rfl rfl rfl rfl rfl qD qD (fun a9 => ?_))
   refine ⟨by first | exact RLe.refl _ | assumption, qS, ?_⟩
   refine WA.br2 (i := 3) (j := 9) qK ?_ ?_
   ·
    refine WS.eff rfl rfl rfl qD (Ef.cloneL (enc := encI) 0 tab_ok rfl rfl rfl rfl rfl rfl rfl rfl rfl rfl ha (fun _ _ => rfl) (by dsimp only; omega) qO (fun a12 c12 ha12 => ?_))
    refine ⟨by first | exact RLe.refl _ | assumption, qS, ?_⟩
    -- build
    refine WA.take 8 rfl qK qK qK rfl rfl qD (Yl.build (parts := [(0, .tmp 12), (1, .tmp 14), (2, .tmp 16)]) tab_ok rfl rfl rfl rfl (fun _ => rfl) rfl rfl) qS qR ?_
    refine WA.eff 9 rfl qK rfl rfl qD (Ef.alloc tab_ok rfl rfl (fun b7 => ?_))
    refine ⟨by first | exact RLe.refl _ | assumption, qS, ?_⟩
    refine WA.effN 10 rfl qK rfl rfl (Ef.store0 0 tab_ok rfl rfl rfl rfl rfl rfl rfl rfl ?_)
    refine ⟨by first | exact RLe.refl _ | assumption, qS, ?_⟩
    refine WA.done qK ?_
    refine WE.cutP (b7, a12, c12) trivial ⟨rfl, rfl, rfl, rfl, rfl, rfl⟩ (RLe.refl _) (by dsimp only; first | exact List.Perm.refl _ | exact List.Perm.swap _ _ _)
   ·
    refine WS.eff rfl rfl rfl qD (Ef.alloc tab_ok rfl rfl (fun b7 => ?_))
    refine ⟨by first | exact RLe.refl _ | assumption, qS, ?_⟩
    refine WA.eff 3 rfl qK rfl rfl qD (Ef.cloneL (enc := encI) 1 tab_ok rfl rfl rfl rfl rfl rfl rfl rfl rfl rfl ha (fun _ _ => rfl) (by dsimp only; omega) qO (fun a12 c12 ha12 => ?_))
    refine ⟨by first | exact RLe.refl _ | assumption, qS, ?_⟩
    -- build
    refine WA.take 8 rfl qK qK qK rfl rfl qD (Yl.build (parts := [(0, .tmp 12), (1, .tmp 14), (2, .tmp 16)]) tab_ok rfl rfl rfl rfl (fun _ => rfl) rfl rfl) qS qR ?_
    refine WA.effN 10 rfl qK rfl rfl (Ef.store0 0 tab_ok rfl rfl rfl rfl rfl rfl rfl rfl ?_)
    refine ⟨by first | exact RLe.refl _ | assumption, qS, ?_⟩
    refine WA.done qK ?_
    refine WE.cutP (b7, a12, c12) trivial ⟨rfl, rfl, rfl, rfl, rfl, rfl⟩ (RLe.refl _) (by dsimp only; first | exact List.Perm.refl _ | exact List.Perm.swap _ _ _)
  ·
   refine WS.eff rfl rfl rfl qD (Ef.alloc tab_ok rfl rfl (fun b7 => ?_))
   refine ⟨by first | exact RLe.refl _ | assumption, qS, ?_⟩
   refine WA.eff 0 rfl qK rfl rfl qD (Ef.buildSliceD (enc := encI) (parts := []) [] tab_ok rfl rfl rfl rfl rfl rfl rfl rfl qD qD (fun a9 => ?_))
   refine ⟨by first | exact RLe.refl _ | assumption, qS, ?_⟩
   refine WA.eff 3 rfl qK rfl rfl qD (Ef.cloneL (enc := encI) 0 tab_ok rfl rfl rfl rfl rfl rfl rfl rfl rfl rfl ha (fun _ _ => rfl) (by dsimp only; omega) qO (fun a12 c12 ha12 => ?_))
   refine ⟨by first | exact RLe.refl _ | assumption, qS, ?_⟩
   -- build
   refine WA.take 8 rfl qK qK qK rfl rfl qD (Yl.build (parts := [(0, .tmp 12), (1, .tmp 14), (2, .tmp 16)]) tab_ok rfl rfl rfl rfl (fun _ => rfl) rfl rfl) qS qR ?_
   refine WA.effN 10 rfl qK rfl rfl (Ef.store0 1 tab_ok rfl rfl rfl rfl rfl rfl rfl rfl ?_)
   refine ⟨by first | exact RLe.refl _ | assumption, qS, ?_⟩
   refine WA.done qK ?_
   refine WE.cutP (b7, a12, c12) trivial ⟨rfl, rfl, rfl, rfl, rfl, rfl⟩ (RLe.refl _) (by dsimp only; first | exact List.Perm.refl _ | exact List.Perm.swap _ _ _)

theorem LongerV_C {R : Ro} {fa : Option Addr} {fc : Nat} {c : Cv} (hs : SmallC c) (hfin : finB c = true) (h1 : c.vals.length ≤ 20) (h2 : c.per ≤ 4) (h3 : c.inc ≤ 50) (h4 : ∀ x ∈ c.vals, x ≤ 200) (ha : RS R 1 encI fa c.vals) {mi ti : Int} (hm : 0 ≤ mi ∧ mi ≤ 3) (ht : 1 ≤ ti ∧ ti ≤ 2) (w0 : World) (E : List Ent) : K.Fn Try.prog 29 [.agg #[.slice fa c.vals.length fc, .int .i64 c.per, .int .i64 c.inc], .int .i64 mi, .int .i64 ti] w0 R E (fun v R' E' => ∃ (f : Option Addr) (fc : Nat) (cv : Cv), v = .agg #[.slice f cv.vals.length fc, .int .i64 cv.per, .int .i64 cv.inc] ∧ RS R' 1 encI f cv.vals ∧ SmallC cv ∧ finB cv = true ∧ cv.vals.length ≤ fc ∧ E.Sublist E') := by
 obtain ⟨more, rfl⟩ := Int.eq_ofNat_of_zero_le hm.1
 obtain ⟨times, rfl⟩ := Int.eq_ofNat_of_zero_le (show 0 ≤ ti by omega)
 rcases valid_cases hs.valid with ⟨S, P, e, hl, hp, hfc, _⟩ | ⟨_, _, _, _, _, _, _, hf⟩
 ·generalize cvF c = G at e hfc
  have hP := hfc.hP
  have hb : ∀ t, t < S + P → G t ≤ 200 := fun t htl => by
   have := h4 (nth c.vals t) (nth_mem (by omega))
   rw [e, fvals_nth G htl] at this
   exact this
  have hsl := small_longer hfc (by omega) (by omega) (by omega) hb (show more ≤ 3 by omega) (show 1 ≤ times ∧ times ≤ 2 by omega)
  have hfl : finB ⟨fvals G (S + more + P * times), ((P * times : Nat) : Int), c.inc * (times : Int)⟩ = true := by
   unfold finB
   have e0 : P ≤ P * times := by have := Nat.mul_le_mul_left P (show 1 ≤ times by omega); omega
   have e1 : P * times ≤ 2 * P := by have := Nat.mul_le_mul_left P (show times ≤ 2 by omega); omega
   dsimp only
   rw [fvals_len, fvals_nth G (by omega), bne_iff_ne]
   have := hfc.bound (S + more + P * times - 1)
   have := hfc.hn
   unfold INF
   omega
  have ev : c.vals = fvals G (S + P) := congrArg Cv.vals e
  rw [ev] at ha
  rw [ev, hp]
  refine K.Fn.mono (Longer_C hfc ha (more := more) (times := times) qO qO w0 E) ?_
  rintro v R' E' - ⟨f, fc', rfl, hff, hcp, hsub⟩
  exact ⟨f, fc', _, rfl, hff, hsl, hfl, hcp, hsub⟩
 ·rw [hfin] at hf; cases hf

end Go.Proofs.Ytnackbfnmhkodaa

/- A small curve that a statement makes. No condition. -/
set_option maxRecDepth 4000
set_option linter.unusedSimpArgs false
set_option linter.unusedVariables false
namespace Go.Proofs.Ytnackbfnmhkodaa
open Go Go.RowKit Go.Proofs.Ytnackbfnmhkodaa.K Go.Proofs.Ytnackbfnmhkodaa.M

set_option maxHeartbeats 4000000 in
theorem KCurve_C {R : Ro} {b : Nat} {a : Option Addr} {cp : Nat} {xs : List Int} {c : Nat} (w0 : World) (ha : RS R 1 encI a xs) {most : Nat} (hmo : 1 ≤ most ∧ most ≤ 20) : FnAt Try.prog 10 [.pointer (some ⟨b, 0, none⟩), .int .i64 (most : Int)] w0 R (srcE b a cp xs c) (fun v R' e' N => ∃ (f : Option Addr) (fc cn : Nat) (cv : Cv), v = .agg #[.slice f cv.vals.length fc, .int .i64 cv.per, .int .i64 cv.inc] ∧ RS R' 1 encI f cv.vals ∧ SmallC cv ∧ cv.vals.length ≤ fc ∧ e' = srcE b a cp xs cn ∧ N = []) := by
 intro F
 have hm0 := mod_range (nth xs c) (show (1 : Int) ≤ (most : Int) by omega)
 obtain ⟨n, hn⟩ := Int.eq_ofNat_of_zero_le (show 0 ≤ 1 + mod (nth xs c) (most : Int) by omega)
 have hn20 : 1 ≤ n ∧ n ≤ 20 := by omega
 refine Fn.enter (n := 77) Try.func10 rfl rfl (Nat.le_of_ble_eq_true rfl) rfl ?_
 refine W.seq (W.region _ ?_)
 refine WL.ef rfl rfl qD (Ef.alloc tab_ok rfl rfl (fun b4 => ?_))
 refine WG.nil (WE.nxt (W.seq (W.region _ (WG.run tab_ok 2 rfl ?_))))
 refine WL.callAt 1 en12 rfl rfl qD (CallOp.mkT rfl rfl rfl rfl) rfl (N_C w0 ha (by constructor <;> omega) _) ?_
 rintro _ _ _ _ - ⟨rfl, rfl, rfl, rfl⟩
 refine WG.y rfl rfl qD (Yl.add rfl rfl rfl (fun _ => rfl) qA) ?_
 rw [hn]
 refine WG.run tab_ok 1 rfl (WG.nil (WE.nxt (W.seq (W.region _ (WG.run tab_ok 3 rfl ?_)))))
 refine WL.callAt 1 en12 rfl rfl qD (CallOp.mkT rfl rfl rfl rfl) rfl (N_C w0 ha (by constructor <;> split <;> omega) _) ?_
 rintro _ _ _ _ - ⟨rfl, rfl, rfl, rfl⟩
 have hm1 := mod_range (nth xs (c + 1)) (show (1 : Int) ≤ (if (4 : Int) < (n : Int) then 4 else (n : Int)) by split <;> omega)
 obtain ⟨P, hP⟩ := Int.eq_ofNat_of_zero_le (show 0 ≤ 1 + mod (nth xs (c + 1)) (if (4 : Int) < (n : Int) then 4 else (n : Int)) by omega)
 have hP4 : 1 ≤ P ∧ P ≤ 4 ∧ P ≤ n := by generalize mod (nth xs (c + 1)) (if (4 : Int) < (n : Int) then 4 else (n : Int)) = q at hm1 hP; split at hm1 <;> omega
 refine WG.y rfl rfl qD (Yl.add rfl rfl rfl (fun _ => rfl) qA) ?_
 rw [hP]
 -- build
 refine WG.y rfl rfl qD (Yl.build (parts := [(1, .tmp 17)]) tab_ok rfl rfl rfl rfl (fun _ => rfl) rfl rfl) ?_
 refine WL.ef rfl rfl qD (Ef.alloc tab_ok rfl rfl (fun b6 => ?_))
 refine WL.efN rfl rfl (Ef.store0 0 tab_ok rfl rfl rfl rfl rfl rfl rfl rfl ?_)
 refine WG.nil (WE.nxt (W.seq (W.region _ (WG.run tab_ok 1 rfl ?_))))
 refine WL.ef rfl rfl qD (Ef.buildSliceD (enc := encI) (parts := [.const (.int .i64 0), .const (.int .i64 0), .const (.int .i64 0), .const (.int .i64 3)]) [_, _, _, _] tab_ok rfl rfl rfl rfl rfl rfl rfl rfl qD qD (fun a20 => ?_))
 refine WL.callAt 3 en13 rfl rfl qD (CallOp.mkT rfl rfl rfl rfl) rfl (PickM_C (j := 0) w0 ([0, 0, 0, 3] : List Int) rfl qD qD ha rfl) ?_
 rintro _ _ _ _ - ⟨rfl, rfl, rfl, rfl⟩
 obtain ⟨v0, hv0⟩ : ∃ v, nth ([0, 0, 0, 3] : List Int) (mod (nth xs (c + 1 + 1)) ((4 : Nat) : Int)).toNat = v := ⟨_, rfl⟩
 have hv03 : 0 ≤ v0 ∧ v0 ≤ 3 := by
  have hm2 := mod_range (nth xs (c + 1 + 1)) (show (1 : Int) ≤ ((4 : Nat) : Int) by decide)
  rw [← hv0]
  exact nth_in (by decide) (by simp only [List.length_cons, List.length_nil]; omega)
 rw [hv0]
 refine WG.run tab_ok 1 rfl (WG.nil (WE.nxt (W.seq ?_)))
 refine W.nil 3 1 qD ?_
 refine W.seq (W.region _ (WG.run tab_ok 1 rfl (WG.nil (WE.nxt (W.block ?_)))))
 refine W.loopK (β := Nat × Option Addr × Nat) (fun (i, a8, c8) => i ≤ n) (fun (i, a8, c8) => [(7, true, .int .i64 ((upV xs (c + 3) v0) i)), (8, true, .int .i64 (i : Int))]) [0, 4, 5, 6] [_, _, _, _] [] _ rfl (fun (i, a8, c8) => [(0, .sl 3 1 a8 c8 ((fvals (upV xs (c + 3) v0) i).map encI)), (2, .blk b6 [.slice a8 (fvals (upV xs (c + 3) v0) i).length c8, .int .i64 (P : Int), .int .i64 0]), (4, srcE b a cp xs (c + 3 + i))]) (fun (i, a8, c8) => n - i) ((0, none, 0)) (Nat.zero_le _) ⟨rfl, rfl, rfl, rfl, rfl, rfl, rfl⟩ qS ?_
 intro st hst
 obtain ⟨i, a8, c8⟩ := st
 dsimp only [zipE, setAll, List.cons_append, List.nil_append, List.set_cons_zero, List.set_cons_succ] at hst ⊢
 have hUb := upV_bound xs (c + 3) v0 i
 have hUl := fvals_len (upV xs (c + 3) v0) i
 refine W.seq (W.seq (W.region _ (WG.run tab_ok 3 rfl (WG.nil (WE.nxt ?_)))))
 refine W.condD rfl (fun hc0 => ?_) (fun hc0 => ?_)
 ·try dsimp only at hc0
  have hil : i < n := by omega
  have hpk : 0 ≤ nth ([0, 0, 1, 2, 5, 9] : List Int) (mod (nth xs (c + 3 + i)) ((6 : Nat) : Int)).toNat ∧ nth ([0, 0, 1, 2, 5, 9] : List Int) (mod (nth xs (c + 3 + i)) ((6 : Nat) : Int)).toNat ≤ 9 := by
   have hm2 := mod_range (nth xs (c + 3 + i)) (show (1 : Int) ≤ ((6 : Nat) : Int) by decide)
   exact nth_in (by decide) (by simp only [List.length_cons, List.length_nil]; omega)
  refine W.skip (WE.nxt (W.seq (W.block (W.seq (W.region _ (WG.run tab_ok 1 rfl ?_))))))
  refine' WG.y rfl rfl qD (Yl.load1 tab_ok rfl rfl rfl (fun _ => rfl) ?r1 rfl ?h1) ?_
  case r1 => apply Rd.add; (exact Rd.blk 2 rfl)
  case h1 => rfl
  refine WG.run tab_ok 1 rfl ?_
  refine WL.ef rfl rfl qD (Ef.buildSliceD (enc := encI) (parts := [.tmp 29]) [_] tab_ok rfl rfl rfl rfl rfl rfl rfl rfl qD qD (fun a30 => ?_))
  refine WL.ef rfl rfl (by decide) (Ef.appendD 1 0 tab_ok rfl rfl rfl rfl rfl rfl rfl rfl rfl rfl rfl (fun _ _ => rfl) (by simp only [List.length_cons, List.length_nil]; omega) (by simp only [List.length_cons, List.length_nil]; omega) (fun a31 c31 ha31 => ?_))
  refine WG.run tab_ok 1 rfl ?_
  refine WL.efN rfl rfl (Ef.store 3 tab_ok rfl rfl rfl rfl rfl rfl rfl rfl ?_)
  refine WG.nil (WE.nxt (W.region _ (WG.run tab_ok 2 rfl ?_)))
  refine WL.ef rfl rfl qD (Ef.buildSliceD (enc := encI) (parts := [.const (.int .i64 0), .const (.int .i64 0), .const (.int .i64 1), .const (.int .i64 2), .const (.int .i64 5), .const (.int .i64 9)]) [_, _, _, _, _, _] tab_ok rfl rfl rfl rfl rfl rfl rfl rfl qD qD (fun a35 => ?_))
  refine WL.callAt 6 en13 rfl rfl qD (CallOp.mkT rfl rfl rfl rfl) rfl (PickM_C (j := 0) w0 ([0, 0, 1, 2, 5, 9] : List Int) rfl qD qD ha rfl) ?_
  rintro _ _ _ _ - ⟨rfl, rfl, rfl, rfl⟩
  refine WG.y rfl rfl qD (Yl.add rfl rfl rfl (fun _ => rfl) qA) ?_
  refine WG.run tab_ok 1 rfl (WG.nil (WE.blk _ (WE.nxt (W.region _ (WG.run tab_ok 1 rfl ?_)))))
  refine WG.y rfl rfl qD (Yl.add rfl rfl rfl (fun _ => rfl) qA) ?_
  refine WG.run tab_ok 1 rfl (WG.nil ?_)
  refine WE.again ((i + 1, a31, c31)) (by dsimp only; omega) (by (try dsimp only); omega) ⟨rfl, rfl, rfl, rfl, rfl, rfl, rfl⟩ (RLe.refl _) (by dsimp only [setAll, List.set_cons_zero, List.set_cons_succ]; rw [fvals_snoc, List.length_append]; exact qS)
 ·try dsimp only at hc0
  obtain hin : i = n := by omega
  rw [hin] at hUb hUl ⊢
  have hVl : (fvals (upV xs (c + 3) v0) n).length = n := hUl
  have hx1 : nth (fvals (upV xs (c + 3) v0) n) ((n : Int) - 1).toNat = (upV xs (c + 3) v0) (n - 1) := by rw [show ((n : Int) - 1).toNat = n - 1 by omega, fvals_nth _ (by omega)]
  have hx2 : nth (fvals (upV xs (c + 3) v0) n) ((n : Int) - (P : Int)).toNat = (upV xs (c + 3) v0) (n - P) := by rw [show ((n : Int) - (P : Int)).toNat = n - P by omega, fvals_nth _ (by omega)]
  have hgap := upV_gap xs (c + 3) v0 (n - P) (P - 1)
  rw [show n - P + (P - 1) = n - 1 by omega] at hgap
  have hmo2 := upV_mono xs (c + 3) v0 (show n - P ≤ n - 1 by omega)
  have hb1 := upV_bound xs (c + 3) v0 (n - 1)
  have hb2 := upV_bound xs (c + 3) v0 (n - P)
  have hpi : 0 ≤ nth ([0, 0, 1, 3, 4, 8] : List Int) (mod (nth xs (c + 3 + n)) ((6 : Nat) : Int)).toNat ∧ nth ([0, 0, 1, 3, 4, 8] : List Int) (mod (nth xs (c + 3 + n)) ((6 : Nat) : Int)).toNat ≤ 8 := by
   have hm2 := mod_range (nth xs (c + 3 + n)) (show (1 : Int) ≤ ((6 : Nat) : Int) by decide)
   exact nth_in (by decide) (by simp only [List.length_cons, List.length_nil]; omega)
  refine W.exit ?_
  refine WE.then_exit (WE.then_exit (WE.blk_exit (WE.nxt ?_)))
  refine W.seqCut (β := Int) (fun I => 0 ≤ I ∧ (upV xs (c + 3) v0) (n - 1) - (upV xs (c + 3) v0) (n - P) ≤ I ∧ I ≤ 50) (fun I => [(0, true, .pointer (some ⟨b, 0, none⟩)), (4, true, .pointer (some ⟨b4, 0, none⟩)), (6, true, .pointer (some ⟨b6, 0, none⟩))]) (fun _ => R) (fun I => .sl 3 1 a8 c8 ((fvals (upV xs (c + 3) v0) n).map encI) :: .blk b6 [.slice a8 (fvals (upV xs (c + 3) v0) n).length c8, .int .i64 (P : Int), .int .i64 I] :: .blk b4 [.slice none 0 0, .int .i64 0, .int .i64 0] :: srcE b a cp xs (c + 3 + n + 1) :: F) ?_ ?_
  ·
   intro I hst
   obtain ⟨hI0, hI1, hI2⟩ := hst
   refine W.seq (W.seq (W.region _ (WG.run tab_ok 1 rfl ?_)))
   refine WL.callAt 3 en12 rfl rfl qD (CallOp.mkT rfl rfl rfl rfl) rfl (N_C w0 ha (by constructor <;> omega) _) ?_
   rintro _ _ _ _ - ⟨rfl, rfl, rfl, rfl⟩
   refine WG.nil (WE.nxt (W.block (W.seq (W.region _ (WG.run tab_ok 2 rfl (WG.nil (WE.nxt ?_)))))))
   refine W.condE rfl (fun hc1 => ?_) (fun hc1 => ?_)
   ·try dsimp only at hc1
    refine W.region _ (WG.run tab_ok 1 rfl ?_)
    refine' WG.y rfl rfl qD (Yl.load1 tab_ok rfl rfl rfl (fun _ => rfl) ?r2 rfl ?h2) ?_
    case r2 => apply Rd.add; (exact Rd.blk 1 rfl)
    case h2 => rfl
    refine WL.ef rfl rfl qD (Ef.buildSliceD (enc := encI) (parts := [.const (.int .i64 4611686018427387904)]) [_] tab_ok rfl rfl rfl rfl rfl rfl rfl rfl qD qD (fun a64 => ?_))
    refine WL.ef rfl rfl (by decide) (Ef.appendD 1 0 tab_ok rfl rfl rfl rfl rfl rfl rfl rfl rfl rfl rfl (fun _ _ => rfl) (by simp only [List.length_cons, List.length_nil]; omega) (by simp only [List.length_cons, List.length_nil]; omega) (fun a65 c65 ha65 => ?_))
    -- build
    refine WG.y rfl rfl qD (Yl.build (parts := [(0, .tmp 65), (1, .const (.int .i64 1))]) tab_ok rfl rfl rfl rfl (fun _ => rfl) rfl rfl) ?_
    refine WL.efN rfl rfl (Ef.store0 2 tab_ok rfl rfl rfl rfl rfl rfl rfl rfl ?_)
    refine WL.cap 1 rfl ?_
    intro hcp
    rw [List.length_map] at hcp
    refine WL.freeze (enc := encI) (xs := (fvals (upV xs (c + 3) v0) n) ++ [4611686018427387904]) 1 rfl ?_
    intro R1 hR1 hfz
    have hsm := small_inf (F := (upV xs (c + 3) v0)) (n := n) (by omega) (by have := upV_bound xs (c + 3) v0 0; omega) (fun t => (upV_step xs (c + 3) v0 t).1) (fun t ht => by have := upV_bound xs (c + 3) v0 t; omega)
    refine WG.nil (WE.blk _ (WE.nxt (W.seq (W.region _ ?_))))
    refine' WG.y rfl rfl qD (Yl.load1 tab_ok rfl rfl rfl (fun _ => rfl) ?r3 rfl ?h3) ?_
    case r3 => (exact Rd.blk 1 rfl)
    case h3 => rfl
    refine WL.efN rfl rfl (Ef.store0 2 tab_ok rfl rfl rfl rfl rfl rfl rfl rfl ?_)
    refine WG.nil (WE.nxt (W.ret ?_))
    refine WE.retFS (E' := srcE b a cp xs (c + 3 + n + 1 + 1) :: F) qS tab_ok [_] rfl ⟨⟨_, _, _, rfl, rfl, rfl, ((by first | exact Rd.blk 0 rfl | exact Rd.blk 1 rfl | exact Rd.blk 2 rfl | exact Rd.blk 3 rfl | exact Rd.blk 4 rfl | exact Rd.blk 5 rfl | exact Rd.blk 6 rfl)), rfl⟩, trivial⟩ ((by first | exact hR1 | exact hR1.trans hRL)) ?_
    exact ⟨_, [], rfl, _, _, _, ⟨(fvals (upV xs (c + 3) v0) n) ++ [4611686018427387904], 1, 0⟩, rfl, hfz, hsm, hcp, rfl, rfl⟩
   ·try dsimp only at hc1
    refine W.seq (W.region _ (WG.run tab_ok 2 rfl (WG.nil (WE.nxt ?_))))
    refine W.condE rfl (fun hc2 => ?_) (fun hc2 => ?_)
    ·try dsimp only at hc2
     refine W.cap 0 rfl ?_
     intro hcp
     rw [List.length_map] at hcp
     refine W.freeze (enc := encI) (xs := (fvals (upV xs (c + 3) v0) n)) 0 rfl ?_
     intro R1 hR1 hfz
     have hsm := small_fin (F := (upV xs (c + 3) v0)) (n := n) (P := (P : Int)) (I := I) hn20 (by omega) (by omega) (by have := upV_bound xs (c + 3) v0 0; omega) (fun t => (upV_step xs (c + 3) v0 t).1) (fun t ht => by have := upV_bound xs (c + 3) v0 t; omega) (by rw [Int.toNat_natCast]; omega)
     have ha1 := ha.mono hR1
     have hmm1 := mod_range (nth xs (c + 3 + n + 1 + 1)) (show (1 : Int) ≤ 4 by decide)
     have hmm2 := mod_range (nth xs (c + 3 + n + 1 + 1 + 1)) (show (1 : Int) ≤ 2 by decide)
     have hfb : finB (⟨(fvals (upV xs (c + 3) v0) n), (P : Int), I⟩ : Cv) = true := by
      unfold finB
      have := upV_bound xs (c + 3) v0 (n - 1)
      dsimp only
      rw [fvals_len, fvals_nth _ (by omega), bne_iff_ne]
      unfold INF; omega
     have hv200 : ∀ x ∈ (⟨(fvals (upV xs (c + 3) v0) n), (P : Int), I⟩ : Cv).vals, x ≤ 200 := all_of_nth (fun j hj => by
      have hj2 : j < n := by rw [hVl] at hj; exact hj
      have := upV_bound xs (c + 3) v0 j
      show nth (fvals (upV xs (c + 3) v0) n) j ≤ 200
      rw [fvals_nth _ hj2]; omega)
     refine W.regionH _ (ES := []) mixed ?_
     refine WA.take 1 rfl qK qK qK rfl rfl qD (pureV_ok tab_ok rfl (fun _ => rfl)) qS qR ?_
     refine WA.take 3 rfl qK qK qK rfl rfl qD (pureV_ok tab_ok rfl (fun _ => rfl)) qS qR ?_
     refine WA.br2 (i := 0) (j := 2) qK ?_ ?_
     ·
      refine' WS.yl rfl rfl rfl qD (Yl.load1 tab_ok rfl rfl rfl (fun _ => rfl) ?r4 rfl ?h4) qS qR ?_
      case r4 => (exact Rd.blk 0 rfl)
      case h4 => rfl
      refine WA.callAt 2 2 rfl qK en12 rfl rfl qD (CallOp.mkT rfl rfl rfl rfl) rfl (N_C w0 ha1 (by constructor <;> omega) _) ?_
      rintro _ _ _ _ - ⟨rfl, rfl, rfl, rfl⟩
      refine ⟨RLe.refl _, qS, ?_⟩
      refine WA.callAt 2 4 rfl qK en12 rfl rfl qD (CallOp.mkT rfl rfl rfl rfl) rfl (N_C w0 ha1 (by constructor <;> omega) _) ?_
      rintro _ _ _ _ - ⟨rfl, rfl, rfl, rfl⟩
      refine ⟨RLe.refl _, qS, ?_⟩
      refine WA.take 5 rfl qK qK qK rfl rfl qD (Yl.add rfl rfl rfl (fun _ => rfl) qA) qS qR ?_
      refine WA.callG 6 rfl qK en29 rfl (by first | rfl | decide) rfl qD (CallOp.mkT rfl rfl rfl rfl) (LongerV_C (c := (⟨(fvals (upV xs (c + 3) v0) n), (P : Int), I⟩ : Cv)) hsm hfb (by show (fvals (upV xs (c + 3) v0) n).length ≤ 20; omega) (by show (P : Int) ≤ 4; omega) (by show I ≤ 50; omega) hv200 hfz qO qO w0 _) ?_
      rintro _ RL EL hRL ⟨fl, flc, cl, rfl, hfl, hsl, hfl2, hcl, hsubL⟩
      refine ⟨hRL, List.nil_sublist _, ?_⟩
      refine WA.subE hsubL ?_
      refine WA.effN 7 rfl qK rfl rfl (Ef.store0 0 tab_ok rfl rfl rfl rfl rfl rfl rfl rfl ?_)
      refine ⟨by first | exact RLe.refl _ | assumption, qS, ?_⟩
      refine WA.done qK ?_
      refine WE.blk _ (WE.nxt (W.seq (W.region _ ?_)))
      refine' WG.y rfl rfl qD (Yl.load1 tab_ok rfl rfl rfl (fun _ => rfl) ?r5 rfl ?h5) ?_
      case r5 => (exact Rd.blk 0 rfl)
      case h5 => rfl
      refine WL.efN rfl rfl (Ef.store0 1 tab_ok rfl rfl rfl rfl rfl rfl rfl rfl ?_)
      refine WG.nil (WE.nxt (W.ret ?_))
      refine WE.retFS (E' := srcE b a cp xs (c + 3 + n + 1 + 1 + 1 + 1) :: F) qS tab_ok [_] rfl ⟨⟨_, _, _, rfl, rfl, rfl, ((by first | exact Rd.blk 0 rfl | exact Rd.blk 1 rfl | exact Rd.blk 2 rfl | exact Rd.blk 3 rfl | exact Rd.blk 4 rfl | exact Rd.blk 5 rfl | exact Rd.blk 6 rfl)), rfl⟩, trivial⟩ ((by first | exact hR1 | exact hR1.trans hRL)) ?_
      exact ⟨_, [], rfl, fl, flc, _, cl, rfl, hfl, hsl, hcl, rfl, rfl⟩
     ·
      refine WS.callAt 2 rfl en12 rfl rfl qD (CallOp.mkT rfl rfl rfl rfl) rfl (N_C w0 ha1 (by constructor <;> omega) _) ?_
      rintro _ _ _ _ - ⟨rfl, rfl, rfl, rfl⟩
      refine ⟨by first | exact RLe.refl _ | assumption, qS, ?_⟩
      refine WA.br2 (i := 0) (j := 4) qK ?_ ?_
      ·
       refine' WS.yl rfl rfl rfl qD (Yl.load1 tab_ok rfl rfl rfl (fun _ => rfl) ?r6 rfl ?h6) qS qR ?_
       case r6 => (exact Rd.blk 0 rfl)
       case h6 => rfl
       refine WA.callAt 2 4 rfl qK en12 rfl rfl qD (CallOp.mkT rfl rfl rfl rfl) rfl (N_C w0 ha1 (by constructor <;> omega) _) ?_
       rintro _ _ _ _ - ⟨rfl, rfl, rfl, rfl⟩
       refine ⟨RLe.refl _, qS, ?_⟩
       refine WA.take 5 rfl qK qK qK rfl rfl qD (Yl.add rfl rfl rfl (fun _ => rfl) qA) qS qR ?_
       refine WA.callG 6 rfl qK en29 rfl (by first | rfl | decide) rfl qD (CallOp.mkT rfl rfl rfl rfl) (LongerV_C (c := (⟨(fvals (upV xs (c + 3) v0) n), (P : Int), I⟩ : Cv)) hsm hfb (by show (fvals (upV xs (c + 3) v0) n).length ≤ 20; omega) (by show (P : Int) ≤ 4; omega) (by show I ≤ 50; omega) hv200 hfz qO qO w0 _) ?_
       rintro _ RL EL hRL ⟨fl, flc, cl, rfl, hfl, hsl, hfl2, hcl, hsubL⟩
       refine ⟨hRL, List.nil_sublist _, ?_⟩
       refine WA.subE hsubL ?_
       refine WA.effN 7 rfl qK rfl rfl (Ef.store0 0 tab_ok rfl rfl rfl rfl rfl rfl rfl rfl ?_)
       refine ⟨by first | exact RLe.refl _ | assumption, qS, ?_⟩
       refine WA.done qK ?_
       refine WE.blk _ (WE.nxt (W.seq (W.region _ ?_)))
       refine' WG.y rfl rfl qD (Yl.load1 tab_ok rfl rfl rfl (fun _ => rfl) ?r7 rfl ?h7) ?_
       case r7 => (exact Rd.blk 0 rfl)
       case h7 => rfl
       refine WL.efN rfl rfl (Ef.store0 1 tab_ok rfl rfl rfl rfl rfl rfl rfl rfl ?_)
       refine WG.nil (WE.nxt (W.ret ?_))
       refine WE.retFS (E' := srcE b a cp xs (c + 3 + n + 1 + 1 + 1 + 1) :: F) qS tab_ok [_] rfl ⟨⟨_, _, _, rfl, rfl, rfl, ((by first | exact Rd.blk 0 rfl | exact Rd.blk 1 rfl | exact Rd.blk 2 rfl | exact Rd.blk 3 rfl | exact Rd.blk 4 rfl | exact Rd.blk 5 rfl | exact Rd.blk 6 rfl)), rfl⟩, trivial⟩ ((by first | exact hR1 | exact hR1.trans hRL)) ?_
       exact ⟨_, [], rfl, fl, flc, _, cl, rfl, hfl, hsl, hcl, rfl, rfl⟩
      ·
       refine WS.callAt 2 rfl en12 rfl rfl qD (CallOp.mkT rfl rfl rfl rfl) rfl (N_C w0 ha1 (by constructor <;> omega) _) ?_
       rintro _ _ _ _ - ⟨rfl, rfl, rfl, rfl⟩
       refine ⟨by first | exact RLe.refl _ | assumption, qS, ?_⟩
       refine WA.take 5 rfl qK qK qK rfl rfl qD (Yl.add rfl rfl rfl (fun _ => rfl) qA) qS qR ?_
       refine' WA.yl 0 rfl qK rfl rfl qD (Yl.load1 tab_ok rfl rfl rfl (fun _ => rfl) ?r8 rfl ?h8) qS qR ?_
       case r8 => (exact Rd.blk 0 rfl)
       case h8 => rfl
       refine WA.callG 6 rfl qK en29 rfl (by first | rfl | decide) rfl qD (CallOp.mkT rfl rfl rfl rfl) (LongerV_C (c := (⟨(fvals (upV xs (c + 3) v0) n), (P : Int), I⟩ : Cv)) hsm hfb (by show (fvals (upV xs (c + 3) v0) n).length ≤ 20; omega) (by show (P : Int) ≤ 4; omega) (by show I ≤ 50; omega) hv200 hfz qO qO w0 _) ?_
       rintro _ RL EL hRL ⟨fl, flc, cl, rfl, hfl, hsl, hfl2, hcl, hsubL⟩
       refine ⟨hRL, List.nil_sublist _, ?_⟩
       refine WA.subE hsubL ?_
       refine WA.effN 7 rfl qK rfl rfl (Ef.store0 0 tab_ok rfl rfl rfl rfl rfl rfl rfl rfl ?_)
       refine ⟨by first | exact RLe.refl _ | assumption, qS, ?_⟩
       refine WA.done qK ?_
       refine WE.blk _ (WE.nxt (W.seq (W.region _ ?_)))
       refine' WG.y rfl rfl qD (Yl.load1 tab_ok rfl rfl rfl (fun _ => rfl) ?r9 rfl ?h9) ?_
       case r9 => (exact Rd.blk 0 rfl)
       case h9 => rfl
       refine WL.efN rfl rfl (Ef.store0 1 tab_ok rfl rfl rfl rfl rfl rfl rfl rfl ?_)
       refine WG.nil (WE.nxt (W.ret ?_))
       refine WE.retFS (E' := srcE b a cp xs (c + 3 + n + 1 + 1 + 1 + 1) :: F) qS tab_ok [_] rfl ⟨⟨_, _, _, rfl, rfl, rfl, ((by first | exact Rd.blk 0 rfl | exact Rd.blk 1 rfl | exact Rd.blk 2 rfl | exact Rd.blk 3 rfl | exact Rd.blk 4 rfl | exact Rd.blk 5 rfl | exact Rd.blk 6 rfl)), rfl⟩, trivial⟩ ((by first | exact hR1 | exact hR1.trans hRL)) ?_
       exact ⟨_, [], rfl, fl, flc, _, cl, rfl, hfl, hsl, hcl, rfl, rfl⟩
    ·try dsimp only at hc2
     refine W.cap 0 rfl ?_
     intro hcp
     rw [List.length_map] at hcp
     refine W.freeze (enc := encI) (xs := (fvals (upV xs (c + 3) v0) n)) 0 rfl ?_
     intro R1 hR1 hfz
     have hsm := small_fin (F := (upV xs (c + 3) v0)) (n := n) (P := (P : Int)) (I := I) hn20 (by omega) (by omega) (by have := upV_bound xs (c + 3) v0 0; omega) (fun t => (upV_step xs (c + 3) v0 t).1) (fun t ht => by have := upV_bound xs (c + 3) v0 t; omega) (by rw [Int.toNat_natCast]; omega)
     refine W.skip (WE.blk _ (WE.nxt (W.seq (W.region _ ?_))))
     refine' WG.y rfl rfl qD (Yl.load1 tab_ok rfl rfl rfl (fun _ => rfl) ?r10 rfl ?h10) ?_
     case r10 => (exact Rd.blk 0 rfl)
     case h10 => rfl
     refine WL.efN rfl rfl (Ef.store0 1 tab_ok rfl rfl rfl rfl rfl rfl rfl rfl ?_)
     refine WG.nil (WE.nxt (W.ret ?_))
     refine WE.retFS (E' := srcE b a cp xs (c + 3 + n + 1 + 1) :: F) qS tab_ok [_] rfl ⟨⟨_, _, _, rfl, rfl, rfl, ((by first | exact Rd.blk 0 rfl | exact Rd.blk 1 rfl | exact Rd.blk 2 rfl | exact Rd.blk 3 rfl | exact Rd.blk 4 rfl | exact Rd.blk 5 rfl | exact Rd.blk 6 rfl)), rfl⟩, trivial⟩ ((by first | exact hR1 | exact hR1.trans hRL)) ?_
     exact ⟨_, [], rfl, a8, c8, _, (⟨(fvals (upV xs (c + 3) v0) n), (P : Int), I⟩ : Cv), rfl, hfz, hsm, hcp, rfl, rfl⟩
  ·
   refine W.regionH _ (ES := [.sl 3 1 a8 c8 ((fvals (upV xs (c + 3) v0) n).map encI)]) mixed ?_
   refine WA.take 0 rfl qK qK qK rfl rfl qD (pureV_ok tab_ok rfl (fun _ => rfl)) qS qR ?_
   refine WA.take 2 rfl qK qK qK rfl rfl qD (pureV_ok tab_ok rfl (fun _ => rfl)) qS qR ?_
   refine WA.take 3 rfl qK qK qK rfl rfl qD (Yl.sub rfl rfl rfl (fun _ => rfl) qA) qS qR ?_
   refine WA.take 6 rfl qK qK qK rfl rfl qD (pureV_ok tab_ok rfl (fun _ => rfl)) qS qR ?_
   refine WA.take 8 rfl qK qK qK rfl rfl qD (pureV_ok tab_ok rfl (fun _ => rfl)) qS qR ?_
   refine WA.take 9 rfl qK qK qK rfl rfl qD (pureV_ok tab_ok rfl (fun _ => rfl)) qS qR ?_
   refine WA.take 15 rfl qK qK qK rfl rfl qD (pureV_ok tab_ok rfl (fun _ => rfl)) qS qR ?_
   refine WA.br4 (i := 1) (j := 7) (k := 10) (l := 16) qK ?_ ?_ ?_ ?_
   ·
    refine' WS.yl rfl rfl rfl qD (Yl.load1 tab_ok rfl rfl rfl (fun _ => rfl) ?r11 rfl ?h11) qS qR ?_
    case r11 => apply Rd.add; (exact Rd.blk 2 rfl)
    case h11 => rfl
    refine WA.take 4 rfl qK qK qK rfl rfl qD (Yl.index tab_ok rfl rfl rfl rfl rfl rfl (fun _ => rfl) qA qH) qS qR ?_
    refine' WA.take 5 rfl qK qK qK rfl rfl qD (Yl.load1 tab_ok rfl rfl rfl (fun _ => rfl) ?r12 rfl ?h12) qS qR ?_
    case r12 => (exact Rd.slD 0 rfl qX)
    case h12 => rfl
    refine WA.br3 (i := 7) (j := 10) (k := 16) qK ?_ ?_ ?_
    ·
     refine' WS.yl rfl rfl rfl qD (Yl.load1 tab_ok rfl rfl rfl (fun _ => rfl) ?r13 rfl ?h13) qS qR ?_
     case r13 => apply Rd.add; (exact Rd.blk 2 rfl)
     case h13 => rfl
     refine WA.br2 (i := 10) (j := 16) qK ?_ ?_
     ·
      refine' WS.yl rfl rfl rfl qD (Yl.load1 tab_ok rfl rfl rfl (fun _ => rfl) ?r14 rfl ?h14) qS qR ?_
      case r14 => apply Rd.add; (exact Rd.blk 2 rfl)
      case h14 => rfl
      refine WA.take 11 rfl qK qK qK rfl rfl qD (Yl.sub rfl rfl rfl (fun _ => rfl) qA) qS qR ?_
      refine WA.take 12 rfl qK qK qK rfl rfl qD (Yl.index tab_ok rfl rfl rfl rfl rfl rfl (fun _ => rfl) qA qH) qS qR ?_
      refine' WA.take 13 rfl qK qK qK rfl rfl qD (Yl.load1 tab_ok rfl rfl rfl (fun _ => rfl) ?r15 rfl ?h15) qS qR ?_
      case r15 => (exact Rd.slD 0 rfl qX)
      case h15 => rfl
      refine WA.take 14 rfl qK qK qK rfl rfl qD (Yl.sub rfl rfl rfl (fun _ => rfl) qA) qS qR ?_
      refine WA.eff 16 rfl qK rfl rfl qD (Ef.buildSliceD (enc := encI) (parts := [.const (.int .i64 0), .const (.int .i64 0), .const (.int .i64 1), .const (.int .i64 3), .const (.int .i64 4), .const (.int .i64 8)]) [_, _, _, _, _, _] tab_ok rfl rfl rfl rfl rfl rfl rfl rfl qD qD (fun a54 => ?_))
      refine ⟨by first | exact RLe.refl _ | assumption, qS, ?_⟩
      refine WA.callAt 5 17 rfl qK en13 rfl rfl qD (CallOp.mkT rfl rfl rfl rfl) rfl (PickM_C (j := 0) w0 ([0, 0, 1, 3, 4, 8] : List Int) rfl qD qD ha rfl) ?_
      rintro _ _ _ _ - ⟨rfl, rfl, rfl, rfl⟩
      refine ⟨RLe.refl _, qS, ?_⟩
      refine WA.take 18 rfl qK qK qK rfl rfl qD (Yl.add rfl rfl rfl (fun _ => rfl) qA) qS qR ?_
      refine WA.take 19 rfl qK qK qK rfl rfl qD (pureV_ok tab_ok rfl (fun _ => rfl)) qS qR ?_
      refine WA.effN 20 rfl qK rfl rfl (Ef.store 3 tab_ok rfl rfl rfl rfl rfl rfl rfl rfl ?_)
      refine ⟨by first | exact RLe.refl _ | assumption, qS, ?_⟩
      refine WA.done qK ?_
      refine WE.cut (nth (fvals (upV xs (c + 3) v0) n) ((n : Int) - 1).toNat - nth (fvals (upV xs (c + 3) v0) n) ((n : Int) - (P : Int)).toNat + nth ([0, 0, 1, 3, 4, 8] : List Int) (mod (nth xs (c + 3 + n)) ((6 : Nat) : Int)).toNat) ⟨by omega, by omega, by omega⟩ ⟨rfl, rfl, rfl, rfl⟩ (RLe.refl _) qS
     ·
      refine WS.eff rfl rfl rfl qD (Ef.buildSliceD (enc := encI) (parts := [.const (.int .i64 0), .const (.int .i64 0), .const (.int .i64 1), .const (.int .i64 3), .const (.int .i64 4), .const (.int .i64 8)]) [_, _, _, _, _, _] tab_ok rfl rfl rfl rfl rfl rfl rfl rfl qD qD (fun a54 => ?_))
      refine ⟨by first | exact RLe.refl _ | assumption, qS, ?_⟩
      refine WA.br2 (i := 10) (j := 17) qK ?_ ?_
      ·
       refine' WS.yl rfl rfl rfl qD (Yl.load1 tab_ok rfl rfl rfl (fun _ => rfl) ?r16 rfl ?h16) qS qR ?_
       case r16 => apply Rd.add; (exact Rd.blk 3 rfl)
       case h16 => rfl
       refine WA.take 11 rfl qK qK qK rfl rfl qD (Yl.sub rfl rfl rfl (fun _ => rfl) qA) qS qR ?_
       refine WA.take 12 rfl qK qK qK rfl rfl qD (Yl.index tab_ok rfl rfl rfl rfl rfl rfl (fun _ => rfl) qA qH) qS qR ?_
       refine' WA.take 13 rfl qK qK qK rfl rfl qD (Yl.load1 tab_ok rfl rfl rfl (fun _ => rfl) ?r17 rfl ?h17) qS qR ?_
       case r17 => (exact Rd.slD 0 rfl qX)
       case h17 => rfl
       refine WA.take 14 rfl qK qK qK rfl rfl qD (Yl.sub rfl rfl rfl (fun _ => rfl) qA) qS qR ?_
       refine WA.callAt 5 17 rfl qK en13 rfl rfl qD (CallOp.mkT rfl rfl rfl rfl) rfl (PickM_C (j := 0) w0 ([0, 0, 1, 3, 4, 8] : List Int) rfl qD qD ha rfl) ?_
       rintro _ _ _ _ - ⟨rfl, rfl, rfl, rfl⟩
       refine ⟨RLe.refl _, qS, ?_⟩
       refine WA.take 18 rfl qK qK qK rfl rfl qD (Yl.add rfl rfl rfl (fun _ => rfl) qA) qS qR ?_
       refine WA.take 19 rfl qK qK qK rfl rfl qD (pureV_ok tab_ok rfl (fun _ => rfl)) qS qR ?_
       refine WA.effN 20 rfl qK rfl rfl (Ef.store 3 tab_ok rfl rfl rfl rfl rfl rfl rfl rfl ?_)
       refine ⟨by first | exact RLe.refl _ | assumption, qS, ?_⟩
       refine WA.done qK ?_
       refine WE.cut (nth (fvals (upV xs (c + 3) v0) n) ((n : Int) - 1).toNat - nth (fvals (upV xs (c + 3) v0) n) ((n : Int) - (P : Int)).toNat + nth ([0, 0, 1, 3, 4, 8] : List Int) (mod (nth xs (c + 3 + n)) ((6 : Nat) : Int)).toNat) ⟨by omega, by omega, by omega⟩ ⟨rfl, rfl, rfl, rfl⟩ (RLe.refl _) qS
      ·
       refine WS.callAt 5 rfl en13 rfl rfl qD (CallOp.mkT rfl rfl rfl rfl) rfl (PickM_C (j := 0) w0 ([0, 0, 1, 3, 4, 8] : List Int) rfl qD qD ha rfl) ?_
       rintro _ _ _ _ - ⟨rfl, rfl, rfl, rfl⟩
       refine ⟨by first | exact RLe.refl _ | assumption, qS, ?_⟩
       refine' WA.yl 10 rfl qK rfl rfl qD (Yl.load1 tab_ok rfl rfl rfl (fun _ => rfl) ?r18 rfl ?h18) qS qR ?_
       case r18 => apply Rd.add; (exact Rd.blk 3 rfl)
       case h18 => rfl
       refine WA.take 11 rfl qK qK qK rfl rfl qD (Yl.sub rfl rfl rfl (fun _ => rfl) qA) qS qR ?_
       refine WA.take 12 rfl qK qK qK rfl rfl qD (Yl.index tab_ok rfl rfl rfl rfl rfl rfl (fun _ => rfl) qA qH) qS qR ?_
       refine' WA.take 13 rfl qK qK qK rfl rfl qD (Yl.load1 tab_ok rfl rfl rfl (fun _ => rfl) ?r19 rfl ?h19) qS qR ?_
       case r19 => (exact Rd.slD 0 rfl qX)
       case h19 => rfl
       refine WA.take 14 rfl qK qK qK rfl rfl qD (Yl.sub rfl rfl rfl (fun _ => rfl) qA) qS qR ?_
       refine WA.take 18 rfl qK qK qK rfl rfl qD (Yl.add rfl rfl rfl (fun _ => rfl) qA) qS qR ?_
       refine WA.take 19 rfl qK qK qK rfl rfl qD (pureV_ok tab_ok rfl (fun _ => rfl)) qS qR ?_
       refine WA.effN 20 rfl qK rfl rfl (Ef.store 3 tab_ok rfl rfl rfl rfl rfl rfl rfl rfl ?_)
       refine ⟨by first | exact RLe.refl _ | assumption, qS, ?_⟩
       refine WA.done qK ?_
       refine WE.cut (nth (fvals (upV xs (c + 3) v0) n) ((n : Int) - 1).toNat - nth (fvals (upV xs (c + 3) v0) n) ((n : Int) - (P : Int)).toNat + nth ([0, 0, 1, 3, 4, 8] : List Int) (mod (nth xs (c + 3 + n)) ((6 : Nat) : Int)).toNat) ⟨by omega, by omega, by omega⟩ ⟨rfl, rfl, rfl, rfl⟩ (RLe.refl _) qS
    ·
     refine' WS.yl rfl rfl rfl qD (Yl.load1 tab_ok rfl rfl rfl (fun _ => rfl) ?r20 rfl ?h20) qS qR ?_
     case r20 => apply Rd.add; (exact Rd.blk 2 rfl)
     case h20 => rfl
     refine WA.take 11 rfl qK qK qK rfl rfl qD (Yl.sub rfl rfl rfl (fun _ => rfl) qA) qS qR ?_
     refine WA.br2 (i := 7) (j := 16) qK ?_ ?_
     ·
      refine' WS.yl rfl rfl rfl qD (Yl.load1 tab_ok rfl rfl rfl (fun _ => rfl) ?r21 rfl ?h21) qS qR ?_
      case r21 => apply Rd.add; (exact Rd.blk 2 rfl)
      case h21 => rfl
      refine WA.take 12 rfl qK qK qK rfl rfl qD (Yl.index tab_ok rfl rfl rfl rfl rfl rfl (fun _ => rfl) qA qH) qS qR ?_
      refine' WA.take 13 rfl qK qK qK rfl rfl qD (Yl.load1 tab_ok rfl rfl rfl (fun _ => rfl) ?r22 rfl ?h22) qS qR ?_
      case r22 => (exact Rd.slD 0 rfl qX)
      case h22 => rfl
      refine WA.take 14 rfl qK qK qK rfl rfl qD (Yl.sub rfl rfl rfl (fun _ => rfl) qA) qS qR ?_
      refine WA.eff 16 rfl qK rfl rfl qD (Ef.buildSliceD (enc := encI) (parts := [.const (.int .i64 0), .const (.int .i64 0), .const (.int .i64 1), .const (.int .i64 3), .const (.int .i64 4), .const (.int .i64 8)]) [_, _, _, _, _, _] tab_ok rfl rfl rfl rfl rfl rfl rfl rfl qD qD (fun a54 => ?_))
      refine ⟨by first | exact RLe.refl _ | assumption, qS, ?_⟩
      refine WA.callAt 5 17 rfl qK en13 rfl rfl qD (CallOp.mkT rfl rfl rfl rfl) rfl (PickM_C (j := 0) w0 ([0, 0, 1, 3, 4, 8] : List Int) rfl qD qD ha rfl) ?_
      rintro _ _ _ _ - ⟨rfl, rfl, rfl, rfl⟩
      refine ⟨RLe.refl _, qS, ?_⟩
      refine WA.take 18 rfl qK qK qK rfl rfl qD (Yl.add rfl rfl rfl (fun _ => rfl) qA) qS qR ?_
      refine WA.take 19 rfl qK qK qK rfl rfl qD (pureV_ok tab_ok rfl (fun _ => rfl)) qS qR ?_
      refine WA.effN 20 rfl qK rfl rfl (Ef.store 3 tab_ok rfl rfl rfl rfl rfl rfl rfl rfl ?_)
      refine ⟨by first | exact RLe.refl _ | assumption, qS, ?_⟩
      refine WA.done qK ?_
      refine WE.cut (nth (fvals (upV xs (c + 3) v0) n) ((n : Int) - 1).toNat - nth (fvals (upV xs (c + 3) v0) n) ((n : Int) - (P : Int)).toNat + nth ([0, 0, 1, 3, 4, 8] : List Int) (mod (nth xs (c + 3 + n)) ((6 : Nat) : Int)).toNat) ⟨by omega, by omega, by omega⟩ ⟨rfl, rfl, rfl, rfl⟩ (RLe.refl _) qS
     ·
      refine WS.eff rfl rfl rfl qD (Ef.buildSliceD (enc := encI) (parts := [.const (.int .i64 0), .const (.int .i64 0), .const (.int .i64 1), .const (.int .i64 3), .const (.int .i64 4), .const (.int .i64 8)]) [_, _, _, _, _, _] tab_ok rfl rfl rfl rfl rfl rfl rfl rfl qD qD (fun a54 => ?_))
      refine ⟨by first | exact RLe.refl _ | assumption, qS, ?_⟩
      refine WA.br2 (i := 7) (j := 17) qK ?_ ?_
      ·
       refine' WS.yl rfl rfl rfl qD (Yl.load1 tab_ok rfl rfl rfl (fun _ => rfl) ?r23 rfl ?h23) qS qR ?_
       case r23 => apply Rd.add; (exact Rd.blk 3 rfl)
       case h23 => rfl
       refine WA.take 12 rfl qK qK qK rfl rfl qD (Yl.index tab_ok rfl rfl rfl rfl rfl rfl (fun _ => rfl) qA qH) qS qR ?_
       refine' WA.take 13 rfl qK qK qK rfl rfl qD (Yl.load1 tab_ok rfl rfl rfl (fun _ => rfl) ?r24 rfl ?h24) qS qR ?_
       case r24 => (exact Rd.slD 0 rfl qX)
       case h24 => rfl
       refine WA.take 14 rfl qK qK qK rfl rfl qD (Yl.sub rfl rfl rfl (fun _ => rfl) qA) qS qR ?_
       refine WA.callAt 5 17 rfl qK en13 rfl rfl qD (CallOp.mkT rfl rfl rfl rfl) rfl (PickM_C (j := 0) w0 ([0, 0, 1, 3, 4, 8] : List Int) rfl qD qD ha rfl) ?_
       rintro _ _ _ _ - ⟨rfl, rfl, rfl, rfl⟩
       refine ⟨RLe.refl _, qS, ?_⟩
       refine WA.take 18 rfl qK qK qK rfl rfl qD (Yl.add rfl rfl rfl (fun _ => rfl) qA) qS qR ?_
       refine WA.take 19 rfl qK qK qK rfl rfl qD (pureV_ok tab_ok rfl (fun _ => rfl)) qS qR ?_
       refine WA.effN 20 rfl qK rfl rfl (Ef.store 3 tab_ok rfl rfl rfl rfl rfl rfl rfl rfl ?_)
       refine ⟨by first | exact RLe.refl _ | assumption, qS, ?_⟩
       refine WA.done qK ?_
       refine WE.cut (nth (fvals (upV xs (c + 3) v0) n) ((n : Int) - 1).toNat - nth (fvals (upV xs (c + 3) v0) n) ((n : Int) - (P : Int)).toNat + nth ([0, 0, 1, 3, 4, 8] : List Int) (mod (nth xs (c + 3 + n)) ((6 : Nat) : Int)).toNat) ⟨by omega, by omega, by omega⟩ ⟨rfl, rfl, rfl, rfl⟩ (RLe.refl _) qS
      ·
       refine WS.callAt 5 rfl en13 rfl rfl qD (CallOp.mkT rfl rfl rfl rfl) rfl (PickM_C (j := 0) w0 ([0, 0, 1, 3, 4, 8] : List Int) rfl qD qD ha rfl) ?_
       rintro _ _ _ _ - ⟨rfl, rfl, rfl, rfl⟩
       refine ⟨by first | exact RLe.refl _ | assumption, qS, ?_⟩
       refine' WA.yl 7 rfl qK rfl rfl qD (Yl.load1 tab_ok rfl rfl rfl (fun _ => rfl) ?r25 rfl ?h25) qS qR ?_
       case r25 => apply Rd.add; (exact Rd.blk 3 rfl)
       case h25 => rfl
       refine WA.take 12 rfl qK qK qK rfl rfl qD (Yl.index tab_ok rfl rfl rfl rfl rfl rfl (fun _ => rfl) qA qH) qS qR ?_
       refine' WA.take 13 rfl qK qK qK rfl rfl qD (Yl.load1 tab_ok rfl rfl rfl (fun _ => rfl) ?r26 rfl ?h26) qS qR ?_
       case r26 => (exact Rd.slD 0 rfl qX)
       case h26 => rfl
       refine WA.take 14 rfl qK qK qK rfl rfl qD (Yl.sub rfl rfl rfl (fun _ => rfl) qA) qS qR ?_
       refine WA.take 18 rfl qK qK qK rfl rfl qD (Yl.add rfl rfl rfl (fun _ => rfl) qA) qS qR ?_
       refine WA.take 19 rfl qK qK qK rfl rfl qD (pureV_ok tab_ok rfl (fun _ => rfl)) qS qR ?_
       refine WA.effN 20 rfl qK rfl rfl (Ef.store 3 tab_ok rfl rfl rfl rfl rfl rfl rfl rfl ?_)
       refine ⟨by first | exact RLe.refl _ | assumption, qS, ?_⟩
       refine WA.done qK ?_
       refine WE.cut (nth (fvals (upV xs (c + 3) v0) n) ((n : Int) - 1).toNat - nth (fvals (upV xs (c + 3) v0) n) ((n : Int) - (P : Int)).toNat + nth ([0, 0, 1, 3, 4, 8] : List Int) (mod (nth xs (c + 3 + n)) ((6 : Nat) : Int)).toNat) ⟨by omega, by omega, by omega⟩ ⟨rfl, rfl, rfl, rfl⟩ (RLe.refl _) qS
    ·
     refine WS.eff rfl rfl rfl qD (Ef.buildSliceD (enc := encI) (parts := [.const (.int .i64 0), .const (.int .i64 0), .const (.int .i64 1), .const (.int .i64 3), .const (.int .i64 4), .const (.int .i64 8)]) [_, _, _, _, _, _] tab_ok rfl rfl rfl rfl rfl rfl rfl rfl qD qD (fun a54 => ?_))
     refine ⟨by first | exact RLe.refl _ | assumption, qS, ?_⟩
     refine WA.br3 (i := 7) (j := 10) (k := 17) qK ?_ ?_ ?_
     ·
      refine' WS.yl rfl rfl rfl qD (Yl.load1 tab_ok rfl rfl rfl (fun _ => rfl) ?r27 rfl ?h27) qS qR ?_
      case r27 => apply Rd.add; (exact Rd.blk 3 rfl)
      case h27 => rfl
      refine WA.br2 (i := 10) (j := 17) qK ?_ ?_
      ·
       refine' WS.yl rfl rfl rfl qD (Yl.load1 tab_ok rfl rfl rfl (fun _ => rfl) ?r28 rfl ?h28) qS qR ?_
       case r28 => apply Rd.add; (exact Rd.blk 3 rfl)
       case h28 => rfl
       refine WA.take 11 rfl qK qK qK rfl rfl qD (Yl.sub rfl rfl rfl (fun _ => rfl) qA) qS qR ?_
       refine WA.take 12 rfl qK qK qK rfl rfl qD (Yl.index tab_ok rfl rfl rfl rfl rfl rfl (fun _ => rfl) qA qH) qS qR ?_
       refine' WA.take 13 rfl qK qK qK rfl rfl qD (Yl.load1 tab_ok rfl rfl rfl (fun _ => rfl) ?r29 rfl ?h29) qS qR ?_
       case r29 => (exact Rd.slD 0 rfl qX)
       case h29 => rfl
       refine WA.take 14 rfl qK qK qK rfl rfl qD (Yl.sub rfl rfl rfl (fun _ => rfl) qA) qS qR ?_
       refine WA.callAt 5 17 rfl qK en13 rfl rfl qD (CallOp.mkT rfl rfl rfl rfl) rfl (PickM_C (j := 0) w0 ([0, 0, 1, 3, 4, 8] : List Int) rfl qD qD ha rfl) ?_
       rintro _ _ _ _ - ⟨rfl, rfl, rfl, rfl⟩
       refine ⟨RLe.refl _, qS, ?_⟩
       refine WA.take 18 rfl qK qK qK rfl rfl qD (Yl.add rfl rfl rfl (fun _ => rfl) qA) qS qR ?_
       refine WA.take 19 rfl qK qK qK rfl rfl qD (pureV_ok tab_ok rfl (fun _ => rfl)) qS qR ?_
       refine WA.effN 20 rfl qK rfl rfl (Ef.store 3 tab_ok rfl rfl rfl rfl rfl rfl rfl rfl ?_)
       refine ⟨by first | exact RLe.refl _ | assumption, qS, ?_⟩
       refine WA.done qK ?_
       refine WE.cut (nth (fvals (upV xs (c + 3) v0) n) ((n : Int) - 1).toNat - nth (fvals (upV xs (c + 3) v0) n) ((n : Int) - (P : Int)).toNat + nth ([0, 0, 1, 3, 4, 8] : List Int) (mod (nth xs (c + 3 + n)) ((6 : Nat) : Int)).toNat) ⟨by omega, by omega, by omega⟩ ⟨rfl, rfl, rfl, rfl⟩ (RLe.refl _) qS
      ·
       refine WS.callAt 5 rfl en13 rfl rfl qD (CallOp.mkT rfl rfl rfl rfl) rfl (PickM_C (j := 0) w0 ([0, 0, 1, 3, 4, 8] : List Int) rfl qD qD ha rfl) ?_
       rintro _ _ _ _ - ⟨rfl, rfl, rfl, rfl⟩
       refine ⟨by first | exact RLe.refl _ | assumption, qS, ?_⟩
       refine' WA.yl 10 rfl qK rfl rfl qD (Yl.load1 tab_ok rfl rfl rfl (fun _ => rfl) ?r30 rfl ?h30) qS qR ?_
       case r30 => apply Rd.add; (exact Rd.blk 3 rfl)
       case h30 => rfl
       refine WA.take 11 rfl qK qK qK rfl rfl qD (Yl.sub rfl rfl rfl (fun _ => rfl) qA) qS qR ?_
       refine WA.take 12 rfl qK qK qK rfl rfl qD (Yl.index tab_ok rfl rfl rfl rfl rfl rfl (fun _ => rfl) qA qH) qS qR ?_
       refine' WA.take 13 rfl qK qK qK rfl rfl qD (Yl.load1 tab_ok rfl rfl rfl (fun _ => rfl) ?r31 rfl ?h31) qS qR ?_
       case r31 => (exact Rd.slD 0 rfl qX)
       case h31 => rfl
       refine WA.take 14 rfl qK qK qK rfl rfl qD (Yl.sub rfl rfl rfl (fun _ => rfl) qA) qS qR ?_
       refine WA.take 18 rfl qK qK qK rfl rfl qD (Yl.add rfl rfl rfl (fun _ => rfl) qA) qS qR ?_
       refine WA.take 19 rfl qK qK qK rfl rfl qD (pureV_ok tab_ok rfl (fun _ => rfl)) qS qR ?_
       refine WA.effN 20 rfl qK rfl rfl (Ef.store 3 tab_ok rfl rfl rfl rfl rfl rfl rfl rfl ?_)
       refine ⟨by first | exact RLe.refl _ | assumption, qS, ?_⟩
       refine WA.done qK ?_
       refine WE.cut (nth (fvals (upV xs (c + 3) v0) n) ((n : Int) - 1).toNat - nth (fvals (upV xs (c + 3) v0) n) ((n : Int) - (P : Int)).toNat + nth ([0, 0, 1, 3, 4, 8] : List Int) (mod (nth xs (c + 3 + n)) ((6 : Nat) : Int)).toNat) ⟨by omega, by omega, by omega⟩ ⟨rfl, rfl, rfl, rfl⟩ (RLe.refl _) qS
     ·
      refine' WS.yl rfl rfl rfl qD (Yl.load1 tab_ok rfl rfl rfl (fun _ => rfl) ?r32 rfl ?h32) qS qR ?_
      case r32 => apply Rd.add; (exact Rd.blk 3 rfl)
      case h32 => rfl
      refine WA.take 11 rfl qK qK qK rfl rfl qD (Yl.sub rfl rfl rfl (fun _ => rfl) qA) qS qR ?_
      refine WA.br2 (i := 7) (j := 17) qK ?_ ?_
      ·
       refine' WS.yl rfl rfl rfl qD (Yl.load1 tab_ok rfl rfl rfl (fun _ => rfl) ?r33 rfl ?h33) qS qR ?_
       case r33 => apply Rd.add; (exact Rd.blk 3 rfl)
       case h33 => rfl
       refine WA.take 12 rfl qK qK qK rfl rfl qD (Yl.index tab_ok rfl rfl rfl rfl rfl rfl (fun _ => rfl) qA qH) qS qR ?_
       refine' WA.take 13 rfl qK qK qK rfl rfl qD (Yl.load1 tab_ok rfl rfl rfl (fun _ => rfl) ?r34 rfl ?h34) qS qR ?_
       case r34 => (exact Rd.slD 0 rfl qX)
       case h34 => rfl
       refine WA.take 14 rfl qK qK qK rfl rfl qD (Yl.sub rfl rfl rfl (fun _ => rfl) qA) qS qR ?_
       refine WA.callAt 5 17 rfl qK en13 rfl rfl qD (CallOp.mkT rfl rfl rfl rfl) rfl (PickM_C (j := 0) w0 ([0, 0, 1, 3, 4, 8] : List Int) rfl qD qD ha rfl) ?_
       rintro _ _ _ _ - ⟨rfl, rfl, rfl, rfl⟩
       refine ⟨RLe.refl _, qS, ?_⟩
       refine WA.take 18 rfl qK qK qK rfl rfl qD (Yl.add rfl rfl rfl (fun _ => rfl) qA) qS qR ?_
       refine WA.take 19 rfl qK qK qK rfl rfl qD (pureV_ok tab_ok rfl (fun _ => rfl)) qS qR ?_
       refine WA.effN 20 rfl qK rfl rfl (Ef.store 3 tab_ok rfl rfl rfl rfl rfl rfl rfl rfl ?_)
       refine ⟨by first | exact RLe.refl _ | assumption, qS, ?_⟩
       refine WA.done qK ?_
       refine WE.cut (nth (fvals (upV xs (c + 3) v0) n) ((n : Int) - 1).toNat - nth (fvals (upV xs (c + 3) v0) n) ((n : Int) - (P : Int)).toNat + nth ([0, 0, 1, 3, 4, 8] : List Int) (mod (nth xs (c + 3 + n)) ((6 : Nat) : Int)).toNat) ⟨by omega, by omega, by omega⟩ ⟨rfl, rfl, rfl, rfl⟩ (RLe.refl _) qS
      ·
       refine WS.callAt 5 rfl en13 rfl rfl qD (CallOp.mkT rfl rfl rfl rfl) rfl (PickM_C (j := 0) w0 ([0, 0, 1, 3, 4, 8] : List Int) rfl qD qD ha rfl) ?_
       rintro _ _ _ _ - ⟨rfl, rfl, rfl, rfl⟩
       refine ⟨by first | exact RLe.refl _ | assumption, qS, ?_⟩
       refine' WA.yl 7 rfl qK rfl rfl qD (Yl.load1 tab_ok rfl rfl rfl (fun _ => rfl) ?r35 rfl ?h35) qS qR ?_
       case r35 => apply Rd.add; (exact Rd.blk 3 rfl)
       case h35 => rfl
       refine WA.take 12 rfl qK qK qK rfl rfl qD (Yl.index tab_ok rfl rfl rfl rfl rfl rfl (fun _ => rfl) qA qH) qS qR ?_
       refine' WA.take 13 rfl qK qK qK rfl rfl qD (Yl.load1 tab_ok rfl rfl rfl (fun _ => rfl) ?r36 rfl ?h36) qS qR ?_
       case r36 => (exact Rd.slD 0 rfl qX)
       case h36 => rfl
       refine WA.take 14 rfl qK qK qK rfl rfl qD (Yl.sub rfl rfl rfl (fun _ => rfl) qA) qS qR ?_
       refine WA.take 18 rfl qK qK qK rfl rfl qD (Yl.add rfl rfl rfl (fun _ => rfl) qA) qS qR ?_
       refine WA.take 19 rfl qK qK qK rfl rfl qD (pureV_ok tab_ok rfl (fun _ => rfl)) qS qR ?_
       refine WA.effN 20 rfl qK rfl rfl (Ef.store 3 tab_ok rfl rfl rfl rfl rfl rfl rfl rfl ?_)
       refine ⟨by first | exact RLe.refl _ | assumption, qS, ?_⟩
       refine WA.done qK ?_
       refine WE.cut (nth (fvals (upV xs (c + 3) v0) n) ((n : Int) - 1).toNat - nth (fvals (upV xs (c + 3) v0) n) ((n : Int) - (P : Int)).toNat + nth ([0, 0, 1, 3, 4, 8] : List Int) (mod (nth xs (c + 3 + n)) ((6 : Nat) : Int)).toNat) ⟨by omega, by omega, by omega⟩ ⟨rfl, rfl, rfl, rfl⟩ (RLe.refl _) qS
     ·
      refine WS.callAt 5 rfl en13 rfl rfl qD (CallOp.mkT rfl rfl rfl rfl) rfl (PickM_C (j := 0) w0 ([0, 0, 1, 3, 4, 8] : List Int) rfl qD qD ha rfl) ?_
      rintro _ _ _ _ - ⟨rfl, rfl, rfl, rfl⟩
      refine ⟨by first | exact RLe.refl _ | assumption, qS, ?_⟩
      refine WA.br2 (i := 7) (j := 10) qK ?_ ?_
      ·
       refine' WS.yl rfl rfl rfl qD (Yl.load1 tab_ok rfl rfl rfl (fun _ => rfl) ?r37 rfl ?h37) qS qR ?_
       case r37 => apply Rd.add; (exact Rd.blk 3 rfl)
       case h37 => rfl
       refine' WA.yl 10 rfl qK rfl rfl qD (Yl.load1 tab_ok rfl rfl rfl (fun _ => rfl) ?r38 rfl ?h38) qS qR ?_
       case r38 => apply Rd.add; (exact Rd.blk 3 rfl)
       case h38 => rfl
       refine WA.take 11 rfl qK qK qK rfl rfl qD (Yl.sub rfl rfl rfl (fun _ => rfl) qA) qS qR ?_
       refine WA.take 12 rfl qK qK qK rfl rfl qD (Yl.index tab_ok rfl rfl rfl rfl rfl rfl (fun _ => rfl) qA qH) qS qR ?_
       refine' WA.take 13 rfl qK qK qK rfl rfl qD (Yl.load1 tab_ok rfl rfl rfl (fun _ => rfl) ?r39 rfl ?h39) qS qR ?_
       case r39 => (exact Rd.slD 0 rfl qX)
       case h39 => rfl
       refine WA.take 14 rfl qK qK qK rfl rfl qD (Yl.sub rfl rfl rfl (fun _ => rfl) qA) qS qR ?_
       refine WA.take 18 rfl qK qK qK rfl rfl qD (Yl.add rfl rfl rfl (fun _ => rfl) qA) qS qR ?_
       refine WA.take 19 rfl qK qK qK rfl rfl qD (pureV_ok tab_ok rfl (fun _ => rfl)) qS qR ?_
       refine WA.effN 20 rfl qK rfl rfl (Ef.store 3 tab_ok rfl rfl rfl rfl rfl rfl rfl rfl ?_)
       refine ⟨by first | exact RLe.refl _ | assumption, qS, ?_⟩
       refine WA.done qK ?_
       refine WE.cut (nth (fvals (upV xs (c + 3) v0) n) ((n : Int) - 1).toNat - nth (fvals (upV xs (c + 3) v0) n) ((n : Int) - (P : Int)).toNat + nth ([0, 0, 1, 3, 4, 8] : List Int) (mod (nth xs (c + 3 + n)) ((6 : Nat) : Int)).toNat) ⟨by omega, by omega, by omega⟩ ⟨rfl, rfl, rfl, rfl⟩ (RLe.refl _) qS
      ·
       refine' WS.yl rfl rfl rfl qD (Yl.load1 tab_ok rfl rfl rfl (fun _ => rfl) ?r40 rfl ?h40) qS qR ?_
       case r40 => apply Rd.add; (exact Rd.blk 3 rfl)
       case h40 => rfl
       refine WA.take 11 rfl qK qK qK rfl rfl qD (Yl.sub rfl rfl rfl (fun _ => rfl) qA) qS qR ?_
       refine' WA.yl 7 rfl qK rfl rfl qD (Yl.load1 tab_ok rfl rfl rfl (fun _ => rfl) ?r41 rfl ?h41) qS qR ?_
       case r41 => apply Rd.add; (exact Rd.blk 3 rfl)
       case h41 => rfl
       refine WA.take 12 rfl qK qK qK rfl rfl qD (Yl.index tab_ok rfl rfl rfl rfl rfl rfl (fun _ => rfl) qA qH) qS qR ?_
       refine' WA.take 13 rfl qK qK qK rfl rfl qD (Yl.load1 tab_ok rfl rfl rfl (fun _ => rfl) ?r42 rfl ?h42) qS qR ?_
       case r42 => (exact Rd.slD 0 rfl qX)
       case h42 => rfl
       refine WA.take 14 rfl qK qK qK rfl rfl qD (Yl.sub rfl rfl rfl (fun _ => rfl) qA) qS qR ?_
       refine WA.take 18 rfl qK qK qK rfl rfl qD (Yl.add rfl rfl rfl (fun _ => rfl) qA) qS qR ?_
       refine WA.take 19 rfl qK qK qK rfl rfl qD (pureV_ok tab_ok rfl (fun _ => rfl)) qS qR ?_
       refine WA.effN 20 rfl qK rfl rfl (Ef.store 3 tab_ok rfl rfl rfl rfl rfl rfl rfl rfl ?_)
       refine ⟨by first | exact RLe.refl _ | assumption, qS, ?_⟩
       refine WA.done qK ?_
       refine WE.cut (nth (fvals (upV xs (c + 3) v0) n) ((n : Int) - 1).toNat - nth (fvals (upV xs (c + 3) v0) n) ((n : Int) - (P : Int)).toNat + nth ([0, 0, 1, 3, 4, 8] : List Int) (mod (nth xs (c + 3 + n)) ((6 : Nat) : Int)).toNat) ⟨by omega, by omega, by omega⟩ ⟨rfl, rfl, rfl, rfl⟩ (RLe.refl _) qS
   ·
    refine' WS.yl rfl rfl rfl qD (Yl.load1 tab_ok rfl rfl rfl (fun _ => rfl) ?r43 rfl ?h43) qS qR ?_
    case r43 => apply Rd.add; (exact Rd.blk 2 rfl)
    case h43 => rfl
    refine WA.br3 (i := 1) (j := 10) (k := 16) qK ?_ ?_ ?_
    ·
     refine' WS.yl rfl rfl rfl qD (Yl.load1 tab_ok rfl rfl rfl (fun _ => rfl) ?r44 rfl ?h44) qS qR ?_
     case r44 => apply Rd.add; (exact Rd.blk 2 rfl)
     case h44 => rfl
     refine WA.take 4 rfl qK qK qK rfl rfl qD (Yl.index tab_ok rfl rfl rfl rfl rfl rfl (fun _ => rfl) qA qH) qS qR ?_
     refine' WA.take 5 rfl qK qK qK rfl rfl qD (Yl.load1 tab_ok rfl rfl rfl (fun _ => rfl) ?r45 rfl ?h45) qS qR ?_
     case r45 => (exact Rd.slD 0 rfl qX)
     case h45 => rfl
     refine WA.br2 (i := 10) (j := 16) qK ?_ ?_
     ·
      refine' WS.yl rfl rfl rfl qD (Yl.load1 tab_ok rfl rfl rfl (fun _ => rfl) ?r46 rfl ?h46) qS qR ?_
      case r46 => apply Rd.add; (exact Rd.blk 2 rfl)
      case h46 => rfl
      refine WA.take 11 rfl qK qK qK rfl rfl qD (Yl.sub rfl rfl rfl (fun _ => rfl) qA) qS qR ?_
      refine WA.take 12 rfl qK qK qK rfl rfl qD (Yl.index tab_ok rfl rfl rfl rfl rfl rfl (fun _ => rfl) qA qH) qS qR ?_
      refine' WA.take 13 rfl qK qK qK rfl rfl qD (Yl.load1 tab_ok rfl rfl rfl (fun _ => rfl) ?r47 rfl ?h47) qS qR ?_
      case r47 => (exact Rd.slD 0 rfl qX)
      case h47 => rfl
      refine WA.take 14 rfl qK qK qK rfl rfl qD (Yl.sub rfl rfl rfl (fun _ => rfl) qA) qS qR ?_
      refine WA.eff 16 rfl qK rfl rfl qD (Ef.buildSliceD (enc := encI) (parts := [.const (.int .i64 0), .const (.int .i64 0), .const (.int .i64 1), .const (.int .i64 3), .const (.int .i64 4), .const (.int .i64 8)]) [_, _, _, _, _, _] tab_ok rfl rfl rfl rfl rfl rfl rfl rfl qD qD (fun a54 => ?_))
      refine ⟨by first | exact RLe.refl _ | assumption, qS, ?_⟩
      refine WA.callAt 5 17 rfl qK en13 rfl rfl qD (CallOp.mkT rfl rfl rfl rfl) rfl (PickM_C (j := 0) w0 ([0, 0, 1, 3, 4, 8] : List Int) rfl qD qD ha rfl) ?_
      rintro _ _ _ _ - ⟨rfl, rfl, rfl, rfl⟩
      refine ⟨RLe.refl _, qS, ?_⟩
      refine WA.take 18 rfl qK qK qK rfl rfl qD (Yl.add rfl rfl rfl (fun _ => rfl) qA) qS qR ?_
      refine WA.take 19 rfl qK qK qK rfl rfl qD (pureV_ok tab_ok rfl (fun _ => rfl)) qS qR ?_
      refine WA.effN 20 rfl qK rfl rfl (Ef.store 3 tab_ok rfl rfl rfl rfl rfl rfl rfl rfl ?_)
      refine ⟨by first | exact RLe.refl _ | assumption, qS, ?_⟩
      refine WA.done qK ?_
      refine WE.cut (nth (fvals (upV xs (c + 3) v0) n) ((n : Int) - 1).toNat - nth (fvals (upV xs (c + 3) v0) n) ((n : Int) - (P : Int)).toNat + nth ([0, 0, 1, 3, 4, 8] : List Int) (mod (nth xs (c + 3 + n)) ((6 : Nat) : Int)).toNat) ⟨by omega, by omega, by omega⟩ ⟨rfl, rfl, rfl, rfl⟩ (RLe.refl _) qS
     ·
      refine WS.eff rfl rfl rfl qD (Ef.buildSliceD (enc := encI) (parts := [.const (.int .i64 0), .const (.int .i64 0), .const (.int .i64 1), .const (.int .i64 3), .const (.int .i64 4), .const (.int .i64 8)]) [_, _, _, _, _, _] tab_ok rfl rfl rfl rfl rfl rfl rfl rfl qD qD (fun a54 => ?_))
      refine ⟨by first | exact RLe.refl _ | assumption, qS, ?_⟩
      refine WA.br2 (i := 10) (j := 17) qK ?_ ?_
      ·
       refine' WS.yl rfl rfl rfl qD (Yl.load1 tab_ok rfl rfl rfl (fun _ => rfl) ?r48 rfl ?h48) qS qR ?_
       case r48 => apply Rd.add; (exact Rd.blk 3 rfl)
       case h48 => rfl
       refine WA.take 11 rfl qK qK qK rfl rfl qD (Yl.sub rfl rfl rfl (fun _ => rfl) qA) qS qR ?_
       refine WA.take 12 rfl qK qK qK rfl rfl qD (Yl.index tab_ok rfl rfl rfl rfl rfl rfl (fun _ => rfl) qA qH) qS qR ?_
       refine' WA.take 13 rfl qK qK qK rfl rfl qD (Yl.load1 tab_ok rfl rfl rfl (fun _ => rfl) ?r49 rfl ?h49) qS qR ?_
       case r49 => (exact Rd.slD 0 rfl qX)
       case h49 => rfl
       refine WA.take 14 rfl qK qK qK rfl rfl qD (Yl.sub rfl rfl rfl (fun _ => rfl) qA) qS qR ?_
       refine WA.callAt 5 17 rfl qK en13 rfl rfl qD (CallOp.mkT rfl rfl rfl rfl) rfl (PickM_C (j := 0) w0 ([0, 0, 1, 3, 4, 8] : List Int) rfl qD qD ha rfl) ?_
       rintro _ _ _ _ - ⟨rfl, rfl, rfl, rfl⟩
       refine ⟨RLe.refl _, qS, ?_⟩
       refine WA.take 18 rfl qK qK qK rfl rfl qD (Yl.add rfl rfl rfl (fun _ => rfl) qA) qS qR ?_
       refine WA.take 19 rfl qK qK qK rfl rfl qD (pureV_ok tab_ok rfl (fun _ => rfl)) qS qR ?_
       refine WA.effN 20 rfl qK rfl rfl (Ef.store 3 tab_ok rfl rfl rfl rfl rfl rfl rfl rfl ?_)
       refine ⟨by first | exact RLe.refl _ | assumption, qS, ?_⟩
       refine WA.done qK ?_
       refine WE.cut (nth (fvals (upV xs (c + 3) v0) n) ((n : Int) - 1).toNat - nth (fvals (upV xs (c + 3) v0) n) ((n : Int) - (P : Int)).toNat + nth ([0, 0, 1, 3, 4, 8] : List Int) (mod (nth xs (c + 3 + n)) ((6 : Nat) : Int)).toNat) ⟨by omega, by omega, by omega⟩ ⟨rfl, rfl, rfl, rfl⟩ (RLe.refl _) qS
      ·
       refine WS.callAt 5 rfl en13 rfl rfl qD (CallOp.mkT rfl rfl rfl rfl) rfl (PickM_C (j := 0) w0 ([0, 0, 1, 3, 4, 8] : List Int) rfl qD qD ha rfl) ?_
       rintro _ _ _ _ - ⟨rfl, rfl, rfl, rfl⟩
       refine ⟨by first | exact RLe.refl _ | assumption, qS, ?_⟩
       refine' WA.yl 10 rfl qK rfl rfl qD (Yl.load1 tab_ok rfl rfl rfl (fun _ => rfl) ?r50 rfl ?h50) qS qR ?_
       case r50 => apply Rd.add; (exact Rd.blk 3 rfl)
       case h50 => rfl
       refine WA.take 11 rfl qK qK qK rfl rfl qD (Yl.sub rfl rfl rfl (fun _ => rfl) qA) qS qR ?_
       refine WA.take 12 rfl qK qK qK rfl rfl qD (Yl.index tab_ok rfl rfl rfl rfl rfl rfl (fun _ => rfl) qA qH) qS qR ?_
       refine' WA.take 13 rfl qK qK qK rfl rfl qD (Yl.load1 tab_ok rfl rfl rfl (fun _ => rfl) ?r51 rfl ?h51) qS qR ?_
       case r51 => (exact Rd.slD 0 rfl qX)
       case h51 => rfl
       refine WA.take 14 rfl qK qK qK rfl rfl qD (Yl.sub rfl rfl rfl (fun _ => rfl) qA) qS qR ?_
       refine WA.take 18 rfl qK qK qK rfl rfl qD (Yl.add rfl rfl rfl (fun _ => rfl) qA) qS qR ?_
       refine WA.take 19 rfl qK qK qK rfl rfl qD (pureV_ok tab_ok rfl (fun _ => rfl)) qS qR ?_
       refine WA.effN 20 rfl qK rfl rfl (Ef.store 3 tab_ok rfl rfl rfl rfl rfl rfl rfl rfl ?_)
       refine ⟨by first | exact RLe.refl _ | assumption, qS, ?_⟩
       refine WA.done qK ?_
       refine WE.cut (nth (fvals (upV xs (c + 3) v0) n) ((n : Int) - 1).toNat - nth (fvals (upV xs (c + 3) v0) n) ((n : Int) - (P : Int)).toNat + nth ([0, 0, 1, 3, 4, 8] : List Int) (mod (nth xs (c + 3 + n)) ((6 : Nat) : Int)).toNat) ⟨by omega, by omega, by omega⟩ ⟨rfl, rfl, rfl, rfl⟩ (RLe.refl _) qS
    ·
     refine' WS.yl rfl rfl rfl qD (Yl.load1 tab_ok rfl rfl rfl (fun _ => rfl) ?r52 rfl ?h52) qS qR ?_
     case r52 => apply Rd.add; (exact Rd.blk 2 rfl)
     case h52 => rfl
     refine WA.take 11 rfl qK qK qK rfl rfl qD (Yl.sub rfl rfl rfl (fun _ => rfl) qA) qS qR ?_
     refine WA.take 12 rfl qK qK qK rfl rfl qD (Yl.index tab_ok rfl rfl rfl rfl rfl rfl (fun _ => rfl) qA qH) qS qR ?_
     refine' WA.take 13 rfl qK qK qK rfl rfl qD (Yl.load1 tab_ok rfl rfl rfl (fun _ => rfl) ?r53 rfl ?h53) qS qR ?_
     case r53 => (exact Rd.slD 0 rfl qX)
     case h53 => rfl
     refine WA.br2 (i := 1) (j := 16) qK ?_ ?_
     ·
      refine' WS.yl rfl rfl rfl qD (Yl.load1 tab_ok rfl rfl rfl (fun _ => rfl) ?r54 rfl ?h54) qS qR ?_
      case r54 => apply Rd.add; (exact Rd.blk 2 rfl)
      case h54 => rfl
      refine WA.take 4 rfl qK qK qK rfl rfl qD (Yl.index tab_ok rfl rfl rfl rfl rfl rfl (fun _ => rfl) qA qH) qS qR ?_
      refine' WA.take 5 rfl qK qK qK rfl rfl qD (Yl.load1 tab_ok rfl rfl rfl (fun _ => rfl) ?r55 rfl ?h55) qS qR ?_
      case r55 => (exact Rd.slD 0 rfl qX)
      case h55 => rfl
      refine WA.take 14 rfl qK qK qK rfl rfl qD (Yl.sub rfl rfl rfl (fun _ => rfl) qA) qS qR ?_
      refine WA.eff 16 rfl qK rfl rfl qD (Ef.buildSliceD (enc := encI) (parts := [.const (.int .i64 0), .const (.int .i64 0), .const (.int .i64 1), .const (.int .i64 3), .const (.int .i64 4), .const (.int .i64 8)]) [_, _, _, _, _, _] tab_ok rfl rfl rfl rfl rfl rfl rfl rfl qD qD (fun a54 => ?_))
      refine ⟨by first | exact RLe.refl _ | assumption, qS, ?_⟩
      refine WA.callAt 5 17 rfl qK en13 rfl rfl qD (CallOp.mkT rfl rfl rfl rfl) rfl (PickM_C (j := 0) w0 ([0, 0, 1, 3, 4, 8] : List Int) rfl qD qD ha rfl) ?_
      rintro _ _ _ _ - ⟨rfl, rfl, rfl, rfl⟩
      refine ⟨RLe.refl _, qS, ?_⟩
      refine WA.take 18 rfl qK qK qK rfl rfl qD (Yl.add rfl rfl rfl (fun _ => rfl) qA) qS qR ?_
      refine WA.take 19 rfl qK qK qK rfl rfl qD (pureV_ok tab_ok rfl (fun _ => rfl)) qS qR ?_
      refine WA.effN 20 rfl qK rfl rfl (Ef.store 3 tab_ok rfl rfl rfl rfl rfl rfl rfl rfl ?_)
      refine ⟨by first | exact RLe.refl _ | assumption, qS, ?_⟩
      refine WA.done qK ?_
      refine WE.cut (nth (fvals (upV xs (c + 3) v0) n) ((n : Int) - 1).toNat - nth (fvals (upV xs (c + 3) v0) n) ((n : Int) - (P : Int)).toNat + nth ([0, 0, 1, 3, 4, 8] : List Int) (mod (nth xs (c + 3 + n)) ((6 : Nat) : Int)).toNat) ⟨by omega, by omega, by omega⟩ ⟨rfl, rfl, rfl, rfl⟩ (RLe.refl _) qS
     ·
      refine WS.eff rfl rfl rfl qD (Ef.buildSliceD (enc := encI) (parts := [.const (.int .i64 0), .const (.int .i64 0), .const (.int .i64 1), .const (.int .i64 3), .const (.int .i64 4), .const (.int .i64 8)]) [_, _, _, _, _, _] tab_ok rfl rfl rfl rfl rfl rfl rfl rfl qD qD (fun a54 => ?_))
      refine ⟨by first | exact RLe.refl _ | assumption, qS, ?_⟩
      refine WA.br2 (i := 1) (j := 17) qK ?_ ?_
      ·
       refine' WS.yl rfl rfl rfl qD (Yl.load1 tab_ok rfl rfl rfl (fun _ => rfl) ?r56 rfl ?h56) qS qR ?_
       case r56 => apply Rd.add; (exact Rd.blk 3 rfl)
       case h56 => rfl
       refine WA.take 4 rfl qK qK qK rfl rfl qD (Yl.index tab_ok rfl rfl rfl rfl rfl rfl (fun _ => rfl) qA qH) qS qR ?_
       refine' WA.take 5 rfl qK qK qK rfl rfl qD (Yl.load1 tab_ok rfl rfl rfl (fun _ => rfl) ?r57 rfl ?h57) qS qR ?_
       case r57 => (exact Rd.slD 0 rfl qX)
       case h57 => rfl
       refine WA.take 14 rfl qK qK qK rfl rfl qD (Yl.sub rfl rfl rfl (fun _ => rfl) qA) qS qR ?_
       refine WA.callAt 5 17 rfl qK en13 rfl rfl qD (CallOp.mkT rfl rfl rfl rfl) rfl (PickM_C (j := 0) w0 ([0, 0, 1, 3, 4, 8] : List Int) rfl qD qD ha rfl) ?_
       rintro _ _ _ _ - ⟨rfl, rfl, rfl, rfl⟩
       refine ⟨RLe.refl _, qS, ?_⟩
       refine WA.take 18 rfl qK qK qK rfl rfl qD (Yl.add rfl rfl rfl (fun _ => rfl) qA) qS qR ?_
       refine WA.take 19 rfl qK qK qK rfl rfl qD (pureV_ok tab_ok rfl (fun _ => rfl)) qS qR ?_
       refine WA.effN 20 rfl qK rfl rfl (Ef.store 3 tab_ok rfl rfl rfl rfl rfl rfl rfl rfl ?_)
       refine ⟨by first | exact RLe.refl _ | assumption, qS, ?_⟩
       refine WA.done qK ?_
       refine WE.cut (nth (fvals (upV xs (c + 3) v0) n) ((n : Int) - 1).toNat - nth (fvals (upV xs (c + 3) v0) n) ((n : Int) - (P : Int)).toNat + nth ([0, 0, 1, 3, 4, 8] : List Int) (mod (nth xs (c + 3 + n)) ((6 : Nat) : Int)).toNat) ⟨by omega, by omega, by omega⟩ ⟨rfl, rfl, rfl, rfl⟩ (RLe.refl _) qS
      ·
       refine WS.callAt 5 rfl en13 rfl rfl qD (CallOp.mkT rfl rfl rfl rfl) rfl (PickM_C (j := 0) w0 ([0, 0, 1, 3, 4, 8] : List Int) rfl qD qD ha rfl) ?_
       rintro _ _ _ _ - ⟨rfl, rfl, rfl, rfl⟩
       refine ⟨by first | exact RLe.refl _ | assumption, qS, ?_⟩
       refine' WA.yl 1 rfl qK rfl rfl qD (Yl.load1 tab_ok rfl rfl rfl (fun _ => rfl) ?r58 rfl ?h58) qS qR ?_
       case r58 => apply Rd.add; (exact Rd.blk 3 rfl)
       case h58 => rfl
       refine WA.take 4 rfl qK qK qK rfl rfl qD (Yl.index tab_ok rfl rfl rfl rfl rfl rfl (fun _ => rfl) qA qH) qS qR ?_
       refine' WA.take 5 rfl qK qK qK rfl rfl qD (Yl.load1 tab_ok rfl rfl rfl (fun _ => rfl) ?r59 rfl ?h59) qS qR ?_
       case r59 => (exact Rd.slD 0 rfl qX)
       case h59 => rfl
       refine WA.take 14 rfl qK qK qK rfl rfl qD (Yl.sub rfl rfl rfl (fun _ => rfl) qA) qS qR ?_
       refine WA.take 18 rfl qK qK qK rfl rfl qD (Yl.add rfl rfl rfl (fun _ => rfl) qA) qS qR ?_
       refine WA.take 19 rfl qK qK qK rfl rfl qD (pureV_ok tab_ok rfl (fun _ => rfl)) qS qR ?_
       refine WA.effN 20 rfl qK rfl rfl (Ef.store 3 tab_ok rfl rfl rfl rfl rfl rfl rfl rfl ?_)
       refine ⟨by first | exact RLe.refl _ | assumption, qS, ?_⟩
       refine WA.done qK ?_
       refine WE.cut (nth (fvals (upV xs (c + 3) v0) n) ((n : Int) - 1).toNat - nth (fvals (upV xs (c + 3) v0) n) ((n : Int) - (P : Int)).toNat + nth ([0, 0, 1, 3, 4, 8] : List Int) (mod (nth xs (c + 3 + n)) ((6 : Nat) : Int)).toNat) ⟨by omega, by omega, by omega⟩ ⟨rfl, rfl, rfl, rfl⟩ (RLe.refl _) qS
    ·
     refine WS.eff rfl rfl rfl qD (Ef.buildSliceD (enc := encI) (parts := [.const (.int .i64 0), .const (.int .i64 0), .const (.int .i64 1), .const (.int .i64 3), .const (.int .i64 4), .const (.int .i64 8)]) [_, _, _, _, _, _] tab_ok rfl rfl rfl rfl rfl rfl rfl rfl qD qD (fun a54 => ?_))
     refine ⟨by first | exact RLe.refl _ | assumption, qS, ?_⟩
     refine WA.br3 (i := 1) (j := 10) (k := 17) qK ?_ ?_ ?_
     ·
      refine' WS.yl rfl rfl rfl qD (Yl.load1 tab_ok rfl rfl rfl (fun _ => rfl) ?r60 rfl ?h60) qS qR ?_
      case r60 => apply Rd.add; (exact Rd.blk 3 rfl)
      case h60 => rfl
      refine WA.take 4 rfl qK qK qK rfl rfl qD (Yl.index tab_ok rfl rfl rfl rfl rfl rfl (fun _ => rfl) qA qH) qS qR ?_
      refine' WA.take 5 rfl qK qK qK rfl rfl qD (Yl.load1 tab_ok rfl rfl rfl (fun _ => rfl) ?r61 rfl ?h61) qS qR ?_
      case r61 => (exact Rd.slD 0 rfl qX)
      case h61 => rfl
      refine WA.br2 (i := 10) (j := 17) qK ?_ ?_
      ·
       refine' WS.yl rfl rfl rfl qD (Yl.load1 tab_ok rfl rfl rfl (fun _ => rfl) ?r62 rfl ?h62) qS qR ?_
       case r62 => apply Rd.add; (exact Rd.blk 3 rfl)
       case h62 => rfl
       refine WA.take 11 rfl qK qK qK rfl rfl qD (Yl.sub rfl rfl rfl (fun _ => rfl) qA) qS qR ?_
       refine WA.take 12 rfl qK qK qK rfl rfl qD (Yl.index tab_ok rfl rfl rfl rfl rfl rfl (fun _ => rfl) qA qH) qS qR ?_
       refine' WA.take 13 rfl qK qK qK rfl rfl qD (Yl.load1 tab_ok rfl rfl rfl (fun _ => rfl) ?r63 rfl ?h63) qS qR ?_
       case r63 => (exact Rd.slD 0 rfl qX)
       case h63 => rfl
       refine WA.take 14 rfl qK qK qK rfl rfl qD (Yl.sub rfl rfl rfl (fun _ => rfl) qA) qS qR ?_
       refine WA.callAt 5 17 rfl qK en13 rfl rfl qD (CallOp.mkT rfl rfl rfl rfl) rfl (PickM_C (j := 0) w0 ([0, 0, 1, 3, 4, 8] : List Int) rfl qD qD ha rfl) ?_
       rintro _ _ _ _ - ⟨rfl, rfl, rfl, rfl⟩
       refine ⟨RLe.refl _, qS, ?_⟩
       refine WA.take 18 rfl qK qK qK rfl rfl qD (Yl.add rfl rfl rfl (fun _ => rfl) qA) qS qR ?_
       refine WA.take 19 rfl qK qK qK rfl rfl qD (pureV_ok tab_ok rfl (fun _ => rfl)) qS qR ?_
       refine WA.effN 20 rfl qK rfl rfl (Ef.store 3 tab_ok rfl rfl rfl rfl rfl rfl rfl rfl ?_)
       refine ⟨by first | exact RLe.refl _ | assumption, qS, ?_⟩
       refine WA.done qK ?_
       refine WE.cut (nth (fvals (upV xs (c + 3) v0) n) ((n : Int) - 1).toNat - nth (fvals (upV xs (c + 3) v0) n) ((n : Int) - (P : Int)).toNat + nth ([0, 0, 1, 3, 4, 8] : List Int) (mod (nth xs (c + 3 + n)) ((6 : Nat) : Int)).toNat) ⟨by omega, by omega, by omega⟩ ⟨rfl, rfl, rfl, rfl⟩ (RLe.refl _) qS
      ·
       refine WS.callAt 5 rfl en13 rfl rfl qD (CallOp.mkT rfl rfl rfl rfl) rfl (PickM_C (j := 0) w0 ([0, 0, 1, 3, 4, 8] : List Int) rfl qD qD ha rfl) ?_
       rintro _ _ _ _ - ⟨rfl, rfl, rfl, rfl⟩
       refine ⟨by first | exact RLe.refl _ | assumption, qS, ?_⟩
       refine' WA.yl 10 rfl qK rfl rfl qD (Yl.load1 tab_ok rfl rfl rfl (fun _ => rfl) ?r64 rfl ?h64) qS qR ?_
       case r64 => apply Rd.add; (exact Rd.blk 3 rfl)
       case h64 => rfl
       refine WA.take 11 rfl qK qK qK rfl rfl qD (Yl.sub rfl rfl rfl (fun _ => rfl) qA) qS qR ?_
       refine WA.take 12 rfl qK qK qK rfl rfl qD (Yl.index tab_ok rfl rfl rfl rfl rfl rfl (fun _ => rfl) qA qH) qS qR ?_
       refine' WA.take 13 rfl qK qK qK rfl rfl qD (Yl.load1 tab_ok rfl rfl rfl (fun _ => rfl) ?r65 rfl ?h65) qS qR ?_
       case r65 => (exact Rd.slD 0 rfl qX)
       case h65 => rfl
       refine WA.take 14 rfl qK qK qK rfl rfl qD (Yl.sub rfl rfl rfl (fun _ => rfl) qA) qS qR ?_
       refine WA.take 18 rfl qK qK qK rfl rfl qD (Yl.add rfl rfl rfl (fun _ => rfl) qA) qS qR ?_
       refine WA.take 19 rfl qK qK qK rfl rfl qD (pureV_ok tab_ok rfl (fun _ => rfl)) qS qR ?_
       refine WA.effN 20 rfl qK rfl rfl (Ef.store 3 tab_ok rfl rfl rfl rfl rfl rfl rfl rfl ?_)
       refine ⟨by first | exact RLe.refl _ | assumption, qS, ?_⟩
       refine WA.done qK ?_
       refine WE.cut (nth (fvals (upV xs (c + 3) v0) n) ((n : Int) - 1).toNat - nth (fvals (upV xs (c + 3) v0) n) ((n : Int) - (P : Int)).toNat + nth ([0, 0, 1, 3, 4, 8] : List Int) (mod (nth xs (c + 3 + n)) ((6 : Nat) : Int)).toNat) ⟨by omega, by omega, by omega⟩ ⟨rfl, rfl, rfl, rfl⟩ (RLe.refl _) qS
     ·
      refine' WS.yl rfl rfl rfl qD (Yl.load1 tab_ok rfl rfl rfl (fun _ => rfl) ?r66 rfl ?h66) qS qR ?_
      case r66 => apply Rd.add; (exact Rd.blk 3 rfl)
      case h66 => rfl
      refine WA.take 11 rfl qK qK qK rfl rfl qD (Yl.sub rfl rfl rfl (fun _ => rfl) qA) qS qR ?_
      refine WA.take 12 rfl qK qK qK rfl rfl qD (Yl.index tab_ok rfl rfl rfl rfl rfl rfl (fun _ => rfl) qA qH) qS qR ?_
      refine' WA.take 13 rfl qK qK qK rfl rfl qD (Yl.load1 tab_ok rfl rfl rfl (fun _ => rfl) ?r67 rfl ?h67) qS qR ?_
      case r67 => (exact Rd.slD 0 rfl qX)
      case h67 => rfl
      refine WA.br2 (i := 1) (j := 17) qK ?_ ?_
      ·
       refine' WS.yl rfl rfl rfl qD (Yl.load1 tab_ok rfl rfl rfl (fun _ => rfl) ?r68 rfl ?h68) qS qR ?_
       case r68 => apply Rd.add; (exact Rd.blk 3 rfl)
       case h68 => rfl
       refine WA.take 4 rfl qK qK qK rfl rfl qD (Yl.index tab_ok rfl rfl rfl rfl rfl rfl (fun _ => rfl) qA qH) qS qR ?_
       refine' WA.take 5 rfl qK qK qK rfl rfl qD (Yl.load1 tab_ok rfl rfl rfl (fun _ => rfl) ?r69 rfl ?h69) qS qR ?_
       case r69 => (exact Rd.slD 0 rfl qX)
       case h69 => rfl
       refine WA.take 14 rfl qK qK qK rfl rfl qD (Yl.sub rfl rfl rfl (fun _ => rfl) qA) qS qR ?_
       refine WA.callAt 5 17 rfl qK en13 rfl rfl qD (CallOp.mkT rfl rfl rfl rfl) rfl (PickM_C (j := 0) w0 ([0, 0, 1, 3, 4, 8] : List Int) rfl qD qD ha rfl) ?_
       rintro _ _ _ _ - ⟨rfl, rfl, rfl, rfl⟩
       refine ⟨RLe.refl _, qS, ?_⟩
       refine WA.take 18 rfl qK qK qK rfl rfl qD (Yl.add rfl rfl rfl (fun _ => rfl) qA) qS qR ?_
       refine WA.take 19 rfl qK qK qK rfl rfl qD (pureV_ok tab_ok rfl (fun _ => rfl)) qS qR ?_
       refine WA.effN 20 rfl qK rfl rfl (Ef.store 3 tab_ok rfl rfl rfl rfl rfl rfl rfl rfl ?_)
       refine ⟨by first | exact RLe.refl _ | assumption, qS, ?_⟩
       refine WA.done qK ?_
       refine WE.cut (nth (fvals (upV xs (c + 3) v0) n) ((n : Int) - 1).toNat - nth (fvals (upV xs (c + 3) v0) n) ((n : Int) - (P : Int)).toNat + nth ([0, 0, 1, 3, 4, 8] : List Int) (mod (nth xs (c + 3 + n)) ((6 : Nat) : Int)).toNat) ⟨by omega, by omega, by omega⟩ ⟨rfl, rfl, rfl, rfl⟩ (RLe.refl _) qS
      ·
       refine WS.callAt 5 rfl en13 rfl rfl qD (CallOp.mkT rfl rfl rfl rfl) rfl (PickM_C (j := 0) w0 ([0, 0, 1, 3, 4, 8] : List Int) rfl qD qD ha rfl) ?_
       rintro _ _ _ _ - ⟨rfl, rfl, rfl, rfl⟩
       refine ⟨by first | exact RLe.refl _ | assumption, qS, ?_⟩
       refine' WA.yl 1 rfl qK rfl rfl qD (Yl.load1 tab_ok rfl rfl rfl (fun _ => rfl) ?r70 rfl ?h70) qS qR ?_
       case r70 => apply Rd.add; (exact Rd.blk 3 rfl)
       case h70 => rfl
       refine WA.take 4 rfl qK qK qK rfl rfl qD (Yl.index tab_ok rfl rfl rfl rfl rfl rfl (fun _ => rfl) qA qH) qS qR ?_
       refine' WA.take 5 rfl qK qK qK rfl rfl qD (Yl.load1 tab_ok rfl rfl rfl (fun _ => rfl) ?r71 rfl ?h71) qS qR ?_
       case r71 => (exact Rd.slD 0 rfl qX)
       case h71 => rfl
       refine WA.take 14 rfl qK qK qK rfl rfl qD (Yl.sub rfl rfl rfl (fun _ => rfl) qA) qS qR ?_
       refine WA.take 18 rfl qK qK qK rfl rfl qD (Yl.add rfl rfl rfl (fun _ => rfl) qA) qS qR ?_
       refine WA.take 19 rfl qK qK qK rfl rfl qD (pureV_ok tab_ok rfl (fun _ => rfl)) qS qR ?_
       refine WA.effN 20 rfl qK rfl rfl (Ef.store 3 tab_ok rfl rfl rfl rfl rfl rfl rfl rfl ?_)
       refine ⟨by first | exact RLe.refl _ | assumption, qS, ?_⟩
       refine WA.done qK ?_
       refine WE.cut (nth (fvals (upV xs (c + 3) v0) n) ((n : Int) - 1).toNat - nth (fvals (upV xs (c + 3) v0) n) ((n : Int) - (P : Int)).toNat + nth ([0, 0, 1, 3, 4, 8] : List Int) (mod (nth xs (c + 3 + n)) ((6 : Nat) : Int)).toNat) ⟨by omega, by omega, by omega⟩ ⟨rfl, rfl, rfl, rfl⟩ (RLe.refl _) qS
     ·
      refine WS.callAt 5 rfl en13 rfl rfl qD (CallOp.mkT rfl rfl rfl rfl) rfl (PickM_C (j := 0) w0 ([0, 0, 1, 3, 4, 8] : List Int) rfl qD qD ha rfl) ?_
      rintro _ _ _ _ - ⟨rfl, rfl, rfl, rfl⟩
      refine ⟨by first | exact RLe.refl _ | assumption, qS, ?_⟩
      refine WA.br2 (i := 1) (j := 10) qK ?_ ?_
      ·
       refine' WS.yl rfl rfl rfl qD (Yl.load1 tab_ok rfl rfl rfl (fun _ => rfl) ?r72 rfl ?h72) qS qR ?_
       case r72 => apply Rd.add; (exact Rd.blk 3 rfl)
       case h72 => rfl
       refine WA.take 4 rfl qK qK qK rfl rfl qD (Yl.index tab_ok rfl rfl rfl rfl rfl rfl (fun _ => rfl) qA qH) qS qR ?_
       refine' WA.take 5 rfl qK qK qK rfl rfl qD (Yl.load1 tab_ok rfl rfl rfl (fun _ => rfl) ?r73 rfl ?h73) qS qR ?_
       case r73 => (exact Rd.slD 0 rfl qX)
       case h73 => rfl
       refine' WA.yl 10 rfl qK rfl rfl qD (Yl.load1 tab_ok rfl rfl rfl (fun _ => rfl) ?r74 rfl ?h74) qS qR ?_
       case r74 => apply Rd.add; (exact Rd.blk 3 rfl)
       case h74 => rfl
       refine WA.take 11 rfl qK qK qK rfl rfl qD (Yl.sub rfl rfl rfl (fun _ => rfl) qA) qS qR ?_
       refine WA.take 12 rfl qK qK qK rfl rfl qD (Yl.index tab_ok rfl rfl rfl rfl rfl rfl (fun _ => rfl) qA qH) qS qR ?_
       refine' WA.take 13 rfl qK qK qK rfl rfl qD (Yl.load1 tab_ok rfl rfl rfl (fun _ => rfl) ?r75 rfl ?h75) qS qR ?_
       case r75 => (exact Rd.slD 0 rfl qX)
       case h75 => rfl
       refine WA.take 14 rfl qK qK qK rfl rfl qD (Yl.sub rfl rfl rfl (fun _ => rfl) qA) qS qR ?_
       refine WA.take 18 rfl qK qK qK rfl rfl qD (Yl.add rfl rfl rfl (fun _ => rfl) qA) qS qR ?_
       refine WA.take 19 rfl qK qK qK rfl rfl qD (pureV_ok tab_ok rfl (fun _ => rfl)) qS qR ?_
       refine WA.effN 20 rfl qK rfl rfl (Ef.store 3 tab_ok rfl rfl rfl rfl rfl rfl rfl rfl ?_)
       refine ⟨by first | exact RLe.refl _ | assumption, qS, ?_⟩
       refine WA.done qK ?_
       refine WE.cut (nth (fvals (upV xs (c + 3) v0) n) ((n : Int) - 1).toNat - nth (fvals (upV xs (c + 3) v0) n) ((n : Int) - (P : Int)).toNat + nth ([0, 0, 1, 3, 4, 8] : List Int) (mod (nth xs (c + 3 + n)) ((6 : Nat) : Int)).toNat) ⟨by omega, by omega, by omega⟩ ⟨rfl, rfl, rfl, rfl⟩ (RLe.refl _) qS
      ·
       refine' WS.yl rfl rfl rfl qD (Yl.load1 tab_ok rfl rfl rfl (fun _ => rfl) ?r76 rfl ?h76) qS qR ?_
       case r76 => apply Rd.add; (exact Rd.blk 3 rfl)
       case h76 => rfl
       refine WA.take 11 rfl qK qK qK rfl rfl qD (Yl.sub rfl rfl rfl (fun _ => rfl) qA) qS qR ?_
       refine WA.take 12 rfl qK qK qK rfl rfl qD (Yl.index tab_ok rfl rfl rfl rfl rfl rfl (fun _ => rfl) qA qH) qS qR ?_
       refine' WA.take 13 rfl qK qK qK rfl rfl qD (Yl.load1 tab_ok rfl rfl rfl (fun _ => rfl) ?r77 rfl ?h77) qS qR ?_
       case r77 => (exact Rd.slD 0 rfl qX)
       case h77 => rfl
       refine' WA.yl 1 rfl qK rfl rfl qD (Yl.load1 tab_ok rfl rfl rfl (fun _ => rfl) ?r78 rfl ?h78) qS qR ?_
       case r78 => apply Rd.add; (exact Rd.blk 3 rfl)
       case h78 => rfl
       refine WA.take 4 rfl qK qK qK rfl rfl qD (Yl.index tab_ok rfl rfl rfl rfl rfl rfl (fun _ => rfl) qA qH) qS qR ?_
       refine' WA.take 5 rfl qK qK qK rfl rfl qD (Yl.load1 tab_ok rfl rfl rfl (fun _ => rfl) ?r79 rfl ?h79) qS qR ?_
       case r79 => (exact Rd.slD 0 rfl qX)
       case h79 => rfl
       refine WA.take 14 rfl qK qK qK rfl rfl qD (Yl.sub rfl rfl rfl (fun _ => rfl) qA) qS qR ?_
       refine WA.take 18 rfl qK qK qK rfl rfl qD (Yl.add rfl rfl rfl (fun _ => rfl) qA) qS qR ?_
       refine WA.take 19 rfl qK qK qK rfl rfl qD (pureV_ok tab_ok rfl (fun _ => rfl)) qS qR ?_
       refine WA.effN 20 rfl qK rfl rfl (Ef.store 3 tab_ok rfl rfl rfl rfl rfl rfl rfl rfl ?_)
       refine ⟨by first | exact RLe.refl _ | assumption, qS, ?_⟩
       refine WA.done qK ?_
       refine WE.cut (nth (fvals (upV xs (c + 3) v0) n) ((n : Int) - 1).toNat - nth (fvals (upV xs (c + 3) v0) n) ((n : Int) - (P : Int)).toNat + nth ([0, 0, 1, 3, 4, 8] : List Int) (mod (nth xs (c + 3 + n)) ((6 : Nat) : Int)).toNat) ⟨by omega, by omega, by omega⟩ ⟨rfl, rfl, rfl, rfl⟩ (RLe.refl _) qS
   ·
    refine' WS.yl rfl rfl rfl qD (Yl.load1 tab_ok rfl rfl rfl (fun _ => rfl) ?r80 rfl ?h80) qS qR ?_
    case r80 => apply Rd.add; (exact Rd.blk 2 rfl)
    case h80 => rfl
    refine WA.take 11 rfl qK qK qK rfl rfl qD (Yl.sub rfl rfl rfl (fun _ => rfl) qA) qS qR ?_
    refine WA.br3 (i := 1) (j := 7) (k := 16) qK ?_ ?_ ?_
    ·
     refine' WS.yl rfl rfl rfl qD (Yl.load1 tab_ok rfl rfl rfl (fun _ => rfl) ?r81 rfl ?h81) qS qR ?_
     case r81 => apply Rd.add; (exact Rd.blk 2 rfl)
     case h81 => rfl
     refine WA.take 4 rfl qK qK qK rfl rfl qD (Yl.index tab_ok rfl rfl rfl rfl rfl rfl (fun _ => rfl) qA qH) qS qR ?_
     refine' WA.take 5 rfl qK qK qK rfl rfl qD (Yl.load1 tab_ok rfl rfl rfl (fun _ => rfl) ?r82 rfl ?h82) qS qR ?_
     case r82 => (exact Rd.slD 0 rfl qX)
     case h82 => rfl
     refine WA.br2 (i := 7) (j := 16) qK ?_ ?_
     ·
      refine' WS.yl rfl rfl rfl qD (Yl.load1 tab_ok rfl rfl rfl (fun _ => rfl) ?r83 rfl ?h83) qS qR ?_
      case r83 => apply Rd.add; (exact Rd.blk 2 rfl)
      case h83 => rfl
      refine WA.take 12 rfl qK qK qK rfl rfl qD (Yl.index tab_ok rfl rfl rfl rfl rfl rfl (fun _ => rfl) qA qH) qS qR ?_
      refine' WA.take 13 rfl qK qK qK rfl rfl qD (Yl.load1 tab_ok rfl rfl rfl (fun _ => rfl) ?r84 rfl ?h84) qS qR ?_
      case r84 => (exact Rd.slD 0 rfl qX)
      case h84 => rfl
      refine WA.take 14 rfl qK qK qK rfl rfl qD (Yl.sub rfl rfl rfl (fun _ => rfl) qA) qS qR ?_
      refine WA.eff 16 rfl qK rfl rfl qD (Ef.buildSliceD (enc := encI) (parts := [.const (.int .i64 0), .const (.int .i64 0), .const (.int .i64 1), .const (.int .i64 3), .const (.int .i64 4), .const (.int .i64 8)]) [_, _, _, _, _, _] tab_ok rfl rfl rfl rfl rfl rfl rfl rfl qD qD (fun a54 => ?_))
      refine ⟨by first | exact RLe.refl _ | assumption, qS, ?_⟩
      refine WA.callAt 5 17 rfl qK en13 rfl rfl qD (CallOp.mkT rfl rfl rfl rfl) rfl (PickM_C (j := 0) w0 ([0, 0, 1, 3, 4, 8] : List Int) rfl qD qD ha rfl) ?_
      rintro _ _ _ _ - ⟨rfl, rfl, rfl, rfl⟩
      refine ⟨RLe.refl _, qS, ?_⟩
      refine WA.take 18 rfl qK qK qK rfl rfl qD (Yl.add rfl rfl rfl (fun _ => rfl) qA) qS qR ?_
      refine WA.take 19 rfl qK qK qK rfl rfl qD (pureV_ok tab_ok rfl (fun _ => rfl)) qS qR ?_
      refine WA.effN 20 rfl qK rfl rfl (Ef.store 3 tab_ok rfl rfl rfl rfl rfl rfl rfl rfl ?_)
      refine ⟨by first | exact RLe.refl _ | assumption, qS, ?_⟩
      refine WA.done qK ?_
      refine WE.cut (nth (fvals (upV xs (c + 3) v0) n) ((n : Int) - 1).toNat - nth (fvals (upV xs (c + 3) v0) n) ((n : Int) - (P : Int)).toNat + nth ([0, 0, 1, 3, 4, 8] : List Int) (mod (nth xs (c + 3 + n)) ((6 : Nat) : Int)).toNat) ⟨by omega, by omega, by omega⟩ ⟨rfl, rfl, rfl, rfl⟩ (RLe.refl _) qS
     ·
      refine WS.eff rfl rfl rfl qD (Ef.buildSliceD (enc := encI) (parts := [.const (.int .i64 0), .const (.int .i64 0), .const (.int .i64 1), .const (.int .i64 3), .const (.int .i64 4), .const (.int .i64 8)]) [_, _, _, _, _, _] tab_ok rfl rfl rfl rfl rfl rfl rfl rfl qD qD (fun a54 => ?_))
      refine ⟨by first | exact RLe.refl _ | assumption, qS, ?_⟩
      refine WA.br2 (i := 7) (j := 17) qK ?_ ?_
      ·
       refine' WS.yl rfl rfl rfl qD (Yl.load1 tab_ok rfl rfl rfl (fun _ => rfl) ?r85 rfl ?h85) qS qR ?_
       case r85 => apply Rd.add; (exact Rd.blk 3 rfl)
       case h85 => rfl
       refine WA.take 12 rfl qK qK qK rfl rfl qD (Yl.index tab_ok rfl rfl rfl rfl rfl rfl (fun _ => rfl) qA qH) qS qR ?_
       refine' WA.take 13 rfl qK qK qK rfl rfl qD (Yl.load1 tab_ok rfl rfl rfl (fun _ => rfl) ?r86 rfl ?h86) qS qR ?_
       case r86 => (exact Rd.slD 0 rfl qX)
       case h86 => rfl
       refine WA.take 14 rfl qK qK qK rfl rfl qD (Yl.sub rfl rfl rfl (fun _ => rfl) qA) qS qR ?_
       refine WA.callAt 5 17 rfl qK en13 rfl rfl qD (CallOp.mkT rfl rfl rfl rfl) rfl (PickM_C (j := 0) w0 ([0, 0, 1, 3, 4, 8] : List Int) rfl qD qD ha rfl) ?_
       rintro _ _ _ _ - ⟨rfl, rfl, rfl, rfl⟩
       refine ⟨RLe.refl _, qS, ?_⟩
       refine WA.take 18 rfl qK qK qK rfl rfl qD (Yl.add rfl rfl rfl (fun _ => rfl) qA) qS qR ?_
       refine WA.take 19 rfl qK qK qK rfl rfl qD (pureV_ok tab_ok rfl (fun _ => rfl)) qS qR ?_
       refine WA.effN 20 rfl qK rfl rfl (Ef.store 3 tab_ok rfl rfl rfl rfl rfl rfl rfl rfl ?_)
       refine ⟨by first | exact RLe.refl _ | assumption, qS, ?_⟩
       refine WA.done qK ?_
       refine WE.cut (nth (fvals (upV xs (c + 3) v0) n) ((n : Int) - 1).toNat - nth (fvals (upV xs (c + 3) v0) n) ((n : Int) - (P : Int)).toNat + nth ([0, 0, 1, 3, 4, 8] : List Int) (mod (nth xs (c + 3 + n)) ((6 : Nat) : Int)).toNat) ⟨by omega, by omega, by omega⟩ ⟨rfl, rfl, rfl, rfl⟩ (RLe.refl _) qS
      ·
       refine WS.callAt 5 rfl en13 rfl rfl qD (CallOp.mkT rfl rfl rfl rfl) rfl (PickM_C (j := 0) w0 ([0, 0, 1, 3, 4, 8] : List Int) rfl qD qD ha rfl) ?_
       rintro _ _ _ _ - ⟨rfl, rfl, rfl, rfl⟩
       refine ⟨by first | exact RLe.refl _ | assumption, qS, ?_⟩
       refine' WA.yl 7 rfl qK rfl rfl qD (Yl.load1 tab_ok rfl rfl rfl (fun _ => rfl) ?r87 rfl ?h87) qS qR ?_
       case r87 => apply Rd.add; (exact Rd.blk 3 rfl)
       case h87 => rfl
       refine WA.take 12 rfl qK qK qK rfl rfl qD (Yl.index tab_ok rfl rfl rfl rfl rfl rfl (fun _ => rfl) qA qH) qS qR ?_
       refine' WA.take 13 rfl qK qK qK rfl rfl qD (Yl.load1 tab_ok rfl rfl rfl (fun _ => rfl) ?r88 rfl ?h88) qS qR ?_
       case r88 => (exact Rd.slD 0 rfl qX)
       case h88 => rfl
       refine WA.take 14 rfl qK qK qK rfl rfl qD (Yl.sub rfl rfl rfl (fun _ => rfl) qA) qS qR ?_
       refine WA.take 18 rfl qK qK qK rfl rfl qD (Yl.add rfl rfl rfl (fun _ => rfl) qA) qS qR ?_
       refine WA.take 19 rfl qK qK qK rfl rfl qD (pureV_ok tab_ok rfl (fun _ => rfl)) qS qR ?_
       refine WA.effN 20 rfl qK rfl rfl (Ef.store 3 tab_ok rfl rfl rfl rfl rfl rfl rfl rfl ?_)
       refine ⟨by first | exact RLe.refl _ | assumption, qS, ?_⟩
       refine WA.done qK ?_
       refine WE.cut (nth (fvals (upV xs (c + 3) v0) n) ((n : Int) - 1).toNat - nth (fvals (upV xs (c + 3) v0) n) ((n : Int) - (P : Int)).toNat + nth ([0, 0, 1, 3, 4, 8] : List Int) (mod (nth xs (c + 3 + n)) ((6 : Nat) : Int)).toNat) ⟨by omega, by omega, by omega⟩ ⟨rfl, rfl, rfl, rfl⟩ (RLe.refl _) qS
    ·
     refine' WS.yl rfl rfl rfl qD (Yl.load1 tab_ok rfl rfl rfl (fun _ => rfl) ?r89 rfl ?h89) qS qR ?_
     case r89 => apply Rd.add; (exact Rd.blk 2 rfl)
     case h89 => rfl
     refine WA.take 12 rfl qK qK qK rfl rfl qD (Yl.index tab_ok rfl rfl rfl rfl rfl rfl (fun _ => rfl) qA qH) qS qR ?_
     refine' WA.take 13 rfl qK qK qK rfl rfl qD (Yl.load1 tab_ok rfl rfl rfl (fun _ => rfl) ?r90 rfl ?h90) qS qR ?_
     case r90 => (exact Rd.slD 0 rfl qX)
     case h90 => rfl
     refine WA.br2 (i := 1) (j := 16) qK ?_ ?_
     ·
      refine' WS.yl rfl rfl rfl qD (Yl.load1 tab_ok rfl rfl rfl (fun _ => rfl) ?r91 rfl ?h91) qS qR ?_
      case r91 => apply Rd.add; (exact Rd.blk 2 rfl)
      case h91 => rfl
      refine WA.take 4 rfl qK qK qK rfl rfl qD (Yl.index tab_ok rfl rfl rfl rfl rfl rfl (fun _ => rfl) qA qH) qS qR ?_
      refine' WA.take 5 rfl qK qK qK rfl rfl qD (Yl.load1 tab_ok rfl rfl rfl (fun _ => rfl) ?r92 rfl ?h92) qS qR ?_
      case r92 => (exact Rd.slD 0 rfl qX)
      case h92 => rfl
      refine WA.take 14 rfl qK qK qK rfl rfl qD (Yl.sub rfl rfl rfl (fun _ => rfl) qA) qS qR ?_
      refine WA.eff 16 rfl qK rfl rfl qD (Ef.buildSliceD (enc := encI) (parts := [.const (.int .i64 0), .const (.int .i64 0), .const (.int .i64 1), .const (.int .i64 3), .const (.int .i64 4), .const (.int .i64 8)]) [_, _, _, _, _, _] tab_ok rfl rfl rfl rfl rfl rfl rfl rfl qD qD (fun a54 => ?_))
      refine ⟨by first | exact RLe.refl _ | assumption, qS, ?_⟩
      refine WA.callAt 5 17 rfl qK en13 rfl rfl qD (CallOp.mkT rfl rfl rfl rfl) rfl (PickM_C (j := 0) w0 ([0, 0, 1, 3, 4, 8] : List Int) rfl qD qD ha rfl) ?_
      rintro _ _ _ _ - ⟨rfl, rfl, rfl, rfl⟩
      refine ⟨RLe.refl _, qS, ?_⟩
      refine WA.take 18 rfl qK qK qK rfl rfl qD (Yl.add rfl rfl rfl (fun _ => rfl) qA) qS qR ?_
      refine WA.take 19 rfl qK qK qK rfl rfl qD (pureV_ok tab_ok rfl (fun _ => rfl)) qS qR ?_
      refine WA.effN 20 rfl qK rfl rfl (Ef.store 3 tab_ok rfl rfl rfl rfl rfl rfl rfl rfl ?_)
      refine ⟨by first | exact RLe.refl _ | assumption, qS, ?_⟩
      refine WA.done qK ?_
      refine WE.cut (nth (fvals (upV xs (c + 3) v0) n) ((n : Int) - 1).toNat - nth (fvals (upV xs (c + 3) v0) n) ((n : Int) - (P : Int)).toNat + nth ([0, 0, 1, 3, 4, 8] : List Int) (mod (nth xs (c + 3 + n)) ((6 : Nat) : Int)).toNat) ⟨by omega, by omega, by omega⟩ ⟨rfl, rfl, rfl, rfl⟩ (RLe.refl _) qS
     ·
      refine WS.eff rfl rfl rfl qD (Ef.buildSliceD (enc := encI) (parts := [.const (.int .i64 0), .const (.int .i64 0), .const (.int .i64 1), .const (.int .i64 3), .const (.int .i64 4), .const (.int .i64 8)]) [_, _, _, _, _, _] tab_ok rfl rfl rfl rfl rfl rfl rfl rfl qD qD (fun a54 => ?_))
      refine ⟨by first | exact RLe.refl _ | assumption, qS, ?_⟩
      refine WA.br2 (i := 1) (j := 17) qK ?_ ?_
      ·
       refine' WS.yl rfl rfl rfl qD (Yl.load1 tab_ok rfl rfl rfl (fun _ => rfl) ?r93 rfl ?h93) qS qR ?_
       case r93 => apply Rd.add; (exact Rd.blk 3 rfl)
       case h93 => rfl
       refine WA.take 4 rfl qK qK qK rfl rfl qD (Yl.index tab_ok rfl rfl rfl rfl rfl rfl (fun _ => rfl) qA qH) qS qR ?_
       refine' WA.take 5 rfl qK qK qK rfl rfl qD (Yl.load1 tab_ok rfl rfl rfl (fun _ => rfl) ?r94 rfl ?h94) qS qR ?_
       case r94 => (exact Rd.slD 0 rfl qX)
       case h94 => rfl
       refine WA.take 14 rfl qK qK qK rfl rfl qD (Yl.sub rfl rfl rfl (fun _ => rfl) qA) qS qR ?_
       refine WA.callAt 5 17 rfl qK en13 rfl rfl qD (CallOp.mkT rfl rfl rfl rfl) rfl (PickM_C (j := 0) w0 ([0, 0, 1, 3, 4, 8] : List Int) rfl qD qD ha rfl) ?_
       rintro _ _ _ _ - ⟨rfl, rfl, rfl, rfl⟩
       refine ⟨RLe.refl _, qS, ?_⟩
       refine WA.take 18 rfl qK qK qK rfl rfl qD (Yl.add rfl rfl rfl (fun _ => rfl) qA) qS qR ?_
       refine WA.take 19 rfl qK qK qK rfl rfl qD (pureV_ok tab_ok rfl (fun _ => rfl)) qS qR ?_
       refine WA.effN 20 rfl qK rfl rfl (Ef.store 3 tab_ok rfl rfl rfl rfl rfl rfl rfl rfl ?_)
       refine ⟨by first | exact RLe.refl _ | assumption, qS, ?_⟩
       refine WA.done qK ?_
       refine WE.cut (nth (fvals (upV xs (c + 3) v0) n) ((n : Int) - 1).toNat - nth (fvals (upV xs (c + 3) v0) n) ((n : Int) - (P : Int)).toNat + nth ([0, 0, 1, 3, 4, 8] : List Int) (mod (nth xs (c + 3 + n)) ((6 : Nat) : Int)).toNat) ⟨by omega, by omega, by omega⟩ ⟨rfl, rfl, rfl, rfl⟩ (RLe.refl _) qS
      ·
       refine WS.callAt 5 rfl en13 rfl rfl qD (CallOp.mkT rfl rfl rfl rfl) rfl (PickM_C (j := 0) w0 ([0, 0, 1, 3, 4, 8] : List Int) rfl qD qD ha rfl) ?_
       rintro _ _ _ _ - ⟨rfl, rfl, rfl, rfl⟩
       refine ⟨by first | exact RLe.refl _ | assumption, qS, ?_⟩
       refine' WA.yl 1 rfl qK rfl rfl qD (Yl.load1 tab_ok rfl rfl rfl (fun _ => rfl) ?r95 rfl ?h95) qS qR ?_
       case r95 => apply Rd.add; (exact Rd.blk 3 rfl)
       case h95 => rfl
       refine WA.take 4 rfl qK qK qK rfl rfl qD (Yl.index tab_ok rfl rfl rfl rfl rfl rfl (fun _ => rfl) qA qH) qS qR ?_
       refine' WA.take 5 rfl qK qK qK rfl rfl qD (Yl.load1 tab_ok rfl rfl rfl (fun _ => rfl) ?r96 rfl ?h96) qS qR ?_
       case r96 => (exact Rd.slD 0 rfl qX)
       case h96 => rfl
       refine WA.take 14 rfl qK qK qK rfl rfl qD (Yl.sub rfl rfl rfl (fun _ => rfl) qA) qS qR ?_
       refine WA.take 18 rfl qK qK qK rfl rfl qD (Yl.add rfl rfl rfl (fun _ => rfl) qA) qS qR ?_
       refine WA.take 19 rfl qK qK qK rfl rfl qD (pureV_ok tab_ok rfl (fun _ => rfl)) qS qR ?_
       refine WA.effN 20 rfl qK rfl rfl (Ef.store 3 tab_ok rfl rfl rfl rfl rfl rfl rfl rfl ?_)
       refine ⟨by first | exact RLe.refl _ | assumption, qS, ?_⟩
       refine WA.done qK ?_
       refine WE.cut (nth (fvals (upV xs (c + 3) v0) n) ((n : Int) - 1).toNat - nth (fvals (upV xs (c + 3) v0) n) ((n : Int) - (P : Int)).toNat + nth ([0, 0, 1, 3, 4, 8] : List Int) (mod (nth xs (c + 3 + n)) ((6 : Nat) : Int)).toNat) ⟨by omega, by omega, by omega⟩ ⟨rfl, rfl, rfl, rfl⟩ (RLe.refl _) qS
    ·
     refine WS.eff rfl rfl rfl qD (Ef.buildSliceD (enc := encI) (parts := [.const (.int .i64 0), .const (.int .i64 0), .const (.int .i64 1), .const (.int .i64 3), .const (.int .i64 4), .const (.int .i64 8)]) [_, _, _, _, _, _] tab_ok rfl rfl rfl rfl rfl rfl rfl rfl qD qD (fun a54 => ?_))
     refine ⟨by first | exact RLe.refl _ | assumption, qS, ?_⟩
     refine WA.br3 (i := 1) (j := 7) (k := 17) qK ?_ ?_ ?_
     ·
      refine' WS.yl rfl rfl rfl qD (Yl.load1 tab_ok rfl rfl rfl (fun _ => rfl) ?r97 rfl ?h97) qS qR ?_
      case r97 => apply Rd.add; (exact Rd.blk 3 rfl)
      case h97 => rfl
      refine WA.take 4 rfl qK qK qK rfl rfl qD (Yl.index tab_ok rfl rfl rfl rfl rfl rfl (fun _ => rfl) qA qH) qS qR ?_
      refine' WA.take 5 rfl qK qK qK rfl rfl qD (Yl.load1 tab_ok rfl rfl rfl (fun _ => rfl) ?r98 rfl ?h98) qS qR ?_
      case r98 => (exact Rd.slD 0 rfl qX)
      case h98 => rfl
      refine WA.br2 (i := 7) (j := 17) qK ?_ ?_
      ·
       refine' WS.yl rfl rfl rfl qD (Yl.load1 tab_ok rfl rfl rfl (fun _ => rfl) ?r99 rfl ?h99) qS qR ?_
       case r99 => apply Rd.add; (exact Rd.blk 3 rfl)
       case h99 => rfl
       refine WA.take 12 rfl qK qK qK rfl rfl qD (Yl.index tab_ok rfl rfl rfl rfl rfl rfl (fun _ => rfl) qA qH) qS qR ?_
       refine' WA.take 13 rfl qK qK qK rfl rfl qD (Yl.load1 tab_ok rfl rfl rfl (fun _ => rfl) ?r100 rfl ?h100) qS qR ?_
       case r100 => (exact Rd.slD 0 rfl qX)
       case h100 => rfl
       refine WA.take 14 rfl qK qK qK rfl rfl qD (Yl.sub rfl rfl rfl (fun _ => rfl) qA) qS qR ?_
       refine WA.callAt 5 17 rfl qK en13 rfl rfl qD (CallOp.mkT rfl rfl rfl rfl) rfl (PickM_C (j := 0) w0 ([0, 0, 1, 3, 4, 8] : List Int) rfl qD qD ha rfl) ?_
       rintro _ _ _ _ - ⟨rfl, rfl, rfl, rfl⟩
       refine ⟨RLe.refl _, qS, ?_⟩
       refine WA.take 18 rfl qK qK qK rfl rfl qD (Yl.add rfl rfl rfl (fun _ => rfl) qA) qS qR ?_
       refine WA.take 19 rfl qK qK qK rfl rfl qD (pureV_ok tab_ok rfl (fun _ => rfl)) qS qR ?_
       refine WA.effN 20 rfl qK rfl rfl (Ef.store 3 tab_ok rfl rfl rfl rfl rfl rfl rfl rfl ?_)
       refine ⟨by first | exact RLe.refl _ | assumption, qS, ?_⟩
       refine WA.done qK ?_
       refine WE.cut (nth (fvals (upV xs (c + 3) v0) n) ((n : Int) - 1).toNat - nth (fvals (upV xs (c + 3) v0) n) ((n : Int) - (P : Int)).toNat + nth ([0, 0, 1, 3, 4, 8] : List Int) (mod (nth xs (c + 3 + n)) ((6 : Nat) : Int)).toNat) ⟨by omega, by omega, by omega⟩ ⟨rfl, rfl, rfl, rfl⟩ (RLe.refl _) qS
      ·
       refine WS.callAt 5 rfl en13 rfl rfl qD (CallOp.mkT rfl rfl rfl rfl) rfl (PickM_C (j := 0) w0 ([0, 0, 1, 3, 4, 8] : List Int) rfl qD qD ha rfl) ?_
       rintro _ _ _ _ - ⟨rfl, rfl, rfl, rfl⟩
       refine ⟨by first | exact RLe.refl _ | assumption, qS, ?_⟩
       refine' WA.yl 7 rfl qK rfl rfl qD (Yl.load1 tab_ok rfl rfl rfl (fun _ => rfl) ?r101 rfl ?h101) qS qR ?_
       case r101 => apply Rd.add; (exact Rd.blk 3 rfl)
       case h101 => rfl
       refine WA.take 12 rfl qK qK qK rfl rfl qD (Yl.index tab_ok rfl rfl rfl rfl rfl rfl (fun _ => rfl) qA qH) qS qR ?_
       refine' WA.take 13 rfl qK qK qK rfl rfl qD (Yl.load1 tab_ok rfl rfl rfl (fun _ => rfl) ?r102 rfl ?h102) qS qR ?_
       case r102 => (exact Rd.slD 0 rfl qX)
       case h102 => rfl
       refine WA.take 14 rfl qK qK qK rfl rfl qD (Yl.sub rfl rfl rfl (fun _ => rfl) qA) qS qR ?_
       refine WA.take 18 rfl qK qK qK rfl rfl qD (Yl.add rfl rfl rfl (fun _ => rfl) qA) qS qR ?_
       refine WA.take 19 rfl qK qK qK rfl rfl qD (pureV_ok tab_ok rfl (fun _ => rfl)) qS qR ?_
       refine WA.effN 20 rfl qK rfl rfl (Ef.store 3 tab_ok rfl rfl rfl rfl rfl rfl rfl rfl ?_)
       refine ⟨by first | exact RLe.refl _ | assumption, qS, ?_⟩
       refine WA.done qK ?_
       refine WE.cut (nth (fvals (upV xs (c + 3) v0) n) ((n : Int) - 1).toNat - nth (fvals (upV xs (c + 3) v0) n) ((n : Int) - (P : Int)).toNat + nth ([0, 0, 1, 3, 4, 8] : List Int) (mod (nth xs (c + 3 + n)) ((6 : Nat) : Int)).toNat) ⟨by omega, by omega, by omega⟩ ⟨rfl, rfl, rfl, rfl⟩ (RLe.refl _) qS
     ·
      refine' WS.yl rfl rfl rfl qD (Yl.load1 tab_ok rfl rfl rfl (fun _ => rfl) ?r103 rfl ?h103) qS qR ?_
      case r103 => apply Rd.add; (exact Rd.blk 3 rfl)
      case h103 => rfl
      refine WA.take 12 rfl qK qK qK rfl rfl qD (Yl.index tab_ok rfl rfl rfl rfl rfl rfl (fun _ => rfl) qA qH) qS qR ?_
      refine' WA.take 13 rfl qK qK qK rfl rfl qD (Yl.load1 tab_ok rfl rfl rfl (fun _ => rfl) ?r104 rfl ?h104) qS qR ?_
      case r104 => (exact Rd.slD 0 rfl qX)
      case h104 => rfl
      refine WA.br2 (i := 1) (j := 17) qK ?_ ?_
      ·
       refine' WS.yl rfl rfl rfl qD (Yl.load1 tab_ok rfl rfl rfl (fun _ => rfl) ?r105 rfl ?h105) qS qR ?_
       case r105 => apply Rd.add; (exact Rd.blk 3 rfl)
       case h105 => rfl
       refine WA.take 4 rfl qK qK qK rfl rfl qD (Yl.index tab_ok rfl rfl rfl rfl rfl rfl (fun _ => rfl) qA qH) qS qR ?_
       refine' WA.take 5 rfl qK qK qK rfl rfl qD (Yl.load1 tab_ok rfl rfl rfl (fun _ => rfl) ?r106 rfl ?h106) qS qR ?_
       case r106 => (exact Rd.slD 0 rfl qX)
       case h106 => rfl
       refine WA.take 14 rfl qK qK qK rfl rfl qD (Yl.sub rfl rfl rfl (fun _ => rfl) qA) qS qR ?_
       refine WA.callAt 5 17 rfl qK en13 rfl rfl qD (CallOp.mkT rfl rfl rfl rfl) rfl (PickM_C (j := 0) w0 ([0, 0, 1, 3, 4, 8] : List Int) rfl qD qD ha rfl) ?_
       rintro _ _ _ _ - ⟨rfl, rfl, rfl, rfl⟩
       refine ⟨RLe.refl _, qS, ?_⟩
       refine WA.take 18 rfl qK qK qK rfl rfl qD (Yl.add rfl rfl rfl (fun _ => rfl) qA) qS qR ?_
       refine WA.take 19 rfl qK qK qK rfl rfl qD (pureV_ok tab_ok rfl (fun _ => rfl)) qS qR ?_
       refine WA.effN 20 rfl qK rfl rfl (Ef.store 3 tab_ok rfl rfl rfl rfl rfl rfl rfl rfl ?_)
       refine ⟨by first | exact RLe.refl _ | assumption, qS, ?_⟩
       refine WA.done qK ?_
       refine WE.cut (nth (fvals (upV xs (c + 3) v0) n) ((n : Int) - 1).toNat - nth (fvals (upV xs (c + 3) v0) n) ((n : Int) - (P : Int)).toNat + nth ([0, 0, 1, 3, 4, 8] : List Int) (mod (nth xs (c + 3 + n)) ((6 : Nat) : Int)).toNat) ⟨by omega, by omega, by omega⟩ ⟨rfl, rfl, rfl, rfl⟩ (RLe.refl _) qS
      ·
       refine WS.callAt 5 rfl en13 rfl rfl qD (CallOp.mkT rfl rfl rfl rfl) rfl (PickM_C (j := 0) w0 ([0, 0, 1, 3, 4, 8] : List Int) rfl qD qD ha rfl) ?_
       rintro _ _ _ _ - ⟨rfl, rfl, rfl, rfl⟩
       refine ⟨by first | exact RLe.refl _ | assumption, qS, ?_⟩
       refine' WA.yl 1 rfl qK rfl rfl qD (Yl.load1 tab_ok rfl rfl rfl (fun _ => rfl) ?r107 rfl ?h107) qS qR ?_
       case r107 => apply Rd.add; (exact Rd.blk 3 rfl)
       case h107 => rfl
       refine WA.take 4 rfl qK qK qK rfl rfl qD (Yl.index tab_ok rfl rfl rfl rfl rfl rfl (fun _ => rfl) qA qH) qS qR ?_
       refine' WA.take 5 rfl qK qK qK rfl rfl qD (Yl.load1 tab_ok rfl rfl rfl (fun _ => rfl) ?r108 rfl ?h108) qS qR ?_
       case r108 => (exact Rd.slD 0 rfl qX)
       case h108 => rfl
       refine WA.take 14 rfl qK qK qK rfl rfl qD (Yl.sub rfl rfl rfl (fun _ => rfl) qA) qS qR ?_
       refine WA.take 18 rfl qK qK qK rfl rfl qD (Yl.add rfl rfl rfl (fun _ => rfl) qA) qS qR ?_
       refine WA.take 19 rfl qK qK qK rfl rfl qD (pureV_ok tab_ok rfl (fun _ => rfl)) qS qR ?_
       refine WA.effN 20 rfl qK rfl rfl (Ef.store 3 tab_ok rfl rfl rfl rfl rfl rfl rfl rfl ?_)
       refine ⟨by first | exact RLe.refl _ | assumption, qS, ?_⟩
       refine WA.done qK ?_
       refine WE.cut (nth (fvals (upV xs (c + 3) v0) n) ((n : Int) - 1).toNat - nth (fvals (upV xs (c + 3) v0) n) ((n : Int) - (P : Int)).toNat + nth ([0, 0, 1, 3, 4, 8] : List Int) (mod (nth xs (c + 3 + n)) ((6 : Nat) : Int)).toNat) ⟨by omega, by omega, by omega⟩ ⟨rfl, rfl, rfl, rfl⟩ (RLe.refl _) qS
     ·
      refine WS.callAt 5 rfl en13 rfl rfl qD (CallOp.mkT rfl rfl rfl rfl) rfl (PickM_C (j := 0) w0 ([0, 0, 1, 3, 4, 8] : List Int) rfl qD qD ha rfl) ?_
      rintro _ _ _ _ - ⟨rfl, rfl, rfl, rfl⟩
      refine ⟨by first | exact RLe.refl _ | assumption, qS, ?_⟩
      refine WA.br2 (i := 1) (j := 7) qK ?_ ?_
      ·
       refine' WS.yl rfl rfl rfl qD (Yl.load1 tab_ok rfl rfl rfl (fun _ => rfl) ?r109 rfl ?h109) qS qR ?_
       case r109 => apply Rd.add; (exact Rd.blk 3 rfl)
       case h109 => rfl
       refine WA.take 4 rfl qK qK qK rfl rfl qD (Yl.index tab_ok rfl rfl rfl rfl rfl rfl (fun _ => rfl) qA qH) qS qR ?_
       refine' WA.take 5 rfl qK qK qK rfl rfl qD (Yl.load1 tab_ok rfl rfl rfl (fun _ => rfl) ?r110 rfl ?h110) qS qR ?_
       case r110 => (exact Rd.slD 0 rfl qX)
       case h110 => rfl
       refine' WA.yl 7 rfl qK rfl rfl qD (Yl.load1 tab_ok rfl rfl rfl (fun _ => rfl) ?r111 rfl ?h111) qS qR ?_
       case r111 => apply Rd.add; (exact Rd.blk 3 rfl)
       case h111 => rfl
       refine WA.take 12 rfl qK qK qK rfl rfl qD (Yl.index tab_ok rfl rfl rfl rfl rfl rfl (fun _ => rfl) qA qH) qS qR ?_
       refine' WA.take 13 rfl qK qK qK rfl rfl qD (Yl.load1 tab_ok rfl rfl rfl (fun _ => rfl) ?r112 rfl ?h112) qS qR ?_
       case r112 => (exact Rd.slD 0 rfl qX)
       case h112 => rfl
       refine WA.take 14 rfl qK qK qK rfl rfl qD (Yl.sub rfl rfl rfl (fun _ => rfl) qA) qS qR ?_
       refine WA.take 18 rfl qK qK qK rfl rfl qD (Yl.add rfl rfl rfl (fun _ => rfl) qA) qS qR ?_
       refine WA.take 19 rfl qK qK qK rfl rfl qD (pureV_ok tab_ok rfl (fun _ => rfl)) qS qR ?_
       refine WA.effN 20 rfl qK rfl rfl (Ef.store 3 tab_ok rfl rfl rfl rfl rfl rfl rfl rfl ?_)
       refine ⟨by first | exact RLe.refl _ | assumption, qS, ?_⟩
       refine WA.done qK ?_
       refine WE.cut (nth (fvals (upV xs (c + 3) v0) n) ((n : Int) - 1).toNat - nth (fvals (upV xs (c + 3) v0) n) ((n : Int) - (P : Int)).toNat + nth ([0, 0, 1, 3, 4, 8] : List Int) (mod (nth xs (c + 3 + n)) ((6 : Nat) : Int)).toNat) ⟨by omega, by omega, by omega⟩ ⟨rfl, rfl, rfl, rfl⟩ (RLe.refl _) qS
      ·
       refine' WS.yl rfl rfl rfl qD (Yl.load1 tab_ok rfl rfl rfl (fun _ => rfl) ?r113 rfl ?h113) qS qR ?_
       case r113 => apply Rd.add; (exact Rd.blk 3 rfl)
       case h113 => rfl
       refine WA.take 12 rfl qK qK qK rfl rfl qD (Yl.index tab_ok rfl rfl rfl rfl rfl rfl (fun _ => rfl) qA qH) qS qR ?_
       refine' WA.take 13 rfl qK qK qK rfl rfl qD (Yl.load1 tab_ok rfl rfl rfl (fun _ => rfl) ?r114 rfl ?h114) qS qR ?_
       case r114 => (exact Rd.slD 0 rfl qX)
       case h114 => rfl
       refine' WA.yl 1 rfl qK rfl rfl qD (Yl.load1 tab_ok rfl rfl rfl (fun _ => rfl) ?r115 rfl ?h115) qS qR ?_
       case r115 => apply Rd.add; (exact Rd.blk 3 rfl)
       case h115 => rfl
       refine WA.take 4 rfl qK qK qK rfl rfl qD (Yl.index tab_ok rfl rfl rfl rfl rfl rfl (fun _ => rfl) qA qH) qS qR ?_
       refine' WA.take 5 rfl qK qK qK rfl rfl qD (Yl.load1 tab_ok rfl rfl rfl (fun _ => rfl) ?r116 rfl ?h116) qS qR ?_
       case r116 => (exact Rd.slD 0 rfl qX)
       case h116 => rfl
       refine WA.take 14 rfl qK qK qK rfl rfl qD (Yl.sub rfl rfl rfl (fun _ => rfl) qA) qS qR ?_
       refine WA.take 18 rfl qK qK qK rfl rfl qD (Yl.add rfl rfl rfl (fun _ => rfl) qA) qS qR ?_
       refine WA.take 19 rfl qK qK qK rfl rfl qD (pureV_ok tab_ok rfl (fun _ => rfl)) qS qR ?_
       refine WA.effN 20 rfl qK rfl rfl (Ef.store 3 tab_ok rfl rfl rfl rfl rfl rfl rfl rfl ?_)
       refine ⟨by first | exact RLe.refl _ | assumption, qS, ?_⟩
       refine WA.done qK ?_
       refine WE.cut (nth (fvals (upV xs (c + 3) v0) n) ((n : Int) - 1).toNat - nth (fvals (upV xs (c + 3) v0) n) ((n : Int) - (P : Int)).toNat + nth ([0, 0, 1, 3, 4, 8] : List Int) (mod (nth xs (c + 3 + n)) ((6 : Nat) : Int)).toNat) ⟨by omega, by omega, by omega⟩ ⟨rfl, rfl, rfl, rfl⟩ (RLe.refl _) qS
   ·
    refine WS.eff rfl rfl rfl qD (Ef.buildSliceD (enc := encI) (parts := [.const (.int .i64 0), .const (.int .i64 0), .const (.int .i64 1), .const (.int .i64 3), .const (.int .i64 4), .const (.int .i64 8)]) [_, _, _, _, _, _] tab_ok rfl rfl rfl rfl rfl rfl rfl rfl qD qD (fun a54 => ?_))
    refine ⟨by first | exact RLe.refl _ | assumption, qS, ?_⟩
    refine WA.br4 (i := 1) (j := 7) (k := 10) (l := 17) qK ?_ ?_ ?_ ?_
    ·
     refine' WS.yl rfl rfl rfl qD (Yl.load1 tab_ok rfl rfl rfl (fun _ => rfl) ?r117 rfl ?h117) qS qR ?_
     case r117 => apply Rd.add; (exact Rd.blk 3 rfl)
     case h117 => rfl
     refine WA.take 4 rfl qK qK qK rfl rfl qD (Yl.index tab_ok rfl rfl rfl rfl rfl rfl (fun _ => rfl) qA qH) qS qR ?_
     refine' WA.take 5 rfl qK qK qK rfl rfl qD (Yl.load1 tab_ok rfl rfl rfl (fun _ => rfl) ?r118 rfl ?h118) qS qR ?_
     case r118 => (exact Rd.slD 0 rfl qX)
     case h118 => rfl
     refine WA.br3 (i := 7) (j := 10) (k := 17) qK ?_ ?_ ?_
     ·
      refine' WS.yl rfl rfl rfl qD (Yl.load1 tab_ok rfl rfl rfl (fun _ => rfl) ?r119 rfl ?h119) qS qR ?_
      case r119 => apply Rd.add; (exact Rd.blk 3 rfl)
      case h119 => rfl
      refine WA.br2 (i := 10) (j := 17) qK ?_ ?_
      ·
       refine' WS.yl rfl rfl rfl qD (Yl.load1 tab_ok rfl rfl rfl (fun _ => rfl) ?r120 rfl ?h120) qS qR ?_
       case r120 => apply Rd.add; (exact Rd.blk 3 rfl)
       case h120 => rfl
       refine WA.take 11 rfl qK qK qK rfl rfl qD (Yl.sub rfl rfl rfl (fun _ => rfl) qA) qS qR ?_
       refine WA.take 12 rfl qK qK qK rfl rfl qD (Yl.index tab_ok rfl rfl rfl rfl rfl rfl (fun _ => rfl) qA qH) qS qR ?_
       refine' WA.take 13 rfl qK qK qK rfl rfl qD (Yl.load1 tab_ok rfl rfl rfl (fun _ => rfl) ?r121 rfl ?h121) qS qR ?_
       case r121 => (exact Rd.slD 0 rfl qX)
       case h121 => rfl
       refine WA.take 14 rfl qK qK qK rfl rfl qD (Yl.sub rfl rfl rfl (fun _ => rfl) qA) qS qR ?_
       refine WA.callAt 5 17 rfl qK en13 rfl rfl qD (CallOp.mkT rfl rfl rfl rfl) rfl (PickM_C (j := 0) w0 ([0, 0, 1, 3, 4, 8] : List Int) rfl qD qD ha rfl) ?_
       rintro _ _ _ _ - ⟨rfl, rfl, rfl, rfl⟩
       refine ⟨RLe.refl _, qS, ?_⟩
       refine WA.take 18 rfl qK qK qK rfl rfl qD (Yl.add rfl rfl rfl (fun _ => rfl) qA) qS qR ?_
       refine WA.take 19 rfl qK qK qK rfl rfl qD (pureV_ok tab_ok rfl (fun _ => rfl)) qS qR ?_
       refine WA.effN 20 rfl qK rfl rfl (Ef.store 3 tab_ok rfl rfl rfl rfl rfl rfl rfl rfl ?_)
       refine ⟨by first | exact RLe.refl _ | assumption, qS, ?_⟩
       refine WA.done qK ?_
       refine WE.cut (nth (fvals (upV xs (c + 3) v0) n) ((n : Int) - 1).toNat - nth (fvals (upV xs (c + 3) v0) n) ((n : Int) - (P : Int)).toNat + nth ([0, 0, 1, 3, 4, 8] : List Int) (mod (nth xs (c + 3 + n)) ((6 : Nat) : Int)).toNat) ⟨by omega, by omega, by omega⟩ ⟨rfl, rfl, rfl, rfl⟩ (RLe.refl _) qS
      ·
       refine WS.callAt 5 rfl en13 rfl rfl qD (CallOp.mkT rfl rfl rfl rfl) rfl (PickM_C (j := 0) w0 ([0, 0, 1, 3, 4, 8] : List Int) rfl qD qD ha rfl) ?_
       rintro _ _ _ _ - ⟨rfl, rfl, rfl, rfl⟩
       refine ⟨by first | exact RLe.refl _ | assumption, qS, ?_⟩
       refine' WA.yl 10 rfl qK rfl rfl qD (Yl.load1 tab_ok rfl rfl rfl (fun _ => rfl) ?r122 rfl ?h122) qS qR ?_
       case r122 => apply Rd.add; (exact Rd.blk 3 rfl)
       case h122 => rfl
       refine WA.take 11 rfl qK qK qK rfl rfl qD (Yl.sub rfl rfl rfl (fun _ => rfl) qA) qS qR ?_
       refine WA.take 12 rfl qK qK qK rfl rfl qD (Yl.index tab_ok rfl rfl rfl rfl rfl rfl (fun _ => rfl) qA qH) qS qR ?_
       refine' WA.take 13 rfl qK qK qK rfl rfl qD (Yl.load1 tab_ok rfl rfl rfl (fun _ => rfl) ?r123 rfl ?h123) qS qR ?_
       case r123 => (exact Rd.slD 0 rfl qX)
       case h123 => rfl
       refine WA.take 14 rfl qK qK qK rfl rfl qD (Yl.sub rfl rfl rfl (fun _ => rfl) qA) qS qR ?_
       refine WA.take 18 rfl qK qK qK rfl rfl qD (Yl.add rfl rfl rfl (fun _ => rfl) qA) qS qR ?_
       refine WA.take 19 rfl qK qK qK rfl rfl qD (pureV_ok tab_ok rfl (fun _ => rfl)) qS qR ?_
       refine WA.effN 20 rfl qK rfl rfl (Ef.store 3 tab_ok rfl rfl rfl rfl rfl rfl rfl rfl ?_)
       refine ⟨by first | exact RLe.refl _ | assumption, qS, ?_⟩
       refine WA.done qK ?_
       refine WE.cut (nth (fvals (upV xs (c + 3) v0) n) ((n : Int) - 1).toNat - nth (fvals (upV xs (c + 3) v0) n) ((n : Int) - (P : Int)).toNat + nth ([0, 0, 1, 3, 4, 8] : List Int) (mod (nth xs (c + 3 + n)) ((6 : Nat) : Int)).toNat) ⟨by omega, by omega, by omega⟩ ⟨rfl, rfl, rfl, rfl⟩ (RLe.refl _) qS
     ·
      refine' WS.yl rfl rfl rfl qD (Yl.load1 tab_ok rfl rfl rfl (fun _ => rfl) ?r124 rfl ?h124) qS qR ?_
      case r124 => apply Rd.add; (exact Rd.blk 3 rfl)
      case h124 => rfl
      refine WA.take 11 rfl qK qK qK rfl rfl qD (Yl.sub rfl rfl rfl (fun _ => rfl) qA) qS qR ?_
      refine WA.br2 (i := 7) (j := 17) qK ?_ ?_
      ·
       refine' WS.yl rfl rfl rfl qD (Yl.load1 tab_ok rfl rfl rfl (fun _ => rfl) ?r125 rfl ?h125) qS qR ?_
       case r125 => apply Rd.add; (exact Rd.blk 3 rfl)
       case h125 => rfl
       refine WA.take 12 rfl qK qK qK rfl rfl qD (Yl.index tab_ok rfl rfl rfl rfl rfl rfl (fun _ => rfl) qA qH) qS qR ?_
       refine' WA.take 13 rfl qK qK qK rfl rfl qD (Yl.load1 tab_ok rfl rfl rfl (fun _ => rfl) ?r126 rfl ?h126) qS qR ?_
       case r126 => (exact Rd.slD 0 rfl qX)
       case h126 => rfl
       refine WA.take 14 rfl qK qK qK rfl rfl qD (Yl.sub rfl rfl rfl (fun _ => rfl) qA) qS qR ?_
       refine WA.callAt 5 17 rfl qK en13 rfl rfl qD (CallOp.mkT rfl rfl rfl rfl) rfl (PickM_C (j := 0) w0 ([0, 0, 1, 3, 4, 8] : List Int) rfl qD qD ha rfl) ?_
       rintro _ _ _ _ - ⟨rfl, rfl, rfl, rfl⟩
       refine ⟨RLe.refl _, qS, ?_⟩
       refine WA.take 18 rfl qK qK qK rfl rfl qD (Yl.add rfl rfl rfl (fun _ => rfl) qA) qS qR ?_
       refine WA.take 19 rfl qK qK qK rfl rfl qD (pureV_ok tab_ok rfl (fun _ => rfl)) qS qR ?_
       refine WA.effN 20 rfl qK rfl rfl (Ef.store 3 tab_ok rfl rfl rfl rfl rfl rfl rfl rfl ?_)
       refine ⟨by first | exact RLe.refl _ | assumption, qS, ?_⟩
       refine WA.done qK ?_
       refine WE.cut (nth (fvals (upV xs (c + 3) v0) n) ((n : Int) - 1).toNat - nth (fvals (upV xs (c + 3) v0) n) ((n : Int) - (P : Int)).toNat + nth ([0, 0, 1, 3, 4, 8] : List Int) (mod (nth xs (c + 3 + n)) ((6 : Nat) : Int)).toNat) ⟨by omega, by omega, by omega⟩ ⟨rfl, rfl, rfl, rfl⟩ (RLe.refl _) qS
      ·
       refine WS.callAt 5 rfl en13 rfl rfl qD (CallOp.mkT rfl rfl rfl rfl) rfl (PickM_C (j := 0) w0 ([0, 0, 1, 3, 4, 8] : List Int) rfl qD qD ha rfl) ?_
       rintro _ _ _ _ - ⟨rfl, rfl, rfl, rfl⟩
       refine ⟨by first | exact RLe.refl _ | assumption, qS, ?_⟩
       refine' WA.yl 7 rfl qK rfl rfl qD (Yl.load1 tab_ok rfl rfl rfl (fun _ => rfl) ?r127 rfl ?h127) qS qR ?_
       case r127 => apply Rd.add; (exact Rd.blk 3 rfl)
       case h127 => rfl
       refine WA.take 12 rfl qK qK qK rfl rfl qD (Yl.index tab_ok rfl rfl rfl rfl rfl rfl (fun _ => rfl) qA qH) qS qR ?_
       refine' WA.take 13 rfl qK qK qK rfl rfl qD (Yl.load1 tab_ok rfl rfl rfl (fun _ => rfl) ?r128 rfl ?h128) qS qR ?_
       case r128 => (exact Rd.slD 0 rfl qX)
       case h128 => rfl
       refine WA.take 14 rfl qK qK qK rfl rfl qD (Yl.sub rfl rfl rfl (fun _ => rfl) qA) qS qR ?_
       refine WA.take 18 rfl qK qK qK rfl rfl qD (Yl.add rfl rfl rfl (fun _ => rfl) qA) qS qR ?_
       refine WA.take 19 rfl qK qK qK rfl rfl qD (pureV_ok tab_ok rfl (fun _ => rfl)) qS qR ?_
       refine WA.effN 20 rfl qK rfl rfl (Ef.store 3 tab_ok rfl rfl rfl rfl rfl rfl rfl rfl ?_)
       refine ⟨by first | exact RLe.refl _ | assumption, qS, ?_⟩
       refine WA.done qK ?_
       refine WE.cut (nth (fvals (upV xs (c + 3) v0) n) ((n : Int) - 1).toNat - nth (fvals (upV xs (c + 3) v0) n) ((n : Int) - (P : Int)).toNat + nth ([0, 0, 1, 3, 4, 8] : List Int) (mod (nth xs (c + 3 + n)) ((6 : Nat) : Int)).toNat) ⟨by omega, by omega, by omega⟩ ⟨rfl, rfl, rfl, rfl⟩ (RLe.refl _) qS
     ·
      refine WS.callAt 5 rfl en13 rfl rfl qD (CallOp.mkT rfl rfl rfl rfl) rfl (PickM_C (j := 0) w0 ([0, 0, 1, 3, 4, 8] : List Int) rfl qD qD ha rfl) ?_
      rintro _ _ _ _ - ⟨rfl, rfl, rfl, rfl⟩
      refine ⟨by first | exact RLe.refl _ | assumption, qS, ?_⟩
      refine WA.br2 (i := 7) (j := 10) qK ?_ ?_
      ·
       refine' WS.yl rfl rfl rfl qD (Yl.load1 tab_ok rfl rfl rfl (fun _ => rfl) ?r129 rfl ?h129) qS qR ?_
       case r129 => apply Rd.add; (exact Rd.blk 3 rfl)
       case h129 => rfl
       refine' WA.yl 10 rfl qK rfl rfl qD (Yl.load1 tab_ok rfl rfl rfl (fun _ => rfl) ?r130 rfl ?h130) qS qR ?_
       case r130 => apply Rd.add; (exact Rd.blk 3 rfl)
       case h130 => rfl
       refine WA.take 11 rfl qK qK qK rfl rfl qD (Yl.sub rfl rfl rfl (fun _ => rfl) qA) qS qR ?_
       refine WA.take 12 rfl qK qK qK rfl rfl qD (Yl.index tab_ok rfl rfl rfl rfl rfl rfl (fun _ => rfl) qA qH) qS qR ?_
       refine' WA.take 13 rfl qK qK qK rfl rfl qD (Yl.load1 tab_ok rfl rfl rfl (fun _ => rfl) ?r131 rfl ?h131) qS qR ?_
       case r131 => (exact Rd.slD 0 rfl qX)
       case h131 => rfl
       refine WA.take 14 rfl qK qK qK rfl rfl qD (Yl.sub rfl rfl rfl (fun _ => rfl) qA) qS qR ?_
       refine WA.take 18 rfl qK qK qK rfl rfl qD (Yl.add rfl rfl rfl (fun _ => rfl) qA) qS qR ?_
       refine WA.take 19 rfl qK qK qK rfl rfl qD (pureV_ok tab_ok rfl (fun _ => rfl)) qS qR ?_
       refine WA.effN 20 rfl qK rfl rfl (Ef.store 3 tab_ok rfl rfl rfl rfl rfl rfl rfl rfl ?_)
       refine ⟨by first | exact RLe.refl _ | assumption, qS, ?_⟩
       refine WA.done qK ?_
       refine WE.cut (nth (fvals (upV xs (c + 3) v0) n) ((n : Int) - 1).toNat - nth (fvals (upV xs (c + 3) v0) n) ((n : Int) - (P : Int)).toNat + nth ([0, 0, 1, 3, 4, 8] : List Int) (mod (nth xs (c + 3 + n)) ((6 : Nat) : Int)).toNat) ⟨by omega, by omega, by omega⟩ ⟨rfl, rfl, rfl, rfl⟩ (RLe.refl _) qS
      ·
       refine' WS.yl rfl rfl rfl qD (Yl.load1 tab_ok rfl rfl rfl (fun _ => rfl) ?r132 rfl ?h132) qS qR ?_
       case r132 => apply Rd.add; (exact Rd.blk 3 rfl)
       case h132 => rfl
       refine WA.take 11 rfl qK qK qK rfl rfl qD (Yl.sub rfl rfl rfl (fun _ => rfl) qA) qS qR ?_
       refine' WA.yl 7 rfl qK rfl rfl qD (Yl.load1 tab_ok rfl rfl rfl (fun _ => rfl) ?r133 rfl ?h133) qS qR ?_
       case r133 => apply Rd.add; (exact Rd.blk 3 rfl)
       case h133 => rfl
       refine WA.take 12 rfl qK qK qK rfl rfl qD (Yl.index tab_ok rfl rfl rfl rfl rfl rfl (fun _ => rfl) qA qH) qS qR ?_
       refine' WA.take 13 rfl qK qK qK rfl rfl qD (Yl.load1 tab_ok rfl rfl rfl (fun _ => rfl) ?r134 rfl ?h134) qS qR ?_
       case r134 => (exact Rd.slD 0 rfl qX)
       case h134 => rfl
       refine WA.take 14 rfl qK qK qK rfl rfl qD (Yl.sub rfl rfl rfl (fun _ => rfl) qA) qS qR ?_
       refine WA.take 18 rfl qK qK qK rfl rfl qD (Yl.add rfl rfl rfl (fun _ => rfl) qA) qS qR ?_
       refine WA.take 19 rfl qK qK qK rfl rfl qD (pureV_ok tab_ok rfl (fun _ => rfl)) qS qR ?_
       refine WA.effN 20 rfl qK rfl rfl (Ef.store 3 tab_ok rfl rfl rfl rfl rfl rfl rfl rfl ?_)
       refine ⟨by first | exact RLe.refl _ | assumption, qS, ?_⟩
       refine WA.done qK ?_
       refine WE.cut (nth (fvals (upV xs (c + 3) v0) n) ((n : Int) - 1).toNat - nth (fvals (upV xs (c + 3) v0) n) ((n : Int) - (P : Int)).toNat + nth ([0, 0, 1, 3, 4, 8] : List Int) (mod (nth xs (c + 3 + n)) ((6 : Nat) : Int)).toNat) ⟨by omega, by omega, by omega⟩ ⟨rfl, rfl, rfl, rfl⟩ (RLe.refl _) qS
    ·
     refine' WS.yl rfl rfl rfl qD (Yl.load1 tab_ok rfl rfl rfl (fun _ => rfl) ?r135 rfl ?h135) qS qR ?_
     case r135 => apply Rd.add; (exact Rd.blk 3 rfl)
     case h135 => rfl
     refine WA.br3 (i := 1) (j := 10) (k := 17) qK ?_ ?_ ?_
     ·
      refine' WS.yl rfl rfl rfl qD (Yl.load1 tab_ok rfl rfl rfl (fun _ => rfl) ?r136 rfl ?h136) qS qR ?_
      case r136 => apply Rd.add; (exact Rd.blk 3 rfl)
      case h136 => rfl
      refine WA.take 4 rfl qK qK qK rfl rfl qD (Yl.index tab_ok rfl rfl rfl rfl rfl rfl (fun _ => rfl) qA qH) qS qR ?_
      refine' WA.take 5 rfl qK qK qK rfl rfl qD (Yl.load1 tab_ok rfl rfl rfl (fun _ => rfl) ?r137 rfl ?h137) qS qR ?_
      case r137 => (exact Rd.slD 0 rfl qX)
      case h137 => rfl
      refine WA.br2 (i := 10) (j := 17) qK ?_ ?_
      ·
       refine' WS.yl rfl rfl rfl qD (Yl.load1 tab_ok rfl rfl rfl (fun _ => rfl) ?r138 rfl ?h138) qS qR ?_
       case r138 => apply Rd.add; (exact Rd.blk 3 rfl)
       case h138 => rfl
       refine WA.take 11 rfl qK qK qK rfl rfl qD (Yl.sub rfl rfl rfl (fun _ => rfl) qA) qS qR ?_
       refine WA.take 12 rfl qK qK qK rfl rfl qD (Yl.index tab_ok rfl rfl rfl rfl rfl rfl (fun _ => rfl) qA qH) qS qR ?_
       refine' WA.take 13 rfl qK qK qK rfl rfl qD (Yl.load1 tab_ok rfl rfl rfl (fun _ => rfl) ?r139 rfl ?h139) qS qR ?_
       case r139 => (exact Rd.slD 0 rfl qX)
       case h139 => rfl
       refine WA.take 14 rfl qK qK qK rfl rfl qD (Yl.sub rfl rfl rfl (fun _ => rfl) qA) qS qR ?_
       refine WA.callAt 5 17 rfl qK en13 rfl rfl qD (CallOp.mkT rfl rfl rfl rfl) rfl (PickM_C (j := 0) w0 ([0, 0, 1, 3, 4, 8] : List Int) rfl qD qD ha rfl) ?_
       rintro _ _ _ _ - ⟨rfl, rfl, rfl, rfl⟩
       refine ⟨RLe.refl _, qS, ?_⟩
       refine WA.take 18 rfl qK qK qK rfl rfl qD (Yl.add rfl rfl rfl (fun _ => rfl) qA) qS qR ?_
       refine WA.take 19 rfl qK qK qK rfl rfl qD (pureV_ok tab_ok rfl (fun _ => rfl)) qS qR ?_
       refine WA.effN 20 rfl qK rfl rfl (Ef.store 3 tab_ok rfl rfl rfl rfl rfl rfl rfl rfl ?_)
       refine ⟨by first | exact RLe.refl _ | assumption, qS, ?_⟩
       refine WA.done qK ?_
       refine WE.cut (nth (fvals (upV xs (c + 3) v0) n) ((n : Int) - 1).toNat - nth (fvals (upV xs (c + 3) v0) n) ((n : Int) - (P : Int)).toNat + nth ([0, 0, 1, 3, 4, 8] : List Int) (mod (nth xs (c + 3 + n)) ((6 : Nat) : Int)).toNat) ⟨by omega, by omega, by omega⟩ ⟨rfl, rfl, rfl, rfl⟩ (RLe.refl _) qS
      ·
       refine WS.callAt 5 rfl en13 rfl rfl qD (CallOp.mkT rfl rfl rfl rfl) rfl (PickM_C (j := 0) w0 ([0, 0, 1, 3, 4, 8] : List Int) rfl qD qD ha rfl) ?_
       rintro _ _ _ _ - ⟨rfl, rfl, rfl, rfl⟩
       refine ⟨by first | exact RLe.refl _ | assumption, qS, ?_⟩
       refine' WA.yl 10 rfl qK rfl rfl qD (Yl.load1 tab_ok rfl rfl rfl (fun _ => rfl) ?r140 rfl ?h140) qS qR ?_
       case r140 => apply Rd.add; (exact Rd.blk 3 rfl)
       case h140 => rfl
       refine WA.take 11 rfl qK qK qK rfl rfl qD (Yl.sub rfl rfl rfl (fun _ => rfl) qA) qS qR ?_
       refine WA.take 12 rfl qK qK qK rfl rfl qD (Yl.index tab_ok rfl rfl rfl rfl rfl rfl (fun _ => rfl) qA qH) qS qR ?_
       refine' WA.take 13 rfl qK qK qK rfl rfl qD (Yl.load1 tab_ok rfl rfl rfl (fun _ => rfl) ?r141 rfl ?h141) qS qR ?_
       case r141 => (exact Rd.slD 0 rfl qX)
       case h141 => rfl
       refine WA.take 14 rfl qK qK qK rfl rfl qD (Yl.sub rfl rfl rfl (fun _ => rfl) qA) qS qR ?_
       refine WA.take 18 rfl qK qK qK rfl rfl qD (Yl.add rfl rfl rfl (fun _ => rfl) qA) qS qR ?_
       refine WA.take 19 rfl qK qK qK rfl rfl qD (pureV_ok tab_ok rfl (fun _ => rfl)) qS qR ?_
       refine WA.effN 20 rfl qK rfl rfl (Ef.store 3 tab_ok rfl rfl rfl rfl rfl rfl rfl rfl ?_)
       refine ⟨by first | exact RLe.refl _ | assumption, qS, ?_⟩
       refine WA.done qK ?_
       refine WE.cut (nth (fvals (upV xs (c + 3) v0) n) ((n : Int) - 1).toNat - nth (fvals (upV xs (c + 3) v0) n) ((n : Int) - (P : Int)).toNat + nth ([0, 0, 1, 3, 4, 8] : List Int) (mod (nth xs (c + 3 + n)) ((6 : Nat) : Int)).toNat) ⟨by omega, by omega, by omega⟩ ⟨rfl, rfl, rfl, rfl⟩ (RLe.refl _) qS
     ·
      refine' WS.yl rfl rfl rfl qD (Yl.load1 tab_ok rfl rfl rfl (fun _ => rfl) ?r142 rfl ?h142) qS qR ?_
      case r142 => apply Rd.add; (exact Rd.blk 3 rfl)
      case h142 => rfl
      refine WA.take 11 rfl qK qK qK rfl rfl qD (Yl.sub rfl rfl rfl (fun _ => rfl) qA) qS qR ?_
      refine WA.take 12 rfl qK qK qK rfl rfl qD (Yl.index tab_ok rfl rfl rfl rfl rfl rfl (fun _ => rfl) qA qH) qS qR ?_
      refine' WA.take 13 rfl qK qK qK rfl rfl qD (Yl.load1 tab_ok rfl rfl rfl (fun _ => rfl) ?r143 rfl ?h143) qS qR ?_
      case r143 => (exact Rd.slD 0 rfl qX)
      case h143 => rfl
      refine WA.br2 (i := 1) (j := 17) qK ?_ ?_
      ·
       refine' WS.yl rfl rfl rfl qD (Yl.load1 tab_ok rfl rfl rfl (fun _ => rfl) ?r144 rfl ?h144) qS qR ?_
       case r144 => apply Rd.add; (exact Rd.blk 3 rfl)
       case h144 => rfl
       refine WA.take 4 rfl qK qK qK rfl rfl qD (Yl.index tab_ok rfl rfl rfl rfl rfl rfl (fun _ => rfl) qA qH) qS qR ?_
       refine' WA.take 5 rfl qK qK qK rfl rfl qD (Yl.load1 tab_ok rfl rfl rfl (fun _ => rfl) ?r145 rfl ?h145) qS qR ?_
       case r145 => (exact Rd.slD 0 rfl qX)
       case h145 => rfl
       refine WA.take 14 rfl qK qK qK rfl rfl qD (Yl.sub rfl rfl rfl (fun _ => rfl) qA) qS qR ?_
       refine WA.callAt 5 17 rfl qK en13 rfl rfl qD (CallOp.mkT rfl rfl rfl rfl) rfl (PickM_C (j := 0) w0 ([0, 0, 1, 3, 4, 8] : List Int) rfl qD qD ha rfl) ?_
       rintro _ _ _ _ - ⟨rfl, rfl, rfl, rfl⟩
       refine ⟨RLe.refl _, qS, ?_⟩
       refine WA.take 18 rfl qK qK qK rfl rfl qD (Yl.add rfl rfl rfl (fun _ => rfl) qA) qS qR ?_
       refine WA.take 19 rfl qK qK qK rfl rfl qD (pureV_ok tab_ok rfl (fun _ => rfl)) qS qR ?_
       refine WA.effN 20 rfl qK rfl rfl (Ef.store 3 tab_ok rfl rfl rfl rfl rfl rfl rfl rfl ?_)
       refine ⟨by first | exact RLe.refl _ | assumption, qS, ?_⟩
       refine WA.done qK ?_
       refine WE.cut (nth (fvals (upV xs (c + 3) v0) n) ((n : Int) - 1).toNat - nth (fvals (upV xs (c + 3) v0) n) ((n : Int) - (P : Int)).toNat + nth ([0, 0, 1, 3, 4, 8] : List Int) (mod (nth xs (c + 3 + n)) ((6 : Nat) : Int)).toNat) ⟨by omega, by omega, by omega⟩ ⟨rfl, rfl, rfl, rfl⟩ (RLe.refl _) qS
      ·
       refine WS.callAt 5 rfl en13 rfl rfl qD (CallOp.mkT rfl rfl rfl rfl) rfl (PickM_C (j := 0) w0 ([0, 0, 1, 3, 4, 8] : List Int) rfl qD qD ha rfl) ?_
       rintro _ _ _ _ - ⟨rfl, rfl, rfl, rfl⟩
       refine ⟨by first | exact RLe.refl _ | assumption, qS, ?_⟩
       refine' WA.yl 1 rfl qK rfl rfl qD (Yl.load1 tab_ok rfl rfl rfl (fun _ => rfl) ?r146 rfl ?h146) qS qR ?_
       case r146 => apply Rd.add; (exact Rd.blk 3 rfl)
       case h146 => rfl
       refine WA.take 4 rfl qK qK qK rfl rfl qD (Yl.index tab_ok rfl rfl rfl rfl rfl rfl (fun _ => rfl) qA qH) qS qR ?_
       refine' WA.take 5 rfl qK qK qK rfl rfl qD (Yl.load1 tab_ok rfl rfl rfl (fun _ => rfl) ?r147 rfl ?h147) qS qR ?_
       case r147 => (exact Rd.slD 0 rfl qX)
       case h147 => rfl
       refine WA.take 14 rfl qK qK qK rfl rfl qD (Yl.sub rfl rfl rfl (fun _ => rfl) qA) qS qR ?_
       refine WA.take 18 rfl qK qK qK rfl rfl qD (Yl.add rfl rfl rfl (fun _ => rfl) qA) qS qR ?_
       refine WA.take 19 rfl qK qK qK rfl rfl qD (pureV_ok tab_ok rfl (fun _ => rfl)) qS qR ?_
       refine WA.effN 20 rfl qK rfl rfl (Ef.store 3 tab_ok rfl rfl rfl rfl rfl rfl rfl rfl ?_)
       refine ⟨by first | exact RLe.refl _ | assumption, qS, ?_⟩
       refine WA.done qK ?_
       refine WE.cut (nth (fvals (upV xs (c + 3) v0) n) ((n : Int) - 1).toNat - nth (fvals (upV xs (c + 3) v0) n) ((n : Int) - (P : Int)).toNat + nth ([0, 0, 1, 3, 4, 8] : List Int) (mod (nth xs (c + 3 + n)) ((6 : Nat) : Int)).toNat) ⟨by omega, by omega, by omega⟩ ⟨rfl, rfl, rfl, rfl⟩ (RLe.refl _) qS
     ·
      refine WS.callAt 5 rfl en13 rfl rfl qD (CallOp.mkT rfl rfl rfl rfl) rfl (PickM_C (j := 0) w0 ([0, 0, 1, 3, 4, 8] : List Int) rfl qD qD ha rfl) ?_
      rintro _ _ _ _ - ⟨rfl, rfl, rfl, rfl⟩
      refine ⟨by first | exact RLe.refl _ | assumption, qS, ?_⟩
      refine WA.br2 (i := 1) (j := 10) qK ?_ ?_
      ·
       refine' WS.yl rfl rfl rfl qD (Yl.load1 tab_ok rfl rfl rfl (fun _ => rfl) ?r148 rfl ?h148) qS qR ?_
       case r148 => apply Rd.add; (exact Rd.blk 3 rfl)
       case h148 => rfl
       refine WA.take 4 rfl qK qK qK rfl rfl qD (Yl.index tab_ok rfl rfl rfl rfl rfl rfl (fun _ => rfl) qA qH) qS qR ?_
       refine' WA.take 5 rfl qK qK qK rfl rfl qD (Yl.load1 tab_ok rfl rfl rfl (fun _ => rfl) ?r149 rfl ?h149) qS qR ?_
       case r149 => (exact Rd.slD 0 rfl qX)
       case h149 => rfl
       refine' WA.yl 10 rfl qK rfl rfl qD (Yl.load1 tab_ok rfl rfl rfl (fun _ => rfl) ?r150 rfl ?h150) qS qR ?_
       case r150 => apply Rd.add; (exact Rd.blk 3 rfl)
       case h150 => rfl
       refine WA.take 11 rfl qK qK qK rfl rfl qD (Yl.sub rfl rfl rfl (fun _ => rfl) qA) qS qR ?_
       refine WA.take 12 rfl qK qK qK rfl rfl qD (Yl.index tab_ok rfl rfl rfl rfl rfl rfl (fun _ => rfl) qA qH) qS qR ?_
       refine' WA.take 13 rfl qK qK qK rfl rfl qD (Yl.load1 tab_ok rfl rfl rfl (fun _ => rfl) ?r151 rfl ?h151) qS qR ?_
       case r151 => (exact Rd.slD 0 rfl qX)
       case h151 => rfl
       refine WA.take 14 rfl qK qK qK rfl rfl qD (Yl.sub rfl rfl rfl (fun _ => rfl) qA) qS qR ?_
       refine WA.take 18 rfl qK qK qK rfl rfl qD (Yl.add rfl rfl rfl (fun _ => rfl) qA) qS qR ?_
       refine WA.take 19 rfl qK qK qK rfl rfl qD (pureV_ok tab_ok rfl (fun _ => rfl)) qS qR ?_
       refine WA.effN 20 rfl qK rfl rfl (Ef.store 3 tab_ok rfl rfl rfl rfl rfl rfl rfl rfl ?_)
       refine ⟨by first | exact RLe.refl _ | assumption, qS, ?_⟩
       refine WA.done qK ?_
       refine WE.cut (nth (fvals (upV xs (c + 3) v0) n) ((n : Int) - 1).toNat - nth (fvals (upV xs (c + 3) v0) n) ((n : Int) - (P : Int)).toNat + nth ([0, 0, 1, 3, 4, 8] : List Int) (mod (nth xs (c + 3 + n)) ((6 : Nat) : Int)).toNat) ⟨by omega, by omega, by omega⟩ ⟨rfl, rfl, rfl, rfl⟩ (RLe.refl _) qS
      ·
       refine' WS.yl rfl rfl rfl qD (Yl.load1 tab_ok rfl rfl rfl (fun _ => rfl) ?r152 rfl ?h152) qS qR ?_
       case r152 => apply Rd.add; (exact Rd.blk 3 rfl)
       case h152 => rfl
       refine WA.take 11 rfl qK qK qK rfl rfl qD (Yl.sub rfl rfl rfl (fun _ => rfl) qA) qS qR ?_
       refine WA.take 12 rfl qK qK qK rfl rfl qD (Yl.index tab_ok rfl rfl rfl rfl rfl rfl (fun _ => rfl) qA qH) qS qR ?_
       refine' WA.take 13 rfl qK qK qK rfl rfl qD (Yl.load1 tab_ok rfl rfl rfl (fun _ => rfl) ?r153 rfl ?h153) qS qR ?_
       case r153 => (exact Rd.slD 0 rfl qX)
       case h153 => rfl
       refine' WA.yl 1 rfl qK rfl rfl qD (Yl.load1 tab_ok rfl rfl rfl (fun _ => rfl) ?r154 rfl ?h154) qS qR ?_
       case r154 => apply Rd.add; (exact Rd.blk 3 rfl)
       case h154 => rfl
       refine WA.take 4 rfl qK qK qK rfl rfl qD (Yl.index tab_ok rfl rfl rfl rfl rfl rfl (fun _ => rfl) qA qH) qS qR ?_
       refine' WA.take 5 rfl qK qK qK rfl rfl qD (Yl.load1 tab_ok rfl rfl rfl (fun _ => rfl) ?r155 rfl ?h155) qS qR ?_
       case r155 => (exact Rd.slD 0 rfl qX)
       case h155 => rfl
       refine WA.take 14 rfl qK qK qK rfl rfl qD (Yl.sub rfl rfl rfl (fun _ => rfl) qA) qS qR ?_
       refine WA.take 18 rfl qK qK qK rfl rfl qD (Yl.add rfl rfl rfl (fun _ => rfl) qA) qS qR ?_
       refine WA.take 19 rfl qK qK qK rfl rfl qD (pureV_ok tab_ok rfl (fun _ => rfl)) qS qR ?_
       refine WA.effN 20 rfl qK rfl rfl (Ef.store 3 tab_ok rfl rfl rfl rfl rfl rfl rfl rfl ?_)
       refine ⟨by first | exact RLe.refl _ | assumption, qS, ?_⟩
       refine WA.done qK ?_
       refine WE.cut (nth (fvals (upV xs (c + 3) v0) n) ((n : Int) - 1).toNat - nth (fvals (upV xs (c + 3) v0) n) ((n : Int) - (P : Int)).toNat + nth ([0, 0, 1, 3, 4, 8] : List Int) (mod (nth xs (c + 3 + n)) ((6 : Nat) : Int)).toNat) ⟨by omega, by omega, by omega⟩ ⟨rfl, rfl, rfl, rfl⟩ (RLe.refl _) qS
    ·
     refine' WS.yl rfl rfl rfl qD (Yl.load1 tab_ok rfl rfl rfl (fun _ => rfl) ?r156 rfl ?h156) qS qR ?_
     case r156 => apply Rd.add; (exact Rd.blk 3 rfl)
     case h156 => rfl
     refine WA.take 11 rfl qK qK qK rfl rfl qD (Yl.sub rfl rfl rfl (fun _ => rfl) qA) qS qR ?_
     refine WA.br3 (i := 1) (j := 7) (k := 17) qK ?_ ?_ ?_
     ·
      refine' WS.yl rfl rfl rfl qD (Yl.load1 tab_ok rfl rfl rfl (fun _ => rfl) ?r157 rfl ?h157) qS qR ?_
      case r157 => apply Rd.add; (exact Rd.blk 3 rfl)
      case h157 => rfl
      refine WA.take 4 rfl qK qK qK rfl rfl qD (Yl.index tab_ok rfl rfl rfl rfl rfl rfl (fun _ => rfl) qA qH) qS qR ?_
      refine' WA.take 5 rfl qK qK qK rfl rfl qD (Yl.load1 tab_ok rfl rfl rfl (fun _ => rfl) ?r158 rfl ?h158) qS qR ?_
      case r158 => (exact Rd.slD 0 rfl qX)
      case h158 => rfl
      refine WA.br2 (i := 7) (j := 17) qK ?_ ?_
      ·
       refine' WS.yl rfl rfl rfl qD (Yl.load1 tab_ok rfl rfl rfl (fun _ => rfl) ?r159 rfl ?h159) qS qR ?_
       case r159 => apply Rd.add; (exact Rd.blk 3 rfl)
       case h159 => rfl
       refine WA.take 12 rfl qK qK qK rfl rfl qD (Yl.index tab_ok rfl rfl rfl rfl rfl rfl (fun _ => rfl) qA qH) qS qR ?_
       refine' WA.take 13 rfl qK qK qK rfl rfl qD (Yl.load1 tab_ok rfl rfl rfl (fun _ => rfl) ?r160 rfl ?h160) qS qR ?_
       case r160 => (exact Rd.slD 0 rfl qX)
       case h160 => rfl
       refine WA.take 14 rfl qK qK qK rfl rfl qD (Yl.sub rfl rfl rfl (fun _ => rfl) qA) qS qR ?_
       refine WA.callAt 5 17 rfl qK en13 rfl rfl qD (CallOp.mkT rfl rfl rfl rfl) rfl (PickM_C (j := 0) w0 ([0, 0, 1, 3, 4, 8] : List Int) rfl qD qD ha rfl) ?_
       rintro _ _ _ _ - ⟨rfl, rfl, rfl, rfl⟩
       refine ⟨RLe.refl _, qS, ?_⟩
       refine WA.take 18 rfl qK qK qK rfl rfl qD (Yl.add rfl rfl rfl (fun _ => rfl) qA) qS qR ?_
       refine WA.take 19 rfl qK qK qK rfl rfl qD (pureV_ok tab_ok rfl (fun _ => rfl)) qS qR ?_
       refine WA.effN 20 rfl qK rfl rfl (Ef.store 3 tab_ok rfl rfl rfl rfl rfl rfl rfl rfl ?_)
       refine ⟨by first | exact RLe.refl _ | assumption, qS, ?_⟩
       refine WA.done qK ?_
       refine WE.cut (nth (fvals (upV xs (c + 3) v0) n) ((n : Int) - 1).toNat - nth (fvals (upV xs (c + 3) v0) n) ((n : Int) - (P : Int)).toNat + nth ([0, 0, 1, 3, 4, 8] : List Int) (mod (nth xs (c + 3 + n)) ((6 : Nat) : Int)).toNat) ⟨by omega, by omega, by omega⟩ ⟨rfl, rfl, rfl, rfl⟩ (RLe.refl _) qS
      ·
       refine WS.callAt 5 rfl en13 rfl rfl qD (CallOp.mkT rfl rfl rfl rfl) rfl (PickM_C (j := 0) w0 ([0, 0, 1, 3, 4, 8] : List Int) rfl qD qD ha rfl) ?_
       rintro _ _ _ _ - ⟨rfl, rfl, rfl, rfl⟩
       refine ⟨by first | exact RLe.refl _ | assumption, qS, ?_⟩
       refine' WA.yl 7 rfl qK rfl rfl qD (Yl.load1 tab_ok rfl rfl rfl (fun _ => rfl) ?r161 rfl ?h161) qS qR ?_
       case r161 => apply Rd.add; (exact Rd.blk 3 rfl)
       case h161 => rfl
       refine WA.take 12 rfl qK qK qK rfl rfl qD (Yl.index tab_ok rfl rfl rfl rfl rfl rfl (fun _ => rfl) qA qH) qS qR ?_
       refine' WA.take 13 rfl qK qK qK rfl rfl qD (Yl.load1 tab_ok rfl rfl rfl (fun _ => rfl) ?r162 rfl ?h162) qS qR ?_
       case r162 => (exact Rd.slD 0 rfl qX)
       case h162 => rfl
       refine WA.take 14 rfl qK qK qK rfl rfl qD (Yl.sub rfl rfl rfl (fun _ => rfl) qA) qS qR ?_
       refine WA.take 18 rfl qK qK qK rfl rfl qD (Yl.add rfl rfl rfl (fun _ => rfl) qA) qS qR ?_
       refine WA.take 19 rfl qK qK qK rfl rfl qD (pureV_ok tab_ok rfl (fun _ => rfl)) qS qR ?_
       refine WA.effN 20 rfl qK rfl rfl (Ef.store 3 tab_ok rfl rfl rfl rfl rfl rfl rfl rfl ?_)
       refine ⟨by first | exact RLe.refl _ | assumption, qS, ?_⟩
       refine WA.done qK ?_
       refine WE.cut (nth (fvals (upV xs (c + 3) v0) n) ((n : Int) - 1).toNat - nth (fvals (upV xs (c + 3) v0) n) ((n : Int) - (P : Int)).toNat + nth ([0, 0, 1, 3, 4, 8] : List Int) (mod (nth xs (c + 3 + n)) ((6 : Nat) : Int)).toNat) ⟨by omega, by omega, by omega⟩ ⟨rfl, rfl, rfl, rfl⟩ (RLe.refl _) qS
     ·
      refine' WS.yl rfl rfl rfl qD (Yl.load1 tab_ok rfl rfl rfl (fun _ => rfl) ?r163 rfl ?h163) qS qR ?_
      case r163 => apply Rd.add; (exact Rd.blk 3 rfl)
      case h163 => rfl
      refine WA.take 12 rfl qK qK qK rfl rfl qD (Yl.index tab_ok rfl rfl rfl rfl rfl rfl (fun _ => rfl) qA qH) qS qR ?_
      refine' WA.take 13 rfl qK qK qK rfl rfl qD (Yl.load1 tab_ok rfl rfl rfl (fun _ => rfl) ?r164 rfl ?h164) qS qR ?_
      case r164 => (exact Rd.slD 0 rfl qX)
      case h164 => rfl
      refine WA.br2 (i := 1) (j := 17) qK ?_ ?_
      ·
       refine' WS.yl rfl rfl rfl qD (Yl.load1 tab_ok rfl rfl rfl (fun _ => rfl) ?r165 rfl ?h165) qS qR ?_
       case r165 => apply Rd.add; (exact Rd.blk 3 rfl)
       case h165 => rfl
       refine WA.take 4 rfl qK qK qK rfl rfl qD (Yl.index tab_ok rfl rfl rfl rfl rfl rfl (fun _ => rfl) qA qH) qS qR ?_
       refine' WA.take 5 rfl qK qK qK rfl rfl qD (Yl.load1 tab_ok rfl rfl rfl (fun _ => rfl) ?r166 rfl ?h166) qS qR ?_
       case r166 => (exact Rd.slD 0 rfl qX)
       case h166 => rfl
       refine WA.take 14 rfl qK qK qK rfl rfl qD (Yl.sub rfl rfl rfl (fun _ => rfl) qA) qS qR ?_
       refine WA.callAt 5 17 rfl qK en13 rfl rfl qD (CallOp.mkT rfl rfl rfl rfl) rfl (PickM_C (j := 0) w0 ([0, 0, 1, 3, 4, 8] : List Int) rfl qD qD ha rfl) ?_
       rintro _ _ _ _ - ⟨rfl, rfl, rfl, rfl⟩
       refine ⟨RLe.refl _, qS, ?_⟩
       refine WA.take 18 rfl qK qK qK rfl rfl qD (Yl.add rfl rfl rfl (fun _ => rfl) qA) qS qR ?_
       refine WA.take 19 rfl qK qK qK rfl rfl qD (pureV_ok tab_ok rfl (fun _ => rfl)) qS qR ?_
       refine WA.effN 20 rfl qK rfl rfl (Ef.store 3 tab_ok rfl rfl rfl rfl rfl rfl rfl rfl ?_)
       refine ⟨by first | exact RLe.refl _ | assumption, qS, ?_⟩
       refine WA.done qK ?_
       refine WE.cut (nth (fvals (upV xs (c + 3) v0) n) ((n : Int) - 1).toNat - nth (fvals (upV xs (c + 3) v0) n) ((n : Int) - (P : Int)).toNat + nth ([0, 0, 1, 3, 4, 8] : List Int) (mod (nth xs (c + 3 + n)) ((6 : Nat) : Int)).toNat) ⟨by omega, by omega, by omega⟩ ⟨rfl, rfl, rfl, rfl⟩ (RLe.refl _) qS
      ·
       refine WS.callAt 5 rfl en13 rfl rfl qD (CallOp.mkT rfl rfl rfl rfl) rfl (PickM_C (j := 0) w0 ([0, 0, 1, 3, 4, 8] : List Int) rfl qD qD ha rfl) ?_
       rintro _ _ _ _ - ⟨rfl, rfl, rfl, rfl⟩
       refine ⟨by first | exact RLe.refl _ | assumption, qS, ?_⟩
       refine' WA.yl 1 rfl qK rfl rfl qD (Yl.load1 tab_ok rfl rfl rfl (fun _ => rfl) ?r167 rfl ?h167) qS qR ?_
       case r167 => apply Rd.add; (exact Rd.blk 3 rfl)
       case h167 => rfl
       refine WA.take 4 rfl qK qK qK rfl rfl qD (Yl.index tab_ok rfl rfl rfl rfl rfl rfl (fun _ => rfl) qA qH) qS qR ?_
       refine' WA.take 5 rfl qK qK qK rfl rfl qD (Yl.load1 tab_ok rfl rfl rfl (fun _ => rfl) ?r168 rfl ?h168) qS qR ?_
       case r168 => (exact Rd.slD 0 rfl qX)
       case h168 => rfl
       refine WA.take 14 rfl qK qK qK rfl rfl qD (Yl.sub rfl rfl rfl (fun _ => rfl) qA) qS qR ?_
       refine WA.take 18 rfl qK qK qK rfl rfl qD (Yl.add rfl rfl rfl (fun _ => rfl) qA) qS qR ?_
       refine WA.take 19 rfl qK qK qK rfl rfl qD (pureV_ok tab_ok rfl (fun _ => rfl)) qS qR ?_
       refine WA.effN 20 rfl qK rfl rfl (Ef.store 3 tab_ok rfl rfl rfl rfl rfl rfl rfl rfl ?_)
       refine ⟨by first | exact RLe.refl _ | assumption, qS, ?_⟩
       refine WA.done qK ?_
       refine WE.cut (nth (fvals (upV xs (c + 3) v0) n) ((n : Int) - 1).toNat - nth (fvals (upV xs (c + 3) v0) n) ((n : Int) - (P : Int)).toNat + nth ([0, 0, 1, 3, 4, 8] : List Int) (mod (nth xs (c + 3 + n)) ((6 : Nat) : Int)).toNat) ⟨by omega, by omega, by omega⟩ ⟨rfl, rfl, rfl, rfl⟩ (RLe.refl _) qS
     ·
      refine WS.callAt 5 rfl en13 rfl rfl qD (CallOp.mkT rfl rfl rfl rfl) rfl (PickM_C (j := 0) w0 ([0, 0, 1, 3, 4, 8] : List Int) rfl qD qD ha rfl) ?_
      rintro _ _ _ _ - ⟨rfl, rfl, rfl, rfl⟩
      refine ⟨by first | exact RLe.refl _ | assumption, qS, ?_⟩
      refine WA.br2 (i := 1) (j := 7) qK ?_ ?_
      ·
       refine' WS.yl rfl rfl rfl qD (Yl.load1 tab_ok rfl rfl rfl (fun _ => rfl) ?r169 rfl ?h169) qS qR ?_
       case r169 => apply Rd.add; (exact Rd.blk 3 rfl)
       case h169 => rfl
       refine WA.take 4 rfl qK qK qK rfl rfl qD (Yl.index tab_ok rfl rfl rfl rfl rfl rfl (fun _ => rfl) qA qH) qS qR ?_
       refine' WA.take 5 rfl qK qK qK rfl rfl qD (Yl.load1 tab_ok rfl rfl rfl (fun _ => rfl) ?r170 rfl ?h170) qS qR ?_
       case r170 => (exact Rd.slD 0 rfl qX)
       case h170 => rfl
       refine' WA.yl 7 rfl qK rfl rfl qD (Yl.load1 tab_ok rfl rfl rfl (fun _ => rfl) ?r171 rfl ?h171) qS qR ?_
       case r171 => apply Rd.add; (exact Rd.blk 3 rfl)
       case h171 => rfl
       refine WA.take 12 rfl qK qK qK rfl rfl qD (Yl.index tab_ok rfl rfl rfl rfl rfl rfl (fun _ => rfl) qA qH) qS qR ?_
       refine' WA.take 13 rfl qK qK qK rfl rfl qD (Yl.load1 tab_ok rfl rfl rfl (fun _ => rfl) ?r172 rfl ?h172) qS qR ?_
       case r172 => (exact Rd.slD 0 rfl qX)
       case h172 => rfl
       refine WA.take 14 rfl qK qK qK rfl rfl qD (Yl.sub rfl rfl rfl (fun _ => rfl) qA) qS qR ?_
       refine WA.take 18 rfl qK qK qK rfl rfl qD (Yl.add rfl rfl rfl (fun _ => rfl) qA) qS qR ?_
       refine WA.take 19 rfl qK qK qK rfl rfl qD (pureV_ok tab_ok rfl (fun _ => rfl)) qS qR ?_
       refine WA.effN 20 rfl qK rfl rfl (Ef.store 3 tab_ok rfl rfl rfl rfl rfl rfl rfl rfl ?_)
       refine ⟨by first | exact RLe.refl _ | assumption, qS, ?_⟩
       refine WA.done qK ?_
       refine WE.cut (nth (fvals (upV xs (c + 3) v0) n) ((n : Int) - 1).toNat - nth (fvals (upV xs (c + 3) v0) n) ((n : Int) - (P : Int)).toNat + nth ([0, 0, 1, 3, 4, 8] : List Int) (mod (nth xs (c + 3 + n)) ((6 : Nat) : Int)).toNat) ⟨by omega, by omega, by omega⟩ ⟨rfl, rfl, rfl, rfl⟩ (RLe.refl _) qS
      ·
       refine' WS.yl rfl rfl rfl qD (Yl.load1 tab_ok rfl rfl rfl (fun _ => rfl) ?r173 rfl ?h173) qS qR ?_
       case r173 => apply Rd.add; (exact Rd.blk 3 rfl)
       case h173 => rfl
       refine WA.take 12 rfl qK qK qK rfl rfl qD (Yl.index tab_ok rfl rfl rfl rfl rfl rfl (fun _ => rfl) qA qH) qS qR ?_
       refine' WA.take 13 rfl qK qK qK rfl rfl qD (Yl.load1 tab_ok rfl rfl rfl (fun _ => rfl) ?r174 rfl ?h174) qS qR ?_
       case r174 => (exact Rd.slD 0 rfl qX)
       case h174 => rfl
       refine' WA.yl 1 rfl qK rfl rfl qD (Yl.load1 tab_ok rfl rfl rfl (fun _ => rfl) ?r175 rfl ?h175) qS qR ?_
       case r175 => apply Rd.add; (exact Rd.blk 3 rfl)
       case h175 => rfl
       refine WA.take 4 rfl qK qK qK rfl rfl qD (Yl.index tab_ok rfl rfl rfl rfl rfl rfl (fun _ => rfl) qA qH) qS qR ?_
       refine' WA.take 5 rfl qK qK qK rfl rfl qD (Yl.load1 tab_ok rfl rfl rfl (fun _ => rfl) ?r176 rfl ?h176) qS qR ?_
       case r176 => (exact Rd.slD 0 rfl qX)
       case h176 => rfl
       refine WA.take 14 rfl qK qK qK rfl rfl qD (Yl.sub rfl rfl rfl (fun _ => rfl) qA) qS qR ?_
       refine WA.take 18 rfl qK qK qK rfl rfl qD (Yl.add rfl rfl rfl (fun _ => rfl) qA) qS qR ?_
       refine WA.take 19 rfl qK qK qK rfl rfl qD (pureV_ok tab_ok rfl (fun _ => rfl)) qS qR ?_
       refine WA.effN 20 rfl qK rfl rfl (Ef.store 3 tab_ok rfl rfl rfl rfl rfl rfl rfl rfl ?_)
       refine ⟨by first | exact RLe.refl _ | assumption, qS, ?_⟩
       refine WA.done qK ?_
       refine WE.cut (nth (fvals (upV xs (c + 3) v0) n) ((n : Int) - 1).toNat - nth (fvals (upV xs (c + 3) v0) n) ((n : Int) - (P : Int)).toNat + nth ([0, 0, 1, 3, 4, 8] : List Int) (mod (nth xs (c + 3 + n)) ((6 : Nat) : Int)).toNat) ⟨by omega, by omega, by omega⟩ ⟨rfl, rfl, rfl, rfl⟩ (RLe.refl _) qS
    ·
     refine WS.callAt 5 rfl en13 rfl rfl qD (CallOp.mkT rfl rfl rfl rfl) rfl (PickM_C (j := 0) w0 ([0, 0, 1, 3, 4, 8] : List Int) rfl qD qD ha rfl) ?_
     rintro _ _ _ _ - ⟨rfl, rfl, rfl, rfl⟩
     refine ⟨by first | exact RLe.refl _ | assumption, qS, ?_⟩
     refine WA.br3 (i := 1) (j := 7) (k := 10) qK ?_ ?_ ?_
     ·
      refine' WS.yl rfl rfl rfl qD (Yl.load1 tab_ok rfl rfl rfl (fun _ => rfl) ?r177 rfl ?h177) qS qR ?_
      case r177 => apply Rd.add; (exact Rd.blk 3 rfl)
      case h177 => rfl
      refine WA.take 4 rfl qK qK qK rfl rfl qD (Yl.index tab_ok rfl rfl rfl rfl rfl rfl (fun _ => rfl) qA qH) qS qR ?_
      refine' WA.take 5 rfl qK qK qK rfl rfl qD (Yl.load1 tab_ok rfl rfl rfl (fun _ => rfl) ?r178 rfl ?h178) qS qR ?_
      case r178 => (exact Rd.slD 0 rfl qX)
      case h178 => rfl
      refine WA.br2 (i := 7) (j := 10) qK ?_ ?_
      ·
       refine' WS.yl rfl rfl rfl qD (Yl.load1 tab_ok rfl rfl rfl (fun _ => rfl) ?r179 rfl ?h179) qS qR ?_
       case r179 => apply Rd.add; (exact Rd.blk 3 rfl)
       case h179 => rfl
       refine' WA.yl 10 rfl qK rfl rfl qD (Yl.load1 tab_ok rfl rfl rfl (fun _ => rfl) ?r180 rfl ?h180) qS qR ?_
       case r180 => apply Rd.add; (exact Rd.blk 3 rfl)
       case h180 => rfl
       refine WA.take 11 rfl qK qK qK rfl rfl qD (Yl.sub rfl rfl rfl (fun _ => rfl) qA) qS qR ?_
       refine WA.take 12 rfl qK qK qK rfl rfl qD (Yl.index tab_ok rfl rfl rfl rfl rfl rfl (fun _ => rfl) qA qH) qS qR ?_
       refine' WA.take 13 rfl qK qK qK rfl rfl qD (Yl.load1 tab_ok rfl rfl rfl (fun _ => rfl) ?r181 rfl ?h181) qS qR ?_
       case r181 => (exact Rd.slD 0 rfl qX)
       case h181 => rfl
       refine WA.take 14 rfl qK qK qK rfl rfl qD (Yl.sub rfl rfl rfl (fun _ => rfl) qA) qS qR ?_
       refine WA.take 18 rfl qK qK qK rfl rfl qD (Yl.add rfl rfl rfl (fun _ => rfl) qA) qS qR ?_
       refine WA.take 19 rfl qK qK qK rfl rfl qD (pureV_ok tab_ok rfl (fun _ => rfl)) qS qR ?_
       refine WA.effN 20 rfl qK rfl rfl (Ef.store 3 tab_ok rfl rfl rfl rfl rfl rfl rfl rfl ?_)
       refine ⟨by first | exact RLe.refl _ | assumption, qS, ?_⟩
       refine WA.done qK ?_
       refine WE.cut (nth (fvals (upV xs (c + 3) v0) n) ((n : Int) - 1).toNat - nth (fvals (upV xs (c + 3) v0) n) ((n : Int) - (P : Int)).toNat + nth ([0, 0, 1, 3, 4, 8] : List Int) (mod (nth xs (c + 3 + n)) ((6 : Nat) : Int)).toNat) ⟨by omega, by omega, by omega⟩ ⟨rfl, rfl, rfl, rfl⟩ (RLe.refl _) qS
      ·
       refine' WS.yl rfl rfl rfl qD (Yl.load1 tab_ok rfl rfl rfl (fun _ => rfl) ?r182 rfl ?h182) qS qR ?_
       case r182 => apply Rd.add; (exact Rd.blk 3 rfl)
       case h182 => rfl
       refine WA.take 11 rfl qK qK qK rfl rfl qD (Yl.sub rfl rfl rfl (fun _ => rfl) qA) qS qR ?_
       refine' WA.yl 7 rfl qK rfl rfl qD (Yl.load1 tab_ok rfl rfl rfl (fun _ => rfl) ?r183 rfl ?h183) qS qR ?_
       case r183 => apply Rd.add; (exact Rd.blk 3 rfl)
       case h183 => rfl
       refine WA.take 12 rfl qK qK qK rfl rfl qD (Yl.index tab_ok rfl rfl rfl rfl rfl rfl (fun _ => rfl) qA qH) qS qR ?_
       refine' WA.take 13 rfl qK qK qK rfl rfl qD (Yl.load1 tab_ok rfl rfl rfl (fun _ => rfl) ?r184 rfl ?h184) qS qR ?_
       case r184 => (exact Rd.slD 0 rfl qX)
       case h184 => rfl
       refine WA.take 14 rfl qK qK qK rfl rfl qD (Yl.sub rfl rfl rfl (fun _ => rfl) qA) qS qR ?_
       refine WA.take 18 rfl qK qK qK rfl rfl qD (Yl.add rfl rfl rfl (fun _ => rfl) qA) qS qR ?_
       refine WA.take 19 rfl qK qK qK rfl rfl qD (pureV_ok tab_ok rfl (fun _ => rfl)) qS qR ?_
       refine WA.effN 20 rfl qK rfl rfl (Ef.store 3 tab_ok rfl rfl rfl rfl rfl rfl rfl rfl ?_)
       refine ⟨by first | exact RLe.refl _ | assumption, qS, ?_⟩
       refine WA.done qK ?_
       refine WE.cut (nth (fvals (upV xs (c + 3) v0) n) ((n : Int) - 1).toNat - nth (fvals (upV xs (c + 3) v0) n) ((n : Int) - (P : Int)).toNat + nth ([0, 0, 1, 3, 4, 8] : List Int) (mod (nth xs (c + 3 + n)) ((6 : Nat) : Int)).toNat) ⟨by omega, by omega, by omega⟩ ⟨rfl, rfl, rfl, rfl⟩ (RLe.refl _) qS
     ·
      refine' WS.yl rfl rfl rfl qD (Yl.load1 tab_ok rfl rfl rfl (fun _ => rfl) ?r185 rfl ?h185) qS qR ?_
      case r185 => apply Rd.add; (exact Rd.blk 3 rfl)
      case h185 => rfl
      refine WA.br2 (i := 1) (j := 10) qK ?_ ?_
      ·
       refine' WS.yl rfl rfl rfl qD (Yl.load1 tab_ok rfl rfl rfl (fun _ => rfl) ?r186 rfl ?h186) qS qR ?_
       case r186 => apply Rd.add; (exact Rd.blk 3 rfl)
       case h186 => rfl
       refine WA.take 4 rfl qK qK qK rfl rfl qD (Yl.index tab_ok rfl rfl rfl rfl rfl rfl (fun _ => rfl) qA qH) qS qR ?_
       refine' WA.take 5 rfl qK qK qK rfl rfl qD (Yl.load1 tab_ok rfl rfl rfl (fun _ => rfl) ?r187 rfl ?h187) qS qR ?_
       case r187 => (exact Rd.slD 0 rfl qX)
       case h187 => rfl
       refine' WA.yl 10 rfl qK rfl rfl qD (Yl.load1 tab_ok rfl rfl rfl (fun _ => rfl) ?r188 rfl ?h188) qS qR ?_
       case r188 => apply Rd.add; (exact Rd.blk 3 rfl)
       case h188 => rfl
       refine WA.take 11 rfl qK qK qK rfl rfl qD (Yl.sub rfl rfl rfl (fun _ => rfl) qA) qS qR ?_
       refine WA.take 12 rfl qK qK qK rfl rfl qD (Yl.index tab_ok rfl rfl rfl rfl rfl rfl (fun _ => rfl) qA qH) qS qR ?_
       refine' WA.take 13 rfl qK qK qK rfl rfl qD (Yl.load1 tab_ok rfl rfl rfl (fun _ => rfl) ?r189 rfl ?h189) qS qR ?_
       case r189 => (exact Rd.slD 0 rfl qX)
       case h189 => rfl
       refine WA.take 14 rfl qK qK qK rfl rfl qD (Yl.sub rfl rfl rfl (fun _ => rfl) qA) qS qR ?_
       refine WA.take 18 rfl qK qK qK rfl rfl qD (Yl.add rfl rfl rfl (fun _ => rfl) qA) qS qR ?_
       refine WA.take 19 rfl qK qK qK rfl rfl qD (pureV_ok tab_ok rfl (fun _ => rfl)) qS qR ?_
       refine WA.effN 20 rfl qK rfl rfl (Ef.store 3 tab_ok rfl rfl rfl rfl rfl rfl rfl rfl ?_)
       refine ⟨by first | exact RLe.refl _ | assumption, qS, ?_⟩
       refine WA.done qK ?_
       refine WE.cut (nth (fvals (upV xs (c + 3) v0) n) ((n : Int) - 1).toNat - nth (fvals (upV xs (c + 3) v0) n) ((n : Int) - (P : Int)).toNat + nth ([0, 0, 1, 3, 4, 8] : List Int) (mod (nth xs (c + 3 + n)) ((6 : Nat) : Int)).toNat) ⟨by omega, by omega, by omega⟩ ⟨rfl, rfl, rfl, rfl⟩ (RLe.refl _) qS
      ·
       refine' WS.yl rfl rfl rfl qD (Yl.load1 tab_ok rfl rfl rfl (fun _ => rfl) ?r190 rfl ?h190) qS qR ?_
       case r190 => apply Rd.add; (exact Rd.blk 3 rfl)
       case h190 => rfl
       refine WA.take 11 rfl qK qK qK rfl rfl qD (Yl.sub rfl rfl rfl (fun _ => rfl) qA) qS qR ?_
       refine WA.take 12 rfl qK qK qK rfl rfl qD (Yl.index tab_ok rfl rfl rfl rfl rfl rfl (fun _ => rfl) qA qH) qS qR ?_
       refine' WA.take 13 rfl qK qK qK rfl rfl qD (Yl.load1 tab_ok rfl rfl rfl (fun _ => rfl) ?r191 rfl ?h191) qS qR ?_
       case r191 => (exact Rd.slD 0 rfl qX)
       case h191 => rfl
       refine' WA.yl 1 rfl qK rfl rfl qD (Yl.load1 tab_ok rfl rfl rfl (fun _ => rfl) ?r192 rfl ?h192) qS qR ?_
       case r192 => apply Rd.add; (exact Rd.blk 3 rfl)
       case h192 => rfl
       refine WA.take 4 rfl qK qK qK rfl rfl qD (Yl.index tab_ok rfl rfl rfl rfl rfl rfl (fun _ => rfl) qA qH) qS qR ?_
       refine' WA.take 5 rfl qK qK qK rfl rfl qD (Yl.load1 tab_ok rfl rfl rfl (fun _ => rfl) ?r193 rfl ?h193) qS qR ?_
       case r193 => (exact Rd.slD 0 rfl qX)
       case h193 => rfl
       refine WA.take 14 rfl qK qK qK rfl rfl qD (Yl.sub rfl rfl rfl (fun _ => rfl) qA) qS qR ?_
       refine WA.take 18 rfl qK qK qK rfl rfl qD (Yl.add rfl rfl rfl (fun _ => rfl) qA) qS qR ?_
       refine WA.take 19 rfl qK qK qK rfl rfl qD (pureV_ok tab_ok rfl (fun _ => rfl)) qS qR ?_
       refine WA.effN 20 rfl qK rfl rfl (Ef.store 3 tab_ok rfl rfl rfl rfl rfl rfl rfl rfl ?_)
       refine ⟨by first | exact RLe.refl _ | assumption, qS, ?_⟩
       refine WA.done qK ?_
       refine WE.cut (nth (fvals (upV xs (c + 3) v0) n) ((n : Int) - 1).toNat - nth (fvals (upV xs (c + 3) v0) n) ((n : Int) - (P : Int)).toNat + nth ([0, 0, 1, 3, 4, 8] : List Int) (mod (nth xs (c + 3 + n)) ((6 : Nat) : Int)).toNat) ⟨by omega, by omega, by omega⟩ ⟨rfl, rfl, rfl, rfl⟩ (RLe.refl _) qS
     ·
      refine' WS.yl rfl rfl rfl qD (Yl.load1 tab_ok rfl rfl rfl (fun _ => rfl) ?r194 rfl ?h194) qS qR ?_
      case r194 => apply Rd.add; (exact Rd.blk 3 rfl)
      case h194 => rfl
      refine WA.take 11 rfl qK qK qK rfl rfl qD (Yl.sub rfl rfl rfl (fun _ => rfl) qA) qS qR ?_
      refine WA.br2 (i := 1) (j := 7) qK ?_ ?_
      ·
       refine' WS.yl rfl rfl rfl qD (Yl.load1 tab_ok rfl rfl rfl (fun _ => rfl) ?r195 rfl ?h195) qS qR ?_
       case r195 => apply Rd.add; (exact Rd.blk 3 rfl)
       case h195 => rfl
       refine WA.take 4 rfl qK qK qK rfl rfl qD (Yl.index tab_ok rfl rfl rfl rfl rfl rfl (fun _ => rfl) qA qH) qS qR ?_
       refine' WA.take 5 rfl qK qK qK rfl rfl qD (Yl.load1 tab_ok rfl rfl rfl (fun _ => rfl) ?r196 rfl ?h196) qS qR ?_
       case r196 => (exact Rd.slD 0 rfl qX)
       case h196 => rfl
       refine' WA.yl 7 rfl qK rfl rfl qD (Yl.load1 tab_ok rfl rfl rfl (fun _ => rfl) ?r197 rfl ?h197) qS qR ?_
       case r197 => apply Rd.add; (exact Rd.blk 3 rfl)
       case h197 => rfl
       refine WA.take 12 rfl qK qK qK rfl rfl qD (Yl.index tab_ok rfl rfl rfl rfl rfl rfl (fun _ => rfl) qA qH) qS qR ?_
       refine' WA.take 13 rfl qK qK qK rfl rfl qD (Yl.load1 tab_ok rfl rfl rfl (fun _ => rfl) ?r198 rfl ?h198) qS qR ?_
       case r198 => (exact Rd.slD 0 rfl qX)
       case h198 => rfl
       refine WA.take 14 rfl qK qK qK rfl rfl qD (Yl.sub rfl rfl rfl (fun _ => rfl) qA) qS qR ?_
       refine WA.take 18 rfl qK qK qK rfl rfl qD (Yl.add rfl rfl rfl (fun _ => rfl) qA) qS qR ?_
       refine WA.take 19 rfl qK qK qK rfl rfl qD (pureV_ok tab_ok rfl (fun _ => rfl)) qS qR ?_
       refine WA.effN 20 rfl qK rfl rfl (Ef.store 3 tab_ok rfl rfl rfl rfl rfl rfl rfl rfl ?_)
       refine ⟨by first | exact RLe.refl _ | assumption, qS, ?_⟩
       refine WA.done qK ?_
       refine WE.cut (nth (fvals (upV xs (c + 3) v0) n) ((n : Int) - 1).toNat - nth (fvals (upV xs (c + 3) v0) n) ((n : Int) - (P : Int)).toNat + nth ([0, 0, 1, 3, 4, 8] : List Int) (mod (nth xs (c + 3 + n)) ((6 : Nat) : Int)).toNat) ⟨by omega, by omega, by omega⟩ ⟨rfl, rfl, rfl, rfl⟩ (RLe.refl _) qS
      ·
       refine' WS.yl rfl rfl rfl qD (Yl.load1 tab_ok rfl rfl rfl (fun _ => rfl) ?r199 rfl ?h199) qS qR ?_
       case r199 => apply Rd.add; (exact Rd.blk 3 rfl)
       case h199 => rfl
       refine WA.take 12 rfl qK qK qK rfl rfl qD (Yl.index tab_ok rfl rfl rfl rfl rfl rfl (fun _ => rfl) qA qH) qS qR ?_
       refine' WA.take 13 rfl qK qK qK rfl rfl qD (Yl.load1 tab_ok rfl rfl rfl (fun _ => rfl) ?r200 rfl ?h200) qS qR ?_
       case r200 => (exact Rd.slD 0 rfl qX)
       case h200 => rfl
       refine' WA.yl 1 rfl qK rfl rfl qD (Yl.load1 tab_ok rfl rfl rfl (fun _ => rfl) ?r201 rfl ?h201) qS qR ?_
       case r201 => apply Rd.add; (exact Rd.blk 3 rfl)
       case h201 => rfl
       refine WA.take 4 rfl qK qK qK rfl rfl qD (Yl.index tab_ok rfl rfl rfl rfl rfl rfl (fun _ => rfl) qA qH) qS qR ?_
       refine' WA.take 5 rfl qK qK qK rfl rfl qD (Yl.load1 tab_ok rfl rfl rfl (fun _ => rfl) ?r202 rfl ?h202) qS qR ?_
       case r202 => (exact Rd.slD 0 rfl qX)
       case h202 => rfl
       refine WA.take 14 rfl qK qK qK rfl rfl qD (Yl.sub rfl rfl rfl (fun _ => rfl) qA) qS qR ?_
       refine WA.take 18 rfl qK qK qK rfl rfl qD (Yl.add rfl rfl rfl (fun _ => rfl) qA) qS qR ?_
       refine WA.take 19 rfl qK qK qK rfl rfl qD (pureV_ok tab_ok rfl (fun _ => rfl)) qS qR ?_
       refine WA.effN 20 rfl qK rfl rfl (Ef.store 3 tab_ok rfl rfl rfl rfl rfl rfl rfl rfl ?_)
       refine ⟨by first | exact RLe.refl _ | assumption, qS, ?_⟩
       refine WA.done qK ?_
       refine WE.cut (nth (fvals (upV xs (c + 3) v0) n) ((n : Int) - 1).toNat - nth (fvals (upV xs (c + 3) v0) n) ((n : Int) - (P : Int)).toNat + nth ([0, 0, 1, 3, 4, 8] : List Int) (mod (nth xs (c + 3 + n)) ((6 : Nat) : Int)).toNat) ⟨by omega, by omega, by omega⟩ ⟨rfl, rfl, rfl, rfl⟩ (RLe.refl _) qS

end Go.Proofs.Ytnackbfnmhkodaa

/- A small finite curve that a statement makes, 0 at the tick 0. No condition. -/
set_option maxRecDepth 4000
set_option linter.unusedSimpArgs false
set_option linter.unusedVariables false
namespace Go.Proofs.Ytnackbfnmhkodaa
open Go Go.RowKit Go.Proofs.Ytnackbfnmhkodaa.K Go.Proofs.Ytnackbfnmhkodaa.M

theorem Zero_C {R : Ro} {b : Nat} {a : Option Addr} {cp : Nat} {xs : List Int} {c : Nat} (w0 : World) (ha : RS R 1 encI a xs) {most : Nat} (hmo : 1 ≤ most ∧ most ≤ 20) : FnAt Try.prog 8 [.pointer (some ⟨b, 0, none⟩), .int .i64 (most : Int)] w0 R (srcE b a cp xs c) (fun v R' e' N => ∃ (f : Option Addr) (fc cn : Nat) (cv : Cv), v = .agg #[.slice f cv.vals.length fc, .int .i64 cv.per, .int .i64 cv.inc] ∧ RS R' 1 encI f cv.vals ∧ SmallC cv ∧ finB cv = true ∧ nth cv.vals 0 = 0 ∧ cv.vals.length ≤ fc ∧ e' = srcE b a cp xs cn ∧ N = []) := by
 intro F
 refine Fn.enter (n := 58) Try.func8 rfl rfl (Nat.le_of_ble_eq_true rfl) rfl ?_
 refine W.seq (W.region _ ?_)
 refine WL.ef rfl rfl qD (Ef.alloc tab_ok rfl rfl (fun b4 => ?_))
 refine WG.nil (WE.nxt (W.seq (W.region _ (WG.run tab_ok 2 rfl ?_))))
 refine WL.callAt 1 en10 rfl rfl qD (CallOp.mkT rfl rfl rfl rfl) rfl (KCurve_C w0 ha hmo _) ?_
 rintro _ RC _ _ hRC ⟨fa, fc, c1, cv, rfl, hfa, hsc, hcc, rfl, rfl⟩
 have ha := ha.mono hRC
 refine WL.ef rfl rfl qD (Ef.alloc tab_ok rfl rfl (fun b5 => ?_))
 refine WL.efN rfl rfl (Ef.store0 0 tab_ok rfl rfl rfl rfl rfl rfl rfl rfl ?_)
 refine WG.nil (WE.nxt (W.seq (W.block ?_)))
 refine W.loopR (β := Cv × Option Addr × Nat × Nat × Ro) (fun (ck, fk, gk, cn, Rk) => RLe RC Rk ∧ RS Rk 1 encI fk ck.vals ∧ SmallC ck ∧ ck.vals.length ≤ gk) (fun (ck, fk, gk, cn, Rk) => []) [0, 4, 5] [_, _, _] [] _ rfl (fun (ck, fk, gk, cn, Rk) => [(0, .blk b5 [.slice fk ck.vals.length gk, .int .i64 ck.per, .int .i64 ck.inc]), (2, srcE b a cp xs cn)]) (fun (ck, fk, gk, cn, Rk) => Rk) (fun (ck, fk, gk, cn, Rk) => (if finB ck = true then 0 else 1)) ((cv, fa, fc, c1, RC)) (⟨RLe.refl _, hfa, hsc, hcc⟩) ⟨rfl, rfl, rfl, rfl⟩ (RLe.refl _) qS ?_
 intro zz hst
 obtain ⟨ck, fk, gk, cn, Rk⟩ := zz
 dsimp only [zipE, setAll, List.cons_append, List.nil_append, List.set_cons_zero, List.set_cons_succ] at hst ⊢
 obtain ⟨hRk, hfk, hsk, hgk⟩ := hst
 have ha := ha.mono hRk
 have hvr := valid_range hsk.valid
 refine W.seq (W.seq (W.region _ (WG.run tab_ok 1 rfl ?_)))
 refine' WG.y rfl rfl qD (Yl.load1 tab_ok rfl rfl rfl (fun _ => rfl) ?r1 rfl ?h1) ?_
 case r1 => apply Rd.add; (exact Rd.blk 0 rfl)
 case h1 => rfl
 refine WG.run tab_ok 1 rfl ?_
 refine' WG.y rfl rfl qD (Yl.load1 tab_ok rfl rfl rfl (fun _ => rfl) ?r2 rfl ?h2) ?_
 case r2 => apply Rd.add; (exact Rd.blk 0 rfl)
 case h2 => rfl
 refine WG.run tab_ok 1 rfl ?_
 refine WG.y rfl rfl qD (Yl.sub rfl rfl rfl (fun _ => rfl) qA) ?_
 refine WG.y rfl rfl qD (Yl.index tab_ok rfl rfl rfl rfl rfl rfl (fun _ => rfl) qA (by intro _; first | exact fun _ _ _ _ => ha40 qO | exact fun _ _ _ _ => rfl | exact RS.has qU | exact fun _ _ _ _ => qU | exact HasMem.ownD 0 rfl | exact HasMem.ownD 1 rfl | exact HasMem.ownD 2 rfl | exact HasMem.ownD 3 rfl | exact HasMem.ownD 4 rfl | exact HasMem.ownD 5 rfl)) ?_
 refine' WG.y rfl rfl qD (Yl.load1 tab_ok rfl rfl rfl (fun _ => rfl) ?r3 rfl ?h3) ?_
 case r3 => ((apply RS.rdD; assumption; ((try dsimp only) <;> omega)))
 case h3 => rfl
 refine WG.run tab_ok 1 rfl (WG.nil (WE.nxt ?_))
 refine W.condE rfl (fun hc0 => ?_) (fun hc0 => ?_)
 ·try dsimp only at hc0
  have hfF : finB ck = false := by unfold finB; rw [bne_eq_false_iff_eq, show ck.vals.length - 1 = ((ck.vals.length : Int) - 1).toNat by omega]; exact hc0
  refine W.skip (WE.nxt (W.block (W.region _ (WG.run tab_ok 1 rfl ?_))))
  refine WL.callAt 2 en12 rfl rfl qD (CallOp.mkT rfl rfl rfl rfl) rfl (N_C w0 ha (by constructor <;> omega) _) ?_
  rintro _ _ _ _ - ⟨rfl, rfl, rfl, rfl⟩
  have hq1 := mod_range (nth xs cn) (show (1 : Int) ≤ 5 by decide)
  refine WG.y rfl rfl qD (Yl.add rfl rfl rfl (fun _ => rfl) qA) ?_
  refine WL.ef rfl rfl qD (Ef.buildSliceD (enc := encI) (parts := [.const (.int .i64 0), .const (.int .i64 4), .tmp 22]) [_, _, _] tab_ok rfl rfl rfl rfl rfl rfl rfl rfl qD qD (fun a23 => ?_))
  refine WG.run tab_ok 1 rfl ?_
  refine WL.callAt 3 en12 rfl rfl qD (CallOp.mkT rfl rfl rfl rfl) rfl (N_C w0 ha (by constructor <;> omega) _) ?_
  rintro _ _ _ _ - ⟨rfl, rfl, rfl, rfl⟩
  have hq2 := mod_range (nth xs (cn + 1)) (show (1 : Int) ≤ 2 by decide)
  refine WG.y rfl rfl qD (Yl.add rfl rfl rfl (fun _ => rfl) qA) ?_
  -- build
  refine WG.y rfl rfl qD (Yl.build (parts := [(0, .tmp 23), (1, .tmp 26), (2, .const (.int .i64 8))]) tab_ok rfl rfl rfl rfl (fun _ => rfl) rfl rfl) ?_
  refine WL.efN rfl rfl (Ef.store0 1 tab_ok rfl rfl rfl rfl rfl rfl rfl rfl ?_)
  refine WL.freeze (enc := encI) (xs := [0, 4, 4 + mod (nth xs cn) 5]) 0 rfl ?_
  intro R1 hR1 hfz
  refine WG.nil (WE.blk _ ?_)
  refine WE.again ((⟨[0, 4, 4 + mod (nth xs cn) 5], 1 + mod (nth xs (cn + 1)) 2, 8⟩, some ⟨a23, 0, none⟩, 3, cn + 1 + 1, R1)) (⟨hRk.trans hR1, hfz, (small_lit hq1 hq2).1, Nat.le_refl _⟩) (by dsimp only; rw [hfF, (small_lit hq1 hq2).2]; decide) ⟨rfl, rfl, rfl, rfl⟩ (RLe.refl _) qS
 ·try dsimp only at hc0
  have hfT : finB ck = true := by unfold finB; rw [bne_iff_ne, show ck.vals.length - 1 = ((ck.vals.length : Int) - 1).toNat by omega]; exact hc0
  refine W.exit ?_
  refine WE.then_exit (WE.then_exit (WE.blk_exit (WE.nxt (W.seq (W.seq (W.region _ (WG.run tab_ok 1 rfl ?_)))))))
  refine' WG.y rfl rfl qD (Yl.load1 tab_ok rfl rfl rfl (fun _ => rfl) ?r4 rfl ?h4) ?_
  case r4 => apply Rd.add; (exact Rd.blk 0 rfl)
  case h4 => rfl
  refine WG.y rfl rfl qD (Yl.indexN tab_ok rfl rfl rfl rfl rfl rfl (fun _ => rfl) qN (by intro _; first | exact fun _ _ _ _ => ha40 qO | exact fun _ _ _ _ => rfl | exact RS.has qU | exact fun _ _ _ _ => qU | exact HasMem.ownD 0 rfl | exact HasMem.ownD 1 rfl | exact HasMem.ownD 2 rfl | exact HasMem.ownD 3 rfl | exact HasMem.ownD 4 rfl | exact HasMem.ownD 5 rfl)) ?_
  refine' WG.y rfl rfl qD (Yl.load1 tab_ok rfl rfl rfl (fun _ => rfl) ?r5 rfl ?h5) ?_
  case r5 => ((apply RS.rdD; assumption; ((try dsimp only) <;> omega)))
  case h5 => rfl
  refine WG.run tab_ok 1 rfl (WG.nil (WE.nxt ?_))
  refine W.condD rfl (fun hc1 => ?_) (fun hc1 => ?_)
  ·try dsimp only at hc1
   refine W.seq (W.region _ (WG.run tab_ok 1 rfl ?_))
   refine' WG.y rfl rfl qD (Yl.load1 tab_ok rfl rfl rfl (fun _ => rfl) ?r6 rfl ?h6) ?_
   case r6 => apply Rd.add; (exact Rd.blk 0 rfl)
   case h6 => rfl
   refine WG.y rfl rfl qD (Yl.indexN tab_ok rfl rfl rfl rfl rfl rfl (fun _ => rfl) qN (by intro _; first | exact fun _ _ _ _ => ha40 qO | exact fun _ _ _ _ => rfl | exact RS.has qU | exact fun _ _ _ _ => qU | exact HasMem.ownD 0 rfl | exact HasMem.ownD 1 rfl | exact HasMem.ownD 2 rfl | exact HasMem.ownD 3 rfl | exact HasMem.ownD 4 rfl | exact HasMem.ownD 5 rfl)) ?_
   refine' WG.y rfl rfl qD (Yl.load1 tab_ok rfl rfl rfl (fun _ => rfl) ?r7 rfl ?h7) ?_
   case r7 => ((apply RS.rdD; assumption; ((try dsimp only) <;> omega)))
   case h7 => rfl
   refine WG.run tab_ok 1 rfl (WG.nil (WE.nxt (W.seq (W.region _ ?_))))
   refine WL.ef rfl rfl qD (Ef.buildSliceD (enc := encI) (parts := []) [] tab_ok rfl rfl rfl rfl rfl rfl rfl rfl qD qD (fun a37 => ?_))
   refine WG.run tab_ok 1 rfl ?_
   refine' WG.y rfl rfl qD (Yl.load1 tab_ok rfl rfl rfl (fun _ => rfl) ?r8 rfl ?h8) ?_
   case r8 => apply Rd.add; (exact Rd.blk 1 rfl)
   case h8 => rfl
   refine WL.ef rfl rfl qD (Ef.cloneL (enc := encI) 0 tab_ok rfl rfl rfl rfl rfl rfl rfl rfl rfl rfl hfk (fun _ _ => rfl) (by dsimp only; omega) qO (fun a40 c40 ha40 => ?_))
   refine WG.run tab_ok 1 rfl ?_
   refine WL.efN rfl rfl (Ef.store 1 tab_ok rfl rfl rfl rfl rfl rfl rfl rfl ?_)
   refine WG.nil (WE.nxt (W.seq (W.region _ (WG.run tab_ok 1 rfl ?_))))
   refine' WG.y rfl rfl qD (Yl.load1 tab_ok rfl rfl rfl (fun _ => rfl) ?r9 rfl ?h9) ?_
   case r9 => apply Rd.add; (exact Rd.blk 1 rfl)
   case h9 => rfl
   refine WG.run tab_ok 2 rfl (WG.nil (WE.nxt (W.block ?_)))
   refine W.loopK (β := Nat × List Int) (fun (i, zs) => i ≤ zs.length ∧ zs.length = ck.vals.length ∧ ∀ j, j < ck.vals.length → nth zs j = (if j < i then nth ck.vals j - nth ck.vals 0 else nth ck.vals j)) (fun (i, zs) => [(45, true, .int .i64 (i : Int))]) [4, 5, 6, 44] [_, _, _, _] [] _ rfl (fun (i, zs) => [(0, .sl 3 1 a40 c40 (zs.map encI))]) (fun (i, zs) => zs.length - i) ((0, ck.vals)) (⟨Nat.zero_le _, rfl, fun j hj => by rw [if_neg (by omega)]⟩) ⟨rfl, rfl, rfl, rfl, rfl, rfl⟩ qS ?_
   intro st hst
   obtain ⟨i, zs⟩ := st
   dsimp only [zipE, setAll, List.cons_append, List.nil_append, List.set_cons_zero, List.set_cons_succ] at hst ⊢
   obtain ⟨hi, hzl, hz⟩ := hst
   refine W.seq (W.region _ (WG.run tab_ok 1 rfl (WG.nil (WE.nxt (W.seq ?_)))))
   refine W.condD rfl (fun hc2 => ?_) (fun hc2 => ?_)
   ·try dsimp only at hc2
    have hil : i < zs.length := by omega
    have hzi := hz i (by omega)
    rw [if_neg (by omega)] at hzi
    have hb1 := hvr.1 _ (nth_mem (xs := ck.vals) (k := i) (by omega))
    have hb0 := hvr.1 _ (nth_mem (xs := ck.vals) (k := 0) (by omega))
    refine W.skip (WE.nxt (W.seq (W.block (W.seq (W.region _ (WG.run tab_ok 2 rfl (WG.nil (WE.nxt (W.region _ (WG.run tab_ok 1 rfl ?_))))))))))
    refine' WG.y rfl rfl qD (Yl.load1 tab_ok rfl rfl rfl (fun _ => rfl) ?r10 rfl ?h10) ?_
    case r10 => apply Rd.add; (exact Rd.blk 1 rfl)
    case h10 => rfl
    refine WG.run tab_ok 1 rfl ?_
    refine WG.y rfl rfl qD (Yl.indexN tab_ok rfl rfl rfl rfl rfl rfl (fun _ => rfl) qN (by intro _; first | exact fun _ _ _ _ => ha40 qO | exact fun _ _ _ _ => rfl | exact RS.has qU | exact fun _ _ _ _ => qU | exact HasMem.ownD 0 rfl | exact HasMem.ownD 1 rfl | exact HasMem.ownD 2 rfl | exact HasMem.ownD 3 rfl | exact HasMem.ownD 4 rfl | exact HasMem.ownD 5 rfl)) ?_
    refine' WG.y rfl rfl qD (Yl.load1 tab_ok rfl rfl rfl (fun _ => rfl) ?r11 rfl ?h11) ?_
    case r11 => (exact Rd.slD 0 rfl qX)
    case h11 => rfl
    refine WG.run tab_ok 1 rfl ?_
    refine WG.y rfl rfl qD (Yl.sub rfl rfl rfl (fun _ => rfl) qA) ?_
    refine WG.y rfl rfl qD (Yl.indexN tab_ok rfl rfl rfl rfl rfl rfl (fun _ => rfl) qN (by intro _; first | exact fun _ _ _ _ => ha40 qO | exact fun _ _ _ _ => rfl | exact RS.has qU | exact fun _ _ _ _ => qU | exact HasMem.ownD 0 rfl | exact HasMem.ownD 1 rfl | exact HasMem.ownD 2 rfl | exact HasMem.ownD 3 rfl | exact HasMem.ownD 4 rfl | exact HasMem.ownD 5 rfl)) ?_
    refine WL.efN rfl rfl (Ef.storeD _ 0 tab_ok rfl rfl rfl rfl rfl qX rfl rfl rfl rfl ?_)
    refine WG.nil (WE.blk _ (WE.nxt (W.region _ ?_)))
    refine WG.y rfl rfl qD (Yl.add rfl rfl rfl (fun _ => rfl) qA) ?_
    refine WG.run tab_ok 1 rfl (WG.nil ?_)
    refine WE.again ((i + 1, zs.set i (nth zs i - nth ck.vals 0))) (⟨by dsimp only; rw [List.length_set]; omega, by dsimp only; rw [List.length_set]; exact hzl, fun j hj => by
     by_cases e : i = j
     ·subst e; rw [nth_set_self (by omega), if_pos (by omega), hzi]
     ·rw [nth_set_ne e, hz j hj]
      by_cases h2 : j < i
      ·rw [if_pos h2, if_pos (by omega)]
      ·rw [if_neg h2, if_neg (by omega)]⟩) (by dsimp only; rw [List.length_set]; omega) ⟨rfl, rfl, rfl, rfl, rfl, rfl⟩ (RLe.refl _) qS
   ·try dsimp only at hc2
    obtain hiE : i = zs.length := by omega
    refine W.cap 0 rfl ?_
    intro hcp
    rw [List.length_map] at hcp
    refine W.freeze (enc := encI) (xs := zs) 0 rfl ?_
    intro R2 hR2 hfz
    obtain ⟨hsz, hfz2, hz0⟩ := small_sub hsk hfT hzl (fun j hj => by rw [hz j hj, if_pos (by omega)])
    refine W.exit ?_
    refine WE.then_exit (WE.then_exit (WE.blk_exit (WE.nxt (W.seq (W.region _ ?_)))))
    refine' WG.y rfl rfl qD (Yl.load1 tab_ok rfl rfl rfl (fun _ => rfl) ?r12 rfl ?h12) ?_
    case r12 => (exact Rd.blk 0 rfl)
    case h12 => rfl
    refine WL.efN rfl rfl (Ef.store0 1 tab_ok rfl rfl rfl rfl rfl rfl rfl rfl ?_)
    refine WG.nil (WE.nxt (W.ret ?_))
    refine WE.retFS (E' := srcE b a cp xs (cn) :: F) qS tab_ok [_] rfl ⟨⟨_, _, _, rfl, rfl, rfl, ((by first | exact Rd.blk 0 rfl | exact Rd.blk 1 rfl | exact Rd.blk 2 rfl | exact Rd.blk 3 rfl | exact Rd.blk 4 rfl | exact Rd.blk 5 rfl)), rfl⟩, trivial⟩ ((by first | exact hRC.trans (hRk.trans hR2) | exact hRC.trans hRk)) ?_
    exact ⟨_, [], rfl, a40, c40, cn, ⟨zs, ck.per, ck.inc⟩, by dsimp only; rw [hzl]; rfl, hfz, hsz, hfz2, hz0, hcp, rfl, rfl⟩
  ·try dsimp only at hc1
   have h00 : nth ck.vals 0 = 0 := by have := valid_each hsk.valid 0 (by omega); unfold INF at this; omega
   refine W.skip (WE.nxt (W.seq (W.region _ ?_)))
   refine' WG.y rfl rfl qD (Yl.load1 tab_ok rfl rfl rfl (fun _ => rfl) ?r13 rfl ?h13) ?_
   case r13 => (exact Rd.blk 0 rfl)
   case h13 => rfl
   refine WL.efN rfl rfl (Ef.store0 1 tab_ok rfl rfl rfl rfl rfl rfl rfl rfl ?_)
   refine WG.nil (WE.nxt (W.ret ?_))
   refine WE.retFS (E' := srcE b a cp xs (cn) :: F) qS tab_ok [_] rfl ⟨⟨_, _, _, rfl, rfl, rfl, ((by first | exact Rd.blk 0 rfl | exact Rd.blk 1 rfl | exact Rd.blk 2 rfl | exact Rd.blk 3 rfl | exact Rd.blk 4 rfl | exact Rd.blk 5 rfl)), rfl⟩, trivial⟩ ((by first | exact hRC.trans (hRk.trans hR2) | exact hRC.trans hRk)) ?_
   exact ⟨_, [], rfl, fk, gk, cn, ck, rfl, hfk, hsk, hfT, h00, hgk, rfl, rfl⟩

end Go.Proofs.Ytnackbfnmhkodaa

/- Small curves; the reference of a valid curve, for any list. No condition. -/
set_option maxRecDepth 4000
set_option linter.unusedSimpArgs false
set_option linter.unusedVariables false
namespace Go.Proofs.Ytnackbfnmhkodaa
open Go Go.RowKit Go.Proofs.Ytnackbfnmhkodaa.K Go.Proofs.Ytnackbfnmhkodaa.M

theorem SmallK_V {R : Ro} {a : Option Addr} {n fc : Nat} {p q : Int} : FnV Try.prog 5 [.agg #[.slice a n fc, .int .i64 p, .int .i64 q]] R (.bool (decide ((n : Int) ≤ 800))) := by
 refine Fn.toV (fun w0 E => ?_)
 refine Fn.enter (n := 7) Try.func5 rfl rfl (Nat.le_of_ble_eq_true rfl) rfl ?_
 refine W.seq (W.region _ ?_)
 refine WL.ef rfl rfl qD (Ef.box rfl rfl (fun b1 => ?_))
 refine WG.run tab_ok 1 rfl (WG.nil (WE.nxt (W.seq (W.region _ (WG.run tab_ok 1 rfl ?_)))))
 refine' WG.y rfl rfl qD (Yl.load1 tab_ok rfl rfl rfl (fun _ => rfl) ?r1 rfl ?h1) ?_
 case r1 => apply Rd.add; (exact Rd.blk 0 rfl)
 case h1 => rfl
 refine WG.run tab_ok 3 rfl (WG.nil (WE.nxt (W.ret ?_)))
 refine WE.subE (E' := E) qS ?_
 refine WE.retF tab_ok [_] rfl ⟨rfl, trivial⟩ (RLe.refl _) ?_
 exact ⟨rfl, rfl⟩

theorem ValidA_V {R : Ro} {a : Option Addr} {c : Nat} {v : List Int} {per inc : Int} (ha : RS R 1 encI a v) : FnV Try.prog 27 [.agg #[.slice a v.length c, .int .i64 per, .int .i64 inc]] R (.bool (validB ⟨v, per, inc⟩)) := by
 have hla := ha.len
 refine Fn.toV (fun w0 E => ?_)
 refine Fn.enter (n := 118) Try.func27 rfl rfl (Nat.le_of_ble_eq_true rfl) rfl ?_
 refine W.seq (W.region _ ?_)
 refine WL.ef rfl rfl qD (Ef.box rfl rfl (fun b1 => ?_))
 refine WG.run tab_ok 1 rfl (WG.nil (WE.nxt (W.seq (W.region _ (WG.run tab_ok 1 rfl ?_)))))
 refine' WG.y rfl rfl qD (Yl.load1 tab_ok rfl rfl rfl (fun _ => rfl) ?r1 rfl ?h1) ?_
 case r1 => apply Rd.add; (exact Rd.blk 0 rfl)
 case h1 => rfl
 refine WG.run tab_ok 2 rfl (WG.nil (WE.nxt (W.seq (W.seq (W.region _ (WG.run tab_ok 3 rfl ?_))))))
 refine WG.y rfl rfl qD (pureV_ok tab_ok rfl qE) ?_
 refine WG.y rfl rfl qD (pureV_ok tab_ok rfl qE) ?_
 refine WG.y rfl rfl (by decide) (Yl.por rfl rfl rfl (fun _ => rfl) (by intro h1 h2; simp_all <;> omega)) ?_
 refine WG.run tab_ok 1 rfl ?_
 refine WG.y rfl rfl qD (pureV_ok tab_ok rfl qE) ?_
 refine' WG.y rfl rfl qD (Yl.loadG tab_ok rfl rfl rfl qE ?r2 rfl ?h2 ?g2) ?_
 case r2 => apply Rd.addC; (exact Rd.blkC 0 rfl)
 case h2 => rfl
 case g2 => exact fun _ => trivial
 refine WG.y rfl rfl qD (pureV_ok tab_ok rfl qE) ?_
 refine WG.y rfl rfl (by decide) (Yl.por rfl rfl rfl (fun _ => rfl) (by intro h1 h2; simp_all <;> omega)) ?_
 refine WG.run tab_ok 1 rfl ?_
 refine WG.y rfl rfl qD (pureV_ok tab_ok rfl qE) ?_
 refine' WG.y rfl rfl qD (Yl.loadG tab_ok rfl rfl rfl qE ?r3 rfl ?h3 ?g3) ?_
 case r3 => apply Rd.addC; (exact Rd.blkC 0 rfl)
 case h3 => rfl
 case g3 => exact fun _ => trivial
 refine WG.y rfl rfl qD (pureV_ok tab_ok rfl qE) ?_
 refine WG.y rfl rfl (by decide) (Yl.por rfl rfl rfl (fun _ => rfl) (by intro h1 h2; simp_all <;> omega)) ?_
 refine WG.run tab_ok 1 rfl ?_
 refine WG.y rfl rfl qD (pureV_ok tab_ok rfl qE) ?_
 refine' WG.y rfl rfl qD (Yl.loadG tab_ok rfl rfl rfl qE ?r4 rfl ?h4 ?g4) ?_
 case r4 => apply Rd.addC; (exact Rd.blkC 0 rfl)
 case h4 => rfl
 case g4 => exact fun _ => trivial
 refine WG.y rfl rfl qD (pureV_ok tab_ok rfl qE) ?_
 refine WG.y rfl rfl qD (pureV_ok tab_ok rfl qE) ?_
 refine WG.y rfl rfl (by decide) (Yl.por rfl rfl rfl (fun _ => rfl) (by intro h1 h2; simp_all <;> omega)) ?_
 refine WG.run tab_ok 1 rfl ?_
 refine WG.y rfl rfl qD (pureV_ok tab_ok rfl qE) ?_
 refine' WG.y rfl rfl qD (Yl.loadG tab_ok rfl rfl rfl qE ?r5 rfl ?h5 ?g5) ?_
 case r5 => apply Rd.addC; (exact Rd.blkC 0 rfl)
 case h5 => rfl
 case g5 => exact fun _ => trivial
 refine WG.y rfl rfl qD (pureV_ok tab_ok rfl qE) ?_
 refine WG.y rfl rfl (by decide) (Yl.por rfl rfl rfl (fun _ => rfl) (by intro h1 h2; simp_all <;> omega)) ?_
 refine WG.run tab_ok 1 rfl ?_
 refine WG.y rfl rfl qD (pureV_ok tab_ok rfl qE) ?_
 refine' WG.y rfl rfl qD (Yl.loadG tab_ok rfl rfl rfl qE ?r6 rfl ?h6 ?g6) ?_
 case r6 => apply Rd.addC; (exact Rd.blkC 0 rfl)
 case h6 => rfl
 case g6 => exact fun _ => trivial
 refine WG.y rfl rfl qD (pureV_ok tab_ok rfl qE) ?_
 refine WG.y rfl rfl (by decide) (Yl.por rfl rfl rfl (fun _ => rfl) (by intro h1 h2; simp_all <;> omega)) ?_
 refine WG.nil (WE.nxt ?_)
 refine W.cond rfl (fun hc0 => ?_) (fun hc0 => ?_)
 ·try simp only [kk] at hc0
  have hno : validB ⟨v, per, inc⟩ = false := validB_false (fun h => by obtain ⟨⟨a1, a2, a3, a4, a5, a6, a7⟩, _⟩ := h; dsimp only at a1 a2 a3 a4 a5 a6 a7; unfold MAXV at a7; omega)
  refine W.seq (W.region _ (WG.run tab_ok 1 rfl (WG.nil (WE.nxt (W.ret (WE.then_ret ?_))))))
  refine WE.subE (E' := E) qS ?_
  refine WE.retF tab_ok [_] rfl ⟨rfl, trivial⟩ (RLe.refl _) ?_
  exact ⟨by rw [hno]; rfl, rfl⟩
 ·try simp only [kk] at hc0
  have hall : 1 ≤ v.length ∧ v.length ≤ 400 ∧ 1 ≤ per ∧ per ≤ 120 ∧ per ≤ v.length ∧ 0 ≤ inc ∧ inc ≤ MAXV := by unfold MAXV; omega
  refine W.skip (WE.nxt (W.seq (W.seq (W.region _ (WG.run tab_ok 1 rfl (WG.nil (WE.nxt (W.block ?_))))))))
  refine W.loopK (β := Nat) (fun i => i ≤ v.length ∧ ∀ j, j < i → (nth v j = INF ∨ (0 ≤ nth v j ∧ nth v j ≤ MAXV)) ∧ (j = 0 ∨ nth v (j - 1) ≤ nth v j)) (fun i => [(4, true, .int .i64 (i : Int))]) [1, 3] [_, _] [] _ rfl (fun i => []) (fun i => v.length - i) (0) (⟨Nat.zero_le _, fun j hj => by omega⟩) ⟨rfl, rfl, rfl, rfl⟩ qS ?_
  intro i hst
  dsimp only [zipE, setAll, List.cons_append, List.nil_append, List.set_cons_zero, List.set_cons_succ] at hst ⊢
  
  refine W.seq (W.seq (W.region _ (WG.run tab_ok 3 rfl (WG.nil (WE.nxt ?_)))))
  refine W.condD rfl (fun hc1 => ?_) (fun hc1 => ?_)
  ·try dsimp only at hc1
   have hil : i < v.length := by omega
   have e1 : 0 < i → ((i : Int) - 1).toNat = i - 1 := fun _ => by omega
   refine W.skip (WE.nxt (W.seq (W.block (W.seq ?_))))
   refine W.regionQ _ mixed qK ?_
   refine WG.run tab_ok 1 rfl ?_
   refine' WG.y rfl rfl qD (Yl.load1 tab_ok rfl rfl rfl (fun _ => rfl) ?r7 rfl ?h7) ?_
   case r7 => apply Rd.add; (exact Rd.blk 0 rfl)
   case h7 => rfl
   refine WG.run tab_ok 1 rfl ?_
   refine WG.y rfl rfl qD (Yl.indexN tab_ok rfl rfl rfl rfl rfl rfl (fun _ => rfl) qN qH) ?_
   refine' WG.y rfl rfl qD (Yl.load1 tab_ok rfl rfl rfl (fun _ => rfl) ?r8 rfl ?h8) ?_
   case r8 => ((apply RS.rdD; assumption; ((try dsimp only) <;> omega)))
   case h8 => rfl
   refine WG.run tab_ok 2 rfl ?_
   refine WG.y rfl rfl qD (pureV_ok tab_ok rfl qE) ?_
   refine' WG.y rfl rfl qD (Yl.loadG tab_ok rfl rfl rfl qE ?r9 rfl ?h9 ?g9) ?_
   case r9 => apply Rd.addC; (exact Rd.blkC 0 rfl)
   case h9 => rfl
   case g9 => exact fun _ => trivial
   refine WG.y rfl rfl qD (pureV_ok tab_ok rfl qE) ?_
   refine WG.y rfl rfl (by decide) (Yl.indexN tab_ok rfl rfl rfl rfl rfl rfl qE (by intro hg; (try simp only [kk] at hg); (try dsimp only) <;> omega) (by intro hg; (try simp only [kk] at hg); first | exact fun _ _ _ _ => rfl | exact RS.has (by assumption) | exact fun _ _ _ _ => (by assumption) | exact HasMem.ownD 0 rfl | exact HasMem.ownD 1 rfl | exact HasMem.ownD 2 rfl)) ?_
   refine' WG.y rfl rfl qD (Yl.loadG tab_ok rfl rfl rfl qE ?r10 rfl ?h10 ?g10) ?_
   case r10 => ((apply RS.rdC; assumption))
   case h10 => rfl
   case g10 => (intro hg; (try simp only [kk] at hg); (try dsimp only); omega)
   refine WG.y rfl rfl qD (pureV_ok tab_ok rfl qE) ?_
   refine WG.y rfl rfl qD (pureV_ok tab_ok rfl qE) ?_
   refine WG.y rfl rfl qD (pureV_ok tab_ok rfl qE) ?_
   refine' WG.y rfl rfl qD (Yl.loadG tab_ok rfl rfl rfl qE ?r11 rfl ?h11 ?g11) ?_
   case r11 => apply Rd.addC; (exact Rd.blkC 0 rfl)
   case h11 => rfl
   case g11 => exact fun _ => trivial
   refine WG.y rfl rfl qD (pureV_ok tab_ok rfl qE) ?_
   refine WG.y rfl rfl (by decide) (Yl.indexN tab_ok rfl rfl rfl rfl rfl rfl qE (by intro hg; (try simp only [kk] at hg); (try dsimp only) <;> omega) (by intro hg; (try simp only [kk] at hg); first | exact fun _ _ _ _ => rfl | exact RS.has (by assumption) | exact fun _ _ _ _ => (by assumption) | exact HasMem.ownD 0 rfl | exact HasMem.ownD 1 rfl | exact HasMem.ownD 2 rfl)) ?_
   refine' WG.y rfl rfl qD (Yl.loadG tab_ok rfl rfl rfl qE ?r12 rfl ?h12 ?g12) ?_
   case r12 => ((apply RS.rdC; assumption))
   case h12 => rfl
   case g12 => (intro hg; (try simp only [kk] at hg); (try dsimp only); omega)
   refine WG.y rfl rfl qD (pureV_ok tab_ok rfl qE) ?_
   refine WG.y rfl rfl (by decide) (Yl.por rfl rfl rfl qE (by intro h1 h2; simp_all <;> omega)) ?_
   refine WG.y rfl rfl (by decide) (Yl.pand rfl rfl rfl (fun _ => rfl) (by intro h1 h2; simp_all <;> omega)) ?_
   refine WG.run tab_ok 1 rfl ?_
   refine WG.y rfl rfl qD (pureV_ok tab_ok rfl qE) ?_
   refine WG.y rfl rfl qD (pureV_ok tab_ok rfl qE) ?_
   refine WG.y rfl rfl qD (pureV_ok tab_ok rfl qE) ?_
   refine WG.y rfl rfl qD (pureV_ok tab_ok rfl qE) ?_
   refine' WG.y rfl rfl qD (Yl.loadG tab_ok rfl rfl rfl qE ?r13 rfl ?h13 ?g13) ?_
   case r13 => apply Rd.addC; (exact Rd.blkC 0 rfl)
   case h13 => rfl
   case g13 => exact fun _ => trivial
   refine WG.y rfl rfl qD (pureV_ok tab_ok rfl qE) ?_
   refine WG.y rfl rfl (by decide) (Yl.indexN tab_ok rfl rfl rfl rfl rfl rfl qE (by intro hg; (try simp only [kk] at hg); (try dsimp only) <;> omega) (by intro hg; (try simp only [kk] at hg); first | exact fun _ _ _ _ => rfl | exact RS.has (by assumption) | exact fun _ _ _ _ => (by assumption) | exact HasMem.ownD 0 rfl | exact HasMem.ownD 1 rfl | exact HasMem.ownD 2 rfl)) ?_
   refine' WG.y rfl rfl qD (Yl.loadG tab_ok rfl rfl rfl qE ?r14 rfl ?h14 ?g14) ?_
   case r14 => ((apply RS.rdC; assumption))
   case h14 => rfl
   case g14 => (intro hg; (try simp only [kk] at hg); (try dsimp only); omega)
   refine WG.y rfl rfl qD (pureV_ok tab_ok rfl qE) ?_
   refine' WG.y rfl rfl qD (Yl.loadG tab_ok rfl rfl rfl qE ?r15 rfl ?h15 ?g15) ?_
   case r15 => apply Rd.addC; (exact Rd.blkC 0 rfl)
   case h15 => rfl
   case g15 => exact fun _ => trivial
   refine WG.y rfl rfl qD (pureV_ok tab_ok rfl qE) ?_
   refine WG.y rfl rfl (by decide) (Yl.sub rfl rfl rfl qE (by intro hg; (try simp only [kk] at hg); constructor <;> (try dsimp only) <;> omega)) ?_
   refine WG.y rfl rfl (by decide) (Yl.index tab_ok rfl rfl rfl rfl rfl rfl qE (by intro hg; (try simp only [kk] at hg); constructor <;> (try dsimp only) <;> omega) (by intro hg; (try simp only [kk] at hg); first | exact fun _ _ _ _ => rfl | exact RS.has (by assumption) | exact fun _ _ _ _ => (by assumption) | exact HasMem.ownD 0 rfl | exact HasMem.ownD 1 rfl | exact HasMem.ownD 2 rfl)) ?_
   refine' WG.y rfl rfl qD (Yl.loadG tab_ok rfl rfl rfl qE ?r16 rfl ?h16 ?g16) ?_
   case r16 => ((apply RS.rdC; assumption))
   case h16 => rfl
   case g16 => (intro hg; (try simp only [kk] at hg); (try dsimp only); omega)
   refine WG.y rfl rfl qD (pureV_ok tab_ok rfl qE) ?_
   refine WG.y rfl rfl (by decide) (Yl.pand rfl rfl rfl qE (by intro h1 h2; simp_all <;> omega)) ?_
   refine WG.y rfl rfl (by decide) (Yl.por rfl rfl rfl (fun _ => rfl) (by intro h1 h2; simp_all <;> omega)) ?_
   refine WG.nil (WE.nxt ?_)
   refine W.cond rfl (fun hc2 => ?_) (fun hc2 => ?_)
   ·try simp only [kk] at hc2
    have hno : validB ⟨v, per, inc⟩ = false := validB_false (fun h => by
     obtain ⟨_, h2, _⟩ := h
     have h2 := h2 i hil
     dsimp only at h2
     unfold INF MAXV at h2
     rcases hc2 with ⟨x1, x2⟩ | ⟨x1, x2⟩
     ·omega
     ·rw [e1 (by omega)] at x2; omega)
    refine W.seq (W.region _ (WG.run tab_ok 1 rfl (WG.nil (WE.nxt (W.ret (WE.blk_ret (WE.then_ret (WE.then_ret (WE.blk_ret (WE.then_ret ?_))))))))))
    refine WE.subE (E' := E) qS ?_
    refine WE.retF tab_ok [_] rfl ⟨rfl, trivial⟩ (RLe.refl _) ?_
    exact ⟨by rw [hno]; rfl, rfl⟩
   ·try simp only [kk] at hc2
    have hy : (nth v i = INF ∨ (0 ≤ nth v i ∧ nth v i ≤ MAXV)) ∧ (i = 0 ∨ nth v (i - 1) ≤ nth v i) := by
     obtain ⟨x1, x2⟩ := hc2
     unfold INF MAXV
     refine ⟨by omega, ?_⟩
     by_cases h : i = 0
     ·exact .inl h
     ·have := x2 (by omega)
      rw [e1 (by omega)] at this
      right; omega
    refine W.skip (WE.blk _ (WE.nxt (W.region _ (WG.run tab_ok 1 rfl ?_))))
    refine WG.y rfl rfl qD (Yl.add rfl rfl rfl (fun _ => rfl) qA) ?_
    refine WG.run tab_ok 1 rfl (WG.nil ?_)
    refine WE.again (i + 1) (⟨by omega, fun j hj => by
     by_cases e : j = i
     ·subst e; exact hy
     ·exact hst.2 j (by omega)⟩) (by (try dsimp only); omega) ⟨rfl, rfl, rfl, rfl⟩ (RLe.refl _) qS
  ·try dsimp only at hc1
   obtain rfl : i = v.length := by omega
   have hvn : ∀ j, j < v.length → 0 ≤ nth v j ∧ nth v j ≤ 4611686018427387904 := fun j hj => by
    have := (hst.2 j hj).1
    unfold INF MAXV at this
    omega
   have e2 : ((v.length : Int) - 1).toNat = v.length - 1 := by omega
   have e3 : ((v.length : Int) - per).toNat = v.length - per.toNat := by omega
   have hx1 := hvn (((v.length : Int) - 1).toNat) (by omega)
   have hx2 := hvn (((v.length : Int) - per).toNat) (by omega)
   have hx2b : nth v ((v.length : Int) - 1).toNat ≠ 4611686018427387904 → nth v ((v.length : Int) - per).toNat + inc ≤ 4611686018427387904 + 1073741824 := fun _ => by unfold MAXV at hall; omega
   refine W.exit ?_
   refine WE.then_exit (WE.then_exit (WE.blk_exit (WE.nxt (W.seq (W.seq (W.region _ (WG.run tab_ok 1 rfl ?_)))))))
   refine' WG.y rfl rfl qD (Yl.load1 tab_ok rfl rfl rfl (fun _ => rfl) ?r17 rfl ?h17) ?_
   case r17 => apply Rd.add; (exact Rd.blk 0 rfl)
   case h17 => rfl
   refine WG.run tab_ok 1 rfl ?_
   refine WG.y rfl rfl qD (Yl.sub rfl rfl rfl (fun _ => rfl) qA) ?_
   refine WG.y rfl rfl qD (Yl.index tab_ok rfl rfl rfl rfl rfl rfl (fun _ => rfl) qA qH) ?_
   refine' WG.y rfl rfl qD (Yl.load1 tab_ok rfl rfl rfl (fun _ => rfl) ?r18 rfl ?h18) ?_
   case r18 => exact RS.rdD ha qO
   case h18 => rfl
   refine WG.run tab_ok 1 rfl (WG.nil (WE.nxt ?_))
   refine W.condE rfl (fun hc3 => ?_) (fun hc3 => ?_)
   ·try dsimp only at hc3
    have hif : (if nth v (v.length - 1) = INF then per = 1 ∧ inc = 0 else nth v (v.length - 1) ≤ nth v (v.length - per.toNat) + inc) ↔ (per = 1 ∧ inc = 0) := by rw [if_pos (by rw [← e2]; exact hc3)]
    refine W.seq (W.region _ (WG.run tab_ok 1 rfl ?_))
    refine' WG.y rfl rfl qD (Yl.load1 tab_ok rfl rfl rfl (fun _ => rfl) ?r19 rfl ?h19) ?_
    case r19 => apply Rd.add; (exact Rd.blk 0 rfl)
    case h19 => rfl
    refine WG.run tab_ok 2 rfl ?_
    refine WG.y rfl rfl qD (pureV_ok tab_ok rfl qE) ?_
    refine' WG.y rfl rfl qD (Yl.loadG tab_ok rfl rfl rfl qE ?r20 rfl ?h20 ?g20) ?_
    case r20 => apply Rd.addC; (exact Rd.blkC 0 rfl)
    case h20 => rfl
    case g20 => exact fun _ => trivial
    refine WG.y rfl rfl qD (pureV_ok tab_ok rfl qE) ?_
    refine WG.y rfl rfl (by decide) (Yl.pand rfl rfl rfl (fun _ => rfl) (by intro h1 h2; simp_all <;> omega)) ?_
    refine WG.run tab_ok 1 rfl (WG.nil (WE.nxt (W.ret (WE.then_ret ?_))))
    refine WE.subE (E' := E) qS ?_
    refine WE.retF tab_ok [_] rfl ⟨rfl, trivial⟩ (RLe.refl _) ?_
    refine ⟨congrArg Value.bool ?_, rfl⟩
    rw [Bool.eq_iff_iff, validB_iff]
    dsimp only
    rw [hif]
    simp only [Bool.and_eq_true, beq_iff_eq]
    exact ⟨fun h => ⟨hall, fun j hj => hst.2 j hj, h⟩, fun h => h.2.2⟩
   ·try dsimp only at hc3
    have hif : (if nth v (v.length - 1) = INF then per = 1 ∧ inc = 0 else nth v (v.length - 1) ≤ nth v (v.length - per.toNat) + inc) ↔ (nth v (v.length - 1) ≤ nth v (v.length - per.toNat) + inc) := by rw [if_neg (by rw [← e2]; exact hc3)]
    refine W.skip (WE.nxt (W.seq ?_))
    refine W.regionQ _ mixed qK ?_
    refine WG.run tab_ok 1 rfl ?_
    refine' WG.y rfl rfl qD (Yl.load1 tab_ok rfl rfl rfl (fun _ => rfl) ?r21 rfl ?h21) ?_
    case r21 => apply Rd.add; (exact Rd.blk 0 rfl)
    case h21 => rfl
    refine WG.run tab_ok 2 rfl ?_
    refine' WG.y rfl rfl qD (Yl.load1 tab_ok rfl rfl rfl (fun _ => rfl) ?r22 rfl ?h22) ?_
    case r22 => apply Rd.add; (exact Rd.blk 0 rfl)
    case h22 => rfl
    refine WG.y rfl rfl qD (Yl.sub rfl rfl rfl (fun _ => rfl) qA) ?_
    refine WG.y rfl rfl qD (Yl.index tab_ok rfl rfl rfl rfl rfl rfl (fun _ => rfl) qA qH) ?_
    refine' WG.y rfl rfl qD (Yl.load1 tab_ok rfl rfl rfl (fun _ => rfl) ?r23 rfl ?h23) ?_
    case r23 => exact RS.rdD ha qO
    case h23 => rfl
    refine WG.run tab_ok 1 rfl ?_
    refine' WG.y rfl rfl qD (Yl.load1 tab_ok rfl rfl rfl (fun _ => rfl) ?r24 rfl ?h24) ?_
    case r24 => apply Rd.add; (exact Rd.blk 0 rfl)
    case h24 => rfl
    refine WG.y rfl rfl qD (Yl.add rfl rfl rfl (fun _ => rfl) qA) ?_
    refine WG.run tab_ok 1 rfl ?_
    refine' WG.y rfl rfl qD (Yl.load1 tab_ok rfl rfl rfl (fun _ => rfl) ?r25 rfl ?h25) ?_
    case r25 => apply Rd.add; (exact Rd.blk 0 rfl)
    case h25 => rfl
    refine WG.run tab_ok 1 rfl ?_
    refine WG.y rfl rfl qD (Yl.sub rfl rfl rfl (fun _ => rfl) qA) ?_
    refine WG.y rfl rfl qD (Yl.index tab_ok rfl rfl rfl rfl rfl rfl (fun _ => rfl) qA qH) ?_
    refine' WG.y rfl rfl qD (Yl.load1 tab_ok rfl rfl rfl (fun _ => rfl) ?r26 rfl ?h26) ?_
    case r26 => exact RS.rdD ha qO
    case h26 => rfl
    refine WG.run tab_ok 2 rfl (WG.nil (WE.nxt (W.ret ?_)))
    refine WE.subE (E' := E) qS ?_
    refine WE.retF tab_ok [_] rfl ⟨rfl, trivial⟩ (RLe.refl _) ?_
    refine ⟨congrArg Value.bool ?_, rfl⟩
    rw [Bool.eq_iff_iff, validB_iff]
    dsimp only
    rw [hif, e2, e3]
    simp only [decide_eq_true_eq]
    exact ⟨fun h => ⟨hall, fun j hj => hst.2 j hj, h⟩, fun h => h.2.2⟩

end Go.Proofs.Ytnackbfnmhkodaa
