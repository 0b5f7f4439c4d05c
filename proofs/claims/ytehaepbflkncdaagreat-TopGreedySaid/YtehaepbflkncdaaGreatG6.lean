/- Rules and walks, joined from 28 texts: the first of them says: Numbers, Some. No condition. -/
import Derived.Test.YtehaepbflkncdaaGreatG5
set_option linter.unusedSimpArgs false
set_option linter.unusedVariables false
set_option linter.unnecessarySimpa false
set_option maxRecDepth 4000
set_option linter.unusedSimpArgs false
set_option linter.unusedVariables false
namespace Go.Proofs.YtehaepbflkncdaaGreat
open Go Go.RowKit Go.Proofs.YtehaepbflkncdaaGreat.K Go.Proofs.YtehaepbflkncdaaGreat.M
theorem Numbers_C {R : Ro} {b : Nat} {a : Option Addr} {cp : Nat} {xs : List Int} {c : Nat} (w0 : World) (ha : RS R 1 encI a xs) {many m : Nat} (hm : 1 ≤ m ∧ m ≤ 1000) (hmany : many ≤ 1000) : FnAt Tryz.prog 11 [.pointer (some ⟨b, 0, none⟩), .int .i64 (many : Int), .int .i64 (m : Int)] w0 R (srcE b a cp xs c)
  (fun v R' e' N => ∃ (a' : Option Addr) (c' cn : Nat) (ys : List Int), v = .slice a' ys.length c' ∧ RS R' 1 encI a' ys ∧ ys.length = many ∧ (∀ y ∈ ys, 0 ≤ y ∧ y < (m : Int)) ∧ e' = srcE b a cp xs cn ∧ N = []) := by
 intro F
 refine fE 21 Tryz.func11 ?_
 refine zQ (zG (zR 1 rfl (zN (zU (zQ (zG (zR 1 rfl (zN (zU (zQ ?_))))))))))
 refine W.nil 3 1 qD ?_
 refine zQ (zG (zR 1 rfl (zN (zU (zB ?_)))))
 refine W.loopK (β := List Int × Nat × Option Addr × Nat × Nat) (fun (ys, cn, a9, c9, i) => i = ys.length ∧ i ≤ many ∧ ∀ y ∈ ys, 0 ≤ y ∧ y < (m : Int)) (fun (ys, cn, a9, c9, i) => [(7, true, .slice a9 ys.length c9), (8, true, .int .i64 (i : Int))]) [0, 1, 2] [_, _, _] [] _ rfl (fun (ys, cn, a9, c9, i) => [(0, .sl 3 1 a9 c9 (ys.map encI)), (1, srcE b a cp xs cn)]) (fun (ys, cn, a9, c9, i) => many - i) (([], c, none, 0, 0)) (⟨rfl, Nat.zero_le _, fun y h => (by cases h)⟩) ⟨rfl, rfl, rfl, rfl, rfl, rfl⟩ qS ?_
 intro zz hst
 obtain ⟨ys, cn, a9, c9, i⟩ := zz
 dsimp only [zipE, setAll, List.cons_append, List.nil_append, List.set_cons_zero, List.set_cons_succ] at hst ⊢
 obtain ⟨hiy, hyl, hyb⟩ := hst
 have hmr := mod_range (nth xs cn) (show (1 : Int) ≤ (m : Int) by omega)
 refine zQ (zQ (zG (zR 3 rfl (zN (zU ?_)))))
 refine cD rfl ?_ ?_ <;> intro hc0
 ·try dsimp only at hc0
  have hil : i < many := by omega
  refine zK (zU (zQ (zB (zG (zR 3 rfl ?_)))))
  refine WL.callAt 1 en29 rfl rfl qD (CallOp.mkT rfl rfl rfl rfl) rfl (N_C w0 ha (by constructor <;> omega) _) ?_
  rintro _ _ _ _ - ⟨rfl, rfl, rfl, rfl⟩
  refine WL.ef rfl rfl qD (Ef.buildSliceD (enc := encI) (parts := [.tmp 17]) [mod (nth xs cn) (m : Int)] tab_ok rfl rfl rfl rfl rfl rfl rfl rfl qD qD (fun a18 => ?_))
  first | refine WL.ef rfl rfl (by decide) (Ef.appendD 1 0 tab_ok rfl rfl rfl rfl rfl rfl rfl rfl rfl rfl rfl (fun _ _ => rfl) (by simp only [List.length_cons, List.length_nil]; omega) (by simp only [List.length_cons, List.length_nil]; omega) (fun a19 c19 ha19 => ?_)) | refine WL.ef rfl rfl (by decide) (Ef.appendD 2 0 tab_ok rfl rfl rfl rfl rfl rfl rfl rfl rfl rfl rfl (fun _ _ => rfl) (by simp only [List.length_cons, List.length_nil]; omega) (by simp only [List.length_cons, List.length_nil]; omega) (fun a19 c19 ha19 => ?_)) | refine WL.ef rfl rfl (by decide) (Ef.appendD 3 0 tab_ok rfl rfl rfl rfl rfl rfl rfl rfl rfl rfl rfl (fun _ _ => rfl) (by simp only [List.length_cons, List.length_nil]; omega) (by simp only [List.length_cons, List.length_nil]; omega) (fun a19 c19 ha19 => ?_)) | refine WL.ef rfl rfl (by decide) (Ef.appendD 4 0 tab_ok rfl rfl rfl rfl rfl rfl rfl rfl rfl rfl rfl (fun _ _ => rfl) (by simp only [List.length_cons, List.length_nil]; omega) (by simp only [List.length_cons, List.length_nil]; omega) (fun a19 c19 ha19 => ?_)) | refine WL.ef rfl rfl (by decide) (Ef.appendR 0 tab_ok rfl rfl rfl rfl rfl rfl rfl rfl rfl rfl (by assumption) (fun _ _ => rfl) (by (try dsimp only); omega) (by omega) (fun a19 c19 ha19 => ?_)) | refine WL.ef rfl rfl (by decide) (Ef.appendR 1 tab_ok rfl rfl rfl rfl rfl rfl rfl rfl rfl rfl (by assumption) (fun _ _ => rfl) (by (try dsimp only); omega) (by omega) (fun a19 c19 ha19 => ?_)) | refine WL.ef rfl rfl (by decide) (Ef.appendR 2 tab_ok rfl rfl rfl rfl rfl rfl rfl rfl rfl rfl (by assumption) (fun _ _ => rfl) (by (try dsimp only); omega) (by omega) (fun a19 c19 ha19 => ?_)) | refine WL.ef rfl rfl (by decide) (Ef.appendR 3 tab_ok rfl rfl rfl rfl rfl rfl rfl rfl rfl rfl (by assumption) (fun _ _ => rfl) (by (try dsimp only); omega) (by omega) (fun a19 c19 ha19 => ?_)) | refine WL.ef rfl rfl (by decide) (Ef.appendR 4 tab_ok rfl rfl rfl rfl rfl rfl rfl rfl rfl rfl (by assumption) (fun _ _ => rfl) (by (try dsimp only); omega) (by omega) (fun a19 c19 ha19 => ?_))
  refine zR 1 rfl (zN (zL (zU (zG (zR 1 rfl ?_)))))
  refine yA ?_
  refine zR 1 rfl (zN ?_)
  refine WE.again ((ys ++ [mod (nth xs cn) (m : Int)], cn + 1, a19, c19, i + 1)) (⟨by rw [List.length_append]; show i + 1 = ys.length + 1; omega, by (try dsimp only); omega, fun y hy => by rcases List.mem_append.1 hy with h | h; exact hyb y h; rw [List.mem_singleton.1 h]; exact hmr⟩) (by (try dsimp only); omega) ⟨rfl, rfl, rfl, rfl, rfl, rfl⟩ (RLe.refl _) qS
 ·try dsimp only at hc0
  obtain rfl : i = many := by omega
  refine W.freeze (enc := encI) (xs := ys) 0 rfl ?_
  intro R1 hR1 hqs
  refine zX ?_
  refine wx (wx (zY (zU (zQ (zG (zR 2 rfl (zN (zU (zT ?_)))))))))
  refine WE.subE (E' := srcE b a cp xs (cn) :: F) qS ?_
  refine zq1 (hR1) ?_
  exact ⟨_, [], rfl, _, _, _, _, rfl, hqs, hiy.symm, hyb, rfl, rfl⟩
theorem Some_C {R : Ro} {b : Nat} {a : Option Addr} {cp : Nat} {xs : List Int} {c : Nat} {pa : Option Addr} {pc : Nat} {ps : List Pkt} (w0 : World) (ha : RS R 1 encI a xs) (hp : RS R 3 encP pa ps) (hpl : ps.length ≤ 1000) : FnAt Tryz.prog 13 [.pointer (some ⟨b, 0, none⟩), .slice pa ps.length pc] w0 R (srcE b a cp xs c)
  (fun v R' e' N => ∃ (a' : Option Addr) (c' cn : Nat) (qs : List Pkt), v = .slice a' qs.length c' ∧ RS R' 3 encP a' qs ∧ qs.Sublist ps ∧ e' = srcE b a cp xs cn ∧ N = []) := by
 intro F
 refine fE 24 Tryz.func13 ?_
 refine zQ (zG (zR 1 rfl (zN (zU (zQ (zG (zR 1 rfl (zN (zU (zQ ?_))))))))))
 refine W.nil 55 3 qD ?_
 refine zQ (zG (zR 1 rfl (zN (zU (zB ?_)))))
 refine W.loopK (β := List Pkt × Nat × Option Addr × Nat × Nat) (fun (qs, cn, a9, c9, i) => i ≤ ps.length ∧ qs.length ≤ i ∧ qs.Sublist (ps.take i)) (fun (qs, cn, a9, c9, i) => [(5, true, .slice a9 qs.length c9), (6, true, .int .i64 (i : Int))]) [0, 1] [_, _] [] _ rfl (fun (qs, cn, a9, c9, i) => [(0, .sl 55 3 a9 c9 (qs.map encP)), (1, srcE b a cp xs cn)]) (fun (qs, cn, a9, c9, i) => ps.length - i) (([], c, none, 0, 0)) (⟨Nat.zero_le _, Nat.le_refl _, List.Sublist.refl _⟩) ⟨rfl, rfl, rfl, rfl, rfl⟩ qS ?_
 intro zz hst
 obtain ⟨qs, cn, a9, c9, i⟩ := zz
 dsimp only [zipE, setAll, List.cons_append, List.nil_append, List.set_cons_zero, List.set_cons_succ] at hst ⊢
 obtain ⟨hi, hql, hsub⟩ := hst
 refine zQ (zQ (zG (zR 4 rfl (zN (zU ?_)))))
 refine cD rfl ?_ ?_ <;> intro hc0
 ·try dsimp only at hc0
  have hil : i < ps.length := by omega
  have etk : ps.take (i + 1) = ps.take i ++ [nth ps i] := by rw [List.take_succ_eq_append_getElem hil, nth_eq hil]
  refine zK (zU (zQ (zB (zQ (zG (zR 1 rfl ?_))))))
  refine WL.callAt 1 en29 rfl rfl qD (CallOp.mkT rfl rfl rfl rfl) rfl (N_C w0 ha (by constructor <;> omega) _) ?_
  rintro _ _ _ _ - ⟨rfl, rfl, rfl, rfl⟩
  refine zR 1 rfl (zN (zU ?_))
  refine cD rfl ?_ ?_ <;> intro hc1
  ·try dsimp only at hc1
   refine zG (zR 3 rfl ?_)
   refine yI ?_
   refine yD (r := by (first | (apply RS.rdD; assumption; ((try dsimp only) <;> omega)) | exact Rd.slD 0 rfl qX | exact Rd.slD 1 rfl qX | exact Rd.slD 2 rfl qX | exact Rd.slD 3 rfl qX | exact Rd.slD 4 rfl qX)) (k := ?_)
   refine WL.ef rfl rfl qD (Ef.buildSliceD (enc := encP) (parts := [.tmp 20]) [nth ps i] tab_ok rfl rfl rfl rfl rfl rfl rfl rfl qD qD (fun a21 => ?_))
   first | refine WL.ef rfl rfl (by decide) (Ef.appendD 1 0 tab_ok rfl rfl rfl rfl rfl rfl rfl rfl rfl rfl rfl (fun _ _ => rfl) (by simp only [List.length_cons, List.length_nil]; omega) (by simp only [List.length_cons, List.length_nil]; omega) (fun a22 c22 ha22 => ?_)) | refine WL.ef rfl rfl (by decide) (Ef.appendD 2 0 tab_ok rfl rfl rfl rfl rfl rfl rfl rfl rfl rfl rfl (fun _ _ => rfl) (by simp only [List.length_cons, List.length_nil]; omega) (by simp only [List.length_cons, List.length_nil]; omega) (fun a22 c22 ha22 => ?_)) | refine WL.ef rfl rfl (by decide) (Ef.appendD 3 0 tab_ok rfl rfl rfl rfl rfl rfl rfl rfl rfl rfl rfl (fun _ _ => rfl) (by simp only [List.length_cons, List.length_nil]; omega) (by simp only [List.length_cons, List.length_nil]; omega) (fun a22 c22 ha22 => ?_)) | refine WL.ef rfl rfl (by decide) (Ef.appendD 4 0 tab_ok rfl rfl rfl rfl rfl rfl rfl rfl rfl rfl rfl (fun _ _ => rfl) (by simp only [List.length_cons, List.length_nil]; omega) (by simp only [List.length_cons, List.length_nil]; omega) (fun a22 c22 ha22 => ?_)) | refine WL.ef rfl rfl (by decide) (Ef.appendR 0 tab_ok rfl rfl rfl rfl rfl rfl rfl rfl rfl rfl (by assumption) (fun _ _ => rfl) (by (try dsimp only); omega) (by omega) (fun a22 c22 ha22 => ?_)) | refine WL.ef rfl rfl (by decide) (Ef.appendR 1 tab_ok rfl rfl rfl rfl rfl rfl rfl rfl rfl rfl (by assumption) (fun _ _ => rfl) (by (try dsimp only); omega) (by omega) (fun a22 c22 ha22 => ?_)) | refine WL.ef rfl rfl (by decide) (Ef.appendR 2 tab_ok rfl rfl rfl rfl rfl rfl rfl rfl rfl rfl (by assumption) (fun _ _ => rfl) (by (try dsimp only); omega) (by omega) (fun a22 c22 ha22 => ?_)) | refine WL.ef rfl rfl (by decide) (Ef.appendR 3 tab_ok rfl rfl rfl rfl rfl rfl rfl rfl rfl rfl (by assumption) (fun _ _ => rfl) (by (try dsimp only); omega) (by omega) (fun a22 c22 ha22 => ?_)) | refine WL.ef rfl rfl (by decide) (Ef.appendR 4 tab_ok rfl rfl rfl rfl rfl rfl rfl rfl rfl rfl (by assumption) (fun _ _ => rfl) (by (try dsimp only); omega) (by omega) (fun a22 c22 ha22 => ?_))
   refine zR 1 rfl (zN (zL (zU (zG (zR 1 rfl ?_)))))
   refine yA ?_
   refine zR 1 rfl (zN ?_)
   refine WE.again ((qs ++ [nth ps i], cn + 1, a22, c22, i + 1)) (⟨by (try dsimp only); omega, by (try dsimp only); (try simp only [List.length_append, List.length_cons, List.length_nil]); omega, by rw [etk]; exact List.Sublist.append hsub (List.Sublist.refl _)⟩) (by (try dsimp only); omega) ⟨rfl, rfl, rfl, rfl, rfl⟩ (RLe.refl _) qS
  ·try dsimp only at hc1
   refine zK (zL (zU (zG (zR 1 rfl ?_))))
   refine yA ?_
   refine zR 1 rfl (zN ?_)
   refine WE.again ((qs, cn + 1, a9, c9, i + 1)) (⟨by (try dsimp only); omega, by (try dsimp only); omega, by rw [etk]; exact hsub.trans (List.sublist_append_left _ _)⟩) (by (try dsimp only); omega) ⟨rfl, rfl, rfl, rfl, rfl⟩ (RLe.refl _) qS
 ·try dsimp only at hc0
  obtain rfl : i = ps.length := by omega
  rw [List.take_length] at hsub
  refine W.freeze (enc := encP) (xs := qs) 0 rfl ?_
  intro R1 hR1 hqs
  refine zX ?_
  refine wx (wx (zY (zU (zQ (zG (zR 2 rfl (zN (zU (zT ?_)))))))))
  refine WE.subE (E' := srcE b a cp xs (cn) :: F) qS ?_
  refine zq1 (hR1) ?_
  exact ⟨_, [], rfl, _, _, _, _, rfl, hqs, hsub, rfl, rfl⟩




theorem At_W {R : Ro} {a : Option Addr} {c : Nat} {xs : List Int} {per inc t : Int} (ha : RS R 1 encI a xs) (hper : InR per) (ht : InR t) (hinc : 0 ≤ inc) (hB : ∀ q : Int, 0 ≤ q → q ≤ t → (q + 1) * inc ≤ 4611686018427387904) (hv : ∀ x ∈ xs, -2305843009213693952 ≤ x ∧ x ≤ 4611686018427387904) :
  FnV Tryz.prog 105 [.agg #[.slice a xs.length c, .int .i64 per, .int .i64 inc], .int .i64 t] R (.int .i64 (atR xs per inc t)) := by
 have hla := ha.len
 refine Fn.toV (fun w0 E => ?_)
 refine fE 62 Tryz.func105 ?_
 refine zQ (zG ?_)
 refine zO fun b2 => ?_
 refine zR 1 rfl (zN (zU (zQ (zG (zR 1 rfl ?_)))))
 refine yD (r := by apply Rd.add; (first | exact Rd.blk 0 rfl | exact Rd.blk 1 rfl)) (k := ?_)
 refine zR 2 rfl (zN (zU (zQ (zQ (zG (zR 3 rfl ?_))))))
 refine yP ?_
 refine yP ?_
 refine yP ?_
 refine yP ?_
 refine yP ?_
 refine yJ (r := by apply Rd.addC; (first | exact Rd.blkC 0 rfl | exact Rd.blkC 1 rfl)) (k := ?_)
 refine yP ?_
 refine yP ?_
 refine yP ?_
 refine yJ (r := by apply Rd.addC; (first | exact Rd.blkC 0 rfl | exact Rd.blkC 1 rfl)) (k := ?_)
 refine yP ?_
 refine yP ?_
 refine yO ?_
 refine yN ?_
 refine yO ?_
 refine zN (zU ?_)
 refine cC rfl ?_ ?_ <;> intro hc0
 ·try simp only [zk] at hc0
  have e : atR xs per inc t = -1 := by unfold atR; rw [if_pos (by omega)]
  refine zQ (zG (zR 1 rfl (zN (zU (zT (wt ?_))))))
  refine sE (E := E) ?_
  refine zr1 ?_
  exact ⟨by rw [e]; rfl, rfl⟩
 ·try simp only [zk] at hc0
  have hb : ¬ (t < 0 ∨ ((xs.length : Int) ≤ t ∧ (per < 1 ∨ (xs.length : Int) < per))) := by
   rintro (h1 | ⟨h1, h2 | h2⟩) <;> omega
  refine zK (zU (zQ (zQ (zG (zR 3 rfl (zN (zU ?_)))))))
  refine cD rfl ?_ ?_ <;> intro hc1
  ·try dsimp only at hc1
   have e : atR xs per inc t = nth xs t.toNat := by unfold atR; rw [if_neg hb, if_pos hc1]
   refine zQ (zG (zR 1 rfl ?_))
   refine yD (r := by apply Rd.add; (first | exact Rd.blk 0 rfl | exact Rd.blk 1 rfl)) (k := ?_)
   refine zR 1 rfl ?_
   refine yX ?_
   refine yD (r := by (first | (apply RS.rdD; assumption; ((try dsimp only) <;> omega)) | exact Rd.slD 0 rfl qX | exact Rd.slD 1 rfl qX)) (k := ?_)
   refine zR 1 rfl (zN (zU (zT (wt ?_))))
   refine sE (E := E) ?_
   refine zr1 ?_
   exact ⟨by rw [e]; rfl, rfl⟩
  ·try dsimp only at hc1
   obtain ⟨hp1, hp2⟩ : 1 ≤ per ∧ per ≤ (xs.length : Int) := by omega
   have q1 : 0 ≤ (t - (xs.length : Int)) / per := Int.ediv_nonneg (by omega) (by omega)
   have q2 : (t - (xs.length : Int)) / per * per ≤ t - xs.length := Int.ediv_mul_le _ (by omega)
   have q3 : t - (xs.length : Int) < ((t - (xs.length : Int)) / per + 1) * per := Int.lt_ediv_add_one_mul_self _ (by omega)
   have q4 : ((t - (xs.length : Int)) / per + 1) * per = (t - (xs.length : Int)) / per * per + per := by rw [Int.add_mul]; simp
   have q5 : (t - (xs.length : Int)) / per ≤ t - xs.length := Int.ediv_le_self _ (by omega)
   have q6 : ((t - (xs.length : Int)) / per + 1) * inc ≤ 4611686018427387904 := hB _ q1 (by omega)
   have q7 : 0 ≤ ((t - (xs.length : Int)) / per + 1) * inc := Int.mul_nonneg (by omega) hinc
   refine zK (zU (zQ (zG (zR 2 rfl ?_))))
   refine yS ?_
   refine zR 1 rfl ?_
   refine yD (r := by apply Rd.add; (first | exact Rd.blk 0 rfl | exact Rd.blk 1 rfl)) (k := ?_)
   refine yV ?_
   refine yA ?_
   refine zR 1 rfl (zN (zU (zQ (zG (zR 1 rfl ?_)))))
   refine yD (r := by apply Rd.add; (first | exact Rd.blk 0 rfl | exact Rd.blk 1 rfl)) (k := ?_)
   refine zR 3 rfl ?_
   refine yD (r := by apply Rd.add; (first | exact Rd.blk 0 rfl | exact Rd.blk 1 rfl)) (k := ?_)
   refine yU ?_
   refine yS ?_
   refine yX ?_
   refine yD (r := by (first | (apply RS.rdD; assumption; ((try dsimp only) <;> omega)) | exact Rd.slD 0 rfl qX | exact Rd.slD 1 rfl qX)) (k := ?_)
   refine zR 1 rfl (zN (zU (zQ (zQ (zG (zR 2 rfl (zN (zU ?_))))))))
   refine cE rfl ?_ ?_ <;> intro hc2
   ·try dsimp only at hc2
    have e : atR xs per inc t = 4611686018427387904 := by unfold atR; rw [if_neg hb, if_neg (by omega), if_pos hc2]
    refine zQ (zG (zR 1 rfl (zN (zU (zT (wt ?_))))))
    refine sE (E := E) ?_
    refine zr1 ?_
    exact ⟨by rw [e]; rfl, rfl⟩
   ·try dsimp only at hc2
    have e : atR xs per inc t = nth xs (t - ((t - xs.length) / per + 1) * per).toNat + ((t - xs.length) / per + 1) * inc := by unfold atR; rw [if_neg hb, if_neg (by omega), if_neg hc2]
    have hx := hv _ (nth_mem (xs := xs) (k := (t - ((t - xs.length) / per + 1) * per).toNat) (by omega))
    refine zK (zU (zQ (zG (zR 3 rfl ?_))))
    refine yD (r := by apply Rd.add; (first | exact Rd.blk 0 rfl | exact Rd.blk 1 rfl)) (k := ?_)
    refine yU ?_
    refine yA ?_
    refine zR 1 rfl (zN (zU (zT ?_)))
    refine sE (E := E) ?_
    refine zr1 ?_
    exact ⟨by rw [e]; rfl, rfl⟩
theorem At_V {R : Ro} {a : Option Addr} {c : Nat} {xs : List Int} {per inc t : Int} (ha : RS R 1 encI a xs) (hper : InR per) (ht : InR t ∧ t ≤ 1000000000) (hinc : 0 ≤ inc ∧ inc ≤ 2147483648) (hv : ∀ x ∈ xs, -2305843009213693952 ≤ x ∧ x ≤ 4611686018427387904) :
  FnV Tryz.prog 105 [.agg #[.slice a xs.length c, .int .i64 per, .int .i64 inc], .int .i64 t] R (.int .i64 (atR xs per inc t)) :=
 At_W ha hper ht.1 hinc.1 (fun q q0 q1 => by
  have : (q + 1) * inc ≤ 1000000001 * 2147483648 := Int.mul_le_mul (by omega) hinc.2 hinc.1 (by omega)
  omega) hv

theorem Valid_V {R : Ro} {a : Option Addr} {c : Nat} {v : List Int} {per inc : Int} (ha : RS R 1 encI a v) (hper : InR per) (hinc : InR inc) (hv : ∀ x ∈ v, -2305843009213693952 ≤ x ∧ x ≤ 4611686018427387904) : FnV Tryz.prog 54 [.agg #[.slice a v.length c, .int .i64 per, .int .i64 inc]] R (.bool (validB ⟨v, per, inc⟩)) := by
 have hla := ha.len
 refine Fn.toV (fun w0 E => ?_)
 have hvn : ∀ j, j < v.length → -2305843009213693952 ≤ nth v j ∧ nth v j ≤ 4611686018427387904 := fun j hj => hv _ (nth_mem hj)
 refine fE 118 Tryz.func54 ?_
 refine zQ (zG ?_)
 refine zO fun b1 => ?_
 refine zR 1 rfl (zN (zU (zQ (zG (zR 1 rfl ?_)))))
 refine yD (r := by apply Rd.add; (first | exact Rd.blk 0 rfl | exact Rd.blk 1 rfl | exact Rd.blk 2 rfl)) (k := ?_)
 refine zR 2 rfl (zN (zU (zQ (zQ (zG (zR 3 rfl ?_))))))
 refine yP ?_
 refine yP ?_
 refine yO ?_
 refine zR 1 rfl ?_
 refine yP ?_
 refine yJ (r := by apply Rd.addC; (first | exact Rd.blkC 0 rfl | exact Rd.blkC 1 rfl | exact Rd.blkC 2 rfl)) (k := ?_)
 refine yP ?_
 refine yO ?_
 refine zR 1 rfl ?_
 refine yP ?_
 refine yJ (r := by apply Rd.addC; (first | exact Rd.blkC 0 rfl | exact Rd.blkC 1 rfl | exact Rd.blkC 2 rfl)) (k := ?_)
 refine yP ?_
 refine yO ?_
 refine zR 1 rfl ?_
 refine yP ?_
 refine yJ (r := by apply Rd.addC; (first | exact Rd.blkC 0 rfl | exact Rd.blkC 1 rfl | exact Rd.blkC 2 rfl)) (k := ?_)
 refine yP ?_
 refine yP ?_
 refine yO ?_
 refine zR 1 rfl ?_
 refine yP ?_
 refine yJ (r := by apply Rd.addC; (first | exact Rd.blkC 0 rfl | exact Rd.blkC 1 rfl | exact Rd.blkC 2 rfl)) (k := ?_)
 refine yP ?_
 refine yO ?_
 refine zR 1 rfl ?_
 refine yP ?_
 refine yJ (r := by apply Rd.addC; (first | exact Rd.blkC 0 rfl | exact Rd.blkC 1 rfl | exact Rd.blkC 2 rfl)) (k := ?_)
 refine yP ?_
 refine yO ?_
 refine zN (zU ?_)
 refine cC rfl ?_ ?_ <;> intro hc0
 ·try simp only [zk] at hc0
  have hno : validB ⟨v, per, inc⟩ = false := validB_false (fun h => by obtain ⟨⟨a1, a2, a3, a4, a5, a6, a7⟩, _⟩ := h; dsimp only at a1 a2 a3 a4 a5 a6 a7; unfold MAXV at a7; omega)
  refine zQ (zG (zR 1 rfl (zN (zU (zT (wt ?_))))))
  refine sE (E := E) ?_
  refine zr1 ?_
  exact ⟨by rw [hno]; rfl, rfl⟩
 ·try simp only [zk] at hc0
  have hall : 1 ≤ v.length ∧ v.length ≤ 400 ∧ 1 ≤ per ∧ per ≤ 120 ∧ per ≤ v.length ∧ 0 ≤ inc ∧ inc ≤ MAXV := by unfold MAXV; omega
  refine zK (zU (zQ (zQ (zG (zR 1 rfl (zN (zU (zB ?_))))))))
  refine W.loopK (β := Nat) (fun i => i ≤ v.length ∧ ∀ j, j < i → (nth v j = INF ∨ (0 ≤ nth v j ∧ nth v j ≤ MAXV)) ∧ (j = 0 ∨ nth v (j - 1) ≤ nth v j)) (fun i => [(4, true, .int .i64 (i : Int))]) [1, 3] [_, _] [] _ rfl (fun i => []) (fun i => v.length - i) (0) (⟨Nat.zero_le _, fun j hj => by omega⟩) ⟨rfl, rfl, rfl, rfl⟩ qS ?_
  intro i hst
  dsimp only [zipE, setAll, List.cons_append, List.nil_append, List.set_cons_zero, List.set_cons_succ] at hst ⊢
  refine zQ (zQ (zG (zR 3 rfl (zN (zU ?_)))))
  refine cD rfl ?_ ?_ <;> intro hc1
  ·try dsimp only at hc1
   have hil : i < v.length := by omega
   have hvi := hvn i hil
   have e1 : 0 < i → ((i : Int) - 1).toNat = i - 1 := fun _ => by omega
   have hv1 : 0 < i → -2305843009213693952 ≤ nth v ((i : Int) - 1).toNat ∧ nth v ((i : Int) - 1).toNat ≤ 4611686018427387904 := fun h => hvn _ (by omega)
   refine zK (zU (zQ (zB (zQ ?_))))
   refine W.regionQ _ mixed qK ?_
   refine zR 1 rfl ?_
   refine yD (r := by apply Rd.add; (first | exact Rd.blk 0 rfl | exact Rd.blk 1 rfl | exact Rd.blk 2 rfl)) (k := ?_)
   refine zR 1 rfl ?_
   refine yI ?_
   refine yD (r := by (first | (apply RS.rdD; assumption; ((try dsimp only) <;> omega)) | exact Rd.slD 0 rfl qX | exact Rd.slD 1 rfl qX | exact Rd.slD 2 rfl qX)) (k := ?_)
   refine zR 2 rfl ?_
   refine yP ?_
   refine yJ (r := by apply Rd.addC; (first | exact Rd.blkC 0 rfl | exact Rd.blkC 1 rfl | exact Rd.blkC 2 rfl)) (k := ?_)
   refine yP ?_
   refine gI ?_
   refine yJ (r := by (first | (apply RS.rdC; assumption) | exact Rd.slC 0 rfl | exact Rd.slC 1 rfl | exact Rd.slC 2 rfl)) (k := ?_)
   refine yP ?_
   refine yP ?_
   refine yP ?_
   refine yJ (r := by apply Rd.addC; (first | exact Rd.blkC 0 rfl | exact Rd.blkC 1 rfl | exact Rd.blkC 2 rfl)) (k := ?_)
   refine yP ?_
   refine gI ?_
   refine yJ (r := by (first | (apply RS.rdC; assumption) | exact Rd.slC 0 rfl | exact Rd.slC 1 rfl | exact Rd.slC 2 rfl)) (k := ?_)
   refine yP ?_
   refine yO ?_
   refine yN ?_
   refine zR 1 rfl ?_
   refine yP ?_
   refine yP ?_
   refine yP ?_
   refine yP ?_
   refine yJ (r := by apply Rd.addC; (first | exact Rd.blkC 0 rfl | exact Rd.blkC 1 rfl | exact Rd.blkC 2 rfl)) (k := ?_)
   refine yP ?_
   refine gI ?_
   refine yJ (r := by (first | (apply RS.rdC; assumption) | exact Rd.slC 0 rfl | exact Rd.slC 1 rfl | exact Rd.slC 2 rfl)) (k := ?_)
   refine yP ?_
   refine yJ (r := by apply Rd.addC; (first | exact Rd.blkC 0 rfl | exact Rd.blkC 1 rfl | exact Rd.blkC 2 rfl)) (k := ?_)
   refine yP ?_
   refine WG.y rfl rfl (by decide) (Yl.sub rfl rfl rfl qE (by intro hg; (try simp only [zk] at hg); constructor <;> (try dsimp only) <;> omega)) ?_
   refine gX ?_
   refine yJ (r := by (first | (apply RS.rdC; assumption) | exact Rd.slC 0 rfl | exact Rd.slC 1 rfl | exact Rd.slC 2 rfl)) (k := ?_)
   refine yP ?_
   refine yN ?_
   refine yO ?_
   refine zN (zU ?_)
   refine cC rfl ?_ ?_ <;> intro hc2
   ·try simp only [zk] at hc2
    have hno : validB ⟨v, per, inc⟩ = false := validB_false (fun h => by
     obtain ⟨_, h2, _⟩ := h
     have h2 := h2 i hil
     dsimp only at h2
     unfold INF MAXV at h2
     rcases hc2 with ⟨x1, x2⟩ | ⟨x1, x2⟩
     ·omega
     ·rw [e1 (by omega)] at x2; omega)
    refine zQ (zG (zR 1 rfl (zN (zU (zT (wb (wt (wt (wb (wt ?_))))))))))
    refine sE (E := E) ?_
    refine zr1 ?_
    exact ⟨by rw [hno]; rfl, rfl⟩
   ·try simp only [zk] at hc2
    have hy : (nth v i = INF ∨ (0 ≤ nth v i ∧ nth v i ≤ MAXV)) ∧ (i = 0 ∨ nth v (i - 1) ≤ nth v i) := by
     obtain ⟨x1, x2⟩ := hc2
     unfold INF MAXV
     refine ⟨by omega, ?_⟩
     by_cases h : i = 0
     ·exact .inl h
     ·have := x2 (by omega)
      rw [e1 (by omega)] at this
      right; omega
    refine zK (zL (zU (zG (zR 1 rfl ?_))))
    refine yA ?_
    refine zR 1 rfl (zN ?_)
    refine WE.again (i + 1) (⟨by omega, fun j hj => by
     by_cases e : j = i
     ·subst e; exact hy
     ·exact hst.2 j (by omega)⟩) (by (try dsimp only); omega) ⟨rfl, rfl, rfl, rfl⟩ (RLe.refl _) qS
  ·try dsimp only at hc1
   obtain rfl : i = v.length := by omega
   have e2 : ((v.length : Int) - 1).toNat = v.length - 1 := by omega
   have e3 : ((v.length : Int) - per).toNat = v.length - per.toNat := by omega
   have hx1 := hvn (((v.length : Int) - 1).toNat) (by omega)
   have hx2 := hvn (((v.length : Int) - per).toNat) (by omega)
   refine zX ?_
   refine wx (wx (zY (zU (zQ (zQ (zG (zR 1 rfl ?_)))))))
   refine yD (r := by apply Rd.add; (first | exact Rd.blk 0 rfl | exact Rd.blk 1 rfl | exact Rd.blk 2 rfl)) (k := ?_)
   refine zR 1 rfl ?_
   refine yS ?_
   refine yX ?_
   refine yD (r := by exact RS.rdD ha qO) (k := ?_)
   refine zR 1 rfl (zN (zU ?_))
   refine cE rfl ?_ ?_ <;> intro hc3
   ·try dsimp only at hc3
    have hif : (if nth v (v.length - 1) = INF then per = 1 ∧ inc = 0 else nth v (v.length - 1) ≤ nth v (v.length - per.toNat) + inc) ↔ (per = 1 ∧ inc = 0) := by rw [if_pos (by rw [← e2]; exact hc3)]
    refine zQ (zG (zR 1 rfl ?_))
    refine yD (r := by apply Rd.add; (first | exact Rd.blk 0 rfl | exact Rd.blk 1 rfl | exact Rd.blk 2 rfl)) (k := ?_)
    refine zR 2 rfl ?_
    refine yP ?_
    refine yJ (r := by apply Rd.addC; (first | exact Rd.blkC 0 rfl | exact Rd.blkC 1 rfl | exact Rd.blkC 2 rfl)) (k := ?_)
    refine yP ?_
    refine yN ?_
    refine zR 1 rfl (zN (zU (zT (wt ?_))))
    refine sE (E := E) ?_
    refine zr1 ?_
    refine ⟨congrArg Value.bool ?_, rfl⟩
    rw [Bool.eq_iff_iff, validB_iff]
    dsimp only
    rw [hif]
    simp only [Bool.and_eq_true, beq_iff_eq]
    exact ⟨fun h => ⟨hall, fun j hj => hst.2 j hj, h⟩, fun h => h.2.2⟩
   ·try dsimp only at hc3
    have hif : (if nth v (v.length - 1) = INF then per = 1 ∧ inc = 0 else nth v (v.length - 1) ≤ nth v (v.length - per.toNat) + inc) ↔ (nth v (v.length - 1) ≤ nth v (v.length - per.toNat) + inc) := by rw [if_neg (by rw [← e2]; exact hc3)]
    refine zK (zU (zQ ?_))
    refine W.regionQ _ mixed qK ?_
    refine zR 1 rfl ?_
    refine yD (r := by apply Rd.add; (first | exact Rd.blk 0 rfl | exact Rd.blk 1 rfl | exact Rd.blk 2 rfl)) (k := ?_)
    refine zR 2 rfl ?_
    refine yD (r := by apply Rd.add; (first | exact Rd.blk 0 rfl | exact Rd.blk 1 rfl | exact Rd.blk 2 rfl)) (k := ?_)
    refine yS ?_
    refine yX ?_
    refine yD (r := by exact RS.rdD ha qO) (k := ?_)
    refine zR 1 rfl ?_
    refine yD (r := by apply Rd.add; (first | exact Rd.blk 0 rfl | exact Rd.blk 1 rfl | exact Rd.blk 2 rfl)) (k := ?_)
    refine yA ?_
    refine zR 1 rfl ?_
    refine yD (r := by apply Rd.add; (first | exact Rd.blk 0 rfl | exact Rd.blk 1 rfl | exact Rd.blk 2 rfl)) (k := ?_)
    refine zR 1 rfl ?_
    refine yS ?_
    refine yX ?_
    refine yD (r := by exact RS.rdD ha qO) (k := ?_)
    refine zR 2 rfl (zN (zU (zT ?_)))
    refine sE (E := E) ?_
    refine zr1 ?_
    refine ⟨congrArg Value.bool ?_, rfl⟩
    rw [Bool.eq_iff_iff, validB_iff]
    dsimp only
    rw [hif, e2, e3]
    simp only [decide_eq_true_eq]
    exact ⟨fun h => ⟨hall, fun j hj => hst.2 j hj, h⟩, fun h => h.2.2⟩

theorem WAt_V {R : Ro} {fa : Option Addr} {fc : Nat} {F : Nat → Int} {S P : Nat} {I : Int} (hf : FC F S P I) (ha : RS R 1 encI fa (fvals F (S + P))) {t : Nat} (ht : t ≤ 1000000000000000000) (hG : F t ≤ 4000000000000000000) : FnV Tryz.prog 109 [.agg #[.slice fa (fvals F (S + P)).length fc, .int .i64 (P : Int), .int .i64 I], .int .i64 (t : Int)] R (.int .i64 (F t)) := by
 have hfl := fvals_len F (S + P)
 have hP := hf.hP
 have hn := hf.hn
 have hI := hf.hI
 refine Fn.toV (fun w0 E => ?_)
 refine fE 45 Tryz.func109 ?_
 refine zQ (zG ?_)
 refine zO fun b2 => ?_
 refine zR 1 rfl (zN (zU (zQ (zG (zR 1 rfl ?_)))))
 refine yD (r := by apply Rd.add; (first | exact Rd.blk 0 rfl | exact Rd.blk 1 rfl)) (k := ?_)
 refine zR 2 rfl (zN (zU (zQ (zQ (zG (zR 3 rfl (zN (zU ?_))))))))
 refine cD rfl ?_ ?_ <;> intro hc0
 ·try dsimp only at hc0
  have htl : t < S + P := by omega
  refine zQ (zG (zR 1 rfl ?_))
  refine yD (r := by apply Rd.add; (first | exact Rd.blk 0 rfl | exact Rd.blk 1 rfl)) (k := ?_)
  refine zR 1 rfl ?_
  refine yI ?_
  refine yD (r := by (first | (apply RS.rdD; assumption; ((try dsimp only) <;> omega)) | exact Rd.slD 0 rfl qX | exact Rd.slD 1 rfl qX)) (k := ?_)
  refine zR 1 rfl (zN (zU (zT (wt ?_))))
  refine sE (E := E) ?_
  refine zr1 ?_
  exact ⟨by rw [fvals_nth F htl]; rfl, rfl⟩
 ·try dsimp only at hc0
  obtain ⟨q, hq⟩ := Int.eq_ofNat_of_zero_le (show 0 ≤ ((t : Int) - ((fvals F (S + P)).length : Int)) / (P : Int) from Int.ediv_nonneg (by omega) (by omega))
  have hq1 : (q : Int) * P ≤ (t : Int) - (S + P : Nat) := by rw [← hfl, ← hq]; exact Int.ediv_mul_le _ (by omega)
  have hq2 : (t : Int) - (S + P : Nat) < P * (q : Int) + P := by rw [← hfl, ← hq]; exact Int.lt_mul_ediv_self_add (by omega)
  rw [Int.mul_comm] at hq2
  have hq3 : (q + 1) * P = q * P + P := by rw [Nat.add_mul]; omega
  have hq4 : ((q * P : Nat) : Int) = (q : Int) * P := by rw [Int.natCast_mul]
  have hq5 : ((q : Int) + 1) * (P : Int) = (((q + 1) * P : Nat) : Int) := by rw [Int.natCast_mul]; rfl
  have hqle : q ≤ t := Nat.le_trans (Nat.le_mul_of_pos_right q (show 0 < P by omega)) (by omega)
  have hgm := hf.hg.mul (q + 1) (t - (q + 1) * P) (by omega)
  rw [show t - (q + 1) * P + (q + 1) * P = t by omega, show ((q + 1 : Nat) : Int) = (q : Int) + 1 from rfl] at hgm
  have hF0 := hf.nonneg (t - (q + 1) * P)
  have hF1 := hf.fin (t := t - (q + 1) * P) (by omega)
  have hqI : 0 ≤ ((q : Int) + 1) * I := Int.mul_nonneg (by omega) (by omega)
  refine zK (zU (zQ (zG (zR 2 rfl ?_))))
  refine yS ?_
  refine zR 1 rfl ?_
  refine yD (r := by apply Rd.add; (first | exact Rd.blk 0 rfl | exact Rd.blk 1 rfl)) (k := ?_)
  refine yV ?_
  refine yA ?_
  refine zR 1 rfl (zN (zU ?_))
  rw [hq]
  refine zQ (zG (zR 1 rfl ?_))
  refine yD (r := by apply Rd.add; (first | exact Rd.blk 0 rfl | exact Rd.blk 1 rfl)) (k := ?_)
  refine zR 3 rfl ?_
  refine yD (r := by apply Rd.add; (first | exact Rd.blk 0 rfl | exact Rd.blk 1 rfl)) (k := ?_)
  refine yU ?_
  refine yS ?_
  rw [hq5, show (t : Int) - (((q + 1) * P : Nat) : Int) = ((t - (q + 1) * P : Nat) : Int) by omega]
  refine yI ?_
  refine yD (r := by (first | (apply RS.rdD; assumption; ((try dsimp only) <;> omega)) | exact Rd.slD 0 rfl qX | exact Rd.slD 1 rfl qX)) (k := ?_)
  refine zR 1 rfl (zN (zU (zQ ?_)))
  rw [fvals_nth F (show t - (q + 1) * P < S + P by omega)]
  refine zQ (zG (zR 2 rfl (zN (zU ?_))))
  refine cE rfl ?_ ?_ <;> intro hc1
  ·try dsimp only at hc1
   exact absurd hc1 hF1
  ·try dsimp only at hc1
   refine zK (zU (zQ (zG (zR 3 rfl ?_))))
   refine yD (r := by apply Rd.add; (first | exact Rd.blk 0 rfl | exact Rd.blk 1 rfl)) (k := ?_)
   refine yU ?_
   refine yA ?_
   refine zR 1 rfl (zN (zU (zT ?_)))
   refine sE (E := E) ?_
   refine zr1 ?_
   exact ⟨by rw [hgm]; rfl, rfl⟩

theorem CEnd_V {R : Ro} {pa : Option Addr} {pc : Nat} {ps : List Pkt} (hp : RS R 3 encP pa ps) (hok : Ok ps) : FnV Tryz.prog 107 [.slice pa ps.length pc] R (.int .i64 (endN ps)) := by
 have hlp := hp.len
 refine Fn.toV (fun w0 E => ?_)
 refine fE 14 Tryz.func107 ?_
 refine zQ (zG (zR 1 rfl (zN (zU (zQ (zQ (zG (zR 3 rfl (zN (zU ?_))))))))))
 refine cE rfl ?_ ?_ <;> intro hc0
 ·try dsimp only at hc0
  have e : endN ps = 0 := if_pos (by omega)
  refine zQ (zG (zR 1 rfl (zN (zU (zT (wt ?_))))))
  refine sE (E := E) ?_
  refine zr1 ?_
  exact ⟨by rw [e]; rfl, rfl⟩
 ·try dsimp only at hc0
  have e : endN ps = (nth ps (ps.length - 1)).time + 1 := if_neg (by omega)
  have hat := hok.at (nth_mem (xs := ps) (k := ps.length - 1) (by omega))
  have hix : ((ps.length : Int) - 1).toNat = ps.length - 1 := by omega
  refine zK (zU (zQ (zG (zR 3 rfl ?_))))
  refine yS ?_
  refine yX ?_
  refine zR 1 rfl ?_
  refine yD (r := by apply Rd.add; (first | (apply RS.rdD; assumption; ((try dsimp only) <;> omega)) | exact Rd.slD 0 rfl qX)) (k := ?_)
  refine WG.y rfl rfl (by decide) (Yl.add rfl rfl rfl (fun _ => rfl) (by intro _; rw [hix]; constructor <;> (try dsimp only) <;> omega)) ?_
  refine zR 1 rfl (zN (zU (zT ?_)))
  refine sE (E := E) ?_
  refine zr1 ?_
  exact ⟨by rw [e, hix]; rfl, rfl⟩
theorem CSums_C {R : Ro} {pa : Option Addr} {pc : Nat} {ps : List Pkt} (hp : RS R 3 encP pa ps) {flow : Int} {en : Nat} (hok : Ok ps) (hen : endN ps = en) (he : en ≤ 3000) (w0 : World) (E : List Ent) : K.Fn Tryz.prog 81 [.slice pa ps.length pc, .int .i64 flow] w0 R E (fun v R' E' => ∃ (a : Option Addr) (c : Nat), v = .slice a (cumL flow ps (en + 1)).length c ∧ R = R' ∧ (.sl 3 1 a c ((cumL flow ps (en + 1)).map encI) :: E).Sublist E') := by
 have hpl := hok.len
 have hcl : (cumL flow ps (en + 1)).length = en + 1 := by simp [cumL]
 have hsz : ∀ p ∈ ps, 0 ≤ p.size ∧ p.size ≤ 1000000 := fun p hp => by have := hok.at hp; omega
 refine fE 25 Tryz.func81 ?_
 refine zQ (zG (zR 1 rfl (zN (zU (zQ (zG (zR 1 rfl ?_)))))))
 refine WG.callV en107 rfl rfl qD (CallOp.mk' rfl rfl rfl rfl) (fun _ => rfl) (fun hg => hen ▸ CEnd_V hp hok) ?_
 refine yA ?_
 refine WL.ef rfl rfl qD (Ef.makeSliceD (enc := encI) 0 tab_ok rfl rfl rfl rfl rfl rfl qX qX qX qX qD rfl rfl (fun a10 => ?_))
 refine zR 1 rfl (zN (zU (zQ (zQ (zG (zR 3 rfl (zN (zU (zB ?_)))))))))
 refine W.loopK (β := Nat) (fun t => t ≤ en + 1) (fun t => [(13, true, .int .i64 (t : Int))]) [0, 1, 5, 12] [_, _, _, _] [] _ rfl (fun t => [(0, .sl 3 1 (some ⟨a10, 0, none⟩) (en + 1) ((partV (fun t : Nat => pbytes flow (t : Int) ps) t (en + 1)).map encI))]) (fun t => en + 1 - t) (0) (Nat.zero_le _) ⟨rfl, rfl, rfl, rfl, rfl, rfl⟩ qS ?_
 intro t hst
 dsimp only [zipE, setAll, List.cons_append, List.nil_append, List.set_cons_zero, List.set_cons_succ] at hst ⊢
 have hpv := partV_len (fun t : Nat => pbytes flow (t : Int) ps) (t := t) (n := en + 1) hst
 refine zQ (zG (zR 1 rfl (zN (zU (zQ ?_)))))
 refine cD rfl ?_ ?_ <;> intro hc0
 ·try dsimp only at hc0
  have htl : t < en + 1 := by omega
  have hset := partV_set (fun t : Nat => pbytes flow (t : Int) ps) htl
  refine zK (zU (zQ (zB (zQ (zG (zR 2 rfl (zN (zU (zG (zR 5 rfl ?_))))))))))
  refine WG.callV en108 rfl rfl qD (CallOp.mk' rfl rfl rfl rfl) (fun _ => rfl) (fun hg => Bytes_V hp hsz qO) ?_
  refine yI ?_
  first | refine WL.efN rfl rfl (Ef.storeD _ 0 tab_ok rfl rfl rfl rfl rfl qX rfl rfl rfl rfl ?_) | refine WL.efN rfl rfl (Ef.storeD _ 1 tab_ok rfl rfl rfl rfl rfl qX rfl rfl rfl rfl ?_)
  refine zN (zL (zU (zG ?_)))
  refine yA ?_
  refine zR 1 rfl (zN ?_)
  refine WE.again (t + 1) (by omega) (by (try dsimp only); omega) ⟨rfl, rfl, rfl, rfl, rfl, rfl⟩ (RLe.refl _) (by dsimp only [setAll, List.set_cons_zero, List.set_cons_succ]; rw [← hset]; exact qS)
 ·try dsimp only at hc0
  obtain rfl : t = en + 1 := by omega
  rw [partV_all]
  refine zX ?_
  refine wx (wx (zY (zU (zQ (zG (zR 2 rfl (zN (zU (zT ?_)))))))))
  refine zr1 ?_
  exact ⟨_, _, by rw [hcl]; rfl, rfl, qS⟩


theorem WFiniteG_V {R : Ro} {fa : Option Addr} {fc : Nat} {c : Cv} (hv : validB c = true) (ha : RS R 1 encI fa c.vals) : FnV Tryz.prog 103 [.agg #[.slice fa c.vals.length fc, .int .i64 c.per, .int .i64 c.inc]] R (.bool (finB c)) := by
 refine Fn.toV (fun w0 E => ?_)
 obtain ⟨hr1, hr2, hr3, hr4, hr5, hr6, hr7, hr8⟩ := valid_range hv
 have hl : ((c.vals.length : Int) - 1).toNat = c.vals.length - 1 := by omega
 refine fE 12 Tryz.func103 ?_
 refine zQ (zG ?_)
 refine zO fun b1 => ?_
 refine zR 1 rfl (zN (zU (zQ (zG (zR 1 rfl ?_)))))
 refine yD (r := by apply Rd.add; (first | exact Rd.blk 0 rfl | exact Rd.blk 1 rfl)) (k := ?_)
 refine zR 1 rfl ?_
 refine yD (r := by apply Rd.add; (first | exact Rd.blk 0 rfl | exact Rd.blk 1 rfl)) (k := ?_)
 refine zR 1 rfl ?_
 refine yS ?_
 refine yX ?_
 refine yD (r := by (first | (apply RS.rdD; assumption; ((try dsimp only) <;> omega)) | exact Rd.slD 0 rfl qX | exact Rd.slD 1 rfl qX)) (k := ?_)
 refine zR 2 rfl (zN (zU (zT ?_)))
 refine sE (E := E) ?_
 refine zr1 ?_
 exact ⟨by rw [hl]; rfl, rfl⟩

theorem CValidX_V {R : Ro} {fa : Option Addr} {fc : Nat} {c : Cv} (ha : RS R 1 encI fa c.vals) : FnV Tryz.prog 71 [.agg #[.slice fa c.vals.length fc, .int .i64 c.per, .int .i64 c.inc]] R (.bool (validB c)) := by
 refine Fn.toV (fun w0 E => ?_)
 refine fE 85 Tryz.func71 ?_
 refine zQ (zG ?_)
 refine zO fun b1 => ?_
 refine zR 1 rfl (zN (zU (zQ (zG (zR 1 rfl ?_)))))
 refine yD (r := by apply Rd.add; (first | exact Rd.blk 0 rfl | exact Rd.blk 1 rfl)) (k := ?_)
 refine zR 2 rfl (zN (zU (zQ (zQ (zG (zR 3 rfl ?_))))))
 refine yP ?_
 refine yP ?_
 refine yO ?_
 refine zR 1 rfl ?_
 refine yP ?_
 refine yJ (r := by apply Rd.addC; (first | exact Rd.blkC 0 rfl | exact Rd.blkC 1 rfl)) (k := ?_)
 refine yP ?_
 refine yO ?_
 refine zR 1 rfl ?_
 refine yP ?_
 refine yJ (r := by apply Rd.addC; (first | exact Rd.blkC 0 rfl | exact Rd.blkC 1 rfl)) (k := ?_)
 refine yP ?_
 refine yO ?_
 refine zR 1 rfl ?_
 refine yP ?_
 refine yJ (r := by apply Rd.addC; (first | exact Rd.blkC 0 rfl | exact Rd.blkC 1 rfl)) (k := ?_)
 refine yP ?_
 refine yP ?_
 refine yO ?_
 refine zR 1 rfl ?_
 refine yP ?_
 refine yJ (r := by apply Rd.addC; (first | exact Rd.blkC 0 rfl | exact Rd.blkC 1 rfl)) (k := ?_)
 refine yP ?_
 refine yO ?_
 refine zR 1 rfl ?_
 refine yP ?_
 refine yJ (r := by apply Rd.addC; (first | exact Rd.blkC 0 rfl | exact Rd.blkC 1 rfl)) (k := ?_)
 refine yP ?_
 refine yO ?_
 refine zN (zU ?_)
 refine cC rfl ?_ ?_ <;> intro hc0
 ·try simp only [zk] at hc0
  have hno : validB c = false := validB_false (fun h => by obtain ⟨⟨a1, a2, a3, a4, a5, a6, a7⟩, _⟩ := h; unfold MAXV at a7; omega)
  refine zQ (zG (zR 1 rfl (zN (zU (zT (wt ?_))))))
  refine sE (E := E) ?_
  refine zr1 ?_
  exact ⟨by rw [hno]; rfl, rfl⟩
 ·try simp only [zk] at hc0
  have hall : 1 ≤ c.vals.length ∧ c.vals.length ≤ 400 ∧ 1 ≤ c.per ∧ c.per ≤ 120 ∧ c.per ≤ c.vals.length ∧ 0 ≤ c.inc ∧ c.inc ≤ MAXV := by unfold MAXV; omega
  refine zK (zU (zQ (zG (zR 1 rfl (zN (zU (zQ (zQ (zG (zR 1 rfl ?_))))))))))
  refine yD (r := by apply Rd.add; (first | exact Rd.blk 0 rfl | exact Rd.blk 1 rfl)) (k := ?_)
  refine zR 2 rfl (zN (zU (zB ?_)))
  refine W.loopK (β := Nat) (fun t => t ≤ c.vals.length ∧ ∀ i, i < t → (nth c.vals i = INF ∨ (0 ≤ nth c.vals i ∧ nth c.vals i ≤ MAXV)) ∧ (i = 0 ∨ nth c.vals (i - 1) ≤ nth c.vals i)) (fun t => [(4, true, .int .i64 (lastV c.vals t)), (45, true, .int .i64 (t : Int))]) [1, 3, 43, 44] [_, _, _, _] [] _ rfl (fun t => []) (fun t => c.vals.length - t) (0) (⟨Nat.zero_le _, fun i hi => by omega⟩) ⟨rfl, rfl, rfl, rfl, rfl, rfl, rfl⟩ qS ?_
  intro t hst
  dsimp only [zipE, setAll, List.cons_append, List.nil_append, List.set_cons_zero, List.set_cons_succ] at hst ⊢
  have hlast : 0 ≤ lastV c.vals t ∧ (lastV c.vals t = INF ∨ lastV c.vals t ≤ MAXV) := by
   unfold lastV
   by_cases h : t = 0
   ·rw [if_pos h]; exact ⟨Int.le_refl _, .inr (by decide)⟩
   ·rw [if_neg h]
    have := (hst.2 (t - 1) (by omega)).1
    unfold INF MAXV at this ⊢
    omega
  refine zQ (zG (zR 1 rfl (zN (zU (zQ ?_)))))
  refine cD rfl ?_ ?_ <;> intro hc1
  ·try dsimp only at hc1
   have htl : t < c.vals.length := by omega
   refine zK (zU (zQ (zB (zQ (zG ?_)))))
   refine yI ?_
   refine yD (r := by (first | (apply RS.rdD; assumption; ((try dsimp only) <;> omega)) | exact Rd.slD 0 rfl qX | exact Rd.slD 1 rfl qX)) (k := ?_)
   refine zR 1 rfl (zN (zU (zQ (zQ (zG (zR 4 rfl ?_))))))
   refine yP ?_
   refine yP ?_
   refine yP ?_
   refine yP ?_
   refine yP ?_
   refine yN ?_
   refine yO ?_
   refine zN (zU ?_)
   refine cC rfl ?_ ?_ <;> intro hc2
   ·try simp only [zk] at hc2
    have hno : validB c = false := validB_false (fun h => by
     have h2 := h.2.1 t htl
     unfold lastV at hc2
     unfold INF MAXV at h2
     rcases hc2 with x | x
     ·split at x
      ·omega
      ·have := h2.2.resolve_left (by omega)
       omega
     ·omega)
    refine zQ (zG (zR 1 rfl (zN (zU (zT (wt (wb (wt (wt (wb (wt ?_)))))))))))
    refine sE (E := E) ?_
    refine zr1 ?_
    exact ⟨by rw [hno]; rfl, rfl⟩
   ·try simp only [zk] at hc2
    have hy : (nth c.vals t = INF ∨ (0 ≤ nth c.vals t ∧ nth c.vals t ≤ MAXV)) ∧ (t = 0 ∨ nth c.vals (t - 1) ≤ nth c.vals t) := by
     unfold INF MAXV
     have hle : lastV c.vals t ≤ nth c.vals t := by omega
     refine ⟨by omega, ?_⟩
     unfold lastV at hle
     by_cases h : t = 0
     ·exact .inl h
     ·rw [if_neg h] at hle; exact .inr hle
    refine zK (zU (zG (zR 2 rfl (zN (zL (zU (zG ?_)))))))
    refine yA ?_
    refine zR 1 rfl (zN ?_)
    refine WE.again (t + 1) (⟨by omega, fun i hi => by
     by_cases e : i = t
     ·subst e; exact hy
     ·exact hst.2 i (by omega)⟩) (by (try dsimp only); omega) ⟨vint (lastV_succ _ _), rfl, rfl, rfl, rfl, rfl, rfl⟩ (RLe.refl _) qS
  ·try dsimp only at hc1
   obtain rfl : t = c.vals.length := by omega
   obtain ⟨P, hP⟩ := Int.eq_ofNat_of_zero_le (show 0 ≤ c.per by omega)
   have hlv : lastV c.vals c.vals.length = nth c.vals (c.vals.length - 1) := if_neg (by omega)
   have e3 : ((c.vals.length : Int) - c.per).toNat = c.vals.length - c.per.toNat := by omega
   refine zX ?_
   refine wx (wx (zY (zU (zQ (zQ (zG (zR 2 rfl (zN (zU ?_)))))))))
   refine cE rfl ?_ ?_ <;> intro hc3
   ·try dsimp only at hc3
    have hif : (if nth c.vals (c.vals.length - 1) = INF then c.per = 1 ∧ c.inc = 0 else nth c.vals (c.vals.length - 1) ≤ nth c.vals (c.vals.length - c.per.toNat) + c.inc) ↔ (c.per = 1 ∧ c.inc = 0) := by rw [if_pos (by rw [← hlv]; exact hc3)]
    refine zQ (zG (zR 1 rfl ?_))
    refine yD (r := by apply Rd.add; (first | exact Rd.blk 0 rfl | exact Rd.blk 1 rfl)) (k := ?_)
    refine zR 2 rfl ?_
    refine yP ?_
    refine yJ (r := by apply Rd.addC; (first | exact Rd.blkC 0 rfl | exact Rd.blkC 1 rfl)) (k := ?_)
    refine yP ?_
    refine yN ?_
    refine zR 1 rfl (zN (zU (zT (wt ?_))))
    refine sE (E := E) ?_
    refine zr1 ?_
    refine ⟨congrArg Value.bool ?_, rfl⟩
    rw [Bool.eq_iff_iff, validB_iff, hif]
    simp only [Bool.and_eq_true, beq_iff_eq]
    exact ⟨fun h => ⟨hall, fun j hj => hst.2 j hj, h⟩, fun h => h.2.2⟩
   ·try dsimp only at hc3
    have hif : (if nth c.vals (c.vals.length - 1) = INF then c.per = 1 ∧ c.inc = 0 else nth c.vals (c.vals.length - 1) ≤ nth c.vals (c.vals.length - c.per.toNat) + c.inc) ↔ (nth c.vals (c.vals.length - 1) ≤ nth c.vals (c.vals.length - c.per.toNat) + c.inc) := by rw [if_neg (by rw [← hlv]; exact hc3)]
    have hx2 := (hst.2 (c.vals.length - c.per.toNat) (by omega)).1
    rw [← e3] at hx2
    unfold INF MAXV at hx2 hall
    refine zK (zU (zQ ?_))
    refine W.regionQ _ mixed qK ?_
    refine zR 1 rfl ?_
    refine yD (r := by apply Rd.add; (first | exact Rd.blk 0 rfl | exact Rd.blk 1 rfl)) (k := ?_)
    refine zR 2 rfl ?_
    refine yD (r := by apply Rd.add; (first | exact Rd.blk 0 rfl | exact Rd.blk 1 rfl)) (k := ?_)
    refine yS ?_
    refine yX ?_
    refine yD (r := by (first | (apply RS.rdD; assumption; ((try dsimp only) <;> omega)) | exact Rd.slD 0 rfl qX | exact Rd.slD 1 rfl qX)) (k := ?_)
    refine zR 1 rfl ?_
    refine yD (r := by apply Rd.add; (first | exact Rd.blk 0 rfl | exact Rd.blk 1 rfl)) (k := ?_)
    refine yA ?_
    refine zR 3 rfl (zN (zU (zT ?_)))
    refine sE (E := E) ?_
    refine zr1 ?_
    refine ⟨congrArg Value.bool ?_, rfl⟩
    rw [Bool.eq_iff_iff, validB_iff, hif, e3, hlv]
    simp only [decide_eq_true_eq]
    exact ⟨fun h => ⟨by unfold MAXV; omega, fun j hj => hst.2 j hj, by omega⟩, fun h => by have := h.2.2; omega⟩

theorem TableF_C {R : Ro} {F : Nat → Int} {S P : Nat} {I : Int} {fa : Option Addr} {fc : Nat} (hf : FC F S P I) (hfa : RS R 1 encI fa (fvals F (S + P))) {n : Nat} (hn : n ≤ 3000) (w0 : World) (E : List Ent) : K.Fn Tryz.prog 82 [.agg #[.slice fa (fvals F (S + P)).length fc, .int .i64 (P : Int), .int .i64 I], .int .i64 (n : Int)] w0 R E (fun v R' E' => ∃ (a : Option Addr) (c : Nat), v = .slice a (fvals F n).length c ∧ R = R' ∧ (.sl 3 1 a c ((fvals F n).map encI) :: E).Sublist E') := by
 have hen : ((n : Int)).toNat = n := by omega
 refine fE 22 Tryz.func82 ?_
 refine zQ (zG ?_)
 refine zO fun b2 => ?_
 refine zR 1 rfl (zN (zU (zQ (zG (zR 1 rfl ?_)))))
 refine WL.ef rfl rfl qD (Ef.makeSliceD (enc := encI) 0 tab_ok rfl rfl rfl rfl rfl rfl qX qX qX qX qD rfl rfl (fun a8 => ?_))
 refine zR 1 rfl (zN (zU (zQ (zQ (zG (zR 3 rfl (zN (zU (zB ?_)))))))))
 refine W.loopK (β := Nat) (fun i => i ≤ n) (fun i => [(11, true, .int .i64 (i : Int))]) [2, 5, 10] [_, _, _] [] _ rfl (fun i => [(0, .sl 3 1 (some ⟨a8, 0, none⟩) n ((partV F i n).map encI))]) (fun i => n - i) (0) (Nat.zero_le _) ⟨rfl, rfl, rfl, rfl, rfl⟩ (by dsimp only [setAll, List.set_cons_zero, List.set_cons_succ]; rw [partV_zero]; exact qS) ?_
 intro i hst
 dsimp only [zipE, setAll, List.cons_append, List.nil_append, List.set_cons_zero, List.set_cons_succ] at hst ⊢
 have hpl := partV_len F (t := i) (n := n) hst
 refine zQ (zG (zR 1 rfl (zN (zU (zQ ?_)))))
 refine cD rfl ?_ ?_ <;> intro hc0
 ·try dsimp only at hc0
  have hil : i < n := by omega
  have hset := partV_set F hil
  have hbd : F i ≤ 4000000000000000000 := by have := hf.bound i; omega
  refine zK (zU (zQ (zB (zQ (zG (zR 2 rfl (zN (zU (zG (zR 2 rfl ?_))))))))))
  refine yD (r := by (first | exact Rd.blk 0 rfl | exact Rd.blk 1 rfl | exact Rd.blk 2 rfl)) (k := ?_)
  refine zR 1 rfl ?_
  refine WG.callV (v := .int .i64 (F i)) en109 rfl rfl qD (CallOp.mk' rfl rfl rfl rfl) (fun _ => rfl) (fun hg => WAt_V hf hfa (t := i) qO hbd) ?_
  refine yI ?_
  first | refine WL.efN rfl rfl (Ef.storeD _ 0 tab_ok rfl rfl rfl rfl rfl qX rfl rfl rfl rfl ?_) | refine WL.efN rfl rfl (Ef.storeD _ 1 tab_ok rfl rfl rfl rfl rfl qX rfl rfl rfl rfl ?_) | refine WL.efN rfl rfl (Ef.storeD _ 2 tab_ok rfl rfl rfl rfl rfl qX rfl rfl rfl rfl ?_)
  refine zN (zL (zU (zG ?_)))
  refine yA ?_
  refine zR 1 rfl (zN ?_)
  refine WE.again (i + 1) (by omega) (by (try dsimp only); omega) ⟨rfl, rfl, rfl, rfl, rfl⟩ (RLe.refl _) (by dsimp only [setAll, List.set_cons_zero, List.set_cons_succ]; rw [← hset]; exact qS)
 ·try dsimp only at hc0
  obtain rfl : i = n := by omega
  rw [partV_all]
  refine zX ?_
  refine wx (wx (zY (zU (zQ (zG (zR 2 rfl (zN (zU (zT ?_)))))))))
  refine zr1 ?_
  exact ⟨some ⟨a8, 0, none⟩, i, by rw [fvals_len]; show Value.slice _ ((i : Nat) : Int).toNat ((i : Nat) : Int).toNat = _; rw [hen], rfl, qS⟩
theorem CChk_V {R : Ro} {pa : Option Addr} {pc : Nat} {ps : List Pkt} (hp : RS R 3 encP pa ps) (hok : Ok ps) {flow : Int} (hfl : 0 ≤ flow) {F : Nat → Int} {S P : Nat} {I : Int} {fa : Option Addr} {fc : Nat} (hf : FC F S P I) (hfa : RS R 1 encI fa (fvals F (S + P))) : FnV Tryz.prog 80 [.slice pa ps.length pc, .int .i64 flow, .agg #[.slice fa (fvals F (S + P)).length fc, .int .i64 (P : Int), .int .i64 I]] R (.int .i64 0) := by
 have hvv := (validate_ok ps).2 hok
 refine Fn.toVS (fun w0 E => ?_)
 refine fE 18 Tryz.func80 ?_
 refine zQ (zG ?_)
 refine zO fun b5 => ?_
 refine zR 1 rfl (zN (zU (zQ (zQ (zG (zR 1 rfl ?_))))))
 refine WG.callV en106 rfl rfl qD (CallOp.mk' rfl rfl rfl rfl) (fun _ => rfl) (fun hg => hvv ▸ Validate_V hp) ?_
 refine zR 1 rfl (zN (zU (zQ (zG (zR 2 rfl (zN (zU ?_)))))))
 refine cN rfl ?_ ?_ <;> intro hc0
 ·try dsimp only at hc0
  exact absurd rfl hc0
 ·try dsimp only at hc0
  refine zK (zU (zQ (zQ (zG (zR 2 rfl (zN (zU ?_)))))))
  refine cD rfl ?_ ?_ <;> intro hc1
  ·try dsimp only at hc1
   exfalso; omega
  ·try dsimp only at hc1
   refine zK (zU (zQ (zQ (zG ?_))))
   refine yD (r := by (first | exact Rd.blk 0 rfl | exact Rd.blk 1 rfl | exact Rd.blk 2 rfl)) (k := ?_)
   refine WG.callV (v := .bool true) en71 rfl rfl qD (CallOp.mk' rfl rfl rfl rfl) (fun _ => rfl) (fun hg => by
    have h := CValidX_V (fc := fc) (c := ⟨fvals F (S + P), P, I⟩) hfa
    rw [hf.valid'] at h
    exact h) ?_
   refine zR 1 rfl (zN (zU ?_))
   refine cC rfl ?_ ?_ <;> intro hc2
   ·try simp only [zk] at hc2
    first | exact absurd hc2 (by decide) | exact hc2 trivial | (simp at hc2)
   ·try simp only [zk] at hc2
    refine zK (zU (zQ (zG (zR 1 rfl (zN (zU (zT ?_)))))))
    refine zr1 ?_
    exact ⟨rfl, qS⟩
set_option maxHeartbeats 2000000 in
theorem Viol_C {R : Ro} {pa : Option Addr} {pc : Nat} {ps : List Pkt} (hp : RS R 3 encP pa ps) (hok : Ok ps) {flow : Int} (hfl : 0 ≤ flow) {F : Nat → Int} {S P : Nat} {I : Int} {fa : Option Addr} {fc : Nat} (hf : FC F S P I) (hfa : RS R 1 encI fa (fvals F (S + P))) {en : Nat} (hen : endN ps = en) (he : en ≤ 2001) (w0 : World) (E : List Ent) : K.Fn Tryz.prog 57 [.slice pa ps.length pc, .int .i64 flow, .agg #[.slice fa (fvals F (S + P)).length fc, .int .i64 (P : Int), .int .i64 I]] w0 R E (fun v R' E' => ∃ (x y : Int) (b : Bool), v = .tuple #[.int .i64 x, .int .i64 y, .bool b, .int .i64 0] ∧ (b = true → ∃ s t : Nat, s < t ∧ t ≤ en ∧ F (t - s) < winP flow s t ps) ∧ (b = false → ∀ t s : Nat, s < t → t ≤ en → pbytes flow (t : Int) ps ≠ pbytes flow ((t - 1 : Nat) : Int) ps → winP flow s t ps ≤ F (t - s)) ∧ E.Sublist E') := by
 have hpl := hok.len
 have hsz : ∀ p ∈ ps, 0 ≤ p.size ∧ p.size ≤ 1000000 := fun p hp => by have := hok.at hp; omega
 have hpb := fun u => pbytes_bound flow u ps hsz
 have hcl : (cumL flow ps (en + 1)).length = en + 1 := by simp [cumL]
 have hcn : ∀ u : Nat, u < en + 1 → nth (cumL flow ps (en + 1)) u = pbytes flow (u : Int) ps := fun u hu => range_map_nth _ hu
 have hwl : (fvals F (en + 1)).length = en + 1 := fvals_len ..
 have hwn : ∀ u, u < en + 1 → nth (fvals F (en + 1)) u = F u := fun u hu => fvals_nth F hu
 generalize hA : cumL flow ps (en + 1) = A at hcl hcn
 generalize hW : fvals F (en + 1) = V at hwl hwn
 refine fE 69 Tryz.func57 ?_
 refine zQ (zG ?_)
 refine zO fun b5 => ?_
 refine zR 4 rfl (zN (zU (zQ (zQ (zG (zR 2 rfl ?_))))))
 refine yD (r := by (first | exact Rd.blk 0 rfl | exact Rd.blk 1 rfl | exact Rd.blk 2 rfl | exact Rd.blk 3 rfl | exact Rd.blk 4 rfl)) (k := ?_)
 refine WG.callV en80 rfl rfl qD (CallOp.mk' rfl rfl rfl rfl) (fun _ => rfl) (fun hg => CChk_V hp hok hfl hf hfa) ?_
 refine zR 1 rfl (zN (zU (zQ (zG (zR 2 rfl (zN (zU ?_)))))))
 refine cN rfl ?_ ?_ <;> intro hc0
 ·try dsimp only at hc0
  exact absurd rfl hc0
 ·try dsimp only at hc0
  refine zK (zU (zQ (zG (zR 2 rfl ?_))))
  refine WL.call en81 rfl rfl qD (CallOp.mkT rfl rfl rfl rfl) (CSums_C (flow := flow) hp hok hen qO w0 _) ?_
  rintro _ _ E1 - ⟨aa, ac, rfl, rfl, hsub1⟩
  refine WL.subE hsub1 ?_
  rw [hA]
  refine WL.freeze (enc := encI) (xs := A) 0 rfl ?_
  intro R1 hR1 haA
  have hfa := hfa.mono hR1
  refine zR 1 rfl (zN (zU (zQ (zG ?_))))
  refine yD (r := by (first | exact Rd.blk 0 rfl | exact Rd.blk 1 rfl | exact Rd.blk 2 rfl | exact Rd.blk 3 rfl | exact Rd.blk 4 rfl)) (k := ?_)
  refine zR 2 rfl ?_
  refine WL.call en82 rfl rfl (by decide) (CallOp.mkT rfl rfl rfl rfl) (by rw [hcl]; exact TableF_C (n := en + 1) hf hfa (by omega) w0 _) ?_
  rintro _ _ E2 - ⟨wa, wc, rfl, rfl, hsub2⟩
  refine WL.subE hsub2 ?_
  rw [hW]
  refine WL.freeze (enc := encI) (xs := V) 0 rfl ?_
  intro R2 hR2 haW
  have haA := haA.mono hR2
  refine zR 1 rfl (zN (zU (zQ (zQ (zG (zR 1 rfl (zN (zU (zB ?_)))))))))
  refine W.loopK (β := Nat) (fun t => 1 ≤ t ∧ t ≤ en + 1 ∧ ∀ u s : Nat, s < u → u < t → pbytes flow (u : Int) ps ≠ pbytes flow ((u - 1 : Nat) : Int) ps → winP flow s u ps ≤ F (u - s)) (fun t => [(13, true, .int .i64 (t : Int))]) [11, 12] [_, _] [] _ rfl (fun t => []) (fun t => en + 1 - t) (1) (⟨Nat.le_refl _, by omega, fun u s h1 h2 => by omega⟩) ⟨rfl, rfl, rfl, rfl⟩ qS ?_
  intro t hst
  dsimp only [zipE, setAll, List.cons_append, List.nil_append, List.set_cons_zero, List.set_cons_succ] at hst ⊢
  obtain ⟨ht1, ht2, hold⟩ := hst
  refine zQ (zQ (zG (zR 4 rfl (zN (zU ?_)))))
  refine cD rfl ?_ ?_ <;> intro hc1
  ·try dsimp only at hc1
   have htl : t < en + 1 := by omega
   have hAt := hcn t htl
   have hAp := hcn (t - 1) (by omega)
   have hbt := hpb (t : Int)
   have hix : ((t : Int) - 1).toNat = t - 1 := by omega
   refine zK (zU (zQ (zB (zQ (zQ ?_)))))
   refine W.regionQ _ mixed qK ?_
   refine zR 2 rfl ?_
   refine yI ?_
   refine yD (r := by (first | (apply RS.rdD; assumption; ((try dsimp only) <;> omega)) | exact Rd.slD 0 rfl qX | exact Rd.slD 1 rfl qX | exact Rd.slD 2 rfl qX | exact Rd.slD 3 rfl qX | exact Rd.slD 4 rfl qX)) (k := ?_)
   refine zR 2 rfl ?_
   refine yS ?_
   refine yX ?_
   refine yD (r := by (first | (apply RS.rdD; assumption; ((try dsimp only) <;> omega)) | exact Rd.slD 0 rfl qX | exact Rd.slD 1 rfl qX | exact Rd.slD 2 rfl qX | exact Rd.slD 3 rfl qX | exact Rd.slD 4 rfl qX)) (k := ?_)
   refine zR 1 rfl (zN (zU ?_))
   refine cE rfl ?_ ?_ <;> intro hc2
   ·try dsimp only at hc2
    have hnew : ∀ s : Nat, s < t → pbytes flow (t : Int) ps ≠ pbytes flow ((t - 1 : Nat) : Int) ps → winP flow s t ps ≤ F (t - s) := fun s _ hne => absurd (by rw [← hAt, ← hAp, ← hix]; exact hc2) hne
    refine zX ?_
    refine wx (zY (zU (zG (zR 1 rfl ?_))))
    refine yA ?_
    refine zR 1 rfl (zN ?_)
    refine WE.again (t + 1) (⟨by omega, by omega, fun u s h1 h2 h3 => by
     by_cases e : u = t
     ·subst e; exact hnew s h1 h3
     ·exact hold u s h1 (by omega) h3⟩) (by (try dsimp only); omega) ⟨rfl, rfl, rfl, rfl⟩ (RLe.refl _) qS
   ·try dsimp only at hc2
    refine zK (zU (zQ (zG (zR 1 rfl ?_))))
    refine yS ?_
    refine zR 1 rfl (zN (zU (zB ?_)))
    refine W.loopK (β := Nat) (fun b => b ≤ t ∧ ∀ s : Nat, b ≤ s → s < t → winP flow s t ps ≤ F (t - s)) (fun b => [(14, true, .int .i64 ((b : Int) - 1))]) [11, 12, 13] [_, _, _] [] _ rfl (fun b => []) (fun b => b) (t) (⟨Nat.le_refl _, fun s h1 h2 => by omega⟩) ⟨rfl, rfl, rfl, rfl, rfl⟩ qS ?_
    intro b hst
    dsimp only [zipE, setAll, List.cons_append, List.nil_append, List.set_cons_zero, List.set_cons_succ] at hst ⊢
    obtain ⟨hbt2, hin⟩ := hst
    refine zQ (zQ (zG (zR 2 rfl (zN (zU ?_)))))
    refine cD rfl ?_ ?_ <;> intro hc3
    ·try dsimp only at hc3
     obtain ⟨k, rfl⟩ : ∃ k, b = k + 1 := ⟨b - 1, by omega⟩
     have hbk := hpb (k : Int)
     have hAk : nth A (((k + 1 : Nat) : Int) - 1).toNat = pbytes flow (k : Int) ps := by rw [show (((k + 1 : Nat) : Int) - 1).toNat = k by omega]; exact hcn k (by omega)
     have hWk : nth V ((t : Int) - (((k + 1 : Nat) : Int) - 1)).toNat = F (t - k) := by rw [show ((t : Int) - (((k + 1 : Nat) : Int) - 1)).toNat = t - k by omega]; exact hwn (t - k) (by omega)
     refine zK (zU (zQ (zB (zQ ?_))))
     refine W.regionQ _ mixed qK ?_
     refine zR 2 rfl ?_
     refine yI ?_
     refine yD (r := by (first | (apply RS.rdD; assumption; ((try dsimp only) <;> omega)) | exact Rd.slD 0 rfl qX | exact Rd.slD 1 rfl qX | exact Rd.slD 2 rfl qX | exact Rd.slD 3 rfl qX | exact Rd.slD 4 rfl qX)) (k := ?_)
     refine zR 2 rfl ?_
     refine yX ?_
     refine yD (r := by (first | (apply RS.rdD; assumption; ((try dsimp only) <;> omega)) | exact Rd.slD 0 rfl qX | exact Rd.slD 1 rfl qX | exact Rd.slD 2 rfl qX | exact Rd.slD 3 rfl qX | exact Rd.slD 4 rfl qX)) (k := ?_)
     refine yS ?_
     refine zR 3 rfl ?_
     refine yS ?_
     refine yX ?_
     refine yD (r := by (first | (apply RS.rdD; assumption; ((try dsimp only) <;> omega)) | exact Rd.slD 0 rfl qX | exact Rd.slD 1 rfl qX | exact Rd.slD 2 rfl qX | exact Rd.slD 3 rfl qX | exact Rd.slD 4 rfl qX)) (k := ?_)
     refine zR 1 rfl (zN (zU ?_))
     refine cD rfl ?_ ?_ <;> intro hc4
     ·try dsimp only at hc4
      refine zQ (zG (zR 6 rfl (zN (zU (zT (wb (wt (wt (wb (wb (wt (wt (wb (wt ?_))))))))))))))
      refine WE.retF tab_ok [_, _, _, _] rfl ⟨rfl, rfl, rfl, rfl, trivial⟩ ((by first | exact hR1.trans hR2 | exact RLe.refl _)) ?_
      exact ⟨_, _, true, rfl, fun _ => ⟨k, t, by omega, by omega, by unfold winP; omega⟩, fun h => (by cases h), qS⟩
     ·try dsimp only at hc4
      refine zK (zL (zU (zG (zR 1 rfl ?_))))
      refine yS ?_
      refine zR 1 rfl (zN ?_)
      rw [show ((k + 1 : Nat) : Int) - 1 - 1 = (k : Int) - 1 by omega]
      refine WE.again (k) (⟨by omega, fun s h1 h2 => by
       by_cases e : s = k
       ·subst e; unfold winP; omega
       ·exact hin s (by omega) h2⟩) (by (try dsimp only); omega) ⟨rfl, rfl, rfl, rfl, rfl⟩ (RLe.refl _) qS
    ·try dsimp only at hc3
     have hnew : ∀ s : Nat, s < t → pbytes flow (t : Int) ps ≠ pbytes flow ((t - 1 : Nat) : Int) ps → winP flow s t ps ≤ F (t - s) := fun s hs _ => hin s (by omega) hs
     refine zX ?_
     refine wx (wx (zY (zL (zU (zG (zR 1 rfl ?_))))))
     refine yA ?_
     refine zR 1 rfl (zN ?_)
     refine WE.again (t + 1) (⟨by omega, by omega, fun u s h1 h2 h3 => by
      by_cases e : u = t
      ·subst e; exact hnew s h1 h3
      ·exact hold u s h1 (by omega) h3⟩) (by (try dsimp only); omega) ⟨rfl, rfl, rfl, rfl⟩ (RLe.refl _) qS
  ·try dsimp only at hc1
   have htE : t = en + 1 := by omega
   refine zX ?_
   refine wx (wx (zY (zU (zQ (zG (zR 4 rfl (zN (zU (zT ?_)))))))))
   refine WE.retF tab_ok [_, _, _, _] rfl ⟨rfl, rfl, rfl, rfl, trivial⟩ ((by first | exact hR1.trans hR2 | exact RLe.refl _)) ?_
   exact ⟨_, _, false, rfl, fun h => (by cases h), fun _ u s h1 h2 h3 => hold u s h1 qO h3, qS⟩

theorem CKeep_C {R : Ro} {pa : Option Addr} {pc : Nat} {ps : List Pkt} (hp : RS R 3 encP pa ps) (hok : Ok ps) {flow : Int} (hfl : 0 ≤ flow) {c : Cv} {fa : Option Addr} {fc : Nat} (hv : validB c = true) (hfi : finB c = true) (hfa : RS R 1 encI fa c.vals) {en : Nat} (hen : endN ps = en) (he : en ≤ 2001) (w0 : World) (E : List Ent) : K.Fn Tryz.prog 31 [.slice pa ps.length pc, .int .i64 flow, .agg #[.slice fa c.vals.length fc, .int .i64 c.per, .int .i64 c.inc]] w0 R E (fun v R' E' => ∃ b : Bool, v = .bool (!b) ∧ (b = true → ∃ s t : Nat, s < t ∧ t ≤ en ∧ cvF c (t - s) < winP flow s t ps) ∧ (b = false → ∀ t s : Nat, s < t → t ≤ en → pbytes flow (t : Int) ps ≠ pbytes flow ((t - 1 : Nat) : Int) ps → winP flow s t ps ≤ cvF c (t - s)) ∧ E.Sublist E') := by
 rcases valid_cases hv with ⟨S, P, hcc, hcl, hcp, hf, hfb⟩ | ⟨n, hcc, hn, hcp, hci, h1, h2, hfb⟩
 rotate_left
 ·rw [hfb] at hfi; cases hfi
 obtain ⟨F, hF⟩ : ∃ F, F = cvF c := ⟨_, rfl⟩
 rw [← hF] at hf hcc ⊢
 have hcv : c.vals = fvals F (S + P) := by rw [hcc]
 rw [hcp, hcv]
 rw [hcv] at hfa
 obtain ⟨I, hI⟩ : ∃ I, I = c.inc := ⟨_, rfl⟩
 rw [← hI] at hf ⊢
 clear hcc hcl hcp hcv hF hI
 refine fE 26 Tryz.func31 ?_
 refine zQ (zG ?_)
 refine zO fun b5 => ?_
 refine zR 1 rfl (zN (zU (zQ (zG (zR 2 rfl ?_)))))
 refine yD (r := by (first | exact Rd.blk 0 rfl | exact Rd.blk 1 rfl | exact Rd.blk 2 rfl)) (k := ?_)
 refine WL.call en57 rfl rfl qD (CallOp.mkT rfl rfl rfl rfl) (Viol_C hp hok hfl hf hfa hen he w0 _) ?_
 rintro _ R1 E1 hR1 ⟨x, y, b, rfl, hb1, hb2, hsub1⟩
 refine WL.subE hsub1 ?_
 refine zR 9 rfl (zN (zU (zQ (zG (zR 3 rfl ?_)))))
 refine yP ?_
 refine yP ?_
 refine yN ?_
 refine zR 1 rfl (zN (zU (zT ?_)))
 refine zq1 (hR1) ?_
 exact ⟨b, by cases b <;> rfl, hb1, hb2, qS⟩

set_option maxHeartbeats 1000000 in
theorem Word_V {R : Ro} {s : List UInt8} (hs : s.length ≤ 9223372036854775807) : FnV Tryz.prog 69 [.string (str s)] R (.bool (wordB s)) := by
 refine Fn.toV (fun w0 E => ?_)
 have hss := str_size s
 have hse : str s = ⟨#[]⟩ ↔ s = [] := ⟨fun h => str_inj (b := []) h, fun h => by rw [h]; rfl⟩
 have h0l : s ≠ [] → 0 < s.length := List.length_pos_iff.2
 refine fE 49 Tryz.func69 ?_
 refine zQ (zG (zR 1 rfl (zN (zU (zQ (zQ (zG (zR 1 rfl ?_))))))))
 refine WG.y rfl rfl qD (Yl.eqS rfl rfl rfl (fun _ => rfl)) ?_
 refine zR 1 rfl ?_
 refine yP ?_
 refine yP ?_
 refine yP ?_
 refine yO ?_
 refine zR 1 rfl ?_
 refine yP ?_
 refine WG.y rfl rfl (by decide) (Yl.sidx tab_ok rfl rfl rfl rfl rfl qE (by intro hg; (try simp only [zk] at hg); (have h1 := hg; have h2 : s ≠ [] := (fun h => by subst h; simp [str] at h1); have h3 := h0l h2; constructor <;> omega))) ?_
 refine yP ?_
 refine yO ?_
 refine zR 1 rfl ?_
 refine yP ?_
 refine WG.y rfl rfl (by decide) (Yl.sidx tab_ok rfl rfl rfl rfl rfl qE (by intro hg; (try simp only [zk] at hg); (have h1 := hg; have h2 : s ≠ [] := (fun h => by subst h; simp [str] at h1); have h3 := h0l h2; constructor <;> omega))) ?_
 refine yP ?_
 refine yO ?_
 refine zN (zU ?_)
 refine cC rfl ?_ ?_ <;> intro hc0
 ·try simp only [zk] at hc0
  have h00 : byteAt s ((0 : Int)).toNat = byteAt s 0 := rfl
  try rw [h00] at hc0
  have hno : wordB s = false := by
   unfold wordB
   rw [decide_eq_false_iff_not]
   rintro ⟨h1, h2, h3, h4⟩
   rcases hc0 with ((h | h) | h) | h
   ·rw [hse.1 h] at h1; simp at h1
   all_goals omega
  refine zQ (zG (zR 1 rfl (zN (zU (zT (wt ?_))))))
  refine sE (E := E) ?_
  refine zr1 ?_
  exact ⟨by rw [hno]; rfl, rfl⟩
 ·try simp only [zk] at hc0
  have h00 : byteAt s ((0 : Int)).toNat = byteAt s 0 := rfl
  try rw [h00] at hc0
  have hne : s ≠ [] := fun h => by rw [h] at hc0; simp [str] at hc0
  have hl1 := h0l hne
  have hok : 1 ≤ s.length ∧ s.length ≤ 12 ∧ 97 ≤ byteAt s 0 ∧ byteAt s 0 ≤ 122 := by omega
  refine zK (zU (zQ (zQ (zG (zR 1 rfl (zN (zU (zB ?_))))))))
  refine W.loopK (β := Nat) (fun i => (1 ≤ i ∧ i ≤ s.length) ∧ ∀ j, j < i → wordOk s j) (fun i => [(3, true, .int .i64 (i : Int))]) [0] [_] [] _ rfl (fun i => []) (fun i => s.length - i) (1) (⟨⟨Nat.le_refl _, hok.1⟩, fun j hj => by
   obtain rfl : j = 0 := by omega
   exact .inr (.inr hok.2.2)⟩) ⟨rfl, rfl, rfl⟩ qS ?_
  intro i hst
  dsimp only [zipE, setAll, List.cons_append, List.nil_append, List.set_cons_zero, List.set_cons_succ] at hst ⊢
  refine zQ (zQ (zG (zR 4 rfl (zN (zU ?_)))))
  refine cD rfl ?_ ?_ <;> intro hc1
  ·try dsimp only at hc1
   have hil : i < s.length := by omega
   have hbt : byteAt s ((i : Int)).toNat = byteAt s i := rfl
   refine zK (zU (zQ (zB (zQ (zG (zR 2 rfl ?_))))))
   refine WG.y rfl rfl qD (Yl.sidx tab_ok rfl rfl rfl rfl rfl (fun _ => rfl) qA) ?_
   refine zR 1 rfl (zN (zU (zQ (zG (zR 3 rfl ?_)))))
   refine yP ?_
   refine yP ?_
   refine yP ?_
   refine yP ?_
   refine yP ?_
   refine yO ?_
   refine yN ?_
   refine zR 1 rfl ?_
   refine yP ?_
   refine yP ?_
   refine yP ?_
   refine yP ?_
   refine yP ?_
   refine yO ?_
   refine yN ?_
   refine zN (zU ?_)
   refine cC rfl ?_ ?_ <;> intro hc2
   ·try simp only [zk] at hc2
    have hno : wordB s = false := by
     unfold wordB
     rw [decide_eq_false_iff_not]
     rintro ⟨h1, h2, h3, h4⟩
     have := h4 i hil
     unfold wordOk at this
     rw [hbt] at hc2
     omega
    refine zQ (zG (zR 1 rfl (zN (zU (zT (wb (wt (wt (wb (wt ?_))))))))))
    refine sE (E := E) ?_
    refine zr1 ?_
    exact ⟨by rw [hno]; rfl, rfl⟩
   ·try simp only [zk] at hc2
    rw [hbt] at hc2
    have hy : wordOk s i := by unfold wordOk; omega
    refine zK (zL (zU (zG (zR 1 rfl ?_))))
    refine yA ?_
    refine zR 1 rfl (zN ?_)
    refine WE.again (i + 1) (⟨by omega, fun j hj => by
     by_cases e : j = i
     ·subst e; exact hy
     ·exact hst.2 j (by omega)⟩) (by (try dsimp only); omega) ⟨rfl, rfl, rfl⟩ (RLe.refl _) qS
  ·try dsimp only at hc1
   obtain rfl : i = s.length := by omega
   refine zX ?_
   refine wx (wx (zY (zU (zQ (zG (zR 1 rfl (zN (zU (zT ?_)))))))))
   refine sE (E := E) ?_
   refine zr1 ?_
   exact ⟨by rw [show wordB s = true from decide_eq_true ⟨hok.1, hok.2.1, hok.2.2, hst.2⟩]; rfl, rfl⟩

theorem Fresh_C {R : Ro} {b : Nat} {met : List (List UInt8)} {n : List UInt8} (hn : n.length ≤ 9223372036854775807) (w0 : World) : FnAt Tryz.prog 41 [.map (some b), .string (str n)] w0 R (.obj b (setO met)) (fun v R' e' N => v = .int .i64 (frE met n) ∧ R = R' ∧ e' = .obj b (setO (if frE met n = 0 then met ++ [n] else met)) ∧ N = []) := by
 intro F
 refine fE 13 Tryz.func41 ?_
 refine zQ (zG (zR 1 rfl (zN (zU (zQ (zQ (zG (zR 1 rfl ?_))))))))
 refine WG.callV en69 rfl rfl qD (CallOp.mk' rfl rfl rfl rfl) (fun _ => rfl) (fun hg => Word_V (s := n) hn) ?_
 refine zR 1 rfl (zN (zU ?_))
 refine cC rfl ?_ ?_ <;> intro hc0
 ·try simp only [zk] at hc0
  have hw : wordB n = false := by simpa using hc0
  have hf : frE met n = 4 := if_pos hw
  refine zQ (zG (zR 1 rfl (zN (zU (zT (wt ?_))))))
  refine zr1 ?_
  exact ⟨_, [], rfl, by rw [hf]; rfl, rfl, by rw [hf]; rfl, rfl⟩
 ·try simp only [zk] at hc0
  have hw : wordB n = true := by simpa using hc0
  refine zK (zU (zQ (zQ (zG (zR 2 rfl ?_)))))
  refine WG.y rfl rfl qD (Yl.setHas tab_ok rfl rfl rfl rfl rfl rfl rfl rfl (fun _ => rfl)) ?_
  refine zN (zU ?_)
  refine cC rfl ?_ ?_ <;> intro hc1
  ·try simp only [zk] at hc1
   have hi : n ∈ met := by simpa using hc1
   have hf : frE met n = 60 := by unfold frE; rw [if_neg (by rw [hw]; decide), if_pos hi]
   refine zQ (zG (zR 1 rfl (zN (zU (zT (wt ?_))))))
   refine zr1 ?_
   exact ⟨_, [], rfl, by rw [hf]; rfl, rfl, by rw [hf]; rfl, rfl⟩
  ·try simp only [zk] at hc1
   have hi : n ∉ met := by simpa using hc1
   have hf : frE met n = 0 := by unfold frE; rw [if_neg (by rw [hw]; decide), if_neg hi]
   refine zK (zU (zQ (zG (zR 2 rfl ?_))))
   refine WL.efN rfl rfl (Ef.setAdd tab_ok rfl rfl rfl rfl rfl rfl rfl rfl (by simpa using hc1) ?_)
   refine zN (zU (zQ (zG (zR 1 rfl (zN (zU (zT ?_)))))))
   refine zr1 ?_
   exact ⟨_, [], rfl, by rw [hf]; rfl, rfl, by rw [hf, if_pos rfl], rfl⟩

def kindI (k : Int) : Value := if k = 1 then .iface 187 (.agg #[]) else if k = 2 then .iface 188 (.agg #[]) else if k = 3 then .iface 189 (.agg #[]) else if k = 4 then .iface 190 (.agg #[]) else if k = 5 then .iface 191 (.agg #[]) else .nilIface
def kindB (k : Int) : Bool := decide (1 ≤ k) && decide (k ≤ 5)
def kindR (k : Int) : Option (Nat × Value) := if k = 1 then some (0, .iface 187 (.agg #[])) else if k = 2 then some (1, .iface 188 (.agg #[])) else if k = 3 then some (2, .iface 189 (.agg #[])) else if k = 4 then some (3, .iface 190 (.agg #[])) else if k = 5 then some (4, .iface 191 (.agg #[])) else none
theorem kind_find (k : Int) : Instr.findNow (.int .i64) (.int .i64 k) [{ key := .int .i64 1, val := .iface 187 (.agg #[]), born := 0 }, { key := .int .i64 2, val := .iface 188 (.agg #[]), born := 1 }, { key := .int .i64 3, val := .iface 189 (.agg #[]), born := 2 }, { key := .int .i64 4, val := .iface 190 (.agg #[]), born := 3 }, { key := .int .i64 5, val := .iface 191 (.agg #[]), born := 4 }] 0 = some (kindR k) := by
 unfold kindR
 by_cases h1 : k = 1
 ·subst h1; rfl
 ·by_cases h2 : k = 2
  ·subst h2; rfl
  ·by_cases h3 : k = 3
   ·subst h3; rfl
   ·by_cases h4 : k = 4
    ·subst h4; rfl
    ·by_cases h5 : k = 5
     ·subst h5; rfl
     ·have e1 : (k == 1) = false := by simpa using h1
      have e2 : (k == 2) = false := by simpa using h2
      have e3 : (k == 3) = false := by simpa using h3
      have e4 : (k == 4) = false := by simpa using h4
      have e5 : (k == 5) = false := by simpa using h5
      simp [Instr.findNow, Instr.sameNow, h1, h2, h3, h4, h5, e1, e2, e3, e4, e5]
theorem kind_hit (k : Int) : foundV .nilIface (kindR k) = .tuple #[kindI k, .bool (kindB k)] := by
 unfold kindR kindI kindB
 by_cases h1 : k = 1
 ·subst h1; rfl
 ·by_cases h2 : k = 2
  ·subst h2; rfl
  ·by_cases h3 : k = 3
   ·subst h3; rfl
   ·by_cases h4 : k = 4
    ·subst h4; rfl
    ·by_cases h5 : k = 5
     ·subst h5; rfl
     ·have : (decide (1 ≤ k) && decide (k ≤ 5)) = false := by simp only [Bool.and_eq_false_iff, decide_eq_false_iff_not]; omega
      simp [h1, h2, h3, h4, h5, this, foundV]
theorem Kind_V {R : Ro} (k : Int) : FnV Tryz.prog 70 [.int .i64 k] R (.tuple #[kindI k, .bool (kindB k)]) := by
 refine Fn.toV (fun w0 E => ?_)
 refine fE 25 Tryz.func70 ?_
 refine zQ (zG (zR 2 rfl (zN (zU (zQ (zG ?_))))))
 refine WL.ef rfl rfl qD (Ef.makeMap rfl (fun b7 => ?_))
 refine yW [] ?_
 refine WG.y rfl rfl qD (Yl.toIface tab_ok rfl rfl rfl rfl (fun _ => rfl)) ?_
 refine WL.efN rfl rfl (Ef.insert tab_ok rfl rfl rfl rfl rfl rfl rfl rfl rfl ?_)
 refine yW [] ?_
 refine WG.y rfl rfl qD (Yl.toIface tab_ok rfl rfl rfl rfl (fun _ => rfl)) ?_
 refine WL.efN rfl rfl (Ef.insert tab_ok rfl rfl rfl rfl rfl rfl rfl rfl rfl ?_)
 refine yW [] ?_
 refine WG.y rfl rfl qD (Yl.toIface tab_ok rfl rfl rfl rfl (fun _ => rfl)) ?_
 refine WL.efN rfl rfl (Ef.insert tab_ok rfl rfl rfl rfl rfl rfl rfl rfl rfl ?_)
 refine yW [] ?_
 refine WG.y rfl rfl qD (Yl.toIface tab_ok rfl rfl rfl rfl (fun _ => rfl)) ?_
 refine WL.efN rfl rfl (Ef.insert tab_ok rfl rfl rfl rfl rfl rfl rfl rfl rfl ?_)
 refine yW [] ?_
 refine WG.y rfl rfl qD (Yl.toIface tab_ok rfl rfl rfl rfl (fun _ => rfl)) ?_
 refine WL.efN rfl rfl (Ef.insert tab_ok rfl rfl rfl rfl rfl rfl rfl rfl rfl ?_)
 refine zR 2 rfl ?_
 refine WG.y rfl rfl qD (Yl.lookup (r := kindR k) (v := .tuple #[kindI k, .bool (kindB k)]) tab_ok rfl rfl rfl rfl rfl rfl rfl rfl (fun _ => rfl) (kind_find k) (kind_hit k)) ?_
 refine zR 5 rfl (zN (zU (zQ (zG (zR 4 rfl (zN (zU (zT ?_))))))))
 refine sE (E := E) ?_
 refine zr2 ?_
 exact ⟨rfl, rfl⟩
theorem IndexI_V {R : Ro} {a : Option Addr} {c : Nat} {xs : List Int} {g : FuncId} {first capd : Array Value} {p : Int → Bool} (ha : RS R 1 encI a xs) (heg : Enters Tryz.prog g) (hp : ∀ i, i < xs.length → FnV Tryz.prog g (first.toList ++ [.int .i64 (nth xs i)] ++ capd.toList) R (.bool (p (nth xs i)))) :
  FnV Tryz.prog 275 [.slice a xs.length c, .func (.func g) first capd] R (.int .i64 (findN (fun i => p (nth xs i)) xs.length)) := by
 have hla := ha.len
 refine Fn.toV (fun w0 E => ?_)
 refine fE 19 Tryz.func275 ?_
 refine zQ (zG (zR 1 rfl (zN (zU (zQ (zQ (zG (zR 3 rfl (zN (zU (zB ?_)))))))))))
 refine W.loopK (β := Nat) (fun k => k ≤ xs.length ∧ ∀ i, i < k → p (nth xs i) = false) (fun k => [(8, true, .int .i64 (k : Int))]) [0, 1, 7] [_, _, _] [] _ rfl (fun k => []) (fun k => xs.length - k) (0) (⟨Nat.zero_le _, fun i hi => absurd hi (Nat.not_lt_zero i)⟩) ⟨rfl, rfl, rfl, rfl, rfl⟩ qS ?_
 intro k hst
 dsimp only [zipE, setAll, List.cons_append, List.nil_append, List.set_cons_zero, List.set_cons_succ] at hst ⊢
 obtain ⟨hk, hpre⟩ := hst
 refine zQ (zG (zR 1 rfl (zN (zU (zQ ?_)))))
 refine cD rfl ?_ ?_ <;> intro hc0
 ·try dsimp only at hc0
  refine zK (zU (zQ (zB (zQ (zG (zR 2 rfl (zN (zU (zQ (zG (zR 3 rfl ?_)))))))))))
  refine yI ?_
  refine yD (r := by (first | (apply RS.rdD; assumption; ((try dsimp only) <;> omega)) | exact Rd.slD 0 rfl qX | exact Rd.slD 1 rfl qX | exact Rd.slD 2 rfl qX)) (k := ?_)
  refine WG.callV (v := .bool (p (nth xs k))) heg rfl rfl qD (CallOp.mk' rfl rfl rfl rfl) (fun _ => rfl) (fun hg => hp k qO) ?_
  refine zN (zU ?_)
  refine cC rfl ?_ ?_ <;> intro hc1
  ·try simp only [zk] at hc1
   refine zQ (zG (zR 2 rfl (zN (zU (zT (wb (wt (wt (wb (wt ?_))))))))))
   refine sE (E := E) ?_
   refine zr1 ?_
   exact ⟨congrArg (Value.int IntKind.i64) (findN_some qO hc1 hpre).symm, rfl⟩
  ·try simp only [zk] at hc1
   refine zK (zL (zU (zG ?_)))
   refine yA ?_
   refine zR 1 rfl (zN ?_)
   refine WE.again (k + 1) (⟨by omega, fun i hi => by rcases Nat.lt_or_ge i k with h | h; exact hpre i h; rw [show i = k by omega]; simpa using hc1⟩) (by (try dsimp only); omega) ⟨rfl, rfl, rfl, rfl, rfl⟩ (RLe.refl _) qS
 ·try dsimp only at hc0
  refine zX ?_
  refine wx (wx (zY (zU (zQ (zG (zR 1 rfl (zN (zU (zT ?_)))))))))
  refine sE (E := E) ?_
  refine zr1 ?_
  exact ⟨congrArg (Value.int IntKind.i64) (findN_none (fun j hj => hpre j qO)).symm, rfl⟩
theorem ContainsI_V {R : Ro} {a : Option Addr} {c : Nat} {xs : List Int} {g : FuncId} {first capd : Array Value} {p : Int → Bool} (ha : RS R 1 encI a xs) (heg : Enters Tryz.prog g) (hp : ∀ i, i < xs.length → FnV Tryz.prog g (first.toList ++ [.int .i64 (nth xs i)] ++ capd.toList) R (.bool (p (nth xs i)))) :
  FnV Tryz.prog 265 [.slice a xs.length c, .func (.func g) first capd] R (.bool (decide (0 ≤ findN (fun i => p (nth xs i)) xs.length))) := by
 refine Fn.toV (fun w0 E => ?_)
 refine fE 9 Tryz.func265 ?_
 refine zQ (zG (zR 1 rfl (zN (zU (zQ (zG (zR 2 rfl ?_)))))))
 refine WG.callV en275 rfl rfl qD (CallOp.mk' rfl rfl rfl rfl) (fun _ => rfl) (fun hg => IndexI_V ha heg hp) ?_
 refine zR 2 rfl (zN (zU (zT ?_)))
 refine sE (E := E) ?_
 refine zr1 ?_
 exact ⟨rfl, rfl⟩
theorem Within1_V {R : Ro} {b4 b5 : Nat} {lo hi x : Int} (h4 : R b4 = some [.int .i64 lo]) (h5 : R b5 = some [.int .i64 hi]) :
  FnV Tryz.prog 266 [.int .i64 x, .pointer (some ⟨b4, 0, none⟩), .pointer (some ⟨b5, 0, none⟩)] R (.bool (outB lo hi x)) := by
 refine Fn.toV (fun w0 E => ?_)
 refine fE 13 Tryz.func266 ?_
 refine zQ (zG (zR 1 rfl (zN (zU (zQ (zG (zR 1 rfl ?_)))))))
 refine yD (r := by exact Rd.ro h4) (k := ?_)
 refine zR 2 rfl ?_
 refine yP ?_
 refine yJ (r := by exact fun (_ : True) => Rd.ro h5) (k := ?_)
 refine yP ?_
 refine yO ?_
 refine zR 1 rfl (zN (zU (zT ?_)))
 refine sE (E := E) ?_
 refine zr1 ?_
 exact ⟨by unfold outB; rfl, rfl⟩
theorem Within_V {R : Ro} {a : Option Addr} {c l : Nat} {xs : List Int} {lo hi : Int} (ha : RS R 1 encI a xs) (hl : xs.length = l) :
  FnV Tryz.prog 262 [.slice a l c, .int .i64 lo, .int .i64 hi] R (.bool (withinB xs lo hi)) := by
 subst hl
 refine Fn.toV (fun w0 E => ?_)
 refine fE 11 Tryz.func262 ?_
 refine zQ (zG ?_)
 refine zO fun b4 => ?_
 refine zO fun b5 => ?_
 refine zR 1 rfl (zN (zU ?_))
 refine W.freezeBlk (b := b4) 1 rfl (fun R1 hR1 hb1 => ?_)
 refine W.freezeBlk (b := b5) 0 rfl (fun R2 hR2 hb2 => ?_)
 refine zQ (zG (zR 2 rfl ?_))
 refine WG.callV en265 rfl rfl qD (CallOp.mk' rfl rfl rfl rfl) (fun _ => rfl) (fun hg => ContainsI_V (ha.mono (hR1.trans hR2)) en266 (fun i hi => Within1_V (hR2 _ _ hb1) hb2)) ?_
 refine zR 2 rfl (zN (zU (zT ?_)))
 refine sE (E := E) ?_
 refine zq1 (hR1.trans hR2) ?_
 exact ⟨congrArg Value.bool within_find, rfl⟩
theorem Lists_V {R : Ro} {a : Option Addr} {c : Nat} {rows : List Sl} {b : Bool} (ha : RS R 1 encS a rows) :
  FnV Tryz.prog 241 [.bool b, .slice a rows.length c] R (.int .i64 (listsE b (rows.map Sl.xs))) := by
 have hla := ha.len
 refine Fn.toV (fun w0 E => ?_)
 refine fE 19 Tryz.func241 ?_
 refine zQ (zG (zR 1 rfl (zN (zU (zQ (zQ (zG (zR 2 rfl (zN (zU ?_))))))))))
 refine cC rfl ?_ ?_ <;> intro hc0
 ·try simp only [zk] at hc0
  refine zQ (zG (zR 1 rfl (zN (zU (zT (wt ?_))))))
  refine sE (E := E) ?_
  refine zr1 ?_
  exact ⟨by rw [show listsE b (rows.map Sl.xs) = 2 by simp [hc0, listsE]]; rfl, rfl⟩
 ·try simp only [zk] at hc0
  refine zK (zU (zQ (zQ (zG (zR 3 rfl (zN (zU (zB ?_))))))))
  refine W.loopK (β := Nat) (fun k => k ≤ rows.length ∧ ∀ i, i < k → (nth rows i).xs.length = 0) (fun k => [(11, true, .int .i64 (k : Int))]) [9, 10] [_, _] [] _ rfl (fun k => []) (fun k => rows.length - k) (0) (⟨Nat.zero_le _, fun i hi => absurd hi (Nat.not_lt_zero i)⟩) ⟨rfl, rfl, rfl, rfl⟩ qS ?_
  intro k hst
  dsimp only [zipE, setAll, List.cons_append, List.nil_append, List.set_cons_zero, List.set_cons_succ] at hst ⊢
  obtain ⟨hk, hpre⟩ := hst
  refine zQ (zG (zR 1 rfl (zN (zU (zQ ?_)))))
  refine cD rfl ?_ ?_ <;> intro hc1
  ·try dsimp only at hc1
   refine zK (zU (zQ (zB (zQ (zG ?_)))))
   refine yI ?_
   refine yD (r := by (first | (apply RS.rdD; assumption; ((try dsimp only) <;> omega)) | exact Rd.slD 0 rfl qX | exact Rd.slD 1 rfl qX | exact Rd.slD 2 rfl qX)) (k := ?_)
   refine zR 1 rfl (zN (zU (zQ (zG (zR 3 rfl (zN (zU ?_)))))))
   refine cD rfl ?_ ?_ <;> intro hc2
   ·try dsimp only at hc2
    refine zQ (zG (zR 1 rfl (zN (zU (zT (wb (wt (wt (wb (wt ?_))))))))))
    refine sE (E := E) ?_
    refine zr1 ?_
    have hb : b = true := by simpa using hc0
    exact ⟨by unfold listsE; rw [if_neg (by simp [hb]), if_pos (List.any_eq_true.2 ⟨(nth rows k).xs, List.mem_map.2 ⟨_, nth_mem (xs := rows) (k := k) (by omega), rfl⟩, by simp; omega⟩)]; rfl, rfl⟩
   ·try dsimp only at hc2
    refine zK (zL (zU (zG ?_)))
    refine yA ?_
    refine zR 1 rfl (zN ?_)
    refine WE.again (k + 1) (⟨by omega, fun i hi => by rcases Nat.lt_or_ge i k with h | h; exact hpre i h; rw [show i = k by omega]; omega⟩) (by (try dsimp only); omega) ⟨rfl, rfl, rfl, rfl⟩ (RLe.refl _) qS
  ·try dsimp only at hc1
   refine zX ?_
   refine wx (wx (zY (zU (zQ (zG (zR 1 rfl (zN (zU (zT ?_)))))))))
   refine sE (E := E) ?_
   refine zr1 ?_
   have hb : b = true := by simpa using hc0
   have hno : ((rows.map Sl.xs).any fun r => decide (0 < r.length)) = false := by
    rw [List.any_eq_false]
    intro r hr
    obtain ⟨x, hx, rfl⟩ := List.mem_map.1 hr
    obtain ⟨i, hi, rfl⟩ := List.getElem_of_mem hx
    have := hpre i (by omega)
    rw [show nth rows i = rows[i] by unfold nth List.getD; rw [List.getElem?_eq_getElem hi]; rfl] at this
    simp [this]
   exact ⟨by unfold listsE; rw [if_neg (by simp [hb]), hno]; rfl, rfl⟩

theorem ChkFifo_V {R : Ro} {aw at_ : Option Addr} {lw cw lt ct : Nat} {L : Ln} (hw : RS R 1 encI aw L.w) (hlw : L.w.length = lw) (ht : RS R 1 encI at_ L.tb) (hlt : L.tb.length = lt) (hn : 1 ≤ L.n ∧ L.n ≤ 6) : FnV Tryz.prog 238 [.agg #[], .agg #[.int .i64 L.kind, .int .i64 L.cap, .int .i64 L.n, .slice aw lw cw, .slice at_ lt ct]] R (.int .i64 (listsE true [L.w, L.tb])) := by
 subst hlw
 subst hlt
 have hw1 := hw.len
 have ht1 := ht.len
 refine Fn.toV (fun w0 E => ?_)
 refine fE 11 Tryz.func238 ?_
 refine zQ (zG ?_)
 refine zO fun b2 => ?_
 refine zO fun b3 => ?_
 refine zR 1 rfl (zN (zU (zQ (zG (zR 1 rfl ?_)))))
 refine yD (r := by apply Rd.add; (first | exact Rd.blk 0 rfl | exact Rd.blk 1 rfl | exact Rd.blk 2 rfl | exact Rd.blk 3 rfl)) (k := ?_)
 refine zR 1 rfl ?_
 refine yD (r := by apply Rd.add; (first | exact Rd.blk 0 rfl | exact Rd.blk 1 rfl | exact Rd.blk 2 rfl | exact Rd.blk 3 rfl)) (k := ?_)
 refine WL.ef rfl rfl qD (Ef.buildSliceD (enc := encS) (parts := [.tmp 6, .tmp 8]) [⟨_, _, _⟩, ⟨_, _, _⟩] tab_ok rfl rfl rfl rfl rfl rfl rfl rfl qD qD (fun a9 => ?_))
 refine WL.freeze (enc := encS) (xs := [⟨aw, cw, L.w⟩, ⟨at_, ct, L.tb⟩]) 0 rfl ?_
 intro R1 hR1 hz
 refine WG.callV en241 rfl rfl qD (CallOp.mk' rfl rfl rfl rfl) (fun _ => rfl) (fun hg => Lists_V (rows := [⟨aw, cw, L.w⟩, ⟨at_, ct, L.tb⟩]) hz) ?_
 refine zR 1 rfl (zN (zU (zT ?_)))
 refine sE (E := E) ?_
 refine zq1 (hR1) ?_
 exact ⟨rfl, rfl⟩
theorem ChkRanks_V {R : Ro} {aw at_ : Option Addr} {lw cw lt ct : Nat} {L : Ln} (hw : RS R 1 encI aw L.w) (hlw : L.w.length = lw) (ht : RS R 1 encI at_ L.tb) (hlt : L.tb.length = lt) (hn : 1 ≤ L.n ∧ L.n ≤ 6) : FnV Tryz.prog 246 [.agg #[], .agg #[.int .i64 L.kind, .int .i64 L.cap, .int .i64 L.n, .slice aw lw cw, .slice at_ lt ct]] R (.int .i64 (listsE true [L.w, L.tb])) := by
 subst hlw
 subst hlt
 have hw1 := hw.len
 have ht1 := ht.len
 refine Fn.toV (fun w0 E => ?_)
 refine fE 11 Tryz.func246 ?_
 refine zQ (zG ?_)
 refine zO fun b2 => ?_
 refine zO fun b3 => ?_
 refine zR 1 rfl (zN (zU (zQ (zG (zR 1 rfl ?_)))))
 refine yD (r := by apply Rd.add; (first | exact Rd.blk 0 rfl | exact Rd.blk 1 rfl | exact Rd.blk 2 rfl | exact Rd.blk 3 rfl)) (k := ?_)
 refine zR 1 rfl ?_
 refine yD (r := by apply Rd.add; (first | exact Rd.blk 0 rfl | exact Rd.blk 1 rfl | exact Rd.blk 2 rfl | exact Rd.blk 3 rfl)) (k := ?_)
 refine WL.ef rfl rfl qD (Ef.buildSliceD (enc := encS) (parts := [.tmp 6, .tmp 8]) [⟨_, _, _⟩, ⟨_, _, _⟩] tab_ok rfl rfl rfl rfl rfl rfl rfl rfl qD qD (fun a9 => ?_))
 refine WL.freeze (enc := encS) (xs := [⟨aw, cw, L.w⟩, ⟨at_, ct, L.tb⟩]) 0 rfl ?_
 intro R1 hR1 hz
 refine WG.callV en241 rfl rfl qD (CallOp.mk' rfl rfl rfl rfl) (fun _ => rfl) (fun hg => Lists_V (rows := [⟨aw, cw, L.w⟩, ⟨at_, ct, L.tb⟩]) hz) ?_
 refine zR 1 rfl (zN (zU (zT ?_)))
 refine sE (E := E) ?_
 refine zq1 (hR1) ?_
 exact ⟨rfl, rfl⟩
theorem ChkRobin_V {R : Ro} {aw at_ : Option Addr} {lw cw lt ct : Nat} {L : Ln} (hw : RS R 1 encI aw L.w) (hlw : L.w.length = lw) (ht : RS R 1 encI at_ L.tb) (hlt : L.tb.length = lt) (hn : 1 ≤ L.n ∧ L.n ≤ 6) : FnV Tryz.prog 259 [.agg #[], .agg #[.int .i64 L.kind, .int .i64 L.cap, .int .i64 L.n, .slice aw lw cw, .slice at_ lt ct]] R (.int .i64 (listsE (decide ((L.w.length : Int) = L.n) && withinB L.w 1 20) [L.tb])) := by
 subst hlw
 subst hlt
 have hw1 := hw.len
 have ht1 := ht.len
 refine Fn.toV (fun w0 E => ?_)
 refine fE 20 Tryz.func259 ?_
 refine zQ (zG ?_)
 refine zO fun b2 => ?_
 refine zO fun b3 => ?_
 refine zR 1 rfl (zN (zU (zQ ?_)))
 refine W.regionH _ (ES := (.blk b3 [.int .i64 L.kind, .int .i64 L.cap, .int .i64 L.n, .slice aw L.w.length cw, .slice at_ L.tb.length ct] :: .blk b2 [] :: E)) mixed ?_
 refine tP 0 ?_
 refine tD 1 (r := by apply Rd.add; (first | exact Rd.blk 0 rfl | exact Rd.blk 1 rfl | exact Rd.blk 2 rfl | exact Rd.blk 3 rfl)) (k := ?_)
 refine tP 2 ?_
 refine tP 3 ?_
 refine tD 4 (r := by apply Rd.add; (first | exact Rd.blk 0 rfl | exact Rd.blk 1 rfl | exact Rd.blk 2 rfl | exact Rd.blk 3 rfl)) (k := ?_)
 refine tP 5 ?_
 refine tP 6 ?_
 refine WA.take 7 rfl qK qK qK rfl rfl qD (pureV_ok tab_ok rfl qE) qS qR ?_
 refine' WA.take 8 rfl qK qK qK rfl rfl qD (Yl.loadG tab_ok rfl rfl rfl qE ?r3 rfl ?h3 ?g3) qS qR ?_
 case r3 => apply Rd.addC; (first | exact Rd.blkC 0 rfl | exact Rd.blkC 1 rfl | exact Rd.blkC 2 rfl | exact Rd.blkC 3 rfl)
 case h3 => rfl
 case g3 => first | exact fun _ => trivial | (intro hg; (try simp only [zk] at hg); (try dsimp only); omega)
 refine tP 11 ?_
 refine tD 12 (r := by apply Rd.add; (first | exact Rd.blk 0 rfl | exact Rd.blk 1 rfl | exact Rd.blk 2 rfl | exact Rd.blk 3 rfl)) (k := ?_)
 refine WA.br2 (i := 9) (j := 13) qK ?_ ?_
 ·
  refine WS.callV rfl en262 rfl rfl qD (CallOp.mk' rfl rfl rfl rfl) qE (fun hg => Within_V (by first | exact hw | exact hw.mono hR1) rfl) qS qR ?_
  refine WA.take 10 rfl (by kernel_rfl) (by kernel_rfl) (by kernel_rfl) rfl rfl (by decide) (Yl.pand rfl rfl rfl (fun _ => rfl) (by intro h1 h2; simp_all <;> omega)) qS (by first | exact RLe.refl _ | assumption) ?_
  refine WA.eff 13 rfl qK rfl rfl qD (Ef.buildSliceD (enc := encS) (parts := [.tmp 17]) [⟨_, _, _⟩] tab_ok rfl rfl rfl rfl rfl rfl rfl rfl qD qD (fun a18 => ?_))
  refine ⟨qR, qS, ?_⟩
  refine WA.freeze (enc := encS) (xs := [⟨at_, ct, L.tb⟩]) 0 rfl ?_
  intro R1 hR1 hz
  refine WA.callV 14 rfl qK en241 rfl rfl qD (CallOp.mk' rfl rfl rfl rfl) (fun _ => rfl) (fun hg => Lists_V (rows := [⟨at_, ct, L.tb⟩]) hz) qS qR ?_
  refine tP 15 ?_
  refine WA.done qK ?_
  refine zU (zT ?_)
  refine sE (E := E) ?_
  refine zq1 (hR1) ?_
  exact ⟨rfl, rfl⟩
 ·
  refine WS.eff rfl rfl rfl qD (Ef.buildSliceD (enc := encS) (parts := [.tmp 17]) [⟨_, _, _⟩] tab_ok rfl rfl rfl rfl rfl rfl rfl rfl qD qD (fun a18 => ?_))
  refine ⟨qR, qS, ?_⟩
  refine WA.freeze (enc := encS) (xs := [⟨at_, ct, L.tb⟩]) 0 rfl ?_
  intro R1 hR1 hz
  refine WA.callV 9 rfl qK en262 rfl rfl qD (CallOp.mk' rfl rfl rfl rfl) qE (fun hg => Within_V (by first | exact hw | exact hw.mono hR1) rfl) qS qR ?_
  refine WA.take 10 rfl (by kernel_rfl) (by kernel_rfl) (by kernel_rfl) rfl rfl (by decide) (Yl.pand rfl rfl rfl (fun _ => rfl) (by intro h1 h2; simp_all <;> omega)) qS (by first | exact RLe.refl _ | assumption) ?_
  refine WA.callV 14 rfl qK en241 rfl rfl qD (CallOp.mk' rfl rfl rfl rfl) (fun _ => rfl) (fun hg => Lists_V (rows := [⟨at_, ct, L.tb⟩]) hz) qS qR ?_
  refine tP 15 ?_
  refine WA.done qK ?_
  refine zU (zT ?_)
  refine sE (E := E) ?_
  refine zq1 (hR1) ?_
  exact ⟨rfl, rfl⟩
theorem ChkDef_V {R : Ro} {aw at_ : Option Addr} {lw cw lt ct : Nat} {L : Ln} (hw : RS R 1 encI aw L.w) (hlw : L.w.length = lw) (ht : RS R 1 encI at_ L.tb) (hlt : L.tb.length = lt) (hn : 1 ≤ L.n ∧ L.n ≤ 6) : FnV Tryz.prog 276 [.agg #[], .agg #[.int .i64 L.kind, .int .i64 L.cap, .int .i64 L.n, .slice aw lw cw, .slice at_ lt ct]] R (.int .i64 (listsE (decide ((L.w.length : Int) = L.n) && withinB L.w 1 6000) [L.tb])) := by
 subst hlw
 subst hlt
 have hw1 := hw.len
 have ht1 := ht.len
 refine Fn.toV (fun w0 E => ?_)
 refine fE 20 Tryz.func276 ?_
 refine zQ (zG ?_)
 refine zO fun b2 => ?_
 refine zO fun b3 => ?_
 refine zR 1 rfl (zN (zU (zQ ?_)))
 refine W.regionH _ (ES := (.blk b3 [.int .i64 L.kind, .int .i64 L.cap, .int .i64 L.n, .slice aw L.w.length cw, .slice at_ L.tb.length ct] :: .blk b2 [] :: E)) mixed ?_
 refine tP 0 ?_
 refine tD 1 (r := by apply Rd.add; (first | exact Rd.blk 0 rfl | exact Rd.blk 1 rfl | exact Rd.blk 2 rfl | exact Rd.blk 3 rfl)) (k := ?_)
 refine tP 2 ?_
 refine tP 3 ?_
 refine tD 4 (r := by apply Rd.add; (first | exact Rd.blk 0 rfl | exact Rd.blk 1 rfl | exact Rd.blk 2 rfl | exact Rd.blk 3 rfl)) (k := ?_)
 refine tP 5 ?_
 refine tP 6 ?_
 refine WA.take 7 rfl qK qK qK rfl rfl qD (pureV_ok tab_ok rfl qE) qS qR ?_
 refine' WA.take 8 rfl qK qK qK rfl rfl qD (Yl.loadG tab_ok rfl rfl rfl qE ?r3 rfl ?h3 ?g3) qS qR ?_
 case r3 => apply Rd.addC; (first | exact Rd.blkC 0 rfl | exact Rd.blkC 1 rfl | exact Rd.blkC 2 rfl | exact Rd.blkC 3 rfl)
 case h3 => rfl
 case g3 => first | exact fun _ => trivial | (intro hg; (try simp only [zk] at hg); (try dsimp only); omega)
 refine tP 11 ?_
 refine tD 12 (r := by apply Rd.add; (first | exact Rd.blk 0 rfl | exact Rd.blk 1 rfl | exact Rd.blk 2 rfl | exact Rd.blk 3 rfl)) (k := ?_)
 refine WA.br2 (i := 9) (j := 13) qK ?_ ?_
 ·
  refine WS.callV rfl en262 rfl rfl qD (CallOp.mk' rfl rfl rfl rfl) qE (fun hg => Within_V (by first | exact hw | exact hw.mono hR1) rfl) qS qR ?_
  refine WA.take 10 rfl (by kernel_rfl) (by kernel_rfl) (by kernel_rfl) rfl rfl (by decide) (Yl.pand rfl rfl rfl (fun _ => rfl) (by intro h1 h2; simp_all <;> omega)) qS (by first | exact RLe.refl _ | assumption) ?_
  refine WA.eff 13 rfl qK rfl rfl qD (Ef.buildSliceD (enc := encS) (parts := [.tmp 17]) [⟨_, _, _⟩] tab_ok rfl rfl rfl rfl rfl rfl rfl rfl qD qD (fun a18 => ?_))
  refine ⟨qR, qS, ?_⟩
  refine WA.freeze (enc := encS) (xs := [⟨at_, ct, L.tb⟩]) 0 rfl ?_
  intro R1 hR1 hz
  refine WA.callV 14 rfl qK en241 rfl rfl qD (CallOp.mk' rfl rfl rfl rfl) (fun _ => rfl) (fun hg => Lists_V (rows := [⟨at_, ct, L.tb⟩]) hz) qS qR ?_
  refine tP 15 ?_
  refine WA.done qK ?_
  refine zU (zT ?_)
  refine sE (E := E) ?_
  refine zq1 (hR1) ?_
  exact ⟨rfl, rfl⟩
 ·
  refine WS.eff rfl rfl rfl qD (Ef.buildSliceD (enc := encS) (parts := [.tmp 17]) [⟨_, _, _⟩] tab_ok rfl rfl rfl rfl rfl rfl rfl rfl qD qD (fun a18 => ?_))
  refine ⟨qR, qS, ?_⟩
  refine WA.freeze (enc := encS) (xs := [⟨at_, ct, L.tb⟩]) 0 rfl ?_
  intro R1 hR1 hz
  refine WA.callV 9 rfl qK en262 rfl rfl qD (CallOp.mk' rfl rfl rfl rfl) qE (fun hg => Within_V (by first | exact hw | exact hw.mono hR1) rfl) qS qR ?_
  refine WA.take 10 rfl (by kernel_rfl) (by kernel_rfl) (by kernel_rfl) rfl rfl (by decide) (Yl.pand rfl rfl rfl (fun _ => rfl) (by intro h1 h2; simp_all <;> omega)) qS (by first | exact RLe.refl _ | assumption) ?_
  refine WA.callV 14 rfl qK en241 rfl rfl qD (CallOp.mk' rfl rfl rfl rfl) (fun _ => rfl) (fun hg => Lists_V (rows := [⟨at_, ct, L.tb⟩]) hz) qS qR ?_
  refine tP 15 ?_
  refine WA.done qK ?_
  refine zU (zT ?_)
  refine sE (E := E) ?_
  refine zq1 (hR1) ?_
  exact ⟨rfl, rfl⟩
theorem ChkTimes_V {R : Ro} {aw at_ : Option Addr} {lw cw lt ct : Nat} {L : Ln} (hw : RS R 1 encI aw L.w) (hlw : L.w.length = lw) (ht : RS R 1 encI at_ L.tb) (hlt : L.tb.length = lt) (hn : 1 ≤ L.n ∧ L.n ≤ 6) : FnV Tryz.prog 289 [.agg #[], .agg #[.int .i64 L.kind, .int .i64 L.cap, .int .i64 L.n, .slice aw lw cw, .slice at_ lt ct]] R (.int .i64 (listsE (decide (1 ≤ (L.tb.length : Int)) && decide ((L.tb.length : Int) ≤ 40) && withinB L.tb (-1) (L.n - 1)) [L.w])) := by
 subst hlw
 subst hlt
 have hw1 := hw.len
 have ht1 := ht.len
 refine Fn.toV (fun w0 E => ?_)
 refine fE 27 Tryz.func289 ?_
 refine zQ (zG ?_)
 refine zO fun b2 => ?_
 refine zO fun b3 => ?_
 refine zR 1 rfl (zN (zU (zQ ?_)))
 refine W.regionH _ (ES := (.blk b3 [.int .i64 L.kind, .int .i64 L.cap, .int .i64 L.n, .slice aw L.w.length cw, .slice at_ L.tb.length ct] :: .blk b2 [] :: E)) mixed ?_
 refine tP 0 ?_
 refine tD 1 (r := by apply Rd.add; (first | exact Rd.blk 0 rfl | exact Rd.blk 1 rfl | exact Rd.blk 2 rfl | exact Rd.blk 3 rfl)) (k := ?_)
 refine tP 2 ?_
 refine tP 3 ?_
 refine tP 4 ?_
 refine WA.take 5 rfl qK qK qK rfl rfl qD (pureV_ok tab_ok rfl qE) qS qR ?_
 refine' WA.take 6 rfl qK qK qK rfl rfl qD (Yl.loadG tab_ok rfl rfl rfl qE ?r2 rfl ?h2 ?g2) qS qR ?_
 case r2 => apply Rd.addC; (first | exact Rd.blkC 0 rfl | exact Rd.blkC 1 rfl | exact Rd.blkC 2 rfl | exact Rd.blkC 3 rfl)
 case h2 => rfl
 case g2 => first | exact fun _ => trivial | (intro hg; (try simp only [zk] at hg); (try dsimp only); omega)
 refine WA.take 7 rfl qK qK qK rfl rfl qD (pureV_ok tab_ok rfl qE) qS qR ?_
 refine WA.take 8 rfl qK qK qK rfl rfl qD (pureV_ok tab_ok rfl qE) qS qR ?_
 refine WA.take 9 rfl (by kernel_rfl) (by kernel_rfl) (by kernel_rfl) rfl rfl (by decide) (Yl.pand rfl rfl rfl (fun _ => rfl) (by intro h1 h2; simp_all <;> omega)) qS (by first | exact RLe.refl _ | assumption) ?_
 refine tP 10 ?_
 refine WA.take 11 rfl qK qK qK rfl rfl qD (pureV_ok tab_ok rfl qE) qS qR ?_
 refine' WA.take 12 rfl qK qK qK rfl rfl qD (Yl.loadG tab_ok rfl rfl rfl qE ?r3 rfl ?h3 ?g3) qS qR ?_
 case r3 => apply Rd.addC; (first | exact Rd.blkC 0 rfl | exact Rd.blkC 1 rfl | exact Rd.blkC 2 rfl | exact Rd.blkC 3 rfl)
 case h3 => rfl
 case g3 => first | exact fun _ => trivial | (intro hg; (try simp only [zk] at hg); (try dsimp only); omega)
 refine WA.take 13 rfl qK qK qK rfl rfl qD (pureV_ok tab_ok rfl qE) qS qR ?_
 refine' WA.take 14 rfl qK qK qK rfl rfl qD (Yl.loadG tab_ok rfl rfl rfl qE ?r4 rfl ?h4 ?g4) qS qR ?_
 case r4 => apply Rd.addC; (first | exact Rd.blkC 0 rfl | exact Rd.blkC 1 rfl | exact Rd.blkC 2 rfl | exact Rd.blkC 3 rfl)
 case h4 => rfl
 case g4 => first | exact fun _ => trivial | (intro hg; (try simp only [zk] at hg); (try dsimp only); omega)
 refine WA.take 15 rfl (by kernel_rfl) (by kernel_rfl) (by kernel_rfl) rfl rfl (by decide) (Yl.sub rfl rfl rfl qE (by intro hg; (try simp only [zk] at hg); constructor <;> (try dsimp only) <;> omega)) qS (by first | exact RLe.refl _ | assumption) ?_
 refine tP 18 ?_
 refine tD 19 (r := by apply Rd.add; (first | exact Rd.blk 0 rfl | exact Rd.blk 1 rfl | exact Rd.blk 2 rfl | exact Rd.blk 3 rfl)) (k := ?_)
 refine WA.br2 (i := 16) (j := 20) qK ?_ ?_
 ·
  refine WS.callV rfl en262 rfl rfl qD (CallOp.mk' rfl rfl rfl rfl) qE (fun hg => Within_V (by first | exact ht | exact ht.mono hR1) rfl) qS qR ?_
  refine WA.take 17 rfl (by kernel_rfl) (by kernel_rfl) (by kernel_rfl) rfl rfl (by decide) (Yl.pand rfl rfl rfl (fun _ => rfl) (by intro h1 h2; simp_all <;> omega)) qS (by first | exact RLe.refl _ | assumption) ?_
  refine WA.eff 20 rfl qK rfl rfl qD (Ef.buildSliceD (enc := encS) (parts := [.tmp 24]) [⟨_, _, _⟩] tab_ok rfl rfl rfl rfl rfl rfl rfl rfl qD qD (fun a25 => ?_))
  refine ⟨qR, qS, ?_⟩
  refine WA.freeze (enc := encS) (xs := [⟨aw, cw, L.w⟩]) 0 rfl ?_
  intro R1 hR1 hz
  refine WA.callV 21 rfl qK en241 rfl rfl qD (CallOp.mk' rfl rfl rfl rfl) (fun _ => rfl) (fun hg => Lists_V (rows := [⟨aw, cw, L.w⟩]) hz) qS qR ?_
  refine tP 22 ?_
  refine WA.done qK ?_
  refine zU (zT ?_)
  refine sE (E := E) ?_
  refine zq1 (hR1) ?_
  exact ⟨rfl, rfl⟩
 ·
  refine WS.eff rfl rfl rfl qD (Ef.buildSliceD (enc := encS) (parts := [.tmp 24]) [⟨_, _, _⟩] tab_ok rfl rfl rfl rfl rfl rfl rfl rfl qD qD (fun a25 => ?_))
  refine ⟨qR, qS, ?_⟩
  refine WA.freeze (enc := encS) (xs := [⟨aw, cw, L.w⟩]) 0 rfl ?_
  intro R1 hR1 hz
  refine WA.callV 16 rfl qK en262 rfl rfl qD (CallOp.mk' rfl rfl rfl rfl) qE (fun hg => Within_V (by first | exact ht | exact ht.mono hR1) rfl) qS qR ?_
  refine WA.take 17 rfl (by kernel_rfl) (by kernel_rfl) (by kernel_rfl) rfl rfl (by decide) (Yl.pand rfl rfl rfl (fun _ => rfl) (by intro h1 h2; simp_all <;> omega)) qS (by first | exact RLe.refl _ | assumption) ?_
  refine WA.callV 21 rfl qK en241 rfl rfl qD (CallOp.mk' rfl rfl rfl rfl) (fun _ => rfl) (fun hg => Lists_V (rows := [⟨aw, cw, L.w⟩]) hz) qS qR ?_
  refine tP 22 ?_
  refine WA.done qK ?_
  refine zU (zT ?_)
  refine sE (E := E) ?_
  refine zq1 (hR1) ?_
  exact ⟨rfl, rfl⟩

theorem meth_check1 (x : Value) : Meth Tryz.prog 187 (.agg #[]) "netcalculus/server.check" 238 [x] := fun w => by kernel_rfl
theorem meth_check2 (x : Value) : Meth Tryz.prog 188 (.agg #[]) "netcalculus/server.check" 246 [x] := fun w => by kernel_rfl
theorem meth_check3 (x : Value) : Meth Tryz.prog 189 (.agg #[]) "netcalculus/server.check" 259 [x] := fun w => by kernel_rfl
theorem meth_check4 (x : Value) : Meth Tryz.prog 190 (.agg #[]) "netcalculus/server.check" 276 [x] := fun w => by kernel_rfl
theorem meth_check5 (x : Value) : Meth Tryz.prog 191 (.agg #[]) "netcalculus/server.check" 289 [x] := fun w => by kernel_rfl
theorem check_any {R : Ro} {aw at_ : Option Addr} {lw cw lt ct : Nat} {L : Ln} (hw : RS R 1 encI aw L.w) (hlw : L.w.length = lw) (ht : RS R 1 encI at_ L.tb) (hlt : L.tb.length = lt) (hn : 1 ≤ L.n ∧ L.n ≤ 6) (hk : 1 ≤ L.kind ∧ L.kind ≤ 5) :
  ∃ (T f : Nat), kindI L.kind = .iface T (.agg #[]) ∧ Meth Tryz.prog T (.agg #[]) "netcalculus/server.check" f [.agg #[.int .i64 L.kind, .int .i64 L.cap, .int .i64 L.n, .slice aw lw cw, .slice at_ lt ct]] ∧ FnV Tryz.prog f [.agg #[], .agg #[.int .i64 L.kind, .int .i64 L.cap, .int .i64 L.n, .slice aw lw cw, .slice at_ lt ct]] R (.int .i64 (lchkL L)) := by
 rcases (show L.kind = 1 ∨ L.kind = 2 ∨ L.kind = 3 ∨ L.kind = 4 ∨ L.kind = 5 by omega) with h | h | h | h | h
 ·exact ⟨_, _, by unfold kindI; rw [h]; rfl, meth_check1 _, by have e : lchkL L = _ := (show lchkL L = listsE true [L.w, L.tb] by unfold lchkL; rw [h]; rfl); rw [e]; exact ChkFifo_V hw hlw ht hlt hn⟩
 ·exact ⟨_, _, by unfold kindI; rw [h]; rfl, meth_check2 _, by have e : lchkL L = _ := (show lchkL L = listsE true [L.w, L.tb] by unfold lchkL; rw [h]; rfl); rw [e]; exact ChkRanks_V hw hlw ht hlt hn⟩
 ·exact ⟨_, _, by unfold kindI; rw [h]; rfl, meth_check3 _, by have e : lchkL L = _ := (show lchkL L = listsE (decide ((L.w.length : Int) = L.n) && withinB L.w 1 20) [L.tb] by unfold lchkL; rw [h]; rfl); rw [e]; exact ChkRobin_V hw hlw ht hlt hn⟩
 ·exact ⟨_, _, by unfold kindI; rw [h]; rfl, meth_check4 _, by have e : lchkL L = _ := (show lchkL L = listsE (decide ((L.w.length : Int) = L.n) && withinB L.w 1 6000) [L.tb] by unfold lchkL; rw [h]; rfl); rw [e]; exact ChkDef_V hw hlw ht hlt hn⟩
 ·exact ⟨_, _, by unfold kindI; rw [h]; rfl, meth_check5 _, by have e : lchkL L = _ := (show lchkL L = listsE (decide (1 ≤ (L.tb.length : Int)) && decide ((L.tb.length : Int) ≤ 40) && withinB L.tb (-1) (L.n - 1)) [L.w] by unfold lchkL; rw [h]; rfl); rw [e]; exact ChkTimes_V hw hlw ht hlt hn⟩
theorem ChkSrv_V {R : Ro} {aw at_ : Option Addr} {lw cw lt ct : Nat} {L : Ln} (hw : RS R 1 encI aw L.w) (hlw : L.w.length = lw) (ht : RS R 1 encI at_ L.tb) (hlt : L.tb.length = lt) : FnV Tryz.prog 42 [.agg #[.int .i64 L.kind, .int .i64 L.cap, .int .i64 L.n, .slice aw lw cw, .slice at_ lt ct]] R (.int .i64 (chkL L)) := by
 refine Fn.toV (fun w0 E => ?_)
 refine fE 34 Tryz.func42 ?_
 refine zQ (zG ?_)
 refine zO fun b1 => ?_
 refine zR 1 rfl (zN (zU (zQ (zG (zR 1 rfl ?_)))))
 refine yD (r := by apply Rd.add; (first | exact Rd.blk 0 rfl | exact Rd.blk 1 rfl | exact Rd.blk 2 rfl)) (k := ?_)
 refine WG.callV en70 rfl rfl qD (CallOp.mk' rfl rfl rfl rfl) (fun _ => rfl) (fun hg => Kind_V L.kind) ?_
 refine zR 5 rfl (zN (zU (zQ (zQ (zG (zR 2 rfl (zN (zU ?_))))))))
 refine cC rfl ?_ ?_ <;> intro hc0
 ·try simp only [zk] at hc0
  have e : chkL L = 9 := by
   unfold chkL
   rw [if_pos]
   unfold kindB at hc0
   simp only [Bool.and_eq_false_iff, decide_eq_false_iff_not] at hc0
   omega
  refine zQ (zG (zR 1 rfl (zN (zU (zT (wt ?_))))))
  refine sE (E := E) ?_
  refine zr1 ?_
  exact ⟨by rw [e]; rfl, rfl⟩
 ·try simp only [zk] at hc0
  have hkk : 1 ≤ L.kind ∧ L.kind ≤ 5 := by
   unfold kindB at hc0
   simpa using hc0
  refine zK (zU (zQ (zQ (zG (zR 1 rfl ?_)))))
  refine yD (r := by apply Rd.add; (first | exact Rd.blk 0 rfl | exact Rd.blk 1 rfl | exact Rd.blk 2 rfl)) (k := ?_)
  refine zR 2 rfl ?_
  refine yP ?_
  refine yJ (r := by apply Rd.addC; (first | exact Rd.blkC 0 rfl | exact Rd.blkC 1 rfl | exact Rd.blkC 2 rfl)) (k := ?_)
  refine yP ?_
  refine yO ?_
  refine zR 1 rfl ?_
  refine yP ?_
  refine yJ (r := by apply Rd.addC; (first | exact Rd.blkC 0 rfl | exact Rd.blkC 1 rfl | exact Rd.blkC 2 rfl)) (k := ?_)
  refine yP ?_
  refine yO ?_
  refine zR 1 rfl ?_
  refine yP ?_
  refine yJ (r := by apply Rd.addC; (first | exact Rd.blkC 0 rfl | exact Rd.blkC 1 rfl | exact Rd.blkC 2 rfl)) (k := ?_)
  refine yP ?_
  refine yO ?_
  refine zN (zU ?_)
  refine cC rfl ?_ ?_ <;> intro hc1
  ·try simp only [zk] at hc1
   have e : chkL L = 2 := by unfold chkL; rw [if_neg (by omega), if_pos (by omega)]
   refine zQ (zG (zR 1 rfl (zN (zU (zT (wt ?_))))))
   refine sE (E := E) ?_
   refine zr1 ?_
   exact ⟨by rw [e]; rfl, rfl⟩
  ·try simp only [zk] at hc1
   have hn : 1 ≤ L.n ∧ L.n ≤ 6 := by omega
   have e : chkL L = lchkL L := by unfold chkL; rw [if_neg (by omega), if_neg (by omega)]
   obtain ⟨T9, f9, e9, m9, v9⟩ := check_any (R := R) (lw := lw) (lt := lt) (cw := cw) (ct := ct) hw hlw ht hlt hn hkk
   refine zK (zU ?_)
   rw [e9]
   refine zQ (zG (zR 1 rfl ?_))
   refine yD (r := by (first | exact Rd.blk 0 rfl | exact Rd.blk 1 rfl | exact Rd.blk 2 rfl)) (k := ?_)
   refine WL.callI (args := [.tmp 32]) rfl rfl rfl qD rfl rfl (m9) (v9.toFn) ?_
   rintro _ _ _ - ⟨rfl, rfl, rfl⟩
   refine zR 1 rfl (zN (zU (zT ?_)))
   refine sE (E := E) ?_
   refine zr1 ?_
   exact ⟨by rw [e]; rfl, rfl⟩

theorem CFiniteG_V {R : Ro} {fa : Option Addr} {fc : Nat} {c : Cv} (ha : RS R 1 encI fa c.vals) : FnV Tryz.prog 72 [.agg #[.slice fa c.vals.length fc, .int .i64 c.per, .int .i64 c.inc]] R (.bool (validB c && finB c)) := by
 refine FnV.ofOwn (fun w0 hb0 => ?_)
 refine fE 9 Tryz.func72 ?_
 refine zQ (zG ?_)
 refine zO fun b1 => ?_
 refine zR 1 rfl (zN (zU (zQ (zG ?_))))
 refine yD (r := by (first | exact Rd.blk 0 rfl)) (k := ?_)
 refine WG.callV en71 rfl rfl qD (CallOp.mk' rfl rfl rfl rfl) (fun _ => rfl) (fun hg => CValidX_V ha) ?_
 refine zR 1 rfl ?_
 refine yJ (r := by (first | exact Rd.blkC 0 rfl)) (k := ?_)
 refine WG.callV en103 rfl rfl (by decide) (CallOp.mk' rfl rfl rfl rfl) qE (fun hg => WFiniteG_V (by simpa using hg) ha) ?_
 refine yN ?_
 refine zR 1 rfl (zN (zU (zT ?_)))
 refine WE.subE (E' := []) qS ?_
 refine zr1 ?_
 exact rfl
set_option maxHeartbeats 1000000 in
theorem Route_V {R : Ro} {na la fa : Option Addr} {nc lc fc : Nat} {names : List (List UInt8)} {ms : List LnM} {fs : List FlM} {x1 x2 : Option Addr} {xc1 xc2 : Nat} {f : Fl} (hla : K.RS R 5 encLn la ms) (hxr : K.RS R 1 encI x1 f.route) : FnV Tryz.prog 43 [.agg #[.slice na names.length nc, .slice la ms.length lc, .slice fa fs.length fc], .agg #[.string (str f.name), .slice x1 f.route.length xc1, .int .i64 f.cls, .int .i64 f.lo, .int .i64 f.hi, .slice x2 f.cv.vals.length xc2, .int .i64 f.cv.per, .int .i64 f.cv.inc]] R (.int .i64 (routeE (ms.map (·.L)) f)) := by
 refine FnV.ofOwn (fun w0 hb0 => ?_)
 have hll := hla.len
 have hrl := hxr.len
 have hml : (ms.map (·.L)).length = ms.length := List.length_map ..
 refine fE 53 Tryz.func43 ?_
 refine zQ (zG ?_)
 refine zO fun b2 => ?_
 refine zO fun b3 => ?_
 refine zR 1 rfl (zN (zU (zQ (zQ (zG (zR 1 rfl ?_))))))
 refine yD (r := by apply Rd.add; (first | exact Rd.blk 0 rfl | exact Rd.blk 1 rfl | exact Rd.blk 2 rfl | exact Rd.blk 3 rfl)) (k := ?_)
 refine zR 2 rfl (zN (zU ?_))
 refine cE rfl ?_ ?_ <;> intro hc0
 ·try dsimp only at hc0
  have hE : routeE (ms.map (·.L)) f = 5 := if_pos (by omega)
  refine zQ (zG (zR 1 rfl (zN (zU (zT (wt ?_))))))
  refine WE.subE (E' := []) qS ?_
  refine zr1 ?_
  show Value.int .i64 _ = _
  rw [hE]
 ·try dsimp only at hc0
  refine zK (zU (zQ (zQ (zG (zR 1 rfl ?_)))))
  refine yD (r := by apply Rd.add; (first | exact Rd.blk 0 rfl | exact Rd.blk 1 rfl | exact Rd.blk 2 rfl | exact Rd.blk 3 rfl)) (k := ?_)
  refine zR 2 rfl (zN (zU ?_))
  refine cD rfl ?_ ?_ <;> intro hc1
  ·try dsimp only at hc1
   have hE : routeE (ms.map (·.L)) f = 3 := by unfold routeE; rw [if_neg (by omega), if_pos (by omega)]
   refine zQ (zG (zR 1 rfl (zN (zU (zT (wt ?_))))))
   refine WE.subE (E' := []) qS ?_
   refine zr1 ?_
   show Value.int .i64 _ = _
   rw [hE]
  ·try dsimp only at hc1
   have hE : routeE (ms.map (·.L)) f = routeGo (ms.map (·.L)) f.cls [] f.route := by unfold routeE; rw [if_neg (by omega), if_neg (by omega)]
   refine zK (zU (zQ (zG ?_)))
   refine WL.ef rfl rfl qD (Ef.makeMap rfl (fun b16 => ?_))
   refine zR 1 rfl (zN (zU (zQ (zQ (zG (zR 1 rfl ?_))))))
   refine yD (r := by apply Rd.add; (first | exact Rd.blk 0 rfl | exact Rd.blk 1 rfl | exact Rd.blk 2 rfl | exact Rd.blk 3 rfl)) (k := ?_)
   refine zR 2 rfl (zN (zU (zB ?_)))
   refine W.loopK (β := Nat) (fun i => i ≤ f.route.length ∧ routeGo (ms.map (·.L)) f.cls (f.route.take i) (f.route.drop i) = routeGo (ms.map (·.L)) f.cls [] f.route) (fun i => [(20, true, .int .i64 (i : Int))]) [2, 3, 5, 18, 19] [_, _, _, _, _] [] _ rfl (fun i => [(0, .obj b16 (setZ (f.route.take i)))]) (fun i => f.route.length - i) (0) (⟨Nat.zero_le _, rfl⟩) ⟨rfl, rfl, rfl, rfl, rfl, rfl, rfl⟩ qS ?_
   intro i hst
   dsimp only [zipE, setAll, List.cons_append, List.nil_append, List.set_cons_zero, List.set_cons_succ] at hst ⊢
   obtain ⟨hi, hch⟩ := hst
   refine zQ (zG (zR 1 rfl (zN (zU (zQ ?_)))))
   refine cD rfl ?_ ?_ <;> intro hc2
   ·try dsimp only at hc2
    have hil : i < f.route.length := by omega
    rw [show f.route.drop i = nth f.route i :: f.route.drop (i + 1) by rw [nth_eq hil]; exact List.drop_eq_getElem_cons hil, routeGo, hml] at hch
    refine zK (zU (zQ (zB (zQ (zG ?_)))))
    refine yI ?_
    refine yD (r := by exact RS.rdD hxr hil) (k := ?_)
    refine zR 1 rfl (zN (zU (zQ (zQ (zG (zR 3 rfl ?_))))))
    refine yP ?_
    refine yP ?_
    refine yJ (r := by apply Rd.addC; (first | exact Rd.blkC 0 rfl | exact Rd.blkC 1 rfl | exact Rd.blkC 2 rfl | exact Rd.blkC 3 rfl)) (k := ?_)
    refine yP ?_
    refine yP ?_
    refine yO ?_
    refine zN (zU ?_)
    refine cC rfl ?_ ?_ <;> intro hc3
    ·try simp only [zk] at hc3
     rw [if_pos (by omega)] at hch
     refine zQ (zG (zR 1 rfl (zN (zU (zT (wt (wb (wt (wt (wb (wt ?_)))))))))))
     refine WE.subE (E' := []) qS ?_
     refine zr1 ?_
     show Value.int .i64 _ = _
     rw [hE, ← hch]
    ·try simp only [zk] at hc3
     have hr0 : 0 ≤ nth f.route i ∧ nth f.route i < ms.length := by omega
     rw [if_neg (by omega)] at hch
     refine zK (zU (zQ (zQ (zG (zR 2 rfl ?_)))))
     refine WG.y rfl rfl qD (Yl.setHasI tab_ok rfl rfl rfl rfl rfl rfl rfl rfl (fun _ => rfl)) ?_
     refine zN (zU ?_)
     refine cC rfl ?_ ?_ <;> intro hc4
     ·try simp only [zk] at hc4
      have hin : nth f.route i ∈ f.route.take i := by simpa using hc4
      rw [if_pos hin] at hch
      refine zQ (zG (zR 1 rfl (zN (zU (zT (wt (wb (wt (wt (wb (wt ?_)))))))))))
      refine WE.subE (E' := []) qS ?_
      refine zr1 ?_
      show Value.int .i64 _ = _
      rw [hE, ← hch]
     ·try simp only [zk] at hc4
      have hin : nth f.route i ∉ f.route.take i := by simpa using hc4
      rw [if_neg hin] at hch
      obtain ⟨j, hj⟩ := Int.eq_ofNat_of_zero_le hr0.1
      have hjm : j < ms.length := by omega
      have hjn : nth (ms.map (·.L)) (nth f.route i).toNat = (nth ms j).L := by
       rw [hj, show ((j : Int)).toNat = j from rfl, nth_eq (by rw [hml]; exact hjm), List.getElem_map, nth_eq hjm]
      rw [hjn] at hch
      rw [hj]
      refine zK (zU (zQ (zG (zR 2 rfl ?_))))
      refine WL.efN rfl rfl (Ef.setAddI tab_ok rfl rfl rfl rfl rfl rfl rfl rfl (by rw [← hj]; exact hin) ?_)
      refine zN (zU (zQ ?_))
      refine W.regionQ _ mixed qK ?_
      refine zR 1 rfl ?_
      refine yD (r := by apply Rd.add; (first | exact Rd.blk 0 rfl | exact Rd.blk 1 rfl | exact Rd.blk 2 rfl | exact Rd.blk 3 rfl)) (k := ?_)
      refine zR 2 rfl ?_
      refine yP ?_
      refine yJ (r := by apply Rd.addC; (first | exact Rd.blkC 0 rfl | exact Rd.blkC 1 rfl | exact Rd.blkC 2 rfl | exact Rd.blkC 3 rfl)) (k := ?_)
      refine yP ?_
      refine yJ (r := by apply Rd.addC; (first | exact Rd.blkC 0 rfl | exact Rd.blkC 1 rfl | exact Rd.blkC 2 rfl | exact Rd.blkC 3 rfl)) (k := ?_)
      refine yP ?_
      refine gI ?_
      refine yP ?_
      refine yJ (r := by apply Rd.addC; (first | (apply RS.rdC; assumption) | exact Rd.slC 0 rfl | exact Rd.slC 1 rfl | exact Rd.slC 2 rfl | exact Rd.slC 3 rfl)) (k := ?_)
      refine yP ?_
      refine yO ?_
      refine zN (zU ?_)
      refine cC rfl ?_ ?_ <;> intro hc5
      ·try simp only [zk] at hc5
       rw [if_pos (by omega)] at hch
       refine zQ (zG (zR 1 rfl (zN (zU (zT (wb (wt (wt (wb (wt ?_))))))))))
       refine WE.subE (E' := []) qS ?_
       refine zr1 ?_
       show Value.int .i64 _ = _
       rw [hE, ← hch]
      ·try simp only [zk] at hc5
       rw [if_neg (by omega), ← take_nth hil] at hch
       rw [← hj, ← take_nth hil]
       refine zK (zL (zU (zG ?_)))
       refine yA ?_
       refine zR 1 rfl (zN ?_)
       refine WE.again (i + 1) (⟨by omega, hch⟩) (by (try dsimp only); omega) ⟨rfl, rfl, rfl, rfl, rfl, rfl, rfl⟩ (RLe.refl _) qS
   ·try dsimp only at hc2
    obtain rfl : i = f.route.length := by omega
    rw [List.drop_length] at hch
    refine zX ?_
    refine wx (wx (zY (zU (zQ (zG (zR 1 rfl (zN (zU (zT ?_)))))))))
    refine WE.subE (E' := []) qS ?_
    refine zr1 ?_
    show Value.int .i64 _ = _
    rw [hE, ← hch]; rfl
set_option maxHeartbeats 1000000 in
theorem Traf24_V {R : Ro} {x1 x2 : Option Addr} {xc1 xc2 : Nat} {f : Fl} (hxv : K.RS R 1 encI x2 f.cv.vals) : FnV Tryz.prog 44 [.agg #[.string (str f.name), .slice x1 f.route.length xc1, .int .i64 f.cls, .int .i64 f.lo, .int .i64 f.hi, .slice x2 f.cv.vals.length xc2, .int .i64 f.cv.per, .int .i64 f.cv.inc]] R (.int .i64 (trafE f)) := by
 refine FnV.ofOwn (fun w0 hb0 => ?_)
 have hvl := hxv.len
 refine fE 36 Tryz.func44 ?_
 refine zQ (zG ?_)
 refine zO fun b1 => ?_
 refine zR 1 rfl (zN (zU (zQ (zQ (zG (zR 2 rfl ?_))))))
 refine yD (r := by apply Rd.add; apply Rd.add; (first | exact Rd.blk 0 rfl | exact Rd.blk 1 rfl)) (k := ?_)
 refine zR 2 rfl ?_
 refine yP ?_
 refine yP ?_
 refine yJ (r := by apply Rd.addC; apply Rd.addC; (first | exact Rd.blkC 0 rfl | exact Rd.blkC 1 rfl)) (k := ?_)
 refine yP ?_
 refine yP ?_
 refine yJ (r := by apply Rd.addC; apply Rd.addC; (first | exact Rd.blkC 0 rfl | exact Rd.blkC 1 rfl)) (k := ?_)
 refine yP ?_
 refine yO ?_
 refine zR 1 rfl ?_
 refine yP ?_
 refine yP ?_
 refine yJ (r := by apply Rd.addC; apply Rd.addC; (first | exact Rd.blkC 0 rfl | exact Rd.blkC 1 rfl)) (k := ?_)
 refine yP ?_
 refine yO ?_
 refine zN (zU ?_)
 refine cC rfl ?_ ?_ <;> intro hc0
 ·try simp only [zk] at hc0
  have hE : trafE f = 2 := if_pos (by omega)
  refine zQ (zG (zR 1 rfl (zN (zU (zT (wt ?_))))))
  refine WE.subE (E' := []) qS ?_
  refine zr1 ?_
  show Value.int .i64 _ = _
  rw [hE]
 ·try simp only [zk] at hc0
  have h0 : ¬ (f.lo < 1 ∨ f.hi < f.lo ∨ 1500 < f.hi) := by omega
  refine zK (zU (zQ (zQ (zG (zR 1 rfl ?_)))))
  refine yD (r := by apply Rd.add; (first | exact Rd.blk 0 rfl | exact Rd.blk 1 rfl)) (k := ?_)
  refine WG.callV en71 rfl rfl qD (CallOp.mk' rfl rfl rfl rfl) (fun _ => rfl) (fun hg => CValidX_V hxv) ?_
  refine zR 1 rfl (zN (zU ?_))
  refine cC rfl ?_ ?_ <;> intro hc1
  ·try simp only [zk] at hc1
   have hv : validB f.cv = false := by simpa using hc1
   have hE : trafE f = 1 := by unfold trafE; rw [if_neg h0, if_pos hv]
   refine zQ (zG (zR 1 rfl (zN (zU (zT (wt ?_))))))
   refine WE.subE (E' := []) qS ?_
   refine zr1 ?_
   show Value.int .i64 _ = _
   rw [hE]
  ·try simp only [zk] at hc1
   have hv : validB f.cv = true := by simpa using hc1
   have hv1 := (validB_iff.1 hv).1.1
   refine zK (zU (zQ (zQ (zG (zR 2 rfl ?_)))))
   refine yD (r := by apply Rd.add; apply Rd.add; (first | exact Rd.blk 0 rfl | exact Rd.blk 1 rfl)) (k := ?_)
   refine yI ?_
   refine yD (r := by exact RS.rdD hxv hv1) (k := ?_)
   refine zR 1 rfl (zN (zU ?_))
   refine cN rfl ?_ ?_ <;> intro hc2
   ·try dsimp only at hc2
    have hE : trafE f = 6 := by unfold trafE; rw [if_neg h0, if_neg (by rw [hv]; decide), if_pos (by omega)]
    refine zQ (zG (zR 1 rfl (zN (zU (zT (wt ?_))))))
    refine WE.subE (E' := []) qS ?_
    refine zr1 ?_
    show Value.int .i64 _ = _
    rw [hE]
   ·try dsimp only at hc2
    refine zK (zU (zQ (zQ (zG (zR 1 rfl ?_)))))
    refine yD (r := by apply Rd.add; (first | exact Rd.blk 0 rfl | exact Rd.blk 1 rfl)) (k := ?_)
    refine WG.callV en72 rfl rfl qD (CallOp.mk' rfl rfl rfl rfl) (fun _ => rfl) (fun hg => CFiniteG_V hxv) ?_
    refine zR 1 rfl (zN (zU ?_))
    refine cC rfl ?_ ?_ <;> intro hc3
    ·try simp only [zk] at hc3
     have hfn : finB f.cv = false := by rw [hv] at hc3; simpa using hc3
     have hE : trafE f = 2 := by unfold trafE; rw [if_neg h0, if_neg (by rw [hv]; decide), if_neg (by omega), if_pos hfn]
     refine zQ (zG (zR 1 rfl (zN (zU (zT (wt ?_))))))
     refine WE.subE (E' := []) qS ?_
     refine zr1 ?_
     show Value.int .i64 _ = _
     rw [hE]
    ·try simp only [zk] at hc3
     have hfn : finB f.cv = true := by rw [hv] at hc3; simpa using hc3
     have hE : trafE f = 0 := by unfold trafE; rw [if_neg h0, if_neg (by rw [hv]; decide), if_neg (by omega), if_neg (by rw [hfn]; decide)]
     refine zK (zU (zQ (zG (zR 1 rfl (zN (zU (zT ?_)))))))
     refine WE.subE (E' := []) qS ?_
     refine zr1 ?_
     show Value.int .i64 _ = _
     rw [hE]

set_option maxHeartbeats 1000000 in
theorem NCheck_E {R : Ro} {E : List Ent} {na la fa : Option Addr} {nc lc fc : Nat} {names : List (List UInt8)} {ms : List LnM} {fs : List FlM} (hna : K.RS R 1 encT na names) (hla : K.RS R 5 encLn la ms) (hfa : LsF R E fa fs) (hok : ∀ m ∈ ms, OkLn R m) (hof : ∀ m ∈ fs, OkFl R m) (hnl : ∀ x ∈ names, x.length ≤ 9223372036854775807) (w0 : World) : FnE Tryz.prog 22 [.agg #[.slice na names.length nc, .slice la ms.length lc, .slice fa fs.length fc]] w0 R E (.int .i64 (chkNet names (ms.map (·.L)) (fs.map (·.f)))) := by
 refine Fn.toE ?_
 have hll := hla.len
 have hfl := hfa.len
 have hml : (ms.map (·.L)).length = ms.length := List.length_map ..
 have hfml : (fs.map (·.f)).length = fs.length := List.length_map ..
 refine fE 89 Tryz.func22 ?_
 refine zQ (zG ?_)
 refine zO fun b1 => ?_
 refine zR 1 rfl (zN (zU (zQ (zQ (zG (zR 1 rfl ?_))))))
 refine yD (r := by apply Rd.add; (first | exact Rd.blk 0 rfl | exact Rd.blk 1 rfl | exact Rd.blk 2 rfl | exact Rd.blk 3 rfl | exact Rd.blk 4 rfl | exact Rd.blk 5 rfl)) (k := ?_)
 refine zR 3 rfl ?_
 refine yP ?_
 refine yJ (r := by apply Rd.addC; (first | exact Rd.blkC 0 rfl | exact Rd.blkC 1 rfl | exact Rd.blkC 2 rfl | exact Rd.blkC 3 rfl | exact Rd.blkC 4 rfl | exact Rd.blkC 5 rfl)) (k := ?_)
 refine yP ?_
 refine yP ?_
 refine yO ?_
 refine zR 1 rfl ?_
 refine yP ?_
 refine yJ (r := by apply Rd.addC; (first | exact Rd.blkC 0 rfl | exact Rd.blkC 1 rfl | exact Rd.blkC 2 rfl | exact Rd.blkC 3 rfl | exact Rd.blkC 4 rfl | exact Rd.blkC 5 rfl)) (k := ?_)
 refine yP ?_
 refine yP ?_
 refine yO ?_
 refine zN (zU ?_)
 refine cC rfl ?_ ?_ <;> intro hc0
 ·try simp only [zk] at hc0
  refine zQ (zG (zR 1 rfl (zN (zU (zT (wt ?_))))))
  refine sE (E := E) ?_
  refine zr1 ?_
  refine ⟨?_, rfl⟩
  show Value.int .i64 _ = Value.int .i64 _
  unfold chkNet; rw [hml, hfml, if_pos (by omega)]
 ·try simp only [zk] at hc0
  refine zK (zU (zQ (zQ (zG (zR 1 rfl ?_)))))
  refine yD (r := by apply Rd.add; (first | exact Rd.blk 0 rfl | exact Rd.blk 1 rfl | exact Rd.blk 2 rfl | exact Rd.blk 3 rfl | exact Rd.blk 4 rfl | exact Rd.blk 5 rfl)) (k := ?_)
  refine zR 2 rfl ?_
  refine yD (r := by apply Rd.add; (first | exact Rd.blk 0 rfl | exact Rd.blk 1 rfl | exact Rd.blk 2 rfl | exact Rd.blk 3 rfl | exact Rd.blk 4 rfl | exact Rd.blk 5 rfl)) (k := ?_)
  refine zR 2 rfl (zN (zU ?_))
  refine cN rfl ?_ ?_ <;> intro hc1
  ·try dsimp only at hc1
   refine zQ (zG (zR 1 rfl (zN (zU (zT (wt ?_))))))
   refine sE (E := E) ?_
   refine zr1 ?_
   refine ⟨?_, rfl⟩
   show Value.int .i64 _ = Value.int .i64 _
   unfold chkNet; rw [hml, hfml, if_neg (by omega), if_pos (by omega)]
  ·try dsimp only at hc1
   have hcn : chkNet names (ms.map (·.L)) (fs.map (·.f)) = if chkLs [] (names.zip (ms.map (·.L))) ≠ 0 then chkLs [] (names.zip (ms.map (·.L))) else chkFs (ms.map (·.L)) [] (fs.map (·.f)) := by unfold chkNet; rw [hml, hfml, if_neg (by omega), if_neg (by omega)]
   refine zK (zU (zQ (zG ?_)))
   refine WL.ef rfl rfl qD (Ef.makeMap rfl (fun b37 => ?_))
   refine zR 1 rfl (zN (zU (zQ (zQ (zG (zR 1 rfl ?_))))))
   refine yD (r := by apply Rd.add; (first | exact Rd.blk 0 rfl | exact Rd.blk 1 rfl | exact Rd.blk 2 rfl | exact Rd.blk 3 rfl | exact Rd.blk 4 rfl | exact Rd.blk 5 rfl)) (k := ?_)
   refine zR 2 rfl (zN (zU (zB ?_)))
   refine W.loopK (β := Nat) (fun i => i ≤ ms.length ∧ chkLs (names.take i) ((names.zip (ms.map (·.L))).drop i) = chkLs [] (names.zip (ms.map (·.L)))) (fun i => [(41, true, .int .i64 (i : Int))]) [1, 3, 39, 40] [_, _, _, _] [] _ rfl (fun i => [(0, .obj b37 (setO (names.take i)))]) (fun i => ms.length - i) (0) (⟨Nat.zero_le _, rfl⟩) ⟨rfl, rfl, rfl, rfl, rfl, rfl⟩ qS ?_
   intro i hst
   dsimp only [zipE, setAll, List.cons_append, List.nil_append, List.set_cons_zero, List.set_cons_succ] at hst ⊢
   obtain ⟨hi, hch⟩ := hst
   refine zQ (zG (zR 1 rfl (zN (zU (zQ ?_)))))
   refine cD rfl ?_ ?_ <;> intro hc2
   ·try dsimp only at hc2
    have him : i < ms.length := by omega
    have hin : i < names.length := by omega
    have hnL : ∃ q : Ln, q = (nth ms i).L ∧ (ms.map (·.L)).length = ms.length ∧ (names.zip (ms.map (·.L))).drop i = (nth names i, q) :: (names.zip (ms.map (·.L))).drop (i + 1) := by
     have hl : i < (names.zip (ms.map (·.L))).length := by rw [List.length_zip, hml]; omega
     refine ⟨_, rfl, hml, ?_⟩
     rw [List.drop_eq_getElem_cons hl, List.getElem_zip, nth_eq hin, nth_eq him, List.getElem_map]
    obtain ⟨q, hq, _, hdr⟩ := hnL
    rw [hdr, chkLs] at hch
    dsimp only at hch
    subst hq
    refine zK (zU (zQ (zB (zQ (zG (zR 1 rfl ?_))))))
    refine WG.y rfl rfl qD (Yl.indexN tab_ok rfl rfl rfl rfl rfl rfl (fun _ => rfl) qN (by intro _; first | exact (hfa.sub (RLe.refl _) qS).has | exact qI)) ?_
    refine yD (r := by exact RS.rdD hla him) (k := ?_)
    refine zA fun b5 => ?_
    refine zR 1 rfl ?_
    first | refine WL.efN rfl rfl (Ef.store0 0 tab_ok rfl rfl rfl rfl rfl rfl rfl rfl ?_) | refine WL.efN rfl rfl (Ef.store0 1 tab_ok rfl rfl rfl rfl rfl rfl rfl rfl ?_) | refine WL.efN rfl rfl (Ef.store0 2 tab_ok rfl rfl rfl rfl rfl rfl rfl rfl ?_) | refine WL.efN rfl rfl (Ef.store0 3 tab_ok rfl rfl rfl rfl rfl rfl rfl rfl ?_) | refine WL.efN rfl rfl (Ef.store0 4 tab_ok rfl rfl rfl rfl rfl rfl rfl rfl ?_) | refine WL.efN rfl rfl (Ef.store0 5 tab_ok rfl rfl rfl rfl rfl rfl rfl rfl ?_)
    refine zN (zU (zQ (zQ (zG (zR 2 rfl ?_)))))
    refine yD (r := by apply Rd.add; (first | exact Rd.blk 0 rfl | exact Rd.blk 1 rfl | exact Rd.blk 2 rfl | exact Rd.blk 3 rfl | exact Rd.blk 4 rfl | exact Rd.blk 5 rfl)) (k := ?_)
    refine zR 1 rfl ?_
    refine WG.y rfl rfl qD (Yl.indexN tab_ok rfl rfl rfl rfl rfl rfl (fun _ => rfl) qN (by intro _; first | exact (hfa.sub (RLe.refl _) qS).has | exact qI)) ?_
    refine yD (r := by exact RS.rdD hna hin) (k := ?_)
    refine WL.callAt 1 en41 rfl rfl qD (CallOp.mkT rfl rfl rfl rfl) rfl (Fresh_C (met := names.take i) (n := nth names i) (hnl _ (nth_mem hin)) w0 _) ?_
    rintro _ _ _ _ - ⟨rfl, rfl, rfl, rfl⟩
    refine zR 1 rfl (zN (zU (zQ (zG (zR 2 rfl (zN (zU ?_)))))))
    refine cN rfl ?_ ?_ <;> intro hc3
    ·try dsimp only at hc3
     rw [if_pos hc3] at hch
     have hq := hcn.trans (if_pos (by rw [← hch]; exact hc3))
     refine zQ (zG (zR 2 rfl (zN (zU (zT (wt (wb (wt (wt (wb (wt ?_)))))))))))
     refine sE (E := E) ?_
     refine zr1 ?_
     refine ⟨?_, rfl⟩
     show Value.int .i64 _ = Value.int .i64 _
     rw [hq, ← hch]
    ·try dsimp only at hc3
     have hf0 : frE (names.take i) (nth names i) = 0 := by first | exact hc3 | exact Classical.not_not.1 hc3
     rw [if_neg (fun h => h hf0)] at hch
     rw [if_pos hf0, ← take_nth hin]
     refine zK (zU (zQ (zG ?_)))
     refine yD (r := by (first | exact Rd.blk 0 rfl | exact Rd.blk 1 rfl | exact Rd.blk 2 rfl | exact Rd.blk 3 rfl | exact Rd.blk 4 rfl | exact Rd.blk 5 rfl)) (k := ?_)
     refine WG.callV en42 rfl rfl qD (CallOp.mk' rfl rfl rfl rfl) (fun _ => rfl) (fun hg => ChkSrv_V (L := (nth ms i).L) (hok _ (nth_mem him)).1 rfl (hok _ (nth_mem him)).2 rfl) ?_
     refine zR 1 rfl (zN (zU (zQ (zG (zR 2 rfl (zN (zU ?_)))))))
     refine cN rfl ?_ ?_ <;> intro hc4
     ·try dsimp only at hc4
      rw [if_pos hc4] at hch
      have hq := hcn.trans (if_pos (by rw [← hch]; exact hc4))
      refine zQ (zG (zR 2 rfl (zN (zU (zT (wb (wt (wt (wb (wt ?_))))))))))
      refine sE (E := E) ?_
      refine zr1 ?_
      refine ⟨?_, rfl⟩
      show Value.int .i64 _ = Value.int .i64 _
      rw [hq, ← hch]
     ·try dsimp only at hc4
      have hf1 : chkL (nth ms i).L = 0 := by first | exact hc4 | exact Classical.not_not.1 hc4
      rw [if_neg (fun h => h hf1), ← take_nth hin] at hch
      refine zK (zL (zU (zG ?_)))
      refine yA ?_
      refine zR 1 rfl (zN ?_)
      refine WE.again (i + 1) (⟨by omega, hch⟩) (by (try dsimp only); omega) ⟨rfl, rfl, rfl, rfl, rfl, rfl⟩ (RLe.refl _) qS
   ·try dsimp only at hc2
    obtain rfl : i = ms.length := by omega
    rw [List.drop_of_length_le (by rw [List.length_zip, hml]; omega)] at hch
    have hcl : chkLs [] (names.zip (ms.map (·.L))) = 0 := hch.symm
    rw [if_neg (fun h => h hcl)] at hcn
    refine zX ?_
    refine wx (wx (zY (zU (zQ (zG ?_)))))
    refine WL.ef rfl rfl qD (Ef.makeMap rfl (fun b62 => ?_))
    refine zR 1 rfl (zN (zU (zQ (zQ (zG (zR 1 rfl ?_))))))
    refine yD (r := by apply Rd.add; (first | exact Rd.blk 0 rfl | exact Rd.blk 1 rfl | exact Rd.blk 2 rfl | exact Rd.blk 3 rfl | exact Rd.blk 4 rfl | exact Rd.blk 5 rfl)) (k := ?_)
    refine zR 2 rfl (zN (zU (zB ?_)))
    refine W.loopK (β := Nat) (fun i => i ≤ fs.length ∧ chkFs (ms.map (·.L)) ((fs.map FlM.nm).take i) ((fs.map (·.f)).drop i) = chkFs (ms.map (·.L)) [] (fs.map (·.f))) (fun i => [(66, true, .int .i64 (i : Int))]) [1, 8, 64, 65] [_, _, _, _] [] _ rfl (fun i => [(0, .obj b62 (setO ((fs.map FlM.nm).take i)))]) (fun i => fs.length - i) (0) (⟨Nat.zero_le _, rfl⟩) ⟨rfl, rfl, rfl, rfl, rfl, rfl⟩ qS ?_
    intro i hst
    dsimp only [zipE, setAll, List.cons_append, List.nil_append, List.set_cons_zero, List.set_cons_succ] at hst ⊢
    obtain ⟨hi, hch⟩ := hst
    refine zQ (zG (zR 1 rfl (zN (zU (zQ ?_)))))
    refine cD rfl ?_ ?_ <;> intro hc5
    ·try dsimp only at hc5
     have hif : i < fs.length := by omega
     have hnmi : nth (fs.map FlM.nm) i = (nth fs i).f.name := by rw [nth_eq (by rw [List.length_map]; exact hif), List.getElem_map, nth_eq hif]; rfl
     have hnml : i < (fs.map FlM.nm).length := by rw [List.length_map]; exact hif
     rw [show (fs.map (·.f)).drop i = (nth fs i).f :: (fs.map (·.f)).drop (i + 1) by
      have hl : i < (fs.map (·.f)).length := by omega
      rw [List.drop_eq_getElem_cons hl, List.getElem_map, nth_eq hif], chkFs] at hch
     refine zK (zU (zQ (zB (zQ (zG ?_)))))
     refine WG.y rfl rfl qD (Yl.indexN tab_ok rfl rfl rfl rfl rfl rfl (fun _ => rfl) qN (by intro _; first | exact (hfa.sub (RLe.refl _) qS).has | exact qI)) ?_
     refine yD (r := by exact (hfa.sub (RLe.refl _) qS).rd _ hif) (k := ?_)
     refine zA fun b10 => ?_
     first | refine WL.efN rfl rfl (Ef.store0 0 tab_ok rfl rfl rfl rfl rfl rfl rfl rfl ?_) | refine WL.efN rfl rfl (Ef.store0 1 tab_ok rfl rfl rfl rfl rfl rfl rfl rfl ?_) | refine WL.efN rfl rfl (Ef.store0 2 tab_ok rfl rfl rfl rfl rfl rfl rfl rfl ?_) | refine WL.efN rfl rfl (Ef.store0 3 tab_ok rfl rfl rfl rfl rfl rfl rfl rfl ?_) | refine WL.efN rfl rfl (Ef.store0 4 tab_ok rfl rfl rfl rfl rfl rfl rfl rfl ?_) | refine WL.efN rfl rfl (Ef.store0 5 tab_ok rfl rfl rfl rfl rfl rfl rfl rfl ?_)
     refine zN (zU (zQ (zQ (zG (zR 2 rfl ?_)))))
     refine yD (r := by apply Rd.add; (first | exact Rd.blk 0 rfl | exact Rd.blk 1 rfl | exact Rd.blk 2 rfl | exact Rd.blk 3 rfl | exact Rd.blk 4 rfl | exact Rd.blk 5 rfl)) (k := ?_)
     refine WL.callAt 1 en41 rfl rfl qD (CallOp.mkT rfl rfl rfl rfl) rfl (Fresh_C (met := (fs.map FlM.nm).take i) (n := (nth fs i).f.name) (hof _ (nth_mem hif)).name w0 _) ?_
     rintro _ _ _ _ - ⟨rfl, rfl, rfl, rfl⟩
     refine zR 1 rfl (zN (zU (zQ (zG (zR 2 rfl (zN (zU ?_)))))))
     refine cN rfl ?_ ?_ <;> intro hc6
     ·try dsimp only at hc6
      have hfe : flE ((fs.map FlM.nm).take i) (ms.map (·.L)) (nth fs i).f = frE ((fs.map FlM.nm).take i) (nth fs i).f.name := if_pos hc6
      rw [hfe, if_pos hc6] at hch
      refine zQ (zG (zR 2 rfl (zN (zU (zT (wt (wb (wt (wt (wb (wt ?_)))))))))))
      refine sE (E := E) ?_
      refine zr1 ?_
      refine ⟨?_, rfl⟩
      show Value.int .i64 _ = Value.int .i64 _
      rw [hcn, ← hch]
     ·try dsimp only at hc6
      have hf0 : frE ((fs.map FlM.nm).take i) (nth fs i).f.name = 0 := by first | exact hc6 | exact Classical.not_not.1 hc6
      have hfe : flE ((fs.map FlM.nm).take i) (ms.map (·.L)) (nth fs i).f = if routeE (ms.map (·.L)) (nth fs i).f ≠ 0 then routeE (ms.map (·.L)) (nth fs i).f else trafE (nth fs i).f := if_neg (fun h => h hf0)
      rw [if_pos hf0, ← hnmi, ← take_nth hnml]
      refine zK (zU (zQ (zQ (zG ?_))))
      refine yD (r := by (first | exact Rd.blk 0 rfl | exact Rd.blk 1 rfl | exact Rd.blk 2 rfl | exact Rd.blk 3 rfl | exact Rd.blk 4 rfl | exact Rd.blk 5 rfl)) (k := ?_)
      refine yD (r := by (first | exact Rd.blk 0 rfl | exact Rd.blk 1 rfl | exact Rd.blk 2 rfl | exact Rd.blk 3 rfl | exact Rd.blk 4 rfl | exact Rd.blk 5 rfl)) (k := ?_)
      refine WG.callV en43 rfl rfl qD (CallOp.mk' rfl rfl rfl rfl) (fun _ => rfl) (fun hg => Route_V (f := (nth fs i).f) hla (hof _ (nth_mem hif)).route) ?_
      refine zR 1 rfl (zN (zU (zQ (zG (zR 2 rfl (zN (zU ?_)))))))
      refine cN rfl ?_ ?_ <;> intro hc7
      ·try dsimp only at hc7
       rw [if_pos hc7] at hfe
       rw [hfe, if_pos hc7] at hch
       refine zQ (zG (zR 2 rfl (zN (zU (zT (wt (wb (wt (wt (wb (wt ?_)))))))))))
       refine sE (E := E) ?_
       refine zr1 ?_
       refine ⟨?_, rfl⟩
       show Value.int .i64 _ = Value.int .i64 _
       rw [hcn, ← hch]
      ·try dsimp only at hc7
       have hr0 : routeE (ms.map (·.L)) (nth fs i).f = 0 := by first | exact hc7 | exact Classical.not_not.1 hc7
       rw [if_neg (fun h => h hr0)] at hfe
       refine zK (zU (zQ (zG ?_)))
       refine yD (r := by (first | exact Rd.blk 0 rfl | exact Rd.blk 1 rfl | exact Rd.blk 2 rfl | exact Rd.blk 3 rfl | exact Rd.blk 4 rfl | exact Rd.blk 5 rfl)) (k := ?_)
       refine WG.callV en44 rfl rfl qD (CallOp.mk' rfl rfl rfl rfl) (fun _ => rfl) (fun hg => Traf24_V (f := (nth fs i).f) (hof _ (nth_mem hif)).vals) ?_
       refine zR 1 rfl (zN (zU (zQ (zG (zR 2 rfl (zN (zU ?_)))))))
       refine cN rfl ?_ ?_ <;> intro hc8
       ·try dsimp only at hc8
        rw [hfe, if_pos hc8] at hch
        refine zQ (zG (zR 2 rfl (zN (zU (zT (wb (wt (wt (wb (wt ?_))))))))))
        refine sE (E := E) ?_
        refine zr1 ?_
        refine ⟨?_, rfl⟩
        show Value.int .i64 _ = Value.int .i64 _
        rw [hcn, ← hch]
       ·try dsimp only at hc8
        have ht0 : trafE (nth fs i).f = 0 := by first | exact hc8 | exact Classical.not_not.1 hc8
        rw [hfe, if_neg (fun h => h ht0), ← hnmi, ← take_nth hnml] at hch
        refine zK (zL (zU (zG ?_)))
        refine yA ?_
        refine zR 1 rfl (zN ?_)
        refine WE.again (i + 1) (⟨by omega, hch⟩) (by (try dsimp only); omega) ⟨rfl, rfl, rfl, rfl, rfl, rfl⟩ (RLe.refl _) qS
    ·try dsimp only at hc5
     obtain rfl : i = fs.length := by omega
     rw [List.drop_of_length_le (by omega)] at hch
     refine zX ?_
     refine wx (wx (zY (zU (zQ (zG (zR 1 rfl (zN (zU (zT ?_)))))))))
     refine sE (E := E) ?_
     refine zr1 ?_
     refine ⟨?_, rfl⟩
     show Value.int .i64 _ = Value.int .i64 _
     rw [hcn, ← hch]; rfl
theorem NCheck_V {R : Ro} {na la fa : Option Addr} {nc lc fc : Nat} {names : List (List UInt8)} {ms : List LnM} {fs : List FlM} (hna : K.RS R 1 encT na names) (hla : K.RS R 5 encLn la ms) (hfa : K.RS R 8 encFl fa fs) (hok : ∀ m ∈ ms, OkLn R m) (hof : ∀ m ∈ fs, OkFl R m) (hnl : ∀ x ∈ names, x.length ≤ 9223372036854775807) : FnV Tryz.prog 22 [.agg #[.slice na names.length nc, .slice la ms.length lc, .slice fa fs.length fc]] R (.int .i64 (chkNet names (ms.map (·.L)) (fs.map (·.f)))) := by
 refine FnV.ofOwn (fun w0 hb0 => ?_)
 intro w hm
 refine (NCheck_E (E := []) hna hla (LsF.ro hfa) hok hof hnl w0 w hm).mono ?_
 rintro e w' ⟨rfl, hm'⟩
 exact ⟨_, R, [], rfl, RLe.refl R, hm', rfl⟩

set_option maxHeartbeats 1000000 in
theorem SCheck_V {R : Ro} {pa : Option Addr} {pc : Nat} {ps : List Pkt} (hp : RS R 3 encP pa ps) {na la fa : Option Addr} {nc lc fc : Nat} {names : List (List UInt8)} {ms : List LnM} {fs : List FlM} (hna : K.RS R 1 encT na names) (hla : K.RS R 5 encLn la ms) (hfa : K.RS R 8 encFl fa fs) (hokn : ∀ m ∈ ms, OkLn R m) (hof : ∀ m ∈ fs, OkFl R m) (hnl : ∀ x ∈ names, x.length ≤ 9223372036854775807) (hck : chkNet names (ms.map (·.L)) (fs.map (·.f)) = 0) (hg : GoodP fs ps) : FnV Tryz.prog 30 [.agg #[.slice na names.length nc, .slice la ms.length lc, .slice fa fs.length fc], .slice pa ps.length pc] R (.int .i64 0) := by
 have hg1 := hg.len
 have hlf := hfa.len
 refine Fn.toVS (fun w0 E => ?_)
 refine fE 68 Tryz.func30 ?_
 refine zQ (zG ?_)
 refine zO fun b2 => ?_
 refine zR 1 rfl (zN (zU (zQ (zQ (zG ?_)))))
 refine yD (r := by (first | exact Rd.blk 0 rfl | exact Rd.blk 1 rfl | exact Rd.blk 2 rfl | exact Rd.blk 3 rfl | exact Rd.blk 4 rfl)) (k := ?_)
 refine WG.callV (v := .int .i64 0) en22 rfl rfl qD (CallOp.mk' rfl rfl rfl rfl) (fun _ => rfl) (fun hg => by
  have h := NCheck_V (nc := nc) (lc := lc) (fc := fc) hna hla hfa hokn hof hnl
  rw [hck] at h
  exact h) ?_
 refine zR 1 rfl (zN (zU ?_))
 refine cN rfl ?_ ?_ <;> intro hc0
 ·try dsimp only at hc0
  first | exact absurd rfl hc0 | (simp at hc0)
 ·try dsimp only at hc0
  refine zK (zU (zQ (zQ (zG (zR 3 rfl (zN (zU ?_)))))))
  refine cD rfl ?_ ?_ <;> intro hc1
  ·try dsimp only at hc1
   exfalso; omega
  ·try dsimp only at hc1
   refine zK (zU (zQ (zG (zR 1 rfl (zN (zU (zQ (zQ (zG (zR 3 rfl (zN (zU (zB ?_)))))))))))))
   refine W.loopK (β := Nat × Int) (fun (i, last) => i ≤ ps.length ∧ ∀ j, i ≤ j → j < ps.length → last ≤ (nth ps j).time) (fun (i, last) => [(5, true, .int .i64 last), (17, true, .int .i64 (i : Int))]) [2, 15, 16] [_, _, _] [] _ rfl (fun (i, last) => []) (fun (i, last) => ps.length - i) ((0, 0)) (⟨Nat.zero_le _, fun j _ hj => (hg.each _ (nth_mem hj)).2.1.1⟩) ⟨rfl, rfl, rfl, rfl, rfl, rfl⟩ qS ?_
   intro zz hst
   obtain ⟨i, last⟩ := zz
   dsimp only [zipE, setAll, List.cons_append, List.nil_append, List.set_cons_zero, List.set_cons_succ] at hst ⊢
   obtain ⟨hi, hlast⟩ := hst
   refine zQ (zG (zR 1 rfl (zN (zU (zQ ?_)))))
   refine cD rfl ?_ ?_ <;> intro hc2
   ·try dsimp only at hc2
    have hil : i < ps.length := by omega
    have hpi := hg.each _ (nth_mem hil)
    have hif : (nth ps i).flow.toNat < fs.length := by omega
    have hlp := hlast i (Nat.le_refl _) hil
    refine zK (zU (zQ (zB (zQ (zG ?_)))))
    refine yI ?_
    refine yD (r := by (first | (apply RS.rdD; assumption; ((try dsimp only) <;> omega)) | exact Rd.slD 0 rfl qX | exact Rd.slD 1 rfl qX | exact Rd.slD 2 rfl qX | exact Rd.slD 3 rfl qX | exact Rd.slD 4 rfl qX)) (k := ?_)
    refine zA fun b7 => ?_
    first | refine WL.efN rfl rfl (Ef.store0 0 tab_ok rfl rfl rfl rfl rfl rfl rfl rfl ?_) | refine WL.efN rfl rfl (Ef.store0 1 tab_ok rfl rfl rfl rfl rfl rfl rfl rfl ?_) | refine WL.efN rfl rfl (Ef.store0 2 tab_ok rfl rfl rfl rfl rfl rfl rfl rfl ?_) | refine WL.efN rfl rfl (Ef.store0 3 tab_ok rfl rfl rfl rfl rfl rfl rfl rfl ?_) | refine WL.efN rfl rfl (Ef.store0 4 tab_ok rfl rfl rfl rfl rfl rfl rfl rfl ?_)
    refine zN (zU (zQ (zQ (zG (zR 1 rfl ?_)))))
    refine yD (r := by apply Rd.add; (first | exact Rd.blk 0 rfl | exact Rd.blk 1 rfl | exact Rd.blk 2 rfl | exact Rd.blk 3 rfl | exact Rd.blk 4 rfl)) (k := ?_)
    refine zR 2 rfl ?_
    refine yP ?_
    refine yJ (r := by apply Rd.addC; (first | exact Rd.blkC 0 rfl | exact Rd.blkC 1 rfl | exact Rd.blkC 2 rfl | exact Rd.blkC 3 rfl | exact Rd.blkC 4 rfl)) (k := ?_)
    refine yP ?_
    refine yJ (r := by apply Rd.addC; (first | exact Rd.blkC 0 rfl | exact Rd.blkC 1 rfl | exact Rd.blkC 2 rfl | exact Rd.blkC 3 rfl | exact Rd.blkC 4 rfl)) (k := ?_)
    refine yP ?_
    refine yP ?_
    refine yO ?_
    refine zR 1 rfl ?_
    refine yP ?_
    refine yJ (r := by apply Rd.addC; (first | exact Rd.blkC 0 rfl | exact Rd.blkC 1 rfl | exact Rd.blkC 2 rfl | exact Rd.blkC 3 rfl | exact Rd.blkC 4 rfl)) (k := ?_)
    refine yP ?_
    refine yO ?_
    refine zR 1 rfl ?_
    refine yP ?_
    refine yJ (r := by apply Rd.addC; (first | exact Rd.blkC 0 rfl | exact Rd.blkC 1 rfl | exact Rd.blkC 2 rfl | exact Rd.blkC 3 rfl | exact Rd.blkC 4 rfl)) (k := ?_)
    refine yP ?_
    refine yO ?_
    refine zN (zU ?_)
    refine cC rfl ?_ ?_ <;> intro hc3
    ·try simp only [zk] at hc3
     exfalso; omega
    ·try simp only [zk] at hc3
     refine zK (zU (zQ (zQ (zG (zR 1 rfl ?_)))))
     refine yD (r := by apply Rd.add; (first | exact Rd.blk 0 rfl | exact Rd.blk 1 rfl | exact Rd.blk 2 rfl | exact Rd.blk 3 rfl | exact Rd.blk 4 rfl)) (k := ?_)
     refine zR 1 rfl ?_
     refine yD (r := by apply Rd.add; (first | exact Rd.blk 0 rfl | exact Rd.blk 1 rfl | exact Rd.blk 2 rfl | exact Rd.blk 3 rfl | exact Rd.blk 4 rfl)) (k := ?_)
     refine yX ?_
     refine zR 1 rfl ?_
     refine yD (r := by apply Rd.add; exact RS.rdD hfa hif) (k := ?_)
     refine zA fun b8 => ?_
     first | refine WL.efN rfl rfl (Ef.store0 0 tab_ok rfl rfl rfl rfl rfl rfl rfl rfl ?_) | refine WL.efN rfl rfl (Ef.store0 1 tab_ok rfl rfl rfl rfl rfl rfl rfl rfl ?_) | refine WL.efN rfl rfl (Ef.store0 2 tab_ok rfl rfl rfl rfl rfl rfl rfl rfl ?_) | refine WL.efN rfl rfl (Ef.store0 3 tab_ok rfl rfl rfl rfl rfl rfl rfl rfl ?_) | refine WL.efN rfl rfl (Ef.store0 4 tab_ok rfl rfl rfl rfl rfl rfl rfl rfl ?_)
     refine zN (zU (zQ (zG (zR 1 rfl ?_))))
     refine yD (r := by apply Rd.add; (first | exact Rd.blk 0 rfl | exact Rd.blk 1 rfl | exact Rd.blk 2 rfl | exact Rd.blk 3 rfl | exact Rd.blk 4 rfl)) (k := ?_)
     refine zR 1 rfl ?_
     refine yD (r := by apply Rd.add; (first | exact Rd.blk 0 rfl | exact Rd.blk 1 rfl | exact Rd.blk 2 rfl | exact Rd.blk 3 rfl | exact Rd.blk 4 rfl)) (k := ?_)
     refine zR 2 rfl ?_
     refine yP ?_
     refine yJ (r := by apply Rd.addC; (first | exact Rd.blkC 0 rfl | exact Rd.blkC 1 rfl | exact Rd.blkC 2 rfl | exact Rd.blkC 3 rfl | exact Rd.blkC 4 rfl)) (k := ?_)
     refine yP ?_
     refine yJ (r := by apply Rd.addC; (first | exact Rd.blkC 0 rfl | exact Rd.blkC 1 rfl | exact Rd.blkC 2 rfl | exact Rd.blkC 3 rfl | exact Rd.blkC 4 rfl)) (k := ?_)
     refine yP ?_
     refine yO ?_
     refine zN (zU ?_)
     refine cC rfl ?_ ?_ <;> intro hc4
     ·try simp only [zk] at hc4
      exfalso; omega
     ·try simp only [zk] at hc4
      refine zK (zU (zQ (zQ (zG (zR 1 rfl ?_)))))
      refine yD (r := by apply Rd.add; (first | exact Rd.blk 0 rfl | exact Rd.blk 1 rfl | exact Rd.blk 2 rfl | exact Rd.blk 3 rfl | exact Rd.blk 4 rfl)) (k := ?_)
      refine zR 2 rfl (zN (zU ?_))
      refine cD rfl ?_ ?_ <;> intro hc5
      ·try dsimp only at hc5
       exfalso; omega
      ·try dsimp only at hc5
       refine zK (zU (zG (zR 1 rfl ?_)))
       refine yD (r := by apply Rd.add; (first | exact Rd.blk 0 rfl | exact Rd.blk 1 rfl | exact Rd.blk 2 rfl | exact Rd.blk 3 rfl | exact Rd.blk 4 rfl)) (k := ?_)
       refine zR 1 rfl (zN (zL (zU (zG ?_))))
       refine yA ?_
       refine zR 1 rfl (zN ?_)
       refine WE.again ((i + 1, (nth ps i).time)) (⟨by (try dsimp only); omega, fun j h1 h2 => by
        (try dsimp only at h1)
        have := List.pairwise_iff_getElem.1 hg.sorted i j hil h2 (by omega)
        rw [← nth_eq hil, ← nth_eq h2] at this
        exact this⟩) (by (try dsimp only); omega) ⟨rfl, rfl, rfl, rfl, rfl, rfl⟩ (RLe.refl _) qS
   ·try dsimp only at hc2
    obtain rfl : i = ps.length := by omega
    refine zX ?_
    refine wx (wx (zY (zU (zQ (zG (zR 1 rfl (zN (zU (zT ?_)))))))))
    refine zr1 ?_
    exact ⟨rfl, qS⟩

set_option maxHeartbeats 1000000 in
theorem OKeep_C {R : Ro} {pa : Option Addr} {pc : Nat} {ps : List Pkt} (hp : RS R 3 encP pa ps) {na la fa : Option Addr} {nc lc fc : Nat} {names : List (List UInt8)} {ms : List LnM} {fs : List FlM} (hna : K.RS R 1 encT na names) (hla : K.RS R 5 encLn la ms) (hfa : K.RS R 8 encFl fa fs) (hokn : ∀ m ∈ ms, OkLn R m) (hof : ∀ m ∈ fs, OkFl R m) (hnl : ∀ x ∈ names, x.length ≤ 9223372036854775807) (hck : chkNet names (ms.map (·.L)) (fs.map (·.f)) = 0) (hgood : GoodP fs ps) (hok : Ok ps) (hcvs : ∀ m ∈ fs, validB m.f.cv = true ∧ finB m.f.cv = true) {en : Nat} (hen : endN ps = en) (he : en ≤ 2001) (w0 : World) (E : List Ent) : K.Fn Tryz.prog 12 [.agg #[.slice na names.length nc, .slice la ms.length lc, .slice fa fs.length fc], .slice pa ps.length pc] w0 R E (fun v R' E' => ∃ b : Bool, v = .bool b ∧ (b = false → ∃ i s t : Nat, i < fs.length ∧ s < t ∧ cvF (nth fs i).f.cv (t - s) < winP i s t ps) ∧ (b = true → ∀ i t s : Nat, i < fs.length → s < t → t ≤ en → pbytes i (t : Int) ps ≠ pbytes i ((t - 1 : Nat) : Int) ps → winP i s t ps ≤ cvF (nth fs i).f.cv (t - s)) ∧ E.Sublist E') := by
 have hlf := hfa.len
 refine fE 26 Tryz.func12 ?_
 refine zQ (zG ?_)
 refine zO fun b2 => ?_
 refine zR 1 rfl (zN (zU (zQ (zQ (zG ?_)))))
 refine yD (r := by (first | exact Rd.blk 0 rfl | exact Rd.blk 1 rfl | exact Rd.blk 2 rfl | exact Rd.blk 3 rfl | exact Rd.blk 4 rfl)) (k := ?_)
 refine zR 1 rfl ?_
 refine WG.callV en30 rfl rfl qD (CallOp.mk' rfl rfl rfl rfl) (fun _ => rfl) (fun hg => SCheck_V (nc := nc) (lc := lc) (fc := fc) hp hna hla hfa hokn hof hnl hck hgood) ?_
 refine zR 1 rfl (zN (zU ?_))
 refine cN rfl ?_ ?_ <;> intro hc0
 ·try dsimp only at hc0
  first | exact absurd rfl hc0 | (simp at hc0)
 ·try dsimp only at hc0
  refine zK (zU (zQ (zQ (zG (zR 1 rfl ?_)))))
  refine yD (r := by apply Rd.add; (first | exact Rd.blk 0 rfl | exact Rd.blk 1 rfl | exact Rd.blk 2 rfl | exact Rd.blk 3 rfl | exact Rd.blk 4 rfl)) (k := ?_)
  refine zR 2 rfl (zN (zU (zB ?_)))
  refine W.loopR (β := Nat × Ro) (fun (i, Rk) => i ≤ fs.length ∧ RLe R Rk ∧ ∀ k t s : Nat, k < i → s < t → t ≤ en → pbytes k (t : Int) ps ≠ pbytes k ((t - 1 : Nat) : Int) ps → winP k s t ps ≤ cvF (nth fs k).f.cv (t - s)) (fun (i, Rk) => [(14, true, .int .i64 (i : Int))]) [1, 12, 13] [_, _, _] [] _ rfl (fun (i, Rk) => []) (fun (i, Rk) => Rk) (fun (i, Rk) => fs.length - i) ((0, R)) (⟨Nat.zero_le _, RLe.refl _, fun k t s h => absurd h (Nat.not_lt_zero k)⟩) ⟨rfl, rfl, rfl, rfl, rfl⟩ (RLe.refl _) qS ?_
  intro zz hst
  obtain ⟨i, Rk⟩ := zz
  dsimp only [zipE, setAll, List.cons_append, List.nil_append, List.set_cons_zero, List.set_cons_succ] at hst ⊢
  obtain ⟨hi, hRk, hall⟩ := hst
  have hp := hp.mono hRk
  have hfa := hfa.mono hRk
  have hof := fun m hm => (hof m hm).mono hRk
  refine zQ (zG (zR 1 rfl (zN (zU (zQ ?_)))))
  refine cD rfl ?_ ?_ <;> intro hc1
  ·try dsimp only at hc1
   have hil : i < fs.length := by omega
   refine zK (zU (zQ (zB (zQ (zG (zR 1 rfl ?_))))))
   refine yI ?_
   refine yD (r := by (first | (apply RS.rdD; assumption; ((try dsimp only) <;> omega)) | exact Rd.slD 0 rfl qX | exact Rd.slD 1 rfl qX | exact Rd.slD 2 rfl qX | exact Rd.slD 3 rfl qX | exact Rd.slD 4 rfl qX)) (k := ?_)
   refine zA fun b6 => ?_
   refine zR 1 rfl ?_
   first | refine WL.efN rfl rfl (Ef.store0 0 tab_ok rfl rfl rfl rfl rfl rfl rfl rfl ?_) | refine WL.efN rfl rfl (Ef.store0 1 tab_ok rfl rfl rfl rfl rfl rfl rfl rfl ?_) | refine WL.efN rfl rfl (Ef.store0 2 tab_ok rfl rfl rfl rfl rfl rfl rfl rfl ?_) | refine WL.efN rfl rfl (Ef.store0 3 tab_ok rfl rfl rfl rfl rfl rfl rfl rfl ?_) | refine WL.efN rfl rfl (Ef.store0 4 tab_ok rfl rfl rfl rfl rfl rfl rfl rfl ?_)
   refine zN (zU (zQ (zG (zR 3 rfl ?_))))
   refine yD (r := by apply Rd.add; (first | exact Rd.blk 0 rfl | exact Rd.blk 1 rfl | exact Rd.blk 2 rfl | exact Rd.blk 3 rfl | exact Rd.blk 4 rfl)) (k := ?_)
   refine WL.call en31 rfl rfl qD (CallOp.mkT rfl rfl rfl rfl) (CKeep_C (flow := (i : Int)) hp hok qO (hcvs _ (nth_mem hil)).1 (hcvs _ (nth_mem hil)).2 (hof _ (nth_mem hil)).vals hen he w0 _) ?_
   rintro _ R1 E1 hR1 ⟨b, rfl, hb1, hb2, hsub1⟩
   refine WL.subE hsub1 ?_
   refine zR 1 rfl (zN (zU ?_))
   refine cC rfl ?_ ?_ <;> intro hc2
   ·try simp only [zk] at hc2
    have hbt : b = true := by simpa using hc2
    refine zQ (zG (zR 1 rfl (zN (zU (zT (wb (wt (wt (wb (wt ?_))))))))))
    refine zq1 (by first | exact hRk.trans hR1 | exact hRk | exact RLe.refl _) ?_
    obtain ⟨s, t, h1, _, h3⟩ := hb1 hbt
    exact ⟨false, rfl, fun _ => ⟨i, s, t, hil, h1, h3⟩, fun h => (by cases h), qS⟩
   ·try simp only [zk] at hc2
    have hbf : b = false := by simpa using hc2
    refine zK (zL (zU (zG ?_)))
    refine yA ?_
    refine zR 1 rfl (zN ?_)
    refine WE.again ((i + 1, R1)) (⟨by (try dsimp only); omega, hRk.trans hR1, fun k t s h1 h2 h3 h4 => by
     by_cases e : k = i
     ·subst e; exact hb2 hbf t s h2 h3 h4
     ·exact hall k t s (by (try dsimp only at h1); omega) h2 h3 h4⟩) (by (try dsimp only); omega) ⟨rfl, rfl, rfl, rfl, rfl⟩ (RLe.refl _) qS
  ·try dsimp only at hc1
   obtain rfl : i = fs.length := by omega
   refine zX ?_
   refine wx (wx (zY (zU (zQ (zG (zR 1 rfl (zN (zU (zT ?_)))))))))
   refine zq1 (by first | exact hRk.trans hR1 | exact hRk | exact RLe.refl _) ?_
   exact ⟨true, rfl, fun h => (by cases h), fun _ k t s h1 h2 h3 h4 => hall k t s h1 h2 h3 h4, qS⟩

theorem Within22_V {R : Ro} {a : Option Addr} {c l : Nat} {xs : List Int} {lo hi : Int} (ha : RS R 1 encI a xs) (hl : xs.length = l) :
  FnV Tryz.prog 77 [.slice a l c, .int .i64 lo, .int .i64 hi] R (.bool (withinB xs lo hi)) := by
 subst hl
 have hla := ha.len
 refine Fn.toV (fun w0 E => ?_)
 refine fE 28 Tryz.func77 ?_
 refine zQ (zG (zR 1 rfl (zN (zU (zQ (zQ (zG (zR 1 rfl (zN (zU (zB ?_)))))))))))
 refine W.loopK (β := Nat) (fun k => k ≤ xs.length ∧ ∀ i, i < k → lo ≤ nth xs i ∧ nth xs i ≤ hi) (fun k => [(7, true, .int .i64 (k : Int))]) [0, 1, 2] [_, _, _] [] _ rfl (fun k => []) (fun k => xs.length - k) (0) (⟨Nat.zero_le _, fun i hi => absurd hi (Nat.not_lt_zero i)⟩) ⟨rfl, rfl, rfl, rfl, rfl⟩ qS ?_
 intro st hst
 dsimp only [zipE, setAll, List.cons_append, List.nil_append, List.set_cons_zero, List.set_cons_succ] at hst ⊢
 obtain ⟨hk, hpre⟩ := hst
 refine zQ (zQ (zG (zR 4 rfl (zN (zU ?_)))))
 refine cD rfl ?_ ?_ <;> intro hc0
 ·try dsimp only at hc0
  refine zK (zU (zQ (zB (zQ (zG (zR 2 rfl ?_))))))
  refine yI ?_
  refine yD (r := by (first | (apply RS.rdD; assumption; ((try dsimp only) <;> omega)) | exact Rd.slD 0 rfl qX | exact Rd.slD 1 rfl qX)) (k := ?_)
  refine zR 3 rfl ?_
  refine yP ?_
  refine yP ?_
  refine gI ?_
  refine yJ (r := by (first | (apply RS.rdC; assumption) | exact Rd.slC 0 rfl | exact Rd.slC 1 rfl)) (k := ?_)
  refine yP ?_
  refine yP ?_
  refine yO ?_
  refine zN (zU ?_)
  refine cC rfl ?_ ?_ <;> intro hc1
  ·try simp only [zk] at hc1
   refine zQ (zG (zR 1 rfl (zN (zU (zT (wb (wt (wt (wb (wt ?_))))))))))
   refine sE (E := E) ?_
   refine zr1 ?_
   exact ⟨congrArg Value.bool (within_no (k := st) qO qO).symm, rfl⟩
  ·try simp only [zk] at hc1
   refine zK (zL (zU (zG (zR 1 rfl ?_))))
   refine yA ?_
   refine zR 1 rfl (zN ?_)
   refine WE.again (st + 1) (⟨by omega, fun i hi => by
    rcases Nat.lt_or_ge i st with h | h
    ·exact hpre i h
    ·obtain rfl : i = st := by omega
     omega⟩) (by (try dsimp only); omega) ⟨rfl, rfl, rfl, rfl, rfl⟩ (RLe.refl _) qS
 ·try dsimp only at hc0
  refine zX ?_
  refine wx (wx (zY (zU (zQ (zG (zR 1 rfl (zN (zU (zT ?_)))))))))
  refine sE (E := E) ?_
  refine zr1 ?_
  exact ⟨congrArg Value.bool (within_yes (fun i hi => hpre i qO)).symm, rfl⟩
theorem Chk22_V {R : Ro} {aw at_ : Option Addr} {lw cw lt ct : Nat} {L : Ln} (hw : RS R 1 encI aw L.w) (hlw : L.w.length = lw) (ht : RS R 1 encI at_ L.tb) (hlt : L.tb.length = lt) : FnV Tryz.prog 52 [.agg #[.int .i64 L.kind, .int .i64 L.cap, .int .i64 L.n, .slice aw lw cw, .slice at_ lt ct]] R (.int .i64 (chkL L)) := by
 refine Fn.toV (fun w0 E => ?_)
 refine fE 101 Tryz.func52 ?_
 refine zQ (zG ?_)
 refine zO fun b1 => ?_
 refine zR 1 rfl (zN (zU (zQ (zQ (zG (zR 1 rfl ?_))))))
 refine yD (r := by apply Rd.add; (first | exact Rd.blk 0 rfl | exact Rd.blk 1 rfl | exact Rd.blk 2 rfl)) (k := ?_)
 refine zR 2 rfl ?_
 refine yP ?_
 refine yJ (r := by apply Rd.addC; (first | exact Rd.blkC 0 rfl | exact Rd.blkC 1 rfl | exact Rd.blkC 2 rfl)) (k := ?_)
 refine yP ?_
 refine yO ?_
 refine zN (zU ?_)
 refine cC rfl ?_ ?_ <;> intro hc0
 ·try simp only [zk] at hc0
  refine zQ (zG (zR 1 rfl (zN (zU (zT (wt ?_))))))
  refine sE (E := E) ?_
  refine zr1 ?_
  exact ⟨congrArg (Value.int IntKind.i64) (if_pos hc0).symm, rfl⟩
 ·try simp only [zk] at hc0
  refine zK (zU (zQ (zQ (zG (zR 1 rfl ?_)))))
  refine yD (r := by apply Rd.add; (first | exact Rd.blk 0 rfl | exact Rd.blk 1 rfl | exact Rd.blk 2 rfl)) (k := ?_)
  refine zR 2 rfl ?_
  refine yP ?_
  refine yJ (r := by apply Rd.addC; (first | exact Rd.blkC 0 rfl | exact Rd.blkC 1 rfl | exact Rd.blkC 2 rfl)) (k := ?_)
  refine yP ?_
  refine yO ?_
  refine zR 1 rfl ?_
  refine yP ?_
  refine yJ (r := by apply Rd.addC; (first | exact Rd.blkC 0 rfl | exact Rd.blkC 1 rfl | exact Rd.blkC 2 rfl)) (k := ?_)
  refine yP ?_
  refine yO ?_
  refine zR 1 rfl ?_
  refine yP ?_
  refine yJ (r := by apply Rd.addC; (first | exact Rd.blkC 0 rfl | exact Rd.blkC 1 rfl | exact Rd.blkC 2 rfl)) (k := ?_)
  refine yP ?_
  refine yO ?_
  refine zN (zU ?_)
  refine cC rfl ?_ ?_ <;> intro hc1
  ·try simp only [zk] at hc1
   refine zQ (zG (zR 1 rfl (zN (zU (zT (wt ?_))))))
   refine sE (E := E) ?_
   refine zr1 ?_
   exact ⟨congrArg (Value.int IntKind.i64) (by unfold chkL; rw [if_neg (by omega), if_pos (by omega)]), rfl⟩
  ·try simp only [zk] at hc1
   refine zK (zU (zQ (zG (zR 1 rfl ?_))))
   refine yD (r := by apply Rd.add; (first | exact Rd.blk 0 rfl | exact Rd.blk 1 rfl | exact Rd.blk 2 rfl)) (k := ?_)
   refine zR 2 rfl ?_
   refine yP ?_
   refine yJ (r := by apply Rd.addC; (first | exact Rd.blkC 0 rfl | exact Rd.blkC 1 rfl | exact Rd.blkC 2 rfl)) (k := ?_)
   refine yP ?_
   refine yO ?_
   refine zR 1 rfl (zN (zU (zQ (zG (zR 1 rfl (zN (zU (zQ (zQ (zG (zR 1 rfl ?_)))))))))))
   refine yD (r := by apply Rd.add; (first | exact Rd.blk 0 rfl | exact Rd.blk 1 rfl | exact Rd.blk 2 rfl)) (k := ?_)
   refine zR 1 rfl (zN (zU ?_))
   refine cE rfl ?_ ?_ <;> intro hc2
   ·try dsimp only at hc2
    refine zG (zR 1 rfl (zN (zU (zQ (zQ (zG (zR 2 rfl ?_)))))))
    refine yP ?_
    refine yJ (r := by apply Rd.addC; (first | exact Rd.blkC 0 rfl | exact Rd.blkC 1 rfl | exact Rd.blkC 2 rfl)) (k := ?_)
    refine yP ?_
    refine yP ?_
    refine yJ (r := by apply Rd.addC; (first | exact Rd.blkC 0 rfl | exact Rd.blkC 1 rfl | exact Rd.blkC 2 rfl)) (k := ?_)
    refine yP ?_
    refine yP ?_
    refine yP ?_
    refine yJ (r := by apply Rd.addC; (first | exact Rd.blkC 0 rfl | exact Rd.blkC 1 rfl | exact Rd.blkC 2 rfl)) (k := ?_)
    refine yP ?_
    refine WG.callV en77 rfl rfl qD (CallOp.mk' rfl rfl rfl rfl) qE (fun hg => Within22_V hw hlw) ?_
    refine yP ?_
    refine yO ?_
    refine yN ?_
    refine zN (zU ?_)
    refine cC rfl ?_ ?_ <;> intro hc3
    ·try simp only [zk] at hc3
     refine zQ (zG (zR 1 rfl (zN (zU (zT (wt ?_))))))
     refine sE (E := E) ?_
     refine zr1 ?_
     exact ⟨congrArg (Value.int IntKind.i64) (by rw [chk_spec (m := 6000) (by omega) hc0 hc1, hlw, hlt]; rw [if_pos hc3]), rfl⟩
    ·try simp only [zk] at hc3
     refine zK (zU (zQ (zQ (zG (zR 1 rfl ?_)))))
     refine yD (r := by apply Rd.add; (first | exact Rd.blk 0 rfl | exact Rd.blk 1 rfl | exact Rd.blk 2 rfl)) (k := ?_)
     refine zR 2 rfl ?_
     refine yP ?_
     refine yJ (r := by apply Rd.addC; (first | exact Rd.blkC 0 rfl | exact Rd.blkC 1 rfl | exact Rd.blkC 2 rfl)) (k := ?_)
     refine yP ?_
     refine yP ?_
     refine yP ?_
     refine yP ?_
     refine yJ (r := by apply Rd.addC; (first | exact Rd.blkC 0 rfl | exact Rd.blkC 1 rfl | exact Rd.blkC 2 rfl)) (k := ?_)
     refine yP ?_
     refine yP ?_
     refine yO ?_
     refine yP ?_
     refine yP ?_
     refine yJ (r := by apply Rd.addC; (first | exact Rd.blkC 0 rfl | exact Rd.blkC 1 rfl | exact Rd.blkC 2 rfl)) (k := ?_)
     refine yP ?_
     refine yJ (r := by apply Rd.addC; (first | exact Rd.blkC 0 rfl | exact Rd.blkC 1 rfl | exact Rd.blkC 2 rfl)) (k := ?_)
     refine WG.y rfl rfl (by decide) (Yl.sub rfl rfl rfl qE (by intro hg; (try simp only [zk] at hg); constructor <;> (try dsimp only) <;> omega)) ?_
     refine WG.callV en77 rfl rfl qD (CallOp.mk' rfl rfl rfl rfl) qE (fun hg => Within22_V ht hlt) ?_
     refine yP ?_
     refine yO ?_
     refine yN ?_
     refine zN (zU ?_)
     refine cC rfl ?_ ?_ <;> intro hc4
     ·try simp only [zk] at hc4
      refine zQ (zG (zR 1 rfl (zN (zU (zT (wt ?_))))))
      refine sE (E := E) ?_
      refine zr1 ?_
      exact ⟨congrArg (Value.int IntKind.i64) (by rw [chk_spec (m := 6000) (by omega) hc0 hc1, hlw, hlt]; rw [if_neg (no_a hc3), if_pos hc4]), rfl⟩
     ·try simp only [zk] at hc4
      refine zK (zU (zQ (zQ (zG (zR 3 rfl ?_)))))
      refine yP ?_
      refine yJ (r := by apply Rd.addC; (first | exact Rd.blkC 0 rfl | exact Rd.blkC 1 rfl | exact Rd.blkC 2 rfl)) (k := ?_)
      refine yP ?_
      refine yP ?_
      refine yN ?_
      refine zR 1 rfl ?_
      refine yP ?_
      refine yJ (r := by apply Rd.addC; (first | exact Rd.blkC 0 rfl | exact Rd.blkC 1 rfl | exact Rd.blkC 2 rfl)) (k := ?_)
      refine yP ?_
      refine yP ?_
      refine yP ?_
      refine yJ (r := by apply Rd.addC; (first | exact Rd.blkC 0 rfl | exact Rd.blkC 1 rfl | exact Rd.blkC 2 rfl)) (k := ?_)
      refine yP ?_
      refine yP ?_
      refine yN ?_
      refine yO ?_
      refine zN (zU ?_)
      refine cC rfl ?_ ?_ <;> intro hc5
      ·try simp only [zk] at hc5
       refine zQ (zG (zR 1 rfl (zN (zU (zT (wt ?_))))))
       refine sE (E := E) ?_
       refine zr1 ?_
       exact ⟨congrArg (Value.int IntKind.i64) (by rw [chk_spec (m := 6000) (by omega) hc0 hc1, hlw, hlt]; rw [if_neg (no_a hc3), if_neg (no_b hc4), if_pos hc5]), rfl⟩
      ·try simp only [zk] at hc5
       refine zK (zU (zQ (zG (zR 1 rfl (zN (zU (zT ?_)))))))
       refine sE (E := E) ?_
       refine zr1 ?_
       exact ⟨congrArg (Value.int IntKind.i64) (by rw [chk_spec (m := 6000) (by omega) hc0 hc1, hlw, hlt]; rw [if_neg (no_a hc3), if_neg (no_b hc4), if_neg (no_c hc5)]), rfl⟩
   ·try dsimp only at hc2
    refine zK (zU (zQ (zQ (zG (zR 2 rfl ?_)))))
    refine yP ?_
    refine yJ (r := by apply Rd.addC; (first | exact Rd.blkC 0 rfl | exact Rd.blkC 1 rfl | exact Rd.blkC 2 rfl)) (k := ?_)
    refine yP ?_
    refine yP ?_
    refine yJ (r := by apply Rd.addC; (first | exact Rd.blkC 0 rfl | exact Rd.blkC 1 rfl | exact Rd.blkC 2 rfl)) (k := ?_)
    refine yP ?_
    refine yP ?_
    refine yP ?_
    refine yJ (r := by apply Rd.addC; (first | exact Rd.blkC 0 rfl | exact Rd.blkC 1 rfl | exact Rd.blkC 2 rfl)) (k := ?_)
    refine yP ?_
    refine WG.callV en77 rfl rfl qD (CallOp.mk' rfl rfl rfl rfl) qE (fun hg => Within22_V hw hlw) ?_
    refine yP ?_
    refine yO ?_
    refine yN ?_
    refine zN (zU ?_)
    refine cC rfl ?_ ?_ <;> intro hc6
    ·try simp only [zk] at hc6
     refine zQ (zG (zR 1 rfl (zN (zU (zT (wt ?_))))))
     refine sE (E := E) ?_
     refine zr1 ?_
     exact ⟨congrArg (Value.int IntKind.i64) (by rw [chk_spec (m := 20) (by omega) hc0 hc1, hlw, hlt]; rw [if_pos hc6]), rfl⟩
    ·try simp only [zk] at hc6
     refine zK (zU (zQ (zQ (zG (zR 1 rfl ?_)))))
     refine yD (r := by apply Rd.add; (first | exact Rd.blk 0 rfl | exact Rd.blk 1 rfl | exact Rd.blk 2 rfl)) (k := ?_)
     refine zR 2 rfl ?_
     refine yP ?_
     refine yJ (r := by apply Rd.addC; (first | exact Rd.blkC 0 rfl | exact Rd.blkC 1 rfl | exact Rd.blkC 2 rfl)) (k := ?_)
     refine yP ?_
     refine yP ?_
     refine yP ?_
     refine yP ?_
     refine yJ (r := by apply Rd.addC; (first | exact Rd.blkC 0 rfl | exact Rd.blkC 1 rfl | exact Rd.blkC 2 rfl)) (k := ?_)
     refine yP ?_
     refine yP ?_
     refine yO ?_
     refine yP ?_
     refine yP ?_
     refine yJ (r := by apply Rd.addC; (first | exact Rd.blkC 0 rfl | exact Rd.blkC 1 rfl | exact Rd.blkC 2 rfl)) (k := ?_)
     refine yP ?_
     refine yJ (r := by apply Rd.addC; (first | exact Rd.blkC 0 rfl | exact Rd.blkC 1 rfl | exact Rd.blkC 2 rfl)) (k := ?_)
     refine WG.y rfl rfl (by decide) (Yl.sub rfl rfl rfl qE (by intro hg; (try simp only [zk] at hg); constructor <;> (try dsimp only) <;> omega)) ?_
     refine WG.callV en77 rfl rfl qD (CallOp.mk' rfl rfl rfl rfl) qE (fun hg => Within22_V ht hlt) ?_
     refine yP ?_
     refine yO ?_
     refine yN ?_
     refine zN (zU ?_)
     refine cC rfl ?_ ?_ <;> intro hc7
     ·try simp only [zk] at hc7
      refine zQ (zG (zR 1 rfl (zN (zU (zT (wt ?_))))))
      refine sE (E := E) ?_
      refine zr1 ?_
      exact ⟨congrArg (Value.int IntKind.i64) (by rw [chk_spec (m := 20) (by omega) hc0 hc1, hlw, hlt]; rw [if_neg (no_a hc6), if_pos hc7]), rfl⟩
     ·try simp only [zk] at hc7
      refine zK (zU (zQ (zQ (zG (zR 3 rfl ?_)))))
      refine yP ?_
      refine yJ (r := by apply Rd.addC; (first | exact Rd.blkC 0 rfl | exact Rd.blkC 1 rfl | exact Rd.blkC 2 rfl)) (k := ?_)
      refine yP ?_
      refine yP ?_
      refine yN ?_
      refine zR 1 rfl ?_
      refine yP ?_
      refine yJ (r := by apply Rd.addC; (first | exact Rd.blkC 0 rfl | exact Rd.blkC 1 rfl | exact Rd.blkC 2 rfl)) (k := ?_)
      refine yP ?_
      refine yP ?_
      refine yP ?_
      refine yJ (r := by apply Rd.addC; (first | exact Rd.blkC 0 rfl | exact Rd.blkC 1 rfl | exact Rd.blkC 2 rfl)) (k := ?_)
      refine yP ?_
      refine yP ?_
      refine yN ?_
      refine yO ?_
      refine zN (zU ?_)
      refine cC rfl ?_ ?_ <;> intro hc8
      ·try simp only [zk] at hc8
       refine zQ (zG (zR 1 rfl (zN (zU (zT (wt ?_))))))
       refine sE (E := E) ?_
       refine zr1 ?_
       exact ⟨congrArg (Value.int IntKind.i64) (by rw [chk_spec (m := 20) (by omega) hc0 hc1, hlw, hlt]; rw [if_neg (no_a hc6), if_neg (no_b hc7), if_pos hc8]), rfl⟩
      ·try simp only [zk] at hc8
       refine zK (zU (zQ (zG (zR 1 rfl (zN (zU (zT ?_)))))))
       refine sE (E := E) ?_
       refine zr1 ?_
       exact ⟨congrArg (Value.int IntKind.i64) (by rw [chk_spec (m := 20) (by omega) hc0 hc1, hlw, hlt]; rw [if_neg (no_a hc6), if_neg (no_b hc7), if_neg (no_c hc8)]), rfl⟩

set_option maxHeartbeats 1000000 in
theorem Word23_V {R : Ro} {s : List UInt8} (hs : s.length ≤ 9223372036854775807) : FnV Tryz.prog 51 [.string (str s)] R (.bool (wordB s)) := by
 refine Fn.toV (fun w0 E => ?_)
 have hss := str_size s
 have hse : str s = ⟨#[]⟩ ↔ s = [] := ⟨fun h => str_inj (b := []) h, fun h => by rw [h]; rfl⟩
 have h0l : s ≠ [] → 0 < s.length := List.length_pos_iff.2
 refine fE 57 Tryz.func51 ?_
 refine zQ (zG (zR 1 rfl (zN (zU (zQ (zQ (zG (zR 4 rfl ?_))))))))
 refine yP ?_
 refine yP ?_
 refine yP ?_
 refine yO ?_
 refine zR 1 rfl ?_
 refine yP ?_
 refine WG.y rfl rfl (by decide) (Yl.sidx tab_ok rfl rfl rfl rfl rfl qE (by intro hg; (try simp only [zk] at hg); (have h1 := hg; constructor <;> omega))) ?_
 refine yP ?_
 refine yO ?_
 refine zR 1 rfl ?_
 refine yP ?_
 refine WG.y rfl rfl (by decide) (Yl.sidx tab_ok rfl rfl rfl rfl rfl qE (by intro hg; (try simp only [zk] at hg); (have h1 := hg; constructor <;> omega))) ?_
 refine yP ?_
 refine yO ?_
 refine zN (zU ?_)
 refine cC rfl ?_ ?_ <;> intro hc0
 ·try simp only [zk] at hc0
  have h00 : byteAt s ((0 : Int)).toNat = byteAt s 0 := rfl
  try rw [h00] at hc0
  have hno : wordB s = false := by
   unfold wordB
   rw [decide_eq_false_iff_not]
   rintro ⟨h1, h2, h3, h4⟩
   rcases hc0 with ((h | h) | h) | h
   all_goals omega
  refine zQ (zG (zR 1 rfl (zN (zU (zT (wt ?_))))))
  refine sE (E := E) ?_
  refine zr1 ?_
  exact ⟨by rw [hno]; rfl, rfl⟩
 ·try simp only [zk] at hc0
  have h00 : byteAt s ((0 : Int)).toNat = byteAt s 0 := rfl
  try rw [h00] at hc0
  have hok : 1 ≤ s.length ∧ s.length ≤ 12 ∧ 97 ≤ byteAt s 0 ∧ byteAt s 0 ≤ 122 := by omega
  refine zK (zU (zQ (zQ (zG (zR 1 rfl (zN (zU (zB ?_))))))))
  refine W.loopK (β := Nat) (fun i => i ≤ s.length ∧ ∀ j, j < i → wordOk s j) (fun i => [(3, true, .int .i64 (i : Int))]) [0] [_] [] _ rfl (fun i => []) (fun i => s.length - i) (0) (⟨Nat.zero_le _, fun j hj => by omega⟩) ⟨rfl, rfl, rfl⟩ qS ?_
  intro i hst
  dsimp only [zipE, setAll, List.cons_append, List.nil_append, List.set_cons_zero, List.set_cons_succ] at hst ⊢
  refine zQ (zQ (zG (zR 4 rfl (zN (zU ?_)))))
  refine cD rfl ?_ ?_ <;> intro hc1
  ·try dsimp only at hc1
   have hil : i < s.length := by omega
   have hbt : byteAt s ((i : Int)).toNat = byteAt s i := rfl
   refine zK (zU (zQ (zB (zQ (zG (zR 2 rfl ?_))))))
   refine WG.y rfl rfl qD (Yl.sidx tab_ok rfl rfl rfl rfl rfl (fun _ => rfl) qA) ?_
   refine zR 2 rfl ?_
   refine yP ?_
   refine yP ?_
   refine WG.y rfl rfl (by decide) (Yl.sidx tab_ok rfl rfl rfl rfl rfl qE (by intro hg; (try simp only [zk] at hg); constructor <;> (try dsimp only) <;> omega)) ?_
   refine yP ?_
   refine yN ?_
   refine zR 1 rfl ?_
   refine yP ?_
   refine yP ?_
   refine WG.y rfl rfl (by decide) (Yl.sidx tab_ok rfl rfl rfl rfl rfl qE (by intro hg; (try simp only [zk] at hg); constructor <;> (try dsimp only) <;> omega)) ?_
   refine yP ?_
   refine yP ?_
   refine yP ?_
   refine yP ?_
   refine WG.y rfl rfl (by decide) (Yl.sidx tab_ok rfl rfl rfl rfl rfl qE (by intro hg; (try simp only [zk] at hg); constructor <;> (try dsimp only) <;> omega)) ?_
   refine yP ?_
   refine yN ?_
   refine yO ?_
   refine zR 1 rfl ?_
   refine yP ?_
   refine yP ?_
   refine WG.y rfl rfl (by decide) (Yl.sidx tab_ok rfl rfl rfl rfl rfl qE (by intro hg; (try simp only [zk] at hg); constructor <;> (try dsimp only) <;> omega)) ?_
   refine yP ?_
   refine yO ?_
   refine zR 1 rfl (zN (zU ?_))
   refine cC rfl ?_ ?_ <;> intro hc2
   ·try simp only [zk] at hc2
    have hno : wordB s = false := by
     unfold wordB
     rw [decide_eq_false_iff_not]
     rintro ⟨h1, h2, h3, h4⟩
     have := h4 i hil
     unfold wordOk at this
     rw [hbt] at hc2
     omega
    refine zQ (zG (zR 1 rfl (zN (zU (zT (wb (wt (wt (wb (wt ?_))))))))))
    refine sE (E := E) ?_
    refine zr1 ?_
    exact ⟨by rw [hno]; rfl, rfl⟩
   ·try simp only [zk] at hc2
    rw [hbt] at hc2
    have hy : wordOk s i := by unfold wordOk; omega
    refine zK (zL (zU (zG (zR 1 rfl ?_))))
    refine yA ?_
    refine zR 1 rfl (zN ?_)
    refine WE.again (i + 1) (⟨by omega, fun j hj => by
     by_cases e : j = i
     ·subst e; exact hy
     ·exact hst.2 j (by omega)⟩) (by (try dsimp only); omega) ⟨rfl, rfl, rfl⟩ (RLe.refl _) qS
  ·try dsimp only at hc1
   obtain rfl : i = s.length := by omega
   refine zX ?_
   refine wx (wx (zY (zU (zQ (zG (zR 1 rfl (zN (zU (zT ?_)))))))))
   refine sE (E := E) ?_
   refine zr1 ?_
   exact ⟨by rw [show wordB s = true from decide_eq_true ⟨hok.1, hok.2.1, hok.2.2, hst.2⟩]; rfl, rfl⟩

theorem ValidA_V {R : Ro} {a : Option Addr} {c : Nat} {v : List Int} {per inc : Int} (ha : RS R 1 encI a v) : FnV Tryz.prog 54 [.agg #[.slice a v.length c, .int .i64 per, .int .i64 inc]] R (.bool (validB ⟨v, per, inc⟩)) := by
 have hla := ha.len
 refine Fn.toV (fun w0 E => ?_)
 refine fE 118 Tryz.func54 ?_
 refine zQ (zG ?_)
 refine zO fun b1 => ?_
 refine zR 1 rfl (zN (zU (zQ (zG (zR 1 rfl ?_)))))
 refine yD (r := by apply Rd.add; (first | exact Rd.blk 0 rfl | exact Rd.blk 1 rfl | exact Rd.blk 2 rfl)) (k := ?_)
 refine zR 2 rfl (zN (zU (zQ (zQ (zG (zR 3 rfl ?_))))))
 refine yP ?_
 refine yP ?_
 refine yO ?_
 refine zR 1 rfl ?_
 refine yP ?_
 refine yJ (r := by apply Rd.addC; (first | exact Rd.blkC 0 rfl | exact Rd.blkC 1 rfl | exact Rd.blkC 2 rfl)) (k := ?_)
 refine yP ?_
 refine yO ?_
 refine zR 1 rfl ?_
 refine yP ?_
 refine yJ (r := by apply Rd.addC; (first | exact Rd.blkC 0 rfl | exact Rd.blkC 1 rfl | exact Rd.blkC 2 rfl)) (k := ?_)
 refine yP ?_
 refine yO ?_
 refine zR 1 rfl ?_
 refine yP ?_
 refine yJ (r := by apply Rd.addC; (first | exact Rd.blkC 0 rfl | exact Rd.blkC 1 rfl | exact Rd.blkC 2 rfl)) (k := ?_)
 refine yP ?_
 refine yP ?_
 refine yO ?_
 refine zR 1 rfl ?_
 refine yP ?_
 refine yJ (r := by apply Rd.addC; (first | exact Rd.blkC 0 rfl | exact Rd.blkC 1 rfl | exact Rd.blkC 2 rfl)) (k := ?_)
 refine yP ?_
 refine yO ?_
 refine zR 1 rfl ?_
 refine yP ?_
 refine yJ (r := by apply Rd.addC; (first | exact Rd.blkC 0 rfl | exact Rd.blkC 1 rfl | exact Rd.blkC 2 rfl)) (k := ?_)
 refine yP ?_
 refine yO ?_
 refine zN (zU ?_)
 refine cC rfl ?_ ?_ <;> intro hc0
 ·try simp only [zk] at hc0
  have hno : validB ⟨v, per, inc⟩ = false := validB_false (fun h => by obtain ⟨⟨a1, a2, a3, a4, a5, a6, a7⟩, _⟩ := h; dsimp only at a1 a2 a3 a4 a5 a6 a7; unfold MAXV at a7; omega)
  refine zQ (zG (zR 1 rfl (zN (zU (zT (wt ?_))))))
  refine sE (E := E) ?_
  refine zr1 ?_
  exact ⟨by rw [hno]; rfl, rfl⟩
 ·try simp only [zk] at hc0
  have hall : 1 ≤ v.length ∧ v.length ≤ 400 ∧ 1 ≤ per ∧ per ≤ 120 ∧ per ≤ v.length ∧ 0 ≤ inc ∧ inc ≤ MAXV := by unfold MAXV; omega
  refine zK (zU (zQ (zQ (zG (zR 1 rfl (zN (zU (zB ?_))))))))
  refine W.loopK (β := Nat) (fun i => i ≤ v.length ∧ ∀ j, j < i → (nth v j = INF ∨ (0 ≤ nth v j ∧ nth v j ≤ MAXV)) ∧ (j = 0 ∨ nth v (j - 1) ≤ nth v j)) (fun i => [(4, true, .int .i64 (i : Int))]) [1, 3] [_, _] [] _ rfl (fun i => []) (fun i => v.length - i) (0) (⟨Nat.zero_le _, fun j hj => by omega⟩) ⟨rfl, rfl, rfl, rfl⟩ qS ?_
  intro i hst
  dsimp only [zipE, setAll, List.cons_append, List.nil_append, List.set_cons_zero, List.set_cons_succ] at hst ⊢
  refine zQ (zQ (zG (zR 3 rfl (zN (zU ?_)))))
  refine cD rfl ?_ ?_ <;> intro hc1
  ·try dsimp only at hc1
   have hil : i < v.length := by omega
   have e1 : 0 < i → ((i : Int) - 1).toNat = i - 1 := fun _ => by omega
   refine zK (zU (zQ (zB (zQ ?_))))
   refine W.regionQ _ mixed qK ?_
   refine zR 1 rfl ?_
   refine yD (r := by apply Rd.add; (first | exact Rd.blk 0 rfl | exact Rd.blk 1 rfl | exact Rd.blk 2 rfl)) (k := ?_)
   refine zR 1 rfl ?_
   refine yI ?_
   refine yD (r := by (first | (apply RS.rdD; assumption; ((try dsimp only) <;> omega)) | exact Rd.slD 0 rfl qX | exact Rd.slD 1 rfl qX | exact Rd.slD 2 rfl qX)) (k := ?_)
   refine zR 2 rfl ?_
   refine yP ?_
   refine yJ (r := by apply Rd.addC; (first | exact Rd.blkC 0 rfl | exact Rd.blkC 1 rfl | exact Rd.blkC 2 rfl)) (k := ?_)
   refine yP ?_
   refine gI ?_
   refine yJ (r := by (first | (apply RS.rdC; assumption) | exact Rd.slC 0 rfl | exact Rd.slC 1 rfl | exact Rd.slC 2 rfl)) (k := ?_)
   refine yP ?_
   refine yP ?_
   refine yP ?_
   refine yJ (r := by apply Rd.addC; (first | exact Rd.blkC 0 rfl | exact Rd.blkC 1 rfl | exact Rd.blkC 2 rfl)) (k := ?_)
   refine yP ?_
   refine gI ?_
   refine yJ (r := by (first | (apply RS.rdC; assumption) | exact Rd.slC 0 rfl | exact Rd.slC 1 rfl | exact Rd.slC 2 rfl)) (k := ?_)
   refine yP ?_
   refine yO ?_
   refine yN ?_
   refine zR 1 rfl ?_
   refine yP ?_
   refine yP ?_
   refine yP ?_
   refine yP ?_
   refine yJ (r := by apply Rd.addC; (first | exact Rd.blkC 0 rfl | exact Rd.blkC 1 rfl | exact Rd.blkC 2 rfl)) (k := ?_)
   refine yP ?_
   refine gI ?_
   refine yJ (r := by (first | (apply RS.rdC; assumption) | exact Rd.slC 0 rfl | exact Rd.slC 1 rfl | exact Rd.slC 2 rfl)) (k := ?_)
   refine yP ?_
   refine yJ (r := by apply Rd.addC; (first | exact Rd.blkC 0 rfl | exact Rd.blkC 1 rfl | exact Rd.blkC 2 rfl)) (k := ?_)
   refine yP ?_
   refine WG.y rfl rfl (by decide) (Yl.sub rfl rfl rfl qE (by intro hg; (try simp only [zk] at hg); constructor <;> (try dsimp only) <;> omega)) ?_
   refine gX ?_
   refine yJ (r := by (first | (apply RS.rdC; assumption) | exact Rd.slC 0 rfl | exact Rd.slC 1 rfl | exact Rd.slC 2 rfl)) (k := ?_)
   refine yP ?_
   refine yN ?_
   refine yO ?_
   refine zN (zU ?_)
   refine cC rfl ?_ ?_ <;> intro hc2
   ·try simp only [zk] at hc2
    have hno : validB ⟨v, per, inc⟩ = false := validB_false (fun h => by
     obtain ⟨_, h2, _⟩ := h
     have h2 := h2 i hil
     dsimp only at h2
     unfold INF MAXV at h2
     rcases hc2 with ⟨x1, x2⟩ | ⟨x1, x2⟩
     ·omega
     ·rw [e1 (by omega)] at x2; omega)
    refine zQ (zG (zR 1 rfl (zN (zU (zT (wb (wt (wt (wb (wt ?_))))))))))
    refine sE (E := E) ?_
    refine zr1 ?_
    exact ⟨by rw [hno]; rfl, rfl⟩
   ·try simp only [zk] at hc2
    have hy : (nth v i = INF ∨ (0 ≤ nth v i ∧ nth v i ≤ MAXV)) ∧ (i = 0 ∨ nth v (i - 1) ≤ nth v i) := by
     obtain ⟨x1, x2⟩ := hc2
     unfold INF MAXV
     refine ⟨by omega, ?_⟩
     by_cases h : i = 0
     ·exact .inl h
     ·have := x2 (by omega)
      rw [e1 (by omega)] at this
      right; omega
    refine zK (zL (zU (zG (zR 1 rfl ?_))))
    refine yA ?_
    refine zR 1 rfl (zN ?_)
    refine WE.again (i + 1) (⟨by omega, fun j hj => by
     by_cases e : j = i
     ·subst e; exact hy
     ·exact hst.2 j (by omega)⟩) (by (try dsimp only); omega) ⟨rfl, rfl, rfl, rfl⟩ (RLe.refl _) qS
  ·try dsimp only at hc1
   obtain rfl : i = v.length := by omega
   have hvn : ∀ j, j < v.length → 0 ≤ nth v j ∧ nth v j ≤ 4611686018427387904 := fun j hj => by
    have := (hst.2 j hj).1
    unfold INF MAXV at this
    omega
   have e2 : ((v.length : Int) - 1).toNat = v.length - 1 := by omega
   have e3 : ((v.length : Int) - per).toNat = v.length - per.toNat := by omega
   have hx1 := hvn (((v.length : Int) - 1).toNat) (by omega)
   have hx2 := hvn (((v.length : Int) - per).toNat) (by omega)
   have hx2b : nth v ((v.length : Int) - 1).toNat ≠ 4611686018427387904 → nth v ((v.length : Int) - per).toNat + inc ≤ 4611686018427387904 + 1073741824 := fun _ => by unfold MAXV at hall; omega
   refine zX ?_
   refine wx (wx (zY (zU (zQ (zQ (zG (zR 1 rfl ?_)))))))
   refine yD (r := by apply Rd.add; (first | exact Rd.blk 0 rfl | exact Rd.blk 1 rfl | exact Rd.blk 2 rfl)) (k := ?_)
   refine zR 1 rfl ?_
   refine yS ?_
   refine yX ?_
   refine yD (r := by exact RS.rdD ha qO) (k := ?_)
   refine zR 1 rfl (zN (zU ?_))
   refine cE rfl ?_ ?_ <;> intro hc3
   ·try dsimp only at hc3
    have hif : (if nth v (v.length - 1) = INF then per = 1 ∧ inc = 0 else nth v (v.length - 1) ≤ nth v (v.length - per.toNat) + inc) ↔ (per = 1 ∧ inc = 0) := by rw [if_pos (by rw [← e2]; exact hc3)]
    refine zQ (zG (zR 1 rfl ?_))
    refine yD (r := by apply Rd.add; (first | exact Rd.blk 0 rfl | exact Rd.blk 1 rfl | exact Rd.blk 2 rfl)) (k := ?_)
    refine zR 2 rfl ?_
    refine yP ?_
    refine yJ (r := by apply Rd.addC; (first | exact Rd.blkC 0 rfl | exact Rd.blkC 1 rfl | exact Rd.blkC 2 rfl)) (k := ?_)
    refine yP ?_
    refine yN ?_
    refine zR 1 rfl (zN (zU (zT (wt ?_))))
    refine sE (E := E) ?_
    refine zr1 ?_
    refine ⟨congrArg Value.bool ?_, rfl⟩
    rw [Bool.eq_iff_iff, validB_iff]
    dsimp only
    rw [hif]
    simp only [Bool.and_eq_true, beq_iff_eq]
    exact ⟨fun h => ⟨hall, fun j hj => hst.2 j hj, h⟩, fun h => h.2.2⟩
   ·try dsimp only at hc3
    have hif : (if nth v (v.length - 1) = INF then per = 1 ∧ inc = 0 else nth v (v.length - 1) ≤ nth v (v.length - per.toNat) + inc) ↔ (nth v (v.length - 1) ≤ nth v (v.length - per.toNat) + inc) := by rw [if_neg (by rw [← e2]; exact hc3)]
    refine zK (zU (zQ ?_))
    refine W.regionQ _ mixed qK ?_
    refine zR 1 rfl ?_
    refine yD (r := by apply Rd.add; (first | exact Rd.blk 0 rfl | exact Rd.blk 1 rfl | exact Rd.blk 2 rfl)) (k := ?_)
    refine zR 2 rfl ?_
    refine yD (r := by apply Rd.add; (first | exact Rd.blk 0 rfl | exact Rd.blk 1 rfl | exact Rd.blk 2 rfl)) (k := ?_)
    refine yS ?_
    refine yX ?_
    refine yD (r := by exact RS.rdD ha qO) (k := ?_)
    refine zR 1 rfl ?_
    refine yD (r := by apply Rd.add; (first | exact Rd.blk 0 rfl | exact Rd.blk 1 rfl | exact Rd.blk 2 rfl)) (k := ?_)
    refine yA ?_
    refine zR 1 rfl ?_
    refine yD (r := by apply Rd.add; (first | exact Rd.blk 0 rfl | exact Rd.blk 1 rfl | exact Rd.blk 2 rfl)) (k := ?_)
    refine zR 1 rfl ?_
    refine yS ?_
    refine yX ?_
    refine yD (r := by exact RS.rdD ha qO) (k := ?_)
    refine zR 2 rfl (zN (zU (zT ?_)))
    refine sE (E := E) ?_
    refine zr1 ?_
    refine ⟨congrArg Value.bool ?_, rfl⟩
    rw [Bool.eq_iff_iff, validB_iff]
    dsimp only
    rw [hif, e2, e3]
    simp only [decide_eq_true_eq]
    exact ⟨fun h => ⟨hall, fun j hj => hst.2 j hj, h⟩, fun h => h.2.2⟩

theorem ValidG_V {R : Ro} {fa : Option Addr} {fc : Nat} {c : Cv} (hv : validB c = true) (ha : RS R 1 encI fa c.vals) : FnV Tryz.prog 54 [.agg #[.slice fa c.vals.length fc, .int .i64 c.per, .int .i64 c.inc]] R (.bool true) := by
 obtain ⟨h1, h2, h3, h4, h5, h6, h7, h8⟩ := valid_range hv
 have h := Valid_V (c := fc) (per := c.per) (inc := c.inc) ha (by constructor <;> omega) (by constructor <;> omega) h1
 rw [show validB ⟨c.vals, c.per, c.inc⟩ = true from hv] at h
 exact h
theorem FiniteG_V {R : Ro} {fa : Option Addr} {fc : Nat} {c : Cv} (hv : validB c = true) (ha : RS R 1 encI fa c.vals) : FnV Tryz.prog 78 [.agg #[.slice fa c.vals.length fc, .int .i64 c.per, .int .i64 c.inc]] R (.bool (finB c)) := by
 refine Fn.toV (fun w0 E => ?_)
 obtain ⟨h1, h2, h3, h4, h5, h6, h7, h8⟩ := valid_range hv
 have hl : ((c.vals.length : Int) - 1).toNat = c.vals.length - 1 := by omega
 refine fE 16 Tryz.func78 ?_
 refine zQ (zG ?_)
 refine zO fun b1 => ?_
 refine zR 1 rfl (zN (zU (zQ (zG ?_))))
 refine yD (r := by (first | exact Rd.blk 0 rfl | exact Rd.blk 1 rfl)) (k := ?_)
 refine WG.callV (v := .bool true) en54 rfl rfl qD (CallOp.mk' rfl rfl rfl rfl) (fun _ => rfl) (fun hg => ValidG_V hv ha) ?_
 refine zR 1 rfl ?_
 refine WL.guardT rfl (by rfl) ?_
 refine yP ?_
 refine WL.guardT rfl (by rfl) ?_
 refine yD (r := by apply Rd.add; (first | exact Rd.blk 0 rfl | exact Rd.blk 1 rfl)) (k := ?_)
 refine WL.guardT rfl (by rfl) ?_
 refine yP ?_
 refine WL.guardT rfl (by rfl) ?_
 refine yD (r := by apply Rd.add; (first | exact Rd.blk 0 rfl | exact Rd.blk 1 rfl)) (k := ?_)
 refine WL.guardT rfl (by rfl) ?_
 refine yP ?_
 refine WL.guardT rfl (by rfl) ?_
 refine yS ?_
 refine WL.guardT rfl (by rfl) ?_
 refine yX ?_
 refine WL.guardT rfl (by rfl) ?_
 refine yD (r := by (first | (apply RS.rdD; assumption; ((try dsimp only) <;> omega)) | exact Rd.slD 0 rfl qX | exact Rd.slD 1 rfl qX)) (k := ?_)
 refine WL.guardT rfl (by rfl) ?_
 refine yP ?_
 refine yN ?_
 refine zR 1 rfl (zN (zU (zT ?_)))
 refine sE (E := E) ?_
 refine zr1 ?_
 exact ⟨by rw [hl]; rfl, rfl⟩
set_option maxHeartbeats 2000000 in
theorem RFlow23_V {R : Ro} {na la fa : Option Addr} {nc lc fc : Nat} {names : List (List UInt8)} {ms : List LnM} {fs : List FlM} {i : Nat} (hif : i < fs.length) (hla : K.RS R 5 encLn la ms) (hfa : K.RS R 8 encFl fa fs) (hof : ∀ m ∈ fs, OkFl R m) : FnV Tryz.prog 53 [.agg #[.slice na names.length nc, .slice la ms.length lc, .slice fa fs.length fc], .int .i64 (i : Int)] R (.int .i64 (flE ((fs.map FlM.nm).take i) (ms.map (·.L)) (nth fs i).f)) := by
 refine FnV.ofOwn (fun w0 hb0 => ?_)
 have hll := hla.len
 have hfl := hfa.len
 have hml : (ms.map (·.L)).length = ms.length := List.length_map ..
 have hnml : (fs.map FlM.nm).length = fs.length := List.length_map ..
 have hox := hof _ (nth_mem hif)
 have hxr : K.RS R 1 encI (nth fs i).a1 (nth fs i).f.route := hox.route
 have hxv : K.RS R 1 encI (nth fs i).a2 (nth fs i).f.cv.vals := hox.vals
 have hrl := hxr.len
 have hvl := hxv.len
 have hnmj : ∀ j, j < fs.length → nth (fs.map FlM.nm) j = (nth fs j).f.name := fun j hj => by rw [nth_eq (by omega), List.getElem_map, nth_eq hj]; rfl
 refine fE 121 Tryz.func53 ?_
 refine zQ (zG ?_)
 refine zO fun b2 => ?_
 refine zR 1 rfl (zN (zU (zQ (zG (zR 1 rfl ?_)))))
 refine yD (r := by apply Rd.add; (first | exact Rd.blk 0 rfl | exact Rd.blk 1 rfl | exact Rd.blk 2 rfl | exact Rd.blk 3 rfl)) (k := ?_)
 refine zR 1 rfl ?_
 refine yI ?_
 refine yD (r := by exact RS.rdD hfa hif) (k := ?_)
 refine zA fun b5 => ?_
 first | refine WL.efN rfl rfl (Ef.store0 0 tab_ok rfl rfl rfl rfl rfl rfl rfl rfl ?_) | refine WL.efN rfl rfl (Ef.store0 1 tab_ok rfl rfl rfl rfl rfl rfl rfl rfl ?_) | refine WL.efN rfl rfl (Ef.store0 2 tab_ok rfl rfl rfl rfl rfl rfl rfl rfl ?_) | refine WL.efN rfl rfl (Ef.store0 3 tab_ok rfl rfl rfl rfl rfl rfl rfl rfl ?_)
 refine zN (zU (zQ (zQ (zG (zR 1 rfl ?_)))))
 refine yD (r := by apply Rd.add; (first | exact Rd.blk 0 rfl | exact Rd.blk 1 rfl | exact Rd.blk 2 rfl | exact Rd.blk 3 rfl)) (k := ?_)
 refine WG.callV en51 rfl rfl qD (CallOp.mk' rfl rfl rfl rfl) (fun _ => rfl) (fun hg => Word23_V (s := (nth fs i).f.name) hox.name) ?_
 refine zR 1 rfl (zN (zU ?_))
 refine cC rfl ?_ ?_ <;> intro hc0
 ·try simp only [zk] at hc0
  have hw : wordB (nth fs i).f.name = false := by simpa using hc0
  have hE : flE ((fs.map FlM.nm).take i) (ms.map (·.L)) (nth fs i).f = 4 := by unfold flE; rw [show frE ((fs.map FlM.nm).take i) (nth fs i).f.name = 4 from if_pos hw]; rfl
  refine zQ (zG (zR 1 rfl (zN (zU (zT (wt ?_))))))
  refine WE.subE (E' := []) qS ?_
  refine zr1 ?_
  show Value.int .i64 _ = _
  rw [hE]
 ·try simp only [zk] at hc0
  have hw : wordB (nth fs i).f.name = true := by simpa using hc0
  refine zK (zU (zQ (zQ (zG (zR 1 rfl (zN (zU (zB ?_))))))))
  refine W.loopK (β := Nat) (fun j => j ≤ i ∧ ∀ q, q < j → nth (fs.map FlM.nm) q ≠ (nth fs i).f.name) (fun j => [(6, true, .int .i64 (j : Int))]) [1, 2, 5] [_, _, _] [] _ rfl (fun j => []) (fun j => i - j) (0) (⟨Nat.zero_le _, fun q hq => by omega⟩) ⟨rfl, rfl, rfl, rfl, rfl⟩ qS ?_
  intro j hst
  dsimp only [zipE, setAll, List.cons_append, List.nil_append, List.set_cons_zero, List.set_cons_succ] at hst ⊢
  refine zQ (zQ (zG (zR 3 rfl (zN (zU ?_)))))
  refine cD rfl ?_ ?_ <;> intro hc1
  ·try dsimp only at hc1
   have hji : j < i := by omega
   have hjf : j < fs.length := by omega
   refine zK (zU (zQ (zB (zQ ?_))))
   refine W.regionQ _ mixed qK ?_
   refine zR 1 rfl ?_
   refine yD (r := by apply Rd.add; (first | exact Rd.blk 0 rfl | exact Rd.blk 1 rfl | exact Rd.blk 2 rfl | exact Rd.blk 3 rfl)) (k := ?_)
   refine zR 1 rfl ?_
   refine yI ?_
   refine zR 1 rfl ?_
   refine yD (r := by exact RS.rdD hfa hjf) (k := ?_)
   refine zR 1 rfl ?_
   refine yD (r := by apply Rd.add; (first | exact Rd.blk 0 rfl | exact Rd.blk 1 rfl | exact Rd.blk 2 rfl | exact Rd.blk 3 rfl)) (k := ?_)
   refine WG.y rfl rfl qD (Yl.eqS rfl rfl rfl (fun _ => rfl)) ?_
   refine zN (zU ?_)
   refine cC rfl ?_ ?_ <;> intro hc2
   ·try simp only [zk] at hc2
    have hnm : nth (fs.map FlM.nm) j = (nth fs i).f.name := by rw [hnmj j hjf]; exact str_inj (by first | exact hc2 | exact Classical.not_not.1 hc2)
    have hin : (nth fs i).f.name ∈ ((fs.map FlM.nm).take i) := by
     rw [← hnm, nth_eq (by omega)]
     exact List.mem_take_iff_getElem.2 ⟨j, by omega, rfl⟩
    have hE : flE ((fs.map FlM.nm).take i) (ms.map (·.L)) (nth fs i).f = 60 := by unfold flE; rw [show frE ((fs.map FlM.nm).take i) (nth fs i).f.name = 60 from by unfold frE; rw [if_neg (by rw [hw]; decide), if_pos hin]]; rfl
    refine zQ (zG (zR 1 rfl (zN (zU (zT (wb (wt (wt (wb (wt ?_))))))))))
    refine WE.subE (E' := []) qS ?_
    refine zr1 ?_
    show Value.int .i64 _ = _
    rw [hE]
   ·try simp only [zk] at hc2
    have hne : nth (fs.map FlM.nm) j ≠ (nth fs i).f.name := fun e => by rw [hnmj j hjf] at e; exact hc2 (by rw [e])
    refine zK (zL (zU (zG (zR 1 rfl ?_))))
    refine yA ?_
    refine zR 1 rfl (zN ?_)
    refine WE.again (j + 1) (⟨by omega, fun q hq => by
     by_cases e : q = j
     ·subst e; exact hne
     ·exact hst.2 q (by omega)⟩) (by (try dsimp only); omega) ⟨rfl, rfl, rfl, rfl, rfl⟩ (RLe.refl _) qS
  ·try dsimp only at hc1
   obtain rfl : i = j := by omega
   have hnin : (nth fs i).f.name ∉ ((fs.map FlM.nm).take i) := fun hm => by
    obtain ⟨q, hq, e⟩ := List.getElem_of_mem hm
    rw [List.length_take] at hq
    refine hst.2 q qO ?_
    rw [nth_eq (by omega)]; rw [List.getElem_take] at e; exact e
   have hf0 : frE ((fs.map FlM.nm).take i) (nth fs i).f.name = 0 := by unfold frE; rw [if_neg (by rw [hw]; decide), if_neg hnin]
   have hE : flE ((fs.map FlM.nm).take i) (ms.map (·.L)) (nth fs i).f = if routeE (ms.map (·.L)) (nth fs i).f ≠ 0 then routeE (ms.map (·.L)) (nth fs i).f else trafE (nth fs i).f := if_neg (fun h => h hf0)
   refine zX ?_
   refine wx (wx (zY (zU (zQ (zQ (zG (zR 1 rfl ?_)))))))
   refine yD (r := by apply Rd.add; (first | exact Rd.blk 0 rfl | exact Rd.blk 1 rfl | exact Rd.blk 2 rfl | exact Rd.blk 3 rfl)) (k := ?_)
   refine zR 2 rfl (zN (zU ?_))
   refine cE rfl ?_ ?_ <;> intro hc3
   ·try dsimp only at hc3
    have hr : routeE (ms.map (·.L)) (nth fs i).f = 5 := if_pos (by omega)
    have hE := hE.trans (by rw [hr]; rfl : _ = (5 : Int))
    refine zQ (zG (zR 1 rfl (zN (zU (zT (wt ?_))))))
    refine WE.subE (E' := []) qS ?_
    refine zr1 ?_
    show Value.int .i64 _ = _
    rw [hE]
   ·try dsimp only at hc3
    refine zK (zU (zQ (zQ (zG (zR 1 rfl ?_)))))
    refine yD (r := by apply Rd.add; (first | exact Rd.blk 0 rfl | exact Rd.blk 1 rfl | exact Rd.blk 2 rfl | exact Rd.blk 3 rfl)) (k := ?_)
    refine zR 2 rfl (zN (zU ?_))
    refine cD rfl ?_ ?_ <;> intro hc4
    ·try dsimp only at hc4
     have hr : routeE (ms.map (·.L)) (nth fs i).f = 3 := by unfold routeE; rw [if_neg (by omega), if_pos (by omega)]
     have hE := hE.trans (by rw [hr]; rfl : _ = (3 : Int))
     refine zQ (zG (zR 1 rfl (zN (zU (zT (wt ?_))))))
     refine WE.subE (E' := []) qS ?_
     refine zr1 ?_
     show Value.int .i64 _ = _
     rw [hE]
    ·try dsimp only at hc4
     have hr : routeE (ms.map (·.L)) (nth fs i).f = routeGo (ms.map (·.L)) (nth fs i).f.cls [] (nth fs i).f.route := by unfold routeE; rw [if_neg (by omega), if_neg (by omega)]
     refine zK (zU (zQ (zQ (zG (zR 1 rfl (zN (zU (zB ?_))))))))
     refine W.loopK (β := Nat) (fun k => k ≤ (nth fs i).f.route.length ∧ routeGo (ms.map (·.L)) (nth fs i).f.cls ((nth fs i).f.route.take k) ((nth fs i).f.route.drop k) = routeGo (ms.map (·.L)) (nth fs i).f.cls [] (nth fs i).f.route) (fun k => [(7, true, .int .i64 (k : Int))]) [2, 5] [_, _] [] _ rfl (fun k => []) (fun k => (nth fs i).f.route.length - k) (0) (⟨Nat.zero_le _, rfl⟩) ⟨rfl, rfl, rfl, rfl⟩ qS ?_
     intro k hst
     dsimp only [zipE, setAll, List.cons_append, List.nil_append, List.set_cons_zero, List.set_cons_succ] at hst ⊢
     obtain ⟨hk, hch⟩ := hst
     refine zQ (zQ (zG (zR 2 rfl ?_)))
     refine yD (r := by apply Rd.add; (first | exact Rd.blk 0 rfl | exact Rd.blk 1 rfl | exact Rd.blk 2 rfl | exact Rd.blk 3 rfl)) (k := ?_)
     refine zR 2 rfl (zN (zU ?_))
     refine cD rfl ?_ ?_ <;> intro hc5
     ·try dsimp only at hc5
      have hkl : k < (nth fs i).f.route.length := by omega
      rw [show (nth fs i).f.route.drop k = nth (nth fs i).f.route k :: (nth fs i).f.route.drop (k + 1) by rw [nth_eq hkl]; exact List.drop_eq_getElem_cons hkl, routeGo, hml] at hch
      refine zK (zU (zQ (zB (zQ (zG (zR 1 rfl ?_))))))
      refine yD (r := by apply Rd.add; (first | exact Rd.blk 0 rfl | exact Rd.blk 1 rfl | exact Rd.blk 2 rfl | exact Rd.blk 3 rfl)) (k := ?_)
      refine zR 1 rfl ?_
      refine yI ?_
      refine yD (r := by exact RS.rdD hxr hkl) (k := ?_)
      refine zR 1 rfl (zN (zU (zQ (zQ (zG (zR 3 rfl ?_))))))
      refine yP ?_
      refine yP ?_
      refine yJ (r := by apply Rd.addC; (first | exact Rd.blkC 0 rfl | exact Rd.blkC 1 rfl | exact Rd.blkC 2 rfl | exact Rd.blkC 3 rfl)) (k := ?_)
      refine yP ?_
      refine yP ?_
      refine yO ?_
      refine zN (zU ?_)
      refine cC rfl ?_ ?_ <;> intro hc6
      ·try simp only [zk] at hc6
       rw [if_pos (by omega)] at hch
       have hE := hE.trans (by rw [hr, ← hch]; rfl : _ = (2 : Int))
       refine zQ (zG (zR 1 rfl (zN (zU (zT (wt (wb (wt (wt (wb (wt ?_)))))))))))
       refine WE.subE (E' := []) qS ?_
       refine zr1 ?_
       show Value.int .i64 _ = _
       rw [hE]
      ·try simp only [zk] at hc6
       have hlr : 0 ≤ nth (nth fs i).f.route k ∧ nth (nth fs i).f.route k < ms.length := by omega
       rw [if_neg (by omega)] at hch
       refine zK (zU (zQ (zQ (zG (zR 1 rfl (zN (zU (zB ?_))))))))
       refine W.loopK (β := Nat) (fun j => j ≤ k ∧ ∀ q, q < j → nth (nth fs i).f.route q ≠ nth (nth fs i).f.route k) (fun j => [(9, true, .int .i64 (j : Int))]) [2, 5, 7, 8] [_, _, _, _] [] _ rfl (fun j => []) (fun j => k - j) (0) (⟨Nat.zero_le _, fun q hq => by omega⟩) ⟨rfl, rfl, rfl, rfl, rfl, rfl⟩ qS ?_
       intro j hst
       dsimp only [zipE, setAll, List.cons_append, List.nil_append, List.set_cons_zero, List.set_cons_succ] at hst ⊢
       refine zQ (zQ (zG (zR 3 rfl (zN (zU ?_)))))
       refine cD rfl ?_ ?_ <;> intro hc7
       ·try dsimp only at hc7
        have hjk : j < k := by omega
        have hjr : j < (nth fs i).f.route.length := by omega
        refine zK (zU (zQ (zB (zQ (zG (zR 1 rfl ?_))))))
        refine yD (r := by apply Rd.add; (first | exact Rd.blk 0 rfl | exact Rd.blk 1 rfl | exact Rd.blk 2 rfl | exact Rd.blk 3 rfl)) (k := ?_)
        refine zR 1 rfl ?_
        refine yI ?_
        refine yD (r := by exact RS.rdD hxr hjr) (k := ?_)
        refine zR 2 rfl (zN (zU ?_))
        refine cE rfl ?_ ?_ <;> intro hc8
        ·try dsimp only at hc8
         have hin2 : nth (nth fs i).f.route k ∈ (nth fs i).f.route.take k := by
          have e : nth (nth fs i).f.route j = nth (nth fs i).f.route k := by omega
          rw [← e, nth_eq hjr]
          exact List.mem_take_iff_getElem.2 ⟨j, by omega, rfl⟩
         rw [if_pos hin2] at hch
         have hE := hE.trans (by rw [hr, ← hch]; rfl : _ = (60 : Int))
         refine zQ (zG (zR 1 rfl (zN (zU (zT (wb (wt (wt (wb (wt (wb (wt (wt (wb (wt ?_)))))))))))))))
         refine WE.subE (E' := []) qS ?_
         refine zr1 ?_
         show Value.int .i64 _ = _
         rw [hE]
        ·try dsimp only at hc8
         have hne2 : nth (nth fs i).f.route j ≠ nth (nth fs i).f.route k := by omega
         refine zK (zL (zU (zG (zR 1 rfl ?_))))
         refine yA ?_
         refine zR 1 rfl (zN ?_)
         refine WE.again (j + 1) (⟨by omega, fun q hq => by
          by_cases e : q = j
          ·subst e; exact hne2
          ·exact hst.2 q (by omega)⟩) (by (try dsimp only); omega) ⟨rfl, rfl, rfl, rfl, rfl, rfl⟩ (RLe.refl _) qS
       ·try dsimp only at hc7
        obtain rfl : k = j := by omega
        have hnin2 : nth (nth fs i).f.route k ∉ (nth fs i).f.route.take k := fun hm => by
         obtain ⟨q, hq, e⟩ := List.getElem_of_mem hm
         rw [List.length_take] at hq
         refine hst.2 q qO ?_
         rw [nth_eq (by omega)]; rw [List.getElem_take] at e; exact e
        rw [if_neg hnin2] at hch
        obtain ⟨g, hg⟩ := Int.eq_ofNat_of_zero_le hlr.1
        have hgm : g < ms.length := by omega
        have hgn : nth (ms.map (·.L)) (nth (nth fs i).f.route k).toNat = (nth ms g).L := by
         rw [hg, show ((g : Int)).toNat = g from rfl, nth_eq (by rw [hml]; exact hgm), List.getElem_map, nth_eq hgm]
        rw [hgn] at hch
        rw [hg]
        refine zX ?_
        refine wx (wx (zY (zU (zQ ?_))))
        refine W.regionQ _ mixed qK ?_
        refine zR 1 rfl ?_
        refine yD (r := by apply Rd.add; (first | exact Rd.blk 0 rfl | exact Rd.blk 1 rfl | exact Rd.blk 2 rfl | exact Rd.blk 3 rfl)) (k := ?_)
        refine zR 2 rfl ?_
        refine yP ?_
        refine yJ (r := by apply Rd.addC; (first | exact Rd.blkC 0 rfl | exact Rd.blkC 1 rfl | exact Rd.blkC 2 rfl | exact Rd.blkC 3 rfl)) (k := ?_)
        refine yP ?_
        refine yJ (r := by apply Rd.addC; (first | exact Rd.blkC 0 rfl | exact Rd.blkC 1 rfl | exact Rd.blkC 2 rfl | exact Rd.blkC 3 rfl)) (k := ?_)
        refine yP ?_
        refine gI ?_
        refine yP ?_
        refine yJ (r := by apply Rd.addC; (first | (apply RS.rdC; assumption) | exact Rd.slC 0 rfl | exact Rd.slC 1 rfl | exact Rd.slC 2 rfl | exact Rd.slC 3 rfl)) (k := ?_)
        refine yP ?_
        refine yO ?_
        refine zN (zU ?_)
        refine cC rfl ?_ ?_ <;> intro hc9
        ·try simp only [zk] at hc9
         rw [if_pos (by omega)] at hch
         have hE := hE.trans (by rw [hr, ← hch]; rfl : _ = (2 : Int))
         refine zQ (zG (zR 1 rfl (zN (zU (zT (wb (wt (wt (wb (wt ?_))))))))))
         refine WE.subE (E' := []) qS ?_
         refine zr1 ?_
         show Value.int .i64 _ = _
         rw [hE]
        ·try simp only [zk] at hc9
         rw [if_neg (by omega), ← take_nth hkl] at hch
         refine zK (zL (zU (zG (zR 1 rfl ?_))))
         refine yA ?_
         refine zR 1 rfl (zN ?_)
         refine WE.again (k + 1) (⟨by omega, hch⟩) (by (try dsimp only); omega) ⟨rfl, rfl, rfl, rfl⟩ (RLe.refl _) qS
     ·try dsimp only at hc5
      obtain rfl : k = (nth fs i).f.route.length := by omega
      rw [List.drop_length] at hch
      have hr0 : routeE (ms.map (·.L)) (nth fs i).f = 0 := by rw [hr, ← hch]; rfl
      rw [if_neg (fun h => h hr0)] at hE
      refine zX ?_
      refine wx (wx (zY (zU (zQ (zQ (zG (zR 2 rfl ?_)))))))
      refine yD (r := by apply Rd.add; apply Rd.add; (first | exact Rd.blk 0 rfl | exact Rd.blk 1 rfl | exact Rd.blk 2 rfl | exact Rd.blk 3 rfl)) (k := ?_)
      refine zR 2 rfl ?_
      refine yP ?_
      refine yP ?_
      refine yJ (r := by apply Rd.addC; apply Rd.addC; (first | exact Rd.blkC 0 rfl | exact Rd.blkC 1 rfl | exact Rd.blkC 2 rfl | exact Rd.blkC 3 rfl)) (k := ?_)
      refine yP ?_
      refine yP ?_
      refine yJ (r := by apply Rd.addC; apply Rd.addC; (first | exact Rd.blkC 0 rfl | exact Rd.blkC 1 rfl | exact Rd.blkC 2 rfl | exact Rd.blkC 3 rfl)) (k := ?_)
      refine yP ?_
      refine yO ?_
      refine zR 1 rfl ?_
      refine yP ?_
      refine yP ?_
      refine yJ (r := by apply Rd.addC; apply Rd.addC; (first | exact Rd.blkC 0 rfl | exact Rd.blkC 1 rfl | exact Rd.blkC 2 rfl | exact Rd.blkC 3 rfl)) (k := ?_)
      refine yP ?_
      refine yO ?_
      refine zN (zU ?_)
      refine cC rfl ?_ ?_ <;> intro hc10
      ·try simp only [zk] at hc10
       have hE := hE.trans (if_pos (by omega) : trafE (nth fs i).f = 2)
       refine zQ (zG (zR 1 rfl (zN (zU (zT (wt ?_))))))
       refine WE.subE (E' := []) qS ?_
       refine zr1 ?_
       show Value.int .i64 _ = _
       rw [hE]
      ·try simp only [zk] at hc10
       have h0 : ¬ ((nth fs i).f.lo < 1 ∨ (nth fs i).f.hi < (nth fs i).f.lo ∨ 1500 < (nth fs i).f.hi) := by omega
       refine zK (zU (zQ (zQ (zG (zR 1 rfl ?_)))))
       refine yD (r := by apply Rd.add; (first | exact Rd.blk 0 rfl | exact Rd.blk 1 rfl | exact Rd.blk 2 rfl | exact Rd.blk 3 rfl)) (k := ?_)
       refine WG.callV en54 rfl rfl qD (CallOp.mk' rfl rfl rfl rfl) (fun _ => rfl) (fun hg => ValidA_V (per := (nth fs i).f.cv.per) (inc := (nth fs i).f.cv.inc) hxv) ?_
       refine zR 1 rfl (zN (zU ?_))
       refine cC rfl ?_ ?_ <;> intro hc11
       ·try simp only [zk] at hc11
        have hv : validB (nth fs i).f.cv = false := by simpa using hc11
        have hE := hE.trans (by unfold trafE; rw [if_neg h0, if_pos hv] : trafE (nth fs i).f = 1)
        refine zQ (zG (zR 1 rfl (zN (zU (zT (wt ?_))))))
        refine WE.subE (E' := []) qS ?_
        refine zr1 ?_
        show Value.int .i64 _ = _
        rw [hE]
       ·try simp only [zk] at hc11
        have hvv : validB (nth fs i).f.cv = true := by simpa using hc11
        have hv1 := (validB_iff.1 hvv).1.1
        refine zK (zU (zQ (zQ (zG (zR 2 rfl ?_)))))
        refine yD (r := by apply Rd.add; apply Rd.add; (first | exact Rd.blk 0 rfl | exact Rd.blk 1 rfl | exact Rd.blk 2 rfl | exact Rd.blk 3 rfl)) (k := ?_)
        refine yI ?_
        refine yD (r := by exact RS.rdD hxv hv1) (k := ?_)
        refine zR 1 rfl (zN (zU ?_))
        refine cN rfl ?_ ?_ <;> intro hc12
        ·try dsimp only at hc12
         have hE := hE.trans (by unfold trafE; rw [if_neg h0, if_neg (by rw [hvv]; decide), if_pos (by omega)] : trafE (nth fs i).f = 6)
         refine zQ (zG (zR 1 rfl (zN (zU (zT (wt ?_))))))
         refine WE.subE (E' := []) qS ?_
         refine zr1 ?_
         show Value.int .i64 _ = _
         rw [hE]
        ·try dsimp only at hc12
         refine zK (zU (zQ (zQ (zG (zR 1 rfl ?_)))))
         refine yD (r := by apply Rd.add; (first | exact Rd.blk 0 rfl | exact Rd.blk 1 rfl | exact Rd.blk 2 rfl | exact Rd.blk 3 rfl)) (k := ?_)
         refine WG.callV en78 rfl rfl qD (CallOp.mk' rfl rfl rfl rfl) (fun _ => rfl) (fun hg => (FiniteG_V hvv hxv)) ?_
         refine zR 1 rfl (zN (zU ?_))
         refine cC rfl ?_ ?_ <;> intro hc13
         ·try simp only [zk] at hc13
          have hfn : finB (nth fs i).f.cv = false := by simpa using hc13
          have hE := hE.trans (by unfold trafE; rw [if_neg h0, if_neg (by rw [hvv]; decide), if_neg (by omega), if_pos hfn] : trafE (nth fs i).f = 2)
          refine zQ (zG (zR 1 rfl (zN (zU (zT (wt ?_))))))
          refine WE.subE (E' := []) qS ?_
          refine zr1 ?_
          show Value.int .i64 _ = _
          rw [hE]
         ·try simp only [zk] at hc13
          have hfn : finB (nth fs i).f.cv = true := by simpa using hc13
          have hE := hE.trans (by unfold trafE; rw [if_neg h0, if_neg (by rw [hvv]; decide), if_neg (by omega), if_neg (by rw [hfn]; decide)] : trafE (nth fs i).f = 0)
          refine zK (zU (zQ (zG (zR 1 rfl (zN (zU (zT ?_)))))))
          refine WE.subE (E' := []) qS ?_
          refine zr1 ?_
          show Value.int .i64 _ = _
          rw [hE]

set_option maxHeartbeats 2000000 in
theorem RCheck23_V {R : Ro} {na la fa : Option Addr} {nc lc fc : Nat} {names : List (List UInt8)} {ms : List LnM} {fs : List FlM} (hna : K.RS R 1 encT na names) (hla : K.RS R 5 encLn la ms) (hfa : K.RS R 8 encFl fa fs) (hok : ∀ m ∈ ms, OkLn R m) (hof : ∀ m ∈ fs, OkFl R m) (hnl : ∀ x ∈ names, x.length ≤ 9223372036854775807) : FnV Tryz.prog 27 [.agg #[.slice na names.length nc, .slice la ms.length lc, .slice fa fs.length fc]] R (.int .i64 (chkNet names (ms.map (·.L)) (fs.map (·.f)))) := by
 refine FnV.ofOwn (fun w0 hb0 => ?_)
 have hll := hla.len
 have hfl := hfa.len
 have hnal := hna.len
 have hml : (ms.map (·.L)).length = ms.length := List.length_map ..
 have hfml : (fs.map (·.f)).length = fs.length := List.length_map ..
 refine fE 83 Tryz.func27 ?_
 refine zQ (zG ?_)
 refine zO fun b1 => ?_
 refine zR 1 rfl (zN (zU (zQ (zQ (zG (zR 1 rfl ?_))))))
 refine yD (r := by apply Rd.add; (first | exact Rd.blk 0 rfl | exact Rd.blk 1 rfl | exact Rd.blk 2 rfl)) (k := ?_)
 refine zR 3 rfl ?_
 refine yP ?_
 refine yJ (r := by apply Rd.addC; (first | exact Rd.blkC 0 rfl | exact Rd.blkC 1 rfl | exact Rd.blkC 2 rfl)) (k := ?_)
 refine yP ?_
 refine yP ?_
 refine yO ?_
 refine zR 1 rfl ?_
 refine yP ?_
 refine yJ (r := by apply Rd.addC; (first | exact Rd.blkC 0 rfl | exact Rd.blkC 1 rfl | exact Rd.blkC 2 rfl)) (k := ?_)
 refine yP ?_
 refine yP ?_
 refine yO ?_
 refine zN (zU ?_)
 refine cC rfl ?_ ?_ <;> intro hc0
 ·try simp only [zk] at hc0
  refine zQ (zG (zR 1 rfl (zN (zU (zT (wt ?_))))))
  refine WE.subE (E' := []) qS ?_
  refine zr1 ?_
  show Value.int .i64 _ = Value.int .i64 _
  unfold chkNet; rw [hml, hfml, if_pos (by omega)]
 ·try simp only [zk] at hc0
  refine zK (zU (zQ (zQ (zG (zR 1 rfl ?_)))))
  refine yD (r := by apply Rd.add; (first | exact Rd.blk 0 rfl | exact Rd.blk 1 rfl | exact Rd.blk 2 rfl)) (k := ?_)
  refine zR 2 rfl ?_
  refine yD (r := by apply Rd.add; (first | exact Rd.blk 0 rfl | exact Rd.blk 1 rfl | exact Rd.blk 2 rfl)) (k := ?_)
  refine zR 2 rfl (zN (zU ?_))
  refine cN rfl ?_ ?_ <;> intro hc1
  ·try dsimp only at hc1
   refine zQ (zG (zR 1 rfl (zN (zU (zT (wt ?_))))))
   refine WE.subE (E' := []) qS ?_
   refine zr1 ?_
   show Value.int .i64 _ = Value.int .i64 _
   unfold chkNet; rw [hml, hfml, if_neg (by omega), if_pos (by omega)]
  ·try dsimp only at hc1
   have hcn : chkNet names (ms.map (·.L)) (fs.map (·.f)) = if chkLs [] (names.zip (ms.map (·.L))) ≠ 0 then chkLs [] (names.zip (ms.map (·.L))) else chkFs (ms.map (·.L)) [] (fs.map (·.f)) := by unfold chkNet; rw [hml, hfml, if_neg (by omega), if_neg (by omega)]
   refine zK (zU (zQ (zQ (zG (zR 1 rfl (zN (zU (zB ?_))))))))
   refine W.loopK (β := Nat) (fun i => i ≤ ms.length ∧ chkLs (names.take i) ((names.zip (ms.map (·.L))).drop i) = chkLs [] (names.zip (ms.map (·.L)))) (fun i => [(3, true, .int .i64 (i : Int))]) [1] [_] [] _ rfl (fun i => []) (fun i => ms.length - i) (0) (⟨Nat.zero_le _, rfl⟩) ⟨rfl, rfl, rfl⟩ qS ?_
   intro i hst
   dsimp only [zipE, setAll, List.cons_append, List.nil_append, List.set_cons_zero, List.set_cons_succ] at hst ⊢
   obtain ⟨hi, hch⟩ := hst
   refine zQ (zQ (zG (zR 2 rfl ?_)))
   refine yD (r := by apply Rd.add; (first | exact Rd.blk 0 rfl | exact Rd.blk 1 rfl | exact Rd.blk 2 rfl)) (k := ?_)
   refine zR 2 rfl (zN (zU ?_))
   refine cD rfl ?_ ?_ <;> intro hc2
   ·try dsimp only at hc2
    have him : i < ms.length := by omega
    have hin : i < names.length := by omega
    have hnL : ∃ q : Ln, q = (nth ms i).L ∧ (ms.map (·.L)).length = ms.length ∧ (names.zip (ms.map (·.L))).drop i = (nth names i, q) :: (names.zip (ms.map (·.L))).drop (i + 1) := by
     have hl : i < (names.zip (ms.map (·.L))).length := by rw [List.length_zip, hml]; omega
     refine ⟨_, rfl, hml, ?_⟩
     rw [List.drop_eq_getElem_cons hl, List.getElem_zip, nth_eq hin, nth_eq him, List.getElem_map]
    obtain ⟨q, hq, _, hdr⟩ := hnL
    rw [hdr, chkLs] at hch
    dsimp only at hch
    subst hq
    refine zK (zU (zQ (zB (zQ (zQ (zG (zR 1 rfl ?_)))))))
    refine yD (r := by apply Rd.add; (first | exact Rd.blk 0 rfl | exact Rd.blk 1 rfl | exact Rd.blk 2 rfl)) (k := ?_)
    refine zR 1 rfl ?_
    refine yI ?_
    refine yD (r := by exact RS.rdD hna hin) (k := ?_)
    refine WG.callV en51 rfl rfl qD (CallOp.mk' rfl rfl rfl rfl) (fun _ => rfl) (fun hg => Word23_V (s := nth names i) (hnl _ (nth_mem hin))) ?_
    refine zR 1 rfl (zN (zU ?_))
    refine cC rfl ?_ ?_ <;> intro hc3
    ·try simp only [zk] at hc3
     have hw : wordB (nth names i) = false := by simpa using hc3
     have hfv : frE (names.take i) (nth names i) = 4 := if_pos hw
     have hf1 : frE (names.take i) (nth names i) ≠ 0 := by rw [hfv]; decide
     rw [if_pos hf1, hfv] at hch
     have hq := hcn.trans (if_pos (by rw [← hch]; decide))
     refine zQ (zG (zR 1 rfl (zN (zU (zT (wt (wb (wt (wt (wb (wt ?_)))))))))))
     refine WE.subE (E' := []) qS ?_
     refine zr1 ?_
     show Value.int .i64 _ = Value.int .i64 _
     rw [hq, ← hch]
    ·try simp only [zk] at hc3
     have hw : wordB (nth names i) = true := by simpa using hc3
     refine zK (zU (zQ (zQ (zG (zR 1 rfl (zN (zU (zB ?_))))))))
     refine W.loopK (β := Nat) (fun j => j ≤ i ∧ ∀ q, q < j → nth names q ≠ nth names i) (fun j => [(4, true, .int .i64 (j : Int))]) [1, 3] [_, _] [] _ rfl (fun j => []) (fun j => i - j) (0) (⟨Nat.zero_le _, fun q hq => by omega⟩) ⟨rfl, rfl, rfl, rfl⟩ qS ?_
     intro j hst
     dsimp only [zipE, setAll, List.cons_append, List.nil_append, List.set_cons_zero, List.set_cons_succ] at hst ⊢
     refine zQ (zQ (zG (zR 3 rfl (zN (zU ?_)))))
     refine cD rfl ?_ ?_ <;> intro hc4
     ·try dsimp only at hc4
      have hji : j < i := by omega
      have hjn : j < names.length := by omega
      refine zK (zU (zQ (zB (zQ ?_))))
      refine W.regionQ _ mixed qK ?_
      refine zR 1 rfl ?_
      refine yD (r := by apply Rd.add; (first | exact Rd.blk 0 rfl | exact Rd.blk 1 rfl | exact Rd.blk 2 rfl)) (k := ?_)
      refine zR 1 rfl ?_
      refine yI ?_
      refine yD (r := by exact RS.rdD hna hjn) (k := ?_)
      refine zR 1 rfl ?_
      refine yD (r := by apply Rd.add; (first | exact Rd.blk 0 rfl | exact Rd.blk 1 rfl | exact Rd.blk 2 rfl)) (k := ?_)
      refine zR 1 rfl ?_
      refine yI ?_
      refine yD (r := by exact RS.rdD hna hin) (k := ?_)
      refine WG.y rfl rfl qD (Yl.eqS rfl rfl rfl (fun _ => rfl)) ?_
      refine zN (zU ?_)
      refine cC rfl ?_ ?_ <;> intro hc5
      ·try simp only [zk] at hc5
       have hnm : nth names j = nth names i := str_inj (by first | exact hc5 | exact Classical.not_not.1 hc5)
       have hin2 : nth names i ∈ names.take i := by
        rw [← hnm, nth_eq hjn]
        exact List.mem_take_iff_getElem.2 ⟨j, by omega, rfl⟩
       have hfv : frE (names.take i) (nth names i) = 60 := by unfold frE; rw [if_neg (by rw [hw]; decide), if_pos hin2]
       have hf1 : frE (names.take i) (nth names i) ≠ 0 := by rw [hfv]; decide
       rw [if_pos hf1, hfv] at hch
       have hq := hcn.trans (if_pos (by rw [← hch]; decide))
       refine zQ (zG (zR 1 rfl (zN (zU (zT (wb (wt (wt (wb (wt (wb (wt (wt (wb (wt ?_)))))))))))))))
       refine WE.subE (E' := []) qS ?_
       refine zr1 ?_
       show Value.int .i64 _ = Value.int .i64 _
       rw [hq, ← hch]
      ·try simp only [zk] at hc5
       have hne : nth names j ≠ nth names i := fun e => hc5 (by rw [e])
       refine zK (zL (zU (zG (zR 1 rfl ?_))))
       refine yA ?_
       refine zR 1 rfl (zN ?_)
       refine WE.again (j + 1) (⟨by omega, fun q hq => by
        by_cases e : q = j
        ·subst e; exact hne
        ·exact hst.2 q (by omega)⟩) (by (try dsimp only); omega) ⟨rfl, rfl, rfl, rfl⟩ (RLe.refl _) qS
     ·try dsimp only at hc4
      obtain rfl : i = j := by omega
      have hnin : nth names i ∉ names.take i := fun hm => by
       obtain ⟨q, hq, e⟩ := List.getElem_of_mem hm
       rw [List.length_take] at hq
       refine hst.2 q qO ?_
       rw [nth_eq (by omega)]; rw [List.getElem_take] at e; exact e
      have hf0 : frE (names.take i) (nth names i) = 0 := by unfold frE; rw [if_neg (by rw [hw]; decide), if_neg hnin]
      rw [if_neg (fun h => h hf0)] at hch
      refine zX ?_
      refine wx (wx (zY (zU (zQ (zG (zR 1 rfl ?_))))))
      refine yD (r := by apply Rd.add; (first | exact Rd.blk 0 rfl | exact Rd.blk 1 rfl | exact Rd.blk 2 rfl)) (k := ?_)
      refine zR 1 rfl ?_
      refine yI ?_
      refine yD (r := by exact RS.rdD hla him) (k := ?_)
      refine WG.callV en52 rfl rfl qD (CallOp.mk' rfl rfl rfl rfl) (fun _ => rfl) (fun hg => Chk22_V (L := (nth ms i).L) (hok _ (nth_mem him)).1 rfl (hok _ (nth_mem him)).2 rfl) ?_
      refine zR 1 rfl (zN (zU (zQ (zG (zR 2 rfl (zN (zU ?_)))))))
      refine cN rfl ?_ ?_ <;> intro hc6
      ·try dsimp only at hc6
       rw [if_pos hc6] at hch
       have hq := hcn.trans (if_pos (by rw [← hch]; exact hc6))
       refine zQ (zG (zR 2 rfl (zN (zU (zT (wb (wt (wt (wb (wt ?_))))))))))
       refine WE.subE (E' := []) qS ?_
       refine zr1 ?_
       show Value.int .i64 _ = Value.int .i64 _
       rw [hq, ← hch]
      ·try dsimp only at hc6
       have hf1 : chkL (nth ms i).L = 0 := by first | exact hc6 | exact Classical.not_not.1 hc6
       rw [if_neg (fun h => h hf1), ← take_nth hin] at hch
       refine zK (zL (zU (zG (zR 1 rfl ?_))))
       refine yA ?_
       refine zR 1 rfl (zN ?_)
       refine WE.again (i + 1) (⟨by omega, hch⟩) (by (try dsimp only); omega) ⟨rfl, rfl, rfl⟩ (RLe.refl _) qS
   ·try dsimp only at hc2
    obtain rfl : i = ms.length := by omega
    rw [List.drop_of_length_le (by rw [List.length_zip, hml]; omega)] at hch
    have hcl : chkLs [] (names.zip (ms.map (·.L))) = 0 := hch.symm
    rw [if_neg (fun h => h hcl)] at hcn
    refine zX ?_
    refine wx (wx (zY (zU (zQ (zQ (zG (zR 1 rfl (zN (zU (zB ?_))))))))))
    refine W.loopK (β := Nat) (fun i => i ≤ fs.length ∧ chkFs (ms.map (·.L)) ((fs.map FlM.nm).take i) ((fs.map (·.f)).drop i) = chkFs (ms.map (·.L)) [] (fs.map (·.f))) (fun i => [(6, true, .int .i64 (i : Int))]) [1] [_] [] _ rfl (fun i => []) (fun i => fs.length - i) (0) (⟨Nat.zero_le _, rfl⟩) ⟨rfl, rfl, rfl⟩ qS ?_
    intro i hst
    dsimp only [zipE, setAll, List.cons_append, List.nil_append, List.set_cons_zero, List.set_cons_succ] at hst ⊢
    obtain ⟨hi, hch⟩ := hst
    refine zQ (zQ (zG (zR 2 rfl ?_)))
    refine yD (r := by apply Rd.add; (first | exact Rd.blk 0 rfl | exact Rd.blk 1 rfl | exact Rd.blk 2 rfl)) (k := ?_)
    refine zR 2 rfl (zN (zU ?_))
    refine cD rfl ?_ ?_ <;> intro hc7
    ·try dsimp only at hc7
     have hif : i < fs.length := by omega
     have hnmi : nth (fs.map FlM.nm) i = (nth fs i).f.name := by rw [nth_eq (by rw [List.length_map]; exact hif), List.getElem_map, nth_eq hif]; rfl
     have hnml : i < (fs.map FlM.nm).length := by rw [List.length_map]; exact hif
     rw [show (fs.map (·.f)).drop i = (nth fs i).f :: (fs.map (·.f)).drop (i + 1) by
      have hl : i < (fs.map (·.f)).length := by omega
      rw [List.drop_eq_getElem_cons hl, List.getElem_map, nth_eq hif], chkFs] at hch
     refine zK (zU (zQ (zB (zQ (zG ?_)))))
     refine yD (r := by (first | exact Rd.blk 0 rfl | exact Rd.blk 1 rfl | exact Rd.blk 2 rfl)) (k := ?_)
     refine zR 1 rfl ?_
     refine WG.callV en53 rfl rfl qD (CallOp.mk' rfl rfl rfl rfl) (fun _ => rfl) (fun hg => RFlow23_V (na := na) (nc := nc) (lc := lc) (fc := fc) (names := names) hif hla hfa hof) ?_
     refine zR 1 rfl (zN (zU (zQ (zG (zR 2 rfl (zN (zU ?_)))))))
     refine cN rfl ?_ ?_ <;> intro hc8
     ·try dsimp only at hc8
      rw [if_pos hc8] at hch
      refine zQ (zG (zR 2 rfl (zN (zU (zT (wb (wt (wt (wb (wt ?_))))))))))
      refine WE.subE (E' := []) qS ?_
      refine zr1 ?_
      show Value.int .i64 _ = Value.int .i64 _
      rw [hcn, ← hch]
     ·try dsimp only at hc8
      have ht0 : flE ((fs.map FlM.nm).take i) (ms.map (·.L)) (nth fs i).f = 0 := by first | exact hc8 | exact Classical.not_not.1 hc8
      rw [if_neg (fun h => h ht0), ← hnmi, ← take_nth hnml] at hch
      refine zK (zL (zU (zG (zR 1 rfl ?_))))
      refine yA ?_
      refine zR 1 rfl (zN ?_)
      refine WE.again (i + 1) (⟨by omega, hch⟩) (by (try dsimp only); omega) ⟨rfl, rfl, rfl⟩ (RLe.refl _) qS
    ·try dsimp only at hc7
     obtain rfl : i = fs.length := by omega
     rw [List.drop_of_length_le (by omega)] at hch
     refine zX ?_
     refine wx (wx (zY (zU (zQ (zG (zR 1 rfl (zN (zU (zT ?_)))))))))
     refine WE.subE (E' := []) qS ?_
     refine zr1 ?_
     show Value.int .i64 _ = Value.int .i64 _
     rw [hcn, ← hch]; rfl

theorem AtFC_V {R : Ro} {F : Nat → Int} {S P : Nat} {I : Int} {fa : Option Addr} {fc : Nat} (hf : FC F S P I) (hfa : RS R 1 encI fa (fvals F (S + P))) {t : Nat} (ht : t ≤ 2000) : FnV Tryz.prog 105 [.agg #[.slice fa (fvals F (S + P)).length fc, .int .i64 (P : Int), .int .i64 I], .int .i64 (t : Int)] R (.int .i64 (F t)) := by
 have hP := hf.hP
 have hI := hf.hI
 have h := At_V (c := fc) (per := (P : Int)) (inc := I) (t := (t : Int)) hfa (by constructor <;> omega) ⟨by constructor <;> omega, by omega⟩ ⟨by omega, by omega⟩ hf.forAt.1
 rw [hf.atR t] at h
 exact h
theorem ValidFC_V {R : Ro} {F : Nat → Int} {S P : Nat} {I : Int} {fa : Option Addr} {fc : Nat} (hf : FC F S P I) (hfa : RS R 1 encI fa (fvals F (S + P))) : FnV Tryz.prog 54 [.agg #[.slice fa (fvals F (S + P)).length fc, .int .i64 (P : Int), .int .i64 I]] R (.bool true) := by
 have h := ValidA_V (c := fc) (per := (P : Int)) (inc := I) hfa
 rw [hf.valid'] at h
 exact h
theorem KAt_V {R : Ro} {a : Option Addr} {c : Nat} {v : List Int} {per inc : Int} (ha : RS R 1 encI a v) (hper : 1 ≤ per ∧ per ≤ v.length) {t : Nat} (ht : t < v.length) : FnV Tryz.prog 14 [.agg #[.slice a v.length c, .int .i64 per, .int .i64 inc], .int .i64 (t : Int)] R (.int .i64 (nth v t)) := by
 have hla := ha.len
 refine Fn.toVS (fun w0 E => ?_)
 refine fE 66 Tryz.func14 ?_
 refine zQ (zG ?_)
 refine zO fun b2 => ?_
 refine zR 1 rfl (zN (zU (zQ (zG (zR 1 rfl ?_)))))
 refine yD (r := by apply Rd.add; (first | exact Rd.blk 0 rfl | exact Rd.blk 1 rfl | exact Rd.blk 2 rfl)) (k := ?_)
 refine zR 2 rfl (zN (zU (zQ (zQ (zG (zR 3 rfl ?_))))))
 refine yP ?_
 refine yJ (r := by apply Rd.addC; (first | exact Rd.blkC 0 rfl | exact Rd.blkC 1 rfl | exact Rd.blkC 2 rfl)) (k := ?_)
 refine yP ?_
 refine yO ?_
 refine zR 1 rfl ?_
 refine yP ?_
 refine yJ (r := by apply Rd.addC; (first | exact Rd.blkC 0 rfl | exact Rd.blkC 1 rfl | exact Rd.blkC 2 rfl)) (k := ?_)
 refine yP ?_
 refine yP ?_
 refine yO ?_
 refine zR 1 rfl ?_
 refine yP ?_
 refine yP ?_
 refine yO ?_
 refine zN (zU ?_)
 refine cC rfl ?_ ?_ <;> intro hc0
 ·try simp only [zk] at hc0
  exfalso; omega
 ·try simp only [zk] at hc0
  refine zK (zU (zQ (zQ (zG (zR 3 rfl (zN (zU ?_)))))))
  refine cD rfl ?_ ?_ <;> intro hc1
  ·try dsimp only at hc1
   refine zQ (zG (zR 1 rfl ?_))
   refine yD (r := by apply Rd.add; (first | exact Rd.blk 0 rfl | exact Rd.blk 1 rfl | exact Rd.blk 2 rfl)) (k := ?_)
   refine zR 1 rfl ?_
   refine yI ?_
   refine yD (r := by (first | (apply RS.rdD; assumption; ((try dsimp only) <;> omega)) | exact Rd.slD 0 rfl qX | exact Rd.slD 1 rfl qX | exact Rd.slD 2 rfl qX)) (k := ?_)
   refine zR 1 rfl (zN (zU (zT (wt ?_))))
   refine zr1 ?_
   exact ⟨rfl, qS⟩
  ·try dsimp only at hc1
   exfalso; omega
theorem ValueFC_V {R : Ro} {F : Nat → Int} {S P : Nat} {I : Int} {fa : Option Addr} {fc : Nat} (hf : FC F S P I) (hfa : RS R 1 encI fa (fvals F (S + P))) {t : Nat} (ht : t ≤ 2000) : FnV Tryz.prog 79 [.agg #[.slice fa (fvals F (S + P)).length fc, .int .i64 (P : Int), .int .i64 I], .int .i64 (t : Int)] R (.tuple #[.int .i64 (F t), .int .i64 0]) := by
 refine Fn.toVS (fun w0 E => ?_)
 refine fE 18 Tryz.func79 ?_
 refine zQ (zG ?_)
 refine zO fun b2 => ?_
 refine zR 2 rfl (zN (zU (zQ (zQ (zG ?_)))))
 refine yD (r := by (first | exact Rd.blk 0 rfl | exact Rd.blk 1 rfl | exact Rd.blk 2 rfl)) (k := ?_)
 refine WG.callV en54 rfl rfl qD (CallOp.mk' rfl rfl rfl rfl) (fun _ => rfl) (fun hg => ValidFC_V hf hfa) ?_
 refine zR 1 rfl (zN (zU ?_))
 refine cC rfl ?_ ?_ <;> intro hc0
 ·try simp only [zk] at hc0
  first | exact absurd rfl hc0 | exact hc0 trivial | (simp at hc0)
 ·try simp only [zk] at hc0
  refine zK (zU (zQ (zQ (zG (zR 3 rfl ?_)))))
  refine yP ?_
  refine yP ?_
  refine yO ?_
  refine zN (zU ?_)
  refine cC rfl ?_ ?_ <;> intro hc1
  ·try simp only [zk] at hc1
   exfalso; omega
  ·try simp only [zk] at hc1
   refine zK (zU (zQ (zG ?_)))
   refine yD (r := by (first | exact Rd.blk 0 rfl | exact Rd.blk 1 rfl | exact Rd.blk 2 rfl)) (k := ?_)
   refine zR 1 rfl ?_
   refine WG.callV (v := .int .i64 (F t)) en105 rfl rfl qD (CallOp.mk' rfl rfl rfl rfl) (fun _ => rfl) (fun hg => AtFC_V (t := t) hf hfa qO) ?_
   refine zR 2 rfl (zN (zU (zT ?_)))
   refine zr2 ?_
   exact ⟨rfl, qS⟩
theorem Room_E {R : Ro} {qa : Option Addr} {qc j : Nat} {qs : List Int} {size tick : Int} {E : List Ent} (hy : E[j]? = some (.sl 3 1 qa qc (qs.map encI))) (hql : qs.length ≤ 60) (hq : ∀ q ∈ qs, 0 ≤ q ∧ q ≤ tick) (hsz : 0 ≤ size ∧ size ≤ 1500) (htk : 0 ≤ tick ∧ tick ≤ 400) {F : Nat → Int} {S P : Nat} {I : Int} {fa : Option Addr} {fc : Nat} (hf : FC F S P I) (hfa : RS R 1 encI fa (fvals F (S + P))) (w0 : World) : FnE Tryz.prog 55 [.agg #[.slice fa (fvals F (S + P)).length fc, .int .i64 (P : Int), .int .i64 I], .int .i64 size, .slice qa qs.length qc, .int .i64 tick] w0 R E (.bool (roomB F size qs tick)) := by
 refine Fn.toE ?_
 refine fE 48 Tryz.func55 ?_
 refine zQ (zG ?_)
 refine zO fun b4 => ?_
 refine zR 1 rfl (zN (zU (zQ (zQ (zG (zR 1 rfl (zN (zU (zB ?_)))))))))
 refine W.loopK (β := Nat) (fun k => k ≤ qs.length + 1 ∧ ∀ x, x < k → ((x : Int) + 1) * size ≤ F (tick - frm qs tick x + 1).toNat) (fun k => [(9, true, .int .i64 (k : Int))]) [1, 2, 3, 4] [_, _, _, _] [] _ rfl (fun k => []) (fun k => qs.length + 1 - k) (0) (⟨Nat.zero_le _, fun x h => absurd h (Nat.not_lt_zero x)⟩) ⟨rfl, rfl, rfl, rfl, rfl, rfl⟩ qS ?_
 intro k hst
 dsimp only [zipE, setAll, List.cons_append, List.nil_append, List.set_cons_zero, List.set_cons_succ] at hst ⊢
 obtain ⟨hk, hall⟩ := hst
 refine zQ (zQ (zG (zR 4 rfl (zN (zU ?_)))))
 refine cD rfl ?_ ?_ <;> intro hc0
 ·try dsimp only at hc0
  have hkl : k ≤ qs.length := by omega
  have hks : 0 ≤ ((k : Int) + 1) * size ∧ ((k : Int) + 1) * size ≤ 61 * 1500 := ⟨Int.mul_nonneg (by omega) hsz.1, Int.mul_le_mul (by omega) hsz.2 hsz.1 (by omega)⟩
  refine zK (zU (zQ (zB (zQ (zG (zR 2 rfl (zN (zU (zQ (zQ (zG (zR 2 rfl (zN (zU ?_))))))))))))))
  refine cD rfl ?_ ?_ <;> intro hc1
  ·try dsimp only at hc1
   have hkq := hq _ (nth_mem (xs := qs) (k := qs.length - k) (by omega))
   have hix : ((qs.length : Int) - (k : Int)).toNat = qs.length - k := by omega
   have hfr : frm qs tick k = (nth qs (qs.length - k)) := by unfold frm; rw [if_neg (by omega)]
   refine zG (zR 4 rfl ?_)
   refine yS ?_
   refine WG.y rfl rfl qD (Yl.index tab_ok rfl rfl rfl rfl rfl rfl (fun _ => rfl) qA (by intro _; first | exact HasMem.ownD (j + 1) hy | exact qI)) ?_
   refine yD (r := by (first | exact Rd.slD (j + 1) hy qO | (apply RS.rdD; assumption; ((try dsimp only) <;> omega)) | exact Rd.slD 0 rfl qX | exact Rd.slD 1 rfl qX | exact Rd.slD 2 rfl qX | exact Rd.slD 3 rfl qX | exact Rd.slD 4 rfl qX)) (k := ?_)
   rw [hix]
   refine zR 1 rfl (zN (zU (zQ (zG ?_))))
   refine yD (r := by (first | exact Rd.slD (j + 1) hy qO | exact Rd.blk 0 rfl | exact Rd.blk 1 rfl | exact Rd.blk 2 rfl | exact Rd.blk 3 rfl | exact Rd.blk 4 rfl)) (k := ?_)
   refine zR 2 rfl ?_
   refine yS ?_
   refine yA ?_
   refine WG.callV (v := .tuple #[.int .i64 (F (tick - (nth qs (qs.length - k)) + 1).toNat), .int .i64 0]) en79 rfl rfl qD (CallOp.mk' rfl rfl rfl rfl) (fun _ => rfl) (fun hg => by
    have h := ValueFC_V (fc := fc) (t := (tick - (nth qs (qs.length - k)) + 1).toNat) hf hfa (by omega)
    rw [Int.toNat_of_nonneg (by omega)] at h
    exact h) ?_
   refine zR 5 rfl (zN (zU (zQ (zG (zR 3 rfl ?_)))))
   refine yP ?_
   refine WG.y rfl rfl (by decide) (Yl.add rfl rfl rfl qE (by intro hg; (try simp only [zk] at hg); constructor <;> (try dsimp only) <;> omega)) ?_
   refine yP ?_
   refine WG.y rfl rfl (by decide) (Yl.mul rfl rfl rfl qE (by intro hg; (try simp only [zk] at hg); constructor <;> (try dsimp only) <;> omega)) ?_
   refine yP ?_
   refine yP ?_
   refine yO ?_
   refine zN (zU ?_)
   refine cC rfl ?_ ?_ <;> intro hc2
   ·try simp only [zk] at hc2
    have hno : roomB F size qs tick = false := by
     cases h : roomB F size qs tick with
     | false => rfl
     | true => have := roomB_iff.1 h k hkl; rw [hfr] at this; rcases hc2 with h2 | h2; exact absurd trivial h2; omega
    refine zQ (zG (zR 1 rfl (zN (zU (zT (wb (wt (wt (wb (wt ?_))))))))))
    refine sE (E := E) ?_
    refine zr1 ?_
    exact ⟨by rw [hno]; rfl, rfl⟩
   ·try simp only [zk] at hc2
    refine zK (zL (zU (zG (zR 1 rfl ?_))))
    refine yA ?_
    refine zR 1 rfl (zN ?_)
    refine WE.again (k + 1) (⟨by omega, fun x hx => by
     by_cases e : x = k
     ·subst e; rw [hfr]; omega
     ·exact hall x (by omega)⟩) (by omega) ⟨rfl, rfl, rfl, rfl, rfl, rfl⟩ (RLe.refl _) qS
  ·try dsimp only at hc1
   have hk0 : k = 0 := by omega
   have hfr : frm qs tick k = tick := by unfold frm; rw [if_pos hk0]
   refine zK (zU (zQ (zG ?_)))
   refine yD (r := by (first | exact Rd.slD (j + 1) hy qO | exact Rd.blk 0 rfl | exact Rd.blk 1 rfl | exact Rd.blk 2 rfl | exact Rd.blk 3 rfl | exact Rd.blk 4 rfl)) (k := ?_)
   refine zR 2 rfl ?_
   refine yS ?_
   refine yA ?_
   refine WG.callV (v := .tuple #[.int .i64 (F (tick - tick + 1).toNat), .int .i64 0]) en79 rfl rfl qD (CallOp.mk' rfl rfl rfl rfl) (fun _ => rfl) (fun hg => by
    have h := ValueFC_V (fc := fc) (t := (tick - tick + 1).toNat) hf hfa (by omega)
    rw [Int.toNat_of_nonneg (by omega)] at h
    exact h) ?_
   refine zR 5 rfl (zN (zU (zQ (zG (zR 3 rfl ?_)))))
   refine yP ?_
   refine WG.y rfl rfl (by decide) (Yl.add rfl rfl rfl qE (by intro hg; (try simp only [zk] at hg); constructor <;> (try dsimp only) <;> omega)) ?_
   refine yP ?_
   refine WG.y rfl rfl (by decide) (Yl.mul rfl rfl rfl qE (by intro hg; (try simp only [zk] at hg); constructor <;> (try dsimp only) <;> omega)) ?_
   refine yP ?_
   refine yP ?_
   refine yO ?_
   refine zN (zU ?_)
   refine cC rfl ?_ ?_ <;> intro hc3
   ·try simp only [zk] at hc3
    have hno : roomB F size qs tick = false := by
     cases h : roomB F size qs tick with
     | false => rfl
     | true => have := roomB_iff.1 h k hkl; rw [hfr] at this; rcases hc3 with h2 | h2; exact absurd trivial h2; omega
    refine zQ (zG (zR 1 rfl (zN (zU (zT (wb (wt (wt (wb (wt ?_))))))))))
    refine sE (E := E) ?_
    refine zr1 ?_
    exact ⟨by rw [hno]; rfl, rfl⟩
   ·try simp only [zk] at hc3
    refine zK (zL (zU (zG (zR 1 rfl ?_))))
    refine yA ?_
    refine zR 1 rfl (zN ?_)
    refine WE.again (k + 1) (⟨by omega, fun x hx => by
     by_cases e : x = k
     ·subst e; rw [hfr]; omega
     ·exact hall x (by omega)⟩) (by omega) ⟨rfl, rfl, rfl, rfl, rfl, rfl⟩ (RLe.refl _) qS
 ·try dsimp only at hc0
  have hkl : k = qs.length + 1 := by omega
  refine zX ?_
  refine wx (wx (zY (zU (zQ (zG (zR 1 rfl (zN (zU (zT ?_)))))))))
  refine sE (E := E) ?_
  refine zr1 ?_
  exact ⟨by rw [roomB_iff.2 (fun x h => hall x (by omega))]; rfl, rfl⟩
set_option maxHeartbeats 1000000 in
theorem Greedy_C {R : Ro} {F : Nat → Int} {S P : Nat} {I : Int} {fa : Option Addr} {fc : Nat} (hf : FC F S P I) (hfa : RS R 1 encI fa (fvals F (S + P))) {size offset count : Int} (hsz : 1 ≤ size ∧ size ≤ 1500) (hof : 0 ≤ offset ∧ offset ≤ 200) (hcn : 0 ≤ count ∧ count ≤ 60) (w0 : World) (E : List Ent) : K.Fn Tryz.prog 28 [.agg #[.slice fa (fvals F (S + P)).length fc, .int .i64 (P : Int), .int .i64 I], .int .i64 size, .int .i64 offset, .int .i64 count] w0 R E (fun v R' E' => ∃ (a : Option Addr) (c : Nat) (l : List Int), v = .tuple #[.slice a l.length c, .int .i64 0] ∧ RS R' 1 encI a l ∧ Gd F size l ∧ (l.length : Int) ≤ count ∧ E.Sublist E') := by
 obtain ⟨tk0, htk0⟩ : ∃ n : Nat, offset = (n : Int) := ⟨offset.toNat, by omega⟩
 subst htk0
 refine fE 58 Tryz.func28 ?_
 refine zQ (zG ?_)
 refine zO fun b4 => ?_
 refine zR 2 rfl (zN (zU (zQ (zQ (zG ?_)))))
 refine yD (r := by (first | exact Rd.blk 0 rfl | exact Rd.blk 1 rfl | exact Rd.blk 2 rfl | exact Rd.blk 3 rfl | exact Rd.blk 4 rfl)) (k := ?_)
 refine WG.callV en54 rfl rfl qD (CallOp.mk' rfl rfl rfl rfl) (fun _ => rfl) (fun hg => ValidFC_V hf hfa) ?_
 refine zR 1 rfl (zN (zU ?_))
 refine cC rfl ?_ ?_ <;> intro hc0
 ·try simp only [zk] at hc0
  first | exact absurd rfl hc0 | exact hc0 trivial | (simp at hc0)
 ·try simp only [zk] at hc0
  refine zK (zU (zQ (zQ (zG (zR 3 rfl ?_)))))
  refine yP ?_
  refine yP ?_
  refine yO ?_
  refine zR 1 rfl ?_
  refine yP ?_
  refine yP ?_
  refine yO ?_
  refine zR 1 rfl ?_
  refine yP ?_
  refine yP ?_
  refine yO ?_
  refine zR 1 rfl ?_
  refine yP ?_
  refine yP ?_
  refine yO ?_
  refine zR 1 rfl ?_
  refine yP ?_
  refine yP ?_
  refine yO ?_
  refine zN (zU ?_)
  refine cC rfl ?_ ?_ <;> intro hc1
  ·try simp only [zk] at hc1
   exfalso; omega
  ·try simp only [zk] at hc1
   refine zK (zU (zQ (zG (zR 1 rfl (zN (zU ?_))))))
   refine W.nil 3 1 qD ?_
   refine zQ (zG (zR 2 rfl (zN (zU (zQ (zB ?_))))))
   refine W.loopK (β := List Int × Nat × Option Addr × Nat) (fun (out, tk, a9, c9) => Gd F size out ∧ (∀ x ∈ out, x ≤ (tk : Int)) ∧ (out.length : Int) ≤ count ∧ tk ≤ 381 ∧ out.length ≤ 60) (fun (out, tk, a9, c9) => [(10, true, .slice a9 out.length c9), (11, true, .int .i64 (tk : Int))]) [1, 3, 4] [_, _, _] [] _ rfl (fun (out, tk, a9, c9) => [(0, .sl 3 1 a9 c9 (out.map encI))]) (fun (out, tk, a9, c9) => (60 - out.length) + (381 - tk)) (([], tk0, none, 0)) (⟨Gd.nil F size, fun x h => (by cases h), by (try dsimp only [List.length_nil]); omega, by (try dsimp only); omega, by decide⟩) ⟨rfl, rfl, rfl, rfl, rfl, rfl⟩ qS ?_
   intro zz hst
   obtain ⟨out, tk, a9, c9⟩ := zz
   dsimp only [zipE, setAll, List.cons_append, List.nil_append, List.set_cons_zero, List.set_cons_succ] at hst ⊢
   obtain ⟨hgd, hle, hlc, htk, hl6⟩ := hst
   refine zQ (zQ (zG (zR 5 rfl ?_)))
   refine yP ?_
   refine yP ?_
   refine yN ?_
   refine zN (zU ?_)
   refine cC rfl ?_ ?_ <;> intro hc2
   ·try simp only [zk] at hc2
    have hgo : (out.length : Int) < count ∧ tk ≤ 380 := by omega
    refine zK (zU (zB (zQ (zG ?_))))
    refine yD (r := by (first | exact Rd.blk 0 rfl | exact Rd.blk 1 rfl | exact Rd.blk 2 rfl | exact Rd.blk 3 rfl | exact Rd.blk 4 rfl)) (k := ?_)
    refine zR 3 rfl ?_
    refine WG.callE (v := .bool (roomB F size out (tk : Int))) en55 rfl rfl qD (CallOp.mk' rfl rfl rfl rfl) (fun _ => rfl) (fun hg => Room_E (j := 0) (qs := out) (tick := (tk : Int)) rfl qO (fun q hq => ⟨(hgd.rng q hq).1, hle q hq⟩) ⟨by omega, by omega⟩ qO hf hfa w0) ?_
    refine zN (zU ?_)
    refine cC rfl ?_ ?_ <;> intro hc3
    ·try simp only [zk] at hc3
     refine zG (zR 2 rfl ?_)
     refine WL.ef rfl rfl qD (Ef.buildSliceD (enc := encI) (parts := [.tmp 52]) [(tk : Int)] tab_ok rfl rfl rfl rfl rfl rfl rfl rfl qD qD (fun a53 => ?_))
     first | refine WL.ef rfl rfl (by decide) (Ef.appendD 1 0 tab_ok rfl rfl rfl rfl rfl rfl rfl rfl rfl rfl rfl (fun _ _ => rfl) (by simp only [List.length_cons, List.length_nil]; omega) (by simp only [List.length_cons, List.length_nil]; omega) (fun a54 c54 ha54 => ?_)) | refine WL.ef rfl rfl (by decide) (Ef.appendD 2 0 tab_ok rfl rfl rfl rfl rfl rfl rfl rfl rfl rfl rfl (fun _ _ => rfl) (by simp only [List.length_cons, List.length_nil]; omega) (by simp only [List.length_cons, List.length_nil]; omega) (fun a54 c54 ha54 => ?_)) | refine WL.ef rfl rfl (by decide) (Ef.appendD 3 0 tab_ok rfl rfl rfl rfl rfl rfl rfl rfl rfl rfl rfl (fun _ _ => rfl) (by simp only [List.length_cons, List.length_nil]; omega) (by simp only [List.length_cons, List.length_nil]; omega) (fun a54 c54 ha54 => ?_)) | refine WL.ef rfl rfl (by decide) (Ef.appendD 4 0 tab_ok rfl rfl rfl rfl rfl rfl rfl rfl rfl rfl rfl (fun _ _ => rfl) (by simp only [List.length_cons, List.length_nil]; omega) (by simp only [List.length_cons, List.length_nil]; omega) (fun a54 c54 ha54 => ?_)) | refine WL.ef rfl rfl (by decide) (Ef.appendR 0 tab_ok rfl rfl rfl rfl rfl rfl rfl rfl rfl rfl (by assumption) (fun _ _ => rfl) (by (try dsimp only); omega) (by omega) (fun a54 c54 ha54 => ?_)) | refine WL.ef rfl rfl (by decide) (Ef.appendR 1 tab_ok rfl rfl rfl rfl rfl rfl rfl rfl rfl rfl (by assumption) (fun _ _ => rfl) (by (try dsimp only); omega) (by omega) (fun a54 c54 ha54 => ?_)) | refine WL.ef rfl rfl (by decide) (Ef.appendR 2 tab_ok rfl rfl rfl rfl rfl rfl rfl rfl rfl rfl (by assumption) (fun _ _ => rfl) (by (try dsimp only); omega) (by omega) (fun a54 c54 ha54 => ?_)) | refine WL.ef rfl rfl (by decide) (Ef.appendR 3 tab_ok rfl rfl rfl rfl rfl rfl rfl rfl rfl rfl (by assumption) (fun _ _ => rfl) (by (try dsimp only); omega) (by omega) (fun a54 c54 ha54 => ?_)) | refine WL.ef rfl rfl (by decide) (Ef.appendR 4 tab_ok rfl rfl rfl rfl rfl rfl rfl rfl rfl rfl (by assumption) (fun _ _ => rfl) (by (try dsimp only); omega) (by omega) (fun a54 c54 ha54 => ?_))
     refine zR 1 rfl (zN (zL ?_))
     refine WE.again ((out ++ [(tk : Int)], tk, a54, c54)) (⟨hgd.snoc (fun a b h => hf.mono h) (by omega) hc3 ⟨by omega, by omega⟩ hle, fun x hx => by rcases List.mem_append.1 hx with h | h; exact hle x h; rw [List.mem_singleton.1 h]; exact Int.le_refl _, by (try dsimp only); (try simp only [List.length_append, List.length_cons, List.length_nil]); omega, by (try dsimp only); omega, by (try dsimp only); (try simp only [List.length_append, List.length_cons, List.length_nil]); omega⟩) (by (try dsimp only); (try simp only [List.length_append, List.length_cons, List.length_nil]); omega) ⟨rfl, rfl, rfl, rfl, rfl, rfl⟩ (RLe.refl _) qS
    ·try simp only [zk] at hc3
     refine zG (zR 1 rfl ?_)
     refine yA ?_
     refine zR 1 rfl (zN (zL ?_))
     refine WE.again ((out, tk + 1, a9, c9)) (⟨hgd, fun x hx => by have := hle x hx; (try dsimp only); omega, hlc, by (try dsimp only); omega, hl6⟩) (by (try dsimp only); omega) ⟨rfl, rfl, rfl, rfl, rfl, rfl⟩ (RLe.refl _) qS
   ·try simp only [zk] at hc2
    refine W.freeze (enc := encI) (xs := out) 0 rfl ?_
    intro R1 hR1 hqs
    refine zX ?_
    refine wx (wx (zY (zU (zQ (zG (zR 3 rfl (zN (zU (zT ?_)))))))))
    refine zq2 (hR1) ?_
    exact ⟨_, _, out, rfl, hqs, hgd, hlc, qS⟩
end Go.Proofs.YtehaepbflkncdaaGreat