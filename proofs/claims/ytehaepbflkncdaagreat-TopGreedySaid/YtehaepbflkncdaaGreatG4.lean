/- Rules and walks, joined from 12 texts: the first of them says: Facts: what they say, how they are used, how they are checked; the interpreter is right. No condition. -/
import Derived.Test.YtehaepbflkncdaaGreatG3
set_option linter.unusedSimpArgs false
set_option linter.unusedVariables false
set_option linter.unnecessarySimpa false
namespace Go.Proofs.YtehaepbflkncdaaGreat.I
open Go Go.RowKit Go.Proofs.YtehaepbflkncdaaGreat.K
def Bij (r : Rn) : Prop := ∀ i b, r.a.get i = some b ↔ r.b.get b = some i
def RnLe (r r' : Rn) : Prop := ∀ i b, r.a.get i = some b → r'.a.get i = some b
theorem RnLe.refl (r : Rn) : RnLe r r := fun _ _ h => h
theorem RnLe.trans {r r' r'' : Rn} (h : RnLe r r') (k : RnLe r' r'') : RnLe r r'' := fun i b hb => k i b (h i b hb)
noncomputable def rhoOf (r : Rn) (p : Rho) : Rho := fun i => (r.a.get i).bind p
theorem rhoOf_le {r r' : Rn} (h : RnLe r r') (p : Rho) : Rho.le (rhoOf r p) (rhoOf r' p) := fun i x hx => by
 simp only [rhoOf, Option.bind_eq_some_iff] at hx ⊢
 obtain ⟨b, h1, h2⟩ := hx
 exact ⟨b, h i b h1, h2⟩
structure Mt (r r' : Rn) : Prop where
  bij : Bij r → Bij r'
  le : RnLe r r'
theorem Mt.refl (r : Rn) : Mt r r := ⟨id, RnLe.refl r⟩
theorem Mt.trans {r r' r'' : Rn} (h : Mt r r') (k : Mt r' r'') : Mt r r'' := ⟨fun b => k.bij (h.bij b), h.le.trans k.le⟩
theorem mN_ok {a b : Nat} {r r' : Rn} (h : mN a b r = some r') : Mt r r' ∧ r'.a.get a = some b := by
 unfold mN at h
 cases hg : r.a.get a with
 | some c =>
  rw [hg] at h
  obtain ⟨h1, h⟩ := tst_some (b := Nat.beq b c) h
  cases h
  exact ⟨.refl r, by rw [hg, K.beq_true h1]⟩
 | none =>
  rw [hg] at h
  cases hb : r.b.get b with
  | some _ =>
   have h : (Option.rec (bnd (r.a.put a (some b)) fun x => bnd (r.b.put b (some a)) fun y => some (⟨x, y⟩ : Rn)) (fun _ => none) (r.b.get b) : Option Rn) = some r' := h
   rw [hb] at h; cases h
  | none =>
   have h : (Option.rec (bnd (r.a.put a (some b)) fun x => bnd (r.b.put b (some a)) fun y => some (⟨x, y⟩ : Rn)) (fun _ => none) (r.b.get b) : Option Rn) = some r' := h
   rw [hb] at h
   obtain ⟨x, hx, h⟩ := bnd_some (o := r.a.put a (some b)) h
   obtain ⟨y, hy, h⟩ := bnd_some h
   cases h
   refine ⟨⟨fun hbij i c => ?_, fun i c hc => ?_⟩, put_same hx⟩
   ·simp only [put_get hx, put_get hy]
    by_cases e1 : a = i
    ·subst e1
     by_cases e2 : b = c
     ·subst e2; simp
     ·rw [if_pos rfl, if_neg e2]
      constructor
      ·intro h; cases h; exact absurd rfl e2
      ·intro h
       have := (hbij a c).2 h
       rw [hg] at this; cases this
    ·rw [if_neg e1]
     by_cases e2 : b = c
     ·subst e2
      rw [if_pos rfl]
      constructor
      ·intro h
       have := (hbij i b).1 h
       rw [hb] at this; cases this
      ·intro h; cases h; exact absurd rfl e1
     ·rw [if_neg e2]; exact hbij i c
   ·rw [put_get hx, if_neg]
    ·exact hc
    ·rintro rfl; rw [hg] at hc; cases hc
theorem mA_ok {a b : Option (Nat × Nat)} {r r' : Rn} (h : mA a b r = some r') : Mt r r' ∧ ∀ p, caddr p b = caddr (rhoOf r' p) a ∧ a.isSome = b.isSome ∧ ∀ x y, a = some x → b = some y → x.2 = y.2 ∧ rhoOf r' p x.1 = p y.1 := by
 cases a with
 | none =>
  cases b with
  | none => cases h; exact ⟨.refl r, fun p => ⟨rfl, rfl, fun x y h => (by cases h)⟩⟩
  | some _ => cases h
 | some x =>
  cases b with
  | none => cases h
  | some y =>
   obtain ⟨h1, h⟩ := tst_some (b := Nat.beq x.2 y.2) h
   obtain ⟨h2, h3⟩ := mN_ok h
   have h1 := K.beq_true h1
   have hr : ∀ p, rhoOf r' p x.1 = p y.1 := fun p => by simp [rhoOf, h3]
   refine ⟨h2, fun p => ⟨?_, rfl, fun x' y' e1 e2 => by cases e1; cases e2; exact ⟨h1, hr p⟩⟩⟩
   simp only [caddr, hr, h1]
theorem mR_ok {a b : Option Nat} {r r' : Rn} (h : mR a b r = some r') : Mt r r' ∧ ∀ p, cmap p b = cmap (rhoOf r' p) a := by
 cases a with
 | none =>
  cases b with
  | none => cases h; exact ⟨.refl r, fun p => rfl⟩
  | some _ => cases h
 | some x =>
  cases b with
  | none => cases h
  | some y =>
   obtain ⟨h2, h3⟩ := mN_ok (a := x) (b := y) h
   exact ⟨h2, fun p => by simp [cmap, rhoOf, h3]⟩
mutual
theorem mV_ok : ∀ {v w : V} {r r' : Rn}, mV v w r = some r' → Mt r r' ∧ ∀ p x, conc p w = some x → conc (rhoOf r' p) v = some x
 | .b a, w, r, r', h => by
  obtain ⟨y, h1, h⟩ := bnd_some (o := boolOf w) h
  obtain ⟨h2, h⟩ := tst_some h
  cases h
  rw [boolOf_some h1, xnor_eq h2]
  exact ⟨.refl r, fun p x hx => by rw [conc] at hx ⊢; exact hx⟩
 | .i k n, w, r, r', h => by
  obtain ⟨y, h1, h⟩ := bnd_some (o := intOf w) h
  obtain ⟨h2, h⟩ := tst_some h
  cases h
  rw [intOf_some h1, ← iEq_eq h2]
  exact ⟨.refl r, fun p x hx => by rw [conc] at hx ⊢; exact hx⟩
 | .s a, w, r, r', h => by
  obtain ⟨y, h1, h⟩ := bnd_some (o := strOf w) h
  obtain ⟨h2, h⟩ := tst_some h
  cases h
  rw [strOf_some h1, bytesA_eq h2]
  exact ⟨.refl r, fun p x hx => by rw [conc] at hx ⊢; exact hx⟩
 | .p a, w, r, r', h => by
  obtain ⟨b, h1, h⟩ := bnd_some (o := pOf w) h
  obtain ⟨h2, h3⟩ := mA_ok h
  rw [pOf_some h1]
  exact ⟨h2, fun p x hx => by rw [conc] at hx ⊢; rw [← (h3 p).1]; exact hx⟩
 | .sl a l c, w, r, r', h => by
  obtain ⟨s, h1, h⟩ := bnd_some (o := slOf w) h
  obtain ⟨h4, h⟩ := tst_some h
  obtain ⟨h5, h⟩ := tst_some h
  obtain ⟨h2, h3⟩ := mA_ok h
  have h4 := K.beq_true h4
  have h5 := anyEq_eq h5
  rw [slOf_some h1]
  refine ⟨h2, fun p x hx => ?_⟩
  rw [conc] at hx ⊢
  rw [h5]
  rw [h4]
  cases hc : s.c with
  | some c' =>
   rw [hc] at hx
   simp only [cslice] at hx ⊢
   rw [← (h3 p).1]; exact hx
  | none =>
   rw [hc] at hx
   simp only [cslice] at hx ⊢
   cases ha : a with
   | none =>
    have := (h3 p).2.1
    rw [ha] at this
    cases hsa : s.a with
    | none => rw [hsa] at hx; cases hx
    | some q => rw [hsa] at this; cases this
   | some q =>
    have := (h3 p).2.1
    rw [ha] at this
    cases hsa : s.a with
    | none => rw [hsa] at this; cases this
    | some q' =>
     rw [hsa] at hx
     obtain ⟨g1, g2⟩ := (h3 p).2.2 q q' ha hsa
     simp only [Option.bind_some] at hx ⊢
     rw [g2, g1]; exact hx
 | .m a, w, r, r', h => by
  obtain ⟨b, h1, h⟩ := bnd_some (o := mOf w) h
  obtain ⟨h2, h3⟩ := mR_ok h
  rw [mOf_some h1]
  exact ⟨h2, fun p x hx => by rw [conc] at hx ⊢; rw [← h3 p]; exact hx⟩
 | .f f a c, w, r, r', h => by
  obtain ⟨q, h1, h⟩ := bnd_some (o := clOf w) h
  obtain ⟨h2, h⟩ := tst_some h
  obtain ⟨r1, h3, h⟩ := bnd_some h
  obtain ⟨g1, g2⟩ := mVL_ok h3
  obtain ⟨g3, g4⟩ := mVL_ok h
  rw [clOf_some h1, ← K.beq_true h2]
  refine ⟨g1.trans g3, fun p x hx => ?_⟩
  rw [conc] at hx ⊢
  simp only [Option.bind_eq_some_iff, Option.map_eq_some_iff] at hx ⊢
  obtain ⟨xs, e1, ys, e2, e3⟩ := hx
  exact ⟨xs, concL_mono (rhoOf_le g3.le p) (g2 p xs e1), ys, g4 p ys e2, e3⟩
 | .y l, w, r, r', h => by cases h
 | .nf, w, r, r', h => by
  obtain ⟨h1, h⟩ := tst_some (b := nfOf w) h
  cases h
  rw [nfOf_eq h1]
  exact ⟨.refl r, fun p x hx => by rw [conc] at hx ⊢; exact hx⟩
 | .ifc t v, w, r, r', h => by
  obtain ⟨q, h1, h⟩ := bnd_some (o := ifcOf w) h
  obtain ⟨h2, h⟩ := tst_some h
  obtain ⟨g1, g2⟩ := mV_ok h
  rw [ifcOf_some h1, ← K.beq_true h2]
  refine ⟨g1, fun p x hx => ?_⟩
  rw [conc] at hx ⊢
  simp only [Option.map_eq_some_iff] at hx ⊢
  obtain ⟨y, e1, e2⟩ := hx
  exact ⟨y, g2 p y e1, e2⟩
 | .ni, w, r, r', h => by
  obtain ⟨h1, h⟩ := tst_some (b := niOf w) h
  cases h
  rw [niOf_eq h1]
  exact ⟨.refl r, fun p x hx => by rw [conc] at hx ⊢; exact hx⟩
 | .ag cs, w, r, r', h => by
  obtain ⟨q, h1, h⟩ := bnd_some (o := agOf w) h
  obtain ⟨g1, g2⟩ := mVL_ok h
  rw [agOf_some h1]
  refine ⟨g1, fun p x hx => ?_⟩
  rw [conc] at hx ⊢
  simp only [Option.map_eq_some_iff] at hx ⊢
  obtain ⟨y, e1, e2⟩ := hx
  exact ⟨y, g2 p y e1, e2⟩
 | .tu vs, w, r, r', h => by
  obtain ⟨q, h1, h⟩ := bnd_some (o := tuOf w) h
  obtain ⟨g1, g2⟩ := mVL_ok h
  rw [tuOf_some h1]
  refine ⟨g1, fun p x hx => ?_⟩
  rw [conc] at hx ⊢
  simp only [Option.map_eq_some_iff] at hx ⊢
  obtain ⟨y, e1, e2⟩ := hx
  exact ⟨y, g2 p y e1, e2⟩
theorem mVL_ok : ∀ {vs ws : List V} {r r' : Rn}, mVL vs ws r = some r' → Mt r r' ∧ ∀ p xs, concL p ws = some xs → concL (rhoOf r' p) vs = some xs
 | [], [], r, r', h => by cases h; exact ⟨.refl r, fun p xs hx => by rw [concL] at hx ⊢; exact hx⟩
 | [], _ :: _, r, r', h => by cases h
 | _ :: _, [], r, r', h => by cases h
 | v :: vs, w :: ws, r, r', h => by
  obtain ⟨r1, h1, h⟩ := bnd_some (o := mV v w r) (k := fun r => mVL vs ws r) h
  obtain ⟨g1, g2⟩ := mV_ok h1
  obtain ⟨g3, g4⟩ := mVL_ok h
  refine ⟨g1.trans g3, fun p xs hx => ?_⟩
  obtain ⟨x, xs', e1, e2, rfl⟩ := concL_cons.1 hx
  exact concL_cons.2 ⟨x, xs', conc_mono (rhoOf_le g3.le p) (g2 p x e1), g4 p xs' e2, rfl⟩
end
theorem mL_ok : ∀ {vs ws : List V} {r r' : Rn}, mL vs ws r = some r' → Mt r r' ∧ ∀ p xs, concL p ws = some xs → concL (rhoOf r' p) vs = some xs
 | [], [], r, r', h => by cases h; exact ⟨.refl r, fun p xs hx => by rw [concL] at hx ⊢; exact hx⟩
 | [], _ :: _, r, r', h => by cases h
 | _ :: _, [], r, r', h => by cases h
 | v :: vs, w :: ws, r, r', h => by
  obtain ⟨r1, h1, h⟩ := bnd_some (o := mV v w r) (k := fun r => mL vs ws r) h
  obtain ⟨g1, g2⟩ := mV_ok h1
  obtain ⟨g3, g4⟩ := mL_ok (vs := vs) h
  refine ⟨g1.trans g3, fun p xs hx => ?_⟩
  obtain ⟨x, xs', e1, e2, rfl⟩ := concL_cons.1 hx
  exact concL_cons.2 ⟨x, xs', conc_mono (rhoOf_le g3.le p) (g2 p x e1), g4 p xs' e2, rfl⟩
theorem mE_ok : ∀ {es fs : List (V × V)} {r r' : Rn}, mE es fs r = some r' → Mt r r' ∧ ∀ p xs, concE p fs = some xs → concE (rhoOf r' p) es = some xs
 | [], [], r, r', h => by cases h; exact ⟨.refl r, fun p xs hx => by rw [concE] at hx ⊢; exact hx⟩
 | [], _ :: _, r, r', h => by cases h
 | _ :: _, [], r, r', h => by cases h
 | q :: es, f :: fs, r, r', h => by
  obtain ⟨r1, h1, h⟩ := bnd_some (o := mV q.1 f.1 r) (k := fun r => bnd (mV q.2 f.2 r) fun r => mE es fs r) h
  obtain ⟨r2, h2, h⟩ := bnd_some h
  obtain ⟨g1, g2⟩ := mV_ok h1
  obtain ⟨g5, g6⟩ := mV_ok h2
  obtain ⟨g3, g4⟩ := mE_ok (es := es) h
  refine ⟨(g1.trans g5).trans g3, fun p xs hx => ?_⟩
  obtain ⟨k, v, xs', e1, e2, e3, rfl⟩ := concE_cons.1 hx
  exact concE_cons.2 ⟨k, v, xs', conc_mono (rhoOf_le (g5.le.trans g3.le) p) (g2 p k e1), conc_mono (rhoOf_le g3.le p) (g6 p v e2), g4 p xs' e3, rfl⟩
theorem mO_ok {a b : HO} {r r' : Rn} (h : mO a b r = some r') : Mt r r' ∧ ∀ p x w, ObR p x w b → ObR (rhoOf r' p) x w a := by
 cases a with
 | cells t cs =>
  obtain ⟨q, h1, h⟩ := bnd_some (o := cellOf b) h
  obtain ⟨h2, h⟩ := tst_some h
  obtain ⟨g1, g2⟩ := mL_ok h
  have hb : b = .cells q.t q.cs := by cases b <;> cases h1; rfl
  subst hb
  refine ⟨g1, fun p x w ho => ?_⟩
  obtain ⟨xs, e1, e2⟩ := ho
  rw [K.beq_true h2]
  exact ⟨xs, g2 p xs e1, e2⟩
 | grow t k cs =>
  obtain ⟨q, h1, h⟩ := bnd_some (o := growOf b) h
  obtain ⟨h2, h⟩ := tst_some h
  obtain ⟨h3, h⟩ := tst_some h
  obtain ⟨g1, g2⟩ := mL_ok h
  have hb : b = .grow q.t q.k q.cs := by cases b <;> cases h1; rfl
  subst hb
  refine ⟨g1, fun p x w ho => ?_⟩
  obtain ⟨xs, cur, e1, e2⟩ := ho
  rw [K.beq_true h2, K.beq_true h3]
  exact ⟨xs, cur, g2 p xs e1, e2⟩
 | map es =>
  obtain ⟨q, h1, h⟩ := bnd_some (o := mapOf b) h
  obtain ⟨g1, g2⟩ := mE_ok h
  have hb : b = .map q := by cases b <;> cases h1; rfl
  subst hb
  refine ⟨g1, fun p x w ho => ?_⟩
  obtain ⟨ms, c, e1, e2⟩ := ho
  exact ⟨ms, c, e1, g2 p _ e2⟩
 | loop st j tm ps asg body d fn => cases h
 | dfr => cases h
theorem mH_ok {h : H} : ∀ {os : List HO} {i : Nat} {r r' : Rn}, mH h os i r = some r' → Mt r r' ∧ ∀ j o, os[j]? = some o → ∃ b o', r'.a.get (i + j) = some b ∧ h.get b = some o' ∧ ∀ p x w, ObR p x w o' → ObR (rhoOf r' p) x w o
 | [], i, r, r', hm => by cases hm; exact ⟨.refl r, by simp⟩
 | o :: os, i, r, r', hm => by
  obtain ⟨b, hb, hm⟩ := bnd_some (o := r.a.get i) hm
  obtain ⟨o', ho', hm⟩ := bnd_some hm
  obtain ⟨r1, h1, hm⟩ := bnd_some hm
  rw [frc_eq] at hm
  obtain ⟨g1, g2⟩ := mO_ok h1
  obtain ⟨g3, g4⟩ := mH_ok (os := os) hm
  refine ⟨g1.trans g3, fun j o2 hj => ?_⟩
  cases j with
  | zero =>
   simp at hj
   subst hj
   exact ⟨b, o', g3.le _ _ (g1.le _ _ hb), ho', fun p x w ho => (g2 p x w ho).mono (rhoOf_le g3.le p)⟩
  | succ j =>
   have := g4 j o2 (by simpa using hj)
   rw [show i + (j + 1) = Nat.succ i + j by omega]; exact this
section
variable {g : Nat → Nat} {p p' : Rho}
theorem caddr_rn (hg : ∀ i y, p i = some y → p' (g i) = some y) {a : Option (Nat × Nat)} {x : Option Addr} (h : caddr p a = some x) : caddr p' (rnA g a) = some x := by
 cases a with
 | none => exact h
 | some q =>
  simp only [caddr, Option.map_eq_some_iff] at h
  obtain ⟨y, h1, h2⟩ := h
  show caddr p' (frc (g q.1) fun b => some (b, q.2)) = _
  rw [frc_eq]
  simp only [caddr, hg _ _ h1, Option.map_some, h2]
mutual
theorem rn_ok (hg : ∀ i y, p i = some y → p' (g i) = some y) : ∀ {v : V} {x : Value}, conc p v = some x → conc p' (rnV g v) = some x
 | .b _, _, h => by rw [conc] at h; show conc p' (.b _) = _; rw [conc]; exact h
 | .i _ _, _, h => by rw [conc] at h; show conc p' (.i _ _) = _; rw [conc]; exact h
 | .s _, _, h => by rw [conc] at h; show conc p' (.s _) = _; rw [conc]; exact h
 | .nf, _, h => by rw [conc] at h; show conc p' .nf = _; rw [conc]; exact h
 | .ni, _, h => by rw [conc] at h; show conc p' .ni = _; rw [conc]; exact h
 | .p a, _, h => by
  rw [conc] at h
  simp only [Option.map_eq_some_iff] at h
  obtain ⟨y, h1, h2⟩ := h
  show conc p' (.p (rnA g a)) = _
  rw [conc, caddr_rn hg h1, ← h2]; rfl
 | .sl a l c, _, h => by
  rw [conc] at h
  show conc p' (.sl (rnA g a) l c) = _
  rw [conc]
  cases c with
  | some c =>
   simp only [cslice, Option.map_eq_some_iff] at h ⊢
   obtain ⟨y, h1, h2⟩ := h
   exact ⟨y, caddr_rn hg h1, h2⟩
  | none =>
   simp only [cslice, Option.bind_eq_some_iff, Option.map_eq_some_iff] at h ⊢
   obtain ⟨q, rfl, y, h2, h3⟩ := h
   refine ⟨(g q.1, q.2), ?_, y, hg _ _ h2, h3⟩
   show frc (g q.1) (fun b => some (b, q.2)) = _
   rw [frc_eq]
 | .m a, _, h => by
  rw [conc] at h
  show conc p' (.m (rnR g a)) = _
  rw [conc]
  cases a with
  | none => exact h
  | some b =>
   simp only [cmap, Option.map_eq_some_iff] at h
   obtain ⟨y, h1, h2⟩ := h
   show cmap p' (frc (g b) some) = _
   rw [frc_eq]
   simp only [cmap, hg _ _ h1, Option.map_some, h2]
 | .f fn a c, _, h => by
  rw [conc] at h
  simp only [Option.bind_eq_some_iff, Option.map_eq_some_iff] at h
  obtain ⟨xs, h1, ys, h2, h3⟩ := h
  show conc p' (.f fn (rnVL g a) (rnVL g c)) = _
  rw [conc, rnL_ok hg h1, rnL_ok hg h2, ← h3]; rfl
 | .y l, _, h => by
  rw [conc] at h
  simp only [Option.map_eq_some_iff] at h
  obtain ⟨y, h1, h2⟩ := h
  show conc p' (frc (g l) .y) = _
  rw [frc_eq, conc, hg _ _ h1, ← h2]; rfl
 | .ifc t v, _, h => by
  rw [conc] at h
  simp only [Option.map_eq_some_iff] at h
  obtain ⟨y, h1, h2⟩ := h
  show conc p' (.ifc t (rnV g v)) = _
  rw [conc, rn_ok hg h1, ← h2]; rfl
 | .ag cs, _, h => by
  rw [conc] at h
  simp only [Option.map_eq_some_iff] at h
  obtain ⟨y, h1, h2⟩ := h
  show conc p' (.ag (rnVL g cs)) = _
  rw [conc, rnL_ok hg h1, ← h2]; rfl
 | .tu cs, _, h => by
  rw [conc] at h
  simp only [Option.map_eq_some_iff] at h
  obtain ⟨y, h1, h2⟩ := h
  show conc p' (.tu (rnVL g cs)) = _
  rw [conc, rnL_ok hg h1, ← h2]; rfl
theorem rnL_ok (hg : ∀ i y, p i = some y → p' (g i) = some y) : ∀ {vs : List V} {xs : List Value}, concL p vs = some xs → concL p' (rnVL g vs) = some xs
 | [], _, h => by rw [concL] at h; show concL p' [] = _; rw [concL]; exact h
 | v :: vs, _, h => by
  obtain ⟨x, xs, h1, h2, rfl⟩ := concL_cons.1 h
  exact concL_cons.2 ⟨x, xs, rn_ok hg h1, rnL_ok hg h2, rfl⟩
end
theorem rnL_ok' (hg : ∀ i y, p i = some y → p' (g i) = some y) : ∀ {vs : List V} {xs : List Value}, concL p vs = some xs → concL p' (rnL g vs) = some xs
 | [], _, h => by rw [concL] at h; show concL p' [] = _; rw [concL]; exact h
 | v :: vs, _, h => by
  obtain ⟨x, xs, h1, h2, rfl⟩ := concL_cons.1 h
  exact concL_cons.2 ⟨x, xs, rn_ok hg h1, rnL_ok' hg h2, rfl⟩
theorem rnE_ok (hg : ∀ i y, p i = some y → p' (g i) = some y) : ∀ {es : List (V × V)} {xs : List (Value × Value)}, concE p es = some xs → concE p' (rnE g es) = some xs
 | [], _, h => by rw [concE] at h; show concE p' [] = _; rw [concE]; exact h
 | q :: es, _, h => by
  obtain ⟨k, v, xs, h1, h2, h3, rfl⟩ := concE_cons.1 h
  exact concE_cons.2 ⟨k, v, xs, rn_ok hg h1, rn_ok hg h2, rnE_ok hg h3, rfl⟩
theorem rnO_ok (hg : ∀ i y, p i = some y → p' (g i) = some y) {o : HO} {l : Nat} (hl : ltO l o = true) {x : Nat × Nat} {w : World} (h : ObR p x w o) : ObR p' x w (rnO g o) := by
 cases o with
 | cells t cs => obtain ⟨xs, h1, h2⟩ := h; exact ⟨xs, rnL_ok' hg h1, h2⟩
 | grow t k cs => obtain ⟨xs, cur, h1, h2⟩ := h; exact ⟨xs, cur, rnL_ok' hg h1, h2⟩
 | map es => obtain ⟨ms, c, h1, h2⟩ := h; exact ⟨ms, c, h1, rnE_ok hg h2⟩
 | loop st j tm ps asg body d fn => cases hl
 | dfr => cases hl
end
def cut (m : Nat) (p : Rho) : Rho := fun b => if b < m then p b else none
section
variable {m : Nat} {p : Rho}
theorem cut_some {b : Nat} {x : Nat × Nat} : cut m p b = some x ↔ b < m ∧ p b = some x := by
 unfold cut
 split
 ·rename_i h; simp [h]
 ·rename_i h; simp [h]
theorem ltA_ok {a : Option (Nat × Nat)} (h : ltA m a = true) : caddr (cut m p) a = caddr p a := by
 cases a with
 | none => rfl
 | some q =>
  have h : Nat.blt q.1 m = true := h
  have h : q.1 < m := by simpa [Nat.blt_eq] using h
  simp only [caddr, cut, h, if_true]
mutual
theorem ltV_ok : ∀ {v : V}, ltV m v = true → conc (cut m p) v = conc p v
 | .b _, _ => by rw [conc, conc]
 | .i _ _, _ => by rw [conc, conc]
 | .s _, _ => by rw [conc, conc]
 | .nf, _ => by rw [conc, conc]
 | .ni, _ => by rw [conc, conc]
 | .p a, h => by rw [conc, conc, ltA_ok h]
 | .sl a l c, h => by
  rw [conc, conc]
  cases c with
  | some c => simp only [cslice, ltA_ok (a := a) h]
  | none =>
   cases a with
   | none => rfl
   | some q =>
    have h : Nat.blt q.1 m = true := h
    have h : q.1 < m := by simpa [Nat.blt_eq] using h
    simp only [cslice, Option.bind_some, cut, h, if_true]
 | .m a, h => by
  rw [conc, conc]
  cases a with
  | none => rfl
  | some b =>
   have h : Nat.blt b m = true := h
   have h : b < m := by simpa [Nat.blt_eq] using h
   simp only [cmap, cut, h, if_true]
 | .f fn a c, h => by
  obtain ⟨h1, h2⟩ := and2_true (a := ltVL m a) (b := ltVL m c) h
  rw [conc, conc, ltL_ok h1, ltL_ok h2]
 | .y l, h => by cases h
 | .ifc t v, h => by rw [conc, conc, ltV_ok (v := v) h]
 | .ag cs, h => by rw [conc, conc, ltL_ok (vs := cs) h]
 | .tu cs, h => by rw [conc, conc, ltL_ok (vs := cs) h]
theorem ltL_ok : ∀ {vs : List V}, ltVL m vs = true → concL (cut m p) vs = concL p vs
 | [], _ => by rw [concL, concL]
 | v :: vs, h => by
  obtain ⟨h1, h2⟩ := and2_true (a := ltV m v) (b := ltVL m vs) h
  rw [concL, concL, ltV_ok h1, ltL_ok h2]
end
theorem ltL_all : ∀ {vs : List V}, allB (ltV m) vs = true → concL (cut m p) vs = concL p vs
 | [], _ => by rw [concL, concL]
 | v :: vs, h => by
  obtain ⟨h1, h2⟩ := and2_true (a := ltV m v) (b := allB (ltV m) vs) h
  rw [concL, concL, ltV_ok h1, ltL_all h2]
theorem ltE_all : ∀ {es : List (V × V)}, allB (fun q => and2 (ltV m q.1) (ltV m q.2)) es = true → concE (cut m p) es = concE p es
 | [], _ => by rw [concE, concE]
 | q :: es, h => by
  obtain ⟨h1, h2⟩ := and2_true (a := and2 (ltV m q.1) (ltV m q.2)) h
  obtain ⟨h3, h4⟩ := and2_true h1
  rw [concE, concE, ltV_ok h3, ltV_ok h4, ltE_all h2]
theorem ltO_ok {o : HO} (h : ltO m o = true) {x : Nat × Nat} {w : World} (ho : ObR p x w o) : ObR (cut m p) x w o := by
 cases o with
 | cells t cs => obtain ⟨xs, h1, h2⟩ := ho; exact ⟨xs, by rw [ltL_all h]; exact h1, h2⟩
 | grow t k cs => obtain ⟨xs, cur, h1, h2⟩ := ho; exact ⟨xs, cur, by rw [ltL_all h]; exact h1, h2⟩
 | map es => obtain ⟨ms, c, h1, h2⟩ := ho; exact ⟨ms, c, h1, by rw [ltE_all h]; exact h2⟩
 | loop st j tm ps asg body d fn => cases h
 | dfr => cases h
theorem allB_mem {α : Type} {q : α → Bool} : ∀ {xs : List α}, allB q xs = true → ∀ x ∈ xs, q x = true
 | [], _, _, h => by simp at h
 | y :: xs, h, x, hx => by
  obtain ⟨h1, h2⟩ := and2_true (a := q y) (b := allB q xs) h
  rcases List.mem_cons.1 hx with rfl | hx
  ·exact h1
  ·exact allB_mem h2 x hx
end
end Go.Proofs.YtehaepbflkncdaaGreat.I
namespace Go.Proofs.YtehaepbflkncdaaGreat.I
open Go Go.RowKit Go.Proofs.YtehaepbflkncdaaGreat.K
structure FactOk (P : Program) (f : Nat) (F : Fact) : Prop where
  en : Enters P f
  le : F.h0.length ≤ F.h1.length
  a0 : allB (ltV F.h0.length) F.args = true
  o0 : allB (ltO F.h0.length) F.h0 = true
  o1 : allB (ltO F.h1.length) F.h1 = true
  call : ∀ r w xs h, (∀ b, h.get b = F.h0[b]?) → Sat r h F.h0.length w → concL r F.args = some xs → Calls P f xs.toArray w fun e w' => ∃ r' x h', e = .returned x ∧ conc r' F.v = some x ∧ (∀ b, h'.get b = F.h1[b]?) ∧ Post r h F.h0.length w r' h' F.h1.length w'
theorem putsH_some : ∀ {os : List HO} {i : Nat} {h h' : H}, putsH os i h = some h' → ∀ b, h'.get b = if i ≤ b ∧ b < i + os.length then os[b - i]? else h.get b
 | [], i, h, h', hp, b => by cases hp; rw [if_neg (by simp <;> omega)]
 | o :: os, i, h, h', hp, b => by
  obtain ⟨h1, g1, hp⟩ := bnd_some (o := h.put i (some o)) hp
  rw [frc_eq] at hp
  rw [putsH_some (os := os) hp b, put_get g1]
  by_cases e : i = b
  ·subst e
   rw [if_neg (by simp only [Nat.succ_eq_add_one]; omega), if_pos rfl, if_pos (by simp)]
   simp
  ·rw [if_neg e]
   by_cases h3 : Nat.succ i ≤ b ∧ b < Nat.succ i + os.length
   ·rw [if_pos h3, if_pos (by simp; omega)]
    rw [show b - i = (b - Nat.succ i) + 1 by omega]
    rfl
   ·rw [if_neg h3, if_neg (by simp; omega)]
theorem tree_ex (os : List HO) : ∃ h : H, ∀ b, h.get b = os[b]? := by
 have : ∀ (os : List HO) (i : Nat) (h : H), ∃ h', putsH os i h = some h' := by
  intro os
  induction os with
  | nil => exact fun i h => ⟨h, rfl⟩
  | cons o os ih =>
   intro i h
   obtain ⟨h1, g1⟩ := put_ex h i (some o)
   obtain ⟨h2, g2⟩ := ih (Nat.succ i) h1
   refine ⟨h2, ?_⟩
   show bnd (h.put i (some o)) (fun h => frc (Nat.succ i) fun i => putsH os i h) = _
   rw [g1]
   show frc (Nat.succ i) (fun i => putsH os i h1) = _
   rw [frc_eq]; exact g2
 obtain ⟨h, hh⟩ := this os 0 .nil
 refine ⟨h, fun b => ?_⟩
 rw [putsH_some hh b]
 by_cases hb : b < os.length
 ·rw [if_pos (by omega)]; simp
 ·rw [if_neg (by omega), List.getElem?_eq_none (by omega)]
  exact getP_nil _
theorem layH_some {g : Nat → Nat} : ∀ {os : List HO} {i : Nat} {h h' : H}, layH g os i h = some h' → (∀ j k, i ≤ j → j < i + os.length → i ≤ k → k < i + os.length → g j = g k → j = k) →
  (∀ j o, os[j]? = some o → h'.get (g (i + j)) = some (rnO g o)) ∧ ∀ b, (∀ j, i ≤ j → j < i + os.length → g j ≠ b) → h'.get b = h.get b
 | [], i, h, h', hl, _ => by cases hl; exact ⟨by simp, fun _ _ => rfl⟩
 | o :: os, i, h, h', hl, hinj => by
  obtain ⟨h1, g1, hl⟩ := bnd_some (o := h.put (g i) (some (rnO g o))) hl
  rw [frc_eq] at hl
  obtain ⟨e1, e2⟩ := layH_some (os := os) hl (fun j k a1 a2 a3 a4 => hinj j k (by omega) (by simp; omega) (by omega) (by simp; omega))
  refine ⟨fun j o' hj => ?_, fun b hb => ?_⟩
  ·cases j with
   | zero =>
    simp at hj
    subst hj
    rw [e2 (g (i + 0)) (fun j a1 a2 e => by
     have := hinj j i (by omega) (by simp; omega) (Nat.le_refl i) (by simp) (by simpa using e)
     omega)]
    exact put_same g1
   | succ j =>
    have := e1 j o' (by simpa using hj)
    rw [show i + (j + 1) = Nat.succ i + j by omega]; exact this
  ·rw [e2 b (fun j a1 a2 => hb j (by omega) (by simp; omega)), put_other g1 (hb i (Nat.le_refl i) (by simp))]
section
variable {P : Program} {T : Tab} {en : Env} {h h' : H} {n n' : Nat}
theorem useF_ok {f : Nat} {F : Fact} {args : List V} {q : VH} (hF : FactOk P f F) (hu : useF F args h n = some q) : CallOk P f args h n q.v q.h q.n := by
 refine ⟨hF.en, fun p w xs hs ha => ?_⟩
 obtain ⟨r1, hr1, hu⟩ := bnd_some hu
 obtain ⟨rm, hrm, hu⟩ := bnd_some hu
 rw [frc_eq, lenX_eq] at hu
 obtain ⟨h2, hl2, hu⟩ := bnd_some (o := layH (nameO rm.a n F.h0.length) F.h1 0 h) hu
 rw [frc_eq, lenX_eq] at hu
 cases hu
 obtain ⟨m1, m2⟩ := mL_ok hr1
 obtain ⟨m3, m4⟩ := mH_ok hrm
 have hbij : Bij rm := (m1.trans m3).bij (fun i b => by
  have gn : ∀ j, (Tr.nil : Tr Nat).get j = none := fun j => getP_nil _
  simp [gn])
 obtain ⟨g, hg⟩ : ∃ g, g = nameO rm.a n F.h0.length := ⟨_, rfl⟩
 rw [← hg] at hl2 ⊢
 obtain ⟨m, hm⟩ : ∃ m, m = F.h0.length := ⟨_, rfl⟩
 obtain ⟨L, hL⟩ : ∃ L, L = F.h1.length := ⟨_, rfl⟩
 have hmL : m ≤ L := by rw [hm, hL]; exact hF.le
 have hold : ∀ i, i < m → ∃ b o' y o, rm.a.get i = some b ∧ h.get b = some o' ∧ p b = some y ∧ F.h0[i]? = some o ∧ (∀ p x w, ObR p x w o' → ObR (rhoOf rm p) x w o) ∧ ObR p y w o' := fun i hi => by
  rw [hm] at hi
  obtain ⟨b, o', e1, e2, e3⟩ := m4 i F.h0[i] (List.getElem?_eq_getElem hi)
  rw [Nat.zero_add] at e1
  obtain ⟨y, hy, hob⟩ := hs.wr.ob b o' e2
  exact ⟨b, o', y, F.h0[i], e1, e2, hy, List.getElem?_eq_getElem hi, e3, hob⟩
 have hg1 : ∀ i b, i < m → rm.a.get i = some b → g i = b := fun i b hi hb => by
  rw [hg]
  show (Bool.rec (n + (i - F.h0.length)) (Option.rec 0 (fun b => b) (rm.a.get i)) (Nat.blt i F.h0.length) : Nat) = b
  have : Nat.blt i F.h0.length = true := by rw [← hm]; simpa [Nat.blt_eq] using hi
  rw [this, hb]
 have hg2 : ∀ i, m ≤ i → g i = n + (i - m) := fun i hi => by
  rw [hg, hm]
  show (Bool.rec (n + (i - F.h0.length)) (Option.rec 0 (fun b => b) (rm.a.get i)) (Nat.blt i F.h0.length) : Nat) = _
  have : Nat.blt i F.h0.length = false := by
   cases hb : Nat.blt i F.h0.length with
   | false => rfl
   | true =>
    have : i < F.h0.length := by simpa [Nat.blt_eq] using hb
    omega
  rw [this]
 have hginj : ∀ i j, g i = g j → i = j := fun i j e => by
  rcases Nat.lt_or_ge i m with hi | hi <;> rcases Nat.lt_or_ge j m with hj | hj
  ·obtain ⟨b, _, _, _, hb, _⟩ := hold i hi
   obtain ⟨c, _, _, _, hc, _⟩ := hold j hj
   rw [hg1 i b hi hb, hg1 j c hj hc] at e
   subst e
   have e1 := (hbij i b).1 hb
   have e2 := (hbij j b).1 hc
   rw [e1] at e2; cases e2; rfl
  ·obtain ⟨b, _, y, _, hb, _, hy, _⟩ := hold i hi
   rw [hg1 i b hi hb, hg2 j hj] at e
   have := hs.bd b y hy; omega
  ·obtain ⟨b, _, y, _, hb, _, hy, _⟩ := hold j hj
   rw [hg1 j b hj hb, hg2 i hi] at e
   have := hs.bd b y hy; omega
  ·rw [hg2 i hi, hg2 j hj] at e; omega
 obtain ⟨pF, hpF⟩ : ∃ pF, pF = cut m (rhoOf rm p) := ⟨_, rfl⟩
 have hpF1 : ∀ i x, pF i = some x → i < m ∧ ∃ b, rm.a.get i = some b ∧ p b = some x := fun i x hx => by
  rw [hpF, cut_some] at hx
  obtain ⟨e1, e2⟩ := hx
  simp only [rhoOf, Option.bind_eq_some_iff] at e2
  exact ⟨e1, e2⟩
 have hpF2 : ∀ i b x, i < m → rm.a.get i = some b → p b = some x → pF i = some x := fun i b x hi hb hx => by
  rw [hpF, cut_some]
  exact ⟨hi, by simp [rhoOf, hb, hx]⟩
 obtain ⟨hF0, hhF0⟩ := tree_ex F.h0
 have hF0m : ∀ i o, hF0.get i = some o → i < m := fun i o ho => by
  rw [hhF0] at ho; rw [hm]; exact (List.getElem?_eq_some_iff.1 ho).1
 have hargs : concL pF F.args = some xs := by
  rw [hpF, ltL_all (by rw [hm]; exact hF.a0)]
  exact concL_mono (rhoOf_le m3.le p) (m2 p xs ha)
 have hsF : Sat pF hF0 m w := by
  refine ⟨⟨fun i o ho => ?_, fun i j o o' x x' ho ho' hx hx' e => ?_⟩, fun i x hx => (hpF1 i x hx).1⟩
  ·have hi := hF0m i o ho
   obtain ⟨b, o', y, o2, e1, e2, e3, e4, e5, e6⟩ := hold i hi
   have : o2 = o := by rw [hhF0, e4] at ho; cases ho; rfl
   subst this
   refine ⟨y, hpF2 i b y hi e1 e3, ?_⟩
   rw [hpF]
   exact ltO_ok (by rw [hm]; exact allB_mem hF.o0 _ (List.mem_of_getElem? e4)) (e5 p y w e6)
  ·obtain ⟨e1, b, e2, e3⟩ := hpF1 i x hx
   obtain ⟨e4, c, e5, e6⟩ := hpF1 j x' hx'
   obtain ⟨b', o1, _, _, d1, d2, _⟩ := hold i e1
   obtain ⟨c', o2, _, _, d3, d4, _⟩ := hold j e4
   rw [e2] at d1; cases d1
   rw [e5] at d3; cases d3
   have := hs.wr.inj b c o1 o2 x x' d2 d4 e3 e6 e
   subst this
   have a1 := (hbij i b).1 e2
   have a2 := (hbij j b).1 e5
   rw [a1] at a2; cases a2; rfl
 have himgF : ∀ k, img pF hF0 k → img p h k := fun k hk => by
  obtain ⟨i, o, x, h1, h2, h3⟩ := hk
  obtain ⟨e1, b, e2, e3⟩ := hpF1 i x h2
  obtain ⟨b', o1, _, _, d1, d2, _⟩ := hold i e1
  rw [e2] at d1; cases d1
  exact ⟨b, o1, x, d2, e3, h3⟩
 refine (hF.call pF w xs hF0 hhF0 (by rw [← hm]; exact hsF) hargs).mono ?_
 rintro e w' ⟨r', x, hF1, rfl, hx, hhF1, hpost⟩
 rw [← hm, ← hL] at hpost
 obtain ⟨p', hp'⟩ : ∃ p' : Rho, p' = fun b => if b < n then p b else r' (b - n + m) := ⟨_, rfl⟩
 have hgp : ∀ i y, r' i = some y → p' (g i) = some y := fun i y hy => by
  rcases hpost.dom i y hy with e1 | ⟨e1, e2, _⟩
  ·obtain ⟨e2, b, e3, e4⟩ := hpF1 i y e1
   rw [hg1 i b e2 e3, hp']
   simp only [hs.bd b y e4, if_true, e4]
  ·rw [hg2 i e1, hp']
   have : ¬ (n + (i - m) < n) := by omega
   simp only [this, if_false]
   rw [show n + (i - m) - n + m = i by omega]; exact hy
 have hple : Rho.le p p' := fun b y hb => by
  rw [hp']
  simp only [hs.bd b y hb, if_true, hb]
 obtain ⟨l1, l2⟩ := layH_some hl2 (fun j k _ _ _ _ e => hginj j k e)
 simp only [Nat.zero_add] at l1 l2
 have hget : ∀ b o, h2.get b = some o → (∃ i o', b = g i ∧ F.h1[i]? = some o' ∧ o = rnO g o') ∨ ((∀ i, i < L → g i ≠ b) ∧ h.get b = some o) := fun b o hb => by
  by_cases hin : ∃ i, i < L ∧ g i = b
  ·obtain ⟨i, hi, rfl⟩ := hin
   rw [hL] at hi
   have := l1 i F.h1[i] (List.getElem?_eq_getElem hi)
   rw [hb] at this
   cases this
   exact .inl ⟨i, _, rfl, List.getElem?_eq_getElem hi, rfl⟩
  ·refine .inr ⟨fun i hi e => hin ⟨i, hi, e⟩, ?_⟩
   rw [← l2 b (fun j _ hj e => hin ⟨j, by rw [hL]; exact hj, e⟩)]; exact hb
 have hnimg : ∀ b o, (∀ i, i < L → g i ≠ b) → h.get b = some o → ∃ y, p b = some y ∧ ObR p y w o ∧ ¬ img pF hF0 y.1 := fun b o hno hb => by
  obtain ⟨y, hy, ho⟩ := hs.wr.ob b o hb
  refine ⟨y, hy, ho, ?_⟩
  rintro ⟨i, o', z, e1, e2, e3⟩
  obtain ⟨d1, c, d2, d3⟩ := hpF1 i z e2
  obtain ⟨c', o1, _, _, d4, d5, _⟩ := hold i d1
  rw [d2] at d4; cases d4
  have := hs.wr.inj c b o1 o z y d5 hb d3 hy e3
  subst this
  exact hno i (by omega) (hg1 i c d1 d2)
 have hr'get : ∀ i o', F.h1[i]? = some o' → ∃ y, r' i = some y ∧ ObR r' y w' o' ∧ i < L := fun i o' hi => by
  obtain ⟨y, e1, e2⟩ := hpost.wr.ob i o' (by rw [hhF1]; exact hi)
  exact ⟨y, e1, e2, by rw [hL]; exact (List.getElem?_eq_some_iff.1 hi).1⟩
 refine ⟨p', x, rfl, rn_ok hgp hx, hple, ⟨fun b o hb => ?_, fun b c o o' y z hb hc hy hz e => ?_⟩, ⟨hpost.fr.os, hpost.fr.tape, hpost.fr.output, hpost.fr.size, fun k hk hn => hpost.fr.block k hk (fun hi => hn (himgF k hi))⟩, fun b y hb => ?_, fun b o hb => ?_, Nat.le_add_right _ _⟩
 ·rcases hget b o hb with ⟨i, o', rfl, hi, rfl⟩ | ⟨hno, hb⟩
  ·obtain ⟨y, e1, e2, _⟩ := hr'get i o' hi
   exact ⟨y, hgp i y e1, rnO_ok hgp (allB_mem hF.o1 _ (List.mem_of_getElem? hi)) e2⟩
  ·obtain ⟨y, hy, ho, hni⟩ := hnimg b o hno hb
   exact ⟨y, hple b y hy, (ho.block (hpost.fr.block _ ho.lt hni)).mono hple⟩
 ·have cross : ∀ {b c o o' y z}, (∃ i o', b = g i ∧ F.h1[i]? = some o' ∧ o = rnO g o') → (∀ i, i < L → g i ≠ c) → h.get c = some o' → p' b = some y → p' c = some z → y.1 = z.1 → False := fun {b c o o' y z} h1 h2 h3 h4 h5 h6 => by
   obtain ⟨i, o1, rfl, hi, rfl⟩ := h1
   obtain ⟨y', e1, e2, _⟩ := hr'get i o1 hi
   have := hgp i y' e1
   rw [h4] at this; cases this
   obtain ⟨z', d1, d2, d3⟩ := hnimg c o' h2 h3
   have := hple c z' d1
   rw [h5] at this; cases this
   rcases hpost.img hsF ⟨i, o1, y, by rw [hhF1]; exact hi, e1, h6⟩ with hh | hh
   ·exact d3 hh
   ·have := d2.lt; omega
  rcases hget b o hb with h1 | ⟨h1, h1'⟩ <;> rcases hget c o' hc with h3 | ⟨h3, h3'⟩
  ·obtain ⟨i, o1, rfl, hi, rfl⟩ := h1
   obtain ⟨j, o2, rfl, hj, rfl⟩ := h3
   obtain ⟨y', e1, _, _⟩ := hr'get i o1 hi
   obtain ⟨z', e2, _, _⟩ := hr'get j o2 hj
   have a1 := hgp i y' e1
   rw [hy] at a1; cases a1
   have a2 := hgp j z' e2
   rw [hz] at a2; cases a2
   rw [hpost.wr.inj i j o1 o2 y z (by rw [hhF1]; exact hi) (by rw [hhF1]; exact hj) e1 e2 e]
  ·exact (cross h1 h3 h3' hy hz e).elim
  ·exact (cross h3 h1 h1' hz hy e.symm).elim
  ·obtain ⟨y', e1, _, _⟩ := hnimg b o h1 h1'
   obtain ⟨z', e2, _, _⟩ := hnimg c o' h3 h3'
   have a1 := hple b y' e1
   rw [hy] at a1; cases a1
   have a2 := hple c z' e2
   rw [hz] at a2; cases a2
   exact hs.wr.inj b c o o' y z h1' h3' e1 e2 e
 ·rw [hp'] at hb
  by_cases hbn : b < n
  ·simp only [hbn, if_true] at hb; exact .inl hb
  ·simp only [hbn, if_false] at hb
   right
   rcases hpost.dom _ _ hb with e1 | ⟨e1, e2, e3⟩
   ·have := (hpF1 _ _ e1).1; omega
   ·refine ⟨by omega, ?_, e3.imp id (himgF _)⟩
    show b < n + (F.h1.length - F.h0.length)
    rw [← hm, ← hL]; omega
 ·rcases hget b o hb with ⟨i, o', rfl, hi, rfl⟩ | ⟨hno, hb⟩
  ·rcases Nat.lt_or_ge i m with hi' | hi'
   ·obtain ⟨c, o1, _, _, d1, d2, _⟩ := hold i hi'
    rw [hg1 i c hi' d1]
    exact .inl ⟨o1, d2⟩
   ·rw [hg2 i hi']; exact .inr (Nat.le_add_right _ _)
  ·exact .inl ⟨o, hb⟩
theorem useL_ok {f : Nat} {args : List V} {q : VH} : ∀ {Fs : List Fact}, (∀ F ∈ Fs, FactOk P f F) → useL Fs args h n = some q → CallOk P f args h n q.v q.h q.n
 | [], _, hu => by cases hu
 | F :: Fs, hF, hu => by
  have hu : orO (useF F args h n) (useL Fs args h n) = some q := hu
  cases hc : useF F args h n with
  | some x =>
   rw [hc] at hu
   cases hu
   exact useF_ok (hF F List.mem_cons_self) hc
  | none =>
   rw [hc] at hu
   exact useL_ok (fun F' h' => hF F' (List.mem_cons_of_mem _ h')) hu
def FactsOk (P : Program) (facts : Nat → List Fact) : Prop := ∀ f, ∀ F ∈ facts f, FactOk P f F
theorem ex_ok {facts : Nat → List Fact} (he : EnOk P T en) (hm : P.follows .mixedOrders = true) (hf : FactsOk P facts) : ∀ k, IhOk P (ex en facts k) := by
 intro k
 induction k using Nat.strongRecOn with
 | _ k ih =>
  cases k with
  | zero => exact ⟨(fun h => by cases h), (fun h => by cases h), (fun h => by cases h)⟩
  | succ k =>
   have hih := ih k (Nat.lt_succ_self k)
   refine ⟨fun {f args h n v h' n'} hv => ?_, fun {l args h n v h' n'} hv => ?_, fun {c rd tm ds h n e tm' ds' h' n'} hv => ?_⟩
   ·have hv : orR (useL (facts f) args h n) (callF en (ex en facts k) f args h n) = .val v h' n' := hv
    cases hu : useL (facts f) args h n with
    | some q =>
     rw [hu] at hv
     have hc := useL_ok (hf f) hu
     cases hv
     exact hc
    | none =>
     rw [hu] at hv
     exact call_ok he hih hv
   ·have hv : bndR (h.get l) (yGo (ex en facts k) l args h n) = .val v h' n' := hv
    obtain ⟨o, ho, hv⟩ := bndR_some hv (fun h => by cases h)
    exact yld_ok hih ho hv
   ·have hv' : (cdF en c).g (ex en facts k) rd ⟨tm, ds, h, n⟩ = .code e tm' ds' h' n' := hv
    by_cases hl : ∃ b, c = .loop b
    ·obtain ⟨b, rfl⟩ := hl
     exact loop_ok ih hv
    ·by_cases hr : ∃ f ps asg body, c = .rangeFunc f ps asg body
     ·obtain ⟨f, ps, asg, body, rfl⟩ := hr
      exact rangeFunc_ok hih hv'
     ·exact code_ok he hm hih (fun b e => hl ⟨b, e⟩) (fun f ps asg body e => hr ⟨f, ps, asg, body, e⟩) hv'
theorem idR_some : ∀ {m : Nat} {r : Rn}, idR m = some r → Bij r ∧ ∀ i, i < m → r.a.get i = some i
 | 0, r, h => by
  cases h
  have gn : ∀ j, (Tr.nil : Tr Nat).get j = none := fun j => getP_nil _
  exact ⟨fun i b => by simp [gn], fun i hi => by omega⟩
 | m + 1, r, h => by
  obtain ⟨r1, h1, h⟩ := bnd_some (o := idR m) h
  obtain ⟨a, ha, h⟩ := bnd_some h
  obtain ⟨b, hb, h⟩ := bnd_some h
  cases h
  obtain ⟨g1, g2⟩ := idR_some h1
  have only : ∀ {m : Nat} {r : Rn}, idR m = some r → ∀ i c, r.a.get i = some c → i = c ∧ i < m := fun {m} => by
   induction m with
   | zero =>
    intro r h i c hc
    cases h
    have gn : ∀ j, (Tr.nil : Tr Nat).get j = none := fun j => getP_nil _
    rw [gn] at hc; cases hc
   | succ m ihm =>
    intro r h i c hc
    obtain ⟨r1, h1, h⟩ := bnd_some (o := idR m) h
    obtain ⟨a, ha, h⟩ := bnd_some h
    obtain ⟨b, hb, h⟩ := bnd_some h
    cases h
    simp only [put_get ha] at hc
    split at hc
    ·rename_i e; cases hc; exact ⟨e.symm, by omega⟩
    ·have := ihm h1 i c hc; exact ⟨this.1, by omega⟩
  refine ⟨fun i c => ?_, fun i hi => ?_⟩
  ·simp only [put_get ha, put_get hb]
   by_cases e1 : m = i
   ·subst e1
    by_cases e2 : m = c
    ·subst e2; simp
    ·rw [if_pos rfl, if_neg e2]
     constructor
     ·intro h; cases h; exact absurd rfl e2
     ·intro h
      have := (g1 m c).2 h
      have := only h1 m c this; omega
   ·rw [if_neg e1]
    by_cases e2 : m = c
    ·subst e2
     rw [if_pos rfl]
     constructor
     ·intro h
      have := only h1 i m h; omega
     ·intro h; cases h; exact absurd rfl e1
    ·rw [if_neg e2]; exact g1 i c
  ·rw [put_get ha]
   split
   ·rename_i e; rw [e]
   ·exact g2 i (by omega)
theorem factA_ok {f : Nat} {F : Fact} {v : V} {h h' : H} {n' : Nat} (hshape : shapeOk F F.h0.length F.h1.length = true) (hh : putsH F.h0 0 .nil = some h) (hcall : CallOk P f F.args h F.h0.length v h' n') (hc : endOk F F.h0.length (.val v h' n') = true) : FactOk P f F := by
 obtain ⟨s1, hshape⟩ := and2_true hshape
 obtain ⟨s2, hshape⟩ := and2_true hshape
 obtain ⟨s3, hshape⟩ := and2_true hshape
 obtain ⟨s4, s5⟩ := and2_true hshape
 have s1 := Nat.le_of_ble_eq_true s1
 have hget : ∀ b, h.get b = F.h0[b]? := fun b => by
  rw [putsH_some hh b]
  by_cases hb : b < F.h0.length
  ·rw [if_pos (by omega)]; simp
  ·rw [if_neg (by omega), List.getElem?_eq_none (by omega)]
   exact getP_nil _
 obtain ⟨r0, hr0, hc⟩ := isJ_true (o := idR F.h0.length) hc
 obtain ⟨r1, hr1, hc⟩ := isJ_true hc
 obtain ⟨rm, hrm⟩ := isS_some hc
 obtain ⟨b0, id0⟩ := idR_some hr0
 obtain ⟨m1, m2⟩ := mV_ok hr1
 obtain ⟨m3, m4⟩ := mH_ok hrm
 have hbij : Bij rm := (m1.trans m3).bij b0
 have hid : ∀ i, i < F.h0.length → rm.a.get i = some i := fun i hi => m3.le _ _ (m1.le _ _ (id0 i hi))
 refine ⟨hcall.1, s1, s2, s3, s5, fun r w xs hh2 hg2 hs ha => ?_⟩
 have hs' : Sat r h F.h0.length w := ⟨⟨fun b o hb => hs.wr.ob b o (by rw [hg2, ← hget]; exact hb), fun b b' o o' x x' e1 e2 => hs.wr.inj b b' o o' x x' (by rw [hg2, ← hget]; exact e1) (by rw [hg2, ← hget]; exact e2)⟩, hs.bd⟩
 have himg : ∀ k, img r h k → img r hh2 k := fun k hk => by
  obtain ⟨b, o, x, e1, e2, e3⟩ := hk
  exact ⟨b, o, x, by rw [hg2, ← hget]; exact e1, e2, e3⟩
 have himg' : ∀ k, img r hh2 k → img r h k := fun k hk => by
  obtain ⟨b, o, x, e1, e2, e3⟩ := hk
  exact ⟨b, o, x, by rw [hget, ← hg2]; exact e1, e2, e3⟩
 refine (hcall.2 r w xs hs' ha).mono ?_
 rintro e w' ⟨r', x, rfl, hxv, hpost⟩
 obtain ⟨hF1, hhF1⟩ := tree_ex F.h1
 obtain ⟨rF, hrF⟩ : ∃ rF, rF = cut F.h1.length (rhoOf rm r') := ⟨_, rfl⟩
 have hrF1 : ∀ i y, rF i = some y → i < F.h1.length ∧ ∃ b, rm.a.get i = some b ∧ r' b = some y := fun i y hy => by
  rw [hrF, cut_some] at hy
  obtain ⟨e1, e2⟩ := hy
  simp only [rhoOf, Option.bind_eq_some_iff] at e2
  exact ⟨e1, e2⟩
 have hrF2 : ∀ i b y, i < F.h1.length → rm.a.get i = some b → r' b = some y → rF i = some y := fun i b y hi hb hy => by
  rw [hrF, cut_some]
  exact ⟨hi, by simp [rhoOf, hb, hy]⟩
 have hnew : ∀ i o, F.h1[i]? = some o → ∃ b o' y, rm.a.get i = some b ∧ h'.get b = some o' ∧ r' b = some y ∧ ObR r' y w' o' ∧ ObR rF y w' o := fun i o hi => by
  obtain ⟨b, o', e1, e2, e3⟩ := m4 i o hi
  rw [Nat.zero_add] at e1
  obtain ⟨y, hy, ho⟩ := hpost.wr.ob b o' e2
  refine ⟨b, o', y, e1, e2, hy, ho, ?_⟩
  rw [hrF]
  exact ltO_ok (allB_mem s5 _ (List.mem_of_getElem? hi)) (e3 r' y w' ho)
 refine ⟨rF, x, hF1, rfl, ?_, hhF1, ⟨fun i y hy => ?_, ⟨fun i o hi => ?_, fun i j o o' y z hi hj hy hz e => ?_⟩, ⟨hpost.fr.os, hpost.fr.tape, hpost.fr.output, hpost.fr.size, fun k hk hn => hpost.fr.block k hk (fun hi => hn (himg k hi))⟩, fun i y hy => ?_, fun i o hi => ?_, s1⟩⟩
 ·rw [hrF, ltV_ok s4]
  exact conc_mono (rhoOf_le m3.le r') (m2 r' x hxv)
 ·have hi := hs.bd i y hy
  exact hrF2 i i y (by omega) (hid i hi) (hpost.ext i y hy)
 ·rw [hhF1] at hi
  obtain ⟨b, o', y, e1, e2, e3, e4, e5⟩ := hnew i o hi
  exact ⟨y, hrF2 i b y (List.getElem?_eq_some_iff.1 hi).1 e1 e3, e5⟩
 ·rw [hhF1] at hi hj
  obtain ⟨b, o1, y', e1, e2, e3, _⟩ := hnew i o hi
  obtain ⟨c, o2, z', d1, d2, d3, _⟩ := hnew j o' hj
  obtain ⟨_, b', f1, f2⟩ := hrF1 i y hy
  rw [e1] at f1; cases f1
  rw [e3] at f2; cases f2
  obtain ⟨_, c', f1, f2⟩ := hrF1 j z hz
  rw [d1] at f1; cases f1
  rw [d3] at f2; cases f2
  have := hpost.wr.inj b c o1 o2 y z e2 d2 e3 d3 e
  subst this
  have a1 := (hbij i b).1 e1
  have a2 := (hbij j b).1 d1
  rw [a1] at a2; cases a2; rfl
 ·obtain ⟨e1, b, e2, e3⟩ := hrF1 i y hy
  rcases Nat.lt_or_ge i F.h0.length with hi | hi
  ·have hb : b = i := by rw [hid i hi] at e2; cases e2; rfl
   subst hb
   rcases hpost.dom b y e3 with g1 | ⟨g1, _⟩
   ·exact .inl g1
   ·omega
  ·right
   rcases hpost.dom b y e3 with g1 | ⟨g1, g2, g3⟩
   ·have hb := hs.bd b y g1
    have a1 := (hbij b b).1 (hid b hb)
    have a2 := (hbij i b).1 e2
    rw [a1] at a2; cases a2; omega
   ·exact ⟨hi, e1, g3.imp id (himg _)⟩
 ·rw [hhF1] at hi
  rcases Nat.lt_or_ge i F.h0.length with hi' | hi'
  ·exact .inl ⟨F.h0[i], by rw [hg2]; exact List.getElem?_eq_getElem hi'⟩
  ·exact .inr hi'
theorem factOk_ok {facts : Nat → List Fact} {k f : Nat} {F : Fact} (hih : IhOk P (ex en facts k)) (hc : factOk en facts k f F = true) : FactOk P f F := by
 unfold factOk at hc
 rw [frc_eq, frc_eq, lenX_eq, lenX_eq] at hc
 obtain ⟨hshape, hc⟩ := and2_true hc
 obtain ⟨h, hh, hc⟩ := isJ_true hc
 cases hx : ex en facts k (.call f F.args h F.h0.length) with
 | code => rw [hx] at hc; cases hc
 | bad => rw [hx] at hc; cases hc
 | val v h' n' =>
  rw [hx] at hc
  exact factA_ok hshape hh (hih.call hx) hc
end
def enumT {α : Type} : Tr α → List (Nat × α)
  | .nil => []
  | .node v l r => (match v with | some x => [(0, x)] | none => []) ++ ((enumT l).map (fun q => (2 * q.1 + 1, q.2)) ++ (enumT r).map (fun q => (2 * q.1 + 2, q.2)))
theorem enumT_mem {α : Type} {x : α} : ∀ {t : Tr α} {p : List Bool}, getP p t = some x → (unpath p, x) ∈ enumT t
 | .nil, p, h => by rw [getP_nil] at h; cases h
 | .node v l r, [], h => by
  have h : v = some x := h
  subst h
  exact List.mem_append_left _ List.mem_cons_self
 | .node v l r, b :: p, h => by
  rw [getP_cons] at h
  refine List.mem_append_right _ ?_
  cases b with
  | true => exact List.mem_append_left _ (List.mem_map.2 ⟨(unpath p, x), enumT_mem h, rfl⟩)
  | false => exact List.mem_append_right _ (List.mem_map.2 ⟨(unpath p, x), enumT_mem h, rfl⟩)
theorem get_mem {α : Type} {x : α} {t : Tr α} {n : Nat} (h : t.get n = some x) : (n, x) ∈ enumT t := by
 have := enumT_mem h
 rwa [show unpath (path n) = n from unpath_pathF n n (Nat.le_refl _)] at this
theorem map_eq_at {α β : Type} {f g : α → β} : ∀ {l : List α}, l.map f = l.map g → ∀ x ∈ l, f x = g x
 | [], _, x, hx => by cases hx
 | y :: l, h, x, hx => by
  have h' := List.cons.inj h
  rcases List.mem_cons.1 hx with rfl | hx
  ·exact h'.1
  ·exact map_eq_at h'.2 x hx
def tiOf (e : TD) (o : Option (List V)) : TI := ⟨e.k, e.size, e.bytes, o.getD []⟩
noncomputable def fiOf (fn : Func) : FI := ⟨fn.body.getD .ret, fn.results.toList, fn.ntmps⟩
noncomputable def tyB (T : Tab) (t : Nat) : Bool := isJ (T.at t) fun e => e.k.known && (Nat.beq e.zero.length e.size && isS (absL e.zero))
def fnB (P : Program) (f : Nat) : Bool := match P.funcs[f]? with | some fn => !(fn.name == "runtime.NumGoroutine") && fn.body.isSome | none => false
noncomputable def ztB (P : Program) (en : Env) (t : Nat) : Bool := isJ (en.TT.get t) fun d => isJ (P.info? t) fun i => isJ i.zero fun z => isJ (absC z) fun x => veq x (zeroV d)
theorem EnOk.of {P : Program} {T : Tab} {en : Env} (tab : TabOk P T)
  (h1 : (enumT en.TT).map (fun q => some q.2) = (enumT en.TT).map (fun q => (T.at q.1).map fun e => tiOf e (absL e.zero)))
  (h2 : (enumT en.TT).all (fun q => tyB T q.1) = true)
  (h3 : (enumT en.FT).map (fun q => some q.2) = (enumT en.FT).map (fun q => P.funcs[q.1]?.map fiOf))
  (h4 : (enumT en.FT).all (fun q => fnB P q.1) = true)
  (h5 : en.ZT.all (ztB P en) = true)
  (mt : ∀ m ∈ en.MT, ∀ (v : Value) (args : Array Value) (w : World), (callMethod (.iface m.1 v) m.2.1 args).run P w = .ok (.enter m.2.2 (#[v] ++ args)) w) : EnOk P T en := by
 refine ⟨tab, fun t d h => ?_, fun f fi h => ?_, fun t ht => ?_, mt⟩
 ·have hm := get_mem h
  have e1 := map_eq_at h1 _ hm
  have e2 := List.all_eq_true.1 h2 _ hm
  obtain ⟨e, h5, h6⟩ := isJ_true e2
  simp only [h5, Option.map_some, Option.some.injEq] at e1
  simp only [Bool.and_eq_true] at h6
  obtain ⟨z, hz⟩ := isS_some h6.2.2
  subst e1
  refine ⟨e, h5, h6.1, rfl, rfl, rfl, beq_true h6.2.1, fun r => ?_⟩
  show concL r ((absL e.zero).getD []) = _
  rw [hz]
  exact absL_conc hz
 ·have hm := get_mem h
  have e1 := map_eq_at h3 _ hm
  have e2 := List.all_eq_true.1 h4 _ hm
  cases hf : P.funcs[f]? with
  | none => simp only [fnB, hf] at e2; cases e2
  | some fn =>
   simp only [hf, Option.map_some, Option.some.injEq] at e1
   simp only [fnB, hf, Bool.and_eq_true, Bool.not_eq_true'] at e2
   subst e1
   refine ⟨fn, rfl, ?_, rfl, rfl, Enters.of hf e2.1 e2.2⟩
   obtain ⟨b, hb⟩ := Option.isSome_iff_exists.1 e2.2
   simp [fiOf, hb]
 ·obtain ⟨d, h6, h7⟩ := isJ_true (List.all_eq_true.1 h5 t ht)
  obtain ⟨i, h8, h7⟩ := isJ_true h7
  obtain ⟨z, h9, h7⟩ := isJ_true h7
  obtain ⟨x, h10, h7⟩ := isJ_true h7
  exact ⟨d, i, z, h6, h8, h9, fun r => by rw [← veq_eq h7]; exact absC_conc h10⟩
noncomputable def oneIh (q0 : Req) (x : Rs) (q : Req) : Rs := open Classical in if q = q0 then x else .bad
section
variable {P : Program} {T : Tab} {en : Env} {c x y : Code} {rd : Option Nat} {e e1 : Ex} {s s1 s2 s' : St} {ih : Req → Rs}
def CodeS (P : Program) (c : Code) (rd : Option Nat) (s : St) (e : Ex) (s' : St) : Prop := CodeOk P c rd s.tm s.ds s.h s.n e s'.tm s'.ds s'.h s'.n
noncomputable def isC (e : Ex) (s : St) : Rs := .code e s.tm s.ds s.h s.n
theorem oneIh_ok (hc : CodeS P c rd s e s') : IhOk P (oneIh (rqC c rd s) (isC e s')) := by
 refine ⟨fun hv => ?_, fun hv => ?_, fun hv => ?_⟩
 ·unfold oneIh at hv; split at hv
  ·cases hv
  ·cases hv
 ·unfold oneIh at hv; split at hv
  ·cases hv
  ·cases hv
 ·unfold oneIh at hv; split at hv
  ·rename_i hq
   cases hq
   cases hv
   exact hc
  ·cases hv
theorem oneIh_at (q : Req) (x : Rs) : oneIh q x q = x := by unfold oneIh; exact if_pos rfl
theorem CodeS.seq (hx : CodeS P x rd s .nrm s1) (hy : CodeS P y rd s1 e s') : CodeS P (.seq x y) rd s e s' :=
 seq_ok (oneIh_ok hy) hx (oneIh_at _ _)
theorem CodeS.block {id : Nat} (he : EnOk P T en) (hm : P.follows .mixedOrders = true) (hx : CodeS P x rd s e1 s1) (hv : blkR id (isC e1 s1) = isC e s') : CodeS P (.block id x) rd s e s' :=
 code_ok he hm (oneIh_ok hx) (fun _ h => by cases h) (fun _ _ _ _ h => by cases h) (by
  show blkR id (oneIh (rqC x rd s) (isC e1 s1) (rqC x rd ⟨s.tm, s.ds, s.h, s.n⟩)) = _
  rw [oneIh_at]; exact hv)
inductive Rds (P : Program) (c : Code) (rd : Option Nat) : Nat → St → Ex → St → Prop where
  | last {s : St} {e : Ex} {s' : St} : CodeS P c rd s e s' → e ≠ .nrm → Rds P c rd 0 s e s'
  | round {j : Nat} {s s1 : St} {e : Ex} {s' : St} : CodeS P c rd s .nrm s1 → Rds P c rd j s1 e s' → Rds P c rd (j + 1) s e s'
theorem Rds.ok {j : Nat} (hl : Rds P c rd j s e s') : CodeS P (.loop c) rd s e s' := by
 intro r w a R hs ha hR
 refine wpIn_loop_rank (fun j a1 w1 => ∃ r1 s1, Post r s.h s.n w r1 s1.h s1.n w1 ∧ AcR r1 s1.tm s1.ds a1 ∧ Rds P c rd j s1 e s') (k0 := j) ⟨r, s, .refl hs, ha, hl⟩ ?_
 rintro j a1 w1 ⟨r1, s1, hp1, ha1, hl1⟩
 cases hl1 with
 | last hc hne =>
  refine wpIn_mono (hc r1 w1 a1 R (hp1.st hs) ha1 (rdO_mono hp1.ext hR)) ?_
  rintro e' a' w' ⟨rfl, r', ha', hp⟩
  cases e with
  | nrm => exact absurd rfl hne
  | exit id => exact ⟨rfl, r', ha', hp1.trans hs hp⟩
  | ret => exact ⟨rfl, r', ha', hp1.trans hs hp⟩
 | round hc hl2 =>
  refine wpIn_mono (hc r1 w1 a1 R (hp1.st hs) ha1 (rdO_mono hp1.ext hR)) ?_
  rintro e' a' w' ⟨rfl, r', ha', hp⟩
  exact ⟨_, Nat.lt_succ_self _, r', _, hp1.trans hs hp, ha', hl2⟩
noncomputable def nrmS (x : Rs) : Option St := Rs.rec (fun e tm ds h n => Ex.rec (some ⟨tm, ds, h, n⟩) (fun _ => none) none e) (fun _ _ _ => none) none x
noncomputable def roundsF (ih : Req → Rs) (c : Code) (rd : Option Nat) : Nat → St → Option St := Nat.rec some (fun _ r s => bnd (nrmS (ih (rqC c rd s))) r)
noncomputable def lastF (ih : Req → Rs) (c : Code) (rd : Option Nat) : Nat → St → Rs := Nat.rec (fun _ => .bad) (fun _ r s => onC (ih (rqC c rd s)) fun e s' => Ex.rec (r s') (fun _ => atC e s') (atC e s') e)
theorem nrmS_some {x : Rs} (h : nrmS x = some s) : x = isC .nrm s := by
 cases x with
 | code e tm ds h n =>
  cases e with
  | nrm => cases h; rfl
  | exit => cases h
  | ret => cases h
 | val => cases h
 | bad => cases h
theorem Rds.lasts (hih : IhOk P ih) : ∀ {j : Nat} {s : St}, lastF ih c rd j s = isC e s' → ∃ k, Rds P c rd k s e s'
 | 0, s, h => by cases h
 | j + 1, s, h => by
  have h : onC (ih (rqC c rd s)) (fun e s1 => Ex.rec (lastF ih c rd j s1) (fun _ => atC e s1) (atC e s1) e) = isC e s' := h
  obtain ⟨e1, tm, ds, h1, n, hx, h⟩ := onC_code h (fun h => by cases h)
  have hc := hih.code hx
  cases e1 with
  | nrm =>
   obtain ⟨k, hk⟩ := Rds.lasts hih (s := ⟨tm, ds, h1, n⟩) h
   exact ⟨k + 1, .round (s1 := ⟨tm, ds, h1, n⟩) hc hk⟩
  | exit id =>
   obtain ⟨rfl, rfl, rfl, rfl, rfl⟩ := atC_eq h
   exact ⟨0, .last hc (fun h => by cases h)⟩
  | ret =>
   obtain ⟨rfl, rfl, rfl, rfl, rfl⟩ := atC_eq h
   exact ⟨0, .last hc (fun h => by cases h)⟩
theorem CodeS.loop (hl : ∃ k, Rds P c rd k s e s') : CodeS P (.loop c) rd s e s' := let ⟨_, hk⟩ := hl; hk.ok
noncomputable def subT {α : Type} (q : α → α → Bool) : Tr α → Tr α → Bool := Tr.rec (fun _ => true) (fun v _ _ il ir t => and2 (Option.rec true (fun x => isJ t.root (q x)) v) (and2 (il (t.kid true)) (ir (t.kid false))))
noncomputable def esEq (es : List (V × V)) : List (V × V) → Bool := List.rec (fun ws => List.rec true (fun _ _ _ => false) ws) (fun x _ ih ws => List.rec false (fun y ws _ => and2 (veq x.1 y.1) (and2 (veq x.2 y.2) (ih ws))) ws) es
noncomputable def hoEq (a b : HO) : Bool := HO.rec (fun t cs => isJ (cellOf b) fun q => and2 (Nat.beq t q.t) (veqL cs q.cs)) (fun t k cs => isJ (growOf b) fun q => and2 (Nat.beq t q.t) (and2 (Nat.beq k q.k) (veqL cs q.cs))) (fun es => isJ (mapOf b) (esEq es)) (fun _ _ _ _ _ _ _ _ => false) false a
noncomputable def subSt (a b : St) : Bool := and2 (subT veq a.tm b.tm) (and2 (subT hoEq a.h b.h) (and2 (Nat.ble b.n a.n) (and2 (nilL a.ds) (nilL b.ds))))
noncomputable def exEq (a b : Ex) : Bool := and2 (Nat.beq (jumpOf a).1 (jumpOf b).1) (Nat.beq (jumpOf a).2 (jumpOf b).2)
noncomputable def subRs (e : Ex) (a : St) (x : Rs) : Bool := Rs.rec (fun e' tm ds h n => and2 (exEq e e') (subSt a ⟨tm, ds, h, n⟩)) (fun _ _ _ => false) false x
theorem exEq_eq {a b : Ex} (h : exEq a b = true) : a = b := by
 obtain ⟨h1, h2⟩ := and2_true h
 have h1 := beq_true h1
 have h2 := beq_true h2
 cases a <;> cases b <;> simp_all [jumpOf]
theorem subT_ok {α : Type} {q : α → α → Bool} (hq : ∀ x y, q x y = true → x = y) : ∀ {a b : Tr α}, subT q a b = true → ∀ p x, getP p a = some x → getP p b = some x
 | .nil, b, _, p, x, hx => by rw [getP_nil] at hx; cases hx
 | .node v l r, b, h, p, x, hx => by
  obtain ⟨h1, h2⟩ := and2_true h
  obtain ⟨h2, h3⟩ := and2_true h2
  cases p with
  | nil =>
   have hx : v = some x := hx
   subst hx
   obtain ⟨y, e1, e2⟩ := isJ_true (o := b.root) h1
   rw [hq x y e2]; exact e1
  | cons c p =>
   rw [getP_cons] at hx
   cases c with
   | true => exact subT_ok hq h2 p x hx
   | false => exact subT_ok hq h3 p x hx
theorem esEq_eq : ∀ {a b : List (V × V)}, esEq a b = true → a = b
 | [], [], _ => rfl
 | [], _ :: _, h => by cases h
 | _ :: _, [], h => by cases h
 | (x1, x2) :: a, (y1, y2) :: b, h => by
  obtain ⟨h1, h⟩ := and2_true h
  obtain ⟨h2, h⟩ := and2_true h
  rw [veq_eq (v := x1) (w := y1) h1, veq_eq (v := x2) (w := y2) h2, esEq_eq h]
theorem hoEq_eq {a b : HO} (h : hoEq a b = true) : a = b := by
 cases a with
 | cells t cs =>
  obtain ⟨q, e1, h⟩ := isJ_true (o := cellOf b) h
  obtain ⟨h1, h2⟩ := and2_true h
  cases b <;> cases e1
  rw [beq_true h1, veqL_eq h2]
 | grow t k cs =>
  obtain ⟨q, e1, h⟩ := isJ_true (o := growOf b) h
  obtain ⟨h1, h⟩ := and2_true h
  obtain ⟨h2, h3⟩ := and2_true h
  cases b <;> cases e1
  rw [beq_true h1, beq_true h2, veqL_eq h3]
 | map es =>
  obtain ⟨q, e1, h⟩ := isJ_true (o := mapOf b) h
  cases b <;> cases e1
  rw [esEq_eq h]
 | loop => cases h
 | dfr => cases h
theorem nilL_eq {α : Type} {xs : List α} (h : nilL xs = true) : xs = [] := by
 cases xs with
 | nil => rfl
 | cons => cases h
theorem CodeS.sub (hc : CodeS P c rd s e s1) (h : subSt s' s1 = true) : CodeS P c rd s e s' := by
 obtain ⟨h1, h⟩ := and2_true h
 obtain ⟨h2, h⟩ := and2_true h
 obtain ⟨h3, h⟩ := and2_true h
 obtain ⟨h4, h5⟩ := and2_true h
 have g1 := subT_ok (fun _ _ => veq_eq) h1
 have g2 : ∀ b o, s'.h.get b = some o → s1.h.get b = some o := fun b o hb => subT_ok (fun _ _ => hoEq_eq) h2 _ _ hb
 intro r w a R hs ha hR
 refine wpIn_mono (hc r w a R hs ha hR) ?_
 rintro e' a' w' ⟨rfl, r', ha', hp⟩
 refine ⟨rfl, r', ⟨fun t v hv => ha'.tm t v (g1 _ _ hv), ?_⟩, Post.more ?_ (Nat.le_of_ble_eq_true h3)⟩
 ·rw [nilL_eq h4, ← nilL_eq h5]; exact ha'.df
 ·exact ⟨hp.ext, ⟨fun b o hb => hp.wr.ob b o (g2 b o hb), fun b b' o o' x x' hb hb' => hp.wr.inj b b' o o' x x' (g2 b o hb) (g2 b' o' hb')⟩, hp.fr, hp.dom, fun b o hb => hp.keep b o (g2 b o hb), hp.le⟩
theorem subRs_some {x : Rs} (h : subRs e s' x = true) : ∃ s1, x = isC e s1 ∧ subSt s' s1 = true := by
 cases x with
 | code e' tm ds hh n =>
  obtain ⟨h1, h2⟩ := and2_true h
  rw [exEq_eq h1]
  exact ⟨⟨tm, ds, hh, n⟩, rfl, h2⟩
 | val => cases h
 | bad => cases h
theorem CodeS.runB (hih : IhOk P ih) (hv : subRs e s' (ih (rqC c rd s)) = true) : CodeS P c rd s e s' := by
 obtain ⟨s1, h1, h2⟩ := subRs_some hv
 exact CodeS.sub (hih.code h1) h2
theorem Rds.sub : ∀ {k : Nat} {s : St}, Rds P c rd k s e s1 → subSt s' s1 = true → Rds P c rd k s e s'
 | _, _, .last hc hn, h => .last (hc.sub h) hn
 | _, _, .round hc hl, h => .round hc (Rds.sub hl h)
theorem CodeS.lastB {j : Nat} (hih : IhOk P ih) (hv : subRs e s' (lastF ih c rd j s) = true) : ∃ k, Rds P c rd k s e s' := by
 obtain ⟨s1, h1, h2⟩ := subRs_some hv
 obtain ⟨k, hk⟩ := Rds.lasts hih h1
 exact ⟨k, Rds.sub hk h2⟩
theorem CodeS.roundsB (hih : IhOk P ih) : ∀ {j : Nat} {s : St}, isJ (roundsF ih c rd (j + 1) s) (subSt s1) = true → (∃ k, Rds P c rd k s1 e s') → ∃ k, Rds P c rd k s e s'
 | 0, s, h, ⟨k, hk⟩ => by
  obtain ⟨s2, h1, h2⟩ := isJ_true h
  obtain ⟨s3, h3, h1⟩ := bnd_some (o := nrmS (ih (rqC c rd s))) h1
  cases h1
  exact ⟨k + 1, .round (CodeS.sub (hih.code (nrmS_some h3)) h2) hk⟩
 | j + 1, s, h, hl => by
  obtain ⟨s2, h1, h2⟩ := isJ_true h
  obtain ⟨s3, h3, h1⟩ := bnd_some (o := nrmS (ih (rqC c rd s))) h1
  have h1 : roundsF ih c rd (j + 1) s3 = some s2 := h1
  obtain ⟨k, hk⟩ := CodeS.roundsB hih (j := j) (s := s3) (by rw [h1]; exact h2) hl
  exact ⟨k + 1, .round (hih.code (nrmS_some h3)) hk⟩
def sub1 (b : Bool) (c : Code) : Code := match c with
  | .seq x y => bif b then x else y
  | .block _ x => x
  | .scope x => x
  | .loop x => x
  | c => c
noncomputable def subC (p : List Bool) (c : Code) : Code := List.rec (fun c => c) (fun b _ ih c => ih (sub1 b c)) p c
theorem CodeS.seqE (hc : c = .seq x y) (hx : CodeS P x rd s .nrm s1) (hy : CodeS P y rd s1 e s') : CodeS P c rd s e s' := by rw [hc]; exact hx.seq hy
theorem CodeS.blockE {id : Nat} (he : EnOk P T en) (hm : P.follows .mixedOrders = true) (hc : c = .block id x) (hx : CodeS P x rd s e1 s1) (hv : blkR id (isC e1 s1) = isC e s') : CodeS P c rd s e s' := by rw [hc]; exact CodeS.block he hm hx hv
theorem CodeS.loopE (hc : c = .loop x) (hl : ∃ k, Rds P x rd k s e s') : CodeS P c rd s e s' := by rw [hc]; exact CodeS.loop hl
noncomputable def z (n : Nat) : V := .i .i64 (.ofNat n)
noncomputable def zs (ns : List Nat) : List V := List.rec [] (fun n _ ih => z n :: ih) ns
noncomputable def updT {α : Type} (l : List (Nat × Option α)) : Tr α → Tr α := List.rec (fun t => t) (fun q _ ih t => ih (Option.rec t (fun t => t) (t.put q.1 q.2))) l
noncomputable def fcs (l : List (Nat × Fact)) (f : Nat) : List Fact := List.rec [] (fun q _ ih => Bool.rec ih (q.2 :: ih) (Nat.beq q.1 f)) l
theorem FactsOk.nil : FactsOk P (fcs []) := fun _ _ h => by cases h
theorem FactsOk.add {f : Nat} {F : Fact} {l : List (Nat × Fact)} (hF : FactOk P f F) (hl : FactsOk P (fcs l)) : FactsOk P (fcs ((f, F) :: l)) := fun g G hG => by
 have hG : G ∈ (Bool.rec (fcs l g) (F :: fcs l g) (Nat.beq f g) : List Fact) := hG
 cases hb : Nat.beq f g with
 | false => rw [hb] at hG; exact hl g G hG
 | true =>
  rw [hb] at hG
  rw [← beq_true hb]
  rcases List.mem_cons.1 hG with rfl | hG
  ·exact hF
  ·rw [beq_true hb]; exact hl g G hG
theorem callX_ok {f : Nat} {fi : FI} {args : List V} {tm : Tm} {h h' : H} {n n' : Nat} {v : V} (he : EnOk P T en) (hfi : en.FT.get f = some fi) (htm : argsT args 0 (allT undefV fi.nt fi.nt) = some tm) (hc : CodeS P fi.body none ⟨tm, [], h, n⟩ e s1)
  (hv : retR en fi.res (isC e s1) = .val v h' n') : CallOk P f args h n v h' n' := by
 refine call_ok he (oneIh_ok hc) ?_
 show bndR (en.FT.get f) (fun fi => bndR (argsT args 0 (allT undefV fi.nt fi.nt)) fun tm => retR en fi.res (oneIh _ _ (.code fi.body none tm [] h n))) = _
 rw [hfi]
 show bndR (argsT args 0 (allT undefV fi.nt fi.nt)) (fun tm => retR en fi.res (oneIh _ _ (.code fi.body none tm [] h n))) = _
 rw [htm]
 show retR en fi.res (oneIh (rqC fi.body none ⟨tm, [], h, n⟩) (isC e s1) (.code fi.body none tm [] h n)) = _
 rw [show Req.code fi.body none tm [] h n = rqC fi.body none ⟨tm, [], h, n⟩ from rfl, oneIh_at]
 exact hv
end
theorem FactOk.toV {P : Program} {f : Nat} {F : Fact} {R : Ro} {y : Value} (hF : FactOk P f F) (ha : F.args = []) (h0 : F.h0 = []) (hv : ∀ r, conc r F.v = some y) : FnV P f [] R y := by
 intro w0 E w h
 have hn : ∀ b, (.nil : H).get b = none := fun b => getP_nil _
 have hs : Sat (fun _ => none) (.nil : H) F.h0.length w := ⟨⟨fun b o hb => (by rw [hn] at hb; cases hb), fun b b' o o' x x' _ _ hx => (by cases hx)⟩, fun b x hx => (by cases hx)⟩
 refine (hF.call (fun _ => none) w [] .nil (fun b => by rw [h0]; exact getP_nil _) hs (by rw [ha]; rfl)).mono ?_
 rintro e w' ⟨r', x, h', rfl, hx, _, hp⟩
 rw [hv r'] at hx
 cases hx
 have hb : Below w.heap.size w w' := ⟨hp.fr.os, hp.fr.tape, hp.fr.output, hp.fr.size, fun k hk => hp.fr.block k hk (by
  rintro ⟨b, o, x, _, hx, _⟩
  cases hx)⟩
 exact ⟨rfl, ⟨h.below.trans (hb.mono h.below.size), fun b cs hr => by
  obtain ⟨T, fz, h1⟩ := h.ro b cs hr
  exact ⟨T, fz, by rw [hb.block b (h.ro_lt hr)]; exact h1⟩, fun e he => Ent.ok_of_block (h.own e he) (fun b hbk => hb.block b (h.lt he hbk)), h.disj, h.nodup⟩⟩
end Go.Proofs.YtehaepbflkncdaaGreat.I
namespace Go.Proofs.YtehaepbflkncdaaGreat.I
open Go Go.Proofs.YtehaepbflkncdaaGreat.K
noncomputable def iTT : Tr TI := (.node none (.node (some ⟨.fn, 1, 8, [.nf]⟩) (.node (some ⟨.int .i64, 1, 8, [.i .i64 0]⟩) (.node (some ⟨.strct [(0, 1), (1, 1), (2, 1), (3, 1)], 4, 24, [.i .i64 0, .i .i64 0, .b false, .i .u8 0]⟩) (.node (some ⟨.ptr 289, 1, 8, [.p none]⟩) (.node (some ⟨.fn, 1, 8, [.nf]⟩) (.node (some ⟨.strct [(0, 1)], 1, 24, [.sl none 0 (some 0)]⟩) (.node (some ⟨.fn, 1, 8, [.nf]⟩) .nil .nil) (.node (some ⟨.strct [], 0, 0, []⟩) .nil .nil)) (.node none (.node (some ⟨.strct [(0, 3), (3, 1), (4, 1), (5, 1)], 6, 112, [.sl none 0 (some 0), .sl none 0 (some 0), .sl none 0 (some 0), .sl none 0 (some 0), .i .i64 0, .p none]⟩) .nil .nil) .nil)) (.node (some ⟨.slice 55, 1, 24, [.sl none 0 (some 0)]⟩) (.node (some ⟨.fn, 1, 8, [.nf]⟩) .nil (.node (some ⟨.fn, 1, 8, [.nf]⟩) .nil .nil)) (.node (some ⟨.fn, 1, 8, [.nf]⟩) .nil .nil))) (.node (some ⟨.fn, 1, 8, [.nf]⟩) (.node (some ⟨.strct [(0, 1), (1, 1), (2, 1), (3, 2), (5, 3)], 8, 104, [.s ⟨#[]⟩, .sl none 0 (some 0), .i .i64 0, .i .i64 0, .i .i64 0, .sl none 0 (some 0), .i .i64 0, .i .i64 0]⟩) (.node (some ⟨.fn, 1, 8, [.nf]⟩) (.node (some ⟨.fn, 1, 8, [.nf]⟩) .nil .nil) (.node (some ⟨.fn, 1, 8, [.nf]⟩) .nil .nil)) (.node (some ⟨.fn, 1, 8, [.nf]⟩) (.node none (.node (some ⟨.fn, 1, 8, [.nf]⟩) .nil .nil) .nil) (.node (some ⟨.fn, 1, 8, [.nf]⟩) .nil .nil))) (.node (some ⟨.strct [(0, 1), (1, 1), (2, 1)], 3, 24, [.i .i64 0, .i .i64 0, .i .i64 0]⟩) (.node (some ⟨.strct [(0, 1), (1, 1), (2, 1), (3, 1)], 4, 48, [.b false, .i .i64 0, .i .i64 0, .sl none 0 (some 0)]⟩) (.node (some ⟨.fn, 1, 8, [.nf]⟩) (.node (some ⟨.strct [(0, 3), (3, 3), (6, 1), (7, 1)], 8, 96, [.sl none 0 (some 0), .i .i64 0, .i .i64 0, .sl none 0 (some 0), .i .i64 0, .i .i64 0, .i .i64 0, .b false]⟩) .nil .nil) .nil) (.node (some ⟨.fn, 1, 8, [.nf]⟩) .nil .nil)) (.node (some ⟨.strct [(0, 4), (4, 1)], 5, 72, [.b false, .i .i64 0, .i .i64 0, .sl none 0 (some 0), .sl none 0 (some 0)]⟩) (.node (some ⟨.fn, 1, 8, [.nf]⟩) .nil .nil) .nil)))) (.node (some ⟨.str, 1, 16, [.s ⟨#[]⟩]⟩) (.node (some ⟨.strct [(0, 1)], 1, 8, [.p none]⟩) (.node (some ⟨.strct [(0, 1), (1, 1)], 2, 16, [.i .i64 0, .i .i64 0]⟩) (.node (some ⟨.fn, 1, 8, [.nf]⟩) (.node (some ⟨.fn, 1, 8, [.nf]⟩) .nil .nil) (.node (some ⟨.fn, 1, 8, [.nf]⟩) .nil .nil)) (.node (some ⟨.fn, 1, 8, [.nf]⟩) (.node none (.node (some ⟨.strct [(0, 0)], 0, 0, []⟩) .nil .nil) .nil) .nil)) (.node (some ⟨.fn, 1, 8, [.nf]⟩) (.node (some ⟨.fn, 1, 8, [.nf]⟩) (.node (some ⟨.fn, 1, 8, [.nf]⟩) (.node (some ⟨.fn, 1, 8, [.nf]⟩) .nil .nil) .nil) (.node (some ⟨.fn, 1, 8, [.nf]⟩) .nil .nil)) (.node (some ⟨.fn, 1, 8, [.nf]⟩) (.node (some ⟨.strct [(0, 3), (3, 1), (4, 1)], 5, 40, [.i .i64 0, .i .i64 0, .i .i64 0, .i .i64 0, .i .i64 0]⟩) (.node (some ⟨.slice 4, 1, 24, [.sl none 0 (some 0)]⟩) .nil .nil) .nil) (.node (some ⟨.fn, 1, 8, [.nf]⟩) .nil .nil)))) (.node (some ⟨.slice 33, 1, 24, [.sl none 0 (some 0)]⟩) (.node none (.node (some ⟨.fn, 1, 8, [.nf]⟩) (.node (some ⟨.map 3 98, 1, 8, [.m none]⟩) .nil .nil) .nil) (.node (some ⟨.fn, 1, 8, [.nf]⟩) (.node (some ⟨.int .u32, 1, 4, [.i .u32 0]⟩) (.node (some ⟨.strct [(0, 1), (1, 1), (2, 1), (3, 1), (4, 1), (5, 1), (6, 1), (7, 1), (8, 1), (9, 1), (10, 1)], 11, 48, [.i .u64 0, .i .u64 0, .i .u32 0, .i .u8 0, .i .u8 0, .i .u8 0, .i .u8 0, .nf, .p none, .i .i32 0, .i .i32 0]⟩) .nil .nil) .nil) .nil)) (.node (some ⟨.strct [(0, 1), (1, 1)], 2, 48, [.sl none 0 (some 0), .sl none 0 (some 0)]⟩) (.node (some ⟨.strct [(0, 4), (4, 1)], 5, 72, [.b false, .i .i64 0, .i .i64 0, .sl none 0 (some 0), .sl none 0 (some 0)]⟩) (.node (some ⟨.fn, 1, 8, [.nf]⟩) .nil .nil) .nil) (.node (some ⟨.int .u64, 1, 8, [.i .u64 0]⟩) (.node (some ⟨.strct [], 0, 0, []⟩) .nil .nil) .nil))))) (.node (some ⟨.int .u8, 1, 1, [.i .u8 0]⟩) (.node (some ⟨.str, 1, 16, [.s ⟨#[]⟩]⟩) (.node (some ⟨.ptr 300, 1, 8, [.p none]⟩) (.node (some ⟨.strct [(0, 1), (1, 1), (2, 1), (3, 1), (4, 1)], 5, 72, [.i .i64 0, .i .i64 0, .i .i64 0, .sl none 0 (some 0), .sl none 0 (some 0)]⟩) (.node none (.node (some ⟨.strct [(0, 1), (1, 1)], 2, 48, [.sl none 0 (some 0), .sl none 0 (some 0)]⟩) .nil .nil) (.node (some ⟨.fn, 1, 8, [.nf]⟩) .nil .nil)) (.node (some ⟨.fn, 1, 8, [.nf]⟩) (.node (some ⟨.fn, 1, 8, [.nf]⟩) (.node (some ⟨.strct [(0, 1), (1, 1), (2, 1), (3, 1)], 4, 40, [.p none, .p none, .p none, .s ⟨#[]⟩]⟩) .nil .nil) .nil) (.node (some ⟨.strct [(0, 3), (3, 3), (6, 1), (7, 1)], 8, 96, [.sl none 0 (some 0), .i .i64 0, .i .i64 0, .sl none 0 (some 0), .i .i64 0, .i .i64 0, .i .i64 0, .b false]⟩) .nil .nil))) (.node (some ⟨.fn, 1, 8, [.nf]⟩) (.node none (.node (some ⟨.map 3 4, 1, 8, [.m none]⟩) .nil .nil) (.node (some ⟨.fn, 1, 8, [.nf]⟩) .nil .nil)) (.node (some ⟨.fn, 1, 8, [.nf]⟩) (.node (some ⟨.slice 180, 1, 24, [.sl none 0 (some 0)]⟩) (.node (some ⟨.fn, 1, 8, [.nf]⟩) .nil .nil) .nil) (.node (some ⟨.fn, 1, 8, [.nf]⟩) .nil .nil)))) (.node (some ⟨.fn, 1, 8, [.nf]⟩) (.node (some ⟨.slice 22, 1, 24, [.sl none 0 (some 0)]⟩) (.node (some ⟨.fn, 1, 8, [.nf]⟩) (.node (some ⟨.fn, 1, 8, [.nf]⟩) .nil .nil) (.node (some ⟨.strct [(0, 3), (3, 1), (4, 1)], 5, 72, [.sl none 0 (some 0), .i .i64 0, .i .i64 0, .i .i64 0, .sl none 0 (some 0)]⟩) .nil .nil)) (.node (some ⟨.fn, 1, 8, [.nf]⟩) (.node (some ⟨.slice 35, 1, 24, [.sl none 0 (some 0)]⟩) (.node (some ⟨.int .i32, 1, 4, [.i .i32 0]⟩) .nil .nil) .nil) .nil)) (.node (some ⟨.slice 92, 1, 24, [.sl none 0 (some 0)]⟩) (.node none (.node (some ⟨.fn, 1, 8, [.nf]⟩) .nil .nil) (.node (some ⟨.fn, 1, 8, [.nf]⟩) .nil .nil)) (.node (some ⟨.fn, 1, 8, [.nf]⟩) (.node (some ⟨.fn, 1, 8, [.nf]⟩) .nil .nil) .nil)))) (.node (some ⟨.strct [(0, 1), (1, 1)], 2, 24, [.s ⟨#[]⟩, .i .u64 0]⟩) (.node (some ⟨.int .i32, 1, 4, [.i .i32 0]⟩) (.node (some ⟨.strct [(0, 1), (1, 1), (2, 1)], 3, 40, [.sl none 0 (some 0), .i .i64 0, .i .i64 0]⟩) (.node (some ⟨.strct [(0, 1), (1, 1)], 2, 32, [.sl none 0 (some 0), .i .i64 0]⟩) (.node (some ⟨.fn, 1, 8, [.nf]⟩) .nil .nil) (.node (some ⟨.fn, 1, 8, [.nf]⟩) .nil .nil)) (.node (some ⟨.map 9 4, 1, 8, [.m none]⟩) (.node (some ⟨.strct [(0, 1), (1, 1), (2, 1)], 3, 24, [.b false, .i .i64 0, .i .i64 0]⟩) (.node (some ⟨.int .u8, 1, 1, [.i .u8 0]⟩) .nil .nil) .nil) .nil)) (.node (some ⟨.fn, 1, 8, [.nf]⟩) (.node (some ⟨.fn, 1, 8, [.nf]⟩) (.node (some ⟨.fn, 1, 8, [.nf]⟩) (.node (some ⟨.strct [(0, 3), (3, 3), (6, 1)], 7, 88, [.sl none 0 (some 0), .i .i64 0, .i .i64 0, .sl none 0 (some 0), .i .i64 0, .i .i64 0, .i .i64 0]⟩) .nil .nil) .nil) (.node (some ⟨.fn, 1, 8, [.nf]⟩) .nil .nil)) (.node none (.node (some ⟨.fn, 1, 8, [.nf]⟩) (.node (some ⟨.strct [(0, 1), (1, 1), (2, 1), (3, 1), (4, 1)], 5, 72, [.i .i64 0, .i .i64 0, .sl none 0 (some 0), .sl none 0 (some 0), .i .i64 0]⟩) .nil .nil) .nil) (.node (some ⟨.fn, 1, 8, [.nf]⟩) .nil .nil)))) (.node (some ⟨.strct [(0, 1), (1, 1), (2, 1)], 3, 72, [.sl none 0 (some 0), .sl none 0 (some 0), .sl none 0 (some 0)]⟩) (.node (some ⟨.fn, 1, 8, [.nf]⟩) (.node (some ⟨.fn, 1, 8, [.nf]⟩) (.node (some ⟨.iface, 1, 16, [.ni]⟩) .nil .nil) (.node (some ⟨.fn, 1, 8, [.nf]⟩) .nil .nil)) (.node (some ⟨.fn, 1, 8, [.nf]⟩) .nil (.node (some ⟨.strct [(0, 3), (3, 3), (6, 1)], 7, 88, [.sl none 0 (some 0), .i .i64 0, .i .i64 0, .sl none 0 (some 0), .i .i64 0, .i .i64 0, .i .i64 0]⟩) .nil .nil))) (.node (some ⟨.fn, 1, 8, [.nf]⟩) (.node (some ⟨.fn, 1, 8, [.nf]⟩) (.node (some ⟨.ptr 120, 1, 8, [.p none]⟩) .nil .nil) (.node (some ⟨.fn, 1, 8, [.nf]⟩) .nil .nil)) (.node (some ⟨.fn, 1, 8, [.nf]⟩) (.node (some ⟨.strct [], 0, 0, []⟩) .nil .nil) .nil)))))) (.node (some ⟨.int .i64, 1, 8, [.i .i64 0]⟩) (.node (some ⟨.bool, 1, 1, [.b false]⟩) (.node (some ⟨.strct [(0, 1), (1, 1), (2, 1), (3, 1)], 4, 24, [.i .i64 0, .i .i64 0, .b false, .i .u8 0]⟩) (.node (some ⟨.ptr 292, 1, 8, [.p none]⟩) (.node (some ⟨.strct [(0, 1), (1, 1), (2, 1), (3, 1), (4, 1)], 5, 72, [.i .i64 0, .i .i64 0, .i .i64 0, .sl none 0 (some 0), .sl none 0 (some 0)]⟩) (.node (some ⟨.strct [(0, 1)], 1, 24, [.sl none 0 (some 0)]⟩) (.node (some ⟨.strct [(0, 1), (1, 1)], 2, 48, [.sl none 0 (some 0), .sl none 0 (some 0)]⟩) (.node (some ⟨.fn, 1, 8, [.nf]⟩) .nil .nil) .nil) (.node (some ⟨.map 3 142, 1, 8, [.m none]⟩) .nil .nil)) (.node (some ⟨.fn, 1, 8, [.nf]⟩) (.node (some ⟨.fn, 1, 8, [.nf]⟩) (.node (some ⟨.strct [(0, 1), (1, 1), (2, 1), (3, 1)], 4, 40, [.p none, .p none, .p none, .s ⟨#[]⟩]⟩) .nil .nil) .nil) .nil)) (.node none (.node (some ⟨.fn, 1, 8, [.nf]⟩) (.node (some ⟨.fn, 1, 8, [.nf]⟩) .nil .nil) (.node (some ⟨.fn, 1, 8, [.nf]⟩) .nil .nil)) (.node (some ⟨.fn, 1, 8, [.nf]⟩) .nil .nil))) (.node (some ⟨.ptr 69, 1, 8, [.p none]⟩) (.node (some ⟨.slice 22, 1, 24, [.sl none 0 (some 0)]⟩) (.node (some ⟨.fn, 1, 8, [.nf]⟩) .nil (.node (some ⟨.strct [(0, 3), (3, 1), (4, 1)], 5, 72, [.sl none 0 (some 0), .i .i64 0, .i .i64 0, .i .i64 0, .sl none 0 (some 0)]⟩) .nil .nil)) (.node (some ⟨.fn, 1, 8, [.nf]⟩) (.node (some ⟨.fn, 1, 8, [.nf]⟩) (.node (some ⟨.ptr 5, 1, 8, [.p none]⟩) .nil .nil) .nil) .nil)) (.node (some ⟨.fn, 1, 8, [.nf]⟩) (.node (some ⟨.slice 201, 1, 24, [.sl none 0 (some 0)]⟩) (.node (some ⟨.fn, 1, 8, [.nf]⟩) (.node (some ⟨.strct [(0, 3), (3, 3), (6, 1), (7, 1)], 8, 96, [.sl none 0 (some 0), .i .i64 0, .i .i64 0, .sl none 0 (some 0), .i .i64 0, .i .i64 0, .i .i64 0, .b false]⟩) .nil .nil) .nil) (.node (some ⟨.fn, 1, 8, [.nf]⟩) .nil .nil)) (.node (some ⟨.strct [(0, 4), (4, 1)], 5, 72, [.b false, .i .i64 0, .i .i64 0, .sl none 0 (some 0), .sl none 0 (some 0)]⟩) (.node (some ⟨.fn, 1, 8, [.nf]⟩) .nil .nil) (.node (some ⟨.int .i64, 1, 8, [.i .i64 0]⟩) .nil .nil))))) (.node (some ⟨.int .u64, 1, 8, [.i .u64 0]⟩) (.node (some ⟨.iface, 1, 16, [.ni]⟩) (.node (some ⟨.strct [(0, 1), (1, 1), (2, 1)], 3, 40, [.sl none 0 (some 0), .i .i64 0, .i .i64 0]⟩) (.node (some ⟨.strct [(0, 1), (1, 1)], 2, 32, [.sl none 0 (some 0), .i .i64 0]⟩) (.node (some ⟨.fn, 1, 8, [.nf]⟩) .nil .nil) (.node (some ⟨.ptr 159, 1, 8, [.p none]⟩) .nil .nil)) (.node (some ⟨.fn, 1, 8, [.nf]⟩) (.node (some ⟨.fn, 1, 8, [.nf]⟩) (.node (some ⟨.strct [(0, 0)], 0, 0, []⟩) .nil .nil) .nil) .nil)) (.node (some ⟨.fn, 1, 8, [.nf]⟩) (.node (some ⟨.fn, 1, 8, [.nf]⟩) (.node (some ⟨.fn, 1, 8, [.nf]⟩) (.node (some ⟨.strct [(0, 3), (3, 3), (6, 1)], 7, 88, [.sl none 0 (some 0), .i .i64 0, .i .i64 0, .sl none 0 (some 0), .i .i64 0, .i .i64 0, .i .i64 0]⟩) .nil .nil) .nil) (.node (some ⟨.fn, 1, 8, [.nf]⟩) .nil .nil)) (.node (some ⟨.fn, 1, 8, [.nf]⟩) (.node (some ⟨.strct [(0, 3), (3, 1), (4, 1)], 5, 40, [.i .i64 0, .i .i64 0, .i .i64 0, .i .i64 0, .i .i64 0]⟩) (.node (some ⟨.strct [(0, 1), (1, 1), (2, 1), (3, 1), (4, 1)], 5, 72, [.i .i64 0, .i .i64 0, .sl none 0 (some 0), .sl none 0 (some 0), .i .i64 0]⟩) .nil .nil) .nil) (.node (some ⟨.fn, 1, 8, [.nf]⟩) .nil .nil)))) (.node (some ⟨.slice 39, 1, 24, [.sl none 0 (some 0)]⟩) (.node (some ⟨.fn, 1, 8, [.nf]⟩) (.node (some ⟨.fn, 1, 8, [.nf]⟩) (.node (some ⟨.fn, 1, 8, [.nf]⟩) .nil .nil) .nil) (.node none (.node none (.node (some ⟨.strct [(0, 1), (1, 1), (2, 1), (3, 1), (4, 1), (5, 1), (6, 1), (7, 1), (8, 1), (9, 1), (10, 1)], 11, 48, [.i .u64 0, .i .u64 0, .i .u32 0, .i .u8 0, .i .u8 0, .i .u8 0, .i .u8 0, .nf, .p none, .i .i32 0, .i .i32 0]⟩) .nil .nil) .nil) (.node (some ⟨.strct [(0, 3), (3, 3), (6, 1)], 7, 88, [.sl none 0 (some 0), .i .i64 0, .i .i64 0, .sl none 0 (some 0), .i .i64 0, .i .i64 0, .i .i64 0]⟩) .nil .nil))) (.node none (.node (some ⟨.strct [(0, 4), (4, 1)], 5, 72, [.b false, .i .i64 0, .i .i64 0, .sl none 0 (some 0), .sl none 0 (some 0)]⟩) (.node (some ⟨.fn, 1, 8, [.nf]⟩) .nil .nil) .nil) (.node none (.node (some ⟨.strct [], 0, 0, []⟩) .nil .nil) .nil))))) (.node (some ⟨.int .u8, 1, 1, [.i .u8 0]⟩) (.node (some ⟨.str, 1, 16, [.s ⟨#[]⟩]⟩) (.node (some ⟨.strct [(0, 1)], 1, 8, [.p none]⟩) (.node (some ⟨.strct [(0, 1), (1, 1)], 2, 16, [.i .i64 0, .i .i64 0]⟩) (.node (some ⟨.fn, 1, 8, [.nf]⟩) .nil (.node (some ⟨.fn, 1, 8, [.nf]⟩) .nil .nil)) (.node (some ⟨.fn, 1, 8, [.nf]⟩) (.node (some ⟨.slice 37, 1, 24, [.sl none 0 (some 0)]⟩) (.node (some ⟨.arr 0 16, 0, 0, []⟩) .nil .nil) .nil) (.node (some ⟨.strct [(0, 3), (3, 3), (6, 1), (7, 1)], 8, 96, [.sl none 0 (some 0), .i .i64 0, .i .i64 0, .sl none 0 (some 0), .i .i64 0, .i .i64 0, .i .i64 0, .b false]⟩) .nil .nil))) (.node (some ⟨.fn, 1, 8, [.nf]⟩) (.node (some ⟨.fn, 1, 8, [.nf]⟩) .nil (.node (some ⟨.fn, 1, 8, [.nf]⟩) .nil .nil)) (.node (some ⟨.fn, 1, 8, [.nf]⟩) (.node none (.node (some ⟨.ptr 309, 1, 8, [.p none]⟩) .nil .nil) .nil) .nil))) (.node (some ⟨.slice 9, 1, 24, [.sl none 0 (some 0)]⟩) (.node (some ⟨.int .i64, 1, 8, [.i .i64 0]⟩) (.node (some ⟨.fn, 1, 8, [.nf]⟩) .nil .nil) (.node (some ⟨.fn, 1, 8, [.nf]⟩) (.node (some ⟨.fn, 1, 8, [.nf]⟩) (.node (some ⟨.int .i32, 1, 4, [.i .i32 0]⟩) .nil .nil) .nil) .nil)) (.node (some ⟨.strct [(0, 1), (1, 1)], 2, 48, [.sl none 0 (some 0), .sl none 0 (some 0)]⟩) (.node (some ⟨.fn, 1, 8, [.nf]⟩) .nil (.node (some ⟨.fn, 1, 8, [.nf]⟩) .nil .nil)) (.node (some ⟨.fn, 1, 8, [.nf]⟩) (.node (some ⟨.strct [], 0, 0, []⟩) .nil .nil) .nil)))) (.node (some ⟨.strct [(0, 1), (1, 1)], 2, 24, [.s ⟨#[]⟩, .i .u64 0]⟩) (.node (some ⟨.slice 3, 1, 24, [.sl none 0 (some 0)]⟩) (.node (some ⟨.strct [(0, 1), (1, 1), (2, 1), (3, 2), (5, 3)], 8, 104, [.s ⟨#[]⟩, .sl none 0 (some 0), .i .i64 0, .i .i64 0, .i .i64 0, .sl none 0 (some 0), .i .i64 0, .i .i64 0]⟩) (.node (some ⟨.fn, 1, 8, [.nf]⟩) (.node (some ⟨.fn, 1, 8, [.nf]⟩) .nil .nil) (.node (some ⟨.fn, 1, 8, [.nf]⟩) .nil .nil)) (.node (some ⟨.fn, 1, 8, [.nf]⟩) (.node (some ⟨.strct [(0, 1), (1, 1), (2, 1)], 3, 24, [.b false, .i .i64 0, .i .i64 0]⟩) (.node (some ⟨.int .u8, 1, 1, [.i .u8 0]⟩) .nil .nil) .nil) .nil)) (.node (some ⟨.strct [(0, 1), (1, 1), (2, 1)], 3, 24, [.i .i64 0, .i .i64 0, .i .i64 0]⟩) (.node (some ⟨.strct [(0, 1), (1, 1), (2, 1), (3, 1)], 4, 48, [.b false, .i .i64 0, .i .i64 0, .sl none 0 (some 0)]⟩) (.node (some ⟨.fn, 1, 8, [.nf]⟩) .nil .nil) (.node (some ⟨.fn, 1, 8, [.nf]⟩) .nil .nil)) (.node (some ⟨.fn, 1, 8, [.nf]⟩) (.node (some ⟨.fn, 1, 8, [.nf]⟩) .nil .nil) .nil))) (.node (some ⟨.strct [(0, 1), (1, 1), (2, 1)], 3, 72, [.sl none 0 (some 0), .sl none 0 (some 0), .sl none 0 (some 0)]⟩) (.node (some ⟨.fn, 1, 8, [.nf]⟩) (.node (some ⟨.fn, 1, 8, [.nf]⟩) (.node (some ⟨.iface, 1, 16, [.ni]⟩) .nil .nil) .nil) (.node (some ⟨.fn, 1, 8, [.nf]⟩) (.node (some ⟨.int .u64, 1, 8, [.i .u64 0]⟩) .nil .nil) .nil)) (.node (some ⟨.fn, 1, 8, [.nf]⟩) (.node (some ⟨.fn, 1, 8, [.nf]⟩) (.node (some ⟨.strct [(0, 3), (3, 1), (4, 1), (5, 1)], 6, 112, [.sl none 0 (some 0), .sl none 0 (some 0), .sl none 0 (some 0), .sl none 0 (some 0), .i .i64 0, .p none]⟩) .nil .nil) .nil) (.node none (.node (some ⟨.strct [], 0, 0, []⟩) .nil .nil) .nil)))))))
noncomputable def iFT : Tr FI := (.node none (.node none (.node none (.node none (.node (some (fiOf Tryz.f15)) (.node none (.node (some (fiOf Tryz.f63)) (.node (some (fiOf Tryz.f127)) .nil .nil) (.node (some (fiOf Tryz.f191)) .nil .nil)) (.node none (.node (some (fiOf Tryz.f159)) .nil .nil) .nil)) (.node (some (fiOf Tryz.f47)) (.node none (.node (some (fiOf Tryz.f143)) .nil .nil) (.node (some (fiOf Tryz.f207)) .nil .nil)) (.node (some (fiOf Tryz.f111)) .nil .nil))) (.node (some (fiOf Tryz.f23)) (.node none (.node (some (fiOf Tryz.f71)) (.node (some (fiOf Tryz.f135)) .nil .nil) (.node (some (fiOf Tryz.f199)) .nil .nil)) (.node (some (fiOf Tryz.f103)) .nil .nil)) (.node none (.node (some (fiOf Tryz.f87)) (.node (some (fiOf Tryz.f151)) .nil .nil) (.node (some (fiOf Tryz.f215)) .nil .nil)) (.node (some (fiOf Tryz.f119)) (.node (some (fiOf Tryz.f183)) .nil .nil) .nil)))) (.node none (.node none (.node (some (fiOf Tryz.f35)) (.node (some (fiOf Tryz.f67)) (.node (some (fiOf Tryz.f131)) .nil .nil) (.node (some (fiOf Tryz.f195)) .nil .nil)) .nil) (.node none (.node (some (fiOf Tryz.f83)) (.node (some (fiOf Tryz.f147)) .nil .nil) (.node (some (fiOf Tryz.f211)) .nil .nil)) (.node (some (fiOf Tryz.f115)) (.node (some (fiOf Tryz.f179)) .nil .nil) (.node (some (fiOf Tryz.f243)) .nil .nil)))) (.node none (.node (some (fiOf Tryz.f43)) (.node (some (fiOf Tryz.f75)) (.node (some (fiOf Tryz.f139)) .nil .nil) .nil) .nil) (.node (some (fiOf Tryz.f59)) (.node (some (fiOf Tryz.f91)) (.node (some (fiOf Tryz.f155)) .nil .nil) .nil) (.node (some (fiOf Tryz.f123)) (.node (some (fiOf Tryz.f187)) .nil .nil) .nil))))) (.node (some (fiOf Tryz.f5)) (.node none (.node (some (fiOf Tryz.f17)) (.node (some (fiOf Tryz.f33)) (.node (some (fiOf Tryz.f65)) .nil (.node (some (fiOf Tryz.f193)) .nil .nil)) (.node (some (fiOf Tryz.f97)) (.node (some (fiOf Tryz.f161)) .nil .nil) .nil)) (.node (some (fiOf Tryz.f49)) (.node none (.node (some (fiOf Tryz.f145)) .nil .nil) (.node (some (fiOf Tryz.f209)) .nil .nil)) (.node (some (fiOf Tryz.f113)) (.node (some (fiOf Tryz.f177)) .nil .nil) (.node (some (fiOf Tryz.f241)) .nil .nil)))) (.node (some (fiOf Tryz.f25)) (.node (some (fiOf Tryz.f41)) (.node (some (fiOf Tryz.f73)) (.node (some (fiOf Tryz.f137)) .nil .nil) .nil) .nil) (.node none (.node (some (fiOf Tryz.f89)) (.node (some (fiOf Tryz.f153)) .nil .nil) (.node (some (fiOf Tryz.f217)) .nil .nil)) (.node none (.node (some (fiOf Tryz.f185)) .nil .nil) .nil)))) (.node none (.node none (.node (some (fiOf Tryz.f37)) (.node (some (fiOf Tryz.f69)) (.node (some (fiOf Tryz.f133)) .nil .nil) .nil) .nil) (.node none (.node (some (fiOf Tryz.f85)) (.node (some (fiOf Tryz.f149)) .nil .nil) (.node (some (fiOf Tryz.f213)) .nil .nil)) (.node (some (fiOf Tryz.f117)) (.node (some (fiOf Tryz.f181)) .nil .nil) (.node (some (fiOf Tryz.f245)) .nil .nil)))) (.node none (.node (some (fiOf Tryz.f45)) (.node none (.node (some (fiOf Tryz.f141)) .nil .nil) .nil) (.node (some (fiOf Tryz.f109)) .nil .nil)) (.node (some (fiOf Tryz.f61)) (.node (some (fiOf Tryz.f93)) .nil (.node (some (fiOf Tryz.f221)) .nil .nil)) (.node (some (fiOf Tryz.f125)) (.node (some (fiOf Tryz.f189)) .nil .nil) .nil)))))) (.node none (.node none (.node (some (fiOf Tryz.f8)) (.node (some (fiOf Tryz.f16)) (.node (some (fiOf Tryz.f32)) (.node (some (fiOf Tryz.f64)) .nil (.node (some (fiOf Tryz.f192)) .nil .nil)) (.node none (.node (some (fiOf Tryz.f160)) .nil .nil) .nil)) (.node (some (fiOf Tryz.f48)) (.node none (.node (some (fiOf Tryz.f144)) .nil .nil) (.node (some (fiOf Tryz.f208)) .nil .nil)) (.node (some (fiOf Tryz.f112)) .nil (.node (some (fiOf Tryz.f240)) .nil .nil)))) (.node (some (fiOf Tryz.f24)) (.node none (.node (some (fiOf Tryz.f72)) (.node (some (fiOf Tryz.f136)) .nil .nil) (.node (some (fiOf Tryz.f200)) .nil .nil)) (.node (some (fiOf Tryz.f104)) .nil .nil)) (.node none (.node (some (fiOf Tryz.f88)) (.node (some (fiOf Tryz.f152)) .nil .nil) (.node (some (fiOf Tryz.f216)) .nil .nil)) (.node (some (fiOf Tryz.f120)) (.node (some (fiOf Tryz.f184)) .nil .nil) .nil)))) (.node none (.node none (.node (some (fiOf Tryz.f36)) (.node (some (fiOf Tryz.f68)) .nil (.node (some (fiOf Tryz.f196)) .nil .nil)) .nil) (.node none (.node (some (fiOf Tryz.f84)) (.node (some (fiOf Tryz.f148)) .nil .nil) (.node (some (fiOf Tryz.f212)) .nil .nil)) (.node (some (fiOf Tryz.f116)) (.node (some (fiOf Tryz.f180)) .nil .nil) (.node (some (fiOf Tryz.f244)) .nil .nil)))) (.node none (.node (some (fiOf Tryz.f44)) (.node (some (fiOf Tryz.f76)) (.node (some (fiOf Tryz.f140)) .nil .nil) .nil) .nil) (.node (some (fiOf Tryz.f60)) (.node (some (fiOf Tryz.f92)) .nil .nil) (.node (some (fiOf Tryz.f124)) (.node (some (fiOf Tryz.f188)) .nil .nil) .nil))))) (.node none (.node none (.node (some (fiOf Tryz.f18)) (.node (some (fiOf Tryz.f34)) (.node (some (fiOf Tryz.f66)) .nil (.node (some (fiOf Tryz.f194)) .nil .nil)) (.node (some (fiOf Tryz.f98)) .nil .nil)) (.node (some (fiOf Tryz.f50)) (.node (some (fiOf Tryz.f82)) (.node (some (fiOf Tryz.f146)) .nil .nil) (.node (some (fiOf Tryz.f210)) .nil .nil)) (.node (some (fiOf Tryz.f114)) .nil (.node (some (fiOf Tryz.f242)) .nil .nil)))) (.node (some (fiOf Tryz.f26)) (.node (some (fiOf Tryz.f42)) (.node (some (fiOf Tryz.f74)) (.node (some (fiOf Tryz.f138)) .nil .nil) .nil) (.node (some (fiOf Tryz.f106)) (.node (some (fiOf Tryz.f170)) .nil .nil) .nil)) (.node (some (fiOf Tryz.f58)) (.node none (.node (some (fiOf Tryz.f154)) .nil .nil) (.node (some (fiOf Tryz.f218)) .nil .nil)) (.node (some (fiOf Tryz.f122)) (.node (some (fiOf Tryz.f186)) .nil .nil) .nil)))) (.node none (.node (some (fiOf Tryz.f22)) (.node none (.node (some (fiOf Tryz.f70)) (.node (some (fiOf Tryz.f134)) .nil .nil) (.node (some (fiOf Tryz.f198)) .nil .nil)) .nil) (.node none (.node (some (fiOf Tryz.f86)) (.node (some (fiOf Tryz.f150)) .nil .nil) (.node (some (fiOf Tryz.f214)) .nil .nil)) (.node (some (fiOf Tryz.f118)) (.node (some (fiOf Tryz.f182)) .nil .nil) .nil))) (.node (some (fiOf Tryz.f30)) (.node (some (fiOf Tryz.f46)) (.node none (.node (some (fiOf Tryz.f142)) .nil .nil) .nil) (.node (some (fiOf Tryz.f110)) .nil (.node (some (fiOf Tryz.f238)) .nil .nil))) (.node (some (fiOf Tryz.f62)) (.node none (.node (some (fiOf Tryz.f158)) .nil .nil) .nil) (.node (some (fiOf Tryz.f126)) (.node (some (fiOf Tryz.f190)) .nil .nil) .nil)))))))
noncomputable def iMT : List (Nat × String × Nat) := [(187, "netcalculus/server.check", 238), (187, "netcalculus/server.run", 240), (237, "netcalculus/convolution.horizon", 147), (237, "netcalculus/convolution.of", 146), (237, "netcalculus/convolution.repeats", 149), (277, "netcalculus/share.least", 210), (277, "netcalculus/share.raw", 211), (280, "netcalculus/deconvolution.of", 216)]
noncomputable def iEn : Env := ⟨iTT, iFT, iMT, [4, 98, 142]⟩
set_option maxRecDepth 100000
theorem iEn_ok : EnOk Tryz.prog tab iEn := EnOk.of tab_ok (by kernel_rfl) (by kernel_rfl) (by kernel_rfl) (by kernel_rfl) (by kernel_rfl) (by
 intro m hm v args w
 rcases List.mem_cons.1 hm with rfl | hm
 ·kernel_rfl
 rcases List.mem_cons.1 hm with rfl | hm
 ·kernel_rfl
 rcases List.mem_cons.1 hm with rfl | hm
 ·kernel_rfl
 rcases List.mem_cons.1 hm with rfl | hm
 ·kernel_rfl
 rcases List.mem_cons.1 hm with rfl | hm
 ·kernel_rfl
 rcases List.mem_cons.1 hm with rfl | hm
 ·kernel_rfl
 rcases List.mem_cons.1 hm with rfl | hm
 ·kernel_rfl
 rcases List.mem_cons.1 hm with rfl | hm
 ·kernel_rfl
 cases hm)
end Go.Proofs.YtehaepbflkncdaaGreat.I
namespace Go.Proofs.YtehaepbflkncdaaGreat.I
open Go Go.RowKit Go.Proofs.YtehaepbflkncdaaGreat.K
set_option maxRecDepth 1000000
noncomputable def O0 : HO := .cells 33 [z 1, z 10, z 1, .sl none 0 (some 0), .sl none 0 (some 0), z 1, z 10, z 1, .sl none 0 (some 0), .sl none 0 (some 0)]
noncomputable def O1 : HO := .cells 39 [.s ⟨#[102]⟩, .sl (some (3, 0)) 2 (some 2), z 0, z 1, z 4, .sl (some (4, 0)) 5 none, z 4, z 4, .s ⟨#[103]⟩, .sl (some (5, 0)) 2 (some 2), z 0, z 1, z 4, .sl (some (4, 0)) 5 none, z 4, z 4]
noncomputable def A0 : Fact := ⟨[], [], .ag [.sl (some (0, 0)) 2 (some 2), .sl (some (1, 0)) 2 (some 2), .sl (some (2, 0)) 2 (some 2)], [.cells 9 [.s ⟨#[97]⟩, .s ⟨#[98]⟩], O0, O1, .cells 3 [z 0, z 1], .grow 3 1 [z 0, z 4, z 4, z 4, z 4], .cells 3 [z 1, z 0]]⟩
theorem k0 : FactOk Tryz.prog 16 A0 := factOk_ok (ex_ok iEn_ok mixed .nil 600) (by kernel_rfl)
noncomputable def A1 : Fact := ⟨[.ag [z 1, z 10, z 1, .sl none 0 (some 0), .sl none 0 (some 0)]], [], z 0, []⟩
theorem k1 : FactOk Tryz.prog 42 A1 := factOk_ok (ex_ok iEn_ok mixed .nil 600) (by kernel_rfl)
noncomputable def A2 : Fact := ⟨[.ag [.sl (some (0, 0)) 5 none, z 4, z 4]], [.grow 3 1 [z 0, z 4, z 4, z 4, z 4]], .b true, [.grow 3 1 [z 0, z 4, z 4, z 4, z 4]]⟩
theorem k2 : FactOk Tryz.prog 72 A2 := factOk_ok (ex_ok iEn_ok mixed .nil 600) (by kernel_rfl)
noncomputable def A3 : Fact := ⟨[.ag [.sl (some (0, 0)) 2 (some 2), .sl (some (1, 0)) 2 (some 2), .sl (some (2, 0)) 2 (some 2)]], [.cells 9 [.s ⟨#[97]⟩, .s ⟨#[98]⟩], O0, O1, .cells 3 [z 0, z 1], .grow 3 1 [z 0, z 4, z 4, z 4, z 4], .cells 3 [z 1, z 0]], z 0, [.cells 9 [.s ⟨#[97]⟩, .s ⟨#[98]⟩], O0, O1, .cells 3 [z 0, z 1], .grow 3 1 [z 0, z 4, z 4, z 4, z 4], .cells 3 [z 1, z 0]]⟩
theorem k3 : FactOk Tryz.prog 22 A3 := factOk_ok (ex_ok iEn_ok mixed (.add k1 (.add k2 .nil)) 600) (by kernel_rfl)
noncomputable def O2 : HO := .cells 39 [.s ⟨#[102]⟩, .sl (some (4, 0)) 2 (some 2), z 0, z 1, z 4, .sl (some (5, 0)) 5 none, z 4, z 4, .s ⟨#[103]⟩, .sl (some (6, 0)) 2 (some 2), z 0, z 1, z 4, .sl (some (5, 0)) 5 none, z 4, z 4]
noncomputable def O3 : HO := .cells 22 [.sl (some (7, 0)) 1 (some 1), .sl (some (8, 0)) 1 (some 1)]
noncomputable def A4 : Fact := ⟨[.ag [.sl (some (0, 0)) 2 (some 2), .sl (some (1, 0)) 2 (some 2), .sl (some (2, 0)) 2 (some 2)], .sl (some (3, 0)) 2 (some 2)], [.cells 9 [.s ⟨#[97]⟩, .s ⟨#[98]⟩], O0, O2, O3, .cells 3 [z 0, z 1], .grow 3 1 [z 0, z 4, z 4, z 4, z 4], .cells 3 [z 1, z 0], .cells 3 [z 0], .cells 3 [z 0]], .b true, [.cells 9 [.s ⟨#[97]⟩, .s ⟨#[98]⟩], O0, O2, O3, .cells 3 [z 0, z 1], .grow 3 1 [z 0, z 4, z 4, z 4, z 4], .cells 3 [z 1, z 0], .cells 3 [z 0], .cells 3 [z 0]]⟩
theorem k4 : FactOk Tryz.prog 73 A4 := factOk_ok (ex_ok iEn_ok mixed (.add k3 .nil) 600) (by kernel_rfl)
noncomputable def A5 : Fact := ⟨[.ag [.sl (some (0, 0)) 2 (some 2), .sl (some (1, 0)) 2 (some 2), .sl (some (2, 0)) 2 (some 2)], z 0], [.cells 9 [.s ⟨#[97]⟩, .s ⟨#[98]⟩], O0, O1, .cells 3 [z 0, z 1], .grow 3 1 [z 0, z 4, z 4, z 4, z 4], .cells 3 [z 1, z 0]], .sl (some (6, 0)) 2 none, [.cells 9 [.s ⟨#[97]⟩, .s ⟨#[98]⟩], O0, O1, .cells 3 [z 0, z 1], .grow 3 1 [z 0, z 4, z 4, z 4, z 4], .cells 3 [z 1, z 0], .grow 3 1 [z 0, z 1]]⟩
theorem k5 : FactOk Tryz.prog 76 A5 := factOk_ok (ex_ok iEn_ok mixed .nil 600) (by kernel_rfl)
noncomputable def A6 : Fact := ⟨[.ag [.sl (some (0, 0)) 2 (some 2), .sl (some (1, 0)) 2 (some 2), .sl (some (2, 0)) 2 (some 2)], z 0, z 0], [.cells 9 [.s ⟨#[97]⟩, .s ⟨#[98]⟩], O0, O1, .cells 3 [z 0, z 1], .grow 3 1 [z 0, z 4, z 4, z 4, z 4], .cells 3 [z 1, z 0]], .sl (some (6, 0)) 2 none, [.cells 9 [.s ⟨#[97]⟩, .s ⟨#[98]⟩], O0, O1, .cells 3 [z 0, z 1], .grow 3 1 [z 0, z 4, z 4, z 4, z 4], .cells 3 [z 1, z 0], .grow 3 1 [z 0, z 1]]⟩
theorem k6 : FactOk Tryz.prog 50 A6 := factOk_ok (ex_ok iEn_ok mixed (.add k5 .nil) 600) (by kernel_rfl)
noncomputable def A7 : Fact := ⟨[.f 185 [] [.p (some (0, 0))], z 1, z 4, z 4], [.cells 37 [.sl (some (1, 0)) 5 none, z 4, z 4], .grow 3 1 [z 0, z 4, z 4, z 4, z 4]], .tu [.ag [.sl (some (2, 0)) 4 none, z 4, z 4], z 0], [.cells 37 [.sl (some (1, 0)) 5 none, z 4, z 4], .grow 3 1 [z 0, z 4, z 4, z 4, z 4], .grow 3 1 [z 0, z 4, z 4, z 4]]⟩
theorem k7 : FactOk Tryz.prog 144 A7 := factOk_ok (ex_ok iEn_ok mixed .nil 600) (by kernel_rfl)
noncomputable def A8 : Fact := ⟨[.ag [.sl (some (0, 0)) 5 none, z 4, z 4]], [.grow 3 1 [z 0, z 4, z 4, z 4, z 4]], .tu [.ag [.sl (some (1, 0)) 4 none, z 4, z 4], z 0], [.grow 3 1 [z 0, z 4, z 4, z 4, z 4], .grow 3 1 [z 0, z 4, z 4, z 4]]⟩
theorem k8 : FactOk Tryz.prog 141 A8 := factOk_ok (ex_ok iEn_ok mixed (.add k7 .nil) 600) (by kernel_rfl)
noncomputable def A9 : Fact := ⟨[.f 214 [] [.p (some (0, 0)), .p (some (1, 0))], z 1, z 4, z 4], [.cells 37 [.sl (some (2, 0)) 4 none, z 4, z 4], .cells 3 [z 0], .grow 3 1 [z 0, z 4, z 4, z 4]], .tu [.ag [.sl (some (3, 0)) 4 none, z 4, z 4], z 0], [.cells 37 [.sl (some (2, 0)) 4 none, z 4, z 4], .cells 3 [z 0], .grow 3 1 [z 0, z 4, z 4, z 4], .grow 3 1 [z 0, z 4, z 4, z 4]]⟩
theorem k9 : FactOk Tryz.prog 144 A9 := factOk_ok (ex_ok iEn_ok mixed .nil 600) (by kernel_rfl)
noncomputable def A10 : Fact := ⟨[.ag [.sl (some (0, 0)) 5 none, z 4, z 4], z 0], [.grow 3 1 [z 0, z 4, z 4, z 4, z 4]], .tu [.ag [.sl (some (1, 0)) 4 none, z 4, z 4], z 0], [.grow 3 1 [z 0, z 4, z 4, z 4, z 4], .grow 3 1 [z 0, z 4, z 4, z 4]]⟩
theorem k10 : FactOk Tryz.prog 193 A10 := factOk_ok (ex_ok iEn_ok mixed (.add k8 (.add k9 .nil)) 600) (by kernel_rfl)
noncomputable def A11 : Fact := ⟨[.ag [.sl (some (0, 0)) 2 (some 2), .sl (some (1, 0)) 2 (some 2), .sl (some (2, 0)) 2 (some 2)], .sl (some (3, 0)) 2 (some 2), z 0, z 0], [.cells 9 [.s ⟨#[97]⟩, .s ⟨#[98]⟩], O0, O2, O3, .cells 3 [z 0, z 1], .grow 3 1 [z 0, z 4, z 4, z 4, z 4], .cells 3 [z 1, z 0], .cells 3 [z 0], .cells 3 [z 0]], .tu [.ag [.sl (some (9, 0)) 4 none, z 4, z 4], z 0], [.cells 9 [.s ⟨#[97]⟩, .s ⟨#[98]⟩], O0, O2, O3, .cells 3 [z 0, z 1], .grow 3 1 [z 0, z 4, z 4, z 4, z 4], .cells 3 [z 1, z 0], .cells 3 [z 0], .cells 3 [z 0], .grow 3 1 [z 0, z 4, z 4, z 4]]⟩
theorem k11 : FactOk Tryz.prog 150 A11 := factOk_ok (ex_ok iEn_ok mixed (.add k4 (.add k10 .nil)) 600) (by kernel_rfl)
noncomputable def A12 : Fact := ⟨[.f 185 [] [.p (some (0, 0))], z 0, z 1, z 0], [.cells 37 [.sl (some (1, 0)) 1 none, z 1, z 0], .grow 3 1 [z 0]], .tu [.ag [.sl (some (2, 0)) 1 none, z 1, z 0], z 0], [.cells 37 [.sl (some (1, 0)) 1 none, z 1, z 0], .grow 3 1 [z 0], .grow 3 1 [z 0]]⟩
theorem k12 : FactOk Tryz.prog 144 A12 := factOk_ok (ex_ok iEn_ok mixed .nil 600) (by kernel_rfl)
noncomputable def A13 : Fact := ⟨[.ag [.sl (some (0, 0)) 1 (some 1), z 1, z 0]], [.cells 3 [z 0]], .tu [.ag [.sl (some (1, 0)) 1 none, z 1, z 0], z 0], [.cells 3 [z 0], .grow 3 1 [z 0]]⟩
theorem k13 : FactOk Tryz.prog 141 A13 := factOk_ok (ex_ok iEn_ok mixed (.add k12 .nil) 600) (by kernel_rfl)
noncomputable def A14 : Fact := ⟨[.f 185 [] [.p (some (0, 0))], z 0, z 4, z 4], [.cells 37 [.sl (some (1, 0)) 4 none, z 4, z 4], .grow 3 1 [z 0, z 4, z 4, z 4]], .tu [.ag [.sl (some (2, 0)) 4 none, z 4, z 4], z 0], [.cells 37 [.sl (some (1, 0)) 4 none, z 4, z 4], .grow 3 1 [z 0, z 4, z 4, z 4], .grow 3 1 [z 0, z 4, z 4, z 4]]⟩
theorem k14 : FactOk Tryz.prog 144 A14 := factOk_ok (ex_ok iEn_ok mixed .nil 600) (by kernel_rfl)
noncomputable def A15 : Fact := ⟨[.ag [.sl (some (0, 0)) 4 none, z 4, z 4]], [.grow 3 1 [z 0, z 4, z 4, z 4]], .tu [.ag [.sl (some (1, 0)) 4 none, z 4, z 4], z 0], [.grow 3 1 [z 0, z 4, z 4, z 4], .grow 3 1 [z 0, z 4, z 4, z 4]]⟩
theorem k15 : FactOk Tryz.prog 141 A15 := factOk_ok (ex_ok iEn_ok mixed (.add k14 .nil) 600) (by kernel_rfl)
noncomputable def A16 : Fact := ⟨[.f 154 [] [.p (some (0, 0)), .p (some (1, 0))], z 0, z 4, z 4], [.cells 37 [.sl (some (2, 0)) 1 none, z 1, z 0], .cells 37 [.sl (some (3, 0)) 4 none, z 4, z 4], .grow 3 1 [z 0], .grow 3 1 [z 0, z 4, z 4, z 4]], .tu [.ag [.sl (some (4, 0)) 4 none, z 4, z 4], z 0], [.cells 37 [.sl (some (2, 0)) 1 none, z 1, z 0], .cells 37 [.sl (some (3, 0)) 4 none, z 4, z 4], .grow 3 1 [z 0], .grow 3 1 [z 0, z 4, z 4, z 4], .grow 3 1 [z 0, z 4, z 4, z 4]]⟩
theorem k16 : FactOk Tryz.prog 144 A16 := factOk_ok (ex_ok iEn_ok mixed .nil 600) (by kernel_rfl)
noncomputable def A17 : Fact := ⟨[.ag [.sl (some (0, 0)) 1 (some 1), z 1, z 0], .ag [.sl (some (1, 0)) 4 none, z 4, z 4]], [.cells 3 [z 0], .grow 3 1 [z 0, z 4, z 4, z 4]], .tu [.ag [.sl (some (2, 0)) 4 none, z 4, z 4], z 0], [.cells 3 [z 0], .grow 3 1 [z 0, z 4, z 4, z 4], .grow 3 1 [z 0, z 4, z 4, z 4]]⟩
theorem k17 : FactOk Tryz.prog 120 A17 := factOk_ok (ex_ok iEn_ok mixed (.add k13 (.add k15 (.add k16 .nil))) 600) (by kernel_rfl)
noncomputable def A18 : Fact := ⟨[.ag [.sl (some (0, 0)) 2 (some 2), .sl (some (1, 0)) 2 (some 2), .sl (some (2, 0)) 2 (some 2)], .sl (some (3, 0)) 2 (some 2), z 1, z 1], [.cells 9 [.s ⟨#[97]⟩, .s ⟨#[98]⟩], O0, O2, O3, .cells 3 [z 0, z 1], .grow 3 1 [z 0, z 4, z 4, z 4, z 4], .cells 3 [z 1, z 0], .cells 3 [z 0], .cells 3 [z 0]], .tu [.ag [.sl (some (9, 0)) 4 none, z 4, z 4], z 0], [.cells 9 [.s ⟨#[97]⟩, .s ⟨#[98]⟩], O0, O2, O3, .cells 3 [z 0, z 1], .grow 3 1 [z 0, z 4, z 4, z 4, z 4], .cells 3 [z 1, z 0], .cells 3 [z 0], .cells 3 [z 0], .grow 3 1 [z 0, z 4, z 4, z 4]]⟩
theorem k18 : FactOk Tryz.prog 150 A18 := factOk_ok (ex_ok iEn_ok mixed (.add k4 (.add k10 .nil)) 600) (by kernel_rfl)
noncomputable def A19 : Fact := ⟨[.f 154 [] [.p (some (0, 0)), .p (some (1, 0))], z 0, z 4, z 8], [.cells 37 [.sl (some (2, 0)) 4 none, z 4, z 4], .cells 37 [.sl (some (3, 0)) 4 none, z 4, z 4], .grow 3 1 [z 0, z 4, z 4, z 4], .grow 3 1 [z 0, z 4, z 4, z 4]], .tu [.ag [.sl (some (4, 0)) 4 none, z 4, z 8], z 0], [.cells 37 [.sl (some (2, 0)) 4 none, z 4, z 4], .cells 37 [.sl (some (3, 0)) 4 none, z 4, z 4], .grow 3 1 [z 0, z 4, z 4, z 4], .grow 3 1 [z 0, z 4, z 4, z 4], .grow 3 1 [z 0, z 8, z 8, z 8]]⟩
theorem k19 : FactOk Tryz.prog 144 A19 := factOk_ok (ex_ok iEn_ok mixed .nil 600) (by kernel_rfl)
noncomputable def A20 : Fact := ⟨[.ag [.sl (some (0, 0)) 4 none, z 4, z 4], .ag [.sl (some (1, 0)) 4 none, z 4, z 4]], [.grow 3 1 [z 0, z 4, z 4, z 4], .grow 3 1 [z 0, z 4, z 4, z 4]], .tu [.ag [.sl (some (2, 0)) 4 none, z 4, z 8], z 0], [.grow 3 1 [z 0, z 4, z 4, z 4], .grow 3 1 [z 0, z 4, z 4, z 4], .grow 3 1 [z 0, z 8, z 8, z 8]]⟩
theorem k20 : FactOk Tryz.prog 120 A20 := factOk_ok (ex_ok iEn_ok mixed (.add k15 (.add k19 .nil)) 600) (by kernel_rfl)
noncomputable def A21 : Fact := ⟨[.f 218 [] [.p (some (0, 0))], z 1, z 1, z 0], [.cells 3 [z 0]], .tu [.ag [.sl (some (1, 0)) 1 none, z 1, z 0], z 0], [.cells 3 [z 0], .grow 3 1 [z 0]]⟩
theorem k21 : FactOk Tryz.prog 144 A21 := factOk_ok (ex_ok iEn_ok mixed .nil 600) (by kernel_rfl)
noncomputable def A22 : Fact := ⟨[.ag [.sl (some (0, 0)) 1 none, z 1, z 0]], [.grow 3 1 [z 0]], .tu [.ag [.sl (some (1, 0)) 1 none, z 1, z 0], z 0], [.grow 3 1 [z 0], .grow 3 1 [z 0]]⟩
theorem k22 : FactOk Tryz.prog 141 A22 := factOk_ok (ex_ok iEn_ok mixed (.add k12 .nil) 600) (by kernel_rfl)
noncomputable def A23 : Fact := ⟨[.f 185 [] [.p (some (0, 0))], z 0, z 4, z 8], [.cells 37 [.sl (some (1, 0)) 4 none, z 4, z 8], .grow 3 1 [z 0, z 8, z 8, z 8]], .tu [.ag [.sl (some (2, 0)) 4 none, z 4, z 8], z 0], [.cells 37 [.sl (some (1, 0)) 4 none, z 4, z 8], .grow 3 1 [z 0, z 8, z 8, z 8], .grow 3 1 [z 0, z 8, z 8, z 8]]⟩
theorem k23 : FactOk Tryz.prog 144 A23 := factOk_ok (ex_ok iEn_ok mixed .nil 600) (by kernel_rfl)
noncomputable def A24 : Fact := ⟨[.ag [.sl (some (0, 0)) 4 none, z 4, z 8]], [.grow 3 1 [z 0, z 8, z 8, z 8]], .tu [.ag [.sl (some (1, 0)) 4 none, z 4, z 8], z 0], [.grow 3 1 [z 0, z 8, z 8, z 8], .grow 3 1 [z 0, z 8, z 8, z 8]]⟩
theorem k24 : FactOk Tryz.prog 141 A24 := factOk_ok (ex_ok iEn_ok mixed (.add k23 .nil) 600) (by kernel_rfl)
noncomputable def A25 : Fact := ⟨[.f 154 [] [.p (some (0, 0)), .p (some (1, 0))], z 0, z 4, z 8], [.cells 37 [.sl (some (2, 0)) 1 none, z 1, z 0], .cells 37 [.sl (some (3, 0)) 4 none, z 4, z 8], .grow 3 1 [z 0], .grow 3 1 [z 0, z 8, z 8, z 8]], .tu [.ag [.sl (some (4, 0)) 4 none, z 4, z 8], z 0], [.cells 37 [.sl (some (2, 0)) 1 none, z 1, z 0], .cells 37 [.sl (some (3, 0)) 4 none, z 4, z 8], .grow 3 1 [z 0], .grow 3 1 [z 0, z 8, z 8, z 8], .grow 3 1 [z 0, z 8, z 8, z 8]]⟩
theorem k25 : FactOk Tryz.prog 144 A25 := factOk_ok (ex_ok iEn_ok mixed .nil 600) (by kernel_rfl)
noncomputable def A26 : Fact := ⟨[.ag [.sl (some (0, 0)) 1 none, z 1, z 0], .ag [.sl (some (1, 0)) 4 none, z 4, z 8]], [.grow 3 1 [z 0], .grow 3 1 [z 0, z 8, z 8, z 8]], .tu [.ag [.sl (some (2, 0)) 4 none, z 4, z 8], z 0], [.grow 3 1 [z 0], .grow 3 1 [z 0, z 8, z 8, z 8], .grow 3 1 [z 0, z 8, z 8, z 8]]⟩
theorem k26 : FactOk Tryz.prog 120 A26 := factOk_ok (ex_ok iEn_ok mixed (.add k22 (.add k24 (.add k25 .nil))) 600) (by kernel_rfl)
noncomputable def A27 : Fact := ⟨[.f 185 [] [.p (some (0, 0))], z 0, z 1, z 10], [.cells 37 [.sl (some (1, 0)) 1 none, z 1, z 10], .grow 3 1 [z 0]], .tu [.ag [.sl (some (2, 0)) 1 none, z 1, z 10], z 0], [.cells 37 [.sl (some (1, 0)) 1 none, z 1, z 10], .grow 3 1 [z 0], .grow 3 1 [z 0]]⟩
theorem k27 : FactOk Tryz.prog 144 A27 := factOk_ok (ex_ok iEn_ok mixed .nil 600) (by kernel_rfl)
noncomputable def A28 : Fact := ⟨[.ag [.sl (some (0, 0)) 1 (some 1), z 1, z 10]], [.cells 3 [z 0]], .tu [.ag [.sl (some (1, 0)) 1 none, z 1, z 10], z 0], [.cells 3 [z 0], .grow 3 1 [z 0]]⟩
theorem k28 : FactOk Tryz.prog 141 A28 := factOk_ok (ex_ok iEn_ok mixed (.add k27 .nil) 600) (by kernel_rfl)
noncomputable def A29 : Fact := ⟨[.ag [.sl (some (0, 0)) 4 none, z 4, z 8], .ag [.sl (some (1, 0)) 1 (some 1), z 1, z 10]], [.grow 3 1 [z 0, z 8, z 8, z 8], .cells 3 [z 0]], .tu [.ag [.b false, z 0, z 0], z 0], [.grow 3 1 [z 0, z 8, z 8, z 8], .cells 3 [z 0]]⟩
theorem k29 : FactOk Tryz.prog 110 A29 := factOk_ok (ex_ok iEn_ok mixed (.add k24 (.add k28 .nil)) 600) (by kernel_rfl)
noncomputable def A30 : Fact := ⟨[.ag [z 1, z 10, z 1, .sl none 0 (some 0), .sl none 0 (some 0)], z 0, .sl (some (0, 0)) 1 (some 1), .sl (some (1, 0)) 1 (some 1)], [.cells 37 [.sl (some (2, 0)) 4 none, z 4, z 8], .cells 35 [z 1, z 4], .grow 3 1 [z 0, z 8, z 8, z 8]], .tu [.ag [.b false, z 0, z 0], z 0], [.cells 37 [.sl (some (2, 0)) 4 none, z 4, z 8], .cells 35 [z 1, z 4], .grow 3 1 [z 0, z 8, z 8, z 8]]⟩
theorem k30 : FactOk Tryz.prog 88 A30 := factOk_ok (ex_ok iEn_ok mixed (.add k1 (.add k21 (.add k26 (.add k29 .nil)))) 600) (by kernel_rfl)
noncomputable def A31 : Fact := ⟨[.ag [.sl (some (0, 0)) 2 (some 2), .sl (some (1, 0)) 2 (some 2), .sl (some (2, 0)) 2 (some 2)], z 1], [.cells 9 [.s ⟨#[97]⟩, .s ⟨#[98]⟩], O0, O1, .cells 3 [z 0, z 1], .grow 3 1 [z 0, z 4, z 4, z 4, z 4], .cells 3 [z 1, z 0]], .sl (some (6, 0)) 2 none, [.cells 9 [.s ⟨#[97]⟩, .s ⟨#[98]⟩], O0, O1, .cells 3 [z 0, z 1], .grow 3 1 [z 0, z 4, z 4, z 4, z 4], .cells 3 [z 1, z 0], .grow 3 1 [z 0, z 1]]⟩
theorem k31 : FactOk Tryz.prog 76 A31 := factOk_ok (ex_ok iEn_ok mixed .nil 600) (by kernel_rfl)
noncomputable def A32 : Fact := ⟨[.ag [.sl (some (0, 0)) 2 (some 2), .sl (some (1, 0)) 2 (some 2), .sl (some (2, 0)) 2 (some 2)], z 1, z 0], [.cells 9 [.s ⟨#[97]⟩, .s ⟨#[98]⟩], O0, O1, .cells 3 [z 0, z 1], .grow 3 1 [z 0, z 4, z 4, z 4, z 4], .cells 3 [z 1, z 0]], .sl (some (6, 0)) 2 none, [.cells 9 [.s ⟨#[97]⟩, .s ⟨#[98]⟩], O0, O1, .cells 3 [z 0, z 1], .grow 3 1 [z 0, z 4, z 4, z 4, z 4], .cells 3 [z 1, z 0], .grow 3 1 [z 0, z 1]]⟩
theorem k32 : FactOk Tryz.prog 50 A32 := factOk_ok (ex_ok iEn_ok mixed (.add k31 .nil) 600) (by kernel_rfl)
noncomputable def A33 : Fact := ⟨[.ag [.sl (some (0, 0)) 2 (some 2), .sl (some (1, 0)) 2 (some 2), .sl (some (2, 0)) 2 (some 2)], .sl (some (3, 0)) 2 (some 2), z 0, z 1], [.cells 9 [.s ⟨#[97]⟩, .s ⟨#[98]⟩], O0, O2, O3, .cells 3 [z 0, z 1], .grow 3 1 [z 0, z 4, z 4, z 4, z 4], .cells 3 [z 1, z 0], .cells 3 [z 0], .cells 3 [z 0]], .tu [.ag [.sl (some (9, 0)) 4 none, z 4, z 4], z 0], [.cells 9 [.s ⟨#[97]⟩, .s ⟨#[98]⟩], O0, O2, O3, .cells 3 [z 0, z 1], .grow 3 1 [z 0, z 4, z 4, z 4, z 4], .cells 3 [z 1, z 0], .cells 3 [z 0], .cells 3 [z 0], .grow 3 1 [z 0, z 4, z 4, z 4]]⟩
theorem k33 : FactOk Tryz.prog 150 A33 := factOk_ok (ex_ok iEn_ok mixed (.add k4 (.add k10 .nil)) 600) (by kernel_rfl)
noncomputable def A34 : Fact := ⟨[.ag [.sl (some (0, 0)) 2 (some 2), .sl (some (1, 0)) 2 (some 2), .sl (some (2, 0)) 2 (some 2)], .sl (some (3, 0)) 2 (some 2), z 1, z 0], [.cells 9 [.s ⟨#[97]⟩, .s ⟨#[98]⟩], O0, O2, O3, .cells 3 [z 0, z 1], .grow 3 1 [z 0, z 4, z 4, z 4, z 4], .cells 3 [z 1, z 0], .cells 3 [z 0], .cells 3 [z 0]], .tu [.ag [.sl (some (9, 0)) 4 none, z 4, z 4], z 0], [.cells 9 [.s ⟨#[97]⟩, .s ⟨#[98]⟩], O0, O2, O3, .cells 3 [z 0, z 1], .grow 3 1 [z 0, z 4, z 4, z 4, z 4], .cells 3 [z 1, z 0], .cells 3 [z 0], .cells 3 [z 0], .grow 3 1 [z 0, z 4, z 4, z 4]]⟩
theorem k34 : FactOk Tryz.prog 150 A34 := factOk_ok (ex_ok iEn_ok mixed (.add k4 (.add k10 .nil)) 600) (by kernel_rfl)
noncomputable def O4 : HO := .cells 22 [.sl (some (10, 0)) 1 (some 1), .sl (some (11, 0)) 1 (some 1)]
noncomputable def A35 : Fact := ⟨[.ag [.sl (some (0, 0)) 2 (some 2), .sl (some (1, 0)) 2 (some 2), .sl (some (2, 0)) 2 (some 2)], .sl (some (3, 0)) 2 (some 2)], [.cells 9 [.s ⟨#[97]⟩, .s ⟨#[98]⟩], O0, O2, O3, .cells 3 [z 0, z 1], .grow 3 1 [z 0, z 4, z 4, z 4, z 4], .cells 3 [z 1, z 0], .cells 3 [z 0], .cells 3 [z 0]], .tu [.sl (some (9, 0)) 2 (some 2), z 0], [.cells 9 [.s ⟨#[97]⟩, .s ⟨#[98]⟩], O0, O2, O3, .cells 3 [z 0, z 1], .grow 3 1 [z 0, z 4, z 4, z 4, z 4], .cells 3 [z 1, z 0], .cells 3 [z 0], .cells 3 [z 0], O4, .cells 3 [z 0], .cells 3 [z 0]]⟩
theorem k35 : FactOk Tryz.prog 48 A35 := factOk_ok (ex_ok iEn_ok mixed (.add k4 (.add k6 (.add k11 (.add k17 (.add k18 (.add k20 (.add k3 (.add k30 (.add k32 (.add k33 (.add k34 .nil))))))))))) 600) (by kernel_rfl)
noncomputable def A36 : Fact := ⟨[.ag [.sl (some (0, 0)) 2 (some 2), .sl (some (1, 0)) 2 (some 2), .sl (some (2, 0)) 2 (some 2)], z 60], [.cells 9 [.s ⟨#[97]⟩, .s ⟨#[98]⟩], O0, O1, .cells 3 [z 0, z 1], .grow 3 1 [z 0, z 4, z 4, z 4, z 4], .cells 3 [z 1, z 0]], .tu [.sl (some (6, 0)) 2 (some 2), z 1, z 0], [.cells 9 [.s ⟨#[97]⟩, .s ⟨#[98]⟩], O0, O1, .cells 3 [z 0, z 1], .grow 3 1 [z 0, z 4, z 4, z 4, z 4], .cells 3 [z 1, z 0], O3, .cells 3 [z 0], .cells 3 [z 0]]⟩
theorem k36 : FactOk Tryz.prog 8 A36 := factOk_ok (ex_ok iEn_ok mixed (.add k3 (.add k35 (.add k6 (.add k32 .nil)))) 600) (by kernel_rfl)
noncomputable def A37 : Fact := ⟨[.ag [.sl (some (0, 0)) 2 (some 2), .sl (some (1, 0)) 2 (some 2), .sl (some (2, 0)) 2 (some 2)], .sl (some (3, 0)) 2 (some 2)], [.cells 9 [.s ⟨#[97]⟩, .s ⟨#[98]⟩], O0, O2, O3, .cells 3 [z 0, z 1], .grow 3 1 [z 0, z 4, z 4, z 4, z 4], .cells 3 [z 1, z 0], .cells 3 [z 0], .cells 3 [z 0]], .tu [.sl (some (9, 0)) 2 (some 2), .b true], [.cells 9 [.s ⟨#[97]⟩, .s ⟨#[98]⟩], O0, O2, O3, .cells 3 [z 0, z 1], .grow 3 1 [z 0, z 4, z 4, z 4, z 4], .cells 3 [z 1, z 0], .cells 3 [z 0], .cells 3 [z 0], O4, .cells 3 [z 0], .cells 3 [z 0]]⟩
theorem k37 : FactOk Tryz.prog 67 A37 := factOk_ok (ex_ok iEn_ok mixed (.add k4 (.add k6 (.add k32 (.add k35 .nil)))) 600) (by kernel_rfl)
noncomputable def A38 : Fact := ⟨[.ag [.sl (some (0, 0)) 1 none, z 1, z 10, .sl (some (1, 0)) 4 none, z 4, z 4, z 0], z 1, z 4], [.grow 3 1 [z 0], .grow 3 1 [z 0, z 4, z 4, z 4]], z 6, [.grow 3 1 [z 0], .grow 3 1 [z 0, z 4, z 4, z 4]]⟩
theorem k38 : FactOk Tryz.prog 210 A38 := factOk_ok (ex_ok iEn_ok mixed .nil 600) (by kernel_rfl)
noncomputable def A39 : Fact := ⟨[.ag [.sl (some (0, 0)) 1 none, z 1, z 10, .sl (some (1, 0)) 4 none, z 4, z 4, z 0], z 400, z 4], [.grow 3 1 [z 0], .grow 3 1 [z 0, z 4, z 4, z 4]], z 3600, [.grow 3 1 [z 0], .grow 3 1 [z 0, z 4, z 4, z 4]]⟩
theorem k39 : FactOk Tryz.prog 210 A39 := factOk_ok (ex_ok iEn_ok mixed .nil 600) (by kernel_rfl)
noncomputable def A40 : Fact := ⟨[.ag [.sl (some (0, 0)) 1 none, z 1, z 10, .sl (some (1, 0)) 4 none, z 4, z 4, z 0], z 404, z 4], [.grow 3 1 [z 0], .grow 3 1 [z 0, z 4, z 4, z 4]], z 3636, [.grow 3 1 [z 0], .grow 3 1 [z 0, z 4, z 4, z 4]]⟩
theorem k40 : FactOk Tryz.prog 210 A40 := factOk_ok (ex_ok iEn_ok mixed .nil 600) (by kernel_rfl)
noncomputable def L0 : List V := zs [0, 6, 16, 26, 36, 42, 52, 62, 72, 78, 88, 98, 108, 114, 124, 134, 144, 150, 160, 170, 180, 186, 196, 206, 216, 222, 232, 242, 252, 258, 268, 278, 288, 294, 304, 314, 324, 330, 340, 350, 360, 366, 376, 386, 396, 402, 412, 422, 432, 438, 448, 458, 468, 474, 484, 494, 504, 510, 520, 530, 540, 546, 556, 566, 576, 582, 592, 602, 612, 618, 628, 638, 648, 654, 664, 674, 684, 690, 700, 710, 720, 726, 736, 746, 756, 762, 772, 782, 792, 798, 808, 818, 828, 834, 844, 854, 864, 870, 880, 890, 900, 906, 916, 926, 936, 942, 952, 962, 972, 978, 988, 998, 1008, 1014, 1024, 1034, 1044, 1050, 1060, 1070, 1080, 1086, 1096, 1106, 1116, 1122, 1132, 1142, 1152, 1158, 1168, 1178, 1188, 1194, 1204, 1214, 1224, 1230, 1240, 1250, 1260, 1266, 1276, 1286, 1296, 1302, 1312, 1322, 1332, 1338, 1348, 1358, 1368, 1374, 1384, 1394, 1404, 1410, 1420, 1430, 1440, 1446, 1456, 1466, 1476, 1482, 1492, 1502, 1512, 1518, 1528, 1538, 1548, 1554, 1564, 1574, 1584, 1590, 1600, 1610, 1620, 1626, 1636, 1646, 1656, 1662, 1672, 1682, 1692, 1698, 1708, 1718, 1728, 1734, 1744, 1754, 1764, 1770, 1780, 1790, 1800, 1806, 1816, 1826, 1836, 1842, 1852, 1862, 1872, 1878, 1888, 1898, 1908, 1914, 1924, 1934, 1944, 1950, 1960, 1970, 1980, 1986, 1996, 2006, 2016, 2022, 2032, 2042, 2052, 2058, 2068, 2078, 2088, 2094, 2104, 2114, 2124, 2130, 2140, 2150, 2160, 2166, 2176, 2186, 2196, 2202, 2212, 2222, 2232, 2238, 2248, 2258, 2268, 2274, 2284, 2294, 2304, 2310, 2320, 2330, 2340, 2346, 2356, 2366, 2376, 2382, 2392, 2402, 2412, 2418, 2428, 2438, 2448, 2454, 2464, 2474, 2484, 2490, 2500, 2510, 2520, 2526, 2536, 2546, 2556, 2562, 2572, 2582, 2592, 2598, 2608, 2618, 2628, 2634, 2644, 2654, 2664, 2670, 2680, 2690, 2700, 2706, 2716, 2726, 2736, 2742, 2752, 2762, 2772, 2778, 2788, 2798, 2808, 2814, 2824, 2834, 2844, 2850, 2860, 2870, 2880, 2886, 2896, 2906, 2916, 2922, 2932, 2942, 2952, 2958, 2968, 2978, 2988, 2994, 3004, 3014, 3024, 3030, 3040, 3050, 3060, 3066, 3076, 3086, 3096, 3102, 3112, 3122, 3132, 3138, 3148, 3158, 3168, 3174, 3184, 3194, 3204, 3210, 3220, 3230, 3240, 3246, 3256, 3266, 3276, 3282, 3292, 3302, 3312, 3318, 3328, 3338, 3348, 3354, 3364, 3374, 3384, 3390, 3400, 3410, 3420, 3426, 3436, 3446, 3456, 3462, 3472, 3482, 3492, 3498, 3508, 3518, 3528, 3534, 3544, 3554, 3564, 3570, 3580, 3590, 3600, 3606, 3616, 3626]
noncomputable def A41 : Fact := ⟨[.f 212 [] [.p (some (0, 0))], z 400, z 4, z 36], [.cells 22 [.sl (some (1, 0)) 404 (some 404)], .cells 3 L0], .tu [.ag [.sl (some (2, 0)) 4 none, z 4, z 36], z 0], [.cells 22 [.sl (some (1, 0)) 404 (some 404)], .cells 3 L0, .grow 3 1 [z 0, z 6, z 16, z 26]]⟩
noncomputable def B41 : Code := (fiOf Tryz.f144).body
noncomputable def S0 : St := ⟨(.node (some (.f 212 [] [.p (some (0, 0))])) (.node (some (z 400)) (.node (some (z 36)) (.node (some (.tu [])) (.node (some (.tu [])) (.node (some (.tu [])) (.node (some (.tu [])) .nil .nil) .nil) (.node (some (.tu [])) (.node (some (.tu [])) .nil .nil) .nil)) (.node (some (.tu [])) (.node (some (.tu [])) (.node (some (.tu [])) .nil .nil) .nil) (.node (some (.tu [])) (.node (some (.tu [])) .nil .nil) .nil))) (.node (some (.tu [])) (.node (some (.tu [])) (.node (some (.tu [])) (.node (some (.tu [])) .nil .nil) .nil) (.node (some (.tu [])) (.node (some (.tu [])) .nil .nil) .nil)) (.node (some (.tu [])) (.node (some (.tu [])) (.node (some (.tu [])) .nil .nil) .nil) (.node (some (.tu [])) .nil .nil)))) (.node (some (.tu [])) (.node (some (.tu [])) (.node (some (.tu [])) (.node (some (.tu [])) (.node (some (.tu [])) .nil .nil) .nil) (.node (some (.tu [])) (.node (some (.tu [])) .nil .nil) .nil)) (.node (some (.tu [])) (.node (some (.tu [])) (.node (some (.tu [])) .nil .nil) .nil) (.node (some (.tu [])) (.node (some (.tu [])) .nil .nil) .nil))) (.node (some (.tu [])) (.node (some (.tu [])) (.node (some (.tu [])) (.node (some (.tu [])) .nil .nil) .nil) (.node (some (.tu [])) (.node (some (.tu [])) .nil .nil) .nil)) (.node (some (.tu [])) (.node (some (.tu [])) (.node (some (.tu [])) .nil .nil) .nil) (.node (some (.tu [])) .nil .nil))))) (.node (some (z 4)) (.node (some (.tu [])) (.node (some (.tu [])) (.node (some (.tu [])) (.node (some (.tu [])) (.node (some (.tu [])) .nil .nil) .nil) (.node (some (.tu [])) (.node (some (.tu [])) .nil .nil) .nil)) (.node (some (.tu [])) (.node (some (.tu [])) (.node (some (.tu [])) .nil .nil) .nil) (.node (some (.tu [])) (.node (some (.tu [])) .nil .nil) .nil))) (.node (some (.tu [])) (.node (some (.tu [])) (.node (some (.tu [])) (.node (some (.tu [])) .nil .nil) .nil) (.node (some (.tu [])) (.node (some (.tu [])) .nil .nil) .nil)) (.node (some (.tu [])) (.node (some (.tu [])) (.node (some (.tu [])) .nil .nil) .nil) (.node (some (.tu [])) .nil .nil)))) (.node (some (.tu [])) (.node (some (.tu [])) (.node (some (.tu [])) (.node (some (.tu [])) (.node (some (.tu [])) .nil .nil) .nil) (.node (some (.tu [])) (.node (some (.tu [])) .nil .nil) .nil)) (.node (some (.tu [])) (.node (some (.tu [])) (.node (some (.tu [])) .nil .nil) .nil) (.node (some (.tu [])) .nil .nil))) (.node (some (.tu [])) (.node (some (.tu [])) (.node (some (.tu [])) (.node (some (.tu [])) .nil .nil) .nil) (.node (some (.tu [])) (.node (some (.tu [])) .nil .nil) .nil)) (.node (some (.tu [])) (.node (some (.tu [])) (.node (some (.tu [])) .nil .nil) .nil) (.node (some (.tu [])) .nil .nil)))))), [], (.node (some (.cells 22 [.sl (some (1, 0)) 404 (some 404)])) (.node (some (.cells 3 L0)) .nil .nil) .nil), 2⟩
noncomputable def S1 : St := ⟨updT [(8, some (.p (some (2, 0)))), (9, some (z 0))] S0.tm, [], updT [(2, some (.cells 37 [.sl none 0 (some 0), z 0, z 0]))] S0.h, 3⟩
theorem c0 : CodeS Tryz.prog (subC [true] B41) none S0 .nrm S1 := .runB (ex_ok iEn_ok mixed .nil 600) (by kernel_rfl)
noncomputable def S2 : St := ⟨updT [(10, some (.sl (some (3, 0)) 404 (some 404))), (14, some (z 400)), (15, some (z 4)), (16, some (z 404)), (17, some (.sl (some (3, 0)) 404 (some 404)))] S1.tm, [], updT [(3, some (.cells 3 (repX 404 [z 0])))] S1.h, 4⟩
theorem c1 : CodeS Tryz.prog (subC [false, true] B41) none S1 .nrm S2 := .runB (ex_ok iEn_ok mixed .nil 600) (by kernel_rfl)
noncomputable def S3 : St := ⟨updT [(11, some (z 403)), (18, some (.sl (some (3, 0)) 404 (some 404))), (19, some (z 404)), (20, some (z 404)), (21, some (.b false)), (22, some (z 403)), (23, some (.sl (some (3, 0)) 404 (some 404))), (24, some (z 403)), (25, some (.f 212 [] [.p (some (0, 0))])), (26, some (z 403)), (27, some (z 3626)), (28, some (.p (some (3, 403)))), (29, some (.sl (some (3, 0)) 404 (some 404))), (30, some (z 403)), (31, some (.p (some (3, 403)))), (32, some (z 3626)), (33, some (.b false)), (41, some (z 404))] S2.tm, [], updT [(3, some (.cells 3 L0))] S2.h, 4⟩
theorem c2 : CodeS Tryz.prog (subC [false, false, true] B41) none S2 .nrm S3 := .runB (ex_ok iEn_ok mixed .nil 600) (by kernel_rfl)
noncomputable def S4 : St := ⟨updT [(1, some (z 0)), (12, some (z 4)), (13, some (z 36)), (42, some (.sl (some (3, 0)) 404 (some 404))), (43, some (z 400)), (44, some (.sl (some (3, 400)) 4 (some 4))), (45, some (z 36)), (46, some (z 4)), (47, some (z 36)), (48, some (z 4)), (49, some (z 144)), (50, some (z 4)), (51, some (z 36)), (52, some (z 0)), (53, some (.b false)), (54, some (.b false)), (70, some (.b false)), (71, some (z 1)), (72, some (z 0)), (73, some (z 4)), (74, some (.b false)), (75, some (.b false)), (76, some (z 36)), (77, some (.b false)), (78, some (.b false)), (80, some (.sl (some (3, 0)) 404 (some 404))), (81, some (z 0)), (82, some (z 4)), (83, some (z 4)), (84, some (.sl (some (3, 0)) 4 (some 404))), (85, some (z 4)), (86, some (z 36)), (87, some (.tu [.ag [.sl (some (5, 0)) 4 none, z 4, z 36], z 0])), (88, some (.ag [.sl (some (5, 0)) 4 none, z 4, z 36])), (89, some (z 0))] S3.tm, [], updT [(2, some (.cells 37 [.sl (some (5, 0)) 4 none, z 4, z 36])), (5, some (.grow 3 1 [z 0, z 6, z 16, z 26]))] S3.h, 6⟩
theorem c3 : CodeS Tryz.prog (subC [false, false, false] B41) none S3 .ret S4 := .runB (ex_ok iEn_ok mixed .nil 600) (by kernel_rfl)
end Go.Proofs.YtehaepbflkncdaaGreat.I
namespace Go.Proofs.YtehaepbflkncdaaGreat.I
open Go Go.RowKit Go.Proofs.YtehaepbflkncdaaGreat.K
set_option maxRecDepth 1000000
theorem c4 : CodeS Tryz.prog (subC [false, false] B41) none S2 .ret S4 := .seqE (x := (subC [false, false, true] B41)) (y := (subC [false, false, false] B41)) (by kernel_rfl) c2 c3
theorem c5 : CodeS Tryz.prog (subC [false] B41) none S1 .ret S4 := .seqE (x := (subC [false, true] B41)) (y := (subC [false, false] B41)) (by kernel_rfl) c1 c4
theorem c6 : CodeS Tryz.prog (subC [] B41) none S0 .ret S4 := .seqE (x := (subC [true] B41)) (y := (subC [false] B41)) (by kernel_rfl) c0 c5
theorem k41 : FactOk Tryz.prog 144 A41 := factA_ok (h := S0.h) (v := .tu [.ag [.sl (some (5, 0)) 4 none, z 4, z 36], z 0]) (h' := S4.h) (n' := S4.n) (by kernel_rfl) (by kernel_rfl) (callX_ok (fi := fiOf Tryz.f144) (tm := S0.tm) (e := .ret) (s1 := S4) iEn_ok (by kernel_rfl) (by kernel_rfl) c6 (by kernel_rfl)) (by kernel_rfl)
noncomputable def A42 : Fact := ⟨[.ag [.sl (some (0, 0)) 1 (some 1), z 1, z 10], .ag [.sl (some (1, 0)) 4 none, z 4, z 4], z 0], [.cells 3 [z 0], .grow 3 1 [z 0, z 4, z 4, z 4]], .tu [.ag [.sl (some (2, 0)) 4 none, z 4, z 36], z 0], [.cells 3 [z 0], .grow 3 1 [z 0, z 4, z 4, z 4], .grow 3 1 [z 0, z 6, z 16, z 26]]⟩
noncomputable def B42 : Code := (fiOf Tryz.f183).body
noncomputable def S5 : St := ⟨(.node (some (.ag [.sl (some (0, 0)) 1 (some 1), z 1, z 10])) (.node (some (.ag [.sl (some (1, 0)) 4 none, z 4, z 4])) (.node (some (.tu [])) (.node (some (.tu [])) (.node (some (.tu [])) (.node (some (.tu [])) (.node (some (.tu [])) (.node (some (.tu [])) .nil .nil) .nil) (.node (some (.tu [])) .nil .nil)) (.node (some (.tu [])) (.node (some (.tu [])) (.node (some (.tu [])) .nil .nil) .nil) (.node (some (.tu [])) .nil .nil))) (.node (some (.tu [])) (.node (some (.tu [])) (.node (some (.tu [])) (.node (some (.tu [])) .nil .nil) .nil) (.node (some (.tu [])) .nil .nil)) (.node (some (.tu [])) (.node (some (.tu [])) (.node (some (.tu [])) .nil .nil) .nil) (.node (some (.tu [])) .nil .nil)))) (.node (some (.tu [])) (.node (some (.tu [])) (.node (some (.tu [])) (.node (some (.tu [])) (.node (some (.tu [])) .nil .nil) .nil) (.node (some (.tu [])) .nil .nil)) (.node (some (.tu [])) (.node (some (.tu [])) (.node (some (.tu [])) .nil .nil) .nil) (.node (some (.tu [])) .nil .nil))) (.node (some (.tu [])) (.node (some (.tu [])) (.node (some (.tu [])) (.node (some (.tu [])) .nil .nil) .nil) (.node (some (.tu [])) .nil .nil)) (.node (some (.tu [])) (.node (some (.tu [])) .nil .nil) (.node (some (.tu [])) .nil .nil))))) (.node (some (.tu [])) (.node (some (.tu [])) (.node (some (.tu [])) (.node (some (.tu [])) (.node (some (.tu [])) (.node (some (.tu [])) .nil .nil) .nil) (.node (some (.tu [])) .nil .nil)) (.node (some (.tu [])) (.node (some (.tu [])) (.node (some (.tu [])) .nil .nil) .nil) (.node (some (.tu [])) .nil .nil))) (.node (some (.tu [])) (.node (some (.tu [])) (.node (some (.tu [])) (.node (some (.tu [])) .nil .nil) .nil) (.node (some (.tu [])) .nil .nil)) (.node (some (.tu [])) (.node (some (.tu [])) (.node (some (.tu [])) .nil .nil) .nil) (.node (some (.tu [])) .nil .nil)))) (.node (some (.tu [])) (.node (some (.tu [])) (.node (some (.tu [])) (.node (some (.tu [])) (.node (some (.tu [])) .nil .nil) .nil) (.node (some (.tu [])) .nil .nil)) (.node (some (.tu [])) (.node (some (.tu [])) (.node (some (.tu [])) .nil .nil) .nil) (.node (some (.tu [])) .nil .nil))) (.node (some (.tu [])) (.node (some (.tu [])) (.node (some (.tu [])) (.node (some (.tu [])) .nil .nil) .nil) (.node (some (.tu [])) .nil .nil)) (.node (some (.tu [])) (.node (some (.tu [])) .nil .nil) (.node (some (.tu [])) .nil .nil)))))) (.node (some (z 0)) (.node (some (.tu [])) (.node (some (.tu [])) (.node (some (.tu [])) (.node (some (.tu [])) (.node (some (.tu [])) (.node (some (.tu [])) .nil .nil) .nil) (.node (some (.tu [])) .nil .nil)) (.node (some (.tu [])) (.node (some (.tu [])) (.node (some (.tu [])) .nil .nil) .nil) (.node (some (.tu [])) .nil .nil))) (.node (some (.tu [])) (.node (some (.tu [])) (.node (some (.tu [])) (.node (some (.tu [])) .nil .nil) .nil) (.node (some (.tu [])) .nil .nil)) (.node (some (.tu [])) (.node (some (.tu [])) (.node (some (.tu [])) .nil .nil) .nil) (.node (some (.tu [])) .nil .nil)))) (.node (some (.tu [])) (.node (some (.tu [])) (.node (some (.tu [])) (.node (some (.tu [])) (.node (some (.tu [])) .nil .nil) .nil) (.node (some (.tu [])) .nil .nil)) (.node (some (.tu [])) (.node (some (.tu [])) (.node (some (.tu [])) .nil .nil) .nil) (.node (some (.tu [])) .nil .nil))) (.node (some (.tu [])) (.node (some (.tu [])) (.node (some (.tu [])) (.node (some (.tu [])) .nil .nil) .nil) (.node (some (.tu [])) .nil .nil)) (.node (some (.tu [])) (.node (some (.tu [])) .nil .nil) (.node (some (.tu [])) .nil .nil))))) (.node (some (.tu [])) (.node (some (.tu [])) (.node (some (.tu [])) (.node (some (.tu [])) (.node (some (.tu [])) (.node (some (.tu [])) .nil .nil) .nil) (.node (some (.tu [])) .nil .nil)) (.node (some (.tu [])) (.node (some (.tu [])) (.node (some (.tu [])) .nil .nil) .nil) (.node (some (.tu [])) .nil .nil))) (.node (some (.tu [])) (.node (some (.tu [])) (.node (some (.tu [])) (.node (some (.tu [])) .nil .nil) .nil) (.node (some (.tu [])) .nil .nil)) (.node (some (.tu [])) (.node (some (.tu [])) .nil .nil) (.node (some (.tu [])) .nil .nil)))) (.node (some (.tu [])) (.node (some (.tu [])) (.node (some (.tu [])) (.node (some (.tu [])) (.node (some (.tu [])) .nil .nil) .nil) (.node (some (.tu [])) .nil .nil)) (.node (some (.tu [])) (.node (some (.tu [])) (.node (some (.tu [])) .nil .nil) .nil) (.node (some (.tu [])) .nil .nil))) (.node (some (.tu [])) (.node (some (.tu [])) (.node (some (.tu [])) (.node (some (.tu [])) .nil .nil) .nil) (.node (some (.tu [])) .nil .nil)) (.node (some (.tu [])) (.node (some (.tu [])) .nil .nil) (.node (some (.tu [])) .nil .nil))))))), [], (.node (some (.cells 3 [z 0])) (.node (some (.grow 3 1 [z 0, z 4, z 4, z 4])) .nil .nil) .nil), 2⟩
noncomputable def S6 : St := ⟨updT [(3, some (.p (some (2, 0)))), (4, some (.p (some (3, 0)))), (6, some (.p (some (4, 0)))), (7, some (z 0))] S5.tm, [], updT [(2, some (.cells 37 [.sl (some (0, 0)) 1 (some 1), z 1, z 10])), (3, some (.cells 37 [.sl (some (1, 0)) 4 none, z 4, z 4])), (4, some (.cells 37 [.sl none 0 (some 0), z 0, z 0]))] S5.h, 5⟩
theorem c7 : CodeS Tryz.prog (subC [true] B42) none S5 .nrm S6 := .runB (ex_ok iEn_ok mixed .nil 600) (by kernel_rfl)
noncomputable def S7 : St := ⟨updT [(8, some (.p (some (6, 0)))), (9, some (z 0)), (21, some (.tu [.ag [.sl (some (5, 0)) 1 none, z 1, z 10], z 0])), (22, some (.ag [.sl (some (0, 0)) 1 (some 1), z 1, z 10])), (23, some (.tu [.ag [.sl (some (5, 0)) 1 none, z 1, z 10], z 0])), (24, some (.ag [.sl (some (5, 0)) 1 none, z 1, z 10])), (25, some (z 0))] S6.tm, [], updT [(5, some (.grow 3 1 [z 0])), (6, some (.cells 37 [.sl (some (5, 0)) 1 none, z 1, z 10]))] S6.h, 7⟩
theorem c8 : CodeS Tryz.prog (subC [false, true] B42) none S6 .nrm S7 := .runB (ex_ok iEn_ok mixed (.add k28 .nil) 600) (by kernel_rfl)
noncomputable def S8 : St := ⟨updT [(26, some (z 0)), (27, some (.b false))] S7.tm, [], S7.h, 7⟩
theorem c9 : CodeS Tryz.prog (subC [false, false, true] B42) none S7 .nrm S8 := .runB (ex_ok iEn_ok mixed .nil 600) (by kernel_rfl)
noncomputable def S9 : St := ⟨updT [(10, some (.p (some (8, 0)))), (30, some (.tu [.ag [.sl (some (7, 0)) 4 none, z 4, z 4], z 0])), (31, some (.ag [.sl (some (1, 0)) 4 none, z 4, z 4])), (32, some (.tu [.ag [.sl (some (7, 0)) 4 none, z 4, z 4], z 0])), (33, some (.ag [.sl (some (7, 0)) 4 none, z 4, z 4])), (34, some (z 0))] S8.tm, [], updT [(7, some (.grow 3 1 [z 0, z 4, z 4, z 4])), (8, some (.cells 37 [.sl (some (7, 0)) 4 none, z 4, z 4]))] S8.h, 9⟩
theorem c10 : CodeS Tryz.prog (subC [false, false, false, true] B42) none S8 .nrm S9 := .runB (ex_ok iEn_ok mixed (.add k15 .nil) 600) (by kernel_rfl)
noncomputable def S10 : St := ⟨updT [(35, some (z 0)), (36, some (.b false))] S9.tm, [], S9.h, 9⟩
theorem c11 : CodeS Tryz.prog (subC [false, false, false, false, true] B42) none S9 .nrm S10 := .runB (ex_ok iEn_ok mixed .nil 600) (by kernel_rfl)
noncomputable def S11 : St := ⟨updT [(39, some (z 0)), (40, some (.b false)), (41, some (.b false)), (42, some (z 0)), (43, some (.b false)), (44, some (.b false))] S10.tm, [], S10.h, 9⟩
theorem c12 : CodeS Tryz.prog (subC [false, false, false, false, false, true] B42) none S10 .nrm S11 := .runB (ex_ok iEn_ok mixed .nil 600) (by kernel_rfl)
noncomputable def S12 : St := ⟨updT [(11, some (z 4)), (46, some (.p (some (6, 1)))), (47, some (z 1)), (48, some (.p (some (8, 1)))), (49, some (z 4)), (50, some (z 4))] S11.tm, [], S11.h, 9⟩
theorem c13 : CodeS Tryz.prog (subC [false, false, false, false, false, false, true] B42) none S11 .nrm S12 := .runB (ex_ok iEn_ok mixed .nil 600) (by kernel_rfl)
noncomputable def S13 : St := ⟨updT [(51, some (z 4)), (52, some (.b false))] S12.tm, [], S12.h, 9⟩
theorem c14 : CodeS Tryz.prog (subC [false, false, false, false, false, false, false, true] B42) none S12 .nrm S13 := .runB (ex_ok iEn_ok mixed .nil 600) (by kernel_rfl)
noncomputable def O5 : HO := .cells 277 [.sl (some (5, 0)) 1 none, z 1, z 10, .sl (some (7, 0)) 4 none, z 4, z 4, z 0]
noncomputable def S14 : St := ⟨updT [(12, some (.p (some (9, 0)))), (54, some (.ag [.sl (some (5, 0)) 1 none, z 1, z 10])), (55, some (.ag [.sl (some (7, 0)) 4 none, z 4, z 4])), (56, some (z 0)), (57, some (.ag [.sl (some (5, 0)) 1 none, z 1, z 10, .sl (some (7, 0)) 4 none, z 4, z 4, z 0]))] S13.tm, [], updT [(9, some (O5))] S13.h, 10⟩
theorem c15 : CodeS Tryz.prog (subC [false, false, false, false, false, false, false, false, true] B42) none S13 .nrm S14 := .runB (ex_ok iEn_ok mixed .nil 600) (by kernel_rfl)
noncomputable def S15 : St := ⟨updT [(13, some (z 36)), (58, some (.ag [.sl (some (5, 0)) 1 none, z 1, z 10])), (59, some (z 4)), (60, some (z 40)), (61, some (.ag [.sl (some (7, 0)) 4 none, z 4, z 4])), (62, some (z 4)), (63, some (z 4)), (64, some (z 36))] S14.tm, [], S14.h, 12⟩
theorem c16 : CodeS Tryz.prog (subC [false, false, false, false, false, false, false, false, false, true] B42) none S14 .nrm S15 := .runB (ex_ok iEn_ok mixed .nil 600) (by kernel_rfl)
noncomputable def S16 : St := ⟨updT [(14, some (z 1)), (65, some (.ag [.sl (some (5, 0)) 1 none, z 1, z 10])), (66, some (z 0)), (67, some (.ag [.sl (some (7, 0)) 4 none, z 4, z 4])), (68, some (z 0)), (69, some (z 0)), (70, some (z 0)), (71, some (z 0)), (72, some (z 1)), (73, some (z 1))] S15.tm, [], S15.h, 14⟩
theorem c17 : CodeS Tryz.prog (subC [false, false, false, false, false, false, false, false, false, false, true] B42) none S15 .nrm S16 := .runB (ex_ok iEn_ok mixed .nil 600) (by kernel_rfl)
noncomputable def S17 : St := ⟨updT [(15, some (z 6)), (74, some (.ag [.sl (some (5, 0)) 1 none, z 1, z 10, .sl (some (7, 0)) 4 none, z 4, z 4, z 0])), (75, some (z 1)), (76, some (z 4)), (77, some (z 6))] S16.tm, [], S16.h, 14⟩
theorem c18 : CodeS Tryz.prog (subC [false, false, false, false, false, false, false, false, false, false, false, true] B42) none S16 .nrm S17 := .runB (ex_ok iEn_ok mixed (.add k38 .nil) 600) (by kernel_rfl)
noncomputable def S18 : St := ⟨updT [(78, some (.ag [.sl (some (7, 0)) 4 none, z 4, z 4])), (79, some (.b true)), (80, some (.b false)), (81, some (.b false)), (82, some (.ag [.sl (some (5, 0)) 1 none, z 1, z 10])), (83, some (.b true)), (84, some (.b true)), (85, some (z 36)), (86, some (.b false)), (87, some (.b false)), (88, some (z 36)), (89, some (.b false)), (90, some (.b false)), (93, some (.b false)), (94, some (.b false)), (95, some (.b false)), (96, some (.b false))] S17.tm, [], S17.h, 16⟩
theorem c19 : CodeS Tryz.prog (subC [false, false, false, false, false, false, false, false, false, false, false, false, true] B42) none S17 .nrm S18 := .runB (ex_ok iEn_ok mixed .nil 600) (by kernel_rfl)
noncomputable def S19 : St := ⟨updT [(100, some (z 0)), (101, some (.b false))] S18.tm, [], S18.h, 16⟩
theorem c20 : CodeS Tryz.prog (subC [false, false, false, false, false, false, false, false, false, false, false, false, false, true] B42) none S18 .nrm S19 := .runB (ex_ok iEn_ok mixed .nil 600) (by kernel_rfl)
noncomputable def S20 : St := ⟨updT [(16, some (z 1)), (17, some (z 0))] S19.tm, [], S19.h, 16⟩
theorem c21 : CodeS Tryz.prog (subC [false, false, false, false, false, false, false, false, false, false, false, false, false, false, true] B42) none S19 .nrm S20 := .runB (ex_ok iEn_ok mixed .nil 600) (by kernel_rfl)
noncomputable def S21 : St := ⟨updT [(14, some (z 400)), (16, some (z 4)), (17, some (z 36)), (103, some (.ag [.sl (some (5, 0)) 1 none, z 1, z 10])), (104, some (.b true)), (105, some (.b true)), (106, some (z 36)), (107, some (.b true)), (108, some (.b true)), (109, some (z 4)), (110, some (z 36)), (111, some (z 1)), (112, some (.b true)), (113, some (.ag [.sl (some (5, 0)) 1 none, z 1, z 10, .sl (some (7, 0)) 4 none, z 4, z 4, z 0])), (114, some (z 400)), (115, some (z 4)), (116, some (z 3600)), (117, some (.b false))] S20.tm, [], S20.h, 17⟩
theorem c22 : CodeS Tryz.prog (subC [false, false, false, false, false, false, false, false, false, false, false, false, false, false, false, true] B42) none S20 .nrm S21 := .runB (ex_ok iEn_ok mixed (.add k39 .nil) 600) (by kernel_rfl)
noncomputable def S22 : St := ⟨updT [(18, some (.p (some (18, 0)))), (119, some (z 400)), (120, some (z 4)), (121, some (z 404)), (122, some (.sl (some (17, 0)) 404 (some 404)))] S21.tm, [], updT [(17, some (.cells 3 (repX 404 [z 0]))), (18, some (.cells 22 [.sl (some (17, 0)) 404 (some 404)]))] S21.h, 19⟩
theorem c23 : CodeS Tryz.prog (subC [false, false, false, false, false, false, false, false, false, false, false, false, false, false, false, false, true] B42) none S21 .nrm S22 := .runB (ex_ok iEn_ok mixed .nil 600) (by kernel_rfl)
noncomputable def S23 : St := ⟨updT [(19, some (z 3636)), (123, some (.ag [.sl (some (5, 0)) 1 none, z 1, z 10, .sl (some (7, 0)) 4 none, z 4, z 4, z 0])), (124, some (z 400)), (125, some (z 4)), (126, some (z 404)), (127, some (z 4)), (128, some (z 3636))] S22.tm, [], S22.h, 19⟩
theorem c24 : CodeS Tryz.prog (subC [false, false, false, false, false, false, false, false, false, false, false, false, false, false, false, false, false, true] B42) none S22 .nrm S23 := .runB (ex_ok iEn_ok mixed (.add k40 .nil) 600) (by kernel_rfl)
noncomputable def S24 : St := ⟨updT [(20, some (z 403)), (129, some (.sl (some (17, 0)) 404 (some 404))), (130, some (z 404)), (131, some (z 403))] S23.tm, [], S23.h, 19⟩
theorem c25 : CodeS Tryz.prog (subC [false, false, false, false, false, false, false, false, false, false, false, false, false, false, false, false, false, false, true, true] B42) none S23 .nrm S24 := .runB (ex_ok iEn_ok mixed .nil 600) (by kernel_rfl)
noncomputable def L1 : List V := zs [0, 0, 0, 0, 0, 0, 0, 0, 0, 0, 0, 0, 0, 0, 0, 0, 0, 0, 0, 0, 0, 0, 0, 0, 0, 0, 0, 0, 0, 0, 0, 0, 0, 0, 0, 0, 0, 0, 0, 0, 0, 0, 0, 0, 0, 0, 0, 0, 0, 0, 0, 0, 0, 0, 0, 0, 0, 0, 0, 0, 0, 0, 0, 0, 0, 0, 0, 0, 0, 0, 0, 0, 0, 0, 0, 0, 0, 0, 0, 0, 0, 0, 0, 0, 0, 0, 0, 0, 0, 0, 0, 0, 0, 0, 0, 0, 0, 0, 0, 0, 0, 0, 0, 0, 0, 0, 0, 0, 0, 0, 0, 0, 0, 0, 0, 0, 0, 0, 0, 0, 0, 0, 0, 0, 0, 0, 0, 0, 0, 0, 0, 0, 0, 0, 0, 0, 0, 0, 0, 0, 0, 0, 0, 0, 0, 0, 0, 0, 0, 0, 0, 0, 0, 0, 0, 0, 0, 0, 0, 0, 0, 0, 0, 0, 0, 0, 0, 0, 0, 0, 0, 0, 0, 0, 0, 0, 0, 0, 0, 0, 0, 0, 0, 0, 0, 0, 0, 0, 0, 0, 0, 0, 0, 0, 0, 0, 0, 0, 0, 0, 0, 0, 0, 0, 0, 0, 0, 0, 0, 0, 0, 0, 0, 0, 0, 0, 0, 0, 0, 0, 0, 0, 0, 0, 0, 0, 0, 0, 0, 0, 0, 0, 0, 0, 0, 0, 0, 0, 0, 0, 0, 0, 0, 0, 0, 0, 0, 0, 0, 0, 0, 0, 0, 0, 0, 0, 0, 0, 0, 0, 0, 0, 0, 0, 0, 0, 0, 0, 0, 0, 0, 0, 0, 0, 0, 0, 0, 0, 0, 0, 0, 0, 0, 0, 0, 0, 0, 0, 0, 0, 0, 0, 0, 0, 0, 0, 0, 0, 0, 0, 0, 0, 0, 2726, 2736, 2742, 2752, 2762, 2772, 2778, 2788, 2798, 2808, 2814, 2824, 2834, 2844, 2850, 2860, 2870, 2880, 2886, 2896, 2906, 2916, 2922, 2932, 2942, 2952, 2958, 2968, 2978, 2988, 2994, 3004, 3014, 3024, 3030, 3040, 3050, 3060, 3066, 3076, 3086, 3096, 3102, 3112, 3122, 3132, 3138, 3148, 3158, 3168, 3174, 3184, 3194, 3204, 3210, 3220, 3230, 3240, 3246, 3256, 3266, 3276, 3282, 3292, 3302, 3312, 3318, 3328, 3338, 3348, 3354, 3364, 3374, 3384, 3390, 3400, 3410, 3420, 3426, 3436, 3446, 3456, 3462, 3472, 3482, 3492, 3498, 3508, 3518, 3528, 3534, 3544, 3554, 3564, 3570, 3580, 3590, 3600, 3606, 3616, 3626]
noncomputable def S25 : St := ⟨updT [(19, some (z 2726)), (20, some (z 302)), (132, some (z 303)), (133, some (z 0)), (134, some (.b true)), (135, some (z 303)), (136, some (z 302)), (137, some (z 2736)), (138, some (.ag [.sl (some (5, 0)) 1 none, z 1, z 10, .sl (some (7, 0)) 4 none, z 4, z 4, z 0])), (139, some (z 303)), (140, some (z 2726)), (141, some (z 2726)), (142, some (.sl (some (17, 0)) 404 (some 404))), (143, some (z 303)), (144, some (z 2726)), (145, some (z 2726)), (146, some (.p (some (17, 303))))] S24.tm, [], updT [(17, some (.cells 3 L1))] S24.h, 322⟩
noncomputable def L2 : List V := zs [0, 0, 0, 0, 0, 0, 0, 0, 0, 0, 0, 0, 0, 0, 0, 0, 0, 0, 0, 0, 0, 0, 0, 0, 0, 0, 0, 0, 0, 0, 0, 0, 0, 0, 0, 0, 0, 0, 0, 0, 0, 0, 0, 0, 0, 0, 0, 0, 0, 0, 0, 0, 0, 0, 0, 0, 0, 0, 0, 0, 0, 0, 0, 0, 0, 0, 0, 0, 0, 0, 0, 0, 0, 0, 0, 0, 0, 0, 0, 0, 0, 0, 0, 0, 0, 0, 0, 0, 0, 0, 0, 0, 0, 0, 0, 0, 0, 0, 0, 0, 0, 0, 0, 0, 0, 0, 0, 0, 0, 0, 0, 0, 0, 0, 0, 0, 0, 0, 0, 0, 0, 0, 0, 0, 0, 0, 0, 0, 0, 0, 0, 0, 0, 0, 0, 0, 0, 0, 0, 0, 0, 0, 0, 0, 0, 0, 0, 0, 0, 0, 0, 0, 0, 0, 0, 0, 0, 0, 0, 0, 0, 0, 0, 0, 0, 0, 0, 0, 0, 0, 0, 0, 0, 0, 0, 0, 0, 0, 0, 0, 0, 0, 0, 0, 0, 0, 0, 0, 0, 0, 0, 0, 0, 0, 0, 0, 0, 0, 0, 0, 0, 0, 1816, 1826, 1836, 1842, 1852, 1862, 1872, 1878, 1888, 1898, 1908, 1914, 1924, 1934, 1944, 1950, 1960, 1970, 1980, 1986, 1996, 2006, 2016, 2022, 2032, 2042, 2052, 2058, 2068, 2078, 2088, 2094, 2104, 2114, 2124, 2130, 2140, 2150, 2160, 2166, 2176, 2186, 2196, 2202, 2212, 2222, 2232, 2238, 2248, 2258, 2268, 2274, 2284, 2294, 2304, 2310, 2320, 2330, 2340, 2346, 2356, 2366, 2376, 2382, 2392, 2402, 2412, 2418, 2428, 2438, 2448, 2454, 2464, 2474, 2484, 2490, 2500, 2510, 2520, 2526, 2536, 2546, 2556, 2562, 2572, 2582, 2592, 2598, 2608, 2618, 2628, 2634, 2644, 2654, 2664, 2670, 2680, 2690, 2700, 2706, 2716, 2726, 2736, 2742, 2752, 2762, 2772, 2778, 2788, 2798, 2808, 2814, 2824, 2834, 2844, 2850, 2860, 2870, 2880, 2886, 2896, 2906, 2916, 2922, 2932, 2942, 2952, 2958, 2968, 2978, 2988, 2994, 3004, 3014, 3024, 3030, 3040, 3050, 3060, 3066, 3076, 3086, 3096, 3102, 3112, 3122, 3132, 3138, 3148, 3158, 3168, 3174, 3184, 3194, 3204, 3210, 3220, 3230, 3240, 3246, 3256, 3266, 3276, 3282, 3292, 3302, 3312, 3318, 3328, 3338, 3348, 3354, 3364, 3374, 3384, 3390, 3400, 3410, 3420, 3426, 3436, 3446, 3456, 3462, 3472, 3482, 3492, 3498, 3508, 3518, 3528, 3534, 3544, 3554, 3564, 3570, 3580, 3590, 3600, 3606, 3616, 3626]
noncomputable def S26 : St := ⟨updT [(19, some (z 1816)), (20, some (z 201)), (132, some (z 202)), (135, some (z 202)), (136, some (z 201)), (137, some (z 1826)), (139, some (z 202)), (140, some (z 1816)), (141, some (z 1816)), (143, some (z 202)), (144, some (z 1816)), (145, some (z 1816)), (146, some (.p (some (17, 202))))] S25.tm, [], updT [(17, some (.cells 3 L2))] S25.h, 625⟩
noncomputable def L3 : List V := zs [0, 0, 0, 0, 0, 0, 0, 0, 0, 0, 0, 0, 0, 0, 0, 0, 0, 0, 0, 0, 0, 0, 0, 0, 0, 0, 0, 0, 0, 0, 0, 0, 0, 0, 0, 0, 0, 0, 0, 0, 0, 0, 0, 0, 0, 0, 0, 0, 0, 0, 0, 0, 0, 0, 0, 0, 0, 0, 0, 0, 0, 0, 0, 0, 0, 0, 0, 0, 0, 0, 0, 0, 0, 0, 0, 0, 0, 0, 0, 0, 0, 0, 0, 0, 0, 0, 0, 0, 0, 0, 0, 0, 0, 0, 0, 0, 0, 0, 0, 0, 0, 906, 916, 926, 936, 942, 952, 962, 972, 978, 988, 998, 1008, 1014, 1024, 1034, 1044, 1050, 1060, 1070, 1080, 1086, 1096, 1106, 1116, 1122, 1132, 1142, 1152, 1158, 1168, 1178, 1188, 1194, 1204, 1214, 1224, 1230, 1240, 1250, 1260, 1266, 1276, 1286, 1296, 1302, 1312, 1322, 1332, 1338, 1348, 1358, 1368, 1374, 1384, 1394, 1404, 1410, 1420, 1430, 1440, 1446, 1456, 1466, 1476, 1482, 1492, 1502, 1512, 1518, 1528, 1538, 1548, 1554, 1564, 1574, 1584, 1590, 1600, 1610, 1620, 1626, 1636, 1646, 1656, 1662, 1672, 1682, 1692, 1698, 1708, 1718, 1728, 1734, 1744, 1754, 1764, 1770, 1780, 1790, 1800, 1806, 1816, 1826, 1836, 1842, 1852, 1862, 1872, 1878, 1888, 1898, 1908, 1914, 1924, 1934, 1944, 1950, 1960, 1970, 1980, 1986, 1996, 2006, 2016, 2022, 2032, 2042, 2052, 2058, 2068, 2078, 2088, 2094, 2104, 2114, 2124, 2130, 2140, 2150, 2160, 2166, 2176, 2186, 2196, 2202, 2212, 2222, 2232, 2238, 2248, 2258, 2268, 2274, 2284, 2294, 2304, 2310, 2320, 2330, 2340, 2346, 2356, 2366, 2376, 2382, 2392, 2402, 2412, 2418, 2428, 2438, 2448, 2454, 2464, 2474, 2484, 2490, 2500, 2510, 2520, 2526, 2536, 2546, 2556, 2562, 2572, 2582, 2592, 2598, 2608, 2618, 2628, 2634, 2644, 2654, 2664, 2670, 2680, 2690, 2700, 2706, 2716, 2726, 2736, 2742, 2752, 2762, 2772, 2778, 2788, 2798, 2808, 2814, 2824, 2834, 2844, 2850, 2860, 2870, 2880, 2886, 2896, 2906, 2916, 2922, 2932, 2942, 2952, 2958, 2968, 2978, 2988, 2994, 3004, 3014, 3024, 3030, 3040, 3050, 3060, 3066, 3076, 3086, 3096, 3102, 3112, 3122, 3132, 3138, 3148, 3158, 3168, 3174, 3184, 3194, 3204, 3210, 3220, 3230, 3240, 3246, 3256, 3266, 3276, 3282, 3292, 3302, 3312, 3318, 3328, 3338, 3348, 3354, 3364, 3374, 3384, 3390, 3400, 3410, 3420, 3426, 3436, 3446, 3456, 3462, 3472, 3482, 3492, 3498, 3508, 3518, 3528, 3534, 3544, 3554, 3564, 3570, 3580, 3590, 3600, 3606, 3616, 3626]
noncomputable def S27 : St := ⟨updT [(19, some (z 906)), (20, some (z 100)), (132, some (z 101)), (135, some (z 101)), (136, some (z 100)), (137, some (z 916)), (139, some (z 101)), (140, some (z 906)), (141, some (z 906)), (143, some (z 101)), (144, some (z 906)), (145, some (z 906)), (146, some (.p (some (17, 101))))] S26.tm, [], updT [(17, some (.cells 3 L3))] S26.h, 928⟩
noncomputable def S28 : St := ⟨updT [(19, some (z 6)), (20, some (z 0)), (132, some (z 0)), (134, some (.b false)), (135, some (z 1)), (136, some (z 0)), (137, some (z 16)), (139, some (z 1)), (140, some (z 6)), (141, some (z 6)), (143, some (z 1)), (144, some (z 6)), (145, some (z 6)), (146, some (.p (some (17, 1))))] S27.tm, [], updT [(17, some (.cells 3 L0))] S27.h, 1228⟩
theorem c26 : ∃ k, Rds Tryz.prog (subC [false, false, false, false, false, false, false, false, false, false, false, false, false, false, false, false, false, false, true, false, true, true] B42) none k S27 (.exit 0) S28 := CodeS.lastB (j := 102) (ex_ok iEn_ok mixed .nil 600) (by kernel_rfl)
theorem c27 : ∃ k, Rds Tryz.prog (subC [false, false, false, false, false, false, false, false, false, false, false, false, false, false, false, false, false, false, true, false, true, true] B42) none k S26 (.exit 0) S28 := CodeS.roundsB (j := 100) (s1 := S27) (ex_ok iEn_ok mixed .nil 600) (by kernel_rfl) c26
theorem c28 : ∃ k, Rds Tryz.prog (subC [false, false, false, false, false, false, false, false, false, false, false, false, false, false, false, false, false, false, true, false, true, true] B42) none k S25 (.exit 0) S28 := CodeS.roundsB (j := 100) (s1 := S26) (ex_ok iEn_ok mixed .nil 600) (by kernel_rfl) c27
end Go.Proofs.YtehaepbflkncdaaGreat.I
namespace Go.Proofs.YtehaepbflkncdaaGreat.I
open Go Go.RowKit Go.Proofs.YtehaepbflkncdaaGreat.K
set_option maxRecDepth 1000000
theorem c29 : ∃ k, Rds Tryz.prog (subC [false, false, false, false, false, false, false, false, false, false, false, false, false, false, false, false, false, false, true, false, true, true] B42) none k S24 (.exit 0) S28 := CodeS.roundsB (j := 100) (s1 := S25) (ex_ok iEn_ok mixed .nil 600) (by kernel_rfl) c28
theorem c30 : CodeS Tryz.prog (subC [false, false, false, false, false, false, false, false, false, false, false, false, false, false, false, false, false, false, true, false, true] B42) none S24 (.exit 0) S28 := .loopE (x := (subC [false, false, false, false, false, false, false, false, false, false, false, false, false, false, false, false, false, false, true, false, true, true] B42)) (by kernel_rfl) c29
theorem c31 : CodeS Tryz.prog (subC [false, false, false, false, false, false, false, false, false, false, false, false, false, false, false, false, false, false, true, false] B42) none S24 .nrm S28 := .blockE (x := (subC [false, false, false, false, false, false, false, false, false, false, false, false, false, false, false, false, false, false, true, false, true] B42)) (id := 0) (e1 := (.exit 0)) (s1 := S28) iEn_ok mixed (by kernel_rfl) c30 (by kernel_rfl)
theorem c32 : CodeS Tryz.prog (subC [false, false, false, false, false, false, false, false, false, false, false, false, false, false, false, false, false, false, true] B42) none S23 .nrm S28 := .seqE (x := (subC [false, false, false, false, false, false, false, false, false, false, false, false, false, false, false, false, false, false, true, true] B42)) (y := (subC [false, false, false, false, false, false, false, false, false, false, false, false, false, false, false, false, false, false, true, false] B42)) (by kernel_rfl) c25 c31
noncomputable def S29 : St := ⟨updT [(147, some (.f 212 [] [.p (some (18, 0))])), (148, some (z 400)), (149, some (z 4)), (150, some (z 36)), (151, some (.tu [.ag [.sl (some (1228, 0)) 4 none, z 4, z 36], z 0])), (152, some (.ag [.sl (some (1228, 0)) 4 none, z 4, z 36])), (153, some (z 0))] S28.tm, [], updT [(4, some (.cells 37 [.sl (some (1228, 0)) 4 none, z 4, z 36])), (1228, some (.grow 3 1 [z 0, z 6, z 16, z 26]))] S28.h, 1229⟩
theorem c33 : CodeS Tryz.prog (subC [false, false, false, false, false, false, false, false, false, false, false, false, false, false, false, false, false, false, false] B42) none S28 .ret S29 := .runB (ex_ok iEn_ok mixed (.add k41 .nil) 600) (by kernel_rfl)
theorem c34 : CodeS Tryz.prog (subC [false, false, false, false, false, false, false, false, false, false, false, false, false, false, false, false, false, false] B42) none S23 .ret S29 := .seqE (x := (subC [false, false, false, false, false, false, false, false, false, false, false, false, false, false, false, false, false, false, true] B42)) (y := (subC [false, false, false, false, false, false, false, false, false, false, false, false, false, false, false, false, false, false, false] B42)) (by kernel_rfl) c32 c33
theorem c35 : CodeS Tryz.prog (subC [false, false, false, false, false, false, false, false, false, false, false, false, false, false, false, false, false] B42) none S22 .ret S29 := .seqE (x := (subC [false, false, false, false, false, false, false, false, false, false, false, false, false, false, false, false, false, true] B42)) (y := (subC [false, false, false, false, false, false, false, false, false, false, false, false, false, false, false, false, false, false] B42)) (by kernel_rfl) c24 c34
theorem c36 : CodeS Tryz.prog (subC [false, false, false, false, false, false, false, false, false, false, false, false, false, false, false, false] B42) none S21 .ret S29 := .seqE (x := (subC [false, false, false, false, false, false, false, false, false, false, false, false, false, false, false, false, true] B42)) (y := (subC [false, false, false, false, false, false, false, false, false, false, false, false, false, false, false, false, false] B42)) (by kernel_rfl) c23 c35
theorem c37 : CodeS Tryz.prog (subC [false, false, false, false, false, false, false, false, false, false, false, false, false, false, false] B42) none S20 .ret S29 := .seqE (x := (subC [false, false, false, false, false, false, false, false, false, false, false, false, false, false, false, true] B42)) (y := (subC [false, false, false, false, false, false, false, false, false, false, false, false, false, false, false, false] B42)) (by kernel_rfl) c22 c36
theorem c38 : CodeS Tryz.prog (subC [false, false, false, false, false, false, false, false, false, false, false, false, false, false] B42) none S19 .ret S29 := .seqE (x := (subC [false, false, false, false, false, false, false, false, false, false, false, false, false, false, true] B42)) (y := (subC [false, false, false, false, false, false, false, false, false, false, false, false, false, false, false] B42)) (by kernel_rfl) c21 c37
theorem c39 : CodeS Tryz.prog (subC [false, false, false, false, false, false, false, false, false, false, false, false, false] B42) none S18 .ret S29 := .seqE (x := (subC [false, false, false, false, false, false, false, false, false, false, false, false, false, true] B42)) (y := (subC [false, false, false, false, false, false, false, false, false, false, false, false, false, false] B42)) (by kernel_rfl) c20 c38
theorem c40 : CodeS Tryz.prog (subC [false, false, false, false, false, false, false, false, false, false, false, false] B42) none S17 .ret S29 := .seqE (x := (subC [false, false, false, false, false, false, false, false, false, false, false, false, true] B42)) (y := (subC [false, false, false, false, false, false, false, false, false, false, false, false, false] B42)) (by kernel_rfl) c19 c39
theorem c41 : CodeS Tryz.prog (subC [false, false, false, false, false, false, false, false, false, false, false] B42) none S16 .ret S29 := .seqE (x := (subC [false, false, false, false, false, false, false, false, false, false, false, true] B42)) (y := (subC [false, false, false, false, false, false, false, false, false, false, false, false] B42)) (by kernel_rfl) c18 c40
theorem c42 : CodeS Tryz.prog (subC [false, false, false, false, false, false, false, false, false, false] B42) none S15 .ret S29 := .seqE (x := (subC [false, false, false, false, false, false, false, false, false, false, true] B42)) (y := (subC [false, false, false, false, false, false, false, false, false, false, false] B42)) (by kernel_rfl) c17 c41
theorem c43 : CodeS Tryz.prog (subC [false, false, false, false, false, false, false, false, false] B42) none S14 .ret S29 := .seqE (x := (subC [false, false, false, false, false, false, false, false, false, true] B42)) (y := (subC [false, false, false, false, false, false, false, false, false, false] B42)) (by kernel_rfl) c16 c42
theorem c44 : CodeS Tryz.prog (subC [false, false, false, false, false, false, false, false] B42) none S13 .ret S29 := .seqE (x := (subC [false, false, false, false, false, false, false, false, true] B42)) (y := (subC [false, false, false, false, false, false, false, false, false] B42)) (by kernel_rfl) c15 c43
theorem c45 : CodeS Tryz.prog (subC [false, false, false, false, false, false, false] B42) none S12 .ret S29 := .seqE (x := (subC [false, false, false, false, false, false, false, true] B42)) (y := (subC [false, false, false, false, false, false, false, false] B42)) (by kernel_rfl) c14 c44
theorem c46 : CodeS Tryz.prog (subC [false, false, false, false, false, false] B42) none S11 .ret S29 := .seqE (x := (subC [false, false, false, false, false, false, true] B42)) (y := (subC [false, false, false, false, false, false, false] B42)) (by kernel_rfl) c13 c45
theorem c47 : CodeS Tryz.prog (subC [false, false, false, false, false] B42) none S10 .ret S29 := .seqE (x := (subC [false, false, false, false, false, true] B42)) (y := (subC [false, false, false, false, false, false] B42)) (by kernel_rfl) c12 c46
theorem c48 : CodeS Tryz.prog (subC [false, false, false, false] B42) none S9 .ret S29 := .seqE (x := (subC [false, false, false, false, true] B42)) (y := (subC [false, false, false, false, false] B42)) (by kernel_rfl) c11 c47
theorem c49 : CodeS Tryz.prog (subC [false, false, false] B42) none S8 .ret S29 := .seqE (x := (subC [false, false, false, true] B42)) (y := (subC [false, false, false, false] B42)) (by kernel_rfl) c10 c48
theorem c50 : CodeS Tryz.prog (subC [false, false] B42) none S7 .ret S29 := .seqE (x := (subC [false, false, true] B42)) (y := (subC [false, false, false] B42)) (by kernel_rfl) c9 c49
theorem c51 : CodeS Tryz.prog (subC [false] B42) none S6 .ret S29 := .seqE (x := (subC [false, true] B42)) (y := (subC [false, false] B42)) (by kernel_rfl) c8 c50
theorem c52 : CodeS Tryz.prog (subC [] B42) none S5 .ret S29 := .seqE (x := (subC [true] B42)) (y := (subC [false] B42)) (by kernel_rfl) c7 c51
theorem k42 : FactOk Tryz.prog 183 A42 := factA_ok (h := S5.h) (v := .tu [.ag [.sl (some (1228, 0)) 4 none, z 4, z 36], z 0]) (h' := S29.h) (n' := S29.n) (by kernel_rfl) (by kernel_rfl) (callX_ok (fi := fiOf Tryz.f183) (tm := S5.tm) (e := .ret) (s1 := S29) iEn_ok (by kernel_rfl) (by kernel_rfl) c52 (by kernel_rfl)) (by kernel_rfl)
noncomputable def A43 : Fact := ⟨[.ag [.sl (some (0, 0)) 2 (some 2), .sl (some (1, 0)) 2 (some 2), .sl (some (2, 0)) 2 (some 2)], .sl (some (3, 0)) 2 (some 2), z 1, z 0, z 1], [.cells 9 [.s ⟨#[97]⟩, .s ⟨#[98]⟩], O0, O2, O3, .cells 3 [z 0, z 1], .grow 3 1 [z 0, z 4, z 4, z 4, z 4], .cells 3 [z 1, z 0], .cells 3 [z 0], .cells 3 [z 0]], .tu [.ag [.sl (some (9, 0)) 4 none, z 4, z 36], z 0], [.cells 9 [.s ⟨#[97]⟩, .s ⟨#[98]⟩], O0, O2, O3, .cells 3 [z 0, z 1], .grow 3 1 [z 0, z 4, z 4, z 4, z 4], .cells 3 [z 1, z 0], .cells 3 [z 0], .cells 3 [z 0], .grow 3 1 [z 0, z 6, z 16, z 26]]⟩
theorem k43 : FactOk Tryz.prog 114 A43 := factOk_ok (ex_ok iEn_ok mixed (.add k4 (.add k32 (.add k31 (.add k33 (.add k17 (.add k42 .nil)))))) 600) (by kernel_rfl)
noncomputable def A44 : Fact := ⟨[.f 185 [] [.p (some (0, 0))], z 0, z 4, z 36], [.cells 37 [.sl (some (1, 0)) 4 none, z 4, z 36], .grow 3 1 [z 0, z 6, z 16, z 26]], .tu [.ag [.sl (some (2, 0)) 4 none, z 4, z 36], z 0], [.cells 37 [.sl (some (1, 0)) 4 none, z 4, z 36], .grow 3 1 [z 0, z 6, z 16, z 26], .grow 3 1 [z 0, z 6, z 16, z 26]]⟩
theorem k44 : FactOk Tryz.prog 144 A44 := factOk_ok (ex_ok iEn_ok mixed .nil 600) (by kernel_rfl)
noncomputable def A45 : Fact := ⟨[.ag [.sl (some (0, 0)) 4 none, z 4, z 36]], [.grow 3 1 [z 0, z 6, z 16, z 26]], .tu [.ag [.sl (some (1, 0)) 4 none, z 4, z 36], z 0], [.grow 3 1 [z 0, z 6, z 16, z 26], .grow 3 1 [z 0, z 6, z 16, z 26]]⟩
theorem k45 : FactOk Tryz.prog 141 A45 := factOk_ok (ex_ok iEn_ok mixed (.add k44 .nil) 600) (by kernel_rfl)
noncomputable def A46 : Fact := ⟨[.f 142 [] [.p (some (0, 0)), .p (some (1, 0))], z 400, z 4, z 36], [.cells 37 [.sl (some (2, 0)) 4 none, z 4, z 36], .cells 3 [z 4], .grow 3 1 [z 0, z 6, z 16, z 26]], .tu [.ag [.sl (some (3, 0)) 6 none, z 4, z 36], z 0], [.cells 37 [.sl (some (2, 0)) 4 none, z 4, z 36], .cells 3 [z 4], .grow 3 1 [z 0, z 6, z 16, z 26], .grow 3 1 [z 0, z 0, z 3, z 13, z 23, z 33]]⟩
noncomputable def B46 : Code := (fiOf Tryz.f144).body
noncomputable def S30 : St := ⟨(.node (some (.f 142 [] [.p (some (0, 0)), .p (some (1, 0))])) (.node (some (z 400)) (.node (some (z 36)) (.node (some (.tu [])) (.node (some (.tu [])) (.node (some (.tu [])) (.node (some (.tu [])) .nil .nil) .nil) (.node (some (.tu [])) (.node (some (.tu [])) .nil .nil) .nil)) (.node (some (.tu [])) (.node (some (.tu [])) (.node (some (.tu [])) .nil .nil) .nil) (.node (some (.tu [])) (.node (some (.tu [])) .nil .nil) .nil))) (.node (some (.tu [])) (.node (some (.tu [])) (.node (some (.tu [])) (.node (some (.tu [])) .nil .nil) .nil) (.node (some (.tu [])) (.node (some (.tu [])) .nil .nil) .nil)) (.node (some (.tu [])) (.node (some (.tu [])) (.node (some (.tu [])) .nil .nil) .nil) (.node (some (.tu [])) .nil .nil)))) (.node (some (.tu [])) (.node (some (.tu [])) (.node (some (.tu [])) (.node (some (.tu [])) (.node (some (.tu [])) .nil .nil) .nil) (.node (some (.tu [])) (.node (some (.tu [])) .nil .nil) .nil)) (.node (some (.tu [])) (.node (some (.tu [])) (.node (some (.tu [])) .nil .nil) .nil) (.node (some (.tu [])) (.node (some (.tu [])) .nil .nil) .nil))) (.node (some (.tu [])) (.node (some (.tu [])) (.node (some (.tu [])) (.node (some (.tu [])) .nil .nil) .nil) (.node (some (.tu [])) (.node (some (.tu [])) .nil .nil) .nil)) (.node (some (.tu [])) (.node (some (.tu [])) (.node (some (.tu [])) .nil .nil) .nil) (.node (some (.tu [])) .nil .nil))))) (.node (some (z 4)) (.node (some (.tu [])) (.node (some (.tu [])) (.node (some (.tu [])) (.node (some (.tu [])) (.node (some (.tu [])) .nil .nil) .nil) (.node (some (.tu [])) (.node (some (.tu [])) .nil .nil) .nil)) (.node (some (.tu [])) (.node (some (.tu [])) (.node (some (.tu [])) .nil .nil) .nil) (.node (some (.tu [])) (.node (some (.tu [])) .nil .nil) .nil))) (.node (some (.tu [])) (.node (some (.tu [])) (.node (some (.tu [])) (.node (some (.tu [])) .nil .nil) .nil) (.node (some (.tu [])) (.node (some (.tu [])) .nil .nil) .nil)) (.node (some (.tu [])) (.node (some (.tu [])) (.node (some (.tu [])) .nil .nil) .nil) (.node (some (.tu [])) .nil .nil)))) (.node (some (.tu [])) (.node (some (.tu [])) (.node (some (.tu [])) (.node (some (.tu [])) (.node (some (.tu [])) .nil .nil) .nil) (.node (some (.tu [])) (.node (some (.tu [])) .nil .nil) .nil)) (.node (some (.tu [])) (.node (some (.tu [])) (.node (some (.tu [])) .nil .nil) .nil) (.node (some (.tu [])) .nil .nil))) (.node (some (.tu [])) (.node (some (.tu [])) (.node (some (.tu [])) (.node (some (.tu [])) .nil .nil) .nil) (.node (some (.tu [])) (.node (some (.tu [])) .nil .nil) .nil)) (.node (some (.tu [])) (.node (some (.tu [])) (.node (some (.tu [])) .nil .nil) .nil) (.node (some (.tu [])) .nil .nil)))))), [], (.node (some (.cells 37 [.sl (some (2, 0)) 4 none, z 4, z 36])) (.node (some (.cells 3 [z 4])) .nil .nil) (.node (some (.grow 3 1 [z 0, z 6, z 16, z 26])) .nil .nil)), 3⟩
noncomputable def S31 : St := ⟨updT [(8, some (.p (some (3, 0)))), (9, some (z 0))] S30.tm, [], updT [(3, some (.cells 37 [.sl none 0 (some 0), z 0, z 0]))] S30.h, 4⟩
theorem c53 : CodeS Tryz.prog (subC [true] B46) none S30 .nrm S31 := .runB (ex_ok iEn_ok mixed .nil 600) (by kernel_rfl)
noncomputable def S32 : St := ⟨updT [(10, some (.sl (some (4, 0)) 404 (some 404))), (14, some (z 400)), (15, some (z 4)), (16, some (z 404)), (17, some (.sl (some (4, 0)) 404 (some 404)))] S31.tm, [], updT [(4, some (.cells 3 (repX 404 [z 0])))] S31.h, 5⟩
theorem c54 : CodeS Tryz.prog (subC [false, true] B46) none S31 .nrm S32 := .runB (ex_ok iEn_ok mixed .nil 600) (by kernel_rfl)
noncomputable def S33 : St := ⟨updT [(18, some (.sl (some (4, 0)) 404 (some 404))), (19, some (z 404)), (20, some (z 0))] S32.tm, [], S32.h, 5⟩
theorem c55 : CodeS Tryz.prog (subC [false, false, true, true] B46) none S32 .nrm S33 := .runB (ex_ok iEn_ok mixed .nil 600) (by kernel_rfl)
noncomputable def L4 : List V := zs [0, 0, 3, 13, 23, 33, 39, 49, 59, 69, 75, 85, 95, 105, 111, 121, 131, 141, 147, 157, 167, 177, 183, 193, 203, 213, 219, 229, 239, 249, 255, 265, 275, 285, 291, 301, 311, 321, 327, 337, 347, 357, 363, 373, 383, 393, 399, 409, 419, 429, 435, 445, 455, 465, 471, 481, 491, 501, 507, 517, 527, 537, 543, 553, 563, 573, 579, 589, 599, 609, 615, 625, 635, 645, 651, 661, 671, 681, 687, 697, 707, 717, 723, 733, 743, 753, 759, 769, 779, 789, 795, 805, 815, 825, 831, 841, 851, 861, 867, 877, 887, 897, 903, 913, 923, 933, 939, 949, 959, 969, 975, 985, 995, 1005, 1011, 1021, 1031, 1041, 1047, 1057, 1067, 1077, 1083, 1093, 1103, 1113, 1119, 1129, 1139, 1149, 1155, 1165, 1175, 1185, 1191, 1201, 1211, 1221, 1227, 1237, 1247, 1257, 1263, 1273, 1283, 1293, 1299, 1309, 1319, 1329, 1335, 1345, 1355, 1365, 1371, 1381, 1391, 1401, 1407, 1417, 1427, 1437, 1443, 1453, 1463, 1473, 1479, 1489, 1499, 1509, 1515, 1525, 1535, 1545]
noncomputable def S34 : St := ⟨updT [(11, some (z 173)), (20, some (z 174)), (21, some (.b true)), (22, some (z 173)), (23, some (.sl (some (4, 0)) 404 (some 404))), (24, some (z 173)), (25, some (.f 142 [] [.p (some (0, 0)), .p (some (1, 0))])), (26, some (z 173)), (27, some (z 1545)), (28, some (.p (some (4, 173)))), (29, some (.sl (some (4, 0)) 404 (some 404))), (30, some (z 173)), (31, some (.p (some (4, 173)))), (32, some (z 1545)), (33, some (.b false)), (41, some (z 174))] S33.tm, [], updT [(4, some (.cells 3 (appX L4 (repX 230 [z 0]))))] S33.h, 178⟩
noncomputable def L5 : List V := appX L4 (zs [1551, 1561, 1571, 1581, 1587, 1597, 1607, 1617, 1623, 1633, 1643, 1653, 1659, 1669, 1679, 1689, 1695, 1705, 1715, 1725, 1731, 1741, 1751, 1761, 1767, 1777, 1787, 1797, 1803, 1813, 1823, 1833, 1839, 1849, 1859, 1869, 1875, 1885, 1895, 1905, 1911, 1921, 1931, 1941, 1947, 1957, 1967, 1977, 1983, 1993, 2003, 2013, 2019, 2029, 2039, 2049, 2055, 2065, 2075, 2085, 2091, 2101, 2111, 2121, 2127, 2137, 2147, 2157, 2163, 2173, 2183, 2193, 2199, 2209, 2219, 2229, 2235, 2245, 2255, 2265, 2271, 2281, 2291, 2301, 2307, 2317, 2327, 2337, 2343, 2353, 2363, 2373, 2379, 2389, 2399, 2409, 2415, 2425, 2435, 2445, 2451, 2461, 2471, 2481, 2487, 2497, 2507, 2517, 2523, 2533, 2543, 2553, 2559, 2569, 2579, 2589, 2595, 2605, 2615, 2625, 2631, 2641, 2651, 2661, 2667, 2677, 2687, 2697, 2703, 2713, 2723, 2733, 2739, 2749, 2759, 2769, 2775, 2785, 2795, 2805, 2811, 2821, 2831, 2841, 2847, 2857, 2867, 2877, 2883, 2893, 2903, 2913, 2919, 2929, 2939, 2949, 2955, 2965, 2975, 2985, 2991, 3001, 3011, 3021, 3027, 3037, 3047, 3057, 3063, 3073, 3083, 3093])
noncomputable def S35 : St := ⟨updT [(11, some (z 345)), (20, some (z 346)), (22, some (z 345)), (24, some (z 345)), (26, some (z 345)), (27, some (z 3093)), (28, some (.p (some (4, 345)))), (30, some (z 345)), (31, some (.p (some (4, 345)))), (32, some (z 3093)), (41, some (z 346))] S34.tm, [], updT [(4, some (.cells 3 (appX L5 (repX 58 [z 0]))))] S34.h, 350⟩
noncomputable def L6 : List V := appX L5 (zs [3099, 3109, 3119, 3129, 3135, 3145, 3155, 3165, 3171, 3181, 3191, 3201, 3207, 3217, 3227, 3237, 3243, 3253, 3263, 3273, 3279, 3289, 3299, 3309, 3315, 3325, 3335, 3345, 3351, 3361, 3371, 3381, 3387, 3397, 3407, 3417, 3423, 3433, 3443, 3453, 3459, 3469, 3479, 3489, 3495, 3505, 3515, 3525, 3531, 3541, 3551, 3561, 3567, 3577, 3587, 3597, 3603, 3613])
noncomputable def S36 : St := ⟨updT [(11, some (z 403)), (20, some (z 404)), (21, some (.b false)), (22, some (z 403)), (24, some (z 403)), (26, some (z 403)), (27, some (z 3613)), (28, some (.p (some (4, 403)))), (30, some (z 403)), (31, some (.p (some (4, 403)))), (32, some (z 3613)), (41, some (z 404))] S35.tm, [], updT [(4, some (.cells 3 L6))] S35.h, 408⟩
theorem c56 : ∃ k, Rds Tryz.prog (subC [false, false, true, false, true, true] B46) none k S35 (.exit 0) S36 := CodeS.lastB (j := 60) (ex_ok iEn_ok mixed .nil 600) (by kernel_rfl)
theorem c57 : ∃ k, Rds Tryz.prog (subC [false, false, true, false, true, true] B46) none k S34 (.exit 0) S36 := CodeS.roundsB (j := 171) (s1 := S35) (ex_ok iEn_ok mixed .nil 600) (by kernel_rfl) c56
theorem c58 : ∃ k, Rds Tryz.prog (subC [false, false, true, false, true, true] B46) none k S33 (.exit 0) S36 := CodeS.roundsB (j := 173) (s1 := S34) (ex_ok iEn_ok mixed .nil 600) (by kernel_rfl) c57
end Go.Proofs.YtehaepbflkncdaaGreat.I
namespace Go.Proofs.YtehaepbflkncdaaGreat.I
open Go Go.RowKit Go.Proofs.YtehaepbflkncdaaGreat.K
set_option maxRecDepth 1000000
theorem c59 : CodeS Tryz.prog (subC [false, false, true, false, true] B46) none S33 (.exit 0) S36 := .loopE (x := (subC [false, false, true, false, true, true] B46)) (by kernel_rfl) c58
theorem c60 : CodeS Tryz.prog (subC [false, false, true, false] B46) none S33 .nrm S36 := .blockE (x := (subC [false, false, true, false, true] B46)) (id := 0) (e1 := (.exit 0)) (s1 := S36) iEn_ok mixed (by kernel_rfl) c59 (by kernel_rfl)
theorem c61 : CodeS Tryz.prog (subC [false, false, true] B46) none S32 .nrm S36 := .seqE (x := (subC [false, false, true, true] B46)) (y := (subC [false, false, true, false] B46)) (by kernel_rfl) c55 c60
noncomputable def S37 : St := ⟨updT [(1, some (z 2)), (12, some (z 4)), (13, some (z 36)), (42, some (.sl (some (4, 0)) 404 (some 404))), (43, some (z 400)), (44, some (.sl (some (4, 400)) 4 (some 4))), (45, some (z 36)), (46, some (z 4)), (47, some (z 36)), (48, some (z 4)), (49, some (z 144)), (50, some (z 4)), (51, some (z 36)), (52, some (z 2)), (53, some (.b true)), (54, some (.b true)), (55, some (.sl (some (4, 0)) 404 (some 404))), (56, some (z 2)), (57, some (z 1)), (58, some (.p (some (4, 1)))), (59, some (z 0)), (60, some (z 36)), (61, some (z 36)), (62, some (.sl (some (4, 0)) 404 (some 404))), (63, some (z 2)), (64, some (z 1)), (65, some (z 4)), (66, some (z 5)), (67, some (.p (some (4, 5)))), (68, some (z 33)), (69, some (.b false)), (70, some (.b false)), (71, some (z 3)), (72, some (z 2)), (73, some (z 4)), (74, some (.b false)), (75, some (.b false)), (76, some (z 36)), (77, some (.b false)), (78, some (.b false)), (80, some (.sl (some (4, 0)) 404 (some 404))), (81, some (z 2)), (82, some (z 4)), (83, some (z 6)), (84, some (.sl (some (4, 0)) 6 (some 404))), (85, some (z 4)), (86, some (z 36)), (87, some (.tu [.ag [.sl (some (409, 0)) 6 none, z 4, z 36], z 0])), (88, some (.ag [.sl (some (409, 0)) 6 none, z 4, z 36])), (89, some (z 0))] S36.tm, [], updT [(3, some (.cells 37 [.sl (some (409, 0)) 6 none, z 4, z 36])), (409, some (.grow 3 1 [z 0, z 0, z 3, z 13, z 23, z 33]))] S36.h, 410⟩
theorem c62 : CodeS Tryz.prog (subC [false, false, false] B46) none S36 .ret S37 := .runB (ex_ok iEn_ok mixed .nil 600) (by kernel_rfl)
theorem c63 : CodeS Tryz.prog (subC [false, false] B46) none S32 .ret S37 := .seqE (x := (subC [false, false, true] B46)) (y := (subC [false, false, false] B46)) (by kernel_rfl) c61 c62
theorem c64 : CodeS Tryz.prog (subC [false] B46) none S31 .ret S37 := .seqE (x := (subC [false, true] B46)) (y := (subC [false, false] B46)) (by kernel_rfl) c54 c63
theorem c65 : CodeS Tryz.prog (subC [] B46) none S30 .ret S37 := .seqE (x := (subC [true] B46)) (y := (subC [false] B46)) (by kernel_rfl) c53 c64
theorem k46 : FactOk Tryz.prog 144 A46 := factA_ok (h := S30.h) (v := .tu [.ag [.sl (some (409, 0)) 6 none, z 4, z 36], z 0]) (h' := S37.h) (n' := S37.n) (by kernel_rfl) (by kernel_rfl) (callX_ok (fi := fiOf Tryz.f144) (tm := S30.tm) (e := .ret) (s1 := S37) iEn_ok (by kernel_rfl) (by kernel_rfl) c65 (by kernel_rfl)) (by kernel_rfl)
noncomputable def A47 : Fact := ⟨[.ag [.sl (some (0, 0)) 4 none, z 4, z 36], z 4], [.grow 3 1 [z 0, z 6, z 16, z 26]], .tu [.ag [.sl (some (1, 0)) 6 none, z 4, z 36], z 0], [.grow 3 1 [z 0, z 6, z 16, z 26], .grow 3 1 [z 0, z 0, z 3, z 13, z 23, z 33]]⟩
theorem k47 : FactOk Tryz.prog 115 A47 := factOk_ok (ex_ok iEn_ok mixed (.add k45 (.add k46 .nil)) 600) (by kernel_rfl)
noncomputable def A48 : Fact := ⟨[.f 185 [] [.p (some (0, 0))], z 2, z 4, z 36], [.cells 37 [.sl (some (1, 0)) 6 none, z 4, z 36], .grow 3 1 [z 0, z 0, z 3, z 13, z 23, z 33]], .tu [.ag [.sl (some (2, 0)) 6 none, z 4, z 36], z 0], [.cells 37 [.sl (some (1, 0)) 6 none, z 4, z 36], .grow 3 1 [z 0, z 0, z 3, z 13, z 23, z 33], .grow 3 1 [z 0, z 0, z 3, z 13, z 23, z 33]]⟩
theorem k48 : FactOk Tryz.prog 144 A48 := factOk_ok (ex_ok iEn_ok mixed .nil 600) (by kernel_rfl)
noncomputable def A49 : Fact := ⟨[.ag [.sl (some (0, 0)) 6 none, z 4, z 36]], [.grow 3 1 [z 0, z 0, z 3, z 13, z 23, z 33]], .tu [.ag [.sl (some (1, 0)) 6 none, z 4, z 36], z 0], [.grow 3 1 [z 0, z 0, z 3, z 13, z 23, z 33], .grow 3 1 [z 0, z 0, z 3, z 13, z 23, z 33]]⟩
theorem k49 : FactOk Tryz.prog 141 A49 := factOk_ok (ex_ok iEn_ok mixed (.add k48 .nil) 600) (by kernel_rfl)
noncomputable def A50 : Fact := ⟨[.ag [.sl (some (0, 0)) 4 none, z 4, z 4], .ag [.sl (some (1, 0)) 6 none, z 4, z 36]], [.grow 3 1 [z 0, z 4, z 4, z 4], .grow 3 1 [z 0, z 0, z 3, z 13, z 23, z 33]], .tu [.ag [.sl (some (2, 0)) 4 none, z 4, z 4, .sl (some (3, 0)) 6 none, z 4, z 36, z 6, .b false], z 0], [.grow 3 1 [z 0, z 4, z 4, z 4], .grow 3 1 [z 0, z 0, z 3, z 13, z 23, z 33], .grow 3 1 [z 0, z 4, z 4, z 4], .grow 3 1 [z 0, z 0, z 3, z 13, z 23, z 33]]⟩
theorem k50 : FactOk Tryz.prog 215 A50 := factOk_ok (ex_ok iEn_ok mixed (.add k15 (.add k49 .nil)) 600) (by kernel_rfl)
noncomputable def O6 : HO := .cells 3 [z 0, z 4, z 4, z 4, z 4, z 8, z 8, z 8, z 8, z 12]
noncomputable def A51 : Fact := ⟨[.ag [.sl (some (0, 0)) 4 none, z 4, z 4], z 10], [.grow 3 1 [z 0, z 4, z 4, z 4]], .sl (some (1, 0)) 10 (some 10), [.grow 3 1 [z 0, z 4, z 4, z 4], O6]⟩
theorem k51 : FactOk Tryz.prog 82 A51 := factOk_ok (ex_ok iEn_ok mixed .nil 600) (by kernel_rfl)
noncomputable def A52 : Fact := ⟨[.ag [.sl (some (0, 0)) 6 none, z 4, z 36], z 6], [.grow 3 1 [z 0, z 0, z 3, z 13, z 23, z 33]], .sl (some (1, 0)) 6 (some 6), [.grow 3 1 [z 0, z 0, z 3, z 13, z 23, z 33], .cells 3 [z 0, z 0, z 3, z 13, z 23, z 33]]⟩
theorem k52 : FactOk Tryz.prog 82 A52 := factOk_ok (ex_ok iEn_ok mixed .nil 600) (by kernel_rfl)
noncomputable def A53 : Fact := ⟨[.f 221 [] [.p (some (0, 0))], z 0, z 4, z 4], [.cells 22 [.sl (some (1, 0)) 4 (some 4)], .cells 3 [z 4, z 4, z 4, z 5]], .tu [.ag [.sl (some (2, 0)) 4 none, z 4, z 4], z 0], [.cells 22 [.sl (some (1, 0)) 4 (some 4)], .cells 3 [z 4, z 4, z 4, z 5], .grow 3 1 [z 4, z 4, z 4, z 5]]⟩
theorem k53 : FactOk Tryz.prog 144 A53 := factOk_ok (ex_ok iEn_ok mixed .nil 600) (by kernel_rfl)
noncomputable def A54 : Fact := ⟨[.ag [.sl (some (0, 0)) 4 none, z 4, z 4, .sl (some (1, 0)) 6 none, z 4, z 36, z 6, .b false]], [.grow 3 1 [z 0, z 4, z 4, z 4], .grow 3 1 [z 0, z 0, z 3, z 13, z 23, z 33]], .tu [.ag [.sl (some (2, 0)) 4 none, z 4, z 4], z 0], [.grow 3 1 [z 0, z 4, z 4, z 4], .grow 3 1 [z 0, z 0, z 3, z 13, z 23, z 33], .grow 3 1 [z 4, z 4, z 4, z 5]]⟩
theorem k54 : FactOk Tryz.prog 216 A54 := factOk_ok (ex_ok iEn_ok mixed (.add k51 (.add k52 (.add k53 .nil))) 600) (by kernel_rfl)
noncomputable def A55 : Fact := ⟨[.f 185 [] [.p (some (0, 0))], z 0, z 4, z 4], [.cells 37 [.sl (some (1, 0)) 4 none, z 4, z 4], .grow 3 1 [z 4, z 4, z 4, z 5]], .tu [.ag [.sl (some (2, 0)) 4 none, z 4, z 4], z 0], [.cells 37 [.sl (some (1, 0)) 4 none, z 4, z 4], .grow 3 1 [z 4, z 4, z 4, z 5], .grow 3 1 [z 4, z 4, z 4, z 5]]⟩
theorem k55 : FactOk Tryz.prog 144 A55 := factOk_ok (ex_ok iEn_ok mixed .nil 600) (by kernel_rfl)
noncomputable def A56 : Fact := ⟨[.ag [.sl (some (0, 0)) 4 none, z 4, z 4]], [.grow 3 1 [z 4, z 4, z 4, z 5]], .tu [.ag [.sl (some (1, 0)) 4 none, z 4, z 4], z 0], [.grow 3 1 [z 4, z 4, z 4, z 5], .grow 3 1 [z 4, z 4, z 4, z 5]]⟩
theorem k56 : FactOk Tryz.prog 141 A56 := factOk_ok (ex_ok iEn_ok mixed (.add k55 .nil) 600) (by kernel_rfl)
noncomputable def A57 : Fact := ⟨[.f 214 [] [.p (some (0, 0)), .p (some (1, 0))], z 1, z 4, z 4], [.cells 37 [.sl (some (2, 0)) 4 none, z 4, z 4], .cells 3 [z 0], .grow 3 1 [z 4, z 4, z 4, z 5]], .tu [.ag [.sl (some (3, 0)) 5 none, z 4, z 4], z 0], [.cells 37 [.sl (some (2, 0)) 4 none, z 4, z 4], .cells 3 [z 0], .grow 3 1 [z 4, z 4, z 4, z 5], .grow 3 1 [z 0, z 4, z 4, z 5, z 8]]⟩
theorem k57 : FactOk Tryz.prog 144 A57 := factOk_ok (ex_ok iEn_ok mixed .nil 600) (by kernel_rfl)
noncomputable def A58 : Fact := ⟨[.ag [.sl (some (0, 0)) 4 none, z 4, z 4], z 0], [.grow 3 1 [z 4, z 4, z 4, z 5]], .tu [.ag [.sl (some (1, 0)) 5 none, z 4, z 4], z 0], [.grow 3 1 [z 4, z 4, z 4, z 5], .grow 3 1 [z 0, z 4, z 4, z 5, z 8]]⟩
theorem k58 : FactOk Tryz.prog 193 A58 := factOk_ok (ex_ok iEn_ok mixed (.add k56 (.add k57 .nil)) 600) (by kernel_rfl)
noncomputable def A59 : Fact := ⟨[.ag [.sl (some (0, 0)) 2 (some 2), .sl (some (1, 0)) 2 (some 2), .sl (some (2, 0)) 2 (some 2)], .sl (some (3, 0)) 2 (some 2), z 1, z 0], [.cells 9 [.s ⟨#[97]⟩, .s ⟨#[98]⟩], O0, O2, O3, .cells 3 [z 0, z 1], .grow 3 1 [z 0, z 4, z 4, z 4, z 4], .cells 3 [z 1, z 0], .cells 3 [z 0], .cells 3 [z 0]], .tu [.ag [.sl (some (9, 0)) 5 none, z 4, z 4], z 0], [.cells 9 [.s ⟨#[97]⟩, .s ⟨#[98]⟩], O0, O2, O3, .cells 3 [z 0, z 1], .grow 3 1 [z 0, z 4, z 4, z 4, z 4], .cells 3 [z 1, z 0], .cells 3 [z 0], .cells 3 [z 0], .grow 3 1 [z 0, z 4, z 4, z 5, z 8]]⟩
theorem k59 : FactOk Tryz.prog 151 A59 := factOk_ok (ex_ok iEn_ok mixed (.add k34 (.add k43 (.add k47 (.add k50 (.add k54 (.add k58 .nil)))))) 600) (by kernel_rfl)
noncomputable def A60 : Fact := ⟨[.f 185 [] [.p (some (0, 0))], z 1, z 4, z 4], [.cells 37 [.sl (some (1, 0)) 5 none, z 4, z 4], .grow 3 1 [z 0, z 4, z 4, z 5, z 8]], .tu [.ag [.sl (some (2, 0)) 5 none, z 4, z 4], z 0], [.cells 37 [.sl (some (1, 0)) 5 none, z 4, z 4], .grow 3 1 [z 0, z 4, z 4, z 5, z 8], .grow 3 1 [z 0, z 4, z 4, z 5, z 8]]⟩
theorem k60 : FactOk Tryz.prog 144 A60 := factOk_ok (ex_ok iEn_ok mixed .nil 600) (by kernel_rfl)
noncomputable def A61 : Fact := ⟨[.ag [.sl (some (0, 0)) 5 none, z 4, z 4]], [.grow 3 1 [z 0, z 4, z 4, z 5, z 8]], .tu [.ag [.sl (some (1, 0)) 5 none, z 4, z 4], z 0], [.grow 3 1 [z 0, z 4, z 4, z 5, z 8], .grow 3 1 [z 0, z 4, z 4, z 5, z 8]]⟩
theorem k61 : FactOk Tryz.prog 141 A61 := factOk_ok (ex_ok iEn_ok mixed (.add k60 .nil) 600) (by kernel_rfl)
noncomputable def A62 : Fact := ⟨[.f 217 [] [.p (some (0, 0)), .p (some (1, 0)), .p (some (2, 0))], z 1, z 4, z 4], [.cells 70 [.f 196 [] []], .cells 37 [.sl (some (3, 0)) 4 none, z 4, z 4], .cells 37 [.sl (some (4, 0)) 5 none, z 4, z 4], .grow 3 1 [z 0, z 4, z 4, z 4], .grow 3 1 [z 0, z 4, z 4, z 5, z 8]], .tu [.ag [.sl (some (5, 0)) 4 none, z 4, z 4], z 0], [.cells 70 [.f 196 [] []], .cells 37 [.sl (some (3, 0)) 4 none, z 4, z 4], .cells 37 [.sl (some (4, 0)) 5 none, z 4, z 4], .grow 3 1 [z 0, z 4, z 4, z 4], .grow 3 1 [z 0, z 4, z 4, z 5, z 8], .grow 3 1 [z 0, z 4, z 4, z 4]]⟩
theorem k62 : FactOk Tryz.prog 144 A62 := factOk_ok (ex_ok iEn_ok mixed .nil 600) (by kernel_rfl)
noncomputable def A63 : Fact := ⟨[.ag [.sl (some (0, 0)) 4 none, z 4, z 4], .ag [.sl (some (1, 0)) 5 none, z 4, z 4], .f 196 [] [], .f 197 [] []], [.grow 3 1 [z 0, z 4, z 4, z 4], .grow 3 1 [z 0, z 4, z 4, z 5, z 8]], .tu [.ag [.sl (some (2, 0)) 4 none, z 4, z 4], z 0], [.grow 3 1 [z 0, z 4, z 4, z 4], .grow 3 1 [z 0, z 4, z 4, z 5, z 8], .grow 3 1 [z 0, z 4, z 4, z 4]]⟩
theorem k63 : FactOk Tryz.prog 195 A63 := factOk_ok (ex_ok iEn_ok mixed (.add k15 (.add k61 (.add k62 .nil))) 600) (by kernel_rfl)
noncomputable def A64 : Fact := ⟨[.ag [z 1, z 10, z 1, .sl none 0 (some 0), .sl none 0 (some 0)], z 0, .sl (some (0, 0)) 1 none, .sl (some (1, 0)) 1 (some 1)], [.grow 37 3 [.sl (some (2, 0)) 4 none, z 4, z 8], .cells 35 [z 1, z 4], .grow 3 1 [z 0, z 8, z 8, z 8]], .tu [.ag [.b false, z 0, z 0], z 0], [.grow 37 3 [.sl (some (2, 0)) 4 none, z 4, z 8], .cells 35 [z 1, z 4], .grow 3 1 [z 0, z 8, z 8, z 8]]⟩
theorem k64 : FactOk Tryz.prog 88 A64 := factOk_ok (ex_ok iEn_ok mixed (.add k1 (.add k21 (.add k26 (.add k29 .nil)))) 600) (by kernel_rfl)
noncomputable def A65 : Fact := ⟨[.ag [.sl (some (0, 0)) 2 (some 2), .sl (some (1, 0)) 2 (some 2), .sl (some (2, 0)) 2 (some 2)], .sl (some (3, 0)) 2 (some 2), z 0, z 0, z 1], [.cells 9 [.s ⟨#[97]⟩, .s ⟨#[98]⟩], O0, O2, O3, .cells 3 [z 0, z 1], .grow 3 1 [z 0, z 4, z 4, z 4, z 4], .cells 3 [z 1, z 0], .cells 3 [z 0], .cells 3 [z 0]], .tu [.ag [.sl (some (9, 0)) 4 none, z 4, z 36], z 0], [.cells 9 [.s ⟨#[97]⟩, .s ⟨#[98]⟩], O0, O2, O3, .cells 3 [z 0, z 1], .grow 3 1 [z 0, z 4, z 4, z 4, z 4], .cells 3 [z 1, z 0], .cells 3 [z 0], .cells 3 [z 0], .grow 3 1 [z 0, z 6, z 16, z 26]]⟩
theorem k65 : FactOk Tryz.prog 114 A65 := factOk_ok (ex_ok iEn_ok mixed (.add k4 (.add k6 (.add k5 (.add k18 (.add k17 (.add k42 .nil)))))) 600) (by kernel_rfl)
noncomputable def A66 : Fact := ⟨[.ag [.sl (some (0, 0)) 2 (some 2), .sl (some (1, 0)) 2 (some 2), .sl (some (2, 0)) 2 (some 2)], .sl (some (3, 0)) 2 (some 2), z 0, z 0], [.cells 9 [.s ⟨#[97]⟩, .s ⟨#[98]⟩], O0, O2, O3, .cells 3 [z 0, z 1], .grow 3 1 [z 0, z 4, z 4, z 4, z 4], .cells 3 [z 1, z 0], .cells 3 [z 0], .cells 3 [z 0]], .tu [.ag [.sl (some (9, 0)) 5 none, z 4, z 4], z 0], [.cells 9 [.s ⟨#[97]⟩, .s ⟨#[98]⟩], O0, O2, O3, .cells 3 [z 0, z 1], .grow 3 1 [z 0, z 4, z 4, z 4, z 4], .cells 3 [z 1, z 0], .cells 3 [z 0], .cells 3 [z 0], .grow 3 1 [z 0, z 4, z 4, z 5, z 8]]⟩
theorem k66 : FactOk Tryz.prog 151 A66 := factOk_ok (ex_ok iEn_ok mixed (.add k11 (.add k65 (.add k47 (.add k50 (.add k54 (.add k58 .nil)))))) 600) (by kernel_rfl)
noncomputable def O7 : HO := .cells 22 [.sl (some (10, 0)) 1 none, .sl (some (11, 0)) 1 none]
noncomputable def A67 : Fact := ⟨[.ag [.sl (some (0, 0)) 2 (some 2), .sl (some (1, 0)) 2 (some 2), .sl (some (2, 0)) 2 (some 2)], .sl (some (3, 0)) 2 (some 2)], [.cells 9 [.s ⟨#[97]⟩, .s ⟨#[98]⟩], O0, O2, O3, .cells 3 [z 0, z 1], .grow 3 1 [z 0, z 4, z 4, z 4, z 4], .cells 3 [z 1, z 0], .cells 3 [z 0], .cells 3 [z 0]], .sl (some (9, 0)) 2 (some 2), [.cells 9 [.s ⟨#[97]⟩, .s ⟨#[98]⟩], O0, O2, O3, .cells 3 [z 0, z 1], .grow 3 1 [z 0, z 4, z 4, z 4, z 4], .cells 3 [z 1, z 0], .cells 3 [z 0], .cells 3 [z 0], O7, .grow 3 1 [z 0], .grow 3 1 [z 0]]⟩
theorem k67 : FactOk Tryz.prog 59 A67 := factOk_ok (ex_ok iEn_ok mixed (.add k6 (.add k11 (.add k17 (.add k18 (.add k59 (.add k63 (.add k20 (.add k3 (.add k64 (.add k32 (.add k33 (.add k66 (.add k34 .nil))))))))))))) 600) (by kernel_rfl)
noncomputable def A68 : Fact := ⟨[.ag [.sl (some (0, 0)) 2 (some 2), .sl (some (1, 0)) 2 (some 2), .sl (some (2, 0)) 2 (some 2)], .sl (some (3, 0)) 2 (some 2), z 0], [.cells 9 [.s ⟨#[97]⟩, .s ⟨#[98]⟩], O0, O2, O3, .cells 3 [z 0, z 1], .grow 3 1 [z 0, z 4, z 4, z 4, z 4], .cells 3 [z 1, z 0], .cells 3 [z 0], .cells 3 [z 0]], .tu [z 1, .b true], [.cells 9 [.s ⟨#[97]⟩, .s ⟨#[98]⟩], O0, O2, O3, .cells 3 [z 0, z 1], .grow 3 1 [z 0, z 4, z 4, z 4, z 4], .cells 3 [z 1, z 0], .cells 3 [z 0], .cells 3 [z 0]]⟩
theorem k68 : FactOk Tryz.prog 83 A68 := factOk_ok (ex_ok iEn_ok mixed (.add k4 .nil) 600) (by kernel_rfl)
noncomputable def A69 : Fact := ⟨[.sl (some (0, 0)) 3 (some 3)], [.cells 3 [z 0, z 1, z 1]], .sl (some (0, 0)) 2 (some 3), [.cells 3 [z 0, z 1, z 0]]⟩
theorem k69 : FactOk Tryz.prog 138 A69 := factOk_ok (ex_ok iEn_ok mixed .nil 600) (by kernel_rfl)
noncomputable def A70 : Fact := ⟨[.ag [.sl (some (0, 0)) 2 (some 2), .sl (some (1, 0)) 2 (some 2), .sl (some (2, 0)) 2 (some 2)], .sl (some (3, 0)) 2 (some 2), z 0, z 0], [.cells 9 [.s ⟨#[97]⟩, .s ⟨#[98]⟩], O0, O2, O3, .cells 3 [z 0, z 1], .grow 3 1 [z 0, z 4, z 4, z 4, z 4], .cells 3 [z 1, z 0], .cells 3 [z 0], .cells 3 [z 0]], .tu [.sl (some (9, 0)) 2 (some 3), z 0], [.cells 9 [.s ⟨#[97]⟩, .s ⟨#[98]⟩], O0, O2, O3, .cells 3 [z 0, z 1], .grow 3 1 [z 0, z 4, z 4, z 4, z 4], .cells 3 [z 1, z 0], .cells 3 [z 0], .cells 3 [z 0], .cells 3 [z 0, z 1, z 0]]⟩
theorem k70 : FactOk Tryz.prog 113 A70 := factOk_ok (ex_ok iEn_ok mixed (.add k4 (.add k69 .nil)) 600) (by kernel_rfl)
noncomputable def A71 : Fact := ⟨[.ag [.sl (some (0, 0)) 2 (some 2), .sl (some (1, 0)) 2 (some 2), .sl (some (2, 0)) 2 (some 2)], .sl (some (3, 0)) 2 (some 2), z 0, z 0, z 0], [.cells 9 [.s ⟨#[97]⟩, .s ⟨#[98]⟩], O0, O2, O3, .cells 3 [z 0, z 1], .grow 3 1 [z 0, z 4, z 4, z 4, z 4], .cells 3 [z 1, z 0], .cells 3 [z 0], .cells 3 [z 0]], .tu [.ag [.sl (some (9, 0)) 2 (some 2), z 1, z 0], z 0], [.cells 9 [.s ⟨#[97]⟩, .s ⟨#[98]⟩], O0, O2, O3, .cells 3 [z 0, z 1], .grow 3 1 [z 0, z 4, z 4, z 4, z 4], .cells 3 [z 1, z 0], .cells 3 [z 0], .cells 3 [z 0], .cells 3 [z 0, z 4611686018427387904]]⟩
theorem k71 : FactOk Tryz.prog 114 A71 := factOk_ok (ex_ok iEn_ok mixed (.add k4 .nil) 600) (by kernel_rfl)
noncomputable def A72 : Fact := ⟨[.f 185 [] [.p (some (0, 0))], z 1, z 1, z 0], [.cells 37 [.sl (some (1, 0)) 2 none, z 1, z 0], .grow 3 1 [z 0, z 4611686018427387904]], .tu [.ag [.sl (some (2, 0)) 2 none, z 1, z 0], z 0], [.cells 37 [.sl (some (1, 0)) 2 none, z 1, z 0], .grow 3 1 [z 0, z 4611686018427387904], .grow 3 1 [z 0, z 4611686018427387904]]⟩
theorem k72 : FactOk Tryz.prog 144 A72 := factOk_ok (ex_ok iEn_ok mixed .nil 600) (by kernel_rfl)
noncomputable def A73 : Fact := ⟨[.ag [.sl (some (0, 0)) 2 (some 2), z 1, z 0]], [.cells 3 [z 0, z 4611686018427387904]], .tu [.ag [.sl (some (1, 0)) 2 none, z 1, z 0], z 0], [.cells 3 [z 0, z 4611686018427387904], .grow 3 1 [z 0, z 4611686018427387904]]⟩
theorem k73 : FactOk Tryz.prog 141 A73 := factOk_ok (ex_ok iEn_ok mixed (.add k72 .nil) 600) (by kernel_rfl)
noncomputable def A74 : Fact := ⟨[.f 142 [] [.p (some (0, 0)), .p (some (1, 0))], z 2, z 1, z 0], [.cells 37 [.sl (some (2, 0)) 2 none, z 1, z 0], .cells 3 [z 4], .grow 3 1 [z 0, z 4611686018427387904]], .tu [.ag [.sl (some (3, 0)) 3 none, z 1, z 0], z 0], [.cells 37 [.sl (some (2, 0)) 2 none, z 1, z 0], .cells 3 [z 4], .grow 3 1 [z 0, z 4611686018427387904], .grow 3 1 [z 0, z 0, z 4611686018427387904]]⟩
theorem k74 : FactOk Tryz.prog 144 A74 := factOk_ok (ex_ok iEn_ok mixed .nil 600) (by kernel_rfl)
noncomputable def A75 : Fact := ⟨[.ag [.sl (some (0, 0)) 2 (some 2), z 1, z 0], z 4], [.cells 3 [z 0, z 4611686018427387904]], .tu [.ag [.sl (some (1, 0)) 3 none, z 1, z 0], z 0], [.cells 3 [z 0, z 4611686018427387904], .grow 3 1 [z 0, z 0, z 4611686018427387904]]⟩
theorem k75 : FactOk Tryz.prog 115 A75 := factOk_ok (ex_ok iEn_ok mixed (.add k73 (.add k74 .nil)) 600) (by kernel_rfl)
noncomputable def A76 : Fact := ⟨[.ag [.sl (some (0, 0)) 2 (some 2), .sl (some (1, 0)) 2 (some 2), .sl (some (2, 0)) 2 (some 2)], .sl (some (3, 0)) 2 (some 2), z 0, z 1], [.cells 9 [.s ⟨#[97]⟩, .s ⟨#[98]⟩], O0, O2, O3, .cells 3 [z 0, z 1], .grow 3 1 [z 0, z 4, z 4, z 4, z 4], .cells 3 [z 1, z 0], .cells 3 [z 0], .cells 3 [z 0]], .tu [.sl (some (9, 0)) 2 (some 3), z 0], [.cells 9 [.s ⟨#[97]⟩, .s ⟨#[98]⟩], O0, O2, O3, .cells 3 [z 0, z 1], .grow 3 1 [z 0, z 4, z 4, z 4, z 4], .cells 3 [z 1, z 0], .cells 3 [z 0], .cells 3 [z 0], .cells 3 [z 0, z 1, z 0]]⟩
theorem k76 : FactOk Tryz.prog 113 A76 := factOk_ok (ex_ok iEn_ok mixed (.add k4 (.add k69 .nil)) 600) (by kernel_rfl)
noncomputable def A77 : Fact := ⟨[.ag [.sl (some (0, 0)) 2 (some 2), .sl (some (1, 0)) 2 (some 2), .sl (some (2, 0)) 2 (some 2)], .sl (some (3, 0)) 2 (some 2), z 0, z 1, z 0], [.cells 9 [.s ⟨#[97]⟩, .s ⟨#[98]⟩], O0, O2, O3, .cells 3 [z 0, z 1], .grow 3 1 [z 0, z 4, z 4, z 4, z 4], .cells 3 [z 1, z 0], .cells 3 [z 0], .cells 3 [z 0]], .tu [.ag [.sl (some (9, 0)) 2 (some 2), z 1, z 0], z 0], [.cells 9 [.s ⟨#[97]⟩, .s ⟨#[98]⟩], O0, O2, O3, .cells 3 [z 0, z 1], .grow 3 1 [z 0, z 4, z 4, z 4, z 4], .cells 3 [z 1, z 0], .cells 3 [z 0], .cells 3 [z 0], .cells 3 [z 0, z 4611686018427387904]]⟩
theorem k77 : FactOk Tryz.prog 114 A77 := factOk_ok (ex_ok iEn_ok mixed (.add k4 .nil) 600) (by kernel_rfl)
noncomputable def A78 : Fact := ⟨[.f 185 [] [.p (some (0, 0))], z 2, z 1, z 0], [.cells 37 [.sl (some (1, 0)) 3 none, z 1, z 0], .grow 3 1 [z 0, z 0, z 4611686018427387904]], .tu [.ag [.sl (some (2, 0)) 3 none, z 1, z 0], z 0], [.cells 37 [.sl (some (1, 0)) 3 none, z 1, z 0], .grow 3 1 [z 0, z 0, z 4611686018427387904], .grow 3 1 [z 0, z 0, z 4611686018427387904]]⟩
theorem k78 : FactOk Tryz.prog 144 A78 := factOk_ok (ex_ok iEn_ok mixed .nil 600) (by kernel_rfl)
noncomputable def A79 : Fact := ⟨[.ag [.sl (some (0, 0)) 3 none, z 1, z 0]], [.grow 3 1 [z 0, z 0, z 4611686018427387904]], .tu [.ag [.sl (some (1, 0)) 3 none, z 1, z 0], z 0], [.grow 3 1 [z 0, z 0, z 4611686018427387904], .grow 3 1 [z 0, z 0, z 4611686018427387904]]⟩
theorem k79 : FactOk Tryz.prog 141 A79 := factOk_ok (ex_ok iEn_ok mixed (.add k78 .nil) 600) (by kernel_rfl)
noncomputable def A80 : Fact := ⟨[.ag [.sl (some (0, 0)) 3 none, z 1, z 0], .ag [.sl (some (1, 0)) 2 (some 2), z 1, z 0]], [.grow 3 1 [z 0, z 0, z 4611686018427387904], .cells 3 [z 0, z 4611686018427387904]], .tu [.ag [.sl (some (2, 0)) 3 none, z 1, z 0, .sl (some (3, 0)) 2 none, z 1, z 0, z 1], z 0], [.grow 3 1 [z 0, z 0, z 4611686018427387904], .cells 3 [z 0, z 4611686018427387904], .grow 3 1 [z 0, z 0, z 4611686018427387904], .grow 3 1 [z 0, z 4611686018427387904]]⟩
theorem k80 : FactOk Tryz.prog 145 A80 := factOk_ok (ex_ok iEn_ok mixed (.add k79 (.add k73 .nil)) 600) (by kernel_rfl)
noncomputable def O8 : HO := .cells 3 [z 0, z 4611686018427387904, z 4611686018427387904, z 4611686018427387904, z 4611686018427387904]
noncomputable def A81 : Fact := ⟨[.ag [.sl (some (0, 0)) 2 none, z 1, z 0], z 5], [.grow 3 1 [z 0, z 4611686018427387904]], .sl (some (1, 0)) 5 (some 5), [.grow 3 1 [z 0, z 4611686018427387904], O8]⟩
theorem k81 : FactOk Tryz.prog 82 A81 := factOk_ok (ex_ok iEn_ok mixed .nil 600) (by kernel_rfl)
noncomputable def O9 : HO := .cells 3 [z 0, z 0, z 4611686018427387904, z 4611686018427387904, z 4611686018427387904]
noncomputable def A82 : Fact := ⟨[.ag [.sl (some (0, 0)) 3 none, z 1, z 0], z 5], [.grow 3 1 [z 0, z 0, z 4611686018427387904]], .sl (some (1, 0)) 5 (some 5), [.grow 3 1 [z 0, z 0, z 4611686018427387904], O9]⟩
theorem k82 : FactOk Tryz.prog 82 A82 := factOk_ok (ex_ok iEn_ok mixed .nil 600) (by kernel_rfl)
noncomputable def A83 : Fact := ⟨[.f 190 [] [.p (some (0, 0))], z 4, z 1, z 0], [.cells 22 [.sl (some (1, 0)) 5 (some 5)], O9], .tu [.ag [.sl (some (2, 0)) 3 none, z 1, z 0], z 0], [.cells 22 [.sl (some (1, 0)) 5 (some 5)], O9, .grow 3 1 [z 0, z 0, z 4611686018427387904]]⟩
theorem k83 : FactOk Tryz.prog 144 A83 := factOk_ok (ex_ok iEn_ok mixed .nil 600) (by kernel_rfl)
noncomputable def A84 : Fact := ⟨[.ag [.sl (some (0, 0)) 3 none, z 1, z 0, .sl (some (1, 0)) 2 none, z 1, z 0, z 1]], [.grow 3 1 [z 0, z 0, z 4611686018427387904], .grow 3 1 [z 0, z 4611686018427387904]], .tu [.ag [.sl (some (2, 0)) 3 none, z 1, z 0], z 0], [.grow 3 1 [z 0, z 0, z 4611686018427387904], .grow 3 1 [z 0, z 4611686018427387904], .grow 3 1 [z 0, z 0, z 4611686018427387904]]⟩
theorem k84 : FactOk Tryz.prog 146 A84 := factOk_ok (ex_ok iEn_ok mixed (.add k81 (.add k82 (.add k83 .nil))) 600) (by kernel_rfl)
noncomputable def A85 : Fact := ⟨[.ag [.sl (some (0, 0)) 3 none, z 1, z 0], .ag [.sl (some (1, 0)) 2 (some 2), z 1, z 0]], [.grow 3 1 [z 0, z 0, z 4611686018427387904], .cells 3 [z 0, z 4611686018427387904]], .tu [.ag [.sl (some (2, 0)) 3 none, z 1, z 0, z 4, .sl (some (3, 0)) 5 (some 5)], z 0], [.grow 3 1 [z 0, z 0, z 4611686018427387904], .cells 3 [z 0, z 4611686018427387904], .grow 3 1 [z 0, z 0, z 4611686018427387904], .cells 3 [z 0, z 1, z 0, z 0, z 0]]⟩
theorem k85 : FactOk Tryz.prog 116 A85 := factOk_ok (ex_ok iEn_ok mixed (.add k80 (.add k84 (.add k82 (.add k81 .nil)))) 600) (by kernel_rfl)
noncomputable def A86 : Fact := ⟨[.ag [.sl (some (0, 0)) 5 none, z 4, z 4], .ag [.sl (some (1, 0)) 3 none, z 1, z 0]], [.grow 3 1 [z 0, z 4, z 4, z 4, z 4], .grow 3 1 [z 0, z 0, z 4611686018427387904]], .tu [.ag [.b false, z 1, z 1], z 0], [.grow 3 1 [z 0, z 4, z 4, z 4, z 4], .grow 3 1 [z 0, z 0, z 4611686018427387904]]⟩
theorem k86 : FactOk Tryz.prog 110 A86 := factOk_ok (ex_ok iEn_ok mixed (.add k8 (.add k79 .nil)) 600) (by kernel_rfl)
noncomputable def A87 : Fact := ⟨[.ag [.sl (some (0, 0)) 2 (some 2), .sl (some (1, 0)) 2 (some 2), .sl (some (2, 0)) 2 (some 2)], .sl (some (3, 0)) 2 (some 2), z 0, z 1, z 1], [.cells 9 [.s ⟨#[97]⟩, .s ⟨#[98]⟩], O0, O2, O3, .cells 3 [z 0, z 1], .grow 3 1 [z 0, z 4, z 4, z 4, z 4], .cells 3 [z 1, z 0], .cells 3 [z 0], .cells 3 [z 0]], .tu [.ag [.sl (some (9, 0)) 4 none, z 4, z 36], z 0], [.cells 9 [.s ⟨#[97]⟩, .s ⟨#[98]⟩], O0, O2, O3, .cells 3 [z 0, z 1], .grow 3 1 [z 0, z 4, z 4, z 4, z 4], .cells 3 [z 1, z 0], .cells 3 [z 0], .cells 3 [z 0], .grow 3 1 [z 0, z 6, z 16, z 26]]⟩
theorem k87 : FactOk Tryz.prog 114 A87 := factOk_ok (ex_ok iEn_ok mixed (.add k4 (.add k32 (.add k31 (.add k34 (.add k17 (.add k42 .nil)))))) 600) (by kernel_rfl)
noncomputable def A88 : Fact := ⟨[.ag [.sl (some (0, 0)) 3 none, z 1, z 0], .ag [.sl (some (1, 0)) 4 none, z 4, z 36]], [.grow 3 1 [z 0, z 0, z 4611686018427387904], .grow 3 1 [z 0, z 6, z 16, z 26]], .tu [.ag [.sl (some (2, 0)) 3 none, z 1, z 0, .sl (some (3, 0)) 4 none, z 4, z 36, z 4], z 0], [.grow 3 1 [z 0, z 0, z 4611686018427387904], .grow 3 1 [z 0, z 6, z 16, z 26], .grow 3 1 [z 0, z 0, z 4611686018427387904], .grow 3 1 [z 0, z 6, z 16, z 26]]⟩
theorem k88 : FactOk Tryz.prog 145 A88 := factOk_ok (ex_ok iEn_ok mixed (.add k79 (.add k45 .nil)) 600) (by kernel_rfl)
noncomputable def O10 : HO := .cells 3 [z 0, z 6, z 16, z 26, z 36, z 42, z 52, z 62, z 72, z 78]
noncomputable def A89 : Fact := ⟨[.ag [.sl (some (0, 0)) 4 none, z 4, z 36], z 10], [.grow 3 1 [z 0, z 6, z 16, z 26]], .sl (some (1, 0)) 10 (some 10), [.grow 3 1 [z 0, z 6, z 16, z 26], O10]⟩
theorem k89 : FactOk Tryz.prog 82 A89 := factOk_ok (ex_ok iEn_ok mixed .nil 600) (by kernel_rfl)
noncomputable def O11 : HO := .cells 3 [z 0, z 0, z 4611686018427387904, z 4611686018427387904, z 4611686018427387904, z 4611686018427387904, z 4611686018427387904, z 4611686018427387904, z 4611686018427387904, z 4611686018427387904]
noncomputable def A90 : Fact := ⟨[.ag [.sl (some (0, 0)) 3 none, z 1, z 0], z 10], [.grow 3 1 [z 0, z 0, z 4611686018427387904]], .sl (some (1, 0)) 10 (some 10), [.grow 3 1 [z 0, z 0, z 4611686018427387904], O11]⟩
theorem k90 : FactOk Tryz.prog 82 A90 := factOk_ok (ex_ok iEn_ok mixed .nil 600) (by kernel_rfl)
noncomputable def O12 : HO := .cells 3 [z 0, z 0, z 6, z 16, z 26, z 36, z 42, z 52, z 62, z 72]
noncomputable def A91 : Fact := ⟨[.f 190 [] [.p (some (0, 0))], z 6, z 4, z 36], [.cells 22 [.sl (some (1, 0)) 10 (some 10)], O12], .tu [.ag [.sl (some (2, 0)) 5 none, z 4, z 36], z 0], [.cells 22 [.sl (some (1, 0)) 10 (some 10)], O12, .grow 3 1 [z 0, z 0, z 6, z 16, z 26]]⟩
theorem k91 : FactOk Tryz.prog 144 A91 := factOk_ok (ex_ok iEn_ok mixed .nil 600) (by kernel_rfl)
noncomputable def A92 : Fact := ⟨[.ag [.sl (some (0, 0)) 3 none, z 1, z 0, .sl (some (1, 0)) 4 none, z 4, z 36, z 4]], [.grow 3 1 [z 0, z 0, z 4611686018427387904], .grow 3 1 [z 0, z 6, z 16, z 26]], .tu [.ag [.sl (some (2, 0)) 5 none, z 4, z 36], z 0], [.grow 3 1 [z 0, z 0, z 4611686018427387904], .grow 3 1 [z 0, z 6, z 16, z 26], .grow 3 1 [z 0, z 0, z 6, z 16, z 26]]⟩
theorem k92 : FactOk Tryz.prog 146 A92 := factOk_ok (ex_ok iEn_ok mixed (.add k89 (.add k90 (.add k91 .nil))) 600) (by kernel_rfl)
noncomputable def A93 : Fact := ⟨[.ag [.sl (some (0, 0)) 3 none, z 1, z 0], .ag [.sl (some (1, 0)) 4 none, z 4, z 36]], [.grow 3 1 [z 0, z 0, z 4611686018427387904], .grow 3 1 [z 0, z 6, z 16, z 26]], .tu [.ag [.sl (some (2, 0)) 5 none, z 4, z 36, z 6, .sl (some (3, 0)) 10 (some 10)], z 0], [.grow 3 1 [z 0, z 0, z 4611686018427387904], .grow 3 1 [z 0, z 6, z 16, z 26], .grow 3 1 [z 0, z 0, z 6, z 16, z 26], .cells 3 [z 0, z 1, z 1, z 1, z 1, z 1, z 1, z 1, z 1, z 1]]⟩
theorem k93 : FactOk Tryz.prog 116 A93 := factOk_ok (ex_ok iEn_ok mixed (.add k88 (.add k92 (.add k90 (.add k89 .nil)))) 600) (by kernel_rfl)
noncomputable def A94 : Fact := ⟨[.f 185 [] [.p (some (0, 0))], z 1, z 4, z 36], [.cells 37 [.sl (some (1, 0)) 5 none, z 4, z 36], .grow 3 1 [z 0, z 0, z 6, z 16, z 26]], .tu [.ag [.sl (some (2, 0)) 5 none, z 4, z 36], z 0], [.cells 37 [.sl (some (1, 0)) 5 none, z 4, z 36], .grow 3 1 [z 0, z 0, z 6, z 16, z 26], .grow 3 1 [z 0, z 0, z 6, z 16, z 26]]⟩
theorem k94 : FactOk Tryz.prog 144 A94 := factOk_ok (ex_ok iEn_ok mixed .nil 600) (by kernel_rfl)
end Go.Proofs.YtehaepbflkncdaaGreat.I
namespace Go.Proofs.YtehaepbflkncdaaGreat.I
open Go Go.RowKit Go.Proofs.YtehaepbflkncdaaGreat.K
set_option maxRecDepth 1000000
noncomputable def A95 : Fact := ⟨[.ag [.sl (some (0, 0)) 5 none, z 4, z 36]], [.grow 3 1 [z 0, z 0, z 6, z 16, z 26]], .tu [.ag [.sl (some (1, 0)) 5 none, z 4, z 36], z 0], [.grow 3 1 [z 0, z 0, z 6, z 16, z 26], .grow 3 1 [z 0, z 0, z 6, z 16, z 26]]⟩
theorem k95 : FactOk Tryz.prog 141 A95 := factOk_ok (ex_ok iEn_ok mixed (.add k94 .nil) 600) (by kernel_rfl)
noncomputable def A96 : Fact := ⟨[.ag [.sl (some (0, 0)) 5 none, z 4, z 4], .ag [.sl (some (1, 0)) 5 none, z 4, z 36]], [.grow 3 1 [z 0, z 4, z 4, z 4, z 4], .grow 3 1 [z 0, z 0, z 6, z 16, z 26]], .tu [.ag [.b false, z 1, z 1], z 0], [.grow 3 1 [z 0, z 4, z 4, z 4, z 4], .grow 3 1 [z 0, z 0, z 6, z 16, z 26]]⟩
theorem k96 : FactOk Tryz.prog 110 A96 := factOk_ok (ex_ok iEn_ok mixed (.add k8 (.add k95 .nil)) 600) (by kernel_rfl)
noncomputable def A97 : Fact := ⟨[.ag [.sl (some (0, 0)) 6 none, z 4, z 36], .ag [.sl (some (1, 0)) 2 (some 2), z 1, z 0]], [.grow 3 1 [z 0, z 0, z 3, z 13, z 23, z 33], .cells 3 [z 0, z 4611686018427387904]], .tu [.ag [.sl (some (2, 0)) 6 none, z 4, z 36, .sl (some (3, 0)) 2 none, z 1, z 0, z 4], z 0], [.grow 3 1 [z 0, z 0, z 3, z 13, z 23, z 33], .cells 3 [z 0, z 4611686018427387904], .grow 3 1 [z 0, z 0, z 3, z 13, z 23, z 33], .grow 3 1 [z 0, z 4611686018427387904]]⟩
theorem k97 : FactOk Tryz.prog 145 A97 := factOk_ok (ex_ok iEn_ok mixed (.add k49 (.add k73 .nil)) 600) (by kernel_rfl)
noncomputable def O13 : HO := .cells 3 [z 0, z 0, z 3, z 13, z 23, z 33, z 39, z 49, z 59, z 69, z 75]
noncomputable def A98 : Fact := ⟨[.ag [.sl (some (0, 0)) 6 none, z 4, z 36], z 11], [.grow 3 1 [z 0, z 0, z 3, z 13, z 23, z 33]], .sl (some (1, 0)) 11 (some 11), [.grow 3 1 [z 0, z 0, z 3, z 13, z 23, z 33], O13]⟩
theorem k98 : FactOk Tryz.prog 82 A98 := factOk_ok (ex_ok iEn_ok mixed .nil 600) (by kernel_rfl)
noncomputable def O14 : HO := .cells 3 [z 0, z 4611686018427387904, z 4611686018427387904, z 4611686018427387904, z 4611686018427387904, z 4611686018427387904, z 4611686018427387904, z 4611686018427387904, z 4611686018427387904, z 4611686018427387904, z 4611686018427387904]
noncomputable def A99 : Fact := ⟨[.ag [.sl (some (0, 0)) 2 none, z 1, z 0], z 11], [.grow 3 1 [z 0, z 4611686018427387904]], .sl (some (1, 0)) 11 (some 11), [.grow 3 1 [z 0, z 4611686018427387904], O14]⟩
theorem k99 : FactOk Tryz.prog 82 A99 := factOk_ok (ex_ok iEn_ok mixed .nil 600) (by kernel_rfl)
noncomputable def A100 : Fact := ⟨[.f 190 [] [.p (some (0, 0))], z 7, z 4, z 36], [.cells 22 [.sl (some (1, 0)) 11 (some 11)], O13], .tu [.ag [.sl (some (2, 0)) 6 none, z 4, z 36], z 0], [.cells 22 [.sl (some (1, 0)) 11 (some 11)], O13, .grow 3 1 [z 0, z 0, z 3, z 13, z 23, z 33]]⟩
theorem k100 : FactOk Tryz.prog 144 A100 := factOk_ok (ex_ok iEn_ok mixed .nil 600) (by kernel_rfl)
noncomputable def A101 : Fact := ⟨[.ag [.sl (some (0, 0)) 6 none, z 4, z 36, .sl (some (1, 0)) 2 none, z 1, z 0, z 4]], [.grow 3 1 [z 0, z 0, z 3, z 13, z 23, z 33], .grow 3 1 [z 0, z 4611686018427387904]], .tu [.ag [.sl (some (2, 0)) 6 none, z 4, z 36], z 0], [.grow 3 1 [z 0, z 0, z 3, z 13, z 23, z 33], .grow 3 1 [z 0, z 4611686018427387904], .grow 3 1 [z 0, z 0, z 3, z 13, z 23, z 33]]⟩
theorem k101 : FactOk Tryz.prog 146 A101 := factOk_ok (ex_ok iEn_ok mixed (.add k98 (.add k99 (.add k100 .nil))) 600) (by kernel_rfl)
noncomputable def O15 : HO := .cells 3 [z 0, z 1, z 2, z 3, z 4, z 5, z 6, z 7, z 8, z 9, z 10]
noncomputable def A102 : Fact := ⟨[.ag [.sl (some (0, 0)) 6 none, z 4, z 36], .ag [.sl (some (1, 0)) 2 (some 2), z 1, z 0]], [.grow 3 1 [z 0, z 0, z 3, z 13, z 23, z 33], .cells 3 [z 0, z 4611686018427387904]], .tu [.ag [.sl (some (2, 0)) 6 none, z 4, z 36, z 7, .sl (some (3, 0)) 11 (some 11)], z 0], [.grow 3 1 [z 0, z 0, z 3, z 13, z 23, z 33], .cells 3 [z 0, z 4611686018427387904], .grow 3 1 [z 0, z 0, z 3, z 13, z 23, z 33], O15]⟩
theorem k102 : FactOk Tryz.prog 116 A102 := factOk_ok (ex_ok iEn_ok mixed (.add k97 (.add k101 (.add k98 (.add k99 .nil)))) 600) (by kernel_rfl)
noncomputable def A103 : Fact := ⟨[.ag [.sl (some (0, 0)) 5 none, z 4, z 4], .ag [.sl (some (1, 0)) 6 none, z 4, z 36]], [.grow 3 1 [z 0, z 4, z 4, z 4, z 4], .grow 3 1 [z 0, z 0, z 3, z 13, z 23, z 33]], .tu [.ag [.b false, z 2, z 1], z 0], [.grow 3 1 [z 0, z 4, z 4, z 4, z 4], .grow 3 1 [z 0, z 0, z 3, z 13, z 23, z 33]]⟩
theorem k103 : FactOk Tryz.prog 110 A103 := factOk_ok (ex_ok iEn_ok mixed (.add k8 (.add k49 .nil)) 600) (by kernel_rfl)
noncomputable def A104 : Fact := ⟨[.ag [.sl (some (0, 0)) 6 none, z 4, z 36], .ag [.sl (some (1, 0)) 4 none, z 4, z 36]], [.grow 3 1 [z 0, z 0, z 3, z 13, z 23, z 33], .grow 3 1 [z 0, z 6, z 16, z 26]], .tu [.ag [.sl (some (2, 0)) 6 none, z 4, z 36, .sl (some (3, 0)) 4 none, z 4, z 36, z 4], z 0], [.grow 3 1 [z 0, z 0, z 3, z 13, z 23, z 33], .grow 3 1 [z 0, z 6, z 16, z 26], .grow 3 1 [z 0, z 0, z 3, z 13, z 23, z 33], .grow 3 1 [z 0, z 6, z 16, z 26]]⟩
theorem k104 : FactOk Tryz.prog 145 A104 := factOk_ok (ex_ok iEn_ok mixed (.add k49 (.add k45 .nil)) 600) (by kernel_rfl)
noncomputable def O16 : HO := .cells 3 [z 0, z 0, z 3, z 13, z 23, z 33, z 39, z 49, z 59, z 69]
noncomputable def A105 : Fact := ⟨[.ag [.sl (some (0, 0)) 6 none, z 4, z 36], z 10], [.grow 3 1 [z 0, z 0, z 3, z 13, z 23, z 33]], .sl (some (1, 0)) 10 (some 10), [.grow 3 1 [z 0, z 0, z 3, z 13, z 23, z 33], O16]⟩
theorem k105 : FactOk Tryz.prog 82 A105 := factOk_ok (ex_ok iEn_ok mixed .nil 600) (by kernel_rfl)
noncomputable def O17 : HO := .cells 3 [z 0, z 0, z 3, z 9, z 19, z 29, z 39, z 45, z 55, z 65]
noncomputable def A106 : Fact := ⟨[.f 190 [] [.p (some (0, 0))], z 6, z 4, z 36], [.cells 22 [.sl (some (1, 0)) 10 (some 10)], O17], .tu [.ag [.sl (some (2, 0)) 6 none, z 4, z 36], z 0], [.cells 22 [.sl (some (1, 0)) 10 (some 10)], O17, .grow 3 1 [z 0, z 0, z 3, z 9, z 19, z 29]]⟩
theorem k106 : FactOk Tryz.prog 144 A106 := factOk_ok (ex_ok iEn_ok mixed .nil 600) (by kernel_rfl)
noncomputable def A107 : Fact := ⟨[.ag [.sl (some (0, 0)) 6 none, z 4, z 36, .sl (some (1, 0)) 4 none, z 4, z 36, z 4]], [.grow 3 1 [z 0, z 0, z 3, z 13, z 23, z 33], .grow 3 1 [z 0, z 6, z 16, z 26]], .tu [.ag [.sl (some (2, 0)) 6 none, z 4, z 36], z 0], [.grow 3 1 [z 0, z 0, z 3, z 13, z 23, z 33], .grow 3 1 [z 0, z 6, z 16, z 26], .grow 3 1 [z 0, z 0, z 3, z 9, z 19, z 29]]⟩
theorem k107 : FactOk Tryz.prog 146 A107 := factOk_ok (ex_ok iEn_ok mixed (.add k105 (.add k89 (.add k106 .nil))) 600) (by kernel_rfl)
noncomputable def A108 : Fact := ⟨[.ag [.sl (some (0, 0)) 6 none, z 4, z 36], .ag [.sl (some (1, 0)) 4 none, z 4, z 36]], [.grow 3 1 [z 0, z 0, z 3, z 13, z 23, z 33], .grow 3 1 [z 0, z 6, z 16, z 26]], .tu [.ag [.sl (some (2, 0)) 6 none, z 4, z 36, z 6, .sl (some (3, 0)) 10 (some 10)], z 0], [.grow 3 1 [z 0, z 0, z 3, z 13, z 23, z 33], .grow 3 1 [z 0, z 6, z 16, z 26], .grow 3 1 [z 0, z 0, z 3, z 9, z 19, z 29], .cells 3 [z 0, z 1, z 2, z 2, z 2, z 2, z 2, z 2, z 2, z 2]]⟩
theorem k108 : FactOk Tryz.prog 116 A108 := factOk_ok (ex_ok iEn_ok mixed (.add k104 (.add k107 (.add k105 (.add k89 .nil)))) 600) (by kernel_rfl)
noncomputable def A109 : Fact := ⟨[.f 185 [] [.p (some (0, 0))], z 2, z 4, z 36], [.cells 37 [.sl (some (1, 0)) 6 none, z 4, z 36], .grow 3 1 [z 0, z 0, z 3, z 9, z 19, z 29]], .tu [.ag [.sl (some (2, 0)) 6 none, z 4, z 36], z 0], [.cells 37 [.sl (some (1, 0)) 6 none, z 4, z 36], .grow 3 1 [z 0, z 0, z 3, z 9, z 19, z 29], .grow 3 1 [z 0, z 0, z 3, z 9, z 19, z 29]]⟩
theorem k109 : FactOk Tryz.prog 144 A109 := factOk_ok (ex_ok iEn_ok mixed .nil 600) (by kernel_rfl)
noncomputable def A110 : Fact := ⟨[.ag [.sl (some (0, 0)) 6 none, z 4, z 36]], [.grow 3 1 [z 0, z 0, z 3, z 9, z 19, z 29]], .tu [.ag [.sl (some (1, 0)) 6 none, z 4, z 36], z 0], [.grow 3 1 [z 0, z 0, z 3, z 9, z 19, z 29], .grow 3 1 [z 0, z 0, z 3, z 9, z 19, z 29]]⟩
theorem k110 : FactOk Tryz.prog 141 A110 := factOk_ok (ex_ok iEn_ok mixed (.add k109 .nil) 600) (by kernel_rfl)
noncomputable def A111 : Fact := ⟨[.ag [.sl (some (0, 0)) 5 none, z 4, z 4], .ag [.sl (some (1, 0)) 6 none, z 4, z 36]], [.grow 3 1 [z 0, z 4, z 4, z 4, z 4], .grow 3 1 [z 0, z 0, z 3, z 9, z 19, z 29]], .tu [.ag [.b false, z 2, z 1], z 0], [.grow 3 1 [z 0, z 4, z 4, z 4, z 4], .grow 3 1 [z 0, z 0, z 3, z 9, z 19, z 29]]⟩
theorem k111 : FactOk Tryz.prog 110 A111 := factOk_ok (ex_ok iEn_ok mixed (.add k8 (.add k110 .nil)) 600) (by kernel_rfl)
noncomputable def O18 : HO := .cells 22 [.sl (some (7, 0)) 1 none, .sl (some (8, 0)) 1 none]
noncomputable def A112 : Fact := ⟨[.ag [.sl (some (0, 0)) 2 (some 2), .sl (some (1, 0)) 2 (some 2), .sl (some (2, 0)) 2 (some 2)], .sl (some (3, 0)) 2 (some 2)], [.cells 9 [.s ⟨#[97]⟩, .s ⟨#[98]⟩], O0, O2, O18, .cells 3 [z 0, z 1], .grow 3 1 [z 0, z 4, z 4, z 4, z 4], .cells 3 [z 1, z 0], .grow 3 1 [z 0], .grow 3 1 [z 0]], .b true, [.cells 9 [.s ⟨#[97]⟩, .s ⟨#[98]⟩], O0, O2, O18, .cells 3 [z 0, z 1], .grow 3 1 [z 0, z 4, z 4, z 4, z 4], .cells 3 [z 1, z 0], .grow 3 1 [z 0], .grow 3 1 [z 0]]⟩
theorem k112 : FactOk Tryz.prog 73 A112 := factOk_ok (ex_ok iEn_ok mixed (.add k3 .nil) 600) (by kernel_rfl)
noncomputable def A113 : Fact := ⟨[.ag [.sl (some (0, 0)) 2 (some 2), .sl (some (1, 0)) 2 (some 2), .sl (some (2, 0)) 2 (some 2)], .sl (some (3, 0)) 2 (some 2), z 0], [.cells 9 [.s ⟨#[97]⟩, .s ⟨#[98]⟩], O0, O2, O18, .cells 3 [z 0, z 1], .grow 3 1 [z 0, z 4, z 4, z 4, z 4], .cells 3 [z 1, z 0], .grow 3 1 [z 0], .grow 3 1 [z 0]], .tu [z 1, .b true], [.cells 9 [.s ⟨#[97]⟩, .s ⟨#[98]⟩], O0, O2, O18, .cells 3 [z 0, z 1], .grow 3 1 [z 0, z 4, z 4, z 4, z 4], .cells 3 [z 1, z 0], .grow 3 1 [z 0], .grow 3 1 [z 0]]⟩
theorem k113 : FactOk Tryz.prog 83 A113 := factOk_ok (ex_ok iEn_ok mixed (.add k112 .nil) 600) (by kernel_rfl)
noncomputable def O19 : HO := .cells 39 [.s ⟨#[102]⟩, .sl (some (5, 0)) 2 (some 2), z 0, z 1, z 4, .sl (some (6, 0)) 5 none, z 4, z 4, .s ⟨#[103]⟩, .sl (some (7, 0)) 2 (some 2), z 0, z 1, z 4, .sl (some (6, 0)) 5 none, z 4, z 4]
noncomputable def O20 : HO := .cells 22 [.sl (some (8, 0)) 1 (some 1), .sl (some (9, 0)) 1 (some 1)]
noncomputable def A114 : Fact := ⟨[.ag [.sl (some (0, 0)) 2 (some 2), .sl (some (1, 0)) 2 (some 2), .sl (some (2, 0)) 2 (some 2)], .sl (some (3, 0)) 2 (some 2), .sl (some (4, 0)) 2 (some 2), z 0], [.cells 9 [.s ⟨#[97]⟩, .s ⟨#[98]⟩], O0, O19, O20, O7, .cells 3 [z 0, z 1], .grow 3 1 [z 0, z 4, z 4, z 4, z 4], .cells 3 [z 1, z 0], .cells 3 [z 0], .cells 3 [z 0], .grow 3 1 [z 0], .grow 3 1 [z 0]], .ag [.b true, z 1, z 1, .sl none 0 (some 0), .sl none 0 (some 0)], [.cells 9 [.s ⟨#[97]⟩, .s ⟨#[98]⟩], O0, O19, O20, O7, .cells 3 [z 0, z 1], .grow 3 1 [z 0, z 4, z 4, z 4, z 4], .cells 3 [z 1, z 0], .cells 3 [z 0], .cells 3 [z 0], .grow 3 1 [z 0], .grow 3 1 [z 0]]⟩
theorem k114 : FactOk Tryz.prog 58 A114 := factOk_ok (ex_ok iEn_ok mixed (.add k68 (.add k70 (.add k71 (.add k75 (.add k76 (.add k77 (.add k85 (.add k86 (.add k87 (.add k93 (.add k96 (.add k65 (.add k47 (.add k102 (.add k103 (.add k108 (.add k111 (.add k113 .nil)))))))))))))))))) 600) (by kernel_rfl)
noncomputable def A115 : Fact := ⟨[.ag [.sl (some (0, 0)) 2 (some 2), .sl (some (1, 0)) 2 (some 2), .sl (some (2, 0)) 2 (some 2)], .sl (some (3, 0)) 2 (some 2), z 1], [.cells 9 [.s ⟨#[97]⟩, .s ⟨#[98]⟩], O0, O2, O3, .cells 3 [z 0, z 1], .grow 3 1 [z 0, z 4, z 4, z 4, z 4], .cells 3 [z 1, z 0], .cells 3 [z 0], .cells 3 [z 0]], .tu [z 1, .b true], [.cells 9 [.s ⟨#[97]⟩, .s ⟨#[98]⟩], O0, O2, O3, .cells 3 [z 0, z 1], .grow 3 1 [z 0, z 4, z 4, z 4, z 4], .cells 3 [z 1, z 0], .cells 3 [z 0], .cells 3 [z 0]]⟩
theorem k115 : FactOk Tryz.prog 83 A115 := factOk_ok (ex_ok iEn_ok mixed (.add k4 .nil) 600) (by kernel_rfl)
noncomputable def A116 : Fact := ⟨[.ag [.sl (some (0, 0)) 2 (some 2), .sl (some (1, 0)) 2 (some 2), .sl (some (2, 0)) 2 (some 2)], .sl (some (3, 0)) 2 (some 2), z 1, z 0], [.cells 9 [.s ⟨#[97]⟩, .s ⟨#[98]⟩], O0, O2, O3, .cells 3 [z 0, z 1], .grow 3 1 [z 0, z 4, z 4, z 4, z 4], .cells 3 [z 1, z 0], .cells 3 [z 0], .cells 3 [z 0]], .tu [.sl (some (9, 0)) 2 (some 3), z 0], [.cells 9 [.s ⟨#[97]⟩, .s ⟨#[98]⟩], O0, O2, O3, .cells 3 [z 0, z 1], .grow 3 1 [z 0, z 4, z 4, z 4, z 4], .cells 3 [z 1, z 0], .cells 3 [z 0], .cells 3 [z 0], .cells 3 [z 0, z 1, z 0]]⟩
theorem k116 : FactOk Tryz.prog 113 A116 := factOk_ok (ex_ok iEn_ok mixed (.add k4 (.add k69 .nil)) 600) (by kernel_rfl)
noncomputable def A117 : Fact := ⟨[.ag [.sl (some (0, 0)) 2 (some 2), .sl (some (1, 0)) 2 (some 2), .sl (some (2, 0)) 2 (some 2)], .sl (some (3, 0)) 2 (some 2), z 1, z 0, z 0], [.cells 9 [.s ⟨#[97]⟩, .s ⟨#[98]⟩], O0, O2, O3, .cells 3 [z 0, z 1], .grow 3 1 [z 0, z 4, z 4, z 4, z 4], .cells 3 [z 1, z 0], .cells 3 [z 0], .cells 3 [z 0]], .tu [.ag [.sl (some (9, 0)) 2 (some 2), z 1, z 0], z 0], [.cells 9 [.s ⟨#[97]⟩, .s ⟨#[98]⟩], O0, O2, O3, .cells 3 [z 0, z 1], .grow 3 1 [z 0, z 4, z 4, z 4, z 4], .cells 3 [z 1, z 0], .cells 3 [z 0], .cells 3 [z 0], .cells 3 [z 0, z 4611686018427387904]]⟩
theorem k117 : FactOk Tryz.prog 114 A117 := factOk_ok (ex_ok iEn_ok mixed (.add k4 .nil) 600) (by kernel_rfl)
noncomputable def A118 : Fact := ⟨[.ag [.sl (some (0, 0)) 2 (some 2), .sl (some (1, 0)) 2 (some 2), .sl (some (2, 0)) 2 (some 2)], .sl (some (3, 0)) 2 (some 2), z 1, z 1], [.cells 9 [.s ⟨#[97]⟩, .s ⟨#[98]⟩], O0, O2, O3, .cells 3 [z 0, z 1], .grow 3 1 [z 0, z 4, z 4, z 4, z 4], .cells 3 [z 1, z 0], .cells 3 [z 0], .cells 3 [z 0]], .tu [.sl (some (9, 0)) 2 (some 3), z 0], [.cells 9 [.s ⟨#[97]⟩, .s ⟨#[98]⟩], O0, O2, O3, .cells 3 [z 0, z 1], .grow 3 1 [z 0, z 4, z 4, z 4, z 4], .cells 3 [z 1, z 0], .cells 3 [z 0], .cells 3 [z 0], .cells 3 [z 0, z 1, z 0]]⟩
theorem k118 : FactOk Tryz.prog 113 A118 := factOk_ok (ex_ok iEn_ok mixed (.add k4 (.add k69 .nil)) 600) (by kernel_rfl)
noncomputable def A119 : Fact := ⟨[.ag [.sl (some (0, 0)) 2 (some 2), .sl (some (1, 0)) 2 (some 2), .sl (some (2, 0)) 2 (some 2)], .sl (some (3, 0)) 2 (some 2), z 1, z 1, z 0], [.cells 9 [.s ⟨#[97]⟩, .s ⟨#[98]⟩], O0, O2, O3, .cells 3 [z 0, z 1], .grow 3 1 [z 0, z 4, z 4, z 4, z 4], .cells 3 [z 1, z 0], .cells 3 [z 0], .cells 3 [z 0]], .tu [.ag [.sl (some (9, 0)) 2 (some 2), z 1, z 0], z 0], [.cells 9 [.s ⟨#[97]⟩, .s ⟨#[98]⟩], O0, O2, O3, .cells 3 [z 0, z 1], .grow 3 1 [z 0, z 4, z 4, z 4, z 4], .cells 3 [z 1, z 0], .cells 3 [z 0], .cells 3 [z 0], .cells 3 [z 0, z 4611686018427387904]]⟩
theorem k119 : FactOk Tryz.prog 114 A119 := factOk_ok (ex_ok iEn_ok mixed (.add k4 .nil) 600) (by kernel_rfl)
noncomputable def A120 : Fact := ⟨[.ag [.sl (some (0, 0)) 2 (some 2), .sl (some (1, 0)) 2 (some 2), .sl (some (2, 0)) 2 (some 2)], .sl (some (3, 0)) 2 (some 2), z 1, z 1, z 1], [.cells 9 [.s ⟨#[97]⟩, .s ⟨#[98]⟩], O0, O2, O3, .cells 3 [z 0, z 1], .grow 3 1 [z 0, z 4, z 4, z 4, z 4], .cells 3 [z 1, z 0], .cells 3 [z 0], .cells 3 [z 0]], .tu [.ag [.sl (some (9, 0)) 4 none, z 4, z 36], z 0], [.cells 9 [.s ⟨#[97]⟩, .s ⟨#[98]⟩], O0, O2, O3, .cells 3 [z 0, z 1], .grow 3 1 [z 0, z 4, z 4, z 4, z 4], .cells 3 [z 1, z 0], .cells 3 [z 0], .cells 3 [z 0], .grow 3 1 [z 0, z 6, z 16, z 26]]⟩
theorem k120 : FactOk Tryz.prog 114 A120 := factOk_ok (ex_ok iEn_ok mixed (.add k4 (.add k6 (.add k5 (.add k11 (.add k17 (.add k42 .nil)))))) 600) (by kernel_rfl)
noncomputable def A121 : Fact := ⟨[.ag [.sl (some (0, 0)) 2 (some 2), .sl (some (1, 0)) 2 (some 2), .sl (some (2, 0)) 2 (some 2)], .sl (some (3, 0)) 2 (some 2), z 1], [.cells 9 [.s ⟨#[97]⟩, .s ⟨#[98]⟩], O0, O2, O18, .cells 3 [z 0, z 1], .grow 3 1 [z 0, z 4, z 4, z 4, z 4], .cells 3 [z 1, z 0], .grow 3 1 [z 0], .grow 3 1 [z 0]], .tu [z 1, .b true], [.cells 9 [.s ⟨#[97]⟩, .s ⟨#[98]⟩], O0, O2, O18, .cells 3 [z 0, z 1], .grow 3 1 [z 0, z 4, z 4, z 4, z 4], .cells 3 [z 1, z 0], .grow 3 1 [z 0], .grow 3 1 [z 0]]⟩
theorem k121 : FactOk Tryz.prog 83 A121 := factOk_ok (ex_ok iEn_ok mixed (.add k112 .nil) 600) (by kernel_rfl)
noncomputable def A122 : Fact := ⟨[.ag [.sl (some (0, 0)) 2 (some 2), .sl (some (1, 0)) 2 (some 2), .sl (some (2, 0)) 2 (some 2)], .sl (some (3, 0)) 2 (some 2), .sl (some (4, 0)) 2 (some 2), z 1], [.cells 9 [.s ⟨#[97]⟩, .s ⟨#[98]⟩], O0, O19, O20, O7, .cells 3 [z 0, z 1], .grow 3 1 [z 0, z 4, z 4, z 4, z 4], .cells 3 [z 1, z 0], .cells 3 [z 0], .cells 3 [z 0], .grow 3 1 [z 0], .grow 3 1 [z 0]], .ag [.b true, z 1, z 1, .sl none 0 (some 0), .sl none 0 (some 0)], [.cells 9 [.s ⟨#[97]⟩, .s ⟨#[98]⟩], O0, O19, O20, O7, .cells 3 [z 0, z 1], .grow 3 1 [z 0, z 4, z 4, z 4, z 4], .cells 3 [z 1, z 0], .cells 3 [z 0], .cells 3 [z 0], .grow 3 1 [z 0], .grow 3 1 [z 0]]⟩
theorem k122 : FactOk Tryz.prog 58 A122 := factOk_ok (ex_ok iEn_ok mixed (.add k115 (.add k116 (.add k117 (.add k75 (.add k118 (.add k119 (.add k85 (.add k86 (.add k120 (.add k93 (.add k96 (.add k43 (.add k47 (.add k102 (.add k103 (.add k108 (.add k111 (.add k121 .nil)))))))))))))))))) 600) (by kernel_rfl)
noncomputable def L7 : List V := zs [0]
noncomputable def A123 : Fact := ⟨[z 10, z 1, .sl (some (0, 0)) 1 none, z 46, .f 245 [] []], [.grow 55 3 [z 0, z 0, z 4]], .ag [.sl (some (1, 0)) 1 (some 1), .sl (some (2, 0)) 1 (some 1)], [.grow 55 3 [z 0, z 0, z 4], .cells 3 [z 0], .cells 22 [.sl (some (3, 0)) 47 (some 47)], .cells 3 (appX L7 (repX 46 [z 4]))]⟩
theorem k123 : FactOk Tryz.prog 244 A123 := factOk_ok (ex_ok iEn_ok mixed .nil 600) (by kernel_rfl)
noncomputable def A124 : Fact := ⟨[.ag [z 1, z 10, z 1, .sl none 0 (some 0), .sl none 0 (some 0)], .sl (some (0, 0)) 1 none, z 46], [.grow 55 3 [z 0, z 0, z 4]], .tu [.ag [.sl (some (1, 0)) 1 (some 1), .sl (some (2, 0)) 1 (some 1)], z 0], [.grow 55 3 [z 0, z 0, z 4], .cells 3 [z 0], .cells 22 [.sl (some (3, 0)) 47 (some 47)], .cells 3 (appX L7 (repX 46 [z 4]))]⟩
theorem k124 : FactOk Tryz.prog 62 A124 := factOk_ok (ex_ok iEn_ok mixed (.add k1 (.add k123 .nil)) 600) (by kernel_rfl)
noncomputable def A125 : Fact := ⟨[.ag [.sl (some (0, 0)) 2 (some 2), .sl (some (1, 0)) 2 (some 2), .sl (some (2, 0)) 2 (some 2)], .sl (some (3, 0)) 1 (some 1), .ag [.sl (some (4, 0)) 1 none], z 0, z 100], [.cells 9 [.s ⟨#[97]⟩, .s ⟨#[98]⟩], O0, O19, .cells 55 [z 0, z 0, z 4], .grow 22 1 [.sl (some (8, 0)) 2 (some 2)], .cells 3 [z 0, z 1], .grow 3 1 [z 0, z 4, z 4, z 4, z 4], .cells 3 [z 1, z 0], .cells 3 [.i .i64 (.negSucc 0), .i .i64 (.negSucc 0)]], .tu [.b true, z 0], [.cells 9 [.s ⟨#[97]⟩, .s ⟨#[98]⟩], O0, O19, .cells 55 [z 0, z 0, z 4], .grow 22 1 [.sl (some (8, 0)) 2 (some 2)], .cells 3 [z 0, z 1], .grow 3 1 [z 0, z 4, z 4, z 4, z 4], .cells 3 [z 1, z 0], .cells 3 [z 0, .i .i64 (.negSucc 0)]]⟩
theorem k125 : FactOk Tryz.prog 35 A125 := factOk_ok (ex_ok iEn_ok mixed (.add k124 .nil) 600) (by kernel_rfl)
noncomputable def L8 : List V := appX L7 (zs [0])
noncomputable def A126 : Fact := ⟨[z 10, z 1, .sl (some (0, 0)) 1 none, z 47, .f 245 [] []], [.grow 55 3 [z 0, z 1, z 4]], .ag [.sl (some (1, 0)) 1 (some 1), .sl (some (2, 0)) 1 (some 1)], [.grow 55 3 [z 0, z 1, z 4], .cells 3 [z 1], .cells 22 [.sl (some (3, 0)) 48 (some 48)], .cells 3 (appX L8 (repX 46 [z 4]))]⟩
theorem k126 : FactOk Tryz.prog 244 A126 := factOk_ok (ex_ok iEn_ok mixed .nil 600) (by kernel_rfl)
end Go.Proofs.YtehaepbflkncdaaGreat.I
namespace Go.Proofs.YtehaepbflkncdaaGreat.I
open Go Go.RowKit Go.Proofs.YtehaepbflkncdaaGreat.K
set_option maxRecDepth 1000000
noncomputable def A127 : Fact := ⟨[.ag [z 1, z 10, z 1, .sl none 0 (some 0), .sl none 0 (some 0)], .sl (some (0, 0)) 1 none, z 47], [.grow 55 3 [z 0, z 1, z 4]], .tu [.ag [.sl (some (1, 0)) 1 (some 1), .sl (some (2, 0)) 1 (some 1)], z 0], [.grow 55 3 [z 0, z 1, z 4], .cells 3 [z 1], .cells 22 [.sl (some (3, 0)) 48 (some 48)], .cells 3 (appX L8 (repX 46 [z 4]))]⟩
theorem k127 : FactOk Tryz.prog 62 A127 := factOk_ok (ex_ok iEn_ok mixed (.add k1 (.add k126 .nil)) 600) (by kernel_rfl)
noncomputable def A128 : Fact := ⟨[.ag [.sl (some (0, 0)) 2 (some 2), .sl (some (1, 0)) 2 (some 2), .sl (some (2, 0)) 2 (some 2)], .sl (some (3, 0)) 1 (some 1), .ag [.sl (some (4, 0)) 1 none], z 1, z 100], [.cells 9 [.s ⟨#[97]⟩, .s ⟨#[98]⟩], O0, O19, .cells 55 [z 0, z 0, z 4], .grow 22 1 [.sl (some (8, 0)) 2 (some 2)], .cells 3 [z 0, z 1], .grow 3 1 [z 0, z 4, z 4, z 4, z 4], .cells 3 [z 1, z 0], .cells 3 [z 0, .i .i64 (.negSucc 0)]], .tu [.b true, z 0], [.cells 9 [.s ⟨#[97]⟩, .s ⟨#[98]⟩], O0, O19, .cells 55 [z 0, z 0, z 4], .grow 22 1 [.sl (some (8, 0)) 2 (some 2)], .cells 3 [z 0, z 1], .grow 3 1 [z 0, z 4, z 4, z 4, z 4], .cells 3 [z 1, z 0], .cells 3 [z 0, z 1]]⟩
theorem k128 : FactOk Tryz.prog 35 A128 := factOk_ok (ex_ok iEn_ok mixed (.add k127 .nil) 600) (by kernel_rfl)
noncomputable def A129 : Fact := ⟨[.ag [.sl (some (0, 0)) 2 (some 2), .sl (some (1, 0)) 2 (some 2), .sl (some (2, 0)) 2 (some 2)], .sl (some (3, 0)) 1 (some 1), .ag [.sl (some (4, 0)) 1 none], z 0, z 100], [.cells 9 [.s ⟨#[97]⟩, .s ⟨#[98]⟩], O0, O19, .cells 55 [z 0, z 0, z 4], .grow 22 1 [.sl (some (8, 0)) 2 (some 2)], .cells 3 [z 0, z 1], .grow 3 1 [z 0, z 4, z 4, z 4, z 4], .cells 3 [z 1, z 0], .cells 3 [z 0, z 1]], .tu [.b false, z 0], [.cells 9 [.s ⟨#[97]⟩, .s ⟨#[98]⟩], O0, O19, .cells 55 [z 0, z 0, z 4], .grow 22 1 [.sl (some (8, 0)) 2 (some 2)], .cells 3 [z 0, z 1], .grow 3 1 [z 0, z 4, z 4, z 4, z 4], .cells 3 [z 1, z 0], .cells 3 [z 0, z 1]]⟩
theorem k129 : FactOk Tryz.prog 35 A129 := factOk_ok (ex_ok iEn_ok mixed (.add k124 .nil) 600) (by kernel_rfl)
noncomputable def A130 : Fact := ⟨[.ag [.sl (some (0, 0)) 2 (some 2), .sl (some (1, 0)) 2 (some 2), .sl (some (2, 0)) 2 (some 2)], .sl (some (3, 0)) 1 (some 1), .ag [.sl (some (4, 0)) 1 none], z 1, z 100], [.cells 9 [.s ⟨#[97]⟩, .s ⟨#[98]⟩], O0, O19, .cells 55 [z 0, z 0, z 4], .grow 22 1 [.sl (some (8, 0)) 2 (some 2)], .cells 3 [z 0, z 1], .grow 3 1 [z 0, z 4, z 4, z 4, z 4], .cells 3 [z 1, z 0], .cells 3 [z 0, z 1]], .tu [.b false, z 0], [.cells 9 [.s ⟨#[97]⟩, .s ⟨#[98]⟩], O0, O19, .cells 55 [z 0, z 0, z 4], .grow 22 1 [.sl (some (8, 0)) 2 (some 2)], .cells 3 [z 0, z 1], .grow 3 1 [z 0, z 4, z 4, z 4, z 4], .cells 3 [z 1, z 0], .cells 3 [z 0, z 1]]⟩
theorem k130 : FactOk Tryz.prog 35 A130 := factOk_ok (ex_ok iEn_ok mixed (.add k127 .nil) 600) (by kernel_rfl)
noncomputable def A131 : Fact := ⟨[], [], .b true, []⟩
theorem k131 : FactOk Tryz.prog 5 A131 := factOk_ok (ex_ok iEn_ok mixed (.add k0 (.add k36 (.add k37 (.add k67 (.add k114 (.add k122 (.add k3 (.add k125 (.add k128 (.add k129 (.add k130 (.add k68 (.add k115 .nil))))))))))))) 600) (by kernel_rfl)
theorem Made_V {R : Ro} : FnV Tryz.prog 5 [] R (.bool true) := FactOk.toV k131 rfl rfl (fun _ => rfl)
end Go.Proofs.YtehaepbflkncdaaGreat.I