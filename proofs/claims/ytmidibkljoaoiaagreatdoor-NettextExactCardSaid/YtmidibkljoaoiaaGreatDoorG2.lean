/- Rules and walks, joined from 37 texts: the first of them says: Any typed data, opened: from the data of a row to what the walks know of memory. No condition. -/
import Derived.Test.YtmidibkljoaoiaaGreatDoorG1
import Derived.Deep.Strs
import Derived.Lib.SmallJoins
import Derived.WalkSpells
import Derived.Laws.StructEq
import Derived.Laws.Concat
import Derived.Laws.Bits64
import Derived.WideLaws
import Derived.ChangeKeysEq
import Derived.Lib.ItoaNum
import Derived.Lib.LaidTab
import Derived.Lib.AppendIntMem
import Derived.Lib.AtoiErrMem
import Derived.Lib.IndexMore
import Derived.Lib.Atoi
import Derived.Lib.AtoiAll
import Derived.Lib.AtoiTie
import Derived.Lib.AtoiAllCases
import Derived.Lib.ItoaLen
import Derived.Lib.IndexBytes
import Derived.Lib.Split
import Derived.Lib.Join
import Derived.Test.YtmidibkljoaoiaaGreatDoorChecked
import Derived.WideMake
import Derived.WalkSmall
import Derived.Defers
import Derived.Recover
import Derived.Laws.Pointers
/- Any typed data, opened: from the data of a row to what the walks know of memory. No condition. -/
namespace Go.Proofs.YtmidibkljoaoiaaGreatDoor.K
open Go Go.RowKit Go.ChangeShapes Go.WideShapes Go.ChangeAt Go.WideElems Go.Maps Go.Proofs.YtmidibkljoaoiaaGreatDoor.M
theorem rsl_ofG {W : World} {k : Nat} {a : Addr} {rows : List (List Value)} (hk : 0 < k) (hlen : ∀ r ∈ rows, r.length = k) (hm : rows.length ≤ 9223372036854775807)
  (hc : ∀ i r, rows[i]? = some r → ∀ j v, r[j]? = some v → W.cell? (a.add (i * k + j)) = some v) : RSl (roOf W) k (some a) rows := by
 by_cases h0 : rows = []
 ·subst h0
  exact ⟨by simp, .inl rfl, by simp⟩
 ·have hpos : 0 < rows.length := List.length_pos_iff.2 h0
  have hz0 : (rows[0]).length = k := hlen _ (List.getElem_mem hpos)
  have h1 := hc 0 rows[0] (List.getElem?_eq_getElem hpos) 0 ((rows[0])[0]'(by omega)) (List.getElem?_eq_getElem (by omega))
  rw [Nat.zero_mul, Nat.zero_add] at h1
  unfold World.cell? at h1
  cases hh : W.heap[(a.add 0).block]? with
  | none => simp [hh] at h1
  | some o =>
   cases o with
   | cells arr T fz =>
    have hs : a.spot = none := by
     simp only [hh] at h1
     cases hsp : a.spot with
     | none => rfl
     | some x => simp [Addr.add, hsp] at h1
    have hb : (a.add 0).block = a.block := rfl
    rw [hb] at hh
    refine ⟨hlen, .inr ⟨a.block, a.off, arr.toList, ?_, ?_, fun m v hv => ?_⟩, hm⟩
    ·cases a; simp only at hs; subst hs; rfl
    ·unfold roOf; rw [hh]
    ·have hmlt : m < rows.flatten.length := (List.getElem?_eq_some_iff.1 hv).1
     rw [flatten_len hlen] at hmlt
     have hi : m / k < rows.length := Nat.div_lt_of_lt_mul (by rw [Nat.mul_comm]; exact hmlt)
     have hj : m % k < k := Nat.mod_lt _ hk
     have hzi := hlen _ (List.getElem_mem hi)
     have hg := flatten_get hlen (i := m / k) (j := m % k) (row := rows[m / k]) (v := (rows[m / k])[m % k]'(by omega)) (List.getElem?_eq_getElem hi) (List.getElem?_eq_getElem _)
     have hme : m / k * k + m % k = m := by rw [Nat.mul_comm]; exact Nat.div_add_mod m k
     rw [hme, hv] at hg
     have hv' : v = (rows[m / k])[m % k]'(by omega) := by simpa using hg
     have h2 := hc (m / k) _ (List.getElem?_eq_getElem hi) (m % k) v (by rw [hv']; exact List.getElem?_eq_getElem _)
     rw [hme] at h2
     unfold World.cell? at h2
     have hbj : (a.add m).block = a.block := by unfold Addr.add; split <;> rfl
     have hsj : (a.add m).spot = a.spot := by unfold Addr.add; split <;> simp [hs]
     have hoj : (a.add m).off = a.off + m := by unfold Addr.add; split <;> simp [*]
     rw [hbj, hh] at h2
     simp only [hsj, hs, hoj] at h2
     simpa using h2
   | _ => simp [hh] at h1
section
variable {H : Type} {enc : TypeId × Value → H} {P : Program}
def Opn {α : Type} (enc : TypeId × Value → H) (P : Program) (t k : Nat) (en : α → List Value) (ok : Ro → α → Prop) : Prop :=
  (∀ z, (en z).length = k) ∧ ∀ (W : World) (spare : Nat → Bool) (fuel : Nat) (cs : List Value) (x : DataW H × List MemPlace), DataW.trod enc P W 0 spare true fuel t cs = some x → ∃ z, cs = en z ∧ ok (roOf W) z
theorem opn_int {t : Nat} (ht : P.underlying t = some (.int .i64)) : Opn enc P t 1 encI (fun _ z => InR z) :=
 ⟨fun _ => rfl, fun W spare fuel cs x h => by
  obtain ⟨n, rfl, _, hw⟩ := DataW.trod_int ht h
  exact ⟨n, rfl, bounds_i64 hw⟩⟩
def encStr (s : List UInt8) : List Value := [.string ⟨s.toArray⟩]
theorem opn_str {t : Nat} (ht : P.underlying t = some .string) : Opn enc P t 1 encStr (fun _ s => s.length ≤ maxLen) :=
 ⟨fun _ => rfl, fun W spare fuel cs x h => by
  obtain ⟨s, rfl, _, hw⟩ := DataW.trod_string ht h
  refine ⟨s.data.toList, ?_, by simpa using hw⟩
  unfold encStr
  simp⟩
theorem Opn.map {α β : Type} {t k : Nat} {en : α → List Value} {ok : Ro → α → Prop} {en' : β → List Value} {ok' : Ro → β → Prop} (h : Opn enc P t k en ok) (f : α → β) (hl : ∀ z, (en' z).length = k) (he : ∀ z, en z = en' (f z)) (ho : ∀ R z, ok R z → ok' R (f z)) : Opn enc P t k en' ok' :=
 ⟨hl, fun W spare fuel cs x hx => by
  obtain ⟨z, rfl, hz⟩ := h.2 W spare fuel cs x hx
  exact ⟨f z, he z, ho _ _ hz⟩⟩
theorem opn_slice {α : Type} [Inhabited α] {t e k : Nat} {en : α → List Value} {ok : Ro → α → Prop} (ht : P.underlying t = some (.slice e)) (hk : 0 < k) (hce : P.cellsOf e = k) (he : Opn enc P e k en ok) :
  Opn enc P t 1 (encSl (α := α)) (fun R s => RS R k en s.a s.xs ∧ s.xs.length ≤ s.cap ∧ ∀ x ∈ s.xs, ok R x) := by
 refine ⟨fun _ => rfl, fun W spare fuel cs x h => ?_⟩
 rcases Go.Deep.open_slice ht h with ⟨hcs, _⟩ | ⟨a, len, cap, m, n, D, Pl, hcs, _, hl, hm, hmm, _, hx⟩
 ·exact ⟨⟨none, 0, []⟩, hcs, ⟨by simp, .inl rfl, by simp⟩, Nat.le_refl _, by simp⟩
 ·have hlm : len ≤ m := by rw [hmm]; split <;> omega
  have each : ∀ i, i < len → ∃ z : α, (∀ j v, (en z)[j]? = some v → W.cell? (a.add (i * k + j)) = some v) ∧ ok (roOf W) z := by
   intro i hi
   obtain ⟨cs', h1, h2⟩ := hx i (by omega)
   rw [hce] at h1
   obtain ⟨_, hlen, hcell⟩ := World.cells?_some h1
   obtain ⟨z, rfl, hr⟩ := he.2 W spare n cs' _ h2
   refine ⟨z, fun j v hj => ?_, hr⟩
   have hjk : j < k := by have := (List.getElem?_eq_some_iff.1 hj).1; rw [he.1] at this; exact this
   have := hcell j hjk
   rw [addr_add_add] at this
   rw [this, hj]
  have hch : ∃ f : Nat → α, ∀ i, i < len → (∀ j v, (en (f i))[j]? = some v → W.cell? (a.add (i * k + j)) = some v) ∧ ok (roOf W) (f i) :=
   ⟨fun i => if h : i < len then (each i h).choose else default, fun i hi => by simp only [hi, dif_pos]; exact (each i hi).choose_spec⟩
  obtain ⟨f, hf⟩ := hch
  have hlen : ((List.range len).map f).length = len := by simp
  refine ⟨⟨some a, cap, (List.range len).map f⟩, by rw [hcs]; unfold encSl; rw [hlen], ?_, by (try dsimp only); rw [hlen]; exact hl, fun z hz => ?_⟩
  ·refine rsl_ofG hk (fun r hr => ?_) (by rw [List.length_map]; (try dsimp only); rw [hlen]; simp only [maxLen] at hm; omega) (fun i r hi j v hv => ?_)
   ·obtain ⟨z, _, rfl⟩ := List.mem_map.1 hr
    exact he.1 z
   ·have hil : i < len := by have := (List.getElem?_eq_some_iff.1 hi).1; simpa using this
    have : r = en (f i) := by simp [List.getElem?_map, hil] at hi; exact hi.symm
    subst this
    exact (hf i hil).1 j v hv
  ·obtain ⟨i, hi, rfl⟩ := List.mem_map.1 hz
   exact (hf i (by simpa using hi)).2
theorem cut2 {cs : List Value} {a b : Nat} (h : cs.length = a + b) : cs = (cs.drop 0).take a ++ (cs.drop a).take b := by
 rw [List.drop_zero, List.take_of_length_le (l := cs.drop a) (by rw [List.length_drop]; omega), List.take_append_drop]
theorem cut3 {cs : List Value} {a b c : Nat} (h : cs.length = a + b + c) : cs = (cs.drop 0).take a ++ (cs.drop a).take b ++ (cs.drop (a + b)).take c := by
 rw [List.drop_zero, List.take_of_length_le (l := cs.drop (a + b)) (by rw [List.length_drop]; omega), ← List.drop_drop, List.append_assoc, List.take_append_drop, List.take_append_drop]
theorem opn_struct2 {α β : Type} {t k0 k1 : Nat} {f0 f1 : Field} {e0 : α → List Value} {e1 : β → List Value} {p0 : Ro → α → Prop} {p1 : Ro → β → Prop} (ht : P.underlying t = some (.struct #[f0, f1])) (hc : P.cellsOf t = k0 + k1)
  (c0 : P.cellsOf f0.type = k0) (c1 : P.cellsOf f1.type = k1) (o0 : f0.offset = 0) (o1 : f1.offset = k0) (h0 : Opn enc P f0.type k0 e0 p0) (h1 : Opn enc P f1.type k1 e1 p1) :
  Opn enc P t (k0 + k1) (fun z : α × β => e0 z.1 ++ e1 z.2) (fun R z => p0 R z.1 ∧ p1 R z.2) := by
 refine ⟨fun z => by rw [List.length_append, h0.1, h1.1], fun W spare fuel cs x h => ?_⟩
 obtain ⟨y0, y1, n, _, hl, g0, g1⟩ := trod_struct2 ht h
 rw [c0, o0] at g0
 rw [c1, o1] at g1
 obtain ⟨z0, q0, r0⟩ := h0.2 _ _ _ _ _ g0
 obtain ⟨z1, q1, r1⟩ := h1.2 _ _ _ _ _ g1
 refine ⟨(z0, z1), ?_, r0, r1⟩
 rw [cut2 (hl.trans hc), q0, q1]
theorem opn_struct3 {α β γ : Type} {t k0 k1 k2 : Nat} {f0 f1 f2 : Field} {e0 : α → List Value} {e1 : β → List Value} {e2 : γ → List Value} {p0 : Ro → α → Prop} {p1 : Ro → β → Prop} {p2 : Ro → γ → Prop} (ht : P.underlying t = some (.struct #[f0, f1, f2])) (hc : P.cellsOf t = k0 + k1 + k2)
  (c0 : P.cellsOf f0.type = k0) (c1 : P.cellsOf f1.type = k1) (c2 : P.cellsOf f2.type = k2) (o0 : f0.offset = 0) (o1 : f1.offset = k0) (o2 : f2.offset = k0 + k1) (h0 : Opn enc P f0.type k0 e0 p0) (h1 : Opn enc P f1.type k1 e1 p1) (h2 : Opn enc P f2.type k2 e2 p2) :
  Opn enc P t (k0 + k1 + k2) (fun z : α × β × γ => e0 z.1 ++ e1 z.2.1 ++ e2 z.2.2) (fun R z => p0 R z.1 ∧ p1 R z.2.1 ∧ p2 R z.2.2) := by
 refine ⟨fun z => by rw [List.length_append, List.length_append, h0.1, h1.1, h2.1], fun W spare fuel cs x h => ?_⟩
 obtain ⟨y0, y1, y2, n, _, hl, g0, g1, g2⟩ := Go.Deep.trod_struct3 ht h
 rw [c0, o0] at g0
 rw [c1, o1] at g1
 rw [c2, o2] at g2
 obtain ⟨z0, q0, r0⟩ := h0.2 _ _ _ _ _ g0
 obtain ⟨z1, q1, r1⟩ := h1.2 _ _ _ _ _ g1
 obtain ⟨z2, q2, r2⟩ := h2.2 _ _ _ _ _ g2
 refine ⟨(z0, z1, z2), ?_, r0, r1, r2⟩
 rw [cut3 (hl.trans hc), q0, q1, q2]
/-- a struct that is an argument -/
theorem Opn.top {α : Type} {W : World} {spare : Nat → Bool} {t k : Nat} {en : α → List Value} {ok : Ro → α → Prop} {v : Value} {d : DataW H} {ps : List MemPlace} {fs : Array Field} (he : Opn enc P t k en ok) (ht : P.underlying t = some (.struct fs)) (hval : Value.okWide P W .any 0 t v) (h : DataW.Trod enc P W 0 spare true t v d ps) :
  ∃ z : α, v = .agg (en z).toArray ∧ ok (roOf W) z := by
 obtain ⟨cs, rfl, _⟩ := WideShapes.okWide_struct ht hval
 obtain ⟨fuel, hf⟩ := h
 obtain ⟨z, hz, hr⟩ := he.2 W spare fuel _ _ hf
 refine ⟨z, ?_, hr⟩
 obtain ⟨l⟩ := cs
 have : l = en z := hz
 rw [this]
/-- curves -/
def OkI (R : Ro) (s : CvS) : Prop := RS R 1 encI s.a s.cv.vals ∧ s.cv.vals.length ≤ s.cap ∧ InR s.cv.per ∧ InR s.cv.inc
theorem opn_curve {t ts ti : Nat} {f0 f1 f2 : Field} (ht : P.underlying t = some (.struct #[f0, f1, f2])) (hc : P.cellsOf t = 3) (t0 : f0.type = ts) (t1 : f1.type = ti) (t2 : f2.type = ti) (cs : P.cellsOf ts = 1) (ci : P.cellsOf ti = 1) (o0 : f0.offset = 0) (o1 : f1.offset = 1) (o2 : f2.offset = 2)
  (us : P.underlying ts = some (.slice ti)) (ui : P.underlying ti = some (.int .i64)) : Opn enc P t 3 encC OkI := by
 have hs := opn_slice (α := Int) (enc := enc) us (by decide) ci (opn_int ui)
 have h3 := opn_struct3 (enc := enc) (k0 := 1) (k1 := 1) (k2 := 1) ht hc (by rw [t0]; exact cs) (by rw [t1]; exact ci) (by rw [t2]; exact ci) o0 o1 o2 (by rw [t0]; exact hs) (by rw [t1]; exact opn_int ui) (by rw [t2]; exact opn_int ui)
 exact h3.map (fun z => ⟨z.1.a, z.1.cap, ⟨z.1.xs, z.2.1, z.2.2⟩⟩) (fun _ => rfl) (fun _ => rfl) (fun R z h => ⟨h.1.1, h.1.2.1, h.2.1, h.2.2⟩)
end
end Go.Proofs.YtmidibkljoaoiaaGreatDoor.K

/- What a reference's line does where its choice looks at what is left of a tick, plain. No condition. -/
namespace Go.Proofs.YtmidibkljoaoiaaGreatDoor.M
open Go Go.Proofs.YtmidibkljoaoiaaGreatDoor.K

section
variable {τ : Type} (ps : List Pkt) (rc : Int → St → τ → Int × τ)
end

section
variable {σ τ : Type} {ps : List Pkt} {ch : MS → σ → Int × Nat × σ} {good : MS → σ → Prop} {rel : Nat → Nat → Prop} {classes col : Nat} {s : RS σ} {st : St} {g : τ} {rc : Int → St → τ → Int × τ} {ρ : σ → τ → Prop}
end
section
variable {ps : List Pkt} {classes len : Nat} {B : Int} {st : St}
end
end Go.Proofs.YtmidibkljoaoiaaGreatDoor.M

/- Priorities, plain: the choice of the program and of the reference. No condition. -/
namespace Go.Proofs.YtmidibkljoaoiaaGreatDoor.M
open Go Go.Proofs.YtmidibkljoaoiaaGreatDoor.K

section
variable {ps : List Pkt} {n : Nat}
end
end Go.Proofs.YtmidibkljoaoiaaGreatDoor.M

/- Deficit round robin, plain: the choice, that it ends, and what every run keeps. No condition. -/
namespace Go.Proofs.YtmidibkljoaoiaaGreatDoor.M
open Go Go.Proofs.YtmidibkljoaoiaaGreatDoor.K

def grant (nx : Int → Int) (w : List Int) (c : Nat) (b : Bool) (d : List Int) : List Int := if 0 ≤ nx c ∧ b = false then d.set c (nth d c + nth w c) else d
def drop0 (nx : Int → Int) (c : Nat) (d : List Int) : List Int := if nx c < 0 then d.set c 0 else d
/-- the deficits' bounds -/
def DOk (n c : Nat) (b : Bool) (d : List Int) : Prop := c < n ∧ d.length = n ∧ ∀ i, i < n → 0 ≤ nth d i ∧ nth d i ≤ (if i = c ∧ b = true then 7499 else 1499)
def dist (n j c : Nat) : Nat := if c ≤ j then j - c else j + n - c
/-- how far a waiting class is -/
def far (n j c : Nat) (b : Bool) (d : List Int) : Nat := n * (1500 - nth d j).toNat + (if c = j ∧ b = true then n else dist n j c)
def DSoon (nx : Int → Int) (n k c : Nat) (b : Bool) (d : List Int) : Prop := ∃ j, j < n ∧ 0 ≤ nx (j : Int) ∧ far n j c b d < k
section
variable {nx sz : Int → Int} {w : List Int}
theorem grant_len (c : Nat) (b : Bool) (d : List Int) : (grant nx w c b d).length = d.length := by unfold grant; split <;> simp
theorem drop0_len (c : Nat) (d : List Int) : (drop0 nx c d).length = d.length := by unfold drop0; split <;> simp
theorem grant_ne {c i : Nat} {b : Bool} {d : List Int} (h : i ≠ c) : nth (grant nx w c b d) i = nth d i := by
 unfold grant; split
 ·rw [nth_set_ne (Ne.symm h)]
 ·rfl
theorem grant_self {c : Nat} {b : Bool} {d : List Int} (h : c < d.length) : nth (grant nx w c b d) c = (if 0 ≤ nx c ∧ b = false then nth d c + nth w c else nth d c) := by
 unfold grant; split
 ·rw [nth_set_self h]
 ·rfl
theorem drop0_ne {c i : Nat} {d : List Int} (h : i ≠ c) : nth (drop0 nx c d) i = nth d i := by
 unfold drop0; split
 ·rw [nth_set_ne (Ne.symm h)]
 ·rfl
theorem drop0_self {c : Nat} {d : List Int} (h : c < d.length) : nth (drop0 nx c d) c = (if nx c < 0 then 0 else nth d c) := by
 unfold drop0; split
 ·rw [nth_set_self h]
 ·rfl
theorem mod_succ {n c : Nat} (hc : c < n) : (c + 1) % n = if c + 1 < n then c + 1 else 0 := by
 split
 ·rename_i h; exact Nat.mod_eq_of_lt h
 ·rw [show c + 1 = n by omega, Nat.mod_self]
/-- what is granted stays within its bounds -/
theorem DOk.grant (hw : ∀ x ∈ w, 1 ≤ x ∧ x ≤ 6000) {c : Nat} {b : Bool} {d : List Int} (h : DOk w.length c b d) : ∀ i, i < w.length → 0 ≤ nth (grant nx w c b d) i ∧ nth (M.grant nx w c b d) i ≤ (if i = c then 7499 else 1499) := by
 obtain ⟨h1, h2, h3⟩ := h
 intro i hi
 have a := h3 i hi
 by_cases e : i = c
 ·subst e
  rw [grant_self (by omega), if_pos rfl]
  have := hw _ (nth_mem hi)
  split
  ·rename_i hh
   rw [if_neg (by rw [hh.2]; simp)] at a
   omega
  ·split at a <;> omega
 ·rw [grant_ne e, if_neg e]
  rw [if_neg (fun hh => e hh.1)] at a
  exact a
theorem DOk.next (hw : ∀ x ∈ w, 1 ≤ x ∧ x ≤ 6000) {c : Nat} (hsz : 0 ≤ nx c → sz (nx c) ≤ 1500) {b : Bool} {d : List Int} (h : DOk w.length c b d) (hno : ¬ (0 ≤ nx c ∧ sz (nx c) ≤ nth (M.grant nx w c b d) c)) :
  DOk w.length ((c + 1) % w.length) false (drop0 nx c (M.grant nx w c b d)) := by
 have hg := h.grant (nx := nx) hw
 obtain ⟨h1, h2, h3⟩ := h
 refine ⟨Nat.mod_lt _ (by omega), by rw [drop0_len, grant_len]; exact h2, fun i hi => ?_⟩
 rw [if_neg (by simp)]
 have a := hg i hi
 by_cases e : i = c
 ·subst e
  rw [drop0_self (by rw [grant_len]; omega)]
  split
  ·omega
  ·rename_i h0
   have : ¬ sz (nx i) ≤ nth (M.grant nx w i b d) i := fun hh => hno ⟨by omega, hh⟩
   have := hsz (by omega)
   omega
 ·rw [drop0_ne e]
  rw [if_neg e] at a; exact a
theorem DOk.pick (hw : ∀ x ∈ w, 1 ≤ x ∧ x ≤ 6000) {c : Nat} (hsz : 1 ≤ sz (nx c)) {b : Bool} {d : List Int} (h : DOk w.length c b d) (hy : sz (nx c) ≤ nth (M.grant nx w c b d) c) :
  DOk w.length c true ((M.grant nx w c b d).set c (nth (M.grant nx w c b d) c - sz (nx c))) := by
 have hg := h.grant (nx := nx) hw
 obtain ⟨h1, h2, h3⟩ := h
 refine ⟨h1, by rw [List.length_set, grant_len]; exact h2, fun i hi => ?_⟩
 have a := hg i hi
 by_cases e : i = c
 ·subst e
  rw [nth_set_self (by rw [grant_len]; omega), if_pos ⟨rfl, rfl⟩]
  rw [if_pos rfl] at a
  omega
 ·rw [nth_set_ne (Ne.symm e), if_neg (fun hh => e hh.1)]
  rw [if_neg e] at a; exact a
theorem DSoon.step (hw : ∀ x ∈ w, 1 ≤ x ∧ x ≤ 6000) {k c : Nat} (hsz : 0 ≤ nx c → sz (nx c) ≤ 1500) {b : Bool} {d : List Int} (hd : DOk w.length c b d) (h : DSoon nx w.length (k + 1) c b d) (hno : ¬ (0 ≤ nx c ∧ sz (nx c) ≤ nth (M.grant nx w c b d) c)) :
  DSoon nx w.length k ((c + 1) % w.length) false (drop0 nx c (M.grant nx w c b d)) := by
 obtain ⟨h1, h2, h3⟩ := hd
 obtain ⟨j, j1, j2, j3⟩ := h
 refine ⟨j, j1, j2, ?_⟩
 have hlen : c < (M.grant nx w c b d).length := by rw [grant_len]; omega
 unfold far at j3 ⊢
 rw [if_neg (by simp)]
 by_cases e : c = j
 ·subst e
  have hno : ¬ sz (nx c) ≤ nth (M.grant nx w c b d) c := fun hh => hno ⟨j2, hh⟩
  have := hsz j2
  have hdist : dist w.length c ((c + 1) % w.length) ≤ w.length - 1 := by
   rw [mod_succ h1]; unfold dist; split <;> split <;> omega
  rw [drop0_self hlen, if_neg (by omega)]
  rw [grant_self (by omega)] at hno ⊢
  cases b with
  | true =>
   rw [if_neg (by simp)] at hno ⊢
   rw [if_pos ⟨rfl, rfl⟩] at j3
   omega
  | false =>
   rw [if_pos ⟨j2, rfl⟩] at hno ⊢
   rw [if_neg (by simp)] at j3
   have hwj := hw _ (nth_mem h1)
   have hdj := h3 c h1
   obtain ⟨r, hr⟩ : ∃ r, (1500 - nth d c).toNat = r + 1 := ⟨(1500 - nth d c).toNat - 1, by omega⟩
   have hle : (1500 - (nth d c + nth w c)).toNat ≤ r := by omega
   have hm := Nat.mul_le_mul_left w.length hle
   rw [hr, Nat.mul_add, Nat.mul_one] at j3
   omega
 ·rw [if_neg (fun hh => e hh.1)] at j3
  rw [drop0_ne (Ne.symm e), grant_ne (Ne.symm e)]
  have hdist : dist w.length j ((c + 1) % w.length) + 1 ≤ dist w.length j c := by
   rw [mod_succ h1]; unfold dist; split <;> split <;> split <;> omega
  omega
end
section
variable {ps : List Pkt} {w : List Int} {ms : MS} {s : Nat × Bool × List Int}
end
end Go.Proofs.YtmidibkljoaoiaaGreatDoor.M

/- Time slots, plain: the choice of the program and of the reference. No condition. -/
namespace Go.Proofs.YtmidibkljoaoiaaGreatDoor.M
open Go Go.Proofs.YtmidibkljoaoiaaGreatDoor.K

def slotT (tb : List Int) (t : Nat) : Int := nth tb (t % tb.length)
section
variable {ps : List Pkt} {cap : Int} {tb : List Int} {ms : MS} {st : St}
end
end Go.Proofs.YtmidibkljoaoiaaGreatDoor.M

/- Lines with any of the schedulers, plain: what is right, what a run sends. No condition. -/
namespace Go.Proofs.YtmidibkljoaoiaaGreatDoor.M
open Go Go.Proofs.YtmidibkljoaoiaaGreatDoor.K
/-- a line -/
structure Ln where
  kind : Int
  cap : Int
  n : Int
  w : List Int
  tb : List Int
def withinB (l : List Int) (lo hi : Int) : Bool := l.all fun x => decide (lo ≤ x) && decide (x ≤ hi)
def outB (lo hi x : Int) : Bool := decide (x < lo) || decide (hi < x)
def listsE (b : Bool) (rows : List (List Int)) : Int := if b = false then 2 else if rows.any (fun r => decide (0 < r.length)) = true then 6 else 0
theorem within_find {l : List Int} {lo hi : Int} : (!decide (0 ≤ findN (fun i => outB lo hi (nth l i)) l.length)) = withinB l lo hi := by
 rcases findN_cases (fun i => outB lo hi (nth l i)) l.length with ⟨i, h1, h2, h3, h4⟩ | ⟨h1, h2⟩
 ·rw [h2]
  have : withinB l lo hi = false := by
   apply Bool.eq_false_iff.2
   intro hh
   unfold withinB at hh
   rw [List.all_eq_true] at hh
   have := hh _ (nth_mem h1)
   simp only [outB, Bool.or_eq_true, decide_eq_true_eq, Bool.and_eq_true] at h3 this
   omega
  rw [this]; simp
 ·rw [h1]
  have : withinB l lo hi = true := by
   unfold withinB
   rw [List.all_eq_true]
   intro x hx
   obtain ⟨i, hi, rfl⟩ := List.getElem_of_mem hx
   have := h2 i hi
   rw [show nth l i = l[i] by unfold nth List.getD; rw [List.getElem?_eq_getElem hi]; rfl] at this
   simp only [outB, Bool.or_eq_false_iff, decide_eq_false_iff_not] at this
   simp only [Bool.and_eq_true, decide_eq_true_eq]; omega
  rw [this]; rfl
/-- the first error of the lists -/
def lchkL (L : Ln) : Int :=
  if L.kind = 3 then listsE (decide ((L.w.length : Int) = L.n) && withinB L.w 1 20) [L.tb]
  else if L.kind = 4 then listsE (decide ((L.w.length : Int) = L.n) && withinB L.w 1 6000) [L.tb]
  else if L.kind = 5 then listsE (decide (1 ≤ (L.tb.length : Int)) && decide ((L.tb.length : Int) ≤ 40) && withinB L.tb (-1) (L.n - 1)) [L.w]
  else listsE true [L.w, L.tb]
def chkL (L : Ln) : Int := if L.kind < 1 ∨ 5 < L.kind then 9 else if L.cap < 1 ∨ 4000 < L.cap ∨ L.n < 1 ∨ 6 < L.n then 2 else lchkL L
theorem chk_facts {L : Ln} (h : chkL L = 0) : (1 ≤ L.kind ∧ L.kind ≤ 5) ∧ 1 ≤ L.cap ∧ L.cap ≤ 4000 ∧ 1 ≤ L.n ∧ L.n ≤ 6 ∧ lchkL L = 0 := by
 unfold chkL at h
 split at h
 ·omega
 ·split at h
  ·omega
  ·exact ⟨by omega, by omega, by omega, by omega, by omega, h⟩
theorem lists_zero {b : Bool} {rows : List (List Int)} (h : listsE b rows = 0) : b = true ∧ ∀ r ∈ rows, r = [] := by
 unfold listsE at h
 split at h
 ·omega
 ·rename_i hb
  split at h
  ·omega
  ·rename_i hr
   refine ⟨by simpa using hb, fun r hr2 => ?_⟩
   have := mt List.any_eq_true.2 hr
   cases r with
   | nil => rfl
   | cons x xs => exact absurd ⟨_, hr2, by simp⟩ this
theorem chk_rob {L : Ln} (h : chkL L = 0) (hk : L.kind = 3) : (L.w.length : Int) = L.n ∧ withinB L.w 1 20 = true ∧ L.tb = [] := by
 have := (chk_facts h).2.2.2.2.2
 unfold lchkL at this
 rw [if_pos hk] at this
 obtain ⟨h1, h2⟩ := lists_zero this
 simp only [Bool.and_eq_true, decide_eq_true_eq] at h1
 exact ⟨h1.1, h1.2, h2 _ (by simp)⟩
theorem chk_def {L : Ln} (h : chkL L = 0) (hk : L.kind = 4) : (L.w.length : Int) = L.n ∧ withinB L.w 1 6000 = true ∧ L.tb = [] := by
 have := (chk_facts h).2.2.2.2.2
 unfold lchkL at this
 rw [if_neg (by omega), if_pos hk] at this
 obtain ⟨h1, h2⟩ := lists_zero this
 simp only [Bool.and_eq_true, decide_eq_true_eq] at h1
 exact ⟨h1.1, h1.2, h2 _ (by simp)⟩
theorem chk_times {L : Ln} (h : chkL L = 0) (hk : L.kind = 5) : (1 ≤ L.tb.length ∧ L.tb.length ≤ 40) ∧ withinB L.tb (-1) (L.n - 1) = true ∧ L.w = [] := by
 have := (chk_facts h).2.2.2.2.2
 unfold lchkL at this
 rw [if_neg (by omega), if_neg (by omega), if_pos hk] at this
 obtain ⟨h1, h2⟩ := lists_zero this
 simp only [Bool.and_eq_true, decide_eq_true_eq] at h1
 exact ⟨by omega, h1.2, h2 _ (by simp)⟩
/-- the lines that the laws draw -/
structure DrawOk (L : Ln) : Prop where
  cap : 3 ≤ L.cap ∧ L.cap ≤ 42
  n : L.n = 3
  kind : 1 ≤ L.kind ∧ L.kind ≤ 5
  plain : L.kind = 1 ∨ L.kind = 2 → L.w = [] ∧ L.tb = []
  rob : L.kind = 3 → L.w.length = 3 ∧ (∀ x ∈ L.w, 1 ≤ x ∧ x ≤ 3) ∧ L.tb = []
  defi : L.kind = 4 → L.w.length = 3 ∧ (∀ x ∈ L.w, 1 ≤ x ∧ x ≤ 50) ∧ L.tb = []
  slots : L.kind = 5 → L.w = [] ∧ 3 ≤ L.tb.length ∧ L.tb.length ≤ 6 ∧ ∀ x ∈ L.tb, -1 ≤ x ∧ x ≤ 2
theorem within_of {l : List Int} {lo hi : Int} (h : ∀ x ∈ l, lo ≤ x ∧ x ≤ hi) : withinB l lo hi = true := by
 unfold withinB
 rw [List.all_eq_true]
 intro x hx
 have := h x hx
 simp only [Bool.and_eq_true, decide_eq_true_eq]; exact this
theorem DrawOk.chk {L : Ln} (h : DrawOk L) : chkL L = 0 := by
 have h1 := h.cap
 have h2 := h.n
 have h3 := h.kind
 unfold chkL
 rw [if_neg (by omega), if_neg (by omega)]
 unfold lchkL
 by_cases k3 : L.kind = 3
 ·rw [if_pos k3]
  obtain ⟨a, b, c⟩ := h.rob k3
  rw [a, c, h2, within_of (fun x hx => by have := b x hx; omega)]; rfl
 ·rw [if_neg k3]
  by_cases k4 : L.kind = 4
  ·rw [if_pos k4]
   obtain ⟨a, b, c⟩ := h.defi k4
   rw [a, c, h2, within_of (fun x hx => by have := b x hx; omega)]; rfl
  ·rw [if_neg k4]
   by_cases k5 : L.kind = 5
   ·rw [if_pos k5]
    obtain ⟨a, b, c, d⟩ := h.slots k5
    rw [a, h2, within_of (fun x hx => by have := d x hx; omega)]
    have e1 : decide (1 ≤ (L.tb.length : Int)) = true := decide_eq_true (by omega)
    have e2 : decide ((L.tb.length : Int) ≤ 40) = true := decide_eq_true (by omega)
    rw [e1, e2]; rfl
   ·rw [if_neg k5]
    obtain ⟨a, b⟩ := h.plain (by omega)
    rw [a, b]; rfl
end Go.Proofs.YtmidibkljoaoiaaGreatDoor.M

/- What the reference asks of a line, plain. No condition. -/
namespace Go.Proofs.YtmidibkljoaoiaaGreatDoor.M
open Go Go.Proofs.YtmidibkljoaoiaaGreatDoor.K
theorem within_no {l : List Int} {lo hi : Int} {k : Nat} (hk : k < l.length) (h : nth l k < lo ∨ hi < nth l k) : withinB l lo hi = false := by
 apply Bool.eq_false_iff.2
 intro hh
 unfold withinB at hh
 rw [List.all_eq_true] at hh
 have := hh _ (nth_mem hk)
 simp only [decide_eq_true_eq, Bool.and_eq_true] at this
 omega
theorem within_yes {l : List Int} {lo hi : Int} (h : ∀ i, i < l.length → lo ≤ nth l i ∧ nth l i ≤ hi) : withinB l lo hi = true := by
 unfold withinB
 rw [List.all_eq_true]
 intro x hx
 obtain ⟨i, hi', rfl⟩ := List.getElem_of_mem hx
 have := h i hi'
 rw [show nth l i = l[i] by unfold nth List.getD; rw [List.getElem?_eq_getElem hi']; rfl] at this
 simp only [Bool.and_eq_true, decide_eq_true_eq]; omega
theorem lists_one {b : Bool} {r : List Int} : listsE b [r] = if b = false then 2 else if 0 < (r.length : Int) then 6 else 0 := by
 unfold listsE
 by_cases hb : b = false
 ·rw [if_pos hb, if_pos hb]
 ·rw [if_neg hb, if_neg hb]
  by_cases hr : 0 < r.length
  ·rw [if_pos (by simp [hr]), if_pos (by omega)]
  ·rw [if_neg (by simp [hr]), if_neg (by omega)]
theorem lists_two {b : Bool} {r s : List Int} : listsE b [r, s] = if b = false then 2 else if 0 < (r.length : Int) ∨ 0 < (s.length : Int) then 6 else 0 := by
 unfold listsE
 by_cases hb : b = false
 ·rw [if_pos hb, if_pos hb]
 ·rw [if_neg hb, if_neg hb]
  by_cases hr : 0 < r.length
  ·rw [if_pos (by simp [hr]), if_pos (.inl (by omega))]
  ·by_cases hs : 0 < s.length
   ·rw [if_pos (by simp [hs]), if_pos (.inr (by omega))]
   ·rw [if_neg (by simp [hr, hs]), if_neg (by omega)]
theorem chk_spec {L : Ln} {m : Int} (hm : (L.kind = 4 ∧ m = 6000) ∨ (L.kind ≠ 4 ∧ m = 20)) (h0 : 1 ≤ L.kind ∧ L.kind ≤ 5) (h1 : ((1 ≤ L.cap ∧ L.cap ≤ 4000) ∧ 1 ≤ L.n) ∧ L.n ≤ 6) :
  chkL L = if (L.kind = 3 ∨ L.kind = 4) ∧ (¬ (L.w.length : Int) = L.n ∨ withinB L.w 1 m = false) then 2 else if L.kind = 5 ∧ (((L.tb.length : Int) < 1 ∨ 40 < (L.tb.length : Int)) ∨ withinB L.tb (-1) (L.n - 1) = false) then 2 else if ((¬ L.kind = 3 ∧ ¬ L.kind = 4) ∧ 0 < (L.w.length : Int)) ∨ (¬ L.kind = 5 ∧ 0 < (L.tb.length : Int)) then 6 else 0 := by
 unfold chkL
 rw [if_neg (by omega), if_neg (by omega)]
 unfold lchkL
 by_cases k3 : L.kind = 3
 ·obtain rfl : m = 20 := by omega
  rw [if_pos k3, lists_one, k3]
  by_cases hl : (L.w.length : Int) = L.n <;> by_cases hw : withinB L.w 1 20 = false <;> simp [hl, hw]
 ·by_cases k4 : L.kind = 4
  ·obtain rfl : m = 6000 := by omega
   rw [if_neg k3, if_pos k4, lists_one, k4]
   by_cases hl : (L.w.length : Int) = L.n <;> by_cases hw : withinB L.w 1 6000 = false <;> simp [hl, hw]
  ·by_cases k5 : L.kind = 5
   ·rw [if_neg k3, if_neg k4, if_pos k5, lists_one, k5]
    by_cases hl : (L.tb.length : Int) < 1 <;> by_cases hl2 : 40 < (L.tb.length : Int) <;> by_cases hw : withinB L.tb (-1) (L.n - 1) = false <;> simp [hl, hl2, hw]
   ·rw [if_neg k3, if_neg k4, if_neg k5, lists_two]
    simp [k3, k4, k5]
theorem no_a {A B : Prop} {b : Bool} (h : A → B ∧ b = true) : ¬ (A ∧ (¬ B ∨ b = false)) := by
 rintro ⟨h1, h2 | h2⟩
 ·exact h2 (h h1).1
 ·rw [(h h1).2] at h2; cases h2
theorem no_b {A : Prop} {x : Int} {b : Bool} (h : A → (1 ≤ x ∧ x ≤ 40) ∧ b = true) : ¬ (A ∧ ((x < 1 ∨ 40 < x) ∨ b = false)) := by
 rintro ⟨h1, h2 | h2⟩
 ·have := (h h1).1; omega
 ·rw [(h h1).2] at h2; cases h2
theorem no_c {A B C : Prop} {x y : Int} (h : (¬ A ∧ ¬ B → x ≤ 0) ∧ (¬ C → y ≤ 0)) : ¬ (((¬ A ∧ ¬ B) ∧ 0 < x) ∨ (¬ C ∧ 0 < y)) := by
 rintro (⟨h1, h2⟩ | ⟨h1, h2⟩)
 ·have := h.1 h1; omega
 ·have := h.2 h1; omega
end Go.Proofs.YtmidibkljoaoiaaGreatDoor.M

/- Lines in memory. No condition. -/
namespace Go.Proofs.YtmidibkljoaoiaaGreatDoor.M
open Go Go.Proofs.YtmidibkljoaoiaaGreatDoor.K
/-- a line in memory -/
structure LnM where
  a1 : Option Addr
  c1 : Nat
  a2 : Option Addr
  c2 : Nat
  L : Ln
instance instLnM : Inhabited LnM := ⟨⟨none, 0, none, 0, ⟨0, 0, 0, [], []⟩⟩⟩
def encLn (m : LnM) : List Value := [.int .i64 m.L.kind, .int .i64 m.L.cap, .int .i64 m.L.n, .slice m.a1 m.L.w.length m.c1, .slice m.a2 m.L.tb.length m.c2]
def OkLn (R : Ro) (m : LnM) : Prop := K.RS R 1 encI m.a1 m.L.w ∧ K.RS R 1 encI m.a2 m.L.tb
theorem OkLn.mono {R R' : Ro} {m : LnM} (h : OkLn R m) (hR : RLe R R') : OkLn R' m := ⟨h.1.mono hR, h.2.mono hR⟩
end Go.Proofs.YtmidibkljoaoiaaGreatDoor.M

/- Lines, opened: from the data of a row to what the walks know of memory. No condition. -/
namespace Go.Proofs.YtmidibkljoaoiaaGreatDoor.K
open Go Go.RowKit Go.ChangeShapes Go.WideShapes Go.ChangeAt Go.WideElems Go.Maps Go.Proofs.YtmidibkljoaoiaaGreatDoor.M
section
variable {H : Type} {enc : TypeId × Value → H} {P : Program}
theorem opn_line {t ts ti : Nat} {f0 f1 f2 f3 f4 : Field} (ht : P.underlying t = some (.struct #[f0, f1, f2, f3, f4])) (hc : P.cellsOf t = 5) (t0 : f0.type = ti) (t1 : f1.type = ti) (t2 : f2.type = ti) (t3 : f3.type = ts) (t4 : f4.type = ts) (cs : P.cellsOf ts = 1) (ci : P.cellsOf ti = 1)
  (o0 : f0.offset = 0) (o1 : f1.offset = 1) (o2 : f2.offset = 2) (o3 : f3.offset = 3) (o4 : f4.offset = 4) (us : P.underlying ts = some (.slice ti)) (ui : P.underlying ti = some (.int .i64)) : Opn enc P t 5 encLn OkLn := by
 have hs := opn_slice (α := Int) (enc := enc) us (by decide) ci (opn_int ui)
 refine ⟨fun z => rfl, fun W spare fuel cells x h => ?_⟩
 obtain ⟨xs, n, _, rfl, hl, hlen, hf⟩ := DataW.trod_struct ht h
 rw [hc] at hl
 match cells, hl with
 | [c0, c1, c2, c3, c4], _ =>
  match xs, hlen with
  | [y0, y1, y2, y3, y4], _ =>
   have g0 := hf 0 f0 rfl
   have g1 := hf 1 f1 rfl
   have g2 := hf 2 f2 rfl
   have g3 := hf 3 f3 rfl
   have g4 := hf 4 f4 rfl
   rw [t0, ci, o0] at g0
   rw [t1, ci, o1] at g1
   rw [t2, ci, o2] at g2
   rw [t3, cs, o3] at g3
   rw [t4, cs, o4] at g4
   obtain ⟨z0, q0, _⟩ := (opn_int ui).2 _ _ _ _ _ g0
   obtain ⟨z1, q1, _⟩ := (opn_int ui).2 _ _ _ _ _ g1
   obtain ⟨z2, q2, _⟩ := (opn_int ui).2 _ _ _ _ _ g2
   obtain ⟨s3, q3, r3⟩ := hs.2 _ _ _ _ _ g3
   obtain ⟨s4, q4, r4⟩ := hs.2 _ _ _ _ _ g4
   refine ⟨⟨s3.a, s3.cap, s4.a, s4.cap, ⟨z0, z1, z2, s3.xs, s4.xs⟩⟩, ?_, r3.1, r4.1⟩
   unfold encLn
   simp only [encI, encSl, List.drop, List.take, List.cons.injEq, and_true] at q0 q1 q2 q3 q4
   rw [q0, q1, q2, q3, q4]
end
end Go.Proofs.YtmidibkljoaoiaaGreatDoor.K

/- A function made with any captured values. No condition. -/
namespace Go.Proofs.YtmidibkljoaoiaaGreatDoor.K
open Go Go.RowKit
variable {P : Program} {T : Tab} {n : Nat} {env : Env} {w0 : World} {R : Ro} {E : List Ent} {o : Oper} {pc p q : Bool}
theorem Yl.makeFunc {fn : Go.Fn} {fi ca : List Operand} {us vs : List Value} (ho : o.op = .makeFunc fn fi.toArray ca.toArray) (hf : evs env fi = some (p, us)) (hc : evs env ca = some (q, vs)) (hpq : pc = true → (p && q) = true) : Yl P n env w0 R E o pc (.func fn us.toArray vs.toArray) := by
 intro a w hk hm hpc
 obtain ⟨h1, h2⟩ := and_both (hpq hpc)
 have e1 := evs_ok hk hf h1
 have e2 := evs_ok hk hc h2
 have e3 : fi.toArray.map a.eval = us.toArray := by rw [← e1]; simp
 have e4 : ca.toArray.map a.eval = vs.toArray := by rw [← e2]; simp
 unfold execOp
 rw [ho]
 simp only [Instr.makeFunc]
 rw [e3, e4]
 rfl
/-- an owned slice lies within its room -/
theorem WL.cap {ops rest : List Oper} {Q : Exit → Act → World → Prop} {e : TypeId} {k : Nat} {a : Option Addr} {cap : Nat} {rows : List (List Value)} (i : Nat) (hE : E[i]? = some (.sl e k a cap rows)) (h : rows.length ≤ cap → WG false P ops Q rest n env w0 R E) : WG false P ops Q rest n env w0 R E := by
 intro ac w hk hm
 refine h ?_ ac w hk hm
 obtain ⟨g1, g2, h⟩ := own_sl hm (List.mem_of_getElem? hE)
 rcases h with ⟨_, h2, _⟩ | ⟨g, cur, _, _, _, hn, _⟩
 ·subst h2; exact Nat.zero_le _
 ·simpa using hn
theorem W.cap {c : Code} {Q : Exit → Act → World → Prop} {e : TypeId} {k : Nat} {a : Option Addr} {cap : Nat} {rows : List (List Value)} (i : Nat) (hE : E[i]? = some (.sl e k a cap rows)) (h : rows.length ≤ cap → W P c Q n env w0 R E) : W P c Q n env w0 R E := by
 intro ac w hk hm
 refine h ?_ ac w hk hm
 obtain ⟨g1, g2, h⟩ := own_sl hm (List.mem_of_getElem? hE)
 rcases h with ⟨_, h2, _⟩ | ⟨g, cur, _, _, _, hn, _⟩
 ·subst h2; exact Nat.zero_le _
 ·simpa using hn
theorem WS.callAt {ops : List Oper} {Q : Exit → Act → World → Prop} {ES : List Ent} {R0 : Ro} {fuel : Nat} {listed : Array Bool} {d : Nat} {f : FuncId} {vs : List Value} {e : Ent} {Post : Value → Ro → Ent → List Ent → Prop} (k : Nat) {i : Nat} (hi : ops.toArray[i]? = some o) (hf : Enters P f) (hg : o.guard = none) (hd : o.dst = some d) (hdn : d < n)
  (hc : CallOp env o.op true f vs) (hE : E[k]? = some e) (hv : Fn P f vs w0 R (e :: E.eraseIdx k) (fun v R' E' => ∃ e' N, E' = N ++ e' :: E.eraseIdx k ∧ Post v R' e' N))
  (h : ∀ v R' e' N, RLe R R' → Post v R' e' N → RLe R0 R' ∧ ES.Sublist (N ++ E.set k e') ∧ WA P ops Q ES R0 w0 fuel (listed.setIfInBounds i true) n ((d, true, v) :: env) R' (N ++ E.set k e')) : WS P ops Q ES R0 w0 fuel listed n env R E i := by
 intro a w hk hm
 unfold wpOp
 rw [hi]
 simp only [Region.wanted, hg, if_true]
 left
 unfold Oper.wp
 rw [run_call hk hc rfl hf]
 refine (hv w (hm.perm (perm_get hE))).mono ?_
 rintro e0 w' ⟨v, R', E', rfl, hR, hm', e', N, rfl, hp⟩
 obtain ⟨g1, g2, g3⟩ := h v R' e' N hR hp
 have hm2 := hm'.perm ((perm_set e' hE).append_left N)
 simp only [hd]
 exact ⟨hm2.sub g1 g2, g3 _ _ (hk.putT hdn v) hm2⟩
end Go.Proofs.YtmidibkljoaoiaaGreatDoor.K

/- The rules of the walks, over any program: a call that only reads the memory that is owned. No condition. -/
namespace Go.Proofs.YtmidibkljoaoiaaGreatDoor.K
open Go Go.RowKit

/-- a call that hands back this value and leaves this memory as it is -/
def FnE (P : Program) (f : FuncId) (args : List Value) (w0 : World) (R : Ro) (E : List Ent) (v : Value) : Prop :=
  ∀ w, Mem w0 w R E → Calls P f args.toArray w fun e w' => e = .returned v ∧ Mem w0 w' R E
section
variable {P : Program} {ops : List Oper} {Q : Exit → Act → World → Prop} {rest : List Oper} {n : Nat} {env : Env} {w0 : World} {R : Ro} {E : List Ent} {o : Oper} {pc q draw : Bool}
theorem Fn.toE {f : FuncId} {args : List Value} {v : Value} (h : Fn P f args w0 R E (fun v' _ E' => v' = v ∧ E' = E)) : FnE P f args w0 R E v := by
 intro w hm
 refine (h w hm).mono ?_
 rintro e w' ⟨v', R', E', rfl, hR, hm', rfl, rfl⟩
 exact ⟨rfl, hm'.sub hR (List.Sublist.refl _)⟩
theorem WG.callE {v : Value} {d : Nat} {f : FuncId} {vs : List Value} (hf : Enters P f) (hg : gpc ops env o = some pc) (hd : o.dst = some d) (hdn : d < n)
  (hc : CallOp env o.op q f vs) (hq : pc = true → q = true) (hv : pc = true → FnE P f vs w0 R E v)
  (h : WG draw P ops Q rest n ((d, pc, v) :: env) w0 R E) : WG draw P ops Q (o :: rest) n env w0 R E := by
 cases draw with
 | false =>
  intro a w hk hm
  refine wpList_step fun K hK => ?_
  rw [hk.wanted hg]
  have hput := hk.put hdn pc v
  cases pc with
  | true =>
   simp only [if_true, Oper.wp, run_call hk hc (hq rfl) hf, Oper.upon, hd]
   refine (hv rfl w hm).mono ?_
   rintro e w' ⟨rfl, hm'⟩
   exact hK _ _ (h _ _ (by simpa using hput) hm')
  | false =>
   simp only [Bool.false_eq_true, if_false, hd]
   exact hK _ _ (h _ _ (by simpa using hput) hm)
 | true =>
  intro a hk
  refine wpQuiet_step fun K hK => ?_
  rw [hk.wanted hg]
  have hput := hk.put hdn pc v
  cases pc with
  | true =>
   simp only [if_true]
   refine ⟨v, fun w hm => ?_, ?_⟩
   ·unfold Oper.quietAt
    rw [run_call hk hc (hq rfl) hf]
    exact ⟨rfl, hv rfl w hm⟩
   ·rw [hd]; exact hK _ (h _ (by simpa using hput))
  | false =>
   simp only [Bool.false_eq_true, if_false, hd]
   exact hK _ (h _ (by simpa using hput))
end
end Go.Proofs.YtmidibkljoaoiaaGreatDoor.K
namespace Go.Proofs.YtmidibkljoaoiaaGreatDoor.K
open Go Go.RowKit
section
variable {P : Program} {n : Nat} {env : Env} {w0 : World} {R : Ro} {E : List Ent} {o : Oper} {pc p q : Bool}
end
end Go.Proofs.YtmidibkljoaoiaaGreatDoor.K
namespace Go.Proofs.YtmidibkljoaoiaaGreatDoor.K
open Go Go.RowKit
section
variable {P : Program} {n : Nat} {env : Env} {w0 : World} {R : Ro} {E : List Ent} {o : Oper} {pc p q : Bool}
end
theorem RS.some {α : Type} {_i : Inhabited α} {R : Ro} {k : Nat} {enc : α → List Value} {a : Option Addr} {xs : List α} (h : RS (_i := _i) R k enc a xs) (hx : 0 < xs.length) : a.isNone = false := by
 rcases h.2.1 with h1 | ⟨b, off, cs, h1, _⟩
 ·rw [List.map_eq_nil_iff] at h1; rw [h1] at hx; simp at hx
 ·rw [h1]; rfl
end Go.Proofs.YtmidibkljoaoiaaGreatDoor.K

/- Rules: conversions of integers, arithmetic of uint64, equality of bools, of strings and of structs of two numbers, an interface against nil, strings joined. No condition. -/
namespace Go.Proofs.YtmidibkljoaoiaaGreatDoor.K
open Go Go.RowKit

section
variable {P : Program} {T : Tab} {n : Nat} {env : Env} {w0 : World} {R : Ro} {E : List Ent} {o : Oper} {pc p q : Bool}

theorem Yl.conv {src dst : TypeId} {x : Operand} {k k' : IntKind} {a b : Int} {d d2 : TD} (hT : TabOk P T) (ho : o.op = .convert src dst x) (hd : T.at src = some d) (hk : d.k = .int k) (hd2 : T.at dst = some d2) (hk2 : d2.k = .int k') (hx : ev env x = some (p, .int k a))
  (hpq : pc = true → p = true) (hr : pc = true → k'.wrap a = b) : Yl P n env w0 R E o pc (.int k' b) := by
 intro ac w hkn hm hp
 have h1 := hT.int hd hk
 have h2 := hT.int hd2 hk2
 unfold execOp
 simp [ho, hkn.ev hx (hpq hp), convert, run_underlying h1, run_underlying h2, Conv.intToInt, hr hp]
theorem Yl.convId {src dst : TypeId} {x : Operand} {k k' : IntKind} {a : Int} {d d2 : TD} (hT : TabOk P T) (ho : o.op = .convert src dst x) (hd : T.at src = some d) (hk : d.k = .int k) (hd2 : T.at dst = some d2) (hk2 : d2.k = .int k') (hx : ev env x = some (p, .int k a))
  (hpq : pc = true → p = true) (hr : pc = true → k'.wrap a = a) : Yl P n env w0 R E o pc (.int k' a) := Yl.conv hT ho hd hk hd2 hk2 hx hpq hr

theorem u64_id {x : Int} (h : 0 ≤ x ∧ x ≤ 18446744073709551615) : IntKind.u64.wrap x = x := by rw [IntKind.wrap_u64]; omega
theorem u8_id {x : Int} (h : 0 ≤ x ∧ x ≤ 255) : IntKind.u8.wrap x = x := by simp [IntKind.wrap, IntKind.bits, IntKind.signed]; omega
/-- the quotient as Go has it -/
theorem Yl.tdiv {t t' x y} {a b : Int} (ho : o.op = .binOp .quo t x y t') (hx : ev env x = some (p, .int .i64 a)) (hy : ev env y = some (q, .int .i64 b))
  (hpq : pc = true → (p && q) = true) (hb : pc = true → b ≠ 0) (hr : pc = true → InR (a.tdiv b)) : Yl P n env w0 R E o pc (.int .i64 (a.tdiv b)) := by
 intro ac w hk hm hp
 obtain ⟨h1, h2⟩ := and_both (hpq hp)
 have hb := hb hp
 have e4 := i64_wrap (hr hp)
 unfold execOp
 simp [ho, hk.ev hx h1, hk.ev hy h2, eqGuard, binOp, Op.intDiv, hb, e4]
theorem str_beq (a b : ByteArray) : (a.toList == b.toList) = decide (a = b) := by
 by_cases h : a = b
 ·subst h; simp
 ·have h2 : a.toList ≠ b.toList := fun h' => h (by
   rw [ByteArray.toList_eq, ByteArray.toList_eq] at h'
   cases a; cases b
   rename_i x y
   obtain ⟨x⟩ := x
   obtain ⟨y⟩ := y
   exact congrArg (fun z => ByteArray.mk (Array.mk z)) h')
  rw [decide_eq_false h]
  exact beq_eq_false_iff_ne.2 h2
theorem Yl.eqS {t t' x y} {a b : ByteArray} (ho : o.op = .binOp .eql t x y t') (hx : ev env x = some (p, .string a)) (hy : ev env y = some (q, .string b))
  (hpq : pc = true → (p && q) = true) : Yl P n env w0 R E o pc (.bool (decide (a = b))) := by
 intro ac w hkn hm hp
 obtain ⟨h1, h2⟩ := and_both (hpq hp)
 unfold execOp
 simp [ho, hkn.ev hx h1, hkn.ev hy h2, eqGuard, binOp, Op.stringOp, str_beq]
theorem Yl.neS {t t' x y} {a b : ByteArray} (ho : o.op = .binOp .neq t x y t') (hx : ev env x = some (p, .string a)) (hy : ev env y = some (q, .string b))
  (hpq : pc = true → (p && q) = true) : Yl P n env w0 R E o pc (.bool (!decide (a = b))) := by
 intro ac w hkn hm hp
 obtain ⟨h1, h2⟩ := and_both (hpq hp)
 unfold execOp
 simp [ho, hkn.ev hx h1, hkn.ev hy h2, eqGuard, binOp, Op.stringOp, str_beq]
theorem Yl.cat {t t' x y} {a b : ByteArray} (ho : o.op = .binOp .add t x y t') (hx : ev env x = some (p, .string a)) (hy : ev env y = some (q, .string b))
  (hpq : pc = true → (p && q) = true) (hr : pc = true → a.size + b.size ≤ 9223372036854775807) : Yl P n env w0 R E o pc (.string (a ++ b)) := by
 intro ac w hkn hm hp
 obtain ⟨h1, h2⟩ := and_both (hpq hp)
 unfold execOp
 simp [ho, hkn.ev hx h1, hkn.ev hy h2, eqGuard, binOp, run_string_add_sum w a b (hr hp)]
/-- structs of two numbers -/
def Duo (P : Program) (t : TypeId) : Prop := ∃ f g : Field, P.underlying t = some (.struct #[f, g]) ∧ P.stoodInHeld t = false ∧ P.eqGuardType P.depth t = false ∧ f.name ≠ "_" ∧ g.name ≠ "_" ∧ f.offset = 0 ∧ g.offset = 1 ∧ (∃ k, P.underlying f.type = some (.int k)) ∧ (∃ k, P.underlying g.type = some (.int k)) ∧ (∀ (xs : Array Value) (w : World) (v : Value), xs[0]? = some v → (part f.type xs 0).run P w = .ok v w) ∧ (∀ (xs : Array Value) (w : World) (v : Value), xs[1]? = some v → (part g.type xs 1).run P w = .ok v w)
theorem duo_eql {t : TypeId} (h : Duo P t) (w : World) (a b c e : Int) : (Op.equalIn 10000 t (.agg #[.int .i64 a, .int .i64 b]) (.agg #[.int .i64 c, .int .i64 e])).run P w = .ok (decide (a = c ∧ b = e)) w := by
 obtain ⟨f, g, hu, hs, _, hf, hg, of, og, ⟨k1, uf⟩, ⟨k2, ug⟩, pf, pg⟩ := h
 have hfo : P.fieldsOf t = #[f, g] := by unfold Program.fieldsOf; rw [hu]
 rw [run_equalIn_struct w 9999 t _ _ (by rw [hfo]; exact hu) hs, hfo]
 simp only [Op.eqFields, if_pos hf, if_pos hg, of, og, Sem.run_bind, pf _ _ _ (show (#[Value.int .i64 a, .int .i64 b])[0]? = some (.int .i64 a) from rfl), pf _ _ _ (show (#[Value.int .i64 c, .int .i64 e])[0]? = some (.int .i64 c) from rfl),
  pg _ _ _ (show (#[Value.int .i64 a, .int .i64 b])[1]? = some (.int .i64 b) from rfl), pg _ _ _ (show (#[Value.int .i64 c, .int .i64 e])[1]? = some (.int .i64 e) from rfl), Result.andThen_ok, run_equalIn_int w 9998 f.type .i64 k1 a c uf, run_equalIn_int w 9998 g.type .i64 k2 b e ug, Sem.run_ite, Sem.run_pure]
 by_cases h1 : a = c <;> by_cases h2 : b = e <;> simp [h1, h2]
theorem Yl.eqDuo {t t' x y} {a b c e : Int} (h : Duo P t) (ho : o.op = .binOp .eql t x y t') (hx : ev env x = some (p, .agg #[.int .i64 a, .int .i64 b])) (hy : ev env y = some (q, .agg #[.int .i64 c, .int .i64 e]))
  (hpq : pc = true → (p && q) = true) : Yl P n env w0 R E o pc (.bool (decide (a = c ∧ b = e))) := by
 intro ac w hkn hm hp
 obtain ⟨h1, h2⟩ := and_both (hpq hp)
 have hg : P.eqGuardType P.depth t = false := by obtain ⟨_, _, _, _, h, _⟩ := h; exact h
 unfold execOp
 have e2 := duo_eql h w a b c e
 generalize decide (a = c ∧ b = e) = r at e2 ⊢
 have e3 := run_eqGuard_agg w .eql t x y #[.int .i64 a, .int .i64 b] #[.int .i64 c, .int .i64 e] hg
 have e4 := run_eql_struct (P := P) w t #[.int .i64 a, .int .i64 b] #[.int .i64 c, .int .i64 e]
 rw [e2] at e4
 rw [ho]
 simp only [hkn.ev hx h1, hkn.ev hy h2, Sem.run_bind, e3, e4, Result.andThen_ok]
 rfl
/-- an interface against nil -/
theorem Yl.neNilI {t t' x y} {v : Value} {r : Bool} (hu : P.underlying t = some (.interface (P.methodsAt t))) (ho : o.op = .binOp .neq t x y t') (hc : y = .const .nilIface) (hx : ev env x = some (p, v))
  (hpq : pc = true → p = true) (hv : (v = .nilIface ∧ r = false) ∨ ((∃ u z, v = .iface u z) ∧ r = true)) : Yl P n env w0 R E o pc (.bool r) := by
 intro ac w hkn hm hp
 subst hc
 have hy : ac.eval (.const .nilIface) = .nilIface := rfl
 unfold execOp
 rcases hv with ⟨rfl, rfl⟩ | ⟨⟨u, z, rfl⟩, rfl⟩
 ·have e := run_equal_nil_nil w t hu
  simp [ho, hkn.ev hx (hpq hp), hy, eqGuard, binOp, e]
 ·have e := run_equal_held_nil w t u z hu
  simp [ho, hkn.ev hx (hpq hp), hy, eqGuard, binOp, e]
end
end Go.Proofs.YtmidibkljoaoiaaGreatDoor.K

/- What the library's contracts leave of memory; strings as lists of bytes. No condition. -/
namespace Go.Proofs.YtmidibkljoaoiaaGreatDoor.K
open Go Go.RowKit

theorem Mem.belowAll {w0 w w' : World} {R : Ro} {E : List Ent} (h : Mem w0 w R E) (hb : Below w.heap.size w w') : Mem w0 w' R E :=
 ⟨h.below.trans (hb.mono h.below.size), fun b cs hr => by
  obtain ⟨T, fz, h1⟩ := h.ro b cs hr
  exact ⟨T, fz, by rw [hb.block b (h.ro_lt hr)]; exact h1⟩, fun e he => Ent.ok_of_block (h.own e he) (fun b hbk => hb.block b (h.lt he hbk)), h.disj, h.nodup⟩
theorem below_drewN (w : World) (n : Nat) : Below w.heap.size w (w.drewN n) := ⟨rfl, rfl, rfl, Nat.le_refl _, fun _ _ => rfl⟩
theorem FnV.of {P : Program} {f : FuncId} {args : List Value} {R : Ro} {v : Value} (h : ∀ w0 E w, Mem w0 w R E → Calls P f args.toArray w fun e w' => e = .returned v ∧ Below w.heap.size w w') : FnV P f args R v := by
 intro w0 E w hm
 refine (h w0 E w hm).mono ?_
 rintro e w' ⟨rfl, hb⟩
 exact ⟨rfl, hm.belowAll hb⟩
theorem Mem.cell {w0 w : World} {R : Ro} {E : List Ent} (h : Mem w0 w R E) {b : Nat} {v : Value} {rest : List Value} (hr : R b = some (v :: rest)) : w.cell? ⟨b, 0, none⟩ = some v := by
 obtain ⟨T, fz, h1⟩ := h.ro b _ hr
 unfold World.cell?
 simp [h1]
/-- a string of these bytes -/
def str (l : List UInt8) : ByteArray := ⟨l.toArray⟩
theorem str_append (a b : List UInt8) : str a ++ str b = str (a ++ b) := by
 unfold str
 apply ByteArray.ext
 simp
theorem str_inj {a b : List UInt8} (h : str a = str b) : a = b := by
 have := congrArg (fun x : ByteArray => x.data.toList) h
 simpa [str] using this
theorem str_size (a : List UInt8) : (str a).size = a.length := by simp [str, ByteArray.size]
theorem str_of (s : ByteArray) : s = str s.data.toList := by unfold str; apply ByteArray.ext; simp
theorem decDigits_le (u : Nat) : (Lib.decDigits u).length ≤ u + 1 := by
 induction u using Nat.strongRecOn with
 | _ u ih =>
  rw [Lib.decDigits]
  split
  ·simp
  ·have := ih (u / 10) (by omega)
   simp only [List.length_append, List.length_cons, List.length_nil]
   omega
end Go.Proofs.YtmidibkljoaoiaaGreatDoor.K

/- Rules: strings as lists of bytes: a byte, parts, and arithmetic of bytes. No condition. -/
namespace Go.Proofs.YtmidibkljoaoiaaGreatDoor.K
open Go Go.RowKit

def byteAt (l : List UInt8) (i : Nat) : Int := ((l.getD i 0).toNat : Int)
theorem byteAt_range (l : List UInt8) (i : Nat) : 0 ≤ byteAt l i ∧ byteAt l i ≤ 255 := by
 have := (l.getD i 0).toNat_lt
 unfold byteAt; omega
theorem str_get (l : List UInt8) (i : Nat) (h : i < (str l).size) : (str l)[i] = l.getD i 0 := by
 have h2 : i < l.length := by rw [str_size] at h; exact h
 show l.toArray[i]'(by simpa using h2) = l.getD i 0
 rw [List.getD_eq_getElem?_getD, List.getElem?_eq_getElem h2]
 simp
theorem str_extract (l : List UInt8) (a b : Nat) : (str l).extract a b = str ((l.take b).drop a) := by
 apply ByteArray.ext
 have : ((str l).extract a b).data = (str l).data.extract a b := by simp
 rw [this]
 apply Array.ext'
 simp [str, List.extract_eq_take_drop, List.drop_take]
section
variable {P : Program} {T : Tab} {n : Nat} {env : Env} {w0 : World} {R : Ro} {E : List Ent} {o : Oper} {pc p q r : Bool}
theorem Yl.sidx {t : TypeId} {x y : Operand} {l : List UInt8} {i : Int} {d : TD} (hT : TabOk P T) (ho : o.op = .index t x y) (hd : T.at t = some d) (hk : d.k = .str) (hx : ev env x = some (p, .string (str l))) (hy : ev env y = some (q, .int .i64 i))
  (hpq : pc = true → (p && q) = true) (hi : pc = true → 0 ≤ i ∧ i < l.length) : Yl P n env w0 R E o pc (.int .u8 (byteAt l i.toNat)) := by
 intro ac w hkn hm hp
 obtain ⟨h1, h2⟩ := and_both (hpq hp)
 have hi := hi hp
 have hsz := str_size l
 have e := run_index_string (P := P) w t (str l) .i64 i (hT.str hd hk)
 rw [dif_pos (show 0 ≤ i ∧ i < ((str l).size : Int) by omega), str_get] at e
 unfold execOp
 simp [ho, hkn.ev hx h1, hkn.ev hy h2, e, byteAt]
theorem Yl.sliceSH {t : TypeId} {x h : Operand} {l : List UInt8} {i : Int} {d : TD} (hT : TabOk P T) (ho : o.op = .slice t x none (some h) none) (hd : T.at t = some d) (hk : d.k = .str) (hx : ev env x = some (p, .string (str l))) (hh : ev env h = some (q, .int .i64 i))
  (hpq : pc = true → (p && q) = true) (hi : pc = true → 0 ≤ i ∧ i ≤ l.length) : Yl P n env w0 R E o pc (.string (str (l.take i.toNat))) := by
 intro ac w hkn hm hp
 obtain ⟨h1, h2⟩ := and_both (hpq hp)
 have hi := hi hp
 have hsz := str_size l
 have e := run_slice_string_h w t (str l) (hT.str hd hk) .i64 i hi.1 (by omega)
 rw [str_extract, List.drop_zero, ← run_sliceAt_string w t _ _ _ _ (hT.str hd hk)] at e
 unfold execOp
 simp [ho, hkn.ev hx h1, hkn.ev hh h2, e]
theorem Yl.sliceSL {t : TypeId} {x h : Operand} {l : List UInt8} {i : Int} {d : TD} (hT : TabOk P T) (ho : o.op = .slice t x (some h) none none) (hd : T.at t = some d) (hk : d.k = .str) (hx : ev env x = some (p, .string (str l))) (hh : ev env h = some (q, .int .i64 i))
  (hpq : pc = true → (p && q) = true) (hi : pc = true → 0 ≤ i ∧ i ≤ l.length) : Yl P n env w0 R E o pc (.string (str (l.drop i.toNat))) := by
 intro ac w hkn hm hp
 obtain ⟨h1, h2⟩ := and_both (hpq hp)
 have hi := hi hp
 have hsz := str_size l
 have e := run_slice_string_l w t (str l) (hT.str hd hk) .i64 i hi.1 (by omega)
 rw [str_extract, str_size, List.take_length, ← run_sliceAt_string w t _ _ _ _ (hT.str hd hk)] at e
 unfold execOp
 simp [ho, hkn.ev hx h1, hkn.ev hh h2, e]
theorem Yl.sliceSLH {t : TypeId} {x lo h : Operand} {l : List UInt8} {i j : Int} {d : TD} (hT : TabOk P T) (ho : o.op = .slice t x (some lo) (some h) none) (hd : T.at t = some d) (hk : d.k = .str) (hx : ev env x = some (p, .string (str l))) (hl : ev env lo = some (q, .int .i64 i)) (hh : ev env h = some (r, .int .i64 j))
  (hpq : pc = true → (p && q && r) = true) (hi : pc = true → 0 ≤ i ∧ i ≤ j ∧ j ≤ l.length) : Yl P n env w0 R E o pc (.string (str ((l.take j.toNat).drop i.toNat))) := by
 intro ac w hkn hm hp
 obtain ⟨h12, h3⟩ := and_both (hpq hp)
 obtain ⟨h1, h2⟩ := and_both h12
 have hi := hi hp
 have hsz := str_size l
 have e : (Instr.slice t (.string (str l)) (some (.int .i64 i)) (some (.int .i64 j)) none).run P w = .ok (.string ((str l).extract i.toNat j.toNat)) w := by
  simp [Instr.slice, run_underlying (hT.str hd hk), Instr.sliceBounds, Instr.sliceBound, asIntOf, hi, (by omega : 0 ≤ j), (by omega : j ≤ ((str l).size : Int)), (by omega : i ≤ max j 0)]
 rw [str_extract, ← run_sliceAt_string w t _ _ _ _ (hT.str hd hk)] at e
 unfold execOp
 simp [ho, hkn.ev hx h1, hkn.ev hl h2, hkn.ev hh h3, e]
/-- a byte less a byte -/
theorem Yl.subB {t t' x y} {a b : Int} (ho : o.op = .binOp .sub t x y t') (hx : ev env x = some (p, .int .u8 a)) (hy : ev env y = some (q, .int .u8 b))
  (hpq : pc = true → (p && q) = true) (hr : pc = true → 0 ≤ a - b ∧ a - b ≤ 255) : Yl P n env w0 R E o pc (.int .u8 (a - b)) := by
 intro ac w hk hm hp
 obtain ⟨h1, h2⟩ := and_both (hpq hp)
 have e : IntKind.u8.wrap (a - b) = a - b := by have := hr hp; simp [IntKind.wrap, IntKind.bits, IntKind.signed]; omega
 unfold execOp
 simp [ho, hk.ev hx h1, hk.ev hy h2, eqGuard, binOp, Op.intArith, e]
theorem Yl.catS {t t' x y} {a b : List UInt8} (ho : o.op = .binOp .add t x y t') (hx : ev env x = some (p, .string (str a))) (hy : ev env y = some (q, .string (str b)))
  (hpq : pc = true → (p && q) = true) (hr : pc = true → a.length + b.length ≤ 9223372036854775807) : Yl P n env w0 R E o pc (.string (str (a ++ b))) := by
 have := Yl.cat (P := P) (n := n) (w0 := w0) (R := R) (E := E) ho hx hy hpq (fun hp => by rw [str_size, str_size]; exact hr hp)
 rwa [str_append] at this
end
end Go.Proofs.YtmidibkljoaoiaaGreatDoor.K

/- The text of a curve, read word for word. Plain. No condition. -/
namespace Go.Proofs.YtmidibkljoaoiaaGreatDoor.M
open Go Go.Proofs.YtmidibkljoaoiaaGreatDoor.K
/-- words with one space between -/
def spl : List UInt8 → List (List UInt8)
  | [] => [[]]
  | c :: s => if c = 32 then [] :: spl s else match spl s with
    | w :: ws => (c :: w) :: ws
    | [] => [[c]]
def wInf : List UInt8 := [105, 110, 102]
def wPer : List UInt8 := [112, 101, 114]
def wInc : List UInt8 := [105, 110, 99]
def digs (w : List UInt8) : Bool := decide (w ≠ [] ∧ ¬ (1 < w.length ∧ byteAt w 0 = 48) ∧ ∀ i, i < w.length → 48 ≤ byteAt w i ∧ byteAt w i ≤ 57)
def numV (w : List UInt8) : Nat := w.foldl (fun n c => 10 * n + (c.toNat - 48)) 0
/-- where: 0 behind no value, 1 behind a value, 2 behind per, 3 behind the period, 4 behind inc, 5 behind the increment; what is read, where it ended, and why -/
def parseGo (size : Nat) : Nat → List Int → Int → Int → Nat → List (List UInt8) → Cv × Nat × Int
  | wh, vals, per, inc, _, [] => if wh = 5 then (⟨vals, per, inc⟩, 0, 0) else (zcv, size, 4)
  | wh, vals, per, inc, at', w :: ws =>
    if wh ≤ 1 ∧ w = wInf then parseGo size 1 (vals ++ [INF]) per inc (at' + w.length + 1) ws
    else if wh = 1 ∧ w = wPer then parseGo size 2 vals per inc (at' + w.length + 1) ws
    else if wh = 3 ∧ w = wInc then parseGo size 4 vals per inc (at' + w.length + 1) ws
    else if digs w = true ∧ wh ≠ 3 ∧ wh ≠ 5 then
      if 1073741824 < numV w then (zcv, at', 2)
      else if wh = 2 then parseGo size 3 vals (numV w) inc (at' + w.length + 1) ws
      else if wh = 4 then parseGo size 5 vals per (numV w) (at' + w.length + 1) ws
      else parseGo size 1 (vals ++ [(numV w : Int)]) per inc (at' + w.length + 1) ws
    else (zcv, at', 4)
/-- why a word that must be there fails -/
def wordE (ws : List (List UInt8)) (want : List UInt8) (k at' size : Nat) : Nat × Int := if k < ws.length then (if nth ws k = want then (0, 0) else (at', 4)) else (size, 4)
def numE (ws : List (List UInt8)) (k at' size : Nat) : Nat × Int := if k < ws.length then (if digs (nth ws k) = true then (if 1073741824 < numV (nth ws k) then (at', 2) else (0, 0)) else (at', 4)) else (size, 4)
def parseR (s : List UInt8) : Cv × Nat × Int :=
  if 4000 < s.length then (zcv, 0, 3)
  else if (parseGo s.length 0 [] 0 0 0 (spl s)).2.2 ≠ 0 then parseGo s.length 0 [] 0 0 0 (spl s)
  else if validB (parseGo s.length 0 [] 0 0 0 (spl s)).1 = true then parseGo s.length 0 [] 0 0 0 (spl s) else (zcv, 0, 1)
end Go.Proofs.YtmidibkljoaoiaaGreatDoor.M

/- Numbers as texts: what is written is read back. No condition. -/
namespace Go.Proofs.YtmidibkljoaoiaaGreatDoor.M
open Go Go.Proofs.YtmidibkljoaoiaaGreatDoor.K

theorem str_list (l : List UInt8) : (str l).data.toList = l := by simp [str]
theorem dec_ne (u : Nat) : Lib.decDigits u ≠ [] := by
 rw [Lib.decDigits]; split <;> simp
/-- a digit's byte lies in 48 .. 57 -/
theorem dec_mem (u : Nat) : ∀ x ∈ Lib.decDigits u, 48 ≤ x.toNat ∧ x.toNat ≤ 57 := by
 induction u using Nat.strongRecOn with
 | _ u ih =>
  intro x hx
  rw [Lib.decDigits] at hx
  have key : ∀ d, d < 10 → (UInt8.ofNat (48 + d)).toNat = 48 + d := fun d hd => by rw [UInt8.toNat_ofNat']; omega
  split at hx
  ·rename_i h
   simp only [List.mem_cons, List.not_mem_nil, or_false] at hx
   rw [hx, key u h]; omega
  ·rename_i h
   simp only [List.mem_append, List.mem_cons, List.not_mem_nil, or_false] at hx
   rcases hx with hx | hx
   ·exact ih _ (by omega) x hx
   ·rw [hx, key _ (by omega)]; omega
theorem decDigits_len {k : Nat} : ∀ {u : Nat}, u < 10 ^ (k + 1) → (Lib.decDigits u).length ≤ k + 1 := by
 induction k with
 | zero =>
  intro u h
  rw [Lib.decDigits, dif_pos (by omega)]; simp
 | succ k ih =>
  intro u h
  rw [Lib.decDigits]
  split
  ·simp
  ·have := ih (u := u / 10) (by rw [Nat.pow_succ] at h; omega)
   simp only [List.length_append, List.length_cons, List.length_nil]; omega
theorem itoa_len {n : Int} (hn : -1073741824 ≤ n ∧ n ≤ 1073741824) : (Lib.itoa n).length ≤ 11 := by
 unfold Lib.itoa
 split
 ·have := decDigits_len (k := 9) (u := n.natAbs) (by omega); simp only [List.length_cons]; omega
 ·have := decDigits_len (k := 9) (u := n.toNat) (by omega); omega
def atBad (s : List UInt8) : Bool := match Lib.atoiAll s with | .ok _ => false | _ => true
def atNum (s : List UInt8) : Int := match Lib.atoiAll s with | .ok v => v | _ => 0
theorem atBad_ok {s : List UInt8} {v : Int} (h : Lib.atoiAll s = .ok v) : atBad s = false ∧ atNum s = v := by
 unfold atBad atNum; rw [h]; exact ⟨rfl, rfl⟩
def errV (b : Bool) (t : TypeId) (p : Value) : Value := match b with | true => .iface t p | false => .nilIface
theorem errV_cases (b : Bool) (t : TypeId) (p : Value) : (errV b t p = .nilIface ∧ b = false) ∨ ((∃ u z, errV b t p = .iface u z) ∧ b = true) := by
 cases b
 ·exact .inl ⟨rfl, rfl⟩
 ·exact .inr ⟨⟨t, p, rfl⟩, rfl⟩
end Go.Proofs.YtmidibkljoaoiaaGreatDoor.M

/- The numbers of the notation: what strconv.Atoi says of digits. Plain. No condition. -/
namespace Go.Proofs.YtmidibkljoaoiaaGreatDoor.M
open Go Go.Proofs.YtmidibkljoaoiaaGreatDoor.K
def numF (n : Nat) (c : UInt8) : Nat := 10 * n + (c.toNat - 48)
theorem numV_eq (w : List UInt8) : numV w = w.foldl numF 0 := rfl
theorem num_ge : ∀ (w : List UInt8) (n : Nat), n ≤ w.foldl numF n
 | [], _ => Nat.le_refl _
 | c :: w, n => by
  rw [List.foldl_cons]
  have := num_ge w (numF n c)
  unfold numF at this ⊢
  omega
theorem parse_num : ∀ (w : List UInt8) (n : Nat), (∀ c ∈ w, 48 ≤ c.toNat ∧ c.toNat ≤ 57) → Lib.parseUint10 n w = .ok (w.foldl numF n) ∨ (Lib.parseUint10 n w = .range ∧ 1844674407370955162 ≤ w.foldl numF n)
 | [], n, _ => .inl rfl
 | c :: w, n, h => by
  have hc := h c (by simp)
  rw [List.foldl_cons]
  have hg := num_ge w (numF n c)
  unfold Lib.parseUint10
  rw [if_pos hc]
  by_cases h1 : 1844674407370955162 ≤ n
  ·rw [if_pos h1]; exact .inr ⟨rfl, by unfold numF at hg ⊢; omega⟩
  ·rw [if_neg h1]
   by_cases h2 : 18446744073709551616 ≤ n * 10 + (c.toNat - 48)
   ·rw [if_pos h2]; exact .inr ⟨rfl, by unfold numF at hg ⊢; omega⟩
   ·rw [if_neg h2, show n * 10 + (c.toNat - 48) = numF n c by unfold numF; omega]
    exact parse_num w (numF n c) (fun x hx => h x (by simp [hx]))
theorem digs_mem {w : List UInt8} (h : digs w = true) : w ≠ [] ∧ ∀ c ∈ w, 48 ≤ c.toNat ∧ c.toNat ≤ 57 := by
 obtain ⟨h1, _, h3⟩ := of_decide_eq_true h
 refine ⟨h1, fun c hc => ?_⟩
 obtain ⟨i, hi, rfl⟩ := List.getElem_of_mem hc
 have := h3 i hi
 unfold byteAt at this
 rw [show w.getD i 0 = w[i] by unfold List.getD; rw [List.getElem?_eq_getElem hi]; rfl] at this
 omega
theorem digs_num {w : List UInt8} (h : digs w = true) : (atBad w = false → atNum w = numV w) ∧ (atBad w = true → 1073741824 < numV w) := by
 obtain ⟨h1, h2⟩ := digs_mem h
 cases w with
 | nil => exact absurd rfl h1
 | cons c r =>
  have hc := h2 c (by simp)
  have hmag : Lib.parseMag (c :: r) = Lib.parseUint10 0 (c :: r) := by unfold Lib.parseMag; rw [if_neg h1]
  have e : Lib.atoiAll (c :: r) = match Lib.parseUint10 0 (c :: r) with
    | .syntax => .syntax
    | .range => .range
    | .ok u => if 9223372036854775808 ≤ u then .range else .ok (u : Int) := by
   unfold Lib.atoiAll
   dsimp only
   rw [if_neg (show ¬ (c.toNat = 43 ∨ c.toNat = 45) by omega), hmag]
   cases Lib.parseUint10 0 (c :: r) with
   | ok u => dsimp only; simp only [show ¬ c.toNat = 45 by omega, not_false_eq_true, true_and, false_and, if_false]
   | _ => rfl
  rw [numV_eq]
  rcases parse_num (c :: r) 0 h2 with q | ⟨q, hq⟩
  ·rw [q] at e
   dsimp only at e
   generalize (c :: r).foldl numF 0 = u at e ⊢
   unfold atBad atNum
   rw [e]
   by_cases hu : 9223372036854775808 ≤ u
   ·rw [if_pos hu]; exact ⟨fun h => (by cases h), fun _ => by omega⟩
   ·rw [if_neg hu]; exact ⟨fun _ => rfl, fun h => (by cases h)⟩
  ·rw [q] at e
   unfold atBad atNum
   rw [e]
   exact ⟨fun h => (by cases h), fun _ => by omega⟩
end Go.Proofs.YtmidibkljoaoiaaGreatDoor.M

/- The text of a curve: where reading fails; what was written is read back; what is read was written so. Plain. No condition. -/
namespace Go.Proofs.YtmidibkljoaoiaaGreatDoor.M
open Go Go.Proofs.YtmidibkljoaoiaaGreatDoor.K
theorem spl_ne : ∀ s : List UInt8, spl s ≠ []
 | [] => by simp [spl]
 | c :: s => by
  unfold spl
  split
  ·simp
  ·have := spl_ne s
   split
   ·simp
   ·simp
/-- the first word and the rest -/
theorem spl_word : ∀ (w s : List UInt8), (∀ c ∈ w, c ≠ 32) → spl (w ++ 32 :: s) = w :: spl s ∧ spl w = [w]
 | [], s, _ => by simp [spl]
 | c :: w, s, h => by
  obtain ⟨h1, h2⟩ := spl_word w s (fun x hx => h x (by simp [hx]))
  have hc := h c (by simp)
  refine ⟨?_, ?_⟩
  ·rw [List.cons_append, spl, if_neg hc, h1]
  ·rw [spl, if_neg hc, h2]
/-! ### word for word over the bytes -/
theorem byte_get {s : List UInt8} {j : Nat} (h : j < s.length) : byteAt s j = (s[j].toNat : Int) := by unfold byteAt List.getD; rw [List.getElem?_eq_getElem h]; rfl
theorem byte_32 {c : UInt8} (h : (c.toNat : Int) = 32) : c = 32 := UInt8.toNat_inj.1 (by have : (32 : UInt8).toNat = 32 := rfl; omega)
theorem word_at {s : List UInt8} {a i : Nat} (h : a ≤ i) (hi : i ≤ s.length) (hn : ∀ j, a ≤ j → j < i → byteAt s j ≠ 32) (he : i = s.length ∨ byteAt s i = 32) :
  spl (s.drop a) = (s.take i).drop a :: (if i = s.length then [] else spl (s.drop (i + 1))) := by
 have e : s.drop a = (s.take i).drop a ++ s.drop i := by
  have := congrArg (List.drop a) (List.take_append_drop i s).symm
  rw [List.drop_append_of_le_length (by rw [List.length_take]; omega)] at this
  exact this
 have hw : ∀ c ∈ (s.take i).drop a, c ≠ 32 := by
  intro c hc e
  obtain ⟨k, hk, rfl⟩ := List.getElem_of_mem hc
  have hk' := hk
  rw [List.length_drop, List.length_take] at hk'
  rw [List.getElem_drop, List.getElem_take] at e
  have h2 := hn (a + k) (by omega) (by omega)
  rw [byte_get (by omega), e] at h2
  exact h2 rfl
 rw [e]
 by_cases hl : i = s.length
 ·rw [if_pos hl, hl, List.drop_length, List.append_nil]
  rw [hl] at hw
  exact (spl_word _ [] hw).2
 ·rw [if_neg hl]
  have hb := he.resolve_left hl
  rw [byte_get (by omega)] at hb
  rw [List.drop_eq_getElem_cons (by omega : i < s.length), byte_32 hb]
  exact (spl_word _ _ hw).1
/-- the scan of the bytes: what is left to be read -/
def Scan (s : List UInt8) (wh : Nat) (vals : List Int) (per inc : Int) (a i : Nat) : Prop :=
  (i ≤ s.length ∧ a ≤ i ∧ (∀ j, a ≤ j → j < i → byteAt s j ≠ 32) ∧ parseGo s.length 0 [] 0 0 0 (spl s) = parseGo s.length wh vals per inc a (spl (s.drop a))) ∨
  (i = s.length + 1 ∧ a = i ∧ parseGo s.length 0 [] 0 0 0 (spl s) = parseGo s.length wh vals per inc a [])
theorem Scan.le {s : List UInt8} {wh : Nat} {vals : List Int} {per inc : Int} {a i : Nat} (h : Scan s wh vals per inc a i) : i ≤ s.length + 1 ∧ a ≤ i := by
 rcases h with h | h <;> omega
theorem Scan.start (s : List UInt8) : Scan s 0 [] 0 0 0 0 := .inl ⟨Nat.zero_le _, Nat.le_refl _, fun j _ h => absurd h (Nat.not_lt_zero j), rfl⟩
theorem Scan.skip {s : List UInt8} {wh : Nat} {vals : List Int} {per inc : Int} {a i : Nat} (h : Scan s wh vals per inc a i) (hi : i < s.length) (hb : byteAt s i ≠ 32) : Scan s wh vals per inc a (i + 1) := by
 rcases h with ⟨h1, h2, h3, h4⟩ | h
 ·exact .inl ⟨by omega, by omega, fun j hj hj2 => by
   by_cases e : j = i
   ·rw [e]; exact hb
   ·exact h3 j hj (by omega), h4⟩
 ·omega
theorem Scan.word {s : List UInt8} {wh : Nat} {vals : List Int} {per inc : Int} {a i : Nat} (h : Scan s wh vals per inc a i) (hi : i ≤ s.length) (hb : i = s.length ∨ byteAt s i = 32) :
  ∃ ws, parseGo s.length 0 [] 0 0 0 (spl s) = parseGo s.length wh vals per inc a ((s.take i).drop a :: ws) ∧ ∀ wh' vals' per' inc', parseGo s.length 0 [] 0 0 0 (spl s) = parseGo s.length wh' vals' per' inc' (a + ((s.take i).drop a).length + 1) ws → Scan s wh' vals' per' inc' (i + 1) (i + 1) := by
 rcases h with ⟨h1, h2, h3, h4⟩ | h
 ·rw [word_at h2 hi h3 hb] at h4
  refine ⟨_, h4, fun wh' vals' per' inc' e => ?_⟩
  have el : a + ((s.take i).drop a).length + 1 = i + 1 := by rw [List.length_drop, List.length_take]; omega
  rw [el] at e
  by_cases hl : i = s.length
  ·rw [if_pos hl] at e
   exact .inr ⟨by omega, rfl, e⟩
  ·rw [if_neg hl] at e
   exact .inl ⟨by omega, Nat.le_refl _, fun j hj hj2 => absurd hj2 (by omega), e⟩
 ·omega
theorem Scan.stop {s : List UInt8} {wh : Nat} {vals : List Int} {per inc : Int} {a i : Nat} (h : Scan s wh vals per inc a i) (hi : ¬ i ≤ s.length) : parseGo s.length 0 [] 0 0 0 (spl s) = if wh = 5 then (⟨vals, per, inc⟩, 0, 0) else (zcv, s.length, 4) := by
 rcases h with h | ⟨_, _, e⟩
 ·omega
 ·rw [e, parseGo]
/-! ### what is written -/
def wordV (v : Int) : List UInt8 := if v = INF then wInf else Lib.itoa v
def fmtVals : List Int → List UInt8
  | [] => []
  | v :: r => wordV v ++ 32 :: fmtVals r
def fmtC (c : Cv) : List UInt8 := fmtVals c.vals ++ (wPer ++ 32 :: (Lib.itoa c.per ++ 32 :: (wInc ++ 32 :: Lib.itoa c.inc)))
def formatR (c : Cv) : List UInt8 × Int := if validB c = false then ([], 1) else if 4000 < (fmtC c).length then ([], 3) else (fmtC c, 0)
theorem itoa_pos {n : Int} (h : 0 ≤ n) : Lib.itoa n = Lib.decDigits n.toNat := by unfold Lib.itoa; rw [if_neg (by omega)]
theorem dec_step {u : Nat} (h : ¬ u < 10) : Lib.decDigits u = Lib.decDigits (u / 10) ++ [UInt8.ofNat (48 + u % 10)] := by rw [Lib.decDigits]; rw [dif_neg h]
theorem dec_one {u : Nat} (h : u < 10) : Lib.decDigits u = [UInt8.ofNat (48 + u)] := by rw [Lib.decDigits]; rw [dif_pos h]
theorem digit_num {d : Nat} (h : d < 10) : (UInt8.ofNat (48 + d)).toNat = 48 + d := by
 rw [UInt8.toNat_ofNat']
 omega
theorem numV_snoc (w : List UInt8) (c : UInt8) : numV (w ++ [c]) = 10 * numV w + (c.toNat - 48) := by unfold numV; rw [List.foldl_append]; rfl
theorem numV_dec : ∀ u : Nat, numV (Lib.decDigits u) = u := by
 intro u
 induction u using Nat.strongRecOn with
 | _ u ih =>
  by_cases h : u < 10
  ·rw [dec_one h]
   show 10 * 0 + ((UInt8.ofNat (48 + u)).toNat - 48) = u
   rw [digit_num h]; omega
  ·rw [dec_step h, numV_snoc, ih (u / 10) (by omega), digit_num (by omega)]
   omega
theorem dec_head : ∀ u : Nat, 0 < u → byteAt (Lib.decDigits u) 0 ≠ 48 := by
 intro u
 induction u using Nat.strongRecOn with
 | _ u ih =>
  intro hu
  by_cases h : u < 10
  ·rw [dec_one h]
   show ((UInt8.ofNat (48 + u)).toNat : Int) ≠ 48
   rw [digit_num h]; omega
  ·rw [dec_step h]
   have := ih (u / 10) (by omega) (by omega)
   unfold byteAt at this ⊢
   have hne := dec_ne (u / 10)
   cases hd : Lib.decDigits (u / 10) with
   | nil => exact absurd hd hne
   | cons x l => rw [hd] at this; exact this
theorem byte_mem {w : List UInt8} {i : Nat} (h : i < w.length) : ∃ c ∈ w, byteAt w i = (c.toNat : Int) :=
 ⟨w[i], List.getElem_mem h, by unfold byteAt List.getD; rw [List.getElem?_eq_getElem h]; rfl⟩
theorem digs_dec (u : Nat) : digs (Lib.decDigits u) = true := by
 refine decide_eq_true ⟨dec_ne u, fun h => ?_, fun i hi => ?_⟩
 ·by_cases h0 : u = 0
  ·subst h0
   have := h.1
   rw [dec_one (by decide)] at this
   simp at this
  ·exact dec_head u (by omega) h.2
 ·obtain ⟨c, hc, e⟩ := byte_mem hi
  have := dec_mem u c hc
  omega
theorem dec_byte {u : Nat} {c : UInt8} (h : c ∈ Lib.decDigits u) : c ≠ 32 := fun e => by
 have := dec_mem u c h
 rw [e] at this
 exact absurd this.1 (by decide)
theorem dec_not {u : Nat} {w : List UInt8} (h : digs w = false) : Lib.decDigits u ≠ w := fun e => by
 rw [← e, digs_dec] at h; cases h
theorem wInf_no : digs wInf = false := by decide
theorem wPer_no : digs wPer = false := by decide
theorem wInc_no : digs wInc = false := by decide
theorem go_num {size wh : Nat} {vals : List Int} {per inc : Int} {at' : Nat} {ws : List (List UInt8)} {u : Nat} (hu : u ≤ 1073741824) (hw : wh ≠ 3 ∧ wh ≠ 5) :
  parseGo size wh vals per inc at' (Lib.decDigits u :: ws) = if wh = 2 then parseGo size 3 vals (u : Int) inc (at' + (Lib.decDigits u).length + 1) ws
   else if wh = 4 then parseGo size 5 vals per (u : Int) (at' + (Lib.decDigits u).length + 1) ws
   else parseGo size 1 (vals ++ [(u : Int)]) per inc (at' + (Lib.decDigits u).length + 1) ws := by
 rw [parseGo, if_neg (fun h => dec_not wInf_no h.2), if_neg (fun h => dec_not wPer_no h.2), if_neg (fun h => dec_not wInc_no h.2), if_pos ⟨digs_dec u, hw⟩, numV_dec, if_neg (by omega)]
theorem go_vals {size : Nat} {per inc : Int} {ws : List (List UInt8)} : ∀ (vs vals : List Int) (wh at' : Nat), wh ≤ 1 → (∀ v ∈ vs, v = INF ∨ (0 ≤ v ∧ v ≤ 1073741824)) → vs ≠ [] →
  ∃ at2, parseGo size wh vals per inc at' (vs.map wordV ++ ws) = parseGo size 1 (vals ++ vs) per inc at2 ws
 | [], _, _, _, _, _, h => absurd rfl h
 | v :: vs, vals, wh, at', hw, hv, _ => by
  have step : ∃ at1, parseGo size wh vals per inc at' (wordV v :: (vs.map wordV ++ ws)) = parseGo size 1 (vals ++ [v]) per inc at1 (vs.map wordV ++ ws) := by
   unfold wordV
   by_cases e : v = INF
   ·rw [if_pos e, parseGo, if_pos ⟨hw, rfl⟩, e]; exact ⟨_, rfl⟩
   ·rw [if_neg e]
    have h0 := (hv v (by simp)).resolve_left e
    rw [itoa_pos h0.1, go_num (by omega) (by omega), if_neg (by omega), if_neg (by omega)]
    exact ⟨_, by rw [show ((v.toNat : Nat) : Int) = v by omega]⟩
  obtain ⟨a1, e1⟩ := step
  rw [List.map_cons, List.cons_append, e1]
  by_cases hn : vs = []
  ·subst hn; exact ⟨a1, rfl⟩
  ·obtain ⟨a2, e2⟩ := go_vals vs (vals ++ [v]) 1 a1 (by omega) (fun x hx => hv x (by simp [hx])) hn
   exact ⟨a2, by rw [e2, List.append_assoc]; rfl⟩
theorem wordV_byte {v : Int} (h : v = INF ∨ 0 ≤ v) : ∀ c ∈ wordV v, c ≠ 32 := by
 intro c hc
 unfold wordV at hc
 split at hc
 ·revert c; decide
 ·rename_i e
  rw [itoa_pos (h.resolve_left e)] at hc
  exact dec_byte hc
theorem spl_vals : ∀ (vs : List Int) (s : List UInt8), (∀ v ∈ vs, v = INF ∨ 0 ≤ v) → spl (fmtVals vs ++ s) = vs.map wordV ++ spl s
 | [], _, _ => rfl
 | v :: vs, s, h => by
  rw [fmtVals, List.append_assoc, List.cons_append, (spl_word (wordV v) _ (wordV_byte (h v (by simp)))).1, spl_vals vs s (fun x hx => h x (by simp [hx]))]
  rfl
def endW (per inc : Int) : List (List UInt8) := [wPer, Lib.itoa per, wInc, Lib.itoa inc]
theorem spl_fmt {c : Cv} (hv : ∀ v ∈ c.vals, v = INF ∨ 0 ≤ v) (hp : 0 ≤ c.per) (hi : 0 ≤ c.inc) : spl (fmtC c) = c.vals.map wordV ++ endW c.per c.inc := by
 unfold fmtC endW
 rw [spl_vals _ _ hv, (spl_word wPer _ (by decide)).1, itoa_pos hp, itoa_pos hi, (spl_word _ _ (fun _ => dec_byte)).1, (spl_word wInc _ (by decide)).1, (spl_word (Lib.decDigits c.inc.toNat) [] (fun _ => dec_byte)).2]
theorem go_end {size : Nat} {vals : List Int} {per inc : Int} {at' : Nat} {p i : Int} (hp : 0 ≤ p ∧ p ≤ 1073741824) (hi : 0 ≤ i ∧ i ≤ 1073741824) :
  parseGo size 1 vals per inc at' (endW p i) = (⟨vals, p, i⟩, 0, 0) := by
 unfold endW
 rw [parseGo, if_neg (fun h => absurd h.2 (by decide)), if_pos ⟨rfl, rfl⟩, itoa_pos hp.1, itoa_pos hi.1, go_num (by omega) (by decide), if_pos rfl]
 rw [parseGo, if_neg (fun h => absurd h.1 (by decide)), if_neg (fun h => absurd h.1 (by decide)), if_pos ⟨rfl, rfl⟩, go_num (by omega) (by decide), if_neg (by decide), if_pos rfl]
 rw [parseGo, if_pos rfl, show ((p.toNat : Nat) : Int) = p by omega, show ((i.toNat : Nat) : Int) = i by omega]
theorem parse_fmt {c : Cv} (hv : validB c = true) (hl : (fmtC c).length ≤ 4000) : parseR (fmtC c) = (c, 0, 0) := by
 obtain ⟨h1, h2, h3, h4, h5, h6, h7, h8⟩ := valid_range hv
 have hb : ∀ v ∈ c.vals, v = INF ∨ (0 ≤ v ∧ v ≤ 1073741824) := fun v hv' => by
  obtain ⟨i, hi, rfl⟩ := List.getElem_of_mem hv'
  have := valid_each hv i hi
  rw [nth_eq hi] at this
  rcases this with e | e
  ·exact .inl e
  ·exact .inr e
 have hne : c.vals ≠ [] := fun e => by rw [e] at h2; exact absurd h2 (by decide)
 obtain ⟨a2, e2⟩ := go_vals (size := (fmtC c).length) (per := 0) (inc := 0) (ws := endW c.per c.inc) c.vals [] 0 0 (by decide) hb hne
 unfold parseR
 rw [if_neg (show ¬ 4000 < (fmtC c).length by omega), spl_fmt (c := c) (fun v hv' => (hb v hv').imp id And.left) (by omega) (by omega), e2, go_end (p := c.per) (i := c.inc) (by omega) (by omega), List.nil_append]
 rw [if_neg (fun h => h rfl), show (⟨c.vals, c.per, c.inc⟩ : Cv) = c from rfl, if_pos hv]
/-! ### what is read was written so -/
/-- what stands at the words that are left, where reading comes to its end -/
def Rest (c : Cv) (vals : List Int) (per inc : Int) : Nat → List (List UInt8) → Prop
  | 5, ws => ws = [] ∧ c = ⟨vals, per, inc⟩
  | 4, ws => c.vals = vals ∧ c.per = per ∧ 0 ≤ c.inc ∧ ws = [Lib.itoa c.inc]
  | 3, ws => c.vals = vals ∧ c.per = per ∧ 0 ≤ c.inc ∧ ws = [wInc, Lib.itoa c.inc]
  | 2, ws => c.vals = vals ∧ 0 ≤ c.per ∧ 0 ≤ c.inc ∧ ws = [Lib.itoa c.per, wInc, Lib.itoa c.inc]
  | _, ws => ∃ vs, c.vals = vals ++ vs ∧ 0 ≤ c.per ∧ 0 ≤ c.inc ∧ ws = vs.map wordV ++ endW c.per c.inc
end Go.Proofs.YtmidibkljoaoiaaGreatDoor.M

/- Words between the instances of one byte: what strings.Split gives. Plain. No condition. -/
namespace Go.Proofs.YtmidibkljoaoiaaGreatDoor.M
open Go Go.Proofs.YtmidibkljoaoiaaGreatDoor.K
/-- the words between the instances of a byte -/
def splC (d : UInt8) : List UInt8 → List (List UInt8)
  | [] => [[]]
  | c :: s => if c = d then [] :: splC d s else match splC d s with
    | w :: ws => (c :: w) :: ws
    | [] => [[c]]
theorem spl_eq : ∀ s : List UInt8, spl s = splC 32 s
 | [] => rfl
 | c :: s => by
  have h := spl_eq s
  unfold spl splC
  by_cases e : c = 32
  ·rw [if_pos e, if_pos e, h]
  ·rw [if_neg e, if_neg e, h]
   all_goals (cases splC 32 s <;> rfl)
theorem splC_ne (d : UInt8) : ∀ s : List UInt8, splC d s ≠ []
 | [] => by simp [splC]
 | c :: s => by
  unfold splC
  split
  ·simp
  ·split <;> simp
theorem splC_cons {d : UInt8} : ∀ {s w : List UInt8} {ws : List (List UInt8)}, splC d s = w :: ws → (∀ c ∈ w, c ≠ d) ∧ ((ws = [] ∧ s = w) ∨ ∃ s', s = w ++ d :: s' ∧ ws = splC d s')
 | [], w, ws, h => by
  simp [splC] at h
  obtain ⟨rfl, rfl⟩ := h
  exact ⟨by simp, .inl ⟨rfl, rfl⟩⟩
 | c :: s, w, ws, h => by
  unfold splC at h
  by_cases hc : c = d
  ·rw [if_pos hc] at h
   simp only [List.cons.injEq] at h
   obtain ⟨rfl, rfl⟩ := h
   exact ⟨by simp, .inr ⟨s, by rw [hc]; rfl, rfl⟩⟩
  ·rw [if_neg hc] at h
   cases hs : splC d s with
   | nil => exact absurd hs (splC_ne d s)
   | cons v vs =>
    rw [hs] at h
    simp only [List.cons.injEq] at h
    obtain ⟨rfl, rfl⟩ := h
    obtain ⟨h1, h2⟩ := splC_cons hs
    refine ⟨fun x hx => ?_, ?_⟩
    ·rcases List.mem_cons.1 hx with rfl | hx
     ·exact hc
     ·exact h1 x hx
    ·rcases h2 with ⟨rfl, rfl⟩ | ⟨s', rfl, rfl⟩
     ·exact .inl ⟨rfl, rfl⟩
     ·exact .inr ⟨s', rfl, rfl⟩
theorem idx_none {d : UInt8} : ∀ {w : List UInt8}, (∀ c ∈ w, c ≠ d) → Lib.index w [d] = -1
 | [], _ => rfl
 | c :: w, h => by
  have hc := h c (by simp)
  unfold Lib.index
  rw [if_neg (by simp [List.isPrefixOf]; exact fun e => hc e.symm), idx_none (fun x hx => h x (by simp [hx]))]
  rfl
theorem idx_word {d : UInt8} {s' : List UInt8} : ∀ {w : List UInt8}, (∀ c ∈ w, c ≠ d) → Lib.index (w ++ d :: s') [d] = (w.length : Int)
 | [], _ => by
  show Lib.index (d :: s') [d] = 0
  unfold Lib.index
  rw [if_pos (by simp [List.isPrefixOf])]
 | c :: w, h => by
  have hc := h c (by simp)
  show Lib.index (c :: (w ++ d :: s')) [d] = _
  unfold Lib.index
  rw [if_neg (by simp [List.isPrefixOf]; exact fun e => hc e.symm), idx_word (fun x hx => h x (by simp [hx])), if_neg (by rw [beq_iff_eq]; omega)]
  simp
theorem split_splC (d : UInt8) : ∀ (n : Nat) (s : List UInt8), s.length ≤ n → Lib.splitK [d] 0 (Lib.count s [d]) s = splC d s ∧ Lib.count s [d] + 1 = (splC d s).length
 | n, s, hn => by
  cases hs : splC d s with
  | nil => exact absurd hs (splC_ne d s)
  | cons w ws =>
   obtain ⟨h1, ⟨rfl, rfl⟩ | ⟨s', rfl, rfl⟩⟩ := splC_cons hs
   ·rw [Lib.count_miss (idx_none h1)]
    exact ⟨rfl, rfl⟩
   ·have hi := idx_word (s' := s') h1
    have hd : (w ++ d :: s').drop (w.length + [d].length) = s' := by
     rw [← List.drop_drop, List.drop_left]; rfl
    match n with
    | 0 => simp at hn
    | n + 1 =>
     have hl : s'.length ≤ n := by rw [List.length_append, List.length_cons] at hn; omega
     obtain ⟨g1, g2⟩ := split_splC d n s' hl
     rw [Lib.count_hit (by simp) hi, hd]
     refine ⟨?_, by rw [List.length_cons]; omega⟩
     rw [Nat.add_comm 1, Lib.splitK, if_neg (by rw [hi, beq_iff_eq]; omega), hi, Int.toNat_natCast, hd, g1]
     congr 1
     rw [Nat.add_zero, List.take_left]
theorem splC_word {d : UInt8} : ∀ (w s : List UInt8), (∀ c ∈ w, c ≠ d) → splC d (w ++ d :: s) = w :: splC d s ∧ splC d w = [w]
 | [], s, _ => by simp [splC]
 | c :: w, s, h => by
  obtain ⟨h1, h2⟩ := splC_word w s (fun x hx => h x (by simp [hx]))
  have hc := h c (by simp)
  refine ⟨?_, ?_⟩
  ·rw [List.cons_append, splC, if_neg hc, h1]
  ·rw [splC, if_neg hc, h2]
theorem splC_len (d : UInt8) : ∀ s : List UInt8, (splC d s).length ≤ s.length + 1
 | [] => by simp [splC]
 | c :: s => by
  have ih := splC_len d s
  unfold splC
  split
  ·simp only [List.length_cons]; omega
  ·cases hs : splC d s with
   | nil => exact absurd hs (splC_ne d s)
   | cons w ws => rw [hs] at ih; simp only [List.length_cons] at ih ⊢; omega
end Go.Proofs.YtmidibkljoaoiaaGreatDoor.M

/- Texts of networks: names, numbers, lists. Plain. No condition. -/
namespace Go.Proofs.YtmidibkljoaoiaaGreatDoor.M
open Go Go.Proofs.YtmidibkljoaoiaaGreatDoor.K
def wordOk (s : List UInt8) (j : Nat) : Prop := byteAt s j = 45 ∨ (48 ≤ byteAt s j ∧ byteAt s j ≤ 57) ∨ (97 ≤ byteAt s j ∧ byteAt s j ≤ 122)
instance (s : List UInt8) (j : Nat) : Decidable (wordOk s j) := by unfold wordOk; infer_instance
/-- a name of a line or a flow -/
def wordB (s : List UInt8) : Bool := decide (1 ≤ s.length ∧ s.length ≤ 12 ∧ (97 ≤ byteAt s 0 ∧ byteAt s 0 ≤ 122) ∧ ∀ j, j < s.length → wordOk s j)
/-- a number of at most nine digits -/
def num9 (w : List UInt8) : Bool := digs w && decide (w.length ≤ 9)
def num9V (w : List UInt8) : Nat := if num9 w = true then numV w else 0
theorem numV_next {w : List UInt8} {i : Nat} (hi : i < w.length) (h : 48 ≤ byteAt w i ∧ byteAt w i ≤ 57) : (numV (w.take (i + 1)) : Int) = 10 * (numV (w.take i) : Int) + (byteAt w i - 48) := by
 have e : w.take (i + 1) = w.take i ++ [w[i]] := (List.take_append_getElem hi).symm
 have eb : byteAt w i = ((w[i]).toNat : Int) := by unfold byteAt List.getD; rw [List.getElem?_eq_getElem hi]; rfl
 rw [eb] at h ⊢
 rw [e]
 unfold numV
 rw [List.foldl_append, List.foldl_cons, List.foldl_nil]
 omega
theorem numV_lt : ∀ {i : Nat} {w : List UInt8}, i ≤ w.length → (∀ j, j < i → 48 ≤ byteAt w j ∧ byteAt w j ≤ 57) → numV (w.take i) < 10 ^ i
 | 0, w, _, _ => by rw [List.take_zero]; exact Nat.one_pos
 | i + 1, w, hi, h => by
  have h1 := numV_lt (i := i) (w := w) (by omega) (fun j hj => h j (by omega))
  have h2 := numV_next (w := w) (i := i) (by omega) (h i (by omega))
  have h3 := h i (by omega)
  rw [Nat.pow_succ]
  omega
theorem u8_dig {d : Nat} (h : d ≤ 9) : (48 : Int) + (d : Int) = ((UInt8.ofNat (48 + d)).toNat : Int) := by rw [UInt8.toNat_ofNat']; omega
theorem seg_snoc {cs : List Value} {k : Nat} {v : Value} (hk : k < cs.length) : (setSeg cs k [v]).drop k = v :: cs.drop (k + 1) := by
 unfold setSeg
 rw [List.append_assoc, List.drop_append_of_le_length (by rw [List.length_take]; omega), List.drop_of_length_le (by rw [List.length_take]; omega)]
 rfl
theorem set_snoc {α : Type} {ws : List α} {i : Nat} {v : α} (h : i < ws.length) : (ws.set i v).take (i + 1) = ws.take i ++ [v] := by
 rw [List.set_eq_take_append_cons_drop, if_pos h, List.take_append, List.take_of_length_le (by rw [List.length_take]; omega), List.length_take, Nat.min_eq_left (by omega), show i + 1 - i = 1 by omega]
 rfl
theorem pow9 {i : Nat} (h : i ≤ 9) : 10 ^ i ≤ 1000000000 := Nat.le_trans (Nat.pow_le_pow_right (by decide) h) (by decide)
def okN9 (fr : Bool) (w : List UInt8) : Bool := (fr && decide (w = [45])) || num9 w
def valN9 (fr : Bool) (w : List UInt8) : Int := if (fr && decide (w = [45])) = true then -1 else (num9V w : Int)
def numsO (fr : Bool) (s : List UInt8) : Bool := (splC 44 s).all (okN9 fr)
def numsL (fr : Bool) (s : List UInt8) : List Int := if numsO fr s = true then (splC 44 s).map (valN9 fr) else []
theorem splC_mem (d : UInt8) : ∀ (s : List UInt8), ∀ w ∈ splC d s, w.length ≤ s.length
 | [], w, h => by
  rw [show splC d [] = [[]] from rfl, List.mem_singleton] at h
  rw [h]
  exact Nat.le_refl _
 | c :: s, w, h => by
  have ih := splC_mem d s
  unfold splC at h
  by_cases hc : c = d
  ·rw [if_pos hc] at h
   rcases List.mem_cons.1 h with h | h
   ·rw [h]; exact Nat.zero_le _
   ·exact Nat.le_trans (ih w h) (Nat.le_succ _)
  ·rw [if_neg hc] at h
   cases hs : splC d s with
   | nil => exact absurd hs (splC_ne d s)
   | cons x xs =>
    rw [hs] at h ih
    rcases List.mem_cons.1 h with h | h
    ·rw [h]; exact Nat.succ_le_succ (ih x (by simp))
    ·exact Nat.le_trans (ih w (by simp [h])) (Nat.le_succ _)
def wLine : List UInt8 := [108, 105, 110, 101]
def wFifo : List UInt8 := [102, 105, 102, 111]
def wPrio : List UInt8 := [112, 114, 105, 111, 114, 105, 116, 121]
def wRob : List UInt8 := [114, 111, 98, 105, 110]
def wDef : List UInt8 := [100, 101, 102, 105, 99, 105, 116]
def wSlots : List UInt8 := [115, 108, 111, 116, 115]
def lnHead (ws : List (List UInt8)) : Bool := decide (4 ≤ ws.length) && (decide (nth ws 0 = wLine) && wordB (nth ws 1))
def lnMore (ws : List (List UInt8)) : Bool :=
  if nth ws 2 = wFifo then decide (ws.length = 4) else if nth ws 2 = wPrio then decide (ws.length = 5) && num9 (nth ws 4)
  else if nth ws 2 = wRob ∨ nth ws 2 = wDef then decide (ws.length = 5) && numsO false (nth ws 4)
  else if nth ws 2 = wSlots then decide (ws.length = 6) && (num9 (nth ws 4) && numsO true (nth ws 5)) else false
def lnVal (ws : List (List UInt8)) : Ln :=
  if nth ws 2 = wFifo then ⟨1, num9V (nth ws 3), 1, [], []⟩ else if nth ws 2 = wPrio then ⟨2, num9V (nth ws 3), num9V (nth ws 4), [], []⟩
  else if nth ws 2 = wRob then ⟨3, num9V (nth ws 3), (numsL false (nth ws 4)).length, numsL false (nth ws 4), []⟩
  else if nth ws 2 = wDef then ⟨4, num9V (nth ws 3), (numsL false (nth ws 4)).length, numsL false (nth ws 4), []⟩
  else ⟨5, num9V (nth ws 3), num9V (nth ws 4), [], numsL true (nth ws 5)⟩
/-- a text is a line -/
def lineO (s : List UInt8) : Bool := lnHead (splC 32 s) && (num9 (nth (splC 32 s) 3) && lnMore (splC 32 s))
def kwS (k : Int) : List UInt8 := if k = 1 then wFifo else if k = 2 then wPrio else if k = 3 then wRob else if k = 4 then wDef else if k = 5 then wSlots else []
def lstW (x : Int) : List UInt8 := if 0 ≤ x then Lib.decDigits x.toNat else [45]
def lstS (l : List Int) : List UInt8 := Lib.join (l.map lstW) [44]
def fmtRest (L : Ln) : List (List UInt8) := if L.kind = 1 then [] else if L.kind = 2 then [Lib.decDigits L.n.toNat] else if L.kind = 3 ∨ L.kind = 4 then [lstS L.w] else [Lib.decDigits L.n.toNat, lstS L.tb]
def fmtWords (name : List UInt8) (L : Ln) : List (List UInt8) := [wLine, name, kwS L.kind, Lib.decDigits L.cap.toNat] ++ fmtRest L
/-- why a line has no text; its text -/
def fmtE (name : List UInt8) (L : Ln) : Int := if wordB name = false then 4 else if chkL L ≠ 0 then chkL L else if L.kind = 1 ∧ L.n ≠ 1 then 6 else 0
def fmtL (name : List UInt8) (L : Ln) : List UInt8 := if fmtE name L = 0 then Lib.join (fmtWords name L) [32] else []
theorem join_cons (x y : List UInt8) (r : List (List UInt8)) (sep : List UInt8) : Lib.join (x :: y :: r) sep = x ++ sep ++ Lib.join (y :: r) sep := by
 simp [Lib.join, List.intercalate, List.intersperse]
theorem join_le {k : Nat} : ∀ (xs : List (List UInt8)) (d : UInt8), (∀ x ∈ xs, x.length ≤ k) → (Lib.join xs [d]).length ≤ (k + 1) * xs.length
 | [], d, _ => by simp [Lib.join, List.intercalate]
 | [x], d, h => by
  have := h x (by simp)
  rw [show Lib.join [x] [d] = x by simp [Lib.join, List.intercalate]]
  simp only [List.length_cons, List.length_nil]
  omega
 | x :: y :: r, d, h => by
  have h1 := h x (by simp)
  have h2 := join_le (y :: r) d (fun z hz => h z (by simp [hz]))
  rw [join_cons, List.length_append, List.length_append, @List.length_cons _ _ (y :: r), Nat.mul_succ]
  simp only [List.length_cons, List.length_nil] at h2 ⊢
  omega
theorem decD_le : ∀ (k u : Nat), 1 ≤ k → u < 10 ^ k → (Lib.decDigits u).length ≤ k
 | 0, _, h, _ => absurd h (by decide)
 | k + 1, u, _, h => by
  by_cases h1 : u < 10
  ·rw [dec_one h1]; exact Nat.succ_le_succ (Nat.zero_le _)
  ·rw [dec_step h1, List.length_append]
   have hk : 1 ≤ k := by
    rcases Nat.eq_zero_or_pos k with rfl | h2
    ·exact absurd h (by omega)
    ·exact h2
   have := decD_le k (u / 10) hk (by rw [Nat.pow_succ] at h; omega)
   simp only [List.length_cons, List.length_nil]
   omega
theorem lstS_le {l : List Int} (h : ∀ x ∈ l, x ≤ 999999) : (lstS l).length ≤ 8 * l.length := by
 have := join_le (k := 7) (l.map lstW) 44 (fun w hw => by
  obtain ⟨x, hx, rfl⟩ := List.mem_map.1 hw
  unfold lstW
  split
  ·exact Nat.le_trans (decD_le 6 _ (by decide) (by have := h x hx; omega)) (by decide)
  ·decide)
 rw [List.length_map] at this
 exact this
theorem within_mem {l : List Int} {lo hi : Int} (h : withinB l lo hi = true) : ∀ x ∈ l, lo ≤ x ∧ x ≤ hi := fun x hx => by
 unfold withinB at h
 have := List.all_eq_true.1 h x hx
 simpa using this
theorem chk_flat {L : Ln} (h : chkL L = 0) (hk : L.kind = 1 ∨ L.kind = 2) : L.w = [] ∧ L.tb = [] := by
 have := (chk_facts h).2.2.2.2.2
 unfold lchkL at this
 rw [if_neg (by omega), if_neg (by omega), if_neg (by omega)] at this
 obtain ⟨_, h2⟩ := lists_zero this
 exact ⟨h2 _ (by simp), h2 _ (by simp)⟩
theorem fmt_le6 {name : List UInt8} {L : Ln} (hn : wordB name = true) (h : chkL L = 0) : (Lib.join (fmtWords name L) [32]).length ≤ 6006 := by
 obtain ⟨hkk, hcp1, hcp2, hn1, hn6, _⟩ := chk_facts h
 have hnl : name.length ≤ 12 := (of_decide_eq_true hn).2.1
 have hk : (kwS L.kind).length ≤ 8 := by unfold kwS; (repeat' split) <;> decide
 have hd1 : (Lib.decDigits L.cap.toNat).length ≤ 4 := decD_le 4 _ (by decide) (by omega)
 have hd2 : (Lib.decDigits L.n.toNat).length ≤ 4 := decD_le 4 _ (by decide) (by omega)
 have hws : ∀ x ∈ fmtWords name L, x.length ≤ 1000 := by
  intro x hx
  unfold fmtWords at hx
  rcases List.mem_append.1 hx with hx | hx
  ·simp only [List.mem_cons, List.not_mem_nil, or_false] at hx
   rcases hx with rfl | rfl | rfl | rfl
   ·decide
   ·omega
   ·omega
   ·omega
  ·unfold fmtRest at hx
   split at hx
   ·simp at hx
   ·split at hx
    ·rw [List.mem_singleton.1 hx]; omega
    ·split at hx
     ·rename_i h3
      rw [List.mem_singleton.1 hx]
      have hr : (L.w.length : Int) = L.n ∧ ∀ x ∈ L.w, x ≤ 999999 := by
       rcases h3 with h3 | h3
       ·obtain ⟨h4, h5, _⟩ := chk_rob h h3
        exact ⟨h4, fun x hx => by have := within_mem h5 x hx; omega⟩
       ·obtain ⟨h4, h5, _⟩ := chk_def h h3
        exact ⟨h4, fun x hx => by have := within_mem h5 x hx; omega⟩
      have := lstS_le hr.2
      omega
     ·have h5 : L.kind = 5 := by omega
      obtain ⟨h6, h7, _⟩ := chk_times h h5
      have := lstS_le (fun x hx => by have := within_mem h7 x hx; omega : ∀ x ∈ L.tb, x ≤ 999999)
      simp only [List.mem_cons, List.not_mem_nil, or_false] at hx
      rcases hx with rfl | rfl
      ·omega
      ·omega
 have hl : (fmtWords name L).length ≤ 6 := by
  unfold fmtWords fmtRest
  (repeat' split) <;> exact Nat.le_of_ble_eq_true rfl
 have h8 := join_le (k := 1000) _ 32 hws
 have h9 : 1001 * (fmtWords name L).length ≤ 1001 * 6 := Nat.mul_le_mul_left _ hl
 omega
theorem fmt_le {name : List UInt8} {L : Ln} (hn : wordB name = true) (h : chkL L = 0) : (Lib.join (fmtWords name L) [32]).length ≤ 140737488355328 := Nat.le_trans (fmt_le6 hn h) (by decide)
def frE (met : List (List UInt8)) (n : List UInt8) : Int := if wordB n = false then 4 else if n ∈ met then 60 else 0
def chkLs : List (List UInt8) → List (List UInt8 × Ln) → Int
  | _, [] => 0
  | met, x :: r => if frE met x.1 ≠ 0 then frE met x.1 else if chkL x.2 ≠ 0 then chkL x.2 else chkLs (met ++ [x.1]) r
/-- the first error of a network without flows -/
def chkNet0 (names : List (List UInt8)) (Ls : List Ln) : Int := if Ls.length = 0 ∨ 8 < Ls.length then 3 else if names.length ≠ Ls.length then 2 else chkLs [] (names.zip Ls)
def rowsT (rows : List (List UInt8)) : List UInt8 := (rows.map (· ++ [10])).flatten
def nmR (x : List UInt8) : List UInt8 := nth (splC 32 x) 1
def vlR (x : List UInt8) : Ln := lnVal (splC 32 x)
/-- the lines of the networks that keep draws -/
structure DrawP (k : Nat) (L : Ln) : Prop where
  cap : 4 ≤ L.cap ∧ L.cap ≤ 24
  n : L.n = k
  kind : 1 ≤ L.kind ∧ L.kind ≤ 5
  plain : L.kind = 1 ∨ L.kind = 2 → L.w = [] ∧ L.tb = []
  one : L.kind = 1 → k = 1
  rob : L.kind = 3 → L.w.length = k ∧ (∀ x ∈ L.w, 1 ≤ x ∧ x ≤ 3) ∧ L.tb = []
  defi : L.kind = 4 → L.w.length = k ∧ (∀ x ∈ L.w, 8 ≤ x ∧ x ≤ 20) ∧ L.tb = []
  slots : L.kind = 5 → L.w = [] ∧ k ≤ L.tb.length ∧ L.tb.length ≤ k + 2 ∧ ∀ x ∈ L.tb, -1 ≤ x ∧ x ≤ (k : Int) - 1
end Go.Proofs.YtmidibkljoaoiaaGreatDoor.M

/- A line is read back from its text. Plain. No condition. -/
namespace Go.Proofs.YtmidibkljoaoiaaGreatDoor.M
open Go Go.Proofs.YtmidibkljoaoiaaGreatDoor.K
theorem splC_join (d : UInt8) : ∀ xs : List (List UInt8), xs ≠ [] → (∀ x ∈ xs, ∀ c ∈ x, c ≠ d) → splC d (Lib.join xs [d]) = xs
 | [], h, _ => absurd rfl h
 | [x], _, h => by
  rw [show Lib.join [x] [d] = x by simp [Lib.join, List.intercalate]]
  exact (splC_word x [] (h x (by simp))).2
 | x :: y :: r, _, h => by
  rw [join_cons, List.append_assoc]
  show splC d (x ++ d :: Lib.join (y :: r) [d]) = _
  rw [(splC_word x _ (h x (by simp))).1, splC_join d (y :: r) (by simp) (fun z hz => h z (by simp [hz]))]
theorem num9_dec {u : Nat} (h : u < 1000000000) : num9 (Lib.decDigits u) = true ∧ num9V (Lib.decDigits u) = u := by
 have h1 : num9 (Lib.decDigits u) = true := by
  unfold num9
  rw [digs_dec, Bool.true_and]
  exact decide_eq_true (decD_le 9 u (by decide) (by omega))
 exact ⟨h1, by unfold num9V; rw [if_pos h1, numV_dec]⟩
theorem dec_ne45 (u : Nat) : ∀ c ∈ Lib.decDigits u, 48 ≤ c.toNat ∧ c.toNat ≤ 57 := fun c hc => (digs_mem (digs_dec u)).2 c hc
theorem lstW_read {fr : Bool} {x : Int} (h : -1 ≤ x ∧ x < 1000000000) (hf : x = -1 → fr = true) : okN9 fr (lstW x) = true ∧ valN9 fr (lstW x) = x := by
 unfold lstW
 split
 ·rename_i h0
  obtain ⟨h1, h2⟩ := num9_dec (u := x.toNat) (by omega)
  have h3 : (fr && decide (Lib.decDigits x.toNat = [45])) = false := by
   rw [Bool.and_eq_false_iff, decide_eq_false_iff_not]
   right
   intro e
   have := dec_ne45 x.toNat 45 (by rw [e]; simp)
   exact absurd this.1 (by decide)
  unfold okN9 valN9
  rw [h1, h2, h3]
  exact ⟨rfl, by rw [if_neg (by decide)]; omega⟩
 ·rename_i h0
  have hx : x = -1 := by omega
  subst hx
  unfold okN9 valN9
  rw [hf rfl]
  exact ⟨rfl, rfl⟩
theorem lstW_no44 (x : Int) : ∀ c ∈ lstW x, c ≠ 44 ∧ c ≠ 32 ∧ c ≠ 10 := fun c hc => by
 unfold lstW at hc
 split at hc
 ·have := dec_ne45 x.toNat c hc
  refine ⟨?_, ?_, ?_⟩ <;> (intro e; subst e; exact absurd this.1 (by decide))
 ·rw [List.mem_singleton.1 hc]; decide
theorem nums_read {fr : Bool} {l : List Int} (h0 : l ≠ []) (h : ∀ x ∈ l, (-1 ≤ x ∧ x < 1000000000) ∧ (x = -1 → fr = true)) : numsO fr (lstS l) = true ∧ numsL fr (lstS l) = l := by
 have hs : splC 44 (lstS l) = l.map lstW := splC_join 44 _ (fun e => h0 (List.map_eq_nil_iff.1 e)) (fun w hw c hc => by
  obtain ⟨x, _, rfl⟩ := List.mem_map.1 hw
  exact (lstW_no44 x c hc).1)
 have h1 : numsO fr (lstS l) = true := by
  unfold numsO
  rw [hs, List.all_eq_true]
  intro w hw
  obtain ⟨x, hx, rfl⟩ := List.mem_map.1 hw
  exact (lstW_read (h x hx).1 (h x hx).2).1
 refine ⟨h1, ?_⟩
 unfold numsL
 rw [if_pos h1, hs, List.map_map]
 refine (List.map_congr_left (fun x hx => ?_)).trans (List.map_id' l)
 exact (lstW_read (h x hx).1 (h x hx).2).2
theorem word_no {s : List UInt8} (h : wordB s = true) : ∀ c ∈ s, c ≠ 32 ∧ c ≠ 10 := fun c hc => by
 obtain ⟨i, hi, rfl⟩ := List.getElem_of_mem hc
 have h4 := (of_decide_eq_true h).2.2.2 i hi
 have eb : byteAt s i = ((s[i]).toNat : Int) := by unfold byteAt List.getD; rw [List.getElem?_eq_getElem hi]; rfl
 unfold wordOk at h4
 rw [eb] at h4
 refine ⟨?_, ?_⟩ <;> (intro e; rw [e] at h4; exact absurd h4 (by decide))
theorem join_no {d : UInt8} {p : UInt8 → Prop} (hd : p d) : ∀ xs : List (List UInt8), (∀ x ∈ xs, ∀ c ∈ x, p c) → ∀ c ∈ Lib.join xs [d], p c
 | [], _, c, hc => by simp [Lib.join, List.intercalate] at hc
 | [x], h, c, hc => by
  rw [show Lib.join [x] [d] = x by simp [Lib.join, List.intercalate]] at hc
  exact h x (by simp) c hc
 | x :: y :: r, h, c, hc => by
  rw [join_cons] at hc
  rcases List.mem_append.1 hc with hc | hc
  ·rcases List.mem_append.1 hc with hc | hc
   ·exact h x (by simp) c hc
   ·rw [List.mem_singleton.1 hc]; exact hd
  ·exact join_no hd (y :: r) (fun z hz => h z (by simp [hz])) c hc
theorem lstS_no (l : List Int) : ∀ c ∈ lstS l, c ≠ 32 ∧ c ≠ 10 := join_no (by decide) _ (fun w hw c hc => by
 obtain ⟨x, _, rfl⟩ := List.mem_map.1 hw
 exact (lstW_no44 x c hc).2)
theorem dec_no2 (u : Nat) : ∀ c ∈ Lib.decDigits u, c ≠ 32 ∧ c ≠ 10 := fun c hc => by
 have := dec_ne45 u c hc
 refine ⟨?_, ?_⟩ <;> (intro e; subst e; exact absurd this.1 (by decide))
theorem kwS_no (k : Int) : ∀ c ∈ kwS k, c ≠ 32 ∧ c ≠ 10 := by
 unfold kwS
 (repeat' split) <;> decide
theorem words_no {name : List UInt8} {L : Ln} (h : wordB name = true) : ∀ x ∈ fmtWords name L, ∀ c ∈ x, c ≠ 32 ∧ c ≠ 10 := by
 intro x hx
 unfold fmtWords fmtRest at hx
 rcases List.mem_append.1 hx with hx | hx
 ·simp only [List.mem_cons, List.not_mem_nil, or_false] at hx
  rcases hx with rfl | rfl | rfl | rfl
  ·decide
  ·exact word_no h
  ·exact kwS_no _
  ·exact dec_no2 _
 ·(repeat' split at hx)
  ·simp at hx
  ·rw [List.mem_singleton.1 hx]; exact dec_no2 _
  ·rw [List.mem_singleton.1 hx]; exact lstS_no _
  ·simp only [List.mem_cons, List.not_mem_nil, or_false] at hx
   rcases hx with rfl | rfl
   ·exact dec_no2 _
   ·exact lstS_no _
theorem fmt_words {name : List UInt8} {L : Ln} (h : wordB name = true) (he : fmtE name L = 0) : splC 32 (fmtL name L) = fmtWords name L := by
 unfold fmtL
 rw [if_pos he]
 exact splC_join 32 _ (by unfold fmtWords; exact List.cons_ne_nil _ _) (fun x hx c hc => (words_no h x hx c hc).1)
theorem fmt_no10 {name : List UInt8} {L : Ln} (h : wordB name = true) (he : fmtE name L = 0) : ∀ c ∈ fmtL name L, c ≠ 10 := by
 unfold fmtL
 rw [if_pos he]
 exact join_no (by decide) _ (fun x hx c hc => (words_no h x hx c hc).2)
theorem fmtE_zero {name : List UInt8} {L : Ln} (hn : wordB name = true) (hc : chkL L = 0) (h1 : L.kind = 1 → L.n = 1) : fmtE name L = 0 := by
 unfold fmtE
 rw [if_neg (by rw [hn]; decide), if_neg (fun h => h hc), if_neg (fun h => h.2 (h1 h.1))]
theorem line_read {name : List UInt8} {L : Ln} (hn : wordB name = true) (hc : chkL L = 0) (h1 : L.kind = 1 → L.n = 1) : lineO (fmtL name L) = true ∧ vlR (fmtL name L) = L ∧ nmR (fmtL name L) = name := by
 have he := fmtE_zero hn hc h1
 obtain ⟨hkk, hcp1, hcp2, hn1, hn6, _⟩ := chk_facts hc
 obtain ⟨q1, q2⟩ := num9_dec (u := L.cap.toNat) (by omega)
 obtain ⟨q3, q4⟩ := num9_dec (u := L.n.toNat) (by omega)
 unfold lineO vlR nmR
 rw [fmt_words hn he]
 obtain ⟨kind, cap, nn, w, tb⟩ := L
 dsimp only at hkk hcp1 hcp2 hn1 hn6 h1 q1 q2 q3 q4
 have hcap : ((cap.toNat : Nat) : Int) = cap := by omega
 have hnn : ((nn.toNat : Nat) : Int) = nn := by omega
 have hh : ∀ r : List (List UInt8), lnHead ([wLine, name, kwS kind, Lib.decDigits cap.toNat] ++ r) = true := fun r => by
  unfold lnHead
  rw [decide_eq_true (show 4 ≤ ([wLine, name, kwS kind, Lib.decDigits cap.toNat] ++ r).length by simp), show nth ([wLine, name, kwS kind, Lib.decDigits cap.toNat] ++ r) 1 = name from rfl, hn]
  rfl
 have h3 : ∀ r : List (List UInt8), nth ([wLine, name, kwS kind, Lib.decDigits cap.toNat] ++ r) 3 = Lib.decDigits cap.toNat := fun _ => rfl
 have h2 : ∀ r : List (List UInt8), nth ([wLine, name, kwS kind, Lib.decDigits cap.toNat] ++ r) 2 = kwS kind := fun _ => rfl
 unfold fmtWords
 dsimp only
 rw [hh, h3, q1]
 refine ⟨?_, ?_, rfl⟩
 ·unfold lnMore fmtRest
  rw [h2]
  dsimp only
  rcases (show kind = 1 ∨ kind = 2 ∨ kind = 3 ∨ kind = 4 ∨ kind = 5 by omega) with rfl | rfl | rfl | rfl | rfl
  ·rfl
  ·show (true && (true && (true && num9 (Lib.decDigits nn.toNat)))) = true
   rw [q3]; rfl
  ·obtain ⟨r1, r2, r3⟩ := chk_rob hc rfl
   have := nums_read (fr := false) (l := w) (fun e => by subst e; simp at r1; omega) (fun x hx => by have := within_mem r2 x hx; exact ⟨by omega, fun e => by omega⟩)
   show (true && (true && (true && numsO false (lstS w)))) = true
   rw [this.1]; rfl
  ·obtain ⟨r1, r2, r3⟩ := chk_def hc rfl
   have := nums_read (fr := false) (l := w) (fun e => by subst e; simp at r1; omega) (fun x hx => by have := within_mem r2 x hx; exact ⟨by omega, fun e => by omega⟩)
   show (true && (true && (true && numsO false (lstS w)))) = true
   rw [this.1]; rfl
  ·obtain ⟨r1, r2, r3⟩ := chk_times hc rfl
   have := nums_read (fr := true) (l := tb) (fun e => by subst e; simp at r1) (fun x hx => by have := within_mem r2 x hx; dsimp only at this; exact ⟨by omega, fun _ => rfl⟩)
   show (true && (true && (true && (num9 (Lib.decDigits nn.toNat) && numsO true (lstS tb))))) = true
   rw [q3, this.1]; rfl
 ·unfold lnVal fmtRest
  rw [h2, h3, q2, hcap]
  dsimp only
  rcases (show kind = 1 ∨ kind = 2 ∨ kind = 3 ∨ kind = 4 ∨ kind = 5 by omega) with rfl | rfl | rfl | rfl | rfl
  ·obtain ⟨r1, r2⟩ := chk_flat hc (.inl rfl)
   dsimp only at r1 r2
   subst r1 r2
   have := h1 rfl
   subst this
   rfl
  ·obtain ⟨r1, r2⟩ := chk_flat hc (.inr rfl)
   dsimp only at r1 r2
   subst r1 r2
   show (⟨2, cap, (num9V (Lib.decDigits nn.toNat) : Int), [], []⟩ : Ln) = _
   rw [q4, hnn]
  ·obtain ⟨r1, r2, r3⟩ := chk_rob hc rfl
   have := nums_read (fr := false) (l := w) (fun e => by subst e; simp at r1; omega) (fun x hx => by have := within_mem r2 x hx; exact ⟨by omega, fun e => by omega⟩)
   dsimp only at r1 r3
   subst r3
   show (⟨3, cap, ((numsL false (lstS w)).length : Int), numsL false (lstS w), []⟩ : Ln) = _
   rw [this.2, r1]
  ·obtain ⟨r1, r2, r3⟩ := chk_def hc rfl
   have := nums_read (fr := false) (l := w) (fun e => by subst e; simp at r1; omega) (fun x hx => by have := within_mem r2 x hx; exact ⟨by omega, fun e => by omega⟩)
   dsimp only at r1 r3
   subst r3
   show (⟨4, cap, ((numsL false (lstS w)).length : Int), numsL false (lstS w), []⟩ : Ln) = _
   rw [this.2, r1]
  ·obtain ⟨r1, r2, r3⟩ := chk_times hc rfl
   have := nums_read (fr := true) (l := tb) (fun e => by subst e; simp at r1) (fun x hx => by have := within_mem r2 x hx; dsimp only at this; exact ⟨by omega, fun _ => rfl⟩)
   dsimp only at r3
   subst r3
   show (⟨5, cap, (num9V (Lib.decDigits nn.toNat) : Int), [], numsL true (lstS tb)⟩ : Ln) = _
   rw [q4, hnn, this.2]
theorem DrawP.chk {k : Nat} {L : Ln} (hk : k = 1 ∨ k = 2) (h : DrawP k L) : chkL L = 0 ∧ (L.kind = 1 → L.n = 1) := by
 have h1 := h.cap
 have h2 := h.n
 have h3 := h.kind
 refine ⟨?_, fun e => by have := h.one e; omega⟩
 unfold chkL
 rw [if_neg (by omega), if_neg (by omega)]
 unfold lchkL
 by_cases k3 : L.kind = 3
 ·rw [if_pos k3]
  obtain ⟨a, b, c⟩ := h.rob k3
  rw [a, c, h2, within_of (fun x hx => by have := b x hx; omega), decide_eq_true (rfl : (k : Int) = k)]; rfl
 ·rw [if_neg k3]
  by_cases k4 : L.kind = 4
  ·rw [if_pos k4]
   obtain ⟨a, b, c⟩ := h.defi k4
   rw [a, c, h2, within_of (fun x hx => by have := b x hx; omega), decide_eq_true (rfl : (k : Int) = k)]; rfl
  ·rw [if_neg k4]
   by_cases k5 : L.kind = 5
   ·rw [if_pos k5]
    obtain ⟨a, b, c, d⟩ := h.slots k5
    rw [a, h2, within_of (fun x hx => by have := d x hx; omega)]
    have e1 : decide (1 ≤ (L.tb.length : Int)) = true := decide_eq_true (by omega)
    have e2 : decide ((L.tb.length : Int) ≤ 40) = true := decide_eq_true (by omega)
    rw [e1, e2]; rfl
   ·rw [if_neg k5]
    obtain ⟨a, b⟩ := h.plain (by omega)
    rw [a, b]; rfl
def nm4 : List (List UInt8) := [[97], [98], [99], [100]]
theorem chkLs_ok : ∀ (xs : List (List UInt8 × Ln)) (met : List (List UInt8)), (∀ x ∈ xs, wordB x.1 = true ∧ chkL x.2 = 0) → (met ++ xs.map (·.1)).Nodup → chkLs met xs = 0
 | [], _, _, _ => rfl
 | x :: r, met, h, hd => by
  have hx := h x (by simp)
  have hn : x.1 ∉ met := fun hm => by
   rw [List.nodup_append] at hd
   exact hd.2.2 _ hm _ (by simp) rfl
  have hf : frE met x.1 = 0 := by unfold frE; rw [if_neg (by rw [hx.1]; decide), if_neg hn]
  rw [chkLs, if_neg (fun e => e hf), if_neg (fun e => e hx.2)]
  exact chkLs_ok r _ (fun y hy => h y (by simp [hy])) (by rw [List.append_assoc]; exact hd)
end Go.Proofs.YtmidibkljoaoiaaGreatDoor.M

/- The text of a network without flows. Plain; and a rule: what is owned may be dropped. No condition. -/
namespace Go.Proofs.YtmidibkljoaoiaaGreatDoor.K
open Go
theorem W.dropE {P : Program} {x : Code} {Q : Exit → Act → World → Prop} {n : Nat} {env : Env} {w0 : World} {R : Ro} {E E' : List Ent} (hE : E'.Sublist E) (h : W P x Q n env w0 R E') : W P x Q n env w0 R E := fun a w hk hm => h a w hk (hm.sub (RLe.refl _) hE)
end Go.Proofs.YtmidibkljoaoiaaGreatDoor.K
namespace Go.Proofs.YtmidibkljoaoiaaGreatDoor.M
open Go Go.Proofs.YtmidibkljoaoiaaGreatDoor.K
instance instLnI : Inhabited Ln := ⟨⟨0, 0, 0, [], []⟩⟩
def rowX (x : List UInt8 × Ln) : List UInt8 := fmtL x.1 x.2
def fmtErr : List (List UInt8 × Ln) → Int
  | [] => 0
  | x :: r => if fmtE x.1 x.2 ≠ 0 then fmtE x.1 x.2 else fmtErr r
/-- the text of a network without flows, and its error -/
def fmtN0 (names : List (List UInt8)) (Ls : List Ln) : List UInt8 × Int :=
  if chkNet0 names Ls ≠ 0 then ([], chkNet0 names Ls)
  else if fmtErr (names.zip Ls) ≠ 0 then ([], fmtErr (names.zip Ls))
  else if 4000 < (rowsT ((names.zip Ls).map rowX)).length then ([], 3) else (rowsT ((names.zip Ls).map rowX), 0)
theorem chkLs_zero : ∀ (xs : List (List UInt8 × Ln)) (met : List (List UInt8)), chkLs met xs = 0 → ∀ x ∈ xs, wordB x.1 = true ∧ chkL x.2 = 0
 | [], _, _, x, hx => by cases hx
 | y :: r, met, h, x, hx => by
  rw [chkLs] at h
  by_cases h1 : frE met y.1 ≠ 0
  ·rw [if_pos h1] at h; exact absurd h h1
  ·rw [if_neg h1] at h
   by_cases h2 : chkL y.2 ≠ 0
   ·rw [if_pos h2] at h; exact absurd h h2
   ·rw [if_neg h2] at h
    rcases List.mem_cons.1 hx with rfl | hx
    ·refine ⟨?_, Classical.not_not.1 h2⟩
     have h3 := Classical.not_not.1 h1
     unfold frE at h3
     by_cases h4 : wordB x.1 = false
     ·rw [if_pos h4] at h3; cases h3
     ·simpa using h4
    ·exact chkLs_zero r _ h x hx
theorem fmtL_le (n : List UInt8) (L : Ln) : (fmtL n L).length ≤ 6006 := by
 unfold fmtL
 split
 ·rename_i h
  unfold fmtE at h
  by_cases h1 : wordB n = false
  ·rw [if_pos h1] at h; cases h
  ·rw [if_neg h1] at h
   by_cases h2 : chkL L ≠ 0
   ·rw [if_pos h2] at h; exact absurd h h2
   ·exact fmt_le6 (by simpa using h1) (Classical.not_not.1 h2)
 ·exact Nat.zero_le _
theorem rowsT_snoc (rows : List (List UInt8)) (x : List UInt8) : rowsT (rows ++ [x]) = rowsT rows ++ (x ++ [10]) := by
 unfold rowsT
 rw [List.map_append, List.flatten_append]
 simp
end Go.Proofs.YtmidibkljoaoiaaGreatDoor.M

/- Flows of networks: what is right of them. Plain. No condition. -/
namespace Go.Proofs.YtmidibkljoaoiaaGreatDoor.M
open Go Go.Proofs.YtmidibkljoaoiaaGreatDoor.K
structure Fl where
  name : List UInt8
  route : List Int
  cls : Int
  lo : Int
  hi : Int
  cv : Cv
instance instFl : Inhabited Fl := ⟨⟨[], [], 0, 0, 0, zcv⟩⟩
/-- a flow in memory -/
structure FlM where
  a1 : Option Addr
  c1 : Nat
  a2 : Option Addr
  c2 : Nat
  f : Fl
instance instFlM : Inhabited FlM := ⟨⟨none, 0, none, 0, default⟩⟩
def FlM.nm (m : FlM) : List UInt8 := m.f.name
def encFl (m : FlM) : List Value := [.string (str m.f.name), .slice m.a1 m.f.route.length m.c1, .int .i64 m.f.cls, .int .i64 m.f.lo, .int .i64 m.f.hi, .slice m.a2 m.f.cv.vals.length m.c2, .int .i64 m.f.cv.per, .int .i64 m.f.cv.inc]
structure OkFl (R : Ro) (m : FlM) : Prop where
  route : K.RS R 1 encI m.a1 m.f.route
  vals : K.RS R 1 encI m.a2 m.f.cv.vals
  len : m.f.cv.vals.length ≤ 9223372036854775807
  name : m.f.name.length ≤ 9223372036854775807
theorem OkFl.mono {R R' : Ro} {m : FlM} (h : OkFl R m) (hR : RLe R R') : OkFl R' m := ⟨h.route.mono hR, h.vals.mono hR, h.len, h.name⟩
/-- a list of flows that may be read: immutable or one's own -/
structure LsF (R : Ro) (E : List Ent) (la : Option Addr) (l : List FlM) : Prop where
  rd : ∀ i, i < l.length → Rd R E (eaddr la 8 i) (encFl (nth l i))
  has : HasMem R E la l.length
  len : l.length ≤ 9223372036854775807
theorem LsF.sub {R R' : Ro} {E E' : List Ent} {la : Option Addr} {l : List FlM} (h : LsF R E la l) (hR : RLe R R') (hE : E.Sublist E') : LsF R' E' la l :=
 ⟨fun i hi w0 w hm => h.rd i hi w0 w (hm.sub hR hE), fun w0 w hm => h.has w0 w (hm.sub hR hE), h.len⟩
theorem LsF.ro {R : Ro} {E : List Ent} {la : Option Addr} {l : List FlM} (h : K.RS R 8 encFl la l) : LsF R E la l := ⟨fun _ hi => RS.rdD h hi, RS.has h, h.len⟩
theorem LsF.own {R : Ro} {E : List Ent} {la : Option Addr} {l : List FlM} {e cap : Nat} (i : Nat) (h : E[i]? = some (.sl e 8 la cap (l.map encFl))) (hl : l.length ≤ 1000000) : LsF R E la l := ⟨fun _ hj => Rd.slD i h hj, HasMem.ownD i h, by omega⟩
def routeGo (ls : List Ln) (cl : Int) : List Int → List Int → Int
  | _, [] => 0
  | met, l :: r => if l < 0 ∨ (ls.length : Int) ≤ l then 2 else if l ∈ met then 60 else if cl < 0 ∨ (nth ls l.toNat).n ≤ cl then 2 else routeGo ls cl (met ++ [l]) r
def routeE (ls : List Ln) (f : Fl) : Int := if f.route.length = 0 then 5 else if 4 < f.route.length then 3 else routeGo ls f.cls [] f.route
def trafE (f : Fl) : Int := if f.lo < 1 ∨ f.hi < f.lo ∨ 1500 < f.hi then 2 else if validB f.cv = false then 1 else if nth f.cv.vals 0 ≠ 0 then 6 else if finB f.cv = false then 2 else 0
def flE (met : List (List UInt8)) (ls : List Ln) (f : Fl) : Int := if frE met f.name ≠ 0 then frE met f.name else if routeE ls f ≠ 0 then routeE ls f else trafE f
def chkFs (ls : List Ln) : List (List UInt8) → List Fl → Int
  | _, [] => 0
  | met, f :: r => if flE met ls f ≠ 0 then flE met ls f else chkFs ls (met ++ [f.name]) r
/-- the first error of a network -/
def chkNet (names : List (List UInt8)) (Ls : List Ln) (Fs : List Fl) : Int := if Ls.length = 0 ∨ 8 < Ls.length ∨ 10 < Fs.length then 3 else if names.length ≠ Ls.length then 2 else if chkLs [] (names.zip Ls) ≠ 0 then chkLs [] (names.zip Ls) else chkFs Ls [] Fs
theorem chkNet_nil (names : List (List UInt8)) (Ls : List Ln) : chkNet names Ls [] = chkNet0 names Ls := by
 unfold chkNet chkNet0
 simp only [List.length_nil, Nat.not_lt_zero, or_false]
 split
 ·rfl
 ·split
  ·rfl
  ·by_cases h : chkLs [] (names.zip Ls) = 0
   ·rw [if_neg (fun h2 => h2 h), h]; rfl
   ·rw [if_pos h]
theorem routeGo_zero {ls : List Ln} {cl : Int} : ∀ (r met : List Int), routeGo ls cl met r = 0 → (∀ l ∈ r, (0 ≤ l ∧ l < ls.length) ∧ l ∉ met ∧ 0 ≤ cl ∧ cl < (nth ls l.toNat).n) ∧ r.Nodup
 | [], _, _ => ⟨fun l h => (by cases h), List.nodup_nil⟩
 | x :: r, met, h => by
  rw [routeGo] at h
  by_cases h1 : x < 0 ∨ (ls.length : Int) ≤ x
  ·rw [if_pos h1] at h; cases h
  ·rw [if_neg h1] at h
   by_cases h2 : x ∈ met
   ·rw [if_pos h2] at h; cases h
   ·rw [if_neg h2] at h
    by_cases h3 : cl < 0 ∨ (nth ls x.toNat).n ≤ cl
    ·rw [if_pos h3] at h; cases h
    ·rw [if_neg h3] at h
     obtain ⟨h4, h5⟩ := routeGo_zero r _ h
     refine ⟨fun l hl => ?_, List.nodup_cons.2 ⟨fun hx => (h4 x hx).2.1 (by simp), h5⟩⟩
     rcases List.mem_cons.1 hl with rfl | hl
     ·exact ⟨by omega, h2, by omega⟩
     ·obtain ⟨a, b, c⟩ := h4 l hl
      exact ⟨a, fun hm => b (by simp [hm]), c⟩
structure FlRight (ls : List Ln) (f : Fl) : Prop where
  word : wordB f.name = true
  len : 1 ≤ f.route.length ∧ f.route.length ≤ 4
  route : ∀ l ∈ f.route, (0 ≤ l ∧ l < ls.length) ∧ 0 ≤ f.cls ∧ f.cls < (nth ls l.toNat).n
  nodup : f.route.Nodup
  cls : 0 ≤ f.cls
  sizes : 1 ≤ f.lo ∧ f.lo ≤ f.hi ∧ f.hi ≤ 1500
  valid : validB f.cv = true
  zero : nth f.cv.vals 0 = 0
  fin : finB f.cv = true
theorem frE_zero {met : List (List UInt8)} {n : List UInt8} (h : frE met n = 0) : wordB n = true ∧ n ∉ met := by
 unfold frE at h
 by_cases h1 : wordB n = false
 ·rw [if_pos h1] at h; cases h
 ·rw [if_neg h1] at h
  by_cases h2 : n ∈ met
  ·rw [if_pos h2] at h; cases h
  ·exact ⟨by simpa using h1, h2⟩
theorem flE_zero {met : List (List UInt8)} {ls : List Ln} {f : Fl} (h : flE met ls f = 0) : FlRight ls f ∧ f.name ∉ met := by
 unfold flE at h
 by_cases h1 : frE met f.name ≠ 0
 ·rw [if_pos h1] at h; exact absurd h h1
 ·rw [if_neg h1] at h
  by_cases h2 : routeE ls f ≠ 0
  ·rw [if_pos h2] at h; exact absurd h h2
  ·rw [if_neg h2] at h
   obtain ⟨a1, a2⟩ := frE_zero (Classical.not_not.1 h1)
   have hr := Classical.not_not.1 h2
   unfold routeE at hr
   by_cases h3 : f.route.length = 0
   ·rw [if_pos h3] at hr; cases hr
   ·rw [if_neg h3] at hr
    by_cases h4 : 4 < f.route.length
    ·rw [if_pos h4] at hr; cases hr
    ·rw [if_neg h4] at hr
     obtain ⟨b1, b2⟩ := routeGo_zero _ _ hr
     unfold trafE at h
     by_cases h5 : f.lo < 1 ∨ f.hi < f.lo ∨ 1500 < f.hi
     ·rw [if_pos h5] at h; cases h
     ·rw [if_neg h5] at h
      by_cases h6 : validB f.cv = false
      ·rw [if_pos h6] at h; cases h
      ·rw [if_neg h6] at h
       by_cases h7 : nth f.cv.vals 0 ≠ 0
       ·rw [if_pos h7] at h; cases h
       ·rw [if_neg h7] at h
        by_cases h8 : finB f.cv = false
        ·rw [if_pos h8] at h; cases h
        ·refine ⟨⟨a1, by omega, fun l hl => ⟨(b1 l hl).1, (b1 l hl).2.2⟩, b2, ?_, by omega, by simpa using h6, Classical.not_not.1 h7, by simpa using h8⟩, a2⟩
         exact (b1 _ (nth_mem (show 0 < f.route.length by omega))).2.2.1
theorem chkFs_zero {ls : List Ln} : ∀ (fs : List Fl) (met : List (List UInt8)), chkFs ls met fs = 0 → ∀ f ∈ fs, FlRight ls f ∧ f.name ∉ met
 | [], _, _, f, hf => by cases hf
 | y :: r, met, h, f, hf => by
  rw [chkFs] at h
  by_cases h1 : flE met ls y ≠ 0
  ·rw [if_pos h1] at h; exact absurd h h1
  ·rw [if_neg h1] at h
   rcases List.mem_cons.1 hf with rfl | hf
   ·exact flE_zero (Classical.not_not.1 h1)
   ·obtain ⟨a, b⟩ := chkFs_zero r _ h f hf
    exact ⟨a, fun hm => b (by simp [hm])⟩
theorem chkNet_zero {names : List (List UInt8)} {Ls : List Ln} {Fs : List Fl} (h : chkNet names Ls Fs = 0) : (1 ≤ Ls.length ∧ Ls.length ≤ 8) ∧ Fs.length ≤ 10 ∧ names.length = Ls.length ∧ chkLs [] (names.zip Ls) = 0 ∧ chkFs Ls [] Fs = 0 := by
 unfold chkNet at h
 by_cases h1 : Ls.length = 0 ∨ 8 < Ls.length ∨ 10 < Fs.length
 ·rw [if_pos h1] at h; cases h
 ·rw [if_neg h1] at h
  by_cases h2 : names.length ≠ Ls.length
  ·rw [if_pos h2] at h; cases h
  ·rw [if_neg h2] at h
   by_cases h3 : chkLs [] (names.zip Ls) ≠ 0
   ·rw [if_pos h3] at h; exact absurd h h3
   ·rw [if_neg h3] at h
    exact ⟨by omega, by omega, by omega, Classical.not_not.1 h3, h⟩
theorem names_le {names : List (List UInt8)} {Ls : List Ln} (h : chkLs [] (names.zip Ls) = 0) (hl : names.length = Ls.length) : ∀ x ∈ names, x.length ≤ 12 ∧ wordB x = true := fun x hx => by
 obtain ⟨i, hi, rfl⟩ := List.getElem_of_mem hx
 have hz : i < (names.zip Ls).length := by rw [List.length_zip]; omega
 have := (chkLs_zero _ _ h _ (List.getElem_mem hz)).1
 rw [List.getElem_zip] at this
 exact ⟨(of_decide_eq_true this).2.1, this⟩
def wFlow : List UInt8 := [102, 108, 111, 119]
def wayL (names : List (List UInt8)) (route : List Int) : List (List UInt8) := route.map fun l => nth names l.toNat
def flWords (names : List (List UInt8)) (f : Fl) : List (List UInt8) := [wFlow, f.name, Lib.decDigits f.cls.toNat, Lib.decDigits f.lo.toNat, Lib.decDigits f.hi.toNat, Lib.join (wayL names f.route) [62], (formatR f.cv).1]
def fmtFE (names : List (List UInt8)) (Ls : List Ln) (f : Fl) : Int := if chkNet names Ls [f] ≠ 0 then chkNet names Ls [f] else (formatR f.cv).2
/-- the text of a flow -/
def fmtF (names : List (List UInt8)) (Ls : List Ln) (f : Fl) : List UInt8 := if fmtFE names Ls f = 0 then Lib.join (flWords names f) [32] else []
theorem fmtR_le (c : Cv) : (formatR c).1.length ≤ 4000 := by
 unfold formatR
 split
 ·exact Nat.zero_le _
 ·split
  ·exact Nat.zero_le _
  ·rename_i h; show (fmtC c).length ≤ 4000; omega
theorem way_le {names : List (List UInt8)} {Ls : List Ln} {f : Fl} (hn : ∀ x ∈ names, x.length ≤ 12 ∧ wordB x = true) (hr : FlRight Ls f) : (Lib.join (wayL names f.route) [62]).length ≤ 52 := by
 have h := join_le (k := 12) (wayL names f.route) 62 (fun x hx => by
  obtain ⟨l, hl, rfl⟩ := List.mem_map.1 hx
  by_cases h : l.toNat < names.length
  ·exact (hn _ (nth_mem h)).1
  ·rw [nth_out (by omega)]; exact Nat.zero_le _)
 have hw : (wayL names f.route).length = f.route.length := List.length_map ..
 have := hr.len
 rw [hw] at h
 omega
theorem fl_le {names : List (List UInt8)} {Ls : List Ln} {f : Fl} (hn : ∀ x ∈ names, x.length ≤ 12 ∧ wordB x = true) (hr : FlRight Ls f) (hls : ∀ m ∈ Ls, m.n ≤ 9999) (hnl : names.length = Ls.length) : (Lib.join (flWords names f) [32]).length ≤ 28007 := by
 have hnl12 : f.name.length ≤ 12 := (of_decide_eq_true hr.word).2.1
 have hw := way_le hn hr
 have hs := hr.sizes
 have hl := hr.len
 have hr0 := hr.route _ (nth_mem (show 0 < f.route.length by omega))
 have hcl : f.cls ≤ 9999 := by
  have h0 : (nth f.route 0).toNat < Ls.length := by omega
  have := hls _ (nth_mem h0)
  omega
 have d1 : (Lib.decDigits f.cls.toNat).length ≤ 4 := decD_le 4 _ (by decide) (by omega)
 have d2 : (Lib.decDigits f.lo.toNat).length ≤ 4 := decD_le 4 _ (by decide) (by omega)
 have d3 : (Lib.decDigits f.hi.toNat).length ≤ 4 := decD_le 4 _ (by decide) (by omega)
 have hf := fmtR_le f.cv
 have h := join_le (k := 4000) (flWords names f) 32 (fun x hx => by
  unfold flWords at hx
  simp only [List.mem_cons, List.not_mem_nil, or_false] at hx
  rcases hx with rfl | rfl | rfl | rfl | rfl | rfl | rfl
  ·decide
  all_goals omega)
 exact h
end Go.Proofs.YtmidibkljoaoiaaGreatDoor.M

/- The types and functions of this translation, as the rules want them. No condition. -/
namespace Go.Proofs.YtmidibkljoaoiaaGreatDoor
open Go Go.Proofs.YtmidibkljoaoiaaGreatDoor.K

def tab : Tab := [
  (1, ⟨.fn, 1, 8, [.nilFunc]⟩),
  (2, ⟨.int .i64, 1, 8, [.int .i64 0]⟩),
  (3, ⟨.int .i64, 1, 8, [.int .i64 0]⟩),
  (4, ⟨.bool, 1, 1, [.bool false]⟩),
  (5, ⟨.int .u8, 1, 1, [.int .u8 0]⟩),
  (6, ⟨.int .u8, 1, 1, [.int .u8 0]⟩),
  (7, ⟨.strct [(0, 1), (1, 1), (2, 1), (3, 1)], 4, 24, [.int .i64 0, .int .i64 0, .bool false, .int .u8 0]⟩),
  (8, ⟨.strct [(0, 1), (1, 1), (2, 1), (3, 1)], 4, 24, [.int .i64 0, .int .i64 0, .bool false, .int .u8 0]⟩),
  (9, ⟨.str, 1, 16, [.string ⟨#[]⟩]⟩),
  (10, ⟨.str, 1, 16, [.string ⟨#[]⟩]⟩),
  (11, ⟨.str, 1, 16, [.string ⟨#[]⟩]⟩),
  (12, ⟨.int .u64, 1, 8, [.int .u64 0]⟩),
  (13, ⟨.strct [(0, 1), (1, 1)], 2, 24, [.string ⟨#[]⟩, .int .u64 0]⟩),
  (14, ⟨.strct [(0, 1), (1, 1)], 2, 24, [.string ⟨#[]⟩, .int .u64 0]⟩),
  (15, ⟨.ptr 198, 1, 8, [.pointer .none]⟩),
  (16, ⟨.ptr 201, 1, 8, [.pointer .none]⟩),
  (17, ⟨.ptr 208, 1, 8, [.pointer .none]⟩),
  (18, ⟨.strct [(0, 1)], 1, 8, [.pointer .none]⟩),
  (19, ⟨.strct [(0, 1)], 1, 8, [.pointer .none]⟩),
  (20, ⟨.iface, 1, 16, [.nilIface]⟩),
  (21, ⟨.int .i32, 1, 4, [.int .i32 0]⟩),
  (22, ⟨.slice 3, 1, 24, [.slice .none 0 0]⟩),
  (23, ⟨.slice 9, 1, 24, [.slice .none 0 0]⟩),
  (24, ⟨.slice 29, 1, 24, [.slice .none 0 0]⟩),
  (25, ⟨.slice 35, 1, 24, [.slice .none 0 0]⟩),
  (26, ⟨.strct [(0, 1), (1, 1), (2, 1)], 3, 72, [.slice .none 0 0, .slice .none 0 0, .slice .none 0 0]⟩),
  (27, ⟨.strct [(0, 1), (1, 1), (2, 1)], 3, 72, [.slice .none 0 0, .slice .none 0 0, .slice .none 0 0]⟩),
  (28, ⟨.strct [(0, 1), (1, 1), (2, 1), (3, 1), (4, 1)], 5, 72, [.int .i64 0, .int .i64 0, .int .i64 0, .slice .none 0 0, .slice .none 0 0]⟩),
  (29, ⟨.strct [(0, 1), (1, 1), (2, 1), (3, 1), (4, 1)], 5, 72, [.int .i64 0, .int .i64 0, .int .i64 0, .slice .none 0 0, .slice .none 0 0]⟩),
  (30, ⟨.strct [(0, 1), (1, 1)], 2, 16, [.int .i64 0, .int .i64 0]⟩),
  (31, ⟨.strct [(0, 1), (1, 1)], 2, 16, [.int .i64 0, .int .i64 0]⟩),
  (32, ⟨.strct [(0, 1), (1, 1), (2, 1)], 3, 40, [.slice .none 0 0, .int .i64 0, .int .i64 0]⟩),
  (33, ⟨.strct [(0, 1), (1, 1), (2, 1)], 3, 40, [.slice .none 0 0, .int .i64 0, .int .i64 0]⟩),
  (34, ⟨.strct [(0, 1), (1, 1), (2, 1), (3, 2), (5, 3)], 8, 104, [.string ⟨#[]⟩, .slice .none 0 0, .int .i64 0, .int .i64 0, .int .i64 0, .slice .none 0 0, .int .i64 0, .int .i64 0]⟩),
  (35, ⟨.strct [(0, 1), (1, 1), (2, 1), (3, 2), (5, 3)], 8, 104, [.string ⟨#[]⟩, .slice .none 0 0, .int .i64 0, .int .i64 0, .int .i64 0, .slice .none 0 0, .int .i64 0, .int .i64 0]⟩),
  (36, ⟨.fn, 1, 8, [.nilFunc]⟩),
  (37, ⟨.ptr 62, 1, 8, [.pointer .none]⟩),
  (38, ⟨.fn, 1, 8, [.nilFunc]⟩),
  (39, ⟨.fn, 1, 8, [.nilFunc]⟩),
  (40, ⟨.int .i64, 1, 8, [.int .i64 0]⟩),
  (42, ⟨.fn, 1, 8, [.nilFunc]⟩),
  (43, ⟨.fn, 1, 8, [.nilFunc]⟩),
  (44, ⟨.arr 3 27, 9, 216, [.slice .none 0 0, .slice .none 0 0, .slice .none 0 0, .slice .none 0 0, .slice .none 0 0, .slice .none 0 0, .slice .none 0 0, .slice .none 0 0, .slice .none 0 0]⟩),
  (45, ⟨.fn, 1, 8, [.nilFunc]⟩),
  (46, ⟨.fn, 1, 8, [.nilFunc]⟩),
  (47, ⟨.fn, 1, 8, [.nilFunc]⟩),
  (48, ⟨.fn, 1, 8, [.nilFunc]⟩),
  (49, ⟨.arr 4 9, 4, 64, [.string ⟨#[]⟩, .string ⟨#[]⟩, .string ⟨#[]⟩, .string ⟨#[]⟩]⟩),
  (51, ⟨.fn, 1, 8, [.nilFunc]⟩),
  (52, ⟨.fn, 1, 8, [.nilFunc]⟩),
  (53, ⟨.fn, 1, 8, [.nilFunc]⟩),
  (54, ⟨.fn, 1, 8, [.nilFunc]⟩),
  (55, ⟨.fn, 1, 8, [.nilFunc]⟩),
  (56, ⟨.fn, 1, 8, [.nilFunc]⟩),
  (57, ⟨.fn, 1, 8, [.nilFunc]⟩),
  (58, ⟨.int .i8, 1, 1, [.int .i8 0]⟩),
  (59, ⟨.fn, 1, 8, [.nilFunc]⟩),
  (60, ⟨.fn, 1, 8, [.nilFunc]⟩),
  (61, ⟨.strct [(0, 1), (1, 1)], 2, 32, [.slice .none 0 0, .int .i64 0]⟩),
  (62, ⟨.strct [(0, 1), (1, 1)], 2, 32, [.slice .none 0 0, .int .i64 0]⟩),
  (63, ⟨.fn, 1, 8, [.nilFunc]⟩),
  (64, ⟨.fn, 1, 8, [.nilFunc]⟩),
  (65, ⟨.fn, 1, 8, [.nilFunc]⟩),
  (66, ⟨.fn, 1, 8, [.nilFunc]⟩),
  (67, ⟨.fn, 1, 8, [.nilFunc]⟩),
  (68, ⟨.ptr 35, 1, 8, [.pointer .none]⟩),
  (69, ⟨.fn, 1, 8, [.nilFunc]⟩),
  (70, ⟨.fn, 1, 8, [.nilFunc]⟩),
  (71, ⟨.slice 33, 1, 24, [.slice .none 0 0]⟩),
  (72, ⟨.ptr 75, 1, 8, [.pointer .none]⟩),
  (73, ⟨.slice 5, 1, 24, [.slice .none 0 0]⟩),
  (74, ⟨.strct [(0, 1), (1, 1)], 2, 32, [.pointer .none, .slice .none 0 0]⟩),
  (75, ⟨.strct [(0, 1), (1, 1)], 2, 32, [.pointer .none, .slice .none 0 0]⟩),
  (76, ⟨.iface, 1, 16, [.nilIface]⟩),
  (77, ⟨.iface, 1, 16, [.nilIface]⟩),
  (79, ⟨.fn, 1, 8, [.nilFunc]⟩),
  (80, ⟨.fn, 1, 8, [.nilFunc]⟩),
  (81, ⟨.fn, 1, 8, [.nilFunc]⟩),
  (82, ⟨.fn, 1, 8, [.nilFunc]⟩),
  (83, ⟨.fn, 1, 8, [.nilFunc]⟩),
  (84, ⟨.fn, 1, 8, [.nilFunc]⟩),
  (85, ⟨.fn, 1, 8, [.nilFunc]⟩),
  (86, ⟨.fn, 1, 8, [.nilFunc]⟩),
  (87, ⟨.fn, 1, 8, [.nilFunc]⟩),
  (89, ⟨.fn, 1, 8, [.nilFunc]⟩),
  (91, ⟨.fn, 1, 8, [.nilFunc]⟩),
  (92, ⟨.fn, 1, 8, [.nilFunc]⟩),
  (93, ⟨.ptr 27, 1, 8, [.pointer .none]⟩),
  (94, ⟨.fn, 1, 8, [.nilFunc]⟩),
  (96, ⟨.fn, 1, 8, [.nilFunc]⟩),
  (97, ⟨.fn, 1, 8, [.nilFunc]⟩),
  (98, ⟨.fn, 1, 8, [.nilFunc]⟩),
  (99, ⟨.fn, 1, 8, [.nilFunc]⟩),
  (100, ⟨.fn, 1, 8, [.nilFunc]⟩),
  (101, ⟨.fn, 1, 8, [.nilFunc]⟩),
  (102, ⟨.map 9 4, 1, 8, [.map .none]⟩),
  (103, ⟨.fn, 1, 8, [.nilFunc]⟩),
  (104, ⟨.fn, 1, 8, [.nilFunc]⟩),
  (105, ⟨.fn, 1, 8, [.nilFunc]⟩),
  (106, ⟨.ptr 5, 1, 8, [.pointer .none]⟩),
  (107, ⟨.fn, 1, 8, [.nilFunc]⟩),
  (108, ⟨.fn, 1, 8, [.nilFunc]⟩),
  (109, ⟨.arr 20 5, 20, 20, [.int .u8 0, .int .u8 0, .int .u8 0, .int .u8 0, .int .u8 0, .int .u8 0, .int .u8 0, .int .u8 0, .int .u8 0, .int .u8 0, .int .u8 0, .int .u8 0, .int .u8 0, .int .u8 0, .int .u8 0, .int .u8 0, .int .u8 0, .int .u8 0, .int .u8 0, .int .u8 0]⟩),
  (110, ⟨.iface, 1, 16, [.nilIface]⟩),
  (111, ⟨.iface, 1, 16, [.nilIface]⟩),
  (113, ⟨.fn, 1, 8, [.nilFunc]⟩),
  (114, ⟨.fn, 1, 8, [.nilFunc]⟩),
  (116, ⟨.fn, 1, 8, [.nilFunc]⟩),
  (118, ⟨.fn, 1, 8, [.nilFunc]⟩),
  (120, ⟨.fn, 1, 8, [.nilFunc]⟩),
  (121, ⟨.fn, 1, 8, [.nilFunc]⟩),
  (122, ⟨.fn, 1, 8, [.nilFunc]⟩),
  (123, ⟨.fn, 1, 8, [.nilFunc]⟩),
  (124, ⟨.map 3 4, 1, 8, [.map .none]⟩),
  (126, ⟨.fn, 1, 8, [.nilFunc]⟩),
  (127, ⟨.fn, 1, 8, [.nilFunc]⟩),
  (128, ⟨.strct [], 0, 0, []⟩),
  (129, ⟨.strct [], 0, 0, []⟩),
  (130, ⟨.strct [], 0, 0, []⟩),
  (131, ⟨.strct [], 0, 0, []⟩),
  (132, ⟨.strct [], 0, 0, []⟩),
  (133, ⟨.strct [], 0, 0, []⟩),
  (134, ⟨.map 3 111, 1, 8, [.map .none]⟩),
  (135, ⟨.fn, 1, 8, [.nilFunc]⟩),
  (136, ⟨.fn, 1, 8, [.nilFunc]⟩),
  (137, ⟨.fn, 1, 8, [.nilFunc]⟩),
  (138, ⟨.ptr 3, 1, 8, [.pointer .none]⟩),
  (139, ⟨.slice 138, 1, 24, [.slice .none 0 0]⟩),
  (140, ⟨.fn, 1, 8, [.nilFunc]⟩),
  (141, ⟨.fn, 1, 8, [.nilFunc]⟩),
  (142, ⟨.int .u64, 1, 8, [.int .u64 0]⟩),
  (143, ⟨.fn, 1, 8, [.nilFunc]⟩),
  (144, ⟨.strct [(0, 1), (1, 1)], 2, 16, [.int .i64 0, .int .i64 0]⟩),
  (145, ⟨.strct [(0, 1), (1, 1)], 2, 16, [.int .i64 0, .int .i64 0]⟩),
  (147, ⟨.ptr 149, 1, 8, [.pointer .none]⟩),
  (148, ⟨.strct [(0, 1), (1, 1), (2, 1), (3, 1)], 4, 48, [.slice .none 0 0, .int .i64 0, .int .i64 0, .int .i64 0]⟩),
  (149, ⟨.strct [(0, 1), (1, 1), (2, 1), (3, 1)], 4, 48, [.slice .none 0 0, .int .i64 0, .int .i64 0, .int .i64 0]⟩),
  (150, ⟨.int .u64, 1, 8, [.int .u64 0]⟩),
  (151, ⟨.fn, 1, 8, [.nilFunc]⟩),
  (152, ⟨.int .u32, 1, 4, [.int .u32 0]⟩),
  (154, ⟨.fn, 1, 8, [.nilFunc]⟩),
  (155, ⟨.fn, 1, 8, [.nilFunc]⟩),
  (156, ⟨.fn, 1, 8, [.nilFunc]⟩),
  (158, ⟨.fn, 1, 8, [.nilFunc]⟩),
  (159, ⟨.arr 24 5, 24, 24, [.int .u8 0, .int .u8 0, .int .u8 0, .int .u8 0, .int .u8 0, .int .u8 0, .int .u8 0, .int .u8 0, .int .u8 0, .int .u8 0, .int .u8 0, .int .u8 0, .int .u8 0, .int .u8 0, .int .u8 0, .int .u8 0, .int .u8 0, .int .u8 0, .int .u8 0, .int .u8 0, .int .u8 0, .int .u8 0, .int .u8 0, .int .u8 0]⟩),
  (160, ⟨.fn, 1, 8, [.nilFunc]⟩),
  (161, ⟨.fn, 1, 8, [.nilFunc]⟩),
  (163, ⟨.fn, 1, 8, [.nilFunc]⟩),
  (164, ⟨.fn, 1, 8, [.nilFunc]⟩),
  (166, ⟨.fn, 1, 8, [.nilFunc]⟩),
  (167, ⟨.fn, 1, 8, [.nilFunc]⟩),
  (168, ⟨.arr 20 150, 20, 160, [.int .u64 0, .int .u64 0, .int .u64 0, .int .u64 0, .int .u64 0, .int .u64 0, .int .u64 0, .int .u64 0, .int .u64 0, .int .u64 0, .int .u64 0, .int .u64 0, .int .u64 0, .int .u64 0, .int .u64 0, .int .u64 0, .int .u64 0, .int .u64 0, .int .u64 0, .int .u64 0]⟩),
  (170, ⟨.fn, 1, 8, [.nilFunc]⟩),
  (171, ⟨.fn, 1, 8, [.nilFunc]⟩),
  (172, ⟨.fn, 1, 8, [.nilFunc]⟩),
  (173, ⟨.fn, 1, 8, [.nilFunc]⟩),
  (175, ⟨.strct [(0, 1), (1, 1)], 2, 2, [.int .u8 0, .int .u8 0]⟩),
  (176, ⟨.strct [(0, 1), (1, 1)], 2, 2, [.int .u8 0, .int .u8 0]⟩),
  (177, ⟨.arr 16 176, 32, 32, [.int .u8 0, .int .u8 0, .int .u8 0, .int .u8 0, .int .u8 0, .int .u8 0, .int .u8 0, .int .u8 0, .int .u8 0, .int .u8 0, .int .u8 0, .int .u8 0, .int .u8 0, .int .u8 0, .int .u8 0, .int .u8 0, .int .u8 0, .int .u8 0, .int .u8 0, .int .u8 0, .int .u8 0, .int .u8 0, .int .u8 0, .int .u8 0, .int .u8 0, .int .u8 0, .int .u8 0, .int .u8 0, .int .u8 0, .int .u8 0, .int .u8 0, .int .u8 0]⟩),
  (178, ⟨.int .i64, 1, 8, [.int .i64 0]⟩),
  (180, ⟨.fn, 1, 8, [.nilFunc]⟩),
  (181, ⟨.ptr 190, 1, 8, [.pointer .none]⟩),
  (182, ⟨.fn, 1, 8, [.nilFunc]⟩),
  (183, ⟨.fn, 1, 8, [.nilFunc]⟩),
  (184, ⟨.arr 32 5, 32, 32, [.int .u8 0, .int .u8 0, .int .u8 0, .int .u8 0, .int .u8 0, .int .u8 0, .int .u8 0, .int .u8 0, .int .u8 0, .int .u8 0, .int .u8 0, .int .u8 0, .int .u8 0, .int .u8 0, .int .u8 0, .int .u8 0, .int .u8 0, .int .u8 0, .int .u8 0, .int .u8 0, .int .u8 0, .int .u8 0, .int .u8 0, .int .u8 0, .int .u8 0, .int .u8 0, .int .u8 0, .int .u8 0, .int .u8 0, .int .u8 0, .int .u8 0, .int .u8 0]⟩),
  (187, ⟨.fn, 1, 8, [.nilFunc]⟩),
  (188, ⟨.fn, 1, 8, [.nilFunc]⟩),
  (189, ⟨.strct [(0, 1), (1, 1), (2, 1)], 3, 48, [.string ⟨#[]⟩, .string ⟨#[]⟩, .nilIface]⟩),
  (190, ⟨.strct [(0, 1), (1, 1), (2, 1)], 3, 48, [.string ⟨#[]⟩, .string ⟨#[]⟩, .nilIface]⟩),
  (191, ⟨.fn, 1, 8, [.nilFunc]⟩),
  (192, ⟨.fn, 1, 8, [.nilFunc]⟩),
  (193, ⟨.ptr 195, 1, 8, [.pointer .none]⟩),
  (194, ⟨.strct [(0, 1)], 1, 16, [.string ⟨#[]⟩]⟩),
  (195, ⟨.strct [(0, 1)], 1, 16, [.string ⟨#[]⟩]⟩),
  (196, ⟨.fn, 1, 8, [.nilFunc]⟩),
  (197, ⟨.strct [(0, 1), (1, 1), (2, 1), (3, 1)], 4, 40, [.pointer .none, .pointer .none, .pointer .none, .string ⟨#[]⟩]⟩),
  (198, ⟨.strct [(0, 1), (1, 1), (2, 1), (3, 1)], 4, 40, [.pointer .none, .pointer .none, .pointer .none, .string ⟨#[]⟩]⟩),
  (199, ⟨.arr 0 16, 0, 0, []⟩),
  (200, ⟨.strct [(0, 0)], 0, 0, []⟩),
  (201, ⟨.strct [(0, 0)], 0, 0, []⟩),
  (202, ⟨.int .u8, 1, 1, [.int .u8 0]⟩),
  (203, ⟨.int .u8, 1, 1, [.int .u8 0]⟩),
  (204, ⟨.fn, 1, 8, [.nilFunc]⟩),
  (205, ⟨.int .i32, 1, 4, [.int .i32 0]⟩),
  (206, ⟨.int .i32, 1, 4, [.int .i32 0]⟩),
  (207, ⟨.strct [(0, 1), (1, 1), (2, 1), (3, 1), (4, 1), (5, 1), (6, 1), (7, 1), (8, 1), (9, 1), (10, 1)], 11, 48, [.int .u64 0, .int .u64 0, .int .u32 0, .int .u8 0, .int .u8 0, .int .u8 0, .int .u8 0, .nilFunc, .pointer .none, .int .i32 0, .int .i32 0]⟩),
  (208, ⟨.strct [(0, 1), (1, 1), (2, 1), (3, 1), (4, 1), (5, 1), (6, 1), (7, 1), (8, 1), (9, 1), (10, 1)], 11, 48, [.int .u64 0, .int .u64 0, .int .u32 0, .int .u8 0, .int .u8 0, .int .u8 0, .int .u8 0, .nilFunc, .pointer .none, .int .i32 0, .int .i32 0]⟩),
  (209, ⟨.fn, 1, 8, [.nilFunc]⟩),
  (210, ⟨.fn, 1, 8, [.nilFunc]⟩),
  (211, ⟨.fn, 1, 8, [.nilFunc]⟩),
  (212, ⟨.slice 22, 1, 24, [.slice .none 0 0]⟩),
  (213, ⟨.fn, 1, 8, [.nilFunc]⟩),
  (214, ⟨.fn, 1, 8, [.nilFunc]⟩),
  (215, ⟨.slice 31, 1, 24, [.slice .none 0 0]⟩),
  (216, ⟨.slice 220, 1, 24, [.slice .none 0 0]⟩),
  (217, ⟨.strct [(0, 1), (1, 1)], 2, 48, [.slice .none 0 0, .slice .none 0 0]⟩),
  (218, ⟨.strct [(0, 1), (1, 1)], 2, 48, [.slice .none 0 0, .slice .none 0 0]⟩),
  (219, ⟨.strct [(0, 1), (1, 1), (2, 1)], 3, 24, [.int .i64 0, .int .i64 0, .int .i64 0]⟩),
  (220, ⟨.strct [(0, 1), (1, 1), (2, 1)], 3, 24, [.int .i64 0, .int .i64 0, .int .i64 0]⟩)]
theorem tab_ok : TabOk Tryz.prog tab := by unfold TabOk; kernel_rfl
theorem mixed : Tryz.prog.follows .mixedOrders = true := by kernel_rfl
theorem en7 : Enters Tryz.prog 7 := Enters.of Tryz.func7 (by kernel_rfl) rfl
theorem en8 : Enters Tryz.prog 8 := Enters.of Tryz.func8 (by kernel_rfl) rfl
theorem en9 : Enters Tryz.prog 9 := Enters.of Tryz.func9 (by kernel_rfl) rfl
theorem en10 : Enters Tryz.prog 10 := Enters.of Tryz.func10 (by kernel_rfl) rfl
theorem en11 : Enters Tryz.prog 11 := Enters.of Tryz.func11 (by kernel_rfl) rfl
theorem en12 : Enters Tryz.prog 12 := Enters.of Tryz.func12 (by kernel_rfl) rfl
theorem en13 : Enters Tryz.prog 13 := Enters.of Tryz.func13 (by kernel_rfl) rfl
theorem en14 : Enters Tryz.prog 14 := Enters.of Tryz.func14 (by kernel_rfl) rfl
theorem en15 : Enters Tryz.prog 15 := Enters.of Tryz.func15 (by kernel_rfl) rfl
theorem en16 : Enters Tryz.prog 16 := Enters.of Tryz.func16 (by kernel_rfl) rfl
theorem en17 : Enters Tryz.prog 17 := Enters.of Tryz.func17 (by kernel_rfl) rfl
theorem en18 : Enters Tryz.prog 18 := Enters.of Tryz.func18 (by kernel_rfl) rfl
theorem en19 : Enters Tryz.prog 19 := Enters.of Tryz.func19 (by kernel_rfl) rfl
theorem en20 : Enters Tryz.prog 20 := Enters.of Tryz.func20 (by kernel_rfl) rfl
theorem en21 : Enters Tryz.prog 21 := Enters.of Tryz.func21 (by kernel_rfl) rfl
theorem en23 : Enters Tryz.prog 23 := Enters.of Tryz.func23 (by kernel_rfl) rfl
theorem en24 : Enters Tryz.prog 24 := Enters.of Tryz.func24 (by kernel_rfl) rfl
theorem en25 : Enters Tryz.prog 25 := Enters.of Tryz.func25 (by kernel_rfl) rfl
theorem en26 : Enters Tryz.prog 26 := Enters.of Tryz.func26 (by kernel_rfl) rfl
theorem en27 : Enters Tryz.prog 27 := Enters.of Tryz.func27 (by kernel_rfl) rfl
theorem en28 : Enters Tryz.prog 28 := Enters.of Tryz.func28 (by kernel_rfl) rfl
theorem en29 : Enters Tryz.prog 29 := Enters.of Tryz.func29 (by kernel_rfl) rfl
theorem en30 : Enters Tryz.prog 30 := Enters.of Tryz.func30 (by kernel_rfl) rfl
theorem en31 : Enters Tryz.prog 31 := Enters.of Tryz.func31 (by kernel_rfl) rfl
theorem en32 : Enters Tryz.prog 32 := Enters.of Tryz.func32 (by kernel_rfl) rfl
theorem en33 : Enters Tryz.prog 33 := Enters.of Tryz.func33 (by kernel_rfl) rfl
theorem en34 : Enters Tryz.prog 34 := Enters.of Tryz.func34 (by kernel_rfl) rfl
theorem en35 : Enters Tryz.prog 35 := Enters.of Tryz.func35 (by kernel_rfl) rfl
theorem en36 : Enters Tryz.prog 36 := Enters.of Tryz.func36 (by kernel_rfl) rfl
theorem en37 : Enters Tryz.prog 37 := Enters.of Tryz.func37 (by kernel_rfl) rfl
theorem en38 : Enters Tryz.prog 38 := Enters.of Tryz.func38 (by kernel_rfl) rfl
theorem en39 : Enters Tryz.prog 39 := Enters.of Tryz.func39 (by kernel_rfl) rfl
theorem en40 : Enters Tryz.prog 40 := Enters.of Tryz.func40 (by kernel_rfl) rfl
theorem en41 : Enters Tryz.prog 41 := Enters.of Tryz.func41 (by kernel_rfl) rfl
theorem en42 : Enters Tryz.prog 42 := Enters.of Tryz.func42 (by kernel_rfl) rfl
theorem en43 : Enters Tryz.prog 43 := Enters.of Tryz.func43 (by kernel_rfl) rfl
theorem en44 : Enters Tryz.prog 44 := Enters.of Tryz.func44 (by kernel_rfl) rfl
theorem en45 : Enters Tryz.prog 45 := Enters.of Tryz.func45 (by kernel_rfl) rfl
theorem en46 : Enters Tryz.prog 46 := Enters.of Tryz.func46 (by kernel_rfl) rfl
theorem en47 : Enters Tryz.prog 47 := Enters.of Tryz.func47 (by kernel_rfl) rfl
theorem en48 : Enters Tryz.prog 48 := Enters.of Tryz.func48 (by kernel_rfl) rfl
theorem en49 : Enters Tryz.prog 49 := Enters.of Tryz.func49 (by kernel_rfl) rfl
theorem en50 : Enters Tryz.prog 50 := Enters.of Tryz.func50 (by kernel_rfl) rfl
theorem en51 : Enters Tryz.prog 51 := Enters.of Tryz.func51 (by kernel_rfl) rfl
theorem en52 : Enters Tryz.prog 52 := Enters.of Tryz.func52 (by kernel_rfl) rfl
theorem en53 : Enters Tryz.prog 53 := Enters.of Tryz.func53 (by kernel_rfl) rfl
theorem en54 : Enters Tryz.prog 54 := Enters.of Tryz.func54 (by kernel_rfl) rfl
theorem en55 : Enters Tryz.prog 55 := Enters.of Tryz.func55 (by kernel_rfl) rfl
theorem en56 : Enters Tryz.prog 56 := Enters.of Tryz.func56 (by kernel_rfl) rfl
theorem en59 : Enters Tryz.prog 59 := Enters.of Tryz.func59 (by kernel_rfl) rfl
theorem en60 : Enters Tryz.prog 60 := Enters.of Tryz.func60 (by kernel_rfl) rfl
theorem en61 : Enters Tryz.prog 61 := Enters.of Tryz.func61 (by kernel_rfl) rfl
theorem en62 : Enters Tryz.prog 62 := Enters.of Tryz.func62 (by kernel_rfl) rfl
theorem en63 : Enters Tryz.prog 63 := Enters.of Tryz.func63 (by kernel_rfl) rfl
theorem en64 : Enters Tryz.prog 64 := Enters.of Tryz.func64 (by kernel_rfl) rfl
theorem en65 : Enters Tryz.prog 65 := Enters.of Tryz.func65 (by kernel_rfl) rfl
theorem en66 : Enters Tryz.prog 66 := Enters.of Tryz.func66 (by kernel_rfl) rfl
theorem en67 : Enters Tryz.prog 67 := Enters.of Tryz.func67 (by kernel_rfl) rfl
theorem en69 : Enters Tryz.prog 69 := Enters.of Tryz.func69 (by kernel_rfl) rfl
theorem en70 : Enters Tryz.prog 70 := Enters.of Tryz.func70 (by kernel_rfl) rfl
theorem en71 : Enters Tryz.prog 71 := Enters.of Tryz.func71 (by kernel_rfl) rfl
theorem en72 : Enters Tryz.prog 72 := Enters.of Tryz.func72 (by kernel_rfl) rfl
theorem en73 : Enters Tryz.prog 73 := Enters.of Tryz.func73 (by kernel_rfl) rfl
theorem en75 : Enters Tryz.prog 75 := Enters.of Tryz.func75 (by kernel_rfl) rfl
theorem en76 : Enters Tryz.prog 76 := Enters.of Tryz.func76 (by kernel_rfl) rfl
theorem en77 : Enters Tryz.prog 77 := Enters.of Tryz.func77 (by kernel_rfl) rfl
theorem en78 : Enters Tryz.prog 78 := Enters.of Tryz.func78 (by kernel_rfl) rfl
theorem en81 : Enters Tryz.prog 81 := Enters.of Tryz.func81 (by kernel_rfl) rfl
theorem en82 : Enters Tryz.prog 82 := Enters.of Tryz.func82 (by kernel_rfl) rfl
theorem en83 : Enters Tryz.prog 83 := Enters.of Tryz.func83 (by kernel_rfl) rfl
theorem en85 : Enters Tryz.prog 85 := Enters.of Tryz.func85 (by kernel_rfl) rfl
theorem en88 : Enters Tryz.prog 88 := Enters.of Tryz.func88 (by kernel_rfl) rfl
theorem en89 : Enters Tryz.prog 89 := Enters.of Tryz.func89 (by kernel_rfl) rfl
theorem en90 : Enters Tryz.prog 90 := Enters.of Tryz.func90 (by kernel_rfl) rfl
theorem en91 : Enters Tryz.prog 91 := Enters.of Tryz.func91 (by kernel_rfl) rfl
theorem en92 : Enters Tryz.prog 92 := Enters.of Tryz.func92 (by kernel_rfl) rfl
theorem en93 : Enters Tryz.prog 93 := Enters.of Tryz.func93 (by kernel_rfl) rfl
theorem en94 : Enters Tryz.prog 94 := Enters.of Tryz.func94 (by kernel_rfl) rfl
theorem en102 : Enters Tryz.prog 102 := Enters.of Tryz.func102 (by kernel_rfl) rfl
theorem en103 : Enters Tryz.prog 103 := Enters.of Tryz.func103 (by kernel_rfl) rfl
theorem en110 : Enters Tryz.prog 110 := Enters.of Tryz.func110 (by kernel_rfl) rfl
theorem en111 : Enters Tryz.prog 111 := Enters.of Tryz.func111 (by kernel_rfl) rfl
theorem en112 : Enters Tryz.prog 112 := Enters.of Tryz.func112 (by kernel_rfl) rfl
theorem en113 : Enters Tryz.prog 113 := Enters.of Tryz.func113 (by kernel_rfl) rfl
theorem en114 : Enters Tryz.prog 114 := Enters.of Tryz.func114 (by kernel_rfl) rfl
theorem en122 : Enters Tryz.prog 122 := Enters.of Tryz.func122 (by kernel_rfl) rfl
theorem en123 : Enters Tryz.prog 123 := Enters.of Tryz.func123 (by kernel_rfl) rfl
theorem en167 : Enters Tryz.prog 167 := Enters.of Tryz.func167 (by kernel_rfl) rfl
theorem en174 : Enters Tryz.prog 174 := Enters.of Tryz.func174 (by kernel_rfl) rfl
theorem en175 : Enters Tryz.prog 175 := Enters.of Tryz.func175 (by kernel_rfl) rfl
theorem en176 : Enters Tryz.prog 176 := Enters.of Tryz.func176 (by kernel_rfl) rfl
theorem en177 : Enters Tryz.prog 177 := Enters.of Tryz.func177 (by kernel_rfl) rfl
end Go.Proofs.YtmidibkljoaoiaaGreatDoor

/- Rules: calls that hand back one value and leave memory, under any guard, in regions that draw their order and write; what is not wanted. No condition. -/
namespace Go.Proofs.YtmidibkljoaoiaaGreatDoor.K
open Go Go.RowKit
section
variable {P : Program} {ops : List Oper} {o : Oper} {Q : Exit → Act → World → Prop} {ES : List Ent} {R0 : Ro} {w0 : World} {fuel : Nat} {listed : Array Bool} {n : Nat} {env : Env} {R : Ro} {E : List Ent} {pc q : Bool}
theorem WA.callV {v : Value} {d : Nat} {f : FuncId} {vs : List Value} (i : Nat) (hi : ops.toArray[i]? = some o) (hr : Region.ready .any ops.toArray listed = [i]) (hf : Enters P f) (hg : gpc ops env o = some pc) (hd : o.dst = some d) (hdn : d < n)
  (hc : CallOp env o.op q f vs) (hq : pc = true → q = true) (hv : pc = true → FnV P f vs R v) (hsub : ES.Sublist E) (hR : RLe R0 R)
  (h : WA P ops Q ES R0 w0 fuel (listed.setIfInBounds i true) n ((d, pc, v) :: env) R E) : WA P ops Q ES R0 w0 (fuel + 1) listed n env R E := by
 intro a w hk hm
 refine wpAnyH_all hr (by simp) fun j hj => ?_
 obtain rfl : j = i := by simpa using hj
 unfold wpOp
 rw [hi]
 have hput := hk.put hdn pc v
 have hw := hk.wanted hg
 cases pc with
 | true =>
  simp only [hw, if_true]
  left
  unfold Oper.wp
  rw [run_call hk hc (hq rfl) hf]
  refine (hv rfl w0 E w hm).mono ?_
  rintro e w' ⟨rfl, hm'⟩
  simp only [hd]
  exact ⟨hm'.sub hR hsub, h _ _ (by simpa using hput) hm'⟩
 | false =>
  simp only [hw, Bool.false_eq_true, if_false, hd]
  exact ⟨hm.sub hR hsub, h _ _ (by simpa using hput) hm⟩
theorem WS.callV {v : Value} {d : Nat} {f : FuncId} {vs : List Value} {i : Nat} (hi : ops.toArray[i]? = some o) (hf : Enters P f) (hg : gpc ops env o = some pc) (hd : o.dst = some d) (hdn : d < n)
  (hc : CallOp env o.op q f vs) (hq : pc = true → q = true) (hv : pc = true → FnV P f vs R v) (hsub : ES.Sublist E) (hR : RLe R0 R)
  (h : WA P ops Q ES R0 w0 fuel (listed.setIfInBounds i true) n ((d, pc, v) :: env) R E) : WS P ops Q ES R0 w0 fuel listed n env R E i := by
 intro a w hk hm
 unfold wpOp
 rw [hi]
 have hput := hk.put hdn pc v
 have hw := hk.wanted hg
 cases pc with
 | true =>
  simp only [hw, if_true]
  left
  unfold Oper.wp
  rw [run_call hk hc (hq rfl) hf]
  refine (hv rfl w0 E w hm).mono ?_
  rintro e w' ⟨rfl, hm'⟩
  simp only [hd]
  exact ⟨hm'.sub hR hsub, h _ _ (by simpa using hput) hm'⟩
 | false =>
  simp only [hw, Bool.false_eq_true, if_false, hd]
  exact ⟨hm.sub hR hsub, h _ _ (by simpa using hput) hm⟩
theorem Yl.off {v : Value} (h : pc = false) : Yl P n env w0 R E o pc v := fun _ _ _ _ hp => by rw [h] at hp; cases hp
end
end Go.Proofs.YtmidibkljoaoiaaGreatDoor.K

/- Rules: maps of a few keys (make, insert, look up), values in interfaces, calls of methods. No condition. -/
namespace Go.Proofs.YtmidibkljoaoiaaGreatDoor.K
open Go Go.RowKit
section
variable {P : Program} {T : Tab} {ops rest : List Oper} {Q : Exit → Act → World → Prop} {n : Nat} {env : Env} {w0 : World} {R : Ro} {E : List Ent} {o : Oper} {pc p q : Bool}
theorem under_map (hT : TabOk P T) {t k e : TypeId} {d : TD} (hd : T.at t = some d) (hk : d.k = .map k e) : P.underlying t = some (.map k e) := by
 have := hT.kind hd
 rw [hk] at this
 unfold kindOf at this
 split at this <;> simp_all
theorem under_int (hT : TabOk P T) {t : TypeId} {k : IntKind} {d : TD} (hd : T.at t = some d) (hk : d.k = .int k) : P.underlying t = some (.int k) := by
 have := hT.kind hd
 rw [hk] at this
 unfold kindOf at this
 split at this <;> simp_all
theorem Ef.makeMap {K : Value → Ro → List Ent → Prop} {t : TypeId} (ho : o.op = .makeMap t none) (hK : ∀ b, K (.map (some b)) R (.obj b (.map #[] 0) :: E)) : Ef P n env w0 R E o K := by
 intro a w hk hm
 refine ⟨_, w.alloc (.map #[] 0), R, _, .inl ?_, hm.newObj _, hK _⟩
 unfold execOp
 simp [ho, run_makeMap_plain]
theorem Ef.insert {K : Value → Ro → List Ent → Prop} {t kt et : TypeId} {x y z : Operand} {b clock : Nat} {es : Array MapEntry} {kk : IntKind} {k : Int} {v : Value} {d d2 : TD} (hT : TabOk P T) (ho : o.op = .insert t x y z) (hd : T.at t = some d) (hkd : d.k = .map kt et) (hd2 : T.at kt = some d2) (hk2 : d2.k = .int kk)
  (hx : ev env x = some (true, .map (some b))) (hy : ev env y = some (true, .int kk k)) (hz : ev env z = some (true, v)) (hf : Instr.findNow (.int kk) (.int kk k) es.toList 0 = some none)
  (hK : K undef R (.obj b (.map (es.push { key := .int kk k, val := v, born := clock }) (clock + 1)) :: E)) : Ef P n env w0 R (.obj b (.map es clock) :: E) o K := by
 intro a w hk hm
 have hb := hm.getObj
 have hm1 := under_map hT hd hkd
 have hu2 := under_int hT hd2 hk2
 have hc : (Instr.checkKey false 10000 kt (.int kk k)).run P w = .ok () w := MapKept.run_checkKey (k := .int kk k) hu2 (by simp [MapKept.IsKey]) false 9999
 refine ⟨undef, w.putObj b (.map (es.push { key := .int kk k, val := v, born := clock }) (clock + 1)), R, _, .inr ⟨?_, rfl⟩, hm.putObj _, hK⟩
 unfold execOp
 simp [ho, hk.ev hx rfl, hk.ev hy rfl, hk.ev hz rfl, Instr.mapUpdate, run_underlying hm1, MapKept.run_getObj_map hb, hc, MapKept.run_findKey hu2 hf, MapKept.run_setObj_map _ hb, Result.andThen, World.putObj]
def foundV (z : Value) : Option (Nat × Value) → Value
  | some (_, u) => .tuple #[u, .bool true]
  | none => .tuple #[z, .bool false]
theorem Yl.lookup {t kt et : TypeId} {x y : Operand} {b clock : Nat} {es : Array MapEntry} {kk : IntKind} {k : Int} {v z : Value} {d d2 : TD} {r : Option (Nat × Value)} (hT : TabOk P T) (ho : o.op = .lookup t x y true) (hd : T.at t = some d) (hkd : d.k = .map kt et) (hd2 : T.at kt = some d2) (hk2 : d2.k = .int kk) (hz : (P.info? et).bind (·.zero) = some z)
  (hx : ev env x = some (p, .map (some b))) (hy : ev env y = some (q, .int kk k)) (hpq : pc = true → (p && q) = true) (hf : Instr.findNow (.int kk) (.int kk k) es.toList 0 = some r)
  (hv : foundV z r = v) : Yl P n env w0 R (.obj b (.map es clock) :: E) o pc v := by
 intro a w hk hm hpc
 obtain ⟨h1, h2⟩ := and_both (hpq hpc)
 have hb := hm.getObj
 have hm1 := under_map hT hd hkd
 have hu2 := under_int hT hd2 hk2
 have hc : (Instr.checkKey es.isEmpty 10000 kt (.int kk k)).run P w = .ok () w := MapKept.run_checkKey (k := .int kk k) hu2 (by simp [MapKept.IsKey]) es.isEmpty 9999
 have hz' : (zeroValue et).run P w = .ok z w := by
  cases hi : P.info? et with
  | none => rw [hi] at hz; cases hz
  | some inf =>
   rw [hi] at hz
   have : inf.zero = some z := hz
   simp [zeroValue, typeInfo, hi, this]
 subst hv
 unfold execOp
 cases r with
 | none => simp [foundV, ho, hk.ev hx h1, hk.ev hy h2, Instr.lookup, run_underlying hm1, MapKept.run_getObj_map hb, hc, MapKept.run_findKey hu2 hf, hz', Result.andThen]
 | some r => simp [foundV, ho, hk.ev hx h1, hk.ev hy h2, Instr.lookup, run_underlying hm1, MapKept.run_getObj_map hb, hc, MapKept.run_findKey hu2 hf, Result.andThen]
theorem Yl.toIface {t : TypeId} {fs : List (Nat × Nat)} {x : Operand} {v : Value} {d : TD} (hT : TabOk P T) (ho : o.op = .makeInterface t x) (hd : T.at t = some d) (hk : d.k = .strct fs) (hx : ev env x = some (p, v)) (hpq : pc = true → p = true) : Yl P n env w0 R E o pc (.iface t v) := by
 intro a w hk2 hm hpc
 obtain ⟨ff, hu, _⟩ := hT.strct hd hk
 unfold execOp
 simp [ho, hk2.ev hx (hpq hpc), Instr.makeInterface, run_underlying hu]
/-- the method of what stands in an interface -/
def Meth (P : Program) (t : TypeId) (rv : Value) (name : String) (f : FuncId) (us : List Value) : Prop :=
  ∀ w, (callMethod (.iface t rv) name us.toArray).run P w = .ok (.enter f (rv :: us).toArray) w
theorem run_callI {a : Act} {w : World} (hk : Kn n env a) {x : Operand} {args : List Operand} {ats : Array TypeId} {name : String} {t : TypeId} {rv : Value} {f : FuncId} {us : List Value} (ho : o.op = .call { callee := .invoke x name, args := args.toArray, argTypes := ats })
  (hx : ev env x = some (true, .iface t rv)) (ha : evs env args = some (true, us)) (hm : Meth P t rv name f us) : (execOp a.eval o).run P w = .ok (.enter f (rv :: us).toArray) w := by
 have e1 := hk.ev hx rfl
 have e2 := evs_ok hk ha rfl
 have e3 : args.toArray.map a.eval = us.toArray := by rw [← e2]; simp
 have e4 : (#[Value.iface t rv] ++ us.toArray).extract 1 (#[Value.iface t rv] ++ us.toArray).size = us.toArray := by simp
 have e5 : (#[Value.iface t rv] ++ us.toArray)[0]? = some (.iface t rv) := by simp
 unfold execOp
 rw [ho]
 simp only [resolve, e1, e3, invoke, Sem.run_bind, Sem.run_pure, Result.andThen_ok]
 rw [e5]
 simp only [e4]
 exact hm w
theorem WL.callI {d : Nat} {x : Operand} {args : List Operand} {ats : Array TypeId} {name : String} {t : TypeId} {rv : Value} {f : FuncId} {us : List Value} {Post : Value → Ro → List Ent → Prop} (ho : o.op = .call { callee := .invoke x name, args := args.toArray, argTypes := ats }) (hg : o.guard = none) (hd : o.dst = some d) (hdn : d < n)
  (hx : ev env x = some (true, .iface t rv)) (ha : evs env args = some (true, us)) (hm : Meth P t rv name f us) (hv : Fn P f (rv :: us) w0 R E Post)
  (h : ∀ v R' E', RLe R R' → Post v R' E' → WG false P ops Q rest n ((d, true, v) :: env) w0 R' E') : WG false P ops Q (o :: rest) n env w0 R E := by
 intro a w hk hmm
 refine wpList_plain hg fun K hK => ?_
 unfold Oper.wp
 rw [run_callI hk ho hx ha hm]
 refine (hv w hmm).mono ?_
 rintro e w' ⟨v, R', E', rfl, hR, hm', hp⟩
 simp only [hd]
 exact hK _ _ (h v R' E' hR hp _ _ (hk.putT hdn v) hm')
theorem WA.freezeBlk {ES : List Ent} {R0 : Ro} {fuel : Nat} {listed : Array Bool} {b : Nat} {cs : List Value} (i : Nat) (hE : E[i]? = some (.blk b cs)) (h : ∀ R', RLe R R' → R' b = some cs → WA P ops Q ES R0 w0 fuel listed n env R' (E.eraseIdx i)) : WA P ops Q ES R0 w0 fuel listed n env R E := by
 intro a w hk hm
 obtain ⟨R', hR, hb, hm'⟩ := hm.freezeBlk hE
 exact h R' hR hb a w hk hm'
end
end Go.Proofs.YtmidibkljoaoiaaGreatDoor.K

/- Functions that may panic with a value: their contracts, and the rules that take and pass a panic. No condition. -/
namespace Go.Proofs.YtmidibkljoaoiaaGreatDoor.K
open Go Go.RowKit
section
variable {P : Program} {T : Tab} {n : Nat} {env : Env} {w0 : World} {R : Ro} {E : List Ent} {Q : Exit → Act → World → Prop} {K : Act → World → Prop} {ch : List PanicEntry}
theorem WE.then_panic (h : WE Q (.panic ch) n env w0 R E) : WE (Exit.then K Q) (.panic ch) n env w0 R E := h
theorem WE.blk_panic {id : Nat} (h : WE Q (.panic ch) n env w0 R E) : WE (Exit.inBlock id Q) (.panic ch) n env w0 R E := h
/-- a function's contract: it returns, or it panics with a value -/
def FnXR (w0 : World) (R0 : Ro) (Post PX : Value → Ro → List Ent → Prop) : Ending → World → Prop :=
  fun e w' => (∃ v R' E', e = .returned v ∧ RLe R0 R' ∧ Mem w0 w' R' E' ∧ Post v R' E') ∨ (∃ v R' E', e = .panicked [{ v := v, recovered := false }] ∧ RLe R0 R' ∧ Mem w0 w' R' E' ∧ PX v R' E')
def FnX (P : Program) (f : FuncId) (args : List Value) (w0 : World) (R : Ro) (E : List Ent) (Post PX : Value → Ro → List Ent → Prop) : Prop :=
  ∀ w, Mem w0 w R E → Calls P f args.toArray w (FnXR w0 R Post PX)
def FnXAt (P : Program) (f : FuncId) (vs : List Value) (w0 : World) (R : Ro) (e : Ent) (Post : Value → Ro → Ent → List Ent → Prop) (PX : Value → Ro → Ent → Prop) : Prop :=
  ∀ F, FnX P f vs w0 R (e :: F) (fun v R' E' => ∃ e' N, E' = N ++ e' :: F ∧ Post v R' e' N) (fun v R' E' => ∃ e', E' = e' :: F ∧ PX v R' e')
theorem FnX.enter {f : FuncId} {fn : Func} {c : Code} {args : List Value} {Post PX : Value → Ro → List Ent → Prop} {n : Nat}
  (hf : P.funcs[f]? = some fn) (hb : fn.body = some c) (hn : fn.ntmps = n) (ha : args.length ≤ n) (hs : Nat.ble n 99999 = true)
  (h : W P c (bodyPost P fn (FnXR w0 R Post PX)) n (argEnv 0 args) w0 R E) : FnX P f args w0 R E Post PX := by
 intro w hm
 have hs := Nat.le_of_ble_eq_true hs
 refine calls_of_wp hf hb (h _ w ⟨?_, hs, (argEnv_mark 0 args (by omega)).symm, fun t p v ht => ?_⟩ hm)
 ·simp [hn]; omega
 ·obtain ⟨hp, _, hv⟩ := argEnv_look 0 args t p v ht
  simp only [Nat.sub_zero] at hv
  subst hp
  have hlt : t < args.length := (List.getElem?_eq_some_iff.1 hv).1
  rw [Array.getElem?_append_left (by simpa using hlt)]
  simpa using hv
theorem WE.retX (hT : TabOk P T) {fn : Func} {Post PX : Value → Ro → List Ent → Prop} {R0 : Ro} {rs : List ResultVar} (vs : List Value) (hr : fn.results = rs.toArray) (h : ResAll T env R E rs vs) (hR : RLe R0 R) (hp : Post (resVal vs) R E) (hds : markOf env = none := by rfl) :
  WE (bodyPost P fn (FnXR w0 R0 Post PX)) .ret n env w0 R E := fun _ _ hk hm => ⟨by rw [hk.defers]; unfold dsOf; rw [hds], resVal vs, results_ok hT hr hk hm h, .inl ⟨resVal vs, R, E, rfl, hR, hm, hp⟩⟩
theorem WE.endX (hT : TabOk P T) {fn : Func} {Post PX : Value → Ro → List Ent → Prop} {R0 : Ro} {rs : List ResultVar} (vs : List Value) (hr : fn.results = rs.toArray) (h : ResAll T env R E rs vs) (hR : RLe R0 R) (hp : Post (resVal vs) R E) (hds : markOf env = none := by rfl) :
  WE (bodyPost P fn (FnXR w0 R0 Post PX)) .normal n env w0 R E := fun _ _ hk hm => ⟨by rw [hk.defers]; unfold dsOf; rw [hds], resVal vs, results_ok hT hr hk hm h, .inl ⟨resVal vs, R, E, rfl, hR, hm, hp⟩⟩
theorem WE.panicX {fn : Func} {Post PX : Value → Ro → List Ent → Prop} {R0 : Ro} {v : Value} (hR : RLe R0 R) (hp : PX v R E) (hds : markOf env = none := by rfl) :
  WE (bodyPost P fn (FnXR w0 R0 Post PX)) (.panic [{ v := v, recovered := false }]) n env w0 R E := fun _ _ hk hm => ⟨by rw [hk.defers]; unfold dsOf; rw [hds], .inr ⟨v, R, E, rfl, hR, hm, hp⟩⟩
variable {o : Oper} {ops rest : List Oper}
/-- the text's own panic -/
theorem WL.panic {x : Operand} {t : TypeId} {u : Value} (hg : o.guard = none) (ho : o.op = .panic x) (hx : ev env x = some (true, .iface t u))
  (h : WE Q (.panic [{ v := .iface t u, recovered := false }]) n env w0 R E) : WG false P ops Q (o :: rest) n env w0 R E := by
 intro a w hk hm
 refine wpList_plain hg fun K hK => ?_
 have e : (execOp a.eval o).run P w = .halt (.panic (.iface t u)) w := by
  unfold execOp
  rw [ho]
  simp only [hk.ev hx rfl, Sem.run_bind, run_panic_iface]
  rfl
 unfold Oper.wp
 rw [e]
 exact h a w hk hm
/-- a call of a function that may panic -/
theorem WL.callX {d : Nat} {f : FuncId} {vs : List Value} {Post PX : Value → Ro → List Ent → Prop} (hf : Enters P f) (hg : o.guard = none) (hd : o.dst = some d) (hdn : d < n)
  (hc : CallOp env o.op true f vs) (hv : FnX P f vs w0 R E Post PX)
  (hx : ∀ v R' E', RLe R R' → PX v R' E' → WE Q (.panic [{ v := v, recovered := false }]) n env w0 R' E')
  (h : ∀ v R' E', RLe R R' → Post v R' E' → WG false P ops Q rest n ((d, true, v) :: env) w0 R' E') : WG false P ops Q (o :: rest) n env w0 R E := by
 intro a w hk hm
 refine wpList_plain hg fun K hK => ?_
 unfold Oper.wp
 rw [run_call hk hc rfl hf]
 refine (hv w hm).mono ?_
 rintro e w' (⟨v, R', E', rfl, hR, hm', hp⟩ | ⟨v, R', E', rfl, hR, hm', hp⟩)
 ·simp only [hd]
  exact hK _ _ (h v R' E' hR hp _ _ (hk.putT hdn v) hm')
 ·exact hx v R' E' hR hp _ _ hk hm'
/-- a call that turns the resource number i, or panics -/
theorem WL.callXAt {d : Nat} {f : FuncId} {vs : List Value} {e : Ent} {Post : Value → Ro → Ent → List Ent → Prop} {PX : Value → Ro → Ent → Prop} (i : Nat) (hf : Enters P f) (hg : o.guard = none) (hd : o.dst = some d) (hdn : d < n)
  (hc : CallOp env o.op true f vs) (hE : E[i]? = some e)
  (hv : FnX P f vs w0 R (e :: E.eraseIdx i) (fun v R' E' => ∃ e' N, E' = N ++ e' :: E.eraseIdx i ∧ Post v R' e' N) (fun v R' E' => ∃ e', E' = e' :: E.eraseIdx i ∧ PX v R' e'))
  (hx : ∀ v R' e', RLe R R' → PX v R' e' → WE Q (.panic [{ v := v, recovered := false }]) n env w0 R' (E.set i e'))
  (h : ∀ v R' e' N, RLe R R' → Post v R' e' N → WG false P ops Q rest n ((d, true, v) :: env) w0 R' (N ++ E.set i e')) : WG false P ops Q (o :: rest) n env w0 R E := by
 intro a w hk hm
 refine wpList_plain hg fun K hK => ?_
 unfold Oper.wp
 rw [run_call hk hc rfl hf]
 refine (hv w (hm.perm (perm_get hE))).mono ?_
 rintro e0 w' (⟨v, R', E', rfl, hR, hm', e', N, rfl, hp⟩ | ⟨v, R', E', rfl, hR, hm', e', rfl, hp⟩)
 ·simp only [hd]
  exact hK _ _ (h v R' e' N hR hp _ _ (hk.putT hdn v) (hm'.perm ((perm_set e' hE).append_left N)))
 ·exact hx v R' e' hR hp _ _ hk (hm'.perm (perm_set e' hE))
end
end Go.Proofs.YtmidibkljoaoiaaGreatDoor.K

/- The reader of words. No condition. -/
namespace Go.Proofs.YtmidibkljoaoiaaGreatDoor
open Go Go.RowKit Go.Proofs.YtmidibkljoaoiaaGreatDoor.K
theorem qR {P : Prop} (h : P := by first | exact RLe.refl _ | assumption) : P := h
theorem qK {P : Prop} (h : P := by kernel_rfl) : P := h
theorem qD {P : Prop} (h : P := by decide) : P := h
theorem qA {P : Prop} (h : P := by intro _; constructor <;> (try dsimp only) <;> omega) : P := h
theorem qN {P : Prop} (h : P := by intro _; (try dsimp only) <;> omega) : P := h
theorem qP {P : Prop} (h : P := by intro h1 h2; simp_all <;> omega) : P := h
theorem qX {P : Prop} (h : P := by (try dsimp only) <;> omega) : P := h
theorem qU {P : Prop} (h : P := by assumption) : P := h
theorem qO {P : Prop} (h : P := by omega) : P := h
theorem qH {P : Prop} (h : P := by intro _; first | exact fun _ _ _ _ => rfl | exact RS.has (by assumption) | exact fun _ _ _ _ => (by assumption) | exact HasMem.ownD 0 rfl | exact HasMem.ownD 1 rfl | exact HasMem.ownD 2 rfl | exact HasMem.ownD 3 rfl | exact HasMem.ownD 4 rfl | exact HasMem.ownD 5 rfl | exact HasMem.ownD 6 rfl | exact HasMem.ownD 7 rfl | exact HasMem.ownD 8 rfl | exact HasMem.ownD 9 rfl | exact HasMem.ownD 10 rfl | exact HasMem.ownD 11 rfl) : P := h
theorem qI {P : Prop} (h : P := by first | exact fun _ _ _ _ => rfl | exact RS.has (by assumption) | exact fun _ _ _ _ => (by assumption) | exact HasMem.ownD 0 rfl | exact HasMem.ownD 1 rfl | exact HasMem.ownD 2 rfl | exact HasMem.ownD 3 rfl | exact HasMem.ownD 4 rfl | exact HasMem.ownD 5 rfl | exact HasMem.ownD 6 rfl | exact HasMem.ownD 7 rfl | exact HasMem.ownD 8 rfl | exact HasMem.ownD 9 rfl | exact HasMem.ownD 10 rfl | exact HasMem.ownD 11 rfl) : P := h
theorem zk : (∀ (p : Prop) [Decidable p], (decide p = true) = p) ∧ (∀ (p : Prop) [Decidable p], (decide p = false) ↔ ¬ p) ∧ (∀ (α : Type) [BEq α] [LawfulBEq α] (a b : α), (a == b) = true ↔ a = b) ∧ (∀ (α : Type) [BEq α] [LawfulBEq α] (a b : α), (a != b) = true ↔ a ≠ b) ∧ (∀ (α : Type) [BEq α] [LawfulBEq α] (a b : α), (a == b) = false ↔ a ≠ b) ∧ (∀ (α : Type) [BEq α] [LawfulBEq α] (a b : α), (a != b) = false ↔ a = b) ∧ (∀ (α : Type) (a b : α), (a ≠ b) = ¬ (a = b)) ∧ (∀ (a b : Bool), ((a || b) = true) = (a = true ∨ b = true)) ∧ (∀ (a b : Bool), (a || b) = false ↔ a = false ∧ b = false) ∧ (∀ (a b : Bool), ((a && b) = true) = (a = true ∧ b = true)) ∧ (∀ (a b : Bool), (a && b) = false ↔ (a = true → b = false)) ∧ (∀ (b : Bool), (¬ (b = true)) = (b = false)) ∧ (∀ (b : Bool), ((!b) = true) = (b = false)) ∧ (∀ (b : Bool), ((!b) = false) = (b = true)) ∧ (∀ (a : Prop), ¬ ¬ a ↔ a) ∧ (∀ (a b : Int), ¬ (a < b) ↔ b ≤ a) ∧ (∀ (a b : Int), ¬ (a ≤ b) ↔ b < a) ∧ (∀ (α : Type) [LT α] (x y : α), x > y ↔ y < x) ∧ (∀ (α : Type) [LE α] (x y : α), x ≥ y ↔ y ≤ x) := by
 refine ⟨by intros; first | exact decide_eq_true_eq | exact decide_eq_true_eq .. | simp, by intros; first | exact decide_eq_false_iff_not | exact decide_eq_false_iff_not .. | simp, by intros; first | exact beq_iff_eq | exact beq_iff_eq .. | simp, by intros; first | exact bne_iff_ne | exact bne_iff_ne .. | simp, by intros; first | exact beq_eq_false_iff_ne | exact beq_eq_false_iff_ne .. | simp, by intros; first | exact bne_eq_false_iff_eq | exact bne_eq_false_iff_eq .. | simp, by intros; first | exact ne_eq | exact ne_eq .. | simp, by intros; first | exact Bool.or_eq_true | exact Bool.or_eq_true .. | simp, by intros; first | exact Bool.or_eq_false_iff | exact Bool.or_eq_false_iff .. | simp, by intros; first | exact Bool.and_eq_true | exact Bool.and_eq_true .. | simp, by intros; first | exact Bool.and_eq_false_imp | exact Bool.and_eq_false_imp .. | simp, by intros; first | exact Bool.not_eq_true | exact Bool.not_eq_true .. | simp, by intros; first | exact Bool.not_eq_true' | exact Bool.not_eq_true' .. | simp, by intros; first | exact Bool.not_eq_false' | exact Bool.not_eq_false' .. | simp, by intros; first | exact Classical.not_not | exact Classical.not_not .. | simp, by intros; first | exact Int.not_lt | exact Int.not_lt .. | simp, by intros; first | exact Int.not_le | exact Int.not_le .. | simp, by intros; first | exact gt_iff_lt | exact gt_iff_lt .. | simp, by intros; first | exact ge_iff_le | exact ge_iff_le .. | simp⟩
end Go.Proofs.YtmidibkljoaoiaaGreatDoor
namespace Go.Proofs.YtmidibkljoaoiaaGreatDoor
open Go Go.RowKit Go.Proofs.YtmidibkljoaoiaaGreatDoor.K
theorem tP {P : Program} {T : Tab} {n : Nat} {env : Env} {w0 : World} {R : Ro} {R0 : Ro} {E : List Ent} {ES : List Ent} {o : Oper} {pc : Bool} {q : Bool} {ops : List Oper} {Q : Exit → Act → World → Prop} {fuel : Nat} {listed : Array Bool} {v : Value} {d : Nat} (i : Nat) (h : WA P ops Q ES R0 w0 fuel (listed.setIfInBounds i true) n ((d, pc, v) :: env) R E) (hT : TabOk P T := by exact tab_ok) (hi : ops.toArray[i]? = some o := by exact rfl) (hs : Region.noSelect ops.toArray = true := by kernel_rfl) (hf : Region.free .any ops.toArray listed i = true := by kernel_rfl) (hr : (Region.ready .any ops.toArray listed).contains i = true := by kernel_rfl) (hg : gpc ops env o = some pc := by exact rfl) (hd : o.dst = some d := by exact rfl) (hdn : d < n := by decide) (hv : pureV T env o.op = some (q, v) := by exact rfl) (hq : pc = true → q = true := by exact fun _ => rfl) (hsub : ES.Sublist E := by (repeat (first | exact List.Sublist.refl _ | exact List.nil_sublist _ | apply List.Sublist.cons_cons | apply List.Sublist.cons)); done) (hR : RLe R0 R := by first | exact RLe.refl _ | assumption) : WA P ops Q ES R0 w0 (fuel + 1) listed n env R E := WA.take i hi hs hf hr hg hd hdn (pureV_ok hT hv hq) hsub hR h
theorem tL {P : Program} {T : Tab} {n : Nat} {env : Env} {w0 : World} {R : Ro} {R0 : Ro} {E : List Ent} {ES : List Ent} {o : Oper} {pc : Bool} {p : Bool} {ops : List Oper} {Q : Exit → Act → World → Prop} {fuel : Nat} {listed : Array Bool} {t : TypeId} {x : Operand} {ad : Addr} {cs : List Value} {dd : TD} {v : Value} {d : Nat} (i : Nat) (hrd : Rd R0 ES ad cs) (h : WA P ops Q ES R0 w0 fuel (listed.setIfInBounds i true) n ((d, pc, v) :: env) R E) (hT : TabOk P T := by exact tab_ok) (hi : ops.toArray[i]? = some o := by exact rfl) (hs : Region.noSelect ops.toArray = true := by kernel_rfl) (hf : Region.free .any ops.toArray listed i = true := by kernel_rfl) (hr : (Region.ready .any ops.toArray listed).contains i = true := by kernel_rfl) (hg : gpc ops env o = some pc := by exact rfl) (hd : o.dst = some d := by exact rfl) (hdn : d < n := by decide) (ho : o.op = .load t x := by exact rfl) (hdt : T.at t = some dd := by exact rfl) (hx : ev env x = some (p, .pointer (some ad)) := by exact rfl) (hp : pc = true → p = true := by exact fun _ => rfl) (hk : dd.k.known = true := by exact rfl) (hv : loadV dd cs = some v := by exact rfl) (hsub : ES.Sublist E := by (repeat (first | exact List.Sublist.refl _ | exact List.nil_sublist _ | apply List.Sublist.cons_cons | apply List.Sublist.cons)); done) (hR : RLe R0 R := by first | exact RLe.refl _ | assumption) : WA P ops Q ES R0 w0 (fuel + 1) listed n env R E := WA.take i hi hs hf hr hg hd hdn (Yl.load1 hT ho hdt hx hp hrd hk hv) hsub hR h
theorem tA {P : Program} {n : Nat} {env : Env} {w0 : World} {R : Ro} {R0 : Ro} {E : List Ent} {ES : List Ent} {o : Oper} {pc : Bool} {p : Bool} {q : Bool} {ops : List Oper} {Q : Exit → Act → World → Prop} {fuel : Nat} {listed : Array Bool} {t t2 : TypeId} {x y : Operand} {a b : Int} {d : Nat} (i : Nat) (h : WA P ops Q ES R0 w0 fuel (listed.setIfInBounds i true) n ((d, pc, .int .i64 (a + b)) :: env) R E) (hi : ops.toArray[i]? = some o := by exact rfl) (hs : Region.noSelect ops.toArray = true := by kernel_rfl) (hf : Region.free .any ops.toArray listed i = true := by kernel_rfl) (hr : (Region.ready .any ops.toArray listed).contains i = true := by kernel_rfl) (hg : gpc ops env o = some pc := by exact rfl) (hd : o.dst = some d := by exact rfl) (hdn : d < n := by decide) (ho : o.op = .binOp .add t x y t2 := by exact rfl) (hx : ev env x = some (p, .int .i64 a) := by exact rfl) (hy : ev env y = some (q, .int .i64 b) := by exact rfl) (hpq : pc = true → (p && q) = true := by exact fun _ => rfl) (hr2 : pc = true → InR (a + b) := by intro _; constructor <;> (try dsimp only) <;> omega) (hsub : ES.Sublist E := by (repeat (first | exact List.Sublist.refl _ | exact List.nil_sublist _ | apply List.Sublist.cons_cons | apply List.Sublist.cons)); done) (hR : RLe R0 R := by first | exact RLe.refl _ | assumption) : WA P ops Q ES R0 w0 (fuel + 1) listed n env R E := WA.take i hi hs hf hr hg hd hdn (Yl.add ho hx hy hpq hr2) hsub hR h
theorem tS {P : Program} {n : Nat} {env : Env} {w0 : World} {R : Ro} {R0 : Ro} {E : List Ent} {ES : List Ent} {o : Oper} {pc : Bool} {p : Bool} {q : Bool} {ops : List Oper} {Q : Exit → Act → World → Prop} {fuel : Nat} {listed : Array Bool} {t t2 : TypeId} {x y : Operand} {a b : Int} {d : Nat} (i : Nat) (h : WA P ops Q ES R0 w0 fuel (listed.setIfInBounds i true) n ((d, pc, .int .i64 (a - b)) :: env) R E) (hi : ops.toArray[i]? = some o := by exact rfl) (hs : Region.noSelect ops.toArray = true := by kernel_rfl) (hf : Region.free .any ops.toArray listed i = true := by kernel_rfl) (hr : (Region.ready .any ops.toArray listed).contains i = true := by kernel_rfl) (hg : gpc ops env o = some pc := by exact rfl) (hd : o.dst = some d := by exact rfl) (hdn : d < n := by decide) (ho : o.op = .binOp .sub t x y t2 := by exact rfl) (hx : ev env x = some (p, .int .i64 a) := by exact rfl) (hy : ev env y = some (q, .int .i64 b) := by exact rfl) (hpq : pc = true → (p && q) = true := by exact fun _ => rfl) (hr2 : pc = true → InR (a - b) := by intro _; constructor <;> (try dsimp only) <;> omega) (hsub : ES.Sublist E := by (repeat (first | exact List.Sublist.refl _ | exact List.nil_sublist _ | apply List.Sublist.cons_cons | apply List.Sublist.cons)); done) (hR : RLe R0 R := by first | exact RLe.refl _ | assumption) : WA P ops Q ES R0 w0 (fuel + 1) listed n env R E := WA.take i hi hs hf hr hg hd hdn (Yl.sub ho hx hy hpq hr2) hsub hR h
theorem yP {P : Program} {T : Tab} {n : Nat} {env : Env} {w0 : World} {R : Ro} {E : List Ent} {o : Oper} {pc : Bool} {q : Bool} {draw : Bool} {ops : List Oper} {rest : List Oper} {Q : Exit → Act → World → Prop} {v : Value} {d : Nat} (h : WG draw P ops Q rest n ((d, pc, v) :: env) w0 R E) (hT : TabOk P T := by exact tab_ok) (hg : gpc ops env o = some pc := by exact rfl) (hd : o.dst = some d := by exact rfl) (hdn : d < n := by decide) (hv : pureV T env o.op = some (q, v) := by exact rfl) (hq : pc = true → q = true := by first | exact fun _ => rfl | exact fun h => h | (intro h; simp_all)) : WG draw P ops Q (o :: rest) n env w0 R E := WG.y hg hd hdn (pureV_ok hT hv hq) h
theorem yL {P : Program} {T : Tab} {n : Nat} {env : Env} {w0 : World} {R : Ro} {E : List Ent} {o : Oper} {pc : Bool} {p : Bool} {draw : Bool} {ops : List Oper} {rest : List Oper} {Q : Exit → Act → World → Prop} {t : TypeId} {x : Operand} {ad : Addr} {cs : List Value} {dd : TD} {v : Value} {d : Nat} (hrd : Rd R E ad cs) (h : WG draw P ops Q rest n ((d, pc, v) :: env) w0 R E) (hT : TabOk P T := by exact tab_ok) (hg : gpc ops env o = some pc := by exact rfl) (hd : o.dst = some d := by exact rfl) (hdn : d < n := by decide) (ho : o.op = .load t x := by exact rfl) (hdt : T.at t = some dd := by exact rfl) (hx : ev env x = some (p, .pointer (some ad)) := by exact rfl) (hp : pc = true → p = true := by exact fun _ => rfl) (hk : dd.k.known = true := by exact rfl) (hv : loadV dd cs = some v := by exact rfl) : WG draw P ops Q (o :: rest) n env w0 R E := WG.y hg hd hdn (Yl.load1 hT ho hdt hx hp hrd hk hv) h
theorem yA {P : Program} {n : Nat} {env : Env} {w0 : World} {R : Ro} {E : List Ent} {o : Oper} {pc : Bool} {p : Bool} {q : Bool} {draw : Bool} {ops : List Oper} {rest : List Oper} {Q : Exit → Act → World → Prop} {t t2 : TypeId} {x y : Operand} {a b : Int} {d : Nat} (h : WG draw P ops Q rest n ((d, pc, .int .i64 (a + b)) :: env) w0 R E) (hg : gpc ops env o = some pc := by exact rfl) (hd : o.dst = some d := by exact rfl) (hdn : d < n := by decide) (ho : o.op = .binOp .add t x y t2 := by exact rfl) (hx : ev env x = some (p, .int .i64 a) := by exact rfl) (hy : ev env y = some (q, .int .i64 b) := by exact rfl) (hpq : pc = true → (p && q) = true := by exact fun _ => rfl) (hr2 : pc = true → InR (a + b) := by intro _; constructor <;> (try dsimp only) <;> omega) : WG draw P ops Q (o :: rest) n env w0 R E := WG.y hg hd hdn (Yl.add ho hx hy hpq hr2) h
theorem yS {P : Program} {n : Nat} {env : Env} {w0 : World} {R : Ro} {E : List Ent} {o : Oper} {pc : Bool} {p : Bool} {q : Bool} {draw : Bool} {ops : List Oper} {rest : List Oper} {Q : Exit → Act → World → Prop} {t t2 : TypeId} {x y : Operand} {a b : Int} {d : Nat} (h : WG draw P ops Q rest n ((d, pc, .int .i64 (a - b)) :: env) w0 R E) (hg : gpc ops env o = some pc := by exact rfl) (hd : o.dst = some d := by exact rfl) (hdn : d < n := by decide) (ho : o.op = .binOp .sub t x y t2 := by exact rfl) (hx : ev env x = some (p, .int .i64 a) := by exact rfl) (hy : ev env y = some (q, .int .i64 b) := by exact rfl) (hpq : pc = true → (p && q) = true := by exact fun _ => rfl) (hr2 : pc = true → InR (a - b) := by intro _; constructor <;> (try dsimp only) <;> omega) : WG draw P ops Q (o :: rest) n env w0 R E := WG.y hg hd hdn (Yl.sub ho hx hy hpq hr2) h
theorem zR {n : Nat} {env : Env} {w0 : World} {R : Ro} {E : List Ent} {draw : Bool} {ops : List Oper} {Q : Exit → Act → World → Prop} {l l' : List Oper} {env' : Env} (m : Nat) (h : runPure tab n m l env = (l', env')) (k : WG draw Tryz.prog ops Q l' n env' w0 R E) : WG draw Tryz.prog ops Q l n env w0 R E := WG.run tab_ok m h k
theorem zE {P : Program} {T : Tab} {n : Nat} {env : Env} {w0 : World} {R : Ro} {E : List Ent} {o : Oper} {ops : List Oper} {rest : List Oper} {Q : Exit → Act → World → Prop} {t : TypeId} {x y : Operand} {b : Nat} {cs : List Value} {v : Value} {dd : TD} (k : Nat) (h : WG false P ops Q rest n env w0 R (E.set k (.blk b (setSeg cs 0 (vcells v))))) (hT : TabOk P T := by exact tab_ok) (hg : o.guard = none := by exact rfl) (hd : o.dst = none := by exact rfl) (ho : o.op = .store t x y := by exact rfl) (hdt : T.at t = some dd := by exact rfl) (hx : ev env x = some (true, .pointer (some ⟨b, 0, none⟩)) := by exact rfl) (hy : ev env y = some (true, v) := by exact rfl) (hE : E[k]? = some (.blk b cs) := by exact rfl) (hl : Nat.beq (vcells v).length dd.size = true := by exact rfl) (hfit : Nat.ble dd.size cs.length = true := by exact rfl) (h1 : cells1 (vcells v) = true := by exact rfl) : WG false P ops Q (o :: rest) n env w0 R E := WL.efN hg hd (Ef.store0 k hT ho hdt hx hy hE hl hfit h1 h)
theorem zCE {P : Program} {T : Tab} {n : Nat} {env : Env} {w0 : World} {R : Ro} {R0 : Ro} {E : List Ent} {ES : List Ent} {o : Oper} {ops : List Oper} {Q : Exit → Act → World → Prop} {fuel : Nat} {listed : Array Bool} {t : TypeId} {x y : Operand} {b : Nat} {cs : List Value} {v : Value} {dd : TD} (i k : Nat) (h : WA P ops Q ES R0 w0 fuel (listed.setIfInBounds i true) n env R (E.set k (.blk b (setSeg cs 0 (vcells v))))) (hT : TabOk P T := by exact tab_ok) (hi : ops.toArray[i]? = some o := by exact rfl) (hr : Region.ready .any ops.toArray listed = [i] := by kernel_rfl) (hg : o.guard = none := by exact rfl) (hd : o.dst = none := by exact rfl) (ho : o.op = .store t x y := by exact rfl) (hdt : T.at t = some dd := by exact rfl) (hx : ev env x = some (true, .pointer (some ⟨b, 0, none⟩)) := by exact rfl) (hy : ev env y = some (true, v) := by exact rfl) (hE : E[k]? = some (.blk b cs) := by exact rfl) (hl : Nat.beq (vcells v).length dd.size = true := by exact rfl) (hfit : Nat.ble dd.size cs.length = true := by exact rfl) (h1 : cells1 (vcells v) = true := by exact rfl) (hR : RLe R0 R := by first | exact RLe.refl _ | assumption) (hsub : ES.Sublist (E.set k (.blk b (setSeg cs 0 (vcells v)))) := by (repeat (first | exact List.Sublist.refl _ | exact List.nil_sublist _ | apply List.Sublist.cons_cons | apply List.Sublist.cons)); done) : WA P ops Q ES R0 w0 (fuel + 1) listed n env R E := WA.effN i hi hr hg hd (Ef.store0 k hT ho hdt hx hy hE hl hfit h1 ⟨hR, hsub, h⟩)
theorem zF {P : Program} {T : Tab} {n : Nat} {env : Env} {w0 : World} {R : Ro} {E : List Ent} {o : Oper} {ops : List Oper} {rest : List Oper} {Q : Exit → Act → World → Prop} {t : TypeId} {x y : Operand} {b off : Nat} {cs : List Value} {v : Value} {dd : TD} (k : Nat) (h : WG false P ops Q rest n env w0 R (E.set k (.blk b (setSeg cs off (vcells v))))) (hT : TabOk P T := by exact tab_ok) (hg : o.guard = none := by exact rfl) (hd : o.dst = none := by exact rfl) (ho : o.op = .store t x y := by exact rfl) (hdt : T.at t = some dd := by exact rfl) (hx : ev env x = some (true, .pointer (some ((⟨b, 0, none⟩ : Addr).add off))) := by exact rfl) (hy : ev env y = some (true, v) := by exact rfl) (hE : E[k]? = some (.blk b cs) := by exact rfl) (hl : Nat.beq (vcells v).length dd.size = true := by exact rfl) (hfit : Nat.ble (off + dd.size) cs.length = true := by exact rfl) (h1 : cells1 (vcells v) = true := by exact rfl) : WG false P ops Q (o :: rest) n env w0 R E := WL.efN hg hd (Ef.store k hT ho hdt hx hy hE hl hfit h1 h)
theorem zCF {P : Program} {T : Tab} {n : Nat} {env : Env} {w0 : World} {R : Ro} {R0 : Ro} {E : List Ent} {ES : List Ent} {o : Oper} {ops : List Oper} {Q : Exit → Act → World → Prop} {fuel : Nat} {listed : Array Bool} {t : TypeId} {x y : Operand} {b off : Nat} {cs : List Value} {v : Value} {dd : TD} (i k : Nat) (h : WA P ops Q ES R0 w0 fuel (listed.setIfInBounds i true) n env R (E.set k (.blk b (setSeg cs off (vcells v))))) (hT : TabOk P T := by exact tab_ok) (hi : ops.toArray[i]? = some o := by exact rfl) (hr : Region.ready .any ops.toArray listed = [i] := by kernel_rfl) (hg : o.guard = none := by exact rfl) (hd : o.dst = none := by exact rfl) (ho : o.op = .store t x y := by exact rfl) (hdt : T.at t = some dd := by exact rfl) (hx : ev env x = some (true, .pointer (some ((⟨b, 0, none⟩ : Addr).add off))) := by exact rfl) (hy : ev env y = some (true, v) := by exact rfl) (hE : E[k]? = some (.blk b cs) := by exact rfl) (hl : Nat.beq (vcells v).length dd.size = true := by exact rfl) (hfit : Nat.ble (off + dd.size) cs.length = true := by exact rfl) (h1 : cells1 (vcells v) = true := by exact rfl) (hR : RLe R0 R := by first | exact RLe.refl _ | assumption) (hsub : ES.Sublist (E.set k (.blk b (setSeg cs off (vcells v)))) := by (repeat (first | exact List.Sublist.refl _ | exact List.nil_sublist _ | apply List.Sublist.cons_cons | apply List.Sublist.cons)); done) : WA P ops Q ES R0 w0 (fuel + 1) listed n env R E := WA.effN i hi hr hg hd (Ef.store k hT ho hdt hx hy hE hl hfit h1 ⟨hR, hsub, h⟩)
theorem lL {P : Program} {T : Tab} {n : Nat} {env : Env} {w0 : World} {R : Ro} {R0 : Ro} {E : List Ent} {ES : List Ent} {o : Oper} {p : Bool} {ops : List Oper} {Q : Exit → Act → World → Prop} {fuel : Nat} {listed : Array Bool} {t : TypeId} {x : Operand} {ad : Addr} {cs : List Value} {dd : TD} {v : Value} {d : Nat} (i : Nat) (hrd : Rd R E ad cs) (h : WA P ops Q ES R0 w0 fuel (listed.setIfInBounds i true) n ((d, true, v) :: env) R E) (hT : TabOk P T := by exact tab_ok) (hi : ops.toArray[i]? = some o := by exact rfl) (hr : Region.ready .any ops.toArray listed = [i] := by kernel_rfl) (hg : o.guard = none := by exact rfl) (hd : o.dst = some d := by exact rfl) (hdn : d < n := by decide) (ho : o.op = .load t x := by exact rfl) (hdt : T.at t = some dd := by exact rfl) (hx : ev env x = some (p, .pointer (some ad)) := by exact rfl) (hp : true = true → p = true := by exact fun _ => rfl) (hk : dd.k.known = true := by exact rfl) (hv : loadV dd cs = some v := by exact rfl) (hsub : ES.Sublist E := by (repeat (first | exact List.Sublist.refl _ | exact List.nil_sublist _ | apply List.Sublist.cons_cons | apply List.Sublist.cons)); done) (hR : RLe R0 R := by first | exact RLe.refl _ | assumption) : WA P ops Q ES R0 w0 (fuel + 1) listed n env R E := WA.yl i hi hr hg hd hdn (Yl.load1 (pc := true) hT ho hdt hx hp hrd hk hv) hsub hR h
theorem sL {P : Program} {T : Tab} {n : Nat} {env : Env} {w0 : World} {R : Ro} {R0 : Ro} {E : List Ent} {ES : List Ent} {o : Oper} {p : Bool} {ops : List Oper} {Q : Exit → Act → World → Prop} {fuel : Nat} {listed : Array Bool} {t : TypeId} {x : Operand} {ad : Addr} {cs : List Value} {dd : TD} {v : Value} {d i : Nat} (hrd : Rd R E ad cs) (h : WA P ops Q ES R0 w0 fuel (listed.setIfInBounds i true) n ((d, true, v) :: env) R E) (hT : TabOk P T := by exact tab_ok) (hi : ops.toArray[i]? = some o := by exact rfl) (hg : o.guard = none := by exact rfl) (hd : o.dst = some d := by exact rfl) (hdn : d < n := by decide) (ho : o.op = .load t x := by exact rfl) (hdt : T.at t = some dd := by exact rfl) (hx : ev env x = some (p, .pointer (some ad)) := by exact rfl) (hp : true = true → p = true := by exact fun _ => rfl) (hk : dd.k.known = true := by exact rfl) (hv : loadV dd cs = some v := by exact rfl) (hsub : ES.Sublist E := by (repeat (first | exact List.Sublist.refl _ | exact List.nil_sublist _ | apply List.Sublist.cons_cons | apply List.Sublist.cons)); done) (hR : RLe R0 R := by first | exact RLe.refl _ | assumption) : WS P ops Q ES R0 w0 fuel listed n env R E i := WS.yl hi hg hd hdn (Yl.load1 (pc := true) hT ho hdt hx hp hrd hk hv) hsub hR h
theorem zQ {P : Program} {n : Nat} {env : Env} {w0 : World} {R : Ro} {E : List Ent} {Q : Exit → Act → World → Prop} {x : Code} {y : Code} (h : W P x (Exit.then (y.wp P Q) Q) n env w0 R E) : W P (.seq x y) Q n env w0 R E := W.seq h
theorem zG {P : Program} {n : Nat} {env : Env} {w0 : World} {R : Ro} {E : List Ent} {Q : Exit → Act → World → Prop}  {id : Nat} {l : List Oper} (h : WG false P l Q l n env w0 R E) : W P (.region id l.toArray false) Q n env w0 R E := W.region id h
theorem zN {P : Program} {n : Nat} {env : Env} {w0 : World} {R : Ro} {E : List Ent} {draw : Bool} {ops : List Oper} {Q : Exit → Act → World → Prop}  (h : WE Q .normal n env w0 R E) : WG draw P ops Q [] n env w0 R E := WG.nil h
theorem zU {P : Program} {n : Nat} {env : Env} {w0 : World} {R : Ro} {E : List Ent} {Q : Exit → Act → World → Prop} {y : Code} (h : W P y Q n env w0 R E) : WE (Exit.then (y.wp P Q) Q) .normal n env w0 R E := WE.nxt h
theorem zB {P : Program} {n : Nat} {env : Env} {w0 : World} {R : Ro} {E : List Ent} {Q : Exit → Act → World → Prop} {x : Code} {id : Nat} (h : W P x (Exit.inBlock id Q) n env w0 R E) : W P (.block id x) Q n env w0 R E := W.block h
theorem zK {P : Program} {n : Nat} {env : Env} {w0 : World} {R : Ro} {E : List Ent} {Q : Exit → Act → World → Prop}  (h : WE Q .normal n env w0 R E) : W P .skip Q n env w0 R E := W.skip h
theorem zT {P : Program} {n : Nat} {env : Env} {w0 : World} {R : Ro} {E : List Ent} {Q : Exit → Act → World → Prop}  (h : WE Q .ret n env w0 R E) : W P .ret Q n env w0 R E := W.ret h
theorem wt {n : Nat} {env : Env} {w0 : World} {R : Ro} {E : List Ent} {Q : Exit → Act → World → Prop} {K : Act → World → Prop} (h : WE Q .ret n env w0 R E) : WE (Exit.then K Q) .ret n env w0 R E := WE.then_ret h
theorem wb {n : Nat} {env : Env} {w0 : World} {R : Ro} {E : List Ent} {Q : Exit → Act → World → Prop}  {id : Nat} (h : WE Q .ret n env w0 R E) : WE (Exit.inBlock id Q) .ret n env w0 R E := WE.blk_ret h
theorem wx {n : Nat} {env : Env} {w0 : World} {R : Ro} {E : List Ent} {Q : Exit → Act → World → Prop} {K : Act → World → Prop} {id : Nat} (h : WE Q (.exit id) n env w0 R E) : WE (Exit.then K Q) (.exit id) n env w0 R E := WE.then_exit h
theorem zY {n : Nat} {env : Env} {w0 : World} {R : Ro} {E : List Ent} {Q : Exit → Act → World → Prop}  {id : Nat} (h : WE Q .normal n env w0 R E) : WE (Exit.inBlock id Q) (.exit id) n env w0 R E := WE.blk_exit h
theorem zX {P : Program} {n : Nat} {env : Env} {w0 : World} {R : Ro} {E : List Ent} {Q : Exit → Act → World → Prop}  {id : Nat} (h : WE Q (.exit id) n env w0 R E) : W P (.exit id) Q n env w0 R E := W.exit h
theorem zL {n : Nat} {env : Env} {w0 : World} {R : Ro} {E : List Ent} {Q : Exit → Act → World → Prop}  {id : Nat} (h : WE Q .normal n env w0 R E) : WE (Exit.inBlock id Q) .normal n env w0 R E := WE.blk id h
theorem fE {P : Program} {f : FuncId} {fn : Func} {c : Code} {args : List Value} {Post : Value → Ro → List Ent → Prop} {w0 : World} {R : Ro} {E : List Ent} (n : Nat) (hf : P.funcs[f]? = some fn) (h : W P c (bodyPost P fn (FnR w0 R Post)) n (argEnv 0 args) w0 R E) (hb : fn.body = some c := by exact rfl) (hn : fn.ntmps = n := by exact rfl) (ha : args.length ≤ n := by exact Nat.le_of_ble_eq_true rfl) (hs : Nat.ble n 99999 = true := by exact rfl) : K.Fn P f args w0 R E Post := Fn.enter hf hb hn ha hs h
theorem zA {P : Program} {T : Tab} {n : Nat} {env : Env} {w0 : World} {R : Ro} {E : List Ent} {o : Oper} {ops : List Oper} {rest : List Oper} {Q : Exit → Act → World → Prop} {d : Nat} {t : TypeId} {dd : TD} (h : ∀ b, WG false P ops Q rest n ((d, true, (.pointer (some ⟨b, 0, none⟩))) :: env) w0 R (.blk b dd.zero :: E)) (hT : TabOk P T := by exact tab_ok) (hg : o.guard = none := by exact rfl) (hd : o.dst = some d := by exact rfl) (hdn : d < n := by decide) (ho : o.op = .alloc t := by exact rfl) (hdt : T.at t = some dd := by exact rfl) : WG false P ops Q (o :: rest) n env w0 R E := WL.ef hg hd hdn (Ef.alloc hT ho hdt h)
theorem zO {P : Program} {n : Nat} {env : Env} {w0 : World} {R : Ro} {E : List Ent} {o : Oper} {ops : List Oper} {rest : List Oper} {Q : Exit → Act → World → Prop} {d : Nat} {t : TypeId} {x : Operand} {v : Value} (h : ∀ b, WG false P ops Q rest n ((d, true, (.pointer (some ⟨b, 0, none⟩))) :: env) w0 R (.blk b (vcells v) :: E)) (hg : o.guard = none := by exact rfl) (hd : o.dst = some d := by exact rfl) (hdn : d < n := by decide) (ho : o.op = .box t x := by exact rfl) (hx : ev env x = some (true, v) := by exact rfl) : WG false P ops Q (o :: rest) n env w0 R E := WL.ef hg hd hdn (Ef.box ho hx h)
theorem yO {P : Program} {n : Nat} {env : Env} {w0 : World} {R : Ro} {E : List Ent} {o : Oper} {pc : Bool} {p : Bool} {q : Bool} {draw : Bool} {ops : List Oper} {rest : List Oper} {Q : Exit → Act → World → Prop} {x y : Operand} {b c : Bool} {d : Nat} (h : WG draw P ops Q rest n ((d, pc, .bool (b || c)) :: env) w0 R E) (hg : gpc ops env o = some pc := by exact rfl) (hd : o.dst = some d := by exact rfl) (hdn : d < n := by decide) (ho : o.op = .pick x (.const (.bool true)) y := by exact rfl) (hx : ev env x = some (p, .bool b) := by exact rfl) (hy : ev env y = some (q, .bool c) := by exact rfl) (hp : pc = true → p = true := by first | exact fun _ => rfl | exact fun h => h | (intro h; simp_all)) (hq : pc = true → b = false → q = true := by intro h1 h2; simp_all <;> omega) : WG draw P ops Q (o :: rest) n env w0 R E := WG.y hg hd hdn (Yl.por ho hx hy hp hq) h
theorem yN {P : Program} {n : Nat} {env : Env} {w0 : World} {R : Ro} {E : List Ent} {o : Oper} {pc : Bool} {p : Bool} {q : Bool} {draw : Bool} {ops : List Oper} {rest : List Oper} {Q : Exit → Act → World → Prop} {x y : Operand} {b c : Bool} {d : Nat} (h : WG draw P ops Q rest n ((d, pc, .bool (b && c)) :: env) w0 R E) (hg : gpc ops env o = some pc := by exact rfl) (hd : o.dst = some d := by exact rfl) (hdn : d < n := by decide) (ho : o.op = .pick x y (.const (.bool false)) := by exact rfl) (hx : ev env x = some (p, .bool b) := by exact rfl) (hy : ev env y = some (q, .bool c) := by exact rfl) (hp : pc = true → p = true := by first | exact fun _ => rfl | exact fun h => h | (intro h; simp_all)) (hq : pc = true → b = true → q = true := by intro h1 h2; simp_all <;> omega) : WG draw P ops Q (o :: rest) n env w0 R E := WG.y hg hd hdn (Yl.pand ho hx hy hp hq) h
theorem yG {P : Program} {T : Tab} {n : Nat} {env : Env} {w0 : World} {R : Ro} {E : List Ent} {o : Oper} {pc : Bool} {p : Bool} {draw : Bool} {ops : List Oper} {rest : List Oper} {Q : Exit → Act → World → Prop} {t : TypeId} {x : Operand} {ad : Addr} {cs : List Value} {dd : TD} {v : Value} {d : Nat} (hrd : True → Rd R E ad cs) (h : WG draw P ops Q rest n ((d, pc, v) :: env) w0 R E) (hT : TabOk P T := by exact tab_ok) (hg : gpc ops env o = some pc := by exact rfl) (hd : o.dst = some d := by exact rfl) (hdn : d < n := by decide) (ho : o.op = .load t x := by exact rfl) (hdt : T.at t = some dd := by exact rfl) (hx : ev env x = some (p, .pointer (some ad)) := by exact rfl) (hp : pc = true → p = true := by first | exact fun _ => rfl | exact fun h => h | (intro h; simp_all)) (hk : dd.k.known = true := by exact rfl) (hv : loadV dd cs = some v := by exact rfl) : WG draw P ops Q (o :: rest) n env w0 R E := WG.y hg hd hdn (Yl.loadG hT ho hdt hx hp hrd hk hv (fun _ => trivial)) h
theorem yR {P : Program} {T : Tab} {n : Nat} {env : Env} {w0 : World} {R : Ro} {E : List Ent} {o : Oper} {pc : Bool} {p : Bool} {draw : Bool} {ops : List Oper} {rest : List Oper} {Q : Exit → Act → World → Prop} {t : TypeId} {x : Operand} {ad : Addr} {cs : List Value} {dd : TD} {v : Value} {d : Nat} (h : WG draw P ops Q rest n ((d, pc, v) :: env) w0 R E) (hT : TabOk P T := by exact tab_ok) (hg : gpc ops env o = some pc := by exact rfl) (hd : o.dst = some d := by exact rfl) (hdn : d < n := by decide) (ho : o.op = .load t x := by exact rfl) (hdt : T.at t = some dd := by exact rfl) (hx : ev env x = some (p, .pointer (some ad)) := by exact rfl) (hp : pc = true → p = true := by exact fun _ => rfl) (hrd : Rd R E ad cs := by (apply RS.rdD; assumption; ((try dsimp only) <;> omega))) (hk : dd.k.known = true := by exact rfl) (hv : loadV dd cs = some v := by exact rfl) : WG draw P ops Q (o :: rest) n env w0 R E := WG.y hg hd hdn (Yl.load1 hT ho hdt hx hp hrd hk hv) h
theorem sE {n : Nat} {env : Env} {w0 : World} {R : Ro} {E : List Ent} {ES : List Ent} {Q : Exit → Act → World → Prop} {x : Exit} (h : WE Q x n env w0 R E) (hE : E.Sublist ES := by (repeat (first | exact List.Sublist.refl _ | exact List.nil_sublist _ | apply List.Sublist.cons_cons | apply List.Sublist.cons)); done) : WE Q x n env w0 R ES := WE.subE hE h
theorem qB {P : Prop} (h : P := by first | exact Rd.blk 0 rfl | exact Rd.blk 1 rfl | exact Rd.blk 2 rfl | exact Rd.blk 3 rfl | exact Rd.blk 4 rfl | exact Rd.blk 5 rfl | exact Rd.blk 6 rfl | exact Rd.blk 7 rfl | exact Rd.blk 8 rfl | exact Rd.blk 9 rfl | exact Rd.blk 10 rfl | exact Rd.blk 11 rfl | exact Rd.blk 12 rfl) : P := h
end Go.Proofs.YtmidibkljoaoiaaGreatDoor
set_option maxRecDepth 4000
set_option linter.unusedSimpArgs false
set_option linter.unusedVariables false
namespace Go.Proofs.YtmidibkljoaoiaaGreatDoor
open Go Go.RowKit Go.Proofs.YtmidibkljoaoiaaGreatDoor.K Go.Proofs.YtmidibkljoaoiaaGreatDoor.M

def encT (l : List UInt8) : List Value := [.string (str l)]
def rdE (b : Nat) (a : Option Addr) (cp : Nat) (ws : List (List UInt8)) (k at' size : Nat) : Ent := .blk b [.slice a ws.length cp, .int .i64 (k : Int), .int .i64 (at' : Int), .int .i64 (size : Int)]
def failV (at' : Nat) (e : Int) : Value := .iface 145 (.agg #[.int .i64 (at' : Int), .int .i64 e])

theorem Peek_C {R : Ro} {b : Nat} {a : Option Addr} {cp : Nat} {ws : List (List UInt8)} {k at' size : Nat} (w0 : World) (hws : RS R 1 encT a ws) (hsz : size ≤ 1000000) : FnAt Tryz.prog 114 [.pointer (some ⟨b, 0, none⟩)] w0 R (rdE b a cp ws k at' size) (RdPost (.tuple #[.string (str (if k < ws.length then nth ws k else [])), .bool (decide (k < ws.length))]) R (rdE b a cp ws k at' size)) := by
 intro F
 have hwl := hws.len
 refine fE 24 Tryz.func114 ?_
 refine zQ (zG (zR 2 rfl (zN (zU (zQ (zQ ?_))))))
 refine W.regionQ _ mixed qK ?_
 refine zR 3 rfl ?_
 refine yL (Rd.add (Rd.blk 0 rfl) _) ?_
 refine zR 3 rfl ?_
 refine yL (Rd.add (Rd.blk 0 rfl) _) ?_
 refine zR 2 rfl (zN (zU ?_))
 refine W.condD rfl (fun hc0 => ?_) (fun hc0 => ?_)
 ·try dsimp only at hc0
  have hk : ¬ k < ws.length := by omega
  refine zQ (zG (zR 2 rfl (zN (zU (zT (wt ?_))))))
  refine WE.retF tab_ok [_, _] rfl ⟨rfl, rfl, trivial⟩ (RLe.refl _) ?_
  exact ⟨_, [], rfl, by rw [if_neg hk, decide_eq_false hk]; rfl, rfl, rfl, rfl⟩
 ·try dsimp only at hc0
  have hk : k < ws.length := by omega
  refine zK (zU (zQ ?_))
  refine W.regionQ _ mixed qK ?_
  refine zR 3 rfl ?_
  refine yL (Rd.add (Rd.blk 0 rfl) _) ?_
  refine zR 3 rfl ?_
  refine yL (Rd.add (Rd.blk 0 rfl) _) ?_
  refine WG.y rfl rfl qD (Yl.indexN tab_ok rfl rfl rfl rfl rfl rfl (fun _ => rfl) qN qH) ?_
  refine yR ?_
  refine zR 2 rfl (zN (zU (zT ?_)))
  refine WE.retF tab_ok [_, _] rfl ⟨rfl, rfl, trivial⟩ (RLe.refl _) ?_
  exact ⟨_, [], rfl, by rw [if_pos hk, decide_eq_true hk]; rfl, rfl, rfl, rfl⟩

theorem Skip_C {R : Ro} {b : Nat} {a : Option Addr} {cp : Nat} {ws : List (List UInt8)} {k at' size : Nat} (w0 : World) (hws : RS R 1 encT a ws) (hsz : size ≤ 1000000) (hk : k < ws.length) (hat : at' + (nth ws k).length ≤ 2000000) : FnAt Tryz.prog 111 [.pointer (some ⟨b, 0, none⟩)] w0 R (rdE b a cp ws k at' size) (RdPost (.tuple #[]) R (rdE b a cp ws (k + 1) (at' + (nth ws k).length + 1) size)) := by
 intro F
 have hwl := hws.len
 have hss := str_size (nth ws k)
 refine fE 28 Tryz.func111 ?_
 refine zQ ?_
 refine W.regionH _ (ES := []) mixed ?_
 refine tP 0 ?_
 refine tP 1 ?_
 refine tP 2 ?_
 refine tP 4 ?_
 refine tP 5 ?_
 refine tP 6 ?_
 refine tP 8 ?_
 refine tP 9 ?_
 refine tP 10 ?_
 refine WA.br3 (i := 3) (j := 7) (k := 11) qK ?_ ?_ ?_
 ·
  refine sL (Rd.add (Rd.blk 0 rfl) _) ?_
  refine WA.br2 (i := 7) (j := 11) qK ?_ ?_
  ·
   refine sL (Rd.add (Rd.blk 0 rfl) _) ?_
   refine lL 11 (Rd.add (Rd.blk 0 rfl) _) ?_
   refine WA.take 12 rfl qK qK qK rfl rfl qD (Yl.indexN tab_ok rfl rfl rfl rfl rfl rfl (fun _ => rfl) qN qH) qS qR ?_
   refine' WA.take 13 rfl qK qK qK rfl rfl qD (Yl.load1 tab_ok rfl rfl rfl (fun _ => rfl) ?r4 rfl ?h4) qS qR ?_
   case r4 => ((apply RS.rdD; assumption; ((try dsimp only) <;> omega)))
   case h4 => rfl
   refine tP 14 ?_
   refine tA 15 ?_
   refine tA 16 ?_
   refine tP 17 ?_
   refine tP 18 ?_
   refine zCF 19 0 ?_
   refine WA.done qK ?_
   refine zU (zG (zR 3 rfl ?_))
   refine yL (Rd.add (Rd.blk 0 rfl) _) ?_
   refine yA ?_
   refine zR 2 rfl ?_
   refine zF 0 ?_
   refine zN ?_
   refine WE.endF tab_ok [] rfl trivial (RLe.refl _) ?_
   exact ⟨rdE b a cp ws (k + 1) (at' + (nth ws k).length + 1) size, [], by unfold rdE; rw [show ((at' + (nth ws k).length + 1 : Nat) : Int) = (at' : Int) + (((str (nth ws k)).size : Int) + 1) by rw [str_size]; omega]; rfl, rfl, rfl, rfl, rfl⟩
  ·
   refine sL (Rd.add (Rd.blk 0 rfl) _) ?_
   refine lL 7 (Rd.add (Rd.blk 0 rfl) _) ?_
   refine WA.take 12 rfl qK qK qK rfl rfl qD (Yl.indexN tab_ok rfl rfl rfl rfl rfl rfl (fun _ => rfl) qN qH) qS qR ?_
   refine' WA.take 13 rfl qK qK qK rfl rfl qD (Yl.load1 tab_ok rfl rfl rfl (fun _ => rfl) ?r8 rfl ?h8) qS qR ?_
   case r8 => ((apply RS.rdD; assumption; ((try dsimp only) <;> omega)))
   case h8 => rfl
   refine tP 14 ?_
   refine tA 15 ?_
   refine tA 16 ?_
   refine tP 17 ?_
   refine tP 18 ?_
   refine zCF 19 0 ?_
   refine WA.done qK ?_
   refine zU (zG (zR 3 rfl ?_))
   refine yL (Rd.add (Rd.blk 0 rfl) _) ?_
   refine yA ?_
   refine zR 2 rfl ?_
   refine zF 0 ?_
   refine zN ?_
   refine WE.endF tab_ok [] rfl trivial (RLe.refl _) ?_
   exact ⟨rdE b a cp ws (k + 1) (at' + (nth ws k).length + 1) size, [], by unfold rdE; rw [show ((at' + (nth ws k).length + 1 : Nat) : Int) = (at' : Int) + (((str (nth ws k)).size : Int) + 1) by rw [str_size]; omega]; rfl, rfl, rfl, rfl, rfl⟩
 ·
  refine sL (Rd.add (Rd.blk 0 rfl) _) ?_
  refine WA.br2 (i := 3) (j := 11) qK ?_ ?_
  ·
   refine sL (Rd.add (Rd.blk 0 rfl) _) ?_
   refine lL 11 (Rd.add (Rd.blk 0 rfl) _) ?_
   refine WA.take 12 rfl qK qK qK rfl rfl qD (Yl.indexN tab_ok rfl rfl rfl rfl rfl rfl (fun _ => rfl) qN qH) qS qR ?_
   refine' WA.take 13 rfl qK qK qK rfl rfl qD (Yl.load1 tab_ok rfl rfl rfl (fun _ => rfl) ?r13 rfl ?h13) qS qR ?_
   case r13 => ((apply RS.rdD; assumption; ((try dsimp only) <;> omega)))
   case h13 => rfl
   refine tP 14 ?_
   refine tA 15 ?_
   refine tA 16 ?_
   refine tP 17 ?_
   refine tP 18 ?_
   refine zCF 19 0 ?_
   refine WA.done qK ?_
   refine zU (zG (zR 3 rfl ?_))
   refine yL (Rd.add (Rd.blk 0 rfl) _) ?_
   refine yA ?_
   refine zR 2 rfl ?_
   refine zF 0 ?_
   refine zN ?_
   refine WE.endF tab_ok [] rfl trivial (RLe.refl _) ?_
   exact ⟨rdE b a cp ws (k + 1) (at' + (nth ws k).length + 1) size, [], by unfold rdE; rw [show ((at' + (nth ws k).length + 1 : Nat) : Int) = (at' : Int) + (((str (nth ws k)).size : Int) + 1) by rw [str_size]; omega]; rfl, rfl, rfl, rfl, rfl⟩
  ·
   refine sL (Rd.add (Rd.blk 0 rfl) _) ?_
   refine WA.take 12 rfl qK qK qK rfl rfl qD (Yl.indexN tab_ok rfl rfl rfl rfl rfl rfl (fun _ => rfl) qN qH) qS qR ?_
   refine' WA.take 13 rfl qK qK qK rfl rfl qD (Yl.load1 tab_ok rfl rfl rfl (fun _ => rfl) ?r16 rfl ?h16) qS qR ?_
   case r16 => ((apply RS.rdD; assumption; ((try dsimp only) <;> omega)))
   case h16 => rfl
   refine tP 14 ?_
   refine tA 15 ?_
   refine lL 3 (Rd.add (Rd.blk 0 rfl) _) ?_
   refine tA 16 ?_
   refine tP 17 ?_
   refine tP 18 ?_
   refine zCF 19 0 ?_
   refine WA.done qK ?_
   refine zU (zG (zR 3 rfl ?_))
   refine yL (Rd.add (Rd.blk 0 rfl) _) ?_
   refine yA ?_
   refine zR 2 rfl ?_
   refine zF 0 ?_
   refine zN ?_
   refine WE.endF tab_ok [] rfl trivial (RLe.refl _) ?_
   exact ⟨rdE b a cp ws (k + 1) (at' + (nth ws k).length + 1) size, [], by unfold rdE; rw [show ((at' + (nth ws k).length + 1 : Nat) : Int) = (at' : Int) + (((str (nth ws k)).size : Int) + 1) by rw [str_size]; omega]; rfl, rfl, rfl, rfl, rfl⟩
 ·
  refine sL (Rd.add (Rd.blk 0 rfl) _) ?_
  refine WA.br2 (i := 3) (j := 7) qK ?_ ?_
  ·
   refine sL (Rd.add (Rd.blk 0 rfl) _) ?_
   refine lL 7 (Rd.add (Rd.blk 0 rfl) _) ?_
   refine WA.take 12 rfl qK qK qK rfl rfl qD (Yl.indexN tab_ok rfl rfl rfl rfl rfl rfl (fun _ => rfl) qN qH) qS qR ?_
   refine' WA.take 13 rfl qK qK qK rfl rfl qD (Yl.load1 tab_ok rfl rfl rfl (fun _ => rfl) ?r22 rfl ?h22) qS qR ?_
   case r22 => ((apply RS.rdD; assumption; ((try dsimp only) <;> omega)))
   case h22 => rfl
   refine tP 14 ?_
   refine tA 15 ?_
   refine tA 16 ?_
   refine tP 17 ?_
   refine tP 18 ?_
   refine zCF 19 0 ?_
   refine WA.done qK ?_
   refine zU (zG (zR 3 rfl ?_))
   refine yL (Rd.add (Rd.blk 0 rfl) _) ?_
   refine yA ?_
   refine zR 2 rfl ?_
   refine zF 0 ?_
   refine zN ?_
   refine WE.endF tab_ok [] rfl trivial (RLe.refl _) ?_
   exact ⟨rdE b a cp ws (k + 1) (at' + (nth ws k).length + 1) size, [], by unfold rdE; rw [show ((at' + (nth ws k).length + 1 : Nat) : Int) = (at' : Int) + (((str (nth ws k)).size : Int) + 1) by rw [str_size]; omega]; rfl, rfl, rfl, rfl, rfl⟩
  ·
   refine sL (Rd.add (Rd.blk 0 rfl) _) ?_
   refine WA.take 12 rfl qK qK qK rfl rfl qD (Yl.indexN tab_ok rfl rfl rfl rfl rfl rfl (fun _ => rfl) qN qH) qS qR ?_
   refine' WA.take 13 rfl qK qK qK rfl rfl qD (Yl.load1 tab_ok rfl rfl rfl (fun _ => rfl) ?r25 rfl ?h25) qS qR ?_
   case r25 => ((apply RS.rdD; assumption; ((try dsimp only) <;> omega)))
   case h25 => rfl
   refine tP 14 ?_
   refine tA 15 ?_
   refine lL 3 (Rd.add (Rd.blk 0 rfl) _) ?_
   refine tA 16 ?_
   refine tP 17 ?_
   refine tP 18 ?_
   refine zCF 19 0 ?_
   refine WA.done qK ?_
   refine zU (zG (zR 3 rfl ?_))
   refine yL (Rd.add (Rd.blk 0 rfl) _) ?_
   refine yA ?_
   refine zR 2 rfl ?_
   refine zF 0 ?_
   refine zN ?_
   refine WE.endF tab_ok [] rfl trivial (RLe.refl _) ?_
   exact ⟨rdE b a cp ws (k + 1) (at' + (nth ws k).length + 1) size, [], by unfold rdE; rw [show ((at' + (nth ws k).length + 1 : Nat) : Int) = (at' : Int) + (((str (nth ws k)).size : Int) + 1) by rw [str_size]; omega]; rfl, rfl, rfl, rfl, rfl⟩

theorem Need_C {R : Ro} {b : Nat} {a : Option Addr} {cp : Nat} {ws : List (List UInt8)} {k at' size : Nat} (w0 : World) (hws : RS R 1 encT a ws) (hsz : size ≤ 1000000) : FnXAt Tryz.prog 110 [.pointer (some ⟨b, 0, none⟩)] w0 R (rdE b a cp ws k at' size) (fun v R' e' N => v = .string (str (nth ws k)) ∧ k < ws.length ∧ R = R' ∧ e' = (rdE b a cp ws k at' size) ∧ N = []) (fun v R' e' => v = failV size 4 ∧ ¬ k < ws.length ∧ R = R' ∧ e' = (rdE b a cp ws k at' size)) := by
 intro F
 have hwl := hws.len
 refine FnX.enter (n := 19) Tryz.func110 rfl rfl (Nat.le_of_ble_eq_true rfl) rfl ?_
 refine zQ (zG (zR 1 rfl (zN (zU (zQ (zG (zR 1 rfl ?_)))))))
 refine WL.callAt 0 en114 rfl rfl qD (CallOp.mkT rfl rfl rfl rfl) rfl (Peek_C w0 hws hsz _) ?_
 rintro _ _ _ _ - ⟨rfl, rfl, rfl, rfl⟩
 refine zR 5 rfl (zN (zU (zQ (zQ (zG (zR 2 rfl (zN (zU ?_))))))))
 refine W.cond rfl (fun hc0 => ?_) (fun hc0 => ?_)
 ·try simp only [zk] at hc0
  have hk : ¬ k < ws.length := by simpa using hc0
  refine zG (zR 3 rfl ?_)
  refine yL (Rd.add (Rd.blk 0 rfl) _) ?_
  -- build
  refine WG.y rfl rfl qD (Yl.build (parts := [(0, .tmp 15), (1, .const (.int .i64 4))]) tab_ok rfl rfl rfl rfl (fun _ => rfl) rfl rfl) ?_
  refine WG.y rfl rfl qD (Yl.toIface tab_ok rfl rfl rfl rfl (fun _ => rfl)) ?_
  refine WL.panic rfl rfl rfl ?_
  refine WE.then_panic ?_
  refine WE.panicX (RLe.refl _) ?_
  exact ⟨_, rfl, rfl, hk, rfl, rfl⟩
 ·try simp only [zk] at hc0
  have hk : k < ws.length := by simpa using hc0
  rw [if_pos hk]
  refine zK (zU (zQ (zG (zR 2 rfl (zN (zU (zT ?_)))))))
  refine WE.retX tab_ok [_] rfl ⟨rfl, trivial⟩ (RLe.refl _) ?_
  exact ⟨_, [], rfl, rfl, hk, rfl, rfl, rfl⟩

end Go.Proofs.YtmidibkljoaoiaaGreatDoor

/- Flows and networks, opened: from the data of a row to what the walks know of memory. No condition. -/
namespace Go.Proofs.YtmidibkljoaoiaaGreatDoor.M
open Go Go.Proofs.YtmidibkljoaoiaaGreatDoor.K
/-- a network in memory -/
structure NtS where
  a1 : Option Addr
  c1 : Nat
  ns : List (List UInt8)
  a2 : Option Addr
  c2 : Nat
  ms : List LnM
  a3 : Option Addr
  c3 : Nat
  fs : List FlM
def encNt (z : NtS) : List Value := [.slice z.a1 z.ns.length z.c1, .slice z.a2 z.ms.length z.c2, .slice z.a3 z.fs.length z.c3]
structure OkNt (R : Ro) (z : NtS) : Prop where
  ns : K.RS R 1 encT z.a1 z.ns
  ms : K.RS R 5 encLn z.a2 z.ms
  fs : K.RS R 8 encFl z.a3 z.fs
  ln : ∀ m ∈ z.ms, OkLn R m
  fl : ∀ x ∈ z.fs, OkFl R x
  nm : ∀ x ∈ z.ns, x.length ≤ 9223372036854775807
theorem OkNt.mono {R R' : Ro} {z : NtS} (h : OkNt R z) (hR : RLe R R') : OkNt R' z := ⟨h.ns.mono hR, h.ms.mono hR, h.fs.mono hR, fun m hm => (h.ln m hm).mono hR, fun x hx => (h.fl x hx).mono hR, h.nm⟩
end Go.Proofs.YtmidibkljoaoiaaGreatDoor.M
namespace Go.Proofs.YtmidibkljoaoiaaGreatDoor.K
open Go Go.RowKit Go.ChangeShapes Go.WideShapes Go.ChangeAt Go.WideElems Go.Maps Go.Proofs.YtmidibkljoaoiaaGreatDoor.M
section
variable {H : Type} {enc : TypeId × Value → H} {P : Program}
theorem opn_size {t ti : Nat} {f0 f1 : Field} (ht : P.underlying t = some (.struct #[f0, f1])) (hc : P.cellsOf t = 2) (t0 : f0.type = ti) (t1 : f1.type = ti) (ci : P.cellsOf ti = 1) (o0 : f0.offset = 0) (o1 : f1.offset = 1) (ui : P.underlying ti = some (.int .i64)) :
  Opn enc P t 2 (fun z : Int × Int => [.int .i64 z.1, .int .i64 z.2]) (fun _ z => InR z.1 ∧ InR z.2) := by
 have h2 := opn_struct2 (enc := enc) (k0 := 1) (k1 := 1) ht hc (by rw [t0]; exact ci) (by rw [t1]; exact ci) o0 o1 (by rw [t0]; exact opn_int ui) (by rw [t1]; exact opn_int ui)
 exact h2.map (fun z => z) (fun _ => rfl) (fun _ => rfl) (fun R z h => h)
theorem opn_flow {t ts ti tt tz tc : Nat} {f0 f1 f2 f3 f4 : Field} (ht : P.underlying t = some (.struct #[f0, f1, f2, f3, f4])) (hc : P.cellsOf t = 8) (t0 : f0.type = tt) (t1 : f1.type = ts) (t2 : f2.type = ti) (t3 : f3.type = tz) (t4 : f4.type = tc)
  (ct : P.cellsOf tt = 1) (cs : P.cellsOf ts = 1) (ci : P.cellsOf ti = 1) (cz : P.cellsOf tz = 2) (cc : P.cellsOf tc = 3)
  (o0 : f0.offset = 0) (o1 : f1.offset = 1) (o2 : f2.offset = 2) (o3 : f3.offset = 3) (o4 : f4.offset = 5) (ut : P.underlying tt = some .string) (us : P.underlying ts = some (.slice ti)) (ui : P.underlying ti = some (.int .i64))
  (oz : Opn enc P tz 2 (fun z : Int × Int => [.int .i64 z.1, .int .i64 z.2]) (fun _ z => InR z.1 ∧ InR z.2)) (oc : Opn enc P tc 3 encC OkI) : Opn enc P t 8 encFl OkFl := by
 have hs := opn_slice (α := Int) (enc := enc) us (by decide) ci (opn_int ui)
 refine ⟨fun z => rfl, fun W spare fuel cells x h => ?_⟩
 obtain ⟨xs, n, _, rfl, hl, hlen, hf⟩ := DataW.trod_struct ht h
 rw [hc] at hl
 match cells, hl with
 | [c0, c1, c2, c3, c4, c5, c6, c7], _ =>
  match xs, hlen with
  | [y0, y1, y2, y3, y4], _ =>
   have g0 := hf 0 f0 rfl
   have g1 := hf 1 f1 rfl
   have g2 := hf 2 f2 rfl
   have g3 := hf 3 f3 rfl
   have g4 := hf 4 f4 rfl
   rw [t0, ct, o0] at g0
   rw [t1, cs, o1] at g1
   rw [t2, ci, o2] at g2
   rw [t3, cz, o3] at g3
   rw [t4, cc, o4] at g4
   obtain ⟨z0, q0, r0⟩ := (opn_str ut).2 _ _ _ _ _ g0
   obtain ⟨s1, q1, r1⟩ := hs.2 _ _ _ _ _ g1
   obtain ⟨z2, q2, _⟩ := (opn_int ui).2 _ _ _ _ _ g2
   obtain ⟨z3, q3, _⟩ := oz.2 _ _ _ _ _ g3
   obtain ⟨s4, q4, r4⟩ := oc.2 _ _ _ _ _ g4
   refine ⟨⟨s1.a, s1.cap, s4.a, s4.cap, ⟨z0, s1.xs, z2, z3.1, z3.2, s4.cv⟩⟩, ?_, r1.1, r4.1, r4.1.len, ?_⟩
   ·unfold encFl
    simp only [encI, encSl, encStr, encC, List.drop, List.take, List.cons.injEq, and_true] at q0 q1 q2 q3 q4
    obtain ⟨q30, q31⟩ := q3
    obtain ⟨q40, q41, q42⟩ := q4
    rw [q0, q1, q2, q30, q31, q40, q41, q42]
    rfl
   ·have h1 := r0
    simp only [maxLen] at h1
    exact h1
theorem opn_net {t t0 t1 t2 tt tl tf : Nat} {f0 f1 f2 : Field} (ht : P.underlying t = some (.struct #[f0, f1, f2])) (hc : P.cellsOf t = 3) (e0 : f0.type = t0) (e1 : f1.type = t1) (e2 : f2.type = t2) (c0 : P.cellsOf t0 = 1) (c1 : P.cellsOf t1 = 1) (c2 : P.cellsOf t2 = 1)
  (o0 : f0.offset = 0) (o1 : f1.offset = 1) (o2 : f2.offset = 2) (u0 : P.underlying t0 = some (.slice tt)) (u1 : P.underlying t1 = some (.slice tl)) (u2 : P.underlying t2 = some (.slice tf)) (ct : P.cellsOf tt = 1) (cl : P.cellsOf tl = 5) (cf : P.cellsOf tf = 8)
  (ut : P.underlying tt = some .string) (ol : Opn enc P tl 5 encLn OkLn) (of : Opn enc P tf 8 encFl OkFl) : Opn enc P t 3 encNt OkNt := by
 have os : Opn enc P tt 1 encT (fun _ s => s.length ≤ maxLen) := (opn_str ut).map (fun z => z) (fun _ => rfl) (fun _ => rfl) (fun R z h => h)
 have h0 := opn_slice (α := List UInt8) (enc := enc) u0 (by decide) ct os
 have h1 := opn_slice (α := LnM) (enc := enc) u1 (by decide) cl ol
 have h2 := opn_slice (α := FlM) (enc := enc) u2 (by decide) cf of
 have h3 := opn_struct3 (enc := enc) (k0 := 1) (k1 := 1) (k2 := 1) ht hc (by rw [e0]; exact c0) (by rw [e1]; exact c1) (by rw [e2]; exact c2) o0 o1 o2 (by rw [e0]; exact h0) (by rw [e1]; exact h1) (by rw [e2]; exact h2)
 refine h3.map (fun z => (⟨z.1.a, z.1.cap, z.1.xs, z.2.1.a, z.2.1.cap, z.2.1.xs, z.2.2.a, z.2.2.cap, z.2.2.xs⟩ : NtS)) (fun _ => rfl) (fun _ => rfl) (fun R z h => ?_)
 obtain ⟨⟨p1, _, p3⟩, ⟨q1, _, q3⟩, r1, _, r3⟩ := h
 exact ⟨p1, q1, r1, q3, r3, fun x hx => by
  have h1 := p3 x hx
  simp only [maxLen] at h1
  exact h1⟩
end
end Go.Proofs.YtmidibkljoaoiaaGreatDoor.K

/- The text of a network. Plain. No condition. -/
namespace Go.Proofs.YtmidibkljoaoiaaGreatDoor.M
open Go Go.Proofs.YtmidibkljoaoiaaGreatDoor.K
theorem lines_n {names : List (List UInt8)} {Ls : List Ln} (h : chkLs [] (names.zip Ls) = 0) (hl : names.length = Ls.length) : ∀ m ∈ Ls, chkL m = 0 ∧ m.n ≤ 9999 := fun m hm => by
 obtain ⟨i, hi, rfl⟩ := List.getElem_of_mem hm
 have hz : i < (names.zip Ls).length := by rw [List.length_zip]; omega
 have h5 := (chkLs_zero _ _ h _ (List.getElem_mem hz)).2
 rw [List.getElem_zip] at h5
 have h6 := (chk_facts h5).2.2.2.2.1
 dsimp only at h5 h6
 exact ⟨h5, by omega⟩
theorem fmtF_le (names : List (List UInt8)) (Ls : List Ln) (f : Fl) : (fmtF names Ls f).length ≤ 28007 := by
 unfold fmtF
 split
 ·rename_i h
  unfold fmtFE at h
  by_cases h1 : chkNet names Ls [f] ≠ 0
  ·rw [if_pos h1] at h; exact absurd h h1
  ·obtain ⟨_, _, h2, h3, h4⟩ := chkNet_zero (Classical.not_not.1 h1)
   exact fl_le (names_le h3 h2) (chkFs_zero _ _ h4 f (by simp)).1 (fun m hm => (lines_n h3 h2 m hm).2) h2
 ·exact Nat.zero_le _
def flErr (names : List (List UInt8)) (Ls : List Ln) : List Fl → Int
  | [] => 0
  | f :: r => if fmtFE names Ls f ≠ 0 then fmtFE names Ls f else flErr names Ls r
def textN (names : List (List UInt8)) (Ls : List Ln) (Fs : List Fl) : List UInt8 := rowsT ((names.zip Ls).map rowX) ++ rowsT (Fs.map (fmtF names Ls))
/-- the text of a network, and its error -/
def fmtN (names : List (List UInt8)) (Ls : List Ln) (Fs : List Fl) : List UInt8 × Int :=
  if chkNet names Ls Fs ≠ 0 then ([], chkNet names Ls Fs)
  else if fmtErr (names.zip Ls) ≠ 0 then ([], fmtErr (names.zip Ls))
  else if flErr names Ls Fs ≠ 0 then ([], flErr names Ls Fs)
  else if 4000 < (textN names Ls Fs).length then ([], 3) else (textN names Ls Fs, 0)
end Go.Proofs.YtmidibkljoaoiaaGreatDoor.M

/- At most seven words, the last with all that is left: what strings.SplitN gives. Plain. No condition. -/
namespace Go.Proofs.YtmidibkljoaoiaaGreatDoor.M
open Go Go.Proofs.YtmidibkljoaoiaaGreatDoor.K
theorem join_splC (d : UInt8) : ∀ (n : Nat) (s : List UInt8), s.length ≤ n → Lib.join (splC d s) [d] = s
 | n, s, hn => by
  cases hs : splC d s with
  | nil => exact absurd hs (splC_ne d s)
  | cons w ws =>
   obtain ⟨h1, ⟨rfl, rfl⟩ | ⟨s', rfl, rfl⟩⟩ := splC_cons hs
   ·simp [Lib.join, List.intercalate]
   ·match n with
    | 0 => simp at hn
    | n + 1 =>
     have hl : s'.length ≤ n := by rw [List.length_append, List.length_cons] at hn; omega
     have ih := join_splC d n s' hl
     cases hs' : splC d s' with
     | nil => exact absurd hs' (splC_ne d s')
     | cons x xs =>
      rw [join_cons, ← hs', ih, List.append_assoc]
      rfl
/-- the first k words and the rest -/
def spN (d : UInt8) (k : Nat) (ws : List (List UInt8)) : List (List UInt8) := if k + 1 ≤ ws.length then ws.take k ++ [Lib.join (ws.drop k) [d]] else ws
theorem splitK_spN (d : UInt8) : ∀ (k : Nat) (s : List UInt8), Lib.splitK [d] 0 k s = spN d k (splC d s)
 | 0, s => by
  have h := join_splC d s.length s (Nat.le_refl _)
  have hl : 0 + 1 ≤ (splC d s).length := by
   cases hs : splC d s with
   | nil => exact absurd hs (splC_ne d s)
   | cons x xs => rw [List.length_cons]; omega
  unfold spN
  rw [if_pos hl, List.drop_zero, h]
  rfl
 | k + 1, s => by
  cases hs : splC d s with
  | nil => exact absurd hs (splC_ne d s)
  | cons w ws =>
   obtain ⟨h1, ⟨rfl, rfl⟩ | ⟨s', rfl, rfl⟩⟩ := splC_cons hs
   ·rw [Lib.splitK, if_pos (by rw [idx_none h1]; rfl)]
    unfold spN
    rw [if_neg (by simp)]
   ·have hi := idx_word (s' := s') h1
    have hd : (w ++ d :: s').drop (w.length + [d].length) = s' := by
     rw [← List.drop_drop, List.drop_left]; rfl
    rw [Lib.splitK, if_neg (by rw [hi, beq_iff_eq]; omega), hi, Int.toNat_natCast, hd, splitK_spN d k s', Nat.add_zero, List.take_left]
    unfold spN
    by_cases h : k + 1 ≤ (splC d s').length
    ·rw [if_pos h, if_pos (by rw [List.length_cons]; omega)]; rfl
    ·rw [if_neg h, if_neg (by rw [List.length_cons]; omega)]
theorem spN_all {d : UInt8} {k : Nat} {ws : List (List UInt8)} (h : ws.length ≤ k + 1) : spN d k ws = ws := by
 unfold spN
 split
 ·have hl : ws.length = k + 1 := by omega
  have hd : ws.drop k = [nth ws k] := by
   rw [List.drop_eq_getElem_cons (by omega), nth_eq (by omega), List.drop_of_length_le (by omega)]
  rw [hd, show Lib.join [nth ws k] [d] = nth ws k by simp [Lib.join, List.intercalate]]
  rw [← take_nth (by omega), List.take_of_length_le (by omega)]
 ·rfl
def w7 (s : List UInt8) : List (List UInt8) := spN 32 6 (splC 32 s)
theorem splitK_w7 (s : List UInt8) : Lib.splitK [32] 0 (min 7 (s.length + 1) - 1) s = w7 s := by
 rw [splitK_spN]
 have hl := splC_len 32 s
 unfold w7
 by_cases h : 7 ≤ s.length + 1
 ·rw [show min 7 (s.length + 1) - 1 = 6 by omega]
 ·rw [spN_all (by omega), spN_all (by omega)]
theorem w7_len (s : List UInt8) : (w7 s).length ≤ 7 ∧ ((w7 s).length = 7 ↔ 7 ≤ (splC 32 s).length) := by
 unfold w7 spN
 split
 ·rw [List.length_append, List.length_take]
  refine ⟨?_, ?_⟩
  ·show min 6 _ + 1 ≤ 7; omega
  ·show min 6 _ + 1 = 7 ↔ _; omega
 ·omega
theorem w7_mem (s : List UInt8) : ∀ x ∈ w7 s, x.length ≤ s.length := by
 intro x hx
 unfold w7 spN at hx
 split at hx
 ·rename_i h
  rcases List.mem_append.1 hx with hx | hx
  ·exact splC_mem 32 s x (List.mem_of_mem_take hx)
  ·rw [List.mem_singleton.1 hx]
   have e := join_splC 32 s.length s (Nat.le_refl _)
   have : ∀ (k : Nat) (ws : List (List UInt8)), (Lib.join (ws.drop k) [32]).length ≤ (Lib.join ws [32]).length := by
    intro k
    induction k with
    | zero => intro ws; exact Nat.le_refl _
    | succ k ih =>
     intro ws
     match ws with
     | [] => exact Nat.le_refl _
     | [a] => simp [Lib.join, List.intercalate]
     | a :: b :: r =>
      rw [join_cons, List.length_append]
      have := ih (b :: r)
      rw [show List.drop (k + 1) (a :: b :: r) = List.drop k (b :: r) from rfl]
      omega
   have := this 6 (splC 32 s)
   rw [e] at this
   exact this
 ·exact splC_mem 32 s x hx
end Go.Proofs.YtmidibkljoaoiaaGreatDoor.M

/- A list of names that may be read: immutable or one's own; a flow in a text. No condition. -/
namespace Go.Proofs.YtmidibkljoaoiaaGreatDoor.M
open Go Go.Proofs.YtmidibkljoaoiaaGreatDoor.K
structure LsT (R : Ro) (E : List Ent) (la : Option Addr) (l : List (List UInt8)) : Prop where
  rd : ∀ i, i < l.length → Rd R E (eaddr la 1 i) (encT (nth l i))
  has : HasMem R E la l.length
  len : l.length ≤ 9223372036854775807
theorem LsT.sub {R R' : Ro} {E E' : List Ent} {la : Option Addr} {l : List (List UInt8)} (h : LsT R E la l) (hR : RLe R R') (hE : E.Sublist E') : LsT R' E' la l :=
 ⟨fun i hi w0 w hm => h.rd i hi w0 w (hm.sub hR hE), fun w0 w hm => h.has w0 w (hm.sub hR hE), h.len⟩
theorem LsT.ro {R : Ro} {E : List Ent} {la : Option Addr} {l : List (List UInt8)} (h : K.RS R 1 encT la l) : LsT R E la l := ⟨fun _ hi => RS.rdD h hi, RS.has h, h.len⟩
theorem LsT.own {R : Ro} {E : List Ent} {la : Option Addr} {l : List (List UInt8)} {e cap : Nat} (i : Nat) (h : E[i]? = some (.sl e 1 la cap (l.map encT))) (hl : l.length ≤ 1000000) : LsT R E la l := ⟨fun _ hj => Rd.slD i h hj, HasMem.ownD i h, by omega⟩
/-- where a name stands -/
def idxN (names : List (List UInt8)) (x : List UInt8) : Nat := names.findIdx (fun y => decide (y = x))
theorem idx_at {names : List (List UInt8)} {x : List UInt8} {i : Nat} (h : ∀ j, j < i → nth names j ≠ x) (hi : i < names.length) (he : nth names i = x) : idxN names x = i ∧ x ∈ names := by
 refine ⟨?_, by rw [← he]; exact nth_mem hi⟩
 unfold idxN
 refine (List.findIdx_eq hi).2 ⟨?_, fun j hj => ?_⟩
 ·rw [← nth_eq hi, he]; exact decide_eq_true rfl
 ·have hjl : j < names.length := Nat.lt_trans hj hi
  have := h j hj
  rw [nth_eq hjl] at this
  exact decide_eq_false this
theorem idx_no {names : List (List UInt8)} {x : List UInt8} (h : ∀ j, j < names.length → nth names j ≠ x) : x ∉ names := fun hx => by
 obtain ⟨i, hi, rfl⟩ := List.getElem_of_mem hx
 exact h i hi (nth_eq hi)
def wayO (names : List (List UInt8)) (w : List UInt8) : Bool := (splC 62 w).all (fun x => decide (x ∈ names))
def wayV (names : List (List UInt8)) (w : List UInt8) : List Int := (splC 62 w).map (fun x => (idxN names x : Int))
/-- a text is a flow over lines with names -/
def flO (names : List (List UInt8)) (s : List UInt8) : Bool :=
  decide ((w7 s).length = 7) && (decide (nth (w7 s) 0 = wFlow) && (wordB (nth (w7 s) 1) && ((num9 (nth (w7 s) 2) && (num9 (nth (w7 s) 3) && num9 (nth (w7 s) 4))) && (wayO names (nth (w7 s) 5) && decide ((parseR (nth (w7 s) 6)).2.2 = 0)))))
def flV (names : List (List UInt8)) (s : List UInt8) : Fl := ⟨nth (w7 s) 1, wayV names (nth (w7 s) 5), num9V (nth (w7 s) 2), num9V (nth (w7 s) 3), num9V (nth (w7 s) 4), (parseR (nth (w7 s) 6)).1⟩
def encPtr (a : Option Addr) : List Value := [.pointer a]
theorem parseGo_err (size : Nat) : ∀ (ws : List (List UInt8)) (wh : Nat) (vals : List Int) (per inc : Int) (at' : Nat), (parseGo size wh vals per inc at' ws).2.2 ≠ 0 → (parseGo size wh vals per inc at' ws).1 = zcv
 | [], wh, vals, per, inc, at', h => by
  rw [parseGo] at h ⊢
  split at h
  ·exact absurd rfl h
  ·rename_i h1; rw [if_neg h1]
 | w :: ws, wh, vals, per, inc, at', h => by
  rw [parseGo] at h ⊢
  split at h
  ·rename_i h1; rw [if_pos h1]; exact parseGo_err size ws _ _ _ _ _ h
  ·rename_i h1; rw [if_neg h1]
   split at h
   ·rename_i h2; rw [if_pos h2]; exact parseGo_err size ws _ _ _ _ _ h
   ·rename_i h2; rw [if_neg h2]
    split at h
    ·rename_i h3; rw [if_pos h3]; exact parseGo_err size ws _ _ _ _ _ h
    ·rename_i h3; rw [if_neg h3]
     split at h
     ·rename_i h4; rw [if_pos h4]
      split at h
      ·rename_i h5; rw [if_pos h5]
      ·rename_i h5; rw [if_neg h5]
       split at h
       ·rename_i h6; rw [if_pos h6]; exact parseGo_err size ws _ _ _ _ _ h
       ·rename_i h6; rw [if_neg h6]
        split at h
        ·rename_i h7; rw [if_pos h7]; exact parseGo_err size ws _ _ _ _ _ h
        ·rename_i h7; rw [if_neg h7]; exact parseGo_err size ws _ _ _ _ _ h
     ·rename_i h4; rw [if_neg h4]
theorem parseR_valid (s : List UInt8) : (parseR s).1 = zcv ∨ validB (parseR s).1 = true := by
 unfold parseR
 split
 ·exact .inl rfl
 ·split
  ·rename_i h; exact .inl (parseGo_err _ _ _ _ _ _ _ h)
  ·split
   ·rename_i h; exact .inr h
   ·exact .inl rfl
theorem parseR_len (s : List UInt8) : (parseR s).1.vals.length ≤ 400 := by
 rcases parseR_valid s with h | h
 ·rw [h]; decide
 ·exact (validB_iff.1 h).1.2.1
end Go.Proofs.YtmidibkljoaoiaaGreatDoor.M

/- A call under a guard that is known to hold. No condition. -/
namespace Go.Proofs.YtmidibkljoaoiaaGreatDoor.K
open Go Go.RowKit
section
variable {P : Program} {T : Tab} {ops rest : List Oper} {Q : Exit → Act → World → Prop} {n : Nat} {env : Env} {w0 : World} {R : Ro} {E : List Ent} {o : Oper} {pc p q : Bool}
theorem WL.callT {d : Nat} {f : FuncId} {vs : List Value} {Post : Value → Ro → List Ent → Prop} (hf : Enters P f) (hg : gpc ops env o = some pc) (hpc : pc = true) (hd : o.dst = some d) (hdn : d < n)
  (hc : CallOp env o.op q f vs) (hq : q = true) (hv : Fn P f vs w0 R E Post)
  (h : ∀ v R' E', RLe R R' → Post v R' E' → WG false P ops Q rest n ((d, true, v) :: env) w0 R' E') : WG false P ops Q (o :: rest) n env w0 R E := by
 subst hpc
 intro a w hk hm
 refine wpList_step fun K hK => ?_
 rw [hk.wanted hg]
 simp only [if_true, Oper.wp, run_call hk hc hq hf, Oper.upon, hd]
 refine (hv w hm).mono ?_
 rintro e w' ⟨v, R', E', rfl, hR, hm', hp⟩
 exact hK _ _ (h v R' E' hR hp _ _ (hk.putT hdn v) hm')
theorem WL.callAtT {d : Nat} {f : FuncId} {vs : List Value} {e : Ent} {Post : Value → Ro → Ent → List Ent → Prop} (i : Nat) (hf : Enters P f) (hg : gpc ops env o = some pc) (hpc : pc = true) (hd : o.dst = some d) (hdn : d < n)
  (hc : CallOp env o.op q f vs) (hq : q = true) (hE : E[i]? = some e)
  (hv : Fn P f vs w0 R (e :: E.eraseIdx i) (fun v R' E' => ∃ e' N, E' = N ++ e' :: E.eraseIdx i ∧ Post v R' e' N))
  (h : ∀ v R' e' N, RLe R R' → Post v R' e' N → WG false P ops Q rest n ((d, true, v) :: env) w0 R' (N ++ E.set i e')) : WG false P ops Q (o :: rest) n env w0 R E := by
 subst hpc
 intro a w hk hm
 refine wpList_step fun K hK => ?_
 rw [hk.wanted hg]
 simp only [if_true, Oper.wp, run_call hk hc hq hf, Oper.upon, hd]
 refine (hv w (hm.perm (perm_get hE))).mono ?_
 rintro e0 w' ⟨v, R', E', rfl, hR, hm', e', N, rfl, hp⟩
 exact hK _ _ (h v R' e' N hR hp _ _ (hk.putT hdn v) (hm'.perm ((perm_set e' hE).append_left N)))
end
end Go.Proofs.YtmidibkljoaoiaaGreatDoor.K

/- An operation without a value, one of several that may come up. No condition. -/
namespace Go.Proofs.YtmidibkljoaoiaaGreatDoor.K
open Go Go.RowKit
variable {P : Program} {T : Tab} {n : Nat} {env : Env} {w0 : World} {R : Ro} {E : List Ent} {Q : Exit → Act → World → Prop}
variable {ops : List Oper} {o : Oper} {ES : List Ent} {R0 : Ro} {fuel : Nat} {listed : Array Bool}
theorem WS.effN {i : Nat} (hi : ops.toArray[i]? = some o) (hg : o.guard = none) (hd : o.dst = none)
  (h : Ef P n env w0 R E o fun _ R' E' => RLe R0 R' ∧ ES.Sublist E' ∧ WA P ops Q ES R0 w0 fuel (listed.setIfInBounds i true) n env R' E') : WS P ops Q ES R0 w0 fuel listed n env R E i := by
 intro a w hk hm
 unfold wpOp
 rw [hi]
 simp only [Region.wanted, hg, if_true]
 left
 obtain ⟨v, w', R', E', hrun, hm', hR', hsub', hn⟩ := h a w hk hm
 unfold Oper.wp
 rcases hrun with hrun | ⟨hrun, rfl⟩
 ·rw [hrun]; simp only [Oper.upon, hd]; exact ⟨hm'.sub hR' hsub', hn _ _ hk hm'⟩
 ·rw [hrun]; simp only [Oper.upon, hd]; exact ⟨hm'.sub hR' hsub', hn _ _ hk hm'⟩
end Go.Proofs.YtmidibkljoaoiaaGreatDoor.K

/- Four operations of which any may come first. No condition. -/
namespace Go.Proofs.YtmidibkljoaoiaaGreatDoor.K
open Go Go.RowKit
variable {P : Program} {T : Tab} {n : Nat} {env : Env} {w0 : World} {R : Ro} {E : List Ent} {Q : Exit → Act → World → Prop}
variable {ops : List Oper} {ES : List Ent} {R0 : Ro} {fuel : Nat} {listed : Array Bool}
theorem WE.retFS {E' : List Ent} (hE : E'.Sublist E) (hT : TabOk P T) {fn : Func} {Post : Value → Ro → List Ent → Prop} {R0 : Ro} {rs : List ResultVar} (vs : List Value) (hr : fn.results = rs.toArray) (h : ResAll T env R E rs vs) (hR : RLe R0 R) (hp : Post (resVal vs) R E') (hds : markOf env = none := by rfl) :
  WE (bodyPost P fn (FnR w0 R0 Post)) .ret n env w0 R E := fun _ _ hk hm => ⟨by rw [hk.defers]; unfold dsOf; rw [hds], resVal vs, results_ok hT hr hk hm h, resVal vs, R, E', rfl, hR, hm.sub (RLe.refl R) hE, hp⟩
end Go.Proofs.YtmidibkljoaoiaaGreatDoor.K

/- Regions that draw their order and write: what is held until the writes of D (ES2) and what is held throughout (ES); what leans on ES2 is waited for by all of D. No condition. -/
namespace Go.Proofs.YtmidibkljoaoiaaGreatDoor.K
open Go Go.RowKit
theorem noD {b : Bool} {p : Prop} (h : b = false) : b = true → p := fun h2 => by rw [h] at h2; cases h2
def noneD (D : List Nat) (listed : Array Bool) : Bool := (List.range listed.size).all fun d => !(D.contains d) || !(listed.getD d true)
theorem noneD_set {D : List Nat} {listed : Array Bool} {i : Nat} (h : D.contains i = false) : noneD D (listed.setIfInBounds i true) = noneD D listed := by
 unfold noneD
 rw [Array.size_setIfInBounds]
 apply Bool.eq_iff_iff.2
 simp only [List.all_eq_true]
 have e : ∀ d, (!(D.contains d) || !((listed.setIfInBounds i true).getD d true)) = (!(D.contains d) || !(listed.getD d true)) := fun d => by
  by_cases hd : i = d
  ·subst hd; rw [h]; rfl
  ·rw [getD_set_ne true hd]
 exact ⟨fun hh d hm => (e d) ▸ hh d hm, fun hh d hm => (e d).symm ▸ hh d hm⟩
section
variable {P : Program} {ops : Array Oper} {Q : Exit → Act → World → Prop} {md : Region.Mode} {S S2 : World → Prop} {D : List Nat}
/-- whatever order is picked: S behind every operation, S2 as long as none of D has come up -/
def wpAnyD (P : Program) (md : Region.Mode) (ops : Array Oper) (Q : Exit → Act → World → Prop) (S S2 : World → Prop) (D : List Nat) : Nat → Array Bool → Act → World → Prop
  | 0, listed, a, w => Region.ready md ops listed = [] ∧ Q .normal a w
  | fuel + 1, listed, a, w =>
    (Region.ready md ops listed = [] → Q .normal a w) ∧
    ∀ i ∈ Region.ready md ops listed, wpOp P ops Q i (fun a' w' => (S w' ∧ (noneD D (listed.setIfInBounds i true) = true → S2 w')) ∧ wpAnyD P md ops Q S S2 D fuel (listed.setIfInBounds i true) a' w') a w
theorem wpAny_of_D : ∀ (fuel : Nat) (listed : Array Bool) (a : Act) (w : World), wpAnyD P md ops Q S S2 D fuel listed a w → wpAny P md ops Q fuel listed a w
 | 0, _, _, _, h => h
 | fuel + 1, _, _, _, h => ⟨h.1, fun i hi => wpOp_mono (fun a' w' h' => wpAny_of_D fuel _ a' w' h'.2) (h.2 i hi)⟩
/-- every operation of D waits for number i -/
def waitsD (md : Region.Mode) (ops : Array Oper) (D : List Nat) (i : Nat) : Bool := D.all fun d => match ops[d]? with | some od => od.after.toList.any fun e => Region.binds md e && Nat.beq e.on i | none => true
theorem waitsD_spec {i d : Nat} {od : Oper} (h : waitsD md ops D i = true) (hd : D.contains d = true) (ho : ops[d]? = some od) : ∃ e ∈ od.after, Region.binds md e = true ∧ e.on = i := by
 unfold waitsD at h
 have h1 := List.all_eq_true.1 h d (by simpa using hd)
 rw [ho] at h1
 simp only [List.any_eq_true, Bool.and_eq_true] at h1
 obtain ⟨e, he, h2, h3⟩ := h1
 exact ⟨e, Array.mem_toList_iff.1 he, h2, Nat.eq_of_beq_eq_true h3⟩
theorem wpAnyD_first {SX : World → Prop} {i : Nat} {oi : Oper} {v : Value} (hi : ops[i]? = some oi) (hsel : ∀ (j : Nat) (o : Oper) cs b, ops[j]? = some o → o.op ≠ .select cs b)
  (hQ : ∀ c a w, Q (.panic c) (a.put oi.dst v) w → Q (.panic c) a w) (hDi : D.contains i = false) :
  ∀ (fuel : Nat) (listed : Array Bool) (a : Act) (w : World),
   (∀ j oj, ops[j]? = some oj → j ≠ i → listed.getD j true = false → (∀ e ∈ oj.after, Region.binds md e = true → e.on ≠ i) → oi.apart ops oj = true) →
   i ∈ Region.ready md ops listed → YieldsIf P ops SX oi v a → S w → (noneD D listed = true → S2 w) →
   ((∀ w, S w → SX w) ∨ ((∀ w, S2 w → SX w) ∧ waitsD md ops D i = true ∧ noneD D listed = true)) →
   wpAnyD P md ops Q S S2 D fuel (listed.setIfInBounds i true) (a.put oi.dst v) w → wpAnyD P md ops Q S S2 D (fuel + 1) listed a w := by
 intro fuel
 induction fuel with
 | zero =>
  intro listed a w _ hr hy hS hS2 hm H
  have hSX : SX w := by
   rcases hm with hm | ⟨hm, _, hn⟩
   ·exact hm w hS
   ·exact hm w (hS2 hn)
  refine ⟨fun h => (by rw [h] at hr; cases hr), fun j hj => ?_⟩
  by_cases hji : j = i
  ·subst hji; exact hy.wpOp hi hSX ⟨⟨hS, fun hn => hS2 (by rw [noneD_set hDi] at hn; exact hn)⟩, H⟩
  ·have := ready_mono hj hji
   rw [H.1] at this
   cases this
 | succ fuel ih =>
  intro listed a w hfree hr hy hS hS2 hm H
  have hSX : SX w := by
   rcases hm with hm | ⟨hm, _, hn⟩
   ·exact hm w hS
   ·exact hm w (hS2 hn)
  refine ⟨fun h => (by rw [h] at hr; cases hr), fun j hj => ?_⟩
  by_cases hji : j = i
  ·subst hji; exact hy.wpOp hi hSX ⟨⟨hS, fun hn => hS2 (by rw [noneD_set hDi] at hn; exact hn)⟩, H⟩
  ·have h1 := H.2 j (ready_mono hj hji)
   obtain ⟨hjun, oj, hoj, hall⟩ := mem_ready.1 hj
   have hnot : ∀ e ∈ oj.after, Region.binds md e = true → e.on ≠ i := fun e he hb heq => by
    have h1 := hall e he hb
    have h0 := (mem_ready.1 hr).1
    rw [heq] at h1
    rcases Nat.lt_or_ge i listed.size with h' | h'
    ·simp [h'] at h0 h1; rw [h0] at h1; cases h1
    ·simp [Array.getElem?_eq_none h'] at h1
   have hm' : (∀ w, S w → SX w) ∨ ((∀ w, S2 w → SX w) ∧ waitsD md ops D i = true ∧ noneD D (listed.setIfInBounds j true) = true) := by
    rcases hm with hm | ⟨g1, g2, g3⟩
    ·exact .inl hm
    ·refine .inr ⟨g1, g2, ?_⟩
     have hdj : D.contains j = false := by
      cases hdj : D.contains j with
      | false => rfl
      | true =>
       obtain ⟨e, he, hb, heq⟩ := waitsD_spec g2 hdj hoj
       exact absurd heq (hnot e he hb)
     rw [noneD_set hdj]; exact g3
   have h2 := wpOp_putIf hoj (hfree j oj hoj hji hjun hnot) (fun cs b => hsel i oi cs b hi) (fun cs b => hsel j oj cs b hoj) hQ hy h1
   have hfree' : ∀ k ok, ops[k]? = some ok → k ≠ i → (listed.setIfInBounds j true).getD k true = false →
     (∀ e ∈ ok.after, Region.binds md e = true → e.on ≠ i) → oi.apart ops ok = true := fun k ok hk hki hun hno => by
    refine hfree k ok hk hki ?_ hno
    by_cases hjk : j = k
    ·subst hjk; exact hjun
    ·rw [getD_set_ne true hjk] at hun; exact hun
   have hco := Array.setIfInBounds_comm (xs := listed) true true (show j ≠ i from hji)
   refine wpOp_mono (fun a' w' h3 => ?_) h2
   have hn' : noneD D (listed.setIfInBounds j true) = true → S2 w' := fun hn => h3.2.1.2 (by rw [← hco, noneD_set hDi]; exact hn)
   refine ⟨⟨h3.2.1.1, hn'⟩, ih (listed.setIfInBounds j true) a' w' hfree' (ready_mono hr (Ne.symm hji)) h3.1 h3.2.1.1 hn' hm' ?_⟩
   rw [hco]
   exact h3.2.2
theorem wpAnyD_all {rs : List Nat} {fuel : Nat} {listed : Array Bool} {a : Act} {w : World} (hr : Region.ready md ops listed = rs) (hne : rs ≠ [])
  (h : ∀ i ∈ rs, wpOp P ops Q i (fun a' w' => (S w' ∧ (noneD D (listed.setIfInBounds i true) = true → S2 w')) ∧ wpAnyD P md ops Q S S2 D fuel (listed.setIfInBounds i true) a' w') a w) : wpAnyD P md ops Q S S2 D (fuel + 1) listed a w :=
 ⟨fun h0 => absurd (hr ▸ h0) hne, hr ▸ h⟩
theorem wpAnyD_done {listed : Array Bool} {a : Act} {w : World} (hr : Region.ready md ops listed = []) (h : Q .normal a w) :
  ∀ fuel, wpAnyD P md ops Q S S2 D fuel listed a w
 | 0 => ⟨hr, h⟩
 | _ + 1 => ⟨fun _ => h, by rw [hr]; simp⟩
end
section
variable {P : Program} {T : Tab} {ops : List Oper} {Q : Exit → Act → World → Prop} {n : Nat} {env : Env} {w0 : World} {R R0 : Ro} {E ES ES2 : List Ent} {D : List Nat} {o : Oper} {pc q : Bool} {fuel : Nat} {listed : Array Bool}
def VA (P : Program) (ops : List Oper) (Q : Exit → Act → World → Prop) (ES ES2 : List Ent) (D : List Nat) (R0 : Ro) (w0 : World) (fuel : Nat) (listed : Array Bool) (n : Nat) (env : Env) (R : Ro) (E : List Ent) : Prop :=
  ∀ a w, Kn n env a → Mem w0 w R E → wpAnyD P .any ops.toArray (NoPanic Q) (fun w => Mem w0 w R0 ES) (fun w => Mem w0 w R0 ES2) D fuel listed a w
def VS (P : Program) (ops : List Oper) (Q : Exit → Act → World → Prop) (ES ES2 : List Ent) (D : List Nat) (R0 : Ro) (w0 : World) (fuel : Nat) (listed : Array Bool) (n : Nat) (env : Env) (R : Ro) (E : List Ent) (i : Nat) : Prop :=
  ∀ a w, Kn n env a → Mem w0 w R E → wpOp P ops.toArray (NoPanic Q) i (fun a' w' => (Mem w0 w' R0 ES ∧ (noneD D (listed.setIfInBounds i true) = true → Mem w0 w' R0 ES2)) ∧ wpAnyD P .any ops.toArray (NoPanic Q) (fun w => Mem w0 w R0 ES) (fun w => Mem w0 w R0 ES2) D fuel (listed.setIfInBounds i true) a' w') a w
theorem W.regionD (id : Nat) {l : List Oper} (ES ES2 : List Ent) (D : List Nat) (hm : P.follows .mixedOrders = true)
  (h : VA P l Q ES ES2 D R w0 l.toArray.size (Array.replicate l.toArray.size false) n env R E) : W P (.region id l.toArray true) Q n env w0 R E := by
 intro a w hk hw
 refine wp_region_noPanic (wp_region_any hm (wpAny_of_D (S := fun w => Mem w0 w R ES) (S2 := fun w => Mem w0 w R ES2) (D := D) _ _ _ _ ?_))
 exact h a _ hk hw.drew
/-- what leans on ES alone is taken first -/
theorem VA.take {v : Value} {d : Nat} {pc : Bool} (i : Nat) (hi : ops.toArray[i]? = some o) (hs : Region.noSelect ops.toArray = true) (hf : Region.free .any ops.toArray listed i = true) (hr : (Region.ready .any ops.toArray listed).contains i = true) (hDi : D.contains i = false)
  (hg : gpc ops env o = some pc) (hd : o.dst = some d) (hdn : d < n) (hy : Yl P n env w0 R0 ES o pc v) (hsub : ES.Sublist E) (hR : RLe R0 R) (hs2 : noneD D listed = true → ES2.Sublist E)
  (h : VA P ops Q ES ES2 D R0 w0 fuel (listed.setIfInBounds i true) n ((d, pc, v) :: env) R E) : VA P ops Q ES ES2 D R0 w0 (fuel + 1) listed n env R E := by
 intro a w hk hm
 have hput := hk.put hdn pc v
 refine wpAnyD_first (SX := fun w => Mem w0 w R0 ES) (v := if pc then v else undef) hi (Region.noSelect_spec hs) (fun _ _ _ h => h) hDi fuel listed a w (Region.free_spec hi hf) (by simpa using hr) ?_ (hm.sub hR hsub) (fun hn => hm.sub hR (hs2 hn)) (.inl fun _ h => h) ?_
 ·cases pc with
  | true => exact .inl ⟨hk.wanted hg, fun w hm => by simpa using hy a w hk hm rfl⟩
  | false => exact .inr ⟨hk.wanted hg, rfl⟩
 ·rw [hd]
  exact h _ _ hput hm
/-- what leans on ES2, and is waited for by all of D, too -/
theorem VA.take2 {v : Value} {d : Nat} {pc : Bool} (i : Nat) (hi : ops.toArray[i]? = some o) (hs : Region.noSelect ops.toArray = true) (hf : Region.free .any ops.toArray listed i = true) (hr : (Region.ready .any ops.toArray listed).contains i = true) (hDi : D.contains i = false) (hw : waitsD .any ops.toArray D i = true) (hn : noneD D listed = true)
  (hg : gpc ops env o = some pc) (hd : o.dst = some d) (hdn : d < n) (hy : Yl P n env w0 R0 ES2 o pc v) (hsub : ES.Sublist E) (hR : RLe R0 R) (hs2 : ES2.Sublist E)
  (h : VA P ops Q ES ES2 D R0 w0 fuel (listed.setIfInBounds i true) n ((d, pc, v) :: env) R E) : VA P ops Q ES ES2 D R0 w0 (fuel + 1) listed n env R E := by
 intro a w hk hm
 have hput := hk.put hdn pc v
 refine wpAnyD_first (SX := fun w => Mem w0 w R0 ES2) (v := if pc then v else undef) hi (Region.noSelect_spec hs) (fun _ _ _ h => h) hDi fuel listed a w (Region.free_spec hi hf) (by simpa using hr) ?_ (hm.sub hR hsub) (fun _ => hm.sub hR hs2) (.inr ⟨fun _ h => h, hw, hn⟩) ?_
 ·cases pc with
  | true => exact .inl ⟨hk.wanted hg, fun w hm => by simpa using hy a w hk hm rfl⟩
  | false => exact .inr ⟨hk.wanted hg, rfl⟩
 ·rw [hd]
  exact h _ _ hput hm
theorem VA.one {i : Nat} (hr : Region.ready .any ops.toArray listed = [i]) (h : VS P ops Q ES ES2 D R0 w0 fuel listed n env R E i) : VA P ops Q ES ES2 D R0 w0 (fuel + 1) listed n env R E := by
 intro a w hk hm
 refine wpAnyD_all hr (by simp) fun j hj => ?_
 obtain rfl : j = i := by simpa using hj
 exact h a w hk hm
theorem VA.br2 {i j : Nat} (hr : Region.ready .any ops.toArray listed = [i, j]) (h1 : VS P ops Q ES ES2 D R0 w0 fuel listed n env R E i) (h2 : VS P ops Q ES ES2 D R0 w0 fuel listed n env R E j) : VA P ops Q ES ES2 D R0 w0 (fuel + 1) listed n env R E := by
 intro a w hk hm
 refine wpAnyD_all hr (by simp) fun m hm' => ?_
 rcases List.mem_cons.1 hm' with rfl | hm'
 ·exact h1 a w hk hm
 ·obtain rfl : m = j := by simpa using hm'
  exact h2 a w hk hm
theorem VS.eff {d : Nat} {i : Nat} (hi : ops.toArray[i]? = some o) (hg : o.guard = none) (hd : o.dst = some d) (hdn : d < n)
  (h : Ef P n env w0 R E o fun v R' E' => RLe R0 R' ∧ ES.Sublist E' ∧ (noneD D (listed.setIfInBounds i true) = true → ES2.Sublist E') ∧ VA P ops Q ES ES2 D R0 w0 fuel (listed.setIfInBounds i true) n ((d, true, v) :: env) R' E') : VS P ops Q ES ES2 D R0 w0 fuel listed n env R E i := by
 intro a w hk hm
 unfold wpOp
 rw [hi]
 simp only [Region.wanted, hg, if_true]
 left
 obtain ⟨v, w', R', E', hrun, hm', hR', hsub', hs2, hn⟩ := h a w hk hm
 unfold Oper.wp
 rcases hrun with hrun | ⟨hrun, rfl⟩
 ·rw [hrun]; simp only [Oper.upon, hd]; exact ⟨⟨hm'.sub hR' hsub', fun h => hm'.sub hR' (hs2 h)⟩, hn _ _ (hk.putT hdn v) hm'⟩
 ·rw [hrun]; simp only [Oper.upon, hd]; exact ⟨⟨hm'.sub hR' hsub', fun h => hm'.sub hR' (hs2 h)⟩, hn _ _ (hk.putT hdn _) hm'⟩
theorem VS.effN {i : Nat} (hi : ops.toArray[i]? = some o) (hg : o.guard = none) (hd : o.dst = none)
  (h : Ef P n env w0 R E o fun _ R' E' => RLe R0 R' ∧ ES.Sublist E' ∧ (noneD D (listed.setIfInBounds i true) = true → ES2.Sublist E') ∧ VA P ops Q ES ES2 D R0 w0 fuel (listed.setIfInBounds i true) n env R' E') : VS P ops Q ES ES2 D R0 w0 fuel listed n env R E i := by
 intro a w hk hm
 unfold wpOp
 rw [hi]
 simp only [Region.wanted, hg, if_true]
 left
 obtain ⟨v, w', R', E', hrun, hm', hR', hsub', hs2, hn⟩ := h a w hk hm
 unfold Oper.wp
 rcases hrun with hrun | ⟨hrun, rfl⟩
 ·rw [hrun]; simp only [Oper.upon, hd]; exact ⟨⟨hm'.sub hR' hsub', fun h => hm'.sub hR' (hs2 h)⟩, hn _ _ hk hm'⟩
 ·rw [hrun]; simp only [Oper.upon, hd]; exact ⟨⟨hm'.sub hR' hsub', fun h => hm'.sub hR' (hs2 h)⟩, hn _ _ hk hm'⟩
theorem VS.yl {v : Value} {d : Nat} {i : Nat} (hi : ops.toArray[i]? = some o) (hg : o.guard = none) (hd : o.dst = some d) (hdn : d < n) (hy : Yl P n env w0 R E o true v) (hsub : ES.Sublist E) (hR : RLe R0 R) (hs2 : noneD D (listed.setIfInBounds i true) = true → ES2.Sublist E)
  (h : VA P ops Q ES ES2 D R0 w0 fuel (listed.setIfInBounds i true) n ((d, true, v) :: env) R E) : VS P ops Q ES ES2 D R0 w0 fuel listed n env R E i :=
 VS.eff hi hg hd hdn (fun a w hk hm => ⟨v, w, R, E, .inl (hy a w hk hm rfl), hm, hR, hsub, hs2, h⟩)
theorem VS.callAt {d : Nat} {f : FuncId} {vs : List Value} {e : Ent} {Post : Value → Ro → Ent → List Ent → Prop} (k : Nat) {i : Nat} (hi : ops.toArray[i]? = some o) (hf : Enters P f) (hg : o.guard = none) (hd : o.dst = some d) (hdn : d < n)
  (hc : CallOp env o.op true f vs) (hE : E[k]? = some e) (hv : Fn P f vs w0 R (e :: E.eraseIdx k) (fun v R' E' => ∃ e' N, E' = N ++ e' :: E.eraseIdx k ∧ Post v R' e' N))
  (h : ∀ v R' e' N, RLe R R' → Post v R' e' N → RLe R0 R' ∧ ES.Sublist (N ++ E.set k e') ∧ (noneD D (listed.setIfInBounds i true) = true → ES2.Sublist (N ++ E.set k e')) ∧ VA P ops Q ES ES2 D R0 w0 fuel (listed.setIfInBounds i true) n ((d, true, v) :: env) R' (N ++ E.set k e')) : VS P ops Q ES ES2 D R0 w0 fuel listed n env R E i := by
 intro a w hk hm
 unfold wpOp
 rw [hi]
 simp only [Region.wanted, hg, if_true]
 left
 unfold Oper.wp
 rw [run_call hk hc rfl hf]
 refine (hv w (hm.perm (perm_get hE))).mono ?_
 rintro e0 w' ⟨v, R', E', rfl, hR, hm', e', N, rfl, hp⟩
 obtain ⟨g1, g2, g3, g4⟩ := h v R' e' N hR hp
 have hm2 := hm'.perm ((perm_set e' hE).append_left N)
 simp only [hd]
 exact ⟨⟨hm2.sub g1 g2, fun h => hm2.sub g1 (g3 h)⟩, g4 _ _ (hk.putT hdn v) hm2⟩
theorem VA.done (hr : Region.ready .any ops.toArray listed = []) (h : WE Q .normal n env w0 R E) : VA P ops Q ES ES2 D R0 w0 fuel listed n env R E :=
 fun a w hk hm => wpAnyD_done hr (NoPanic.normal (h a w hk hm)) fuel
end
end Go.Proofs.YtmidibkljoaoiaaGreatDoor.K

/- Rule: a pointer against nil. No condition. -/
namespace Go.Proofs.YtmidibkljoaoiaaGreatDoor.K
open Go Go.RowKit
section
variable {P : Program} {T : Tab} {n : Nat} {env : Env} {w0 : World} {R : Ro} {E : List Ent} {o : Oper} {pc p q r : Bool}
theorem Yl.ptrNil {t e : TypeId} {t' x y} {a : Option Addr} {d : TD} (hT : TabOk P T) (ho : o.op = .binOp .eql t x y t') (hc : y = .const (.pointer none)) (hd : T.at t = some d) (hk : d.k = .ptr e) (hx : ev env x = some (p, .pointer a)) (hp : pc = true → p = true) : Yl P n env w0 R E o pc (.bool a.isNone) := by
 intro ac w hkn hm hpc
 subst hc
 have hu : P.underlying t = some (.pointer e) := by
  have := hT.kind hd
  rw [hk] at this
  unfold kindOf at this
  split at this <;> simp_all
 have hpt : P.underlying t = some (.pointer (P.pointee t)) := by rw [hu]; simp [Program.pointee, hu]
 have e1 := run_equal_pointer_nil (P := P) w t a hpt
 have hy : ac.eval (.const (.pointer none)) = .pointer none := rfl
 unfold execOp
 cases a with
 | none => simp [ho, hkn.ev hx (hp hpc), hy, eqGuard, binOp, e1]
 | some ad => simp [ho, hkn.ev hx (hp hpc), hy, eqGuard, binOp, e1]
end
end Go.Proofs.YtmidibkljoaoiaaGreatDoor.K
