/- A law over any data: from its contract to its row. No condition. -/
import Derived.Test.YtcfnckccmkjjlaaLift
import Derived.Deep.Slices
import Derived.OpenShut
namespace Go.Proofs.Ytcfnckccmkjjlaa.K
open Go Go.RowKit Go.ChangeShapes Go.WideShapes Go.ChangeAt Go.WideElems Go.Maps

/-- all that lies in memory, as what is read only -/
def roOf (W : World) : Ro := fun b => match W.heap[b]? with
  | some (.cells arr _ _) => some arr.toList
  | _ => none
theorem memAll (W : World) : Mem W W (roOf W) [] := by
  refine ⟨Below.refl _ W, fun b cs h => ?_, fun e he => (by cases he), fun e he => (by cases he), List.Pairwise.nil⟩
  unfold roOf at h
  split at h
  · rename_i arr T fz hh
    simp only [Option.some.injEq] at h
    subst h
    exact ⟨T, fz, by simpa using hh⟩
  · cases h
def ints (z : List Int) : List Value := z.map (Value.int .i64)
/-- rows of numbers that lie in memory -/
theorem rsl_of {W : World} {k : Nat} {a : Addr} {zss : List (List Int)} (hk : 0 < k) (hl : ∀ z ∈ zss, z.length = k) (hm : zss.length ≤ 9223372036854775807)
    (hc : ∀ i z, zss[i]? = some z → ∀ j v, (ints z)[j]? = some v → W.cell? (a.add (i * k + j)) = some v) : RSl (roOf W) k (some a) (zss.map ints) := by
  have hlen : ∀ r ∈ zss.map ints, r.length = k := fun r hr => by
    obtain ⟨z, hz, rfl⟩ := List.mem_map.1 hr
    simp [ints, hl z hz]
  by_cases h0 : zss = []
  · subst h0
    exact ⟨by simp, .inl rfl, by simp⟩
  · have hpos : 0 < zss.length := List.length_pos_iff.2 h0
    have hz0 : (ints zss[0]).length = k := by simp [ints, hl _ (List.getElem_mem hpos)]
    have h1 := hc 0 zss[0] (List.getElem?_eq_getElem hpos) 0 ((ints zss[0])[0]'(by omega)) (List.getElem?_eq_getElem (by omega))
    rw [Nat.zero_mul, Nat.zero_add] at h1
    unfold World.cell? at h1
    cases hh : W.heap[(a.add 0).block]? with
    | none => simp [hh] at h1
    | some o =>
      cases o with
      | cells arr T fz =>
        have hs : a.spot = none := by
          simp only [hh] at h1
          cases hsp : a.spot with
          | none => rfl
          | some x => simp [Addr.add, hsp] at h1
        have hb : (a.add 0).block = a.block := rfl
        rw [hb] at hh
        refine ⟨hlen, .inr ⟨a.block, a.off, arr.toList, ?_, ?_, fun m v hv => ?_⟩, by simpa using hm⟩
        · cases a; simp only at hs; subst hs; rfl
        · unfold roOf; rw [hh]
        · have hmlt : m < (zss.map ints).flatten.length := (List.getElem?_eq_some_iff.1 hv).1
          rw [flatten_len hlen, List.length_map] at hmlt
          have hi : m / k < zss.length := Nat.div_lt_of_lt_mul (by rw [Nat.mul_comm]; exact hmlt)
          have hj : m % k < k := Nat.mod_lt _ hk
          have hzi := hl _ (List.getElem_mem hi)
          have hg := flatten_get hlen (i := m / k) (j := m % k) (row := ints zss[m / k]) (v := (ints zss[m / k])[m % k]'(by simp [ints, hzi, hj])) (by rw [List.getElem?_map, List.getElem?_eq_getElem hi]; rfl) (List.getElem?_eq_getElem _)
          have hme : m / k * k + m % k = m := by rw [Nat.mul_comm]; exact Nat.div_add_mod m k
          rw [hme, hv] at hg
          have hv' : v = (ints zss[m / k])[m % k]'(by simp [ints, hzi, hj]) := by simpa using hg
          have h2 := hc (m / k) _ (List.getElem?_eq_getElem hi) (m % k) v (by rw [hv']; exact List.getElem?_eq_getElem _)
          rw [hme] at h2
          unfold World.cell? at h2
          have hbj : (a.add m).block = a.block := by unfold Addr.add; split <;> rfl
          have hsj : (a.add m).spot = a.spot := by unfold Addr.add; split <;> simp [hs]
          have hoj : (a.add m).off = a.off + m := by unfold Addr.add; split <;> simp [*]
          rw [hbj, hh] at h2
          simp only [hsj, hs, hoj] at h2
          simpa using h2
      | _ => simp [hh] at h1

section
variable {H : Type} {enc : TypeId × Value → H} {P : Program} {W : World} {spare : Nat → Bool}
/-- elements that are k numbers -/
def Flat (enc : TypeId × Value → H) (P : Program) (e k : Nat) : Prop := ∀ (W : World) (spare : Nat → Bool) (fuel : Nat) (cs : List Value) (x : DataW H × List MemPlace), DataW.trod enc P W 0 spare true fuel e cs = some x → ∃ z : List Int, z.length = k ∧ cs = ints z ∧ ∀ n ∈ z, InR n
theorem flat_int {e : Nat} (he : P.underlying e = some (.int .i64)) : Flat enc P e 1 := by
  intro W spare fuel cs x h
  obtain ⟨n, rfl, _, hw⟩ := DataW.trod_int he h
  exact ⟨[n], rfl, rfl, fun m hm => (by
    have e : m = n := by simpa using hm
    rw [e]; exact bounds_i64 hw)⟩
theorem flat_struct {e : Nat} {fs : Array Field} (he : P.underlying e = some (.struct fs)) (hce : P.cellsOf e = fs.size)
    (hf : ∀ (i : Nat) (f : Field), fs[i]? = some f → f.offset = i ∧ P.cellsOf f.type = 1 ∧ P.underlying f.type = some (.int .i64)) : Flat enc P e fs.size := by
  intro W spare fuel cs x h
  obtain ⟨xs, n, rfl, _, hl, hxl, hx⟩ := DataW.trod_struct he h
  have each : ∀ i, i < fs.size → ∃ z : Int, cs[i]? = some (.int .i64 z) ∧ InR z := by
    intro i hi
    have hfi : fs[i]? = some fs[i] := Array.getElem?_eq_getElem hi
    obtain ⟨o, c, u⟩ := hf i _ hfi
    have h1 := hx i _ hfi
    rw [o, c, List.getElem?_eq_getElem (show i < xs.length by omega)] at h1
    obtain ⟨z, hz, _, hw⟩ := DataW.trod_int u h1
    refine ⟨z, ?_, bounds_i64 hw⟩
    have := congrArg (fun l : List Value => l[0]?) hz
    simpa using this
  refine ⟨(List.range fs.size).map fun i => match cs[i]? with | some (Value.int _ z) => z | _ => 0, by simp, ?_, ?_⟩
  · apply List.ext_getElem?
    intro i
    by_cases hi : i < fs.size
    · obtain ⟨z, hz, _⟩ := each i hi
      simp [ints, hi, hz]
    · rw [List.getElem?_eq_none (by rw [hl, hce]; omega), List.getElem?_eq_none (by simp [ints]; omega)]
  · intro m hm
    obtain ⟨i, hi, rfl⟩ := List.mem_map.1 hm
    obtain ⟨z, hz, hr⟩ := each i (by simpa using hi)
    simp only [hz]; exact hr

theorem open_flat {t e k : Nat} {v : Value} {d : DataW H} {ps : List MemPlace} (ht : P.underlying t = some (.slice e)) (hk : 0 < k) (hce : P.cellsOf e = k) (hfl : Flat enc P e k)
    (hval : Value.okWide P W .any 0 t v) (h : DataW.Trod enc P W 0 spare true t v d ps) :
    ∃ (a : Option Addr) (cap : Nat) (zss : List (List Int)), v = .slice a zss.length cap ∧ zss.length ≤ cap ∧ (∀ z ∈ zss, z.length = k) ∧ RSl (roOf W) k a (zss.map ints) ∧ ∀ z ∈ zss, ∀ n ∈ z, InR n := by
  obtain ⟨a0, len, cap, rfl⟩ := okWide_slice ht hval
  obtain ⟨fuel, hf⟩ := h
  rcases Go.Deep.open_slice ht hf with ⟨hcs, _⟩ | ⟨a, len', cap', m, n, D, Pl, hcs, _, hl, hm, hmm, _, hx⟩
  · simp [Value.cells] at hcs
    obtain ⟨rfl, rfl, rfl⟩ := hcs
    exact ⟨none, 0, [], rfl, Nat.le_refl _, by simp, ⟨by simp, .inl rfl, by simp⟩, by simp⟩
  · simp [Value.cells] at hcs
    obtain ⟨rfl, rfl, rfl⟩ := hcs
    have hlm : len ≤ m := by rw [hmm]; split <;> omega
    have each : ∀ i, i < len → ∃ z : List Int, z.length = k ∧ (∀ j v, (ints z)[j]? = some v → W.cell? (a.add (i * k + j)) = some v) ∧ ∀ n ∈ z, InR n := by
      intro i hi
      obtain ⟨cs', h1, h2⟩ := hx i (by omega)
      rw [hce] at h1
      obtain ⟨_, hlen, hcell⟩ := World.cells?_some h1
      obtain ⟨z, hz, rfl, hr⟩ := hfl W spare n cs' _ h2
      refine ⟨z, hz, fun j v hj => ?_, hr⟩
      have hjk : j < k := by have := (List.getElem?_eq_some_iff.1 hj).1; simp [ints, hz] at this; exact this
      have := hcell j hjk
      rw [addr_add_add] at this
      rw [this, hj]
    have hch : ∃ f : Nat → List Int, ∀ i, i < len → (f i).length = k ∧ (∀ j v, (ints (f i))[j]? = some v → W.cell? (a.add (i * k + j)) = some v) ∧ ∀ n ∈ f i, InR n :=
      ⟨fun i => if h : i < len then (each i h).choose else [], fun i hi => by simp only [hi, dif_pos]; exact (each i hi).choose_spec⟩
    obtain ⟨f, hf'⟩ := hch
    have hlen : ((List.range len).map f).length = len := by simp
    refine ⟨some a, cap, (List.range len).map f, by rw [hlen], by rw [hlen]; exact hl, fun z hz => ?_, ?_, fun z hz => ?_⟩
    · obtain ⟨i, hi, rfl⟩ := List.mem_map.1 hz
      exact (hf' i (by simpa using hi)).1
    · refine rsl_of hk (fun z hz => ?_) (by rw [hlen]; simp only [maxLen] at hm; omega) (fun i z hi => ?_)
      · obtain ⟨i, hi, rfl⟩ := List.mem_map.1 hz
        exact (hf' i (by simpa using hi)).1
      · have hil : i < len := by have := (List.getElem?_eq_some_iff.1 hi).1; simpa using this
        have : z = f i := by simp [List.getElem?_map, hil] at hi; exact hi.symm
        subst this
        exact (hf' i hil).2.1
    · obtain ⟨i, hi, rfl⟩ := List.mem_map.1 hz
      exact (hf' i (by simpa using hi)).2.2

/-- typed -/
theorem RS.ofFlat {α : Type} {_i : Inhabited α} {R : Ro} {k : Nat} {en : α → List Value} {dec : List Int → α} {a : Option Addr} {zss : List (List Int)} (h : RSl R k a (zss.map ints)) (hl : ∀ z ∈ zss, z.length = k) (hd : ∀ z : List Int, z.length = k → en (dec z) = ints z) :
    RS (_i := _i) R k en a (zss.map dec) := by
  unfold RS
  have : (zss.map dec).map en = zss.map ints := by
    rw [List.map_map]
    exact List.map_congr_left fun z hz => hd z (hl z hz)
  rw [this]; exact h

theorem carryAll (hl : laidOutB P = true) {W W' : World} : ∀ {ts : List TypeId} {vs : List Value} {ds : List (DataW H)} {ps : List MemPlace}, ts.all (fun t => P.readableRec t && decide (t < P.types.size)) = true → DataW.TrodAll enc P W 0 (fun _ => true) true ts vs ds ps → Below W.heap.size W W' → (∀ x ∈ ps, x.block < W.heap.size) →
    DataW.TrodAll enc P W' 0 (fun b => decide (b < W.heap.size)) true ts vs ds ps
  | [], vs, ds, ps, _, h, _, _ => by
    obtain ⟨rfl, rfl, rfl⟩ := trodAll_nil h
    exact trodAll_mk0
  | t :: ts, vs, ds, ps, hr, h, hb, hlt => by
    obtain ⟨v, vs', d, ds', p, q, rfl, rfl, rfl, h1, h2⟩ := trodAll_cons h
    simp only [List.all_cons, Bool.and_eq_true, decide_eq_true_eq] at hr
    exact ⟨p, q, Below.trod hl hr.1.1 hr.1.2 h1 hb (fun x hx => hlt x (by simp [hx])), carryAll hl (by simpa using hr.2) h2 hb (fun x hx => hlt x (by simp [hx])), rfl⟩
end
/-- a contract, seen from outside -/
theorem lift_calls {P : Program} {f : FuncId} {args : List Value} {W : World} (h : Fn P f args W (roOf W) [] (fun v _ _ => v = .bool true)) : Calls P f args.toArray W fun e W' => e = .returned (.bool true) ∧ Below W.heap.size W W' := by
  refine (h W (memAll W)).mono ?_
  rintro e w' ⟨v, R', E', rfl, _, hm, rfl⟩
  exact ⟨rfl, hm.below⟩
def decI (z : List Int) : Int := z.headD 0
theorem decI_enc : ∀ z : List Int, z.length = 1 → encI (decI z) = ints z
  | [x], _ => rfl
  | [], h => by simp at h
  | _ :: _ :: _, h => by simp at h
def decP : List Int → M.Pkt
  | [a, b, c] => ⟨a, b, c⟩
  | _ => ⟨0, 0, 0⟩
theorem decP_enc : ∀ z : List Int, z.length = 3 → M.encP (decP z) = ints z
  | [a, b, c], _ => rfl
  | [], h => by simp at h
  | [_], h => by simp at h
  | [_, _], h => by simp at h
  | _ :: _ :: _ :: _ :: _, h => by simp at h
end Go.Proofs.Ytcfnckccmkjjlaa.K
