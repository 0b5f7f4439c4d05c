/- The rule of append, over any program. No condition. -/
import Derived.Test.YtcfnckccmkjjlaaEff
namespace Go.Proofs.Ytcfnckccmkjjlaa.K
open Go Go.RowKit

section
variable {P : Program} {T : Tab} {n : Nat} {env : Env} {w0 : World} {R : Ro} {E : List Ent} {o : Oper} {K : Value → Ro → List Ent → Prop}

/-- append(s, x...) to a slice of one's own -/
theorem Ef.append {t e : TypeId} {x y : Operand} {k cap m c : Nat} {a b : Option Addr} {rows news : List (List Value)} {d d2 : TD} (i : Nat) (hT : TabOk P T) (ho : o.op = .call { callee := .builtin .append, args := #[x, y], argTypes := #[t, t] }) (hd : T.at t = some d) (hk : d.k = .slice e) (hd2 : T.at e = some d2)
    (hx : ev env x = some (true, .slice a rows.length cap)) (hE : E[i]? = some (.sl e k a cap rows)) (hks : d2.size = k) (hzl : d2.zero.length = k)
    (hy : ev env y = some (true, .slice b m c)) (hm : news.length = m) (hrd : RdAll R E b news.flatten) (hnk : ∀ r ∈ news, r.length = k) (h1 : ∀ r ∈ news, cells1 r = true)
    (hbytes : (rows.length + m) * d2.bytes ≤ 140737488355328) (hmax : rows.length + m ≤ 9223372036854775807)
    (hK : ∀ a' cap', (0 < m → a'.isSome = true) → K (.slice a' (rows.length + m) cap') R (E.set i (.sl e k a' cap' (rows ++ news)))) : Ef P n env w0 R E o K := by
  intro ac w hkn hmm
  obtain ⟨h0, hk0, hown⟩ := hmm.own _ (mem_of_get hE)
  obtain ⟨inf, z, hi, hz, hzc, hsz, hby⟩ := hT.info hd2
  have hzs : z.cells.size = k := by rw [← hzl, ← hzc, Array.length_toList]
  have hnl := flatten_len hnk
  rw [hm] at hnl
  have hone : ∀ u ∈ news.flatten, u.oneCell' = true := fun u hu => by
    obtain ⟨r, hr, hur⟩ := List.mem_flatten.1 hu
    exact List.all_eq_true.1 (h1 r hr) u hur
  by_cases hne : news.flatten = []
  · have hm0 : m = 0 := by
      rw [hne] at hnl
      simp only [List.length_nil] at hnl
      rcases Nat.mul_eq_zero.1 hnl.symm with h | h
      · exact h
      · omega
    subst hm0
    have hnn : news = [] := List.eq_nil_of_length_eq_zero hm
    subst hnn
    refine ⟨_, w, R, _, .inl ?_, ?_, hK a cap (fun h => by omega)⟩
    · obtain ⟨_, _, h2⟩ := own_sl hmm (mem_of_get hE)
      have hle : rows.length ≤ cap := by
        rcases h2 with ⟨_, rfl, _⟩ | ⟨g, cur, _, _, _, hn, _⟩
        · simp
        · exact hn
      unfold execOp
      simp only [ho, resolve, invoke, builtin, Sem.run_bind, Sem.run_pure, Result.andThen_ok, List.map_toArray, List.map_cons, List.map_nil, hkn.ev hx rfl, hkn.ev hy rfl]
      have hfc : ∀ w : World, (Builtin.firstCells inf.size 0 (.slice b 0 c)).run P w = .ok #[] w := fun w => by
        cases b <;> simp [Builtin.firstCells, loadCells, loadCellsFrom]
      cases a with
      | none => simp [Builtin.append_, underlying, hT.slice hd hk, sizeOf, typeInfo, hi, Builtin.lenOf, hle, hfc]
      | some ad => simp [Builtin.append_, underlying, hT.slice hd hk, sizeOf, typeInfo, hi, Builtin.lenOf, hle, hfc, storeCells]
    · have e1 : E.set i (.sl e k a cap (rows ++ [])) = E := by
        rw [List.append_nil]
        apply List.ext_getElem?
        intro j
        rw [List.getElem?_set]
        split
        · rename_i h; subst h
          split
          · rw [hE]
          · rename_i h2; exact absurd (List.getElem?_eq_some_iff.1 hE).1 h2
        · rfl
      rw [e1]; exact hmm
  · rcases hrd with hrd | ⟨ad, rfl, hrd⟩
    · exact absurd hrd hne
    · have hread := hrd w0 w hmm
      have hmpos : 0 < m := by
        rcases Nat.eq_zero_or_pos m with h | h
        · subst h; exact absurd (List.eq_nil_of_length_eq_zero (by simpa using hnl)) hne
        · exact h
      have hns : ∀ r ∈ rows ++ news, r.length = k := fun r hr => by
        rcases List.mem_append.1 hr with h | h
        · exact h0 r h
        · exact hnk r h
      have hrl := flatten_len h0
      obtain ⟨_, _, h2⟩ := own_sl hmm (mem_of_get hE)
      have mkNew : ∀ nc, rows.length + m ≤ nc → nc ≤ maxLen → ∀ cur : Array Value, cur = rows.flatten.toArray ++ news.flatten.toArray ++ Builtin.zeroCells z.cells (nc - (rows.length + m)) →
          Mem w0 (w.drew.alloc (.cells cur e)) R (E.set i (.sl e k (some ⟨w.heap.size, 0, none⟩) nc (rows ++ news))) := fun nc hge hcm cur hcur => by
        subst hcur
        refine hmm.set (row := none) hE ⟨rfl, rfl, rfl, by simp, fun j hj _ => heap_alloc_old w.drew _ hj⟩ (fun _ h => by cases h) (ok_sl (g := w.heap.size) hns hk0 hmm.below.size (heap_alloc_new w.drew _) (by simp [hm]; exact hge) hcm ?_ ?_) (fun b hb => by simp [Ent.block] at hb; right; omega)
        · simp only [Array.size_append, List.size_toArray, size_zeroCells, hzs, hrl, hnl, ← Nat.add_mul]
          congr 1; omega
        · simp only [Array.toList_append, List.append_assoc, List.flatten_append, List.length_append, hm]
          rw [← List.append_assoc]
          exact List.take_left' (by rw [List.length_append, hrl, hnl, Nat.add_mul])
      rcases h2 with ⟨rfl, rfl, rfl⟩ | ⟨g, cur, rfl, hbase, hh, hn, hc, hs, ht⟩
      · have hr := run_append_nil (P := P) w t o.type e inf z (hT.slice hd hk) hi hz ad m c news.flatten (by rw [hnl, hsz, hks]) hread hmpos (by simp at hmax; omega) (by rw [hby]; simp at hbytes; omega)
        have hcm := grownCap_le_maxLen w m 0 e (by simp only [maxLen]; simp at hmax; omega)
        have hge := grownCap_ge w m 0 e
        have hnew := mkNew (grownCap w m 0 e) (by simpa using hge) hcm _ rfl
        refine ⟨_, _, R, _, .inl ?_, hnew, hK _ _ (fun _ => rfl)⟩
        unfold execOp
        simp only [ho, resolve, invoke, builtin, Sem.run_bind, Sem.run_pure, Result.andThen_ok, List.map_toArray, List.map_cons, List.map_nil, hkn.ev hx rfl, hkn.ev hy rfl, List.length_nil, hr]
        simp
      · by_cases hroom : rows.length + m ≤ cap
        · have hmk : rows.length * k + m * k ≤ cap * k := by rw [← Nat.add_mul]; exact Nat.mul_le_mul_right k hroom
          have hr := run_append_room (P := P) w t o.type e inf (hT.slice hd hk) hi g rows.length cap cur hh ad m c news.flatten (by rw [hnl, hsz, hks]) hread hone hroom (by rw [hsz, hks, hnl, hs]; exact hmk)
          rw [hsz, hks] at hr
          refine ⟨_, _, R, _, .inl ?_, hmm.set hE (grownBy_setRow g _) (fun _ h => by simpa [Ent.block] using h) (ok_sl (g := g) (rows := rows ++ news) (cap := cap) (cur := (cur.toList.take (rows.length * k) ++ news.flatten ++ cur.toList.drop (rows.length * k + news.flatten.length)).toArray) hns hk0 hbase (setRow_heap w g cur _ e _ hh) (by simp [hm]; exact hroom) hc ?_ ?_) (fun _ h => .inl h), hK _ _ (fun _ => rfl)⟩
          · unfold execOp
            simp only [ho, resolve, invoke, builtin, Sem.run_bind, Sem.run_pure, Result.andThen_ok, List.map_toArray, List.map_cons, List.map_nil, hkn.ev hx rfl, hkn.ev hy rfl, hr]
          · simp only [List.size_toArray, List.length_append, List.length_take, List.length_drop, Array.length_toList, hnl, hs]
            omega
          · rw [ht, List.length_append, hm, List.flatten_append]
            exact List.take_left' (by rw [List.length_append, hrl, hnl, Nat.add_mul])
        · have holds : ∀ j u, rows.flatten[j]? = some u → w.cell? ((⟨g, 0, none⟩ : Addr).add j) = some u := fun j u hu => by
            rw [← ht, List.getElem?_take] at hu
            rw [addr_add_mk]
            split at hu
            · simpa [World.cell?, hh] using hu
            · cases hu
          have hr := run_append_grow (P := P) w t o.type e inf z (hT.slice hd hk) hi hz ⟨g, 0, none⟩ rows.length cap rows.flatten (by rw [hrl, hsz, hks]) holds ad m c news.flatten (by rw [hnl, hsz, hks]) hread (by omega) (by omega) (by rw [hby]; exact growslice_fits (by omega) hbytes)
          have hcm := grownCap_le_maxLen w (rows.length + m) cap e (by simp only [maxLen]; omega)
          have hge := grownCap_ge w (rows.length + m) cap e
          have hnew := mkNew (grownCap w (rows.length + m) cap e) hge hcm _ rfl
          refine ⟨_, _, R, _, .inl ?_, hnew, hK _ _ (fun _ => rfl)⟩
          unfold execOp
          simp only [ho, resolve, invoke, builtin, Sem.run_bind, Sem.run_pure, Result.andThen_ok, List.map_toArray, List.map_cons, List.map_nil, hkn.ev hx rfl, hkn.ev hy rfl, hr]
end
