/- ServerMonotone: for every list of numbers the law returns true, and the list reads afterwards as it read before. No condition. -/
import Derived.Test.YthpblaoehlgpfaaGreatG6
/- append to a slice that is read only and full, and s[:n:n]. No condition. -/
namespace Go.Proofs.YthpblaoehlgpfaaGreat.K
open Go Go.RowKit

section
variable {P : Program} {T : Tab} {n : Nat} {env : Env} {w0 : World} {R : Ro} {E : List Ent} {o : Oper} {K : Value → Ro → List Ent → Prop} {p q pc : Bool}
theorem Yl.sliceHM {t e : TypeId} {x h u : Operand} {a : Option Addr} {m cap : Nat} {i j : Int} {r : Bool} {d : TD} (hT : TabOk P T) (ho : o.op = .slice t x none (some h) (some u)) (hd : T.at t = some d) (hk : d.k = .slice e)
  (hx : ev env x = some (p, .slice a m cap)) (hh : ev env h = some (q, .int .i64 i)) (hu : ev env u = some (r, .int .i64 j)) (hpq : pc = true → (p && (q && r)) = true) (hi : pc = true → 0 ≤ i ∧ i ≤ j ∧ j ≤ cap) {d2 : TD} (hd2 : T.at e = some d2) : Yl P n env w0 R E o pc (.slice a i.toNat j.toNat) := by
 intro ac w hkn hm hpc
 obtain ⟨h1, h2⟩ := and_both (hpq hpc)
 obtain ⟨h2, h3⟩ := and_both h2
 have hi := hi hpc
 have ha : a.map (·.add 0) = a := by cases a <;> simp [Addr.add]
 unfold execOp
 simp [ho, hkn.ev hx h1, hkn.ev hh h2, hkn.ev hu h3, Instr.sliceAt, Instr.slice, Instr.sliceBounds, Instr.sliceBound, asIntOf, underlying, hT.slice hd hk, hi, run_sizeOf hT hd2, ha, show 0 ≤ j by omega, show i ≤ j by omega]
 intro h; omega
theorem Ef.appendF {α : Type} [_i : Inhabited α] {enc : α → List Value} {t e : TypeId} {x y : Operand} {k m0 m c : Nat} {a b : Option Addr} {xs ys : List α} {d d2 : TD} (hT : TabOk P T) (ho : o.op = .call { callee := .builtin .append, args := #[x, y], argTypes := #[t, t] }) (hd : T.at t = some d) (hk : d.k = .slice e) (hd2 : T.at e = some d2)
  (hx : ev env x = some (true, .slice a m0 m0)) (hm0 : m0 = xs.length) (hxs : RS (_i := _i) R k enc a xs) (hx0 : 0 < xs.length) (hks : d2.size = k) (hzl : d2.zero.length = k) (hk0 : 0 < k)
  (hy : ev env y = some (true, .slice b m c)) (hm : m = ys.length) (hys : RS (_i := _i) R k enc b ys) (hy0 : 0 < ys.length)
  (hbytes : (xs.length + ys.length) * d2.bytes ≤ 140737488355328) (hmax : xs.length + ys.length ≤ 9223372036854775807)
  (hK : ∀ (g cap' : Nat), K (.slice (some ⟨g, 0, none⟩) (xs ++ ys).length cap') R (.sl e k (some ⟨g, 0, none⟩) cap' ((xs ++ ys).map enc) :: E)) : Ef P n env w0 R E o K := by
 subst hm hm0
 intro ac w hkn hmm
 obtain ⟨inf, z, hi, hz, hzc, hsz, hby⟩ := hT.info hd2
 have hzs : z.cells.size = k := by rw [← hzl, ← hzc, Array.length_toList]
 have hxl := flatten_len hxs.1
 have hyl := flatten_len hys.1
 rw [List.length_map] at hxl hyl
 have hns : ∀ r ∈ (xs ++ ys).map enc, r.length = k := fun r hr => by
  rw [List.map_append] at hr
  rcases List.mem_append.1 hr with h | h
  ·exact hxs.1 r h
  ·exact hys.1 r h
 have hnz : ∀ {l : List α}, 0 < l.length → (l.map enc).flatten.length = l.length * k → (l.map enc).flatten ≠ [] := fun hl he h => by
  rw [h] at he
  have := Nat.mul_pos hl hk0
  simp at he; omega
 rcases RSl.all (E := E) hxs with h | ⟨ax, rfl, hrx⟩
 ·exact absurd h (hnz hx0 hxl)
 rcases RSl.all (E := E) hys with h | ⟨ay, rfl, hry⟩
 ·exact absurd h (hnz hy0 hyl)
 have hr := run_append_grow (P := P) w t o.type e inf z (hT.slice hd hk) hi hz ax xs.length xs.length (xs.map enc).flatten (by rw [hxl, hsz, hks]) (hrx w0 w hmm) ay ys.length c (ys.map enc).flatten (by rw [hyl, hsz, hks]) (hry w0 w hmm) (by omega) (by omega) (by rw [hby]; exact growslice_fits (by omega) hbytes)
 have hcm := grownCap_le_maxLen w (xs.length + ys.length) xs.length e (by simp only [maxLen]; omega)
 have hge := grownCap_ge w (xs.length + ys.length) xs.length e
 have hnew : Mem w0 (w.drew.alloc (.cells ((xs.map enc).flatten.toArray ++ (ys.map enc).flatten.toArray ++ Builtin.zeroCells z.cells (grownCap w (xs.length + ys.length) xs.length e - (xs.length + ys.length))) e)) R (.sl e k (some ⟨w.heap.size, 0, none⟩) (grownCap w (xs.length + ys.length) xs.length e) ((xs ++ ys).map enc) :: E) := by
  refine hmm.new ⟨rfl, rfl, rfl, by simp, fun j hj _ => heap_alloc_old w.drew _ hj⟩ (ok_sl hns hk0 hmm.below.size (heap_alloc_new w.drew _) (by simpa using hge) hcm ?_ ?_) (fun b hb => by simp [Ent.block] at hb; omega)
  ·simp only [Array.size_append, List.size_toArray, size_zeroCells, hzs, hxl, hyl, ← Nat.add_mul]
   congr 1; omega
  ·simp only [Array.toList_append, List.append_assoc, List.flatten_append, List.length_append, List.map_append, List.length_map]
   rw [← List.append_assoc]
   exact List.take_left' (by rw [List.length_append, hxl, hyl, Nat.add_mul])
 have hKK := hK w.heap.size (grownCap w (xs.length + ys.length) xs.length e)
 rw [List.length_append] at hKK
 refine ⟨_, _, R, _, .inl ?_, hnew, hKK⟩
 unfold execOp
 simp only [ho, resolve, invoke, builtin, Sem.run_bind, Sem.run_pure, Result.andThen_ok, List.map_toArray, List.map_cons, List.map_nil, hkn.ev hx rfl, hkn.ev hy rfl, hr]
end
end Go.Proofs.YthpblaoehlgpfaaGreat.K

/- Chapter 21: the curve, its parts. No condition. -/
set_option maxRecDepth 4000
set_option linter.unusedSimpArgs false
set_option linter.unusedVariables false
namespace Go.Proofs.YthpblaoehlgpfaaGreat
open Go Go.RowKit Go.Proofs.YthpblaoehlgpfaaGreat.K Go.Proofs.YthpblaoehlgpfaaGreat.M

theorem CurveTL_V {R : Ro} {b4 b12 : Nat} {cap lost : Int} {t : Nat} (h4 : R b4 = some [.int .i64 cap]) (h12 : R b12 = some [.int .i64 lost]) (hc : 0 ≤ cap ∧ cap ≤ 4000) (hl : 0 ≤ lost ∧ lost ≤ 1500) (ht : t ≤ 10000) : FnV Tryz.prog 245 [.int .i64 (t : Int), .pointer (some ⟨b4, 0, none⟩), .pointer (some ⟨b12, 0, none⟩)] R (.int .i64 (lineF cap lost t)) := by
 refine Fn.toV (fun w0 E => ?_)
 have hm := mulB (a := cap) (b := (t : Int)) (A := 4000) (B := 10000) (by omega) (by omega)
 have hv : (if (0 : Int) < cap * t - lost then cap * t - lost else 0) = lineF cap lost t := by unfold lineF; split <;> omega
 refine fE 11 Tryz.func245 ?_
 refine zQ (zG (zR 1 rfl (zN (zU (zQ (zG ?_))))))
 refine' WG.y rfl rfl qD (Yl.load1 tab_ok rfl rfl rfl (fun _ => rfl) ?r1 rfl ?h1) ?_
 case r1 => exact Rd.ro h4
 case h1 => rfl
 refine zR 1 rfl ?_
 refine WG.y rfl rfl qD (Yl.mul rfl rfl rfl (fun _ => rfl) qA) ?_
 refine' WG.y rfl rfl qD (Yl.load1 tab_ok rfl rfl rfl (fun _ => rfl) ?r2 rfl ?h2) ?_
 case r2 => exact Rd.ro h12
 case h2 => rfl
 refine yS ?_
 refine zR 2 rfl (zN (zU (zT ?_)))
 refine sE (E := E) ?_
 refine WE.retF tab_ok [_] rfl ⟨rfl, trivial⟩ (RLe.refl _) ?_
 exact ⟨by rw [← hv]; rfl, rfl⟩

theorem CurveTG_V {R : Ro} {b19 : Nat} {a : Option Addr} {c : Nat} {xs : List Int} {t : Nat} (h19 : R b19 = some [.slice a xs.length c]) (hx : RS R 1 encI a xs) (ht : t < xs.length) : FnV Tryz.prog 246 [.int .i64 (t : Int), .pointer (some ⟨b19, 0, none⟩)] R (.int .i64 (nth xs t)) := by
 refine Fn.toV (fun w0 E => ?_)
 have hla := hx.len
 refine fE 8 Tryz.func246 ?_
 refine zQ (zG (zR 1 rfl (zN (zU (zQ (zG ?_))))))
 refine' WG.y rfl rfl qD (Yl.load1 tab_ok rfl rfl rfl (fun _ => rfl) ?r1 rfl ?h1) ?_
 case r1 => exact Rd.ro h19
 case h1 => rfl
 refine zR 1 rfl ?_
 refine WG.y rfl rfl qD (Yl.indexN tab_ok rfl rfl rfl rfl rfl rfl (fun _ => rfl) qN qH) ?_
 refine yR ?_
 refine zR 1 rfl (zN (zU (zT ?_)))
 refine sE (E := E) ?_
 refine WE.retF tab_ok [_] rfl ⟨rfl, trivial⟩ (RLe.refl _) ?_
 exact ⟨rfl, rfl⟩



set_option maxHeartbeats 1000000 in
theorem CurveT_C {R : Ro} {wa za : Option Addr} {wc zc : Nat} {tb : List Int} {z : List Sz} (hwr : RS R 1 encI wa tb) (hzr : RS R 2 encZ za z) {cap cls : Int} (hwc : tb.length ≤ wc) (w0 : World) (E : List Ent) : K.Fn Tryz.prog 240 [.int .i64 cap, .int .i64 cls, .slice wa tb.length wc, .slice za z.length zc] w0 R E (fun r R' E' => ∃ (f : Option Addr) (fc : Nat), r = cvV f fc (slotC cap cls tb z) ∧ RS R' 1 encI f (slotC cap cls tb z).1.vals ∧ E.Sublist E') := by
 have hla := hzr.len
 have hlw := hwr.len
 refine fE 168 Tryz.func240 ?_
 refine zQ (zG ?_)
 refine zO fun b4 => ?_
 refine zA fun b8 => ?_
 refine zR 1 rfl (zN (zU (zQ (zQ (zG ?_)))))
 refine yL (Rd.blk 1 rfl) ?_
 refine zR 3 rfl ?_
 refine WG.callV en242 rfl rfl qD (CallOp.mk' rfl rfl rfl rfl) (fun _ => rfl) (fun hg => CheckT_V hwr hzr) ?_
 refine zR 1 rfl (zN (zU (zQ (zG (zR 2 rfl (zN (zU ?_)))))))
 refine W.condN rfl (fun hc0 => ?_) (fun hc0 => ?_)
 ·try dsimp only at hc0
  have hd : slotC cap cls tb z = (zcv, chkT cap cls tb z) := if_pos hc0
  refine zQ (zG ?_)
  -- build
  refine WG.y rfl rfl qD (Yl.build (parts := []) tab_ok rfl rfl rfl rfl (fun _ => rfl) rfl rfl) ?_
  refine zR 1 rfl ?_
  refine zE 0 ?_
  refine zR 1 rfl (zN (zU (zT (wt ?_))))
  refine WE.retF tab_ok [_, _] rfl ⟨⟨_, _, _, rfl, rfl, rfl, qB, rfl⟩, rfl, trivial⟩ ((by first | exact RLe.refl _ | exact hRa.trans (hRb.trans hR4) | exact hR1.trans (hR2.trans (hRc.trans hR4)))) ?_
  exact ⟨none, 0, by rw [hd]; rfl, by rw [hd]; exact rs_nil, qS⟩
 ·try dsimp only at hc0
  obtain ⟨c1, c2, k1, k2, zl, ⟨t1, t2, htb⟩, hz⟩ := chkT_ok hc0
  have hck : cls.toNat < z.length := by omega
  have hzk := hz _ (nth_mem hck)
  refine zK (zU (zQ ?_))
  refine W.regionH _ (ES := []) mixed ?_
  refine tP 0 ?_
  refine tP 1 ?_
  refine tP 2 ?_
  refine WA.take 3 rfl qK qK qK rfl rfl qD (Yl.index tab_ok rfl rfl rfl rfl rfl rfl (fun _ => rfl) qA qH) qS qR ?_
  refine tP 4 ?_
  refine' WA.take 5 rfl qK qK qK rfl rfl qD (Yl.load1 tab_ok rfl rfl rfl (fun _ => rfl) ?r2 rfl ?h2) qS qR ?_
  case r2 => apply Rd.add; ((apply RS.rdD; assumption; ((try dsimp only) <;> omega)))
  case h2 => rfl
  refine tS 6 ?_
  refine tP 7 ?_
  refine WA.eff 8 rfl qK rfl rfl qD (Ef.alloc tab_ok rfl rfl (fun b12 => ?_))
  refine ⟨qR, qS, ?_⟩
  refine tP 9 ?_
  refine zCE 10 0 ?_
  refine WA.done qK ?_
  refine zU ?_
  have hlo : (if (0 : Int) < (nth z cls.toNat).most - 1 then (nth z cls.toNat).most - 1 else 0) = max 0 ((nth z cls.toNat).most - 1) := by split <;> omega
  rw [hlo]
  generalize hlos : max 0 ((nth z cls.toNat).most - 1) = lost
  have hlb : 0 ≤ lost ∧ lost ≤ 1500 := by omega
  refine zQ (zG (zR 1 rfl (zN (zU (zQ (zQ (zG (zR 3 rfl (zN (zU (zB ?_)))))))))))
  refine W.loopK (β := Nat) (fun k => k ≤ tb.length) (fun k => [(13, true, .bool (someN tb cls k)), (45, true, .int .i64 (k : Int))]) [1, 3, 4, 8, 11, 12, 44] [_, _, _, _, _, _, _] [] _ rfl (fun k => []) (fun k => tb.length - k) (0) (Nat.zero_le _) ⟨rfl, rfl, rfl, rfl, rfl, rfl, rfl, rfl, rfl, rfl⟩ qS ?_
  intro k hst
  dsimp only [zipE, setAll, List.cons_append, List.nil_append, List.set_cons_zero, List.set_cons_succ] at hst ⊢
  
  refine zQ (zG (zR 1 rfl (zN (zU (zQ ?_)))))
  refine W.condD rfl (fun hc1 => ?_) (fun hc1 => ?_)
  ·try dsimp only at hc1
   have hkl : k < tb.length := by omega
   refine zK (zU (zQ (zB (zQ (zG (zR 2 rfl (zN (zU (zG (zR 2 rfl ?_))))))))))
   refine yP ?_
   refine yP ?_
   refine yP ?_
   refine WG.callV en243 rfl rfl qD (CallOp.mk' rfl rfl rfl rfl) qE (fun hg => MineT_V hwr qO k1 qO) ?_
   refine yO ?_
   refine zR 1 rfl (zN (zL (zU (zG ?_))))
   refine yA ?_
   refine zR 1 rfl (zN ?_)
   refine WE.again (k + 1) qO (by (try dsimp only); omega) ⟨rfl, rfl, rfl, rfl, rfl, rfl, rfl, rfl, rfl, rfl⟩ (RLe.refl _) qS
  ·try dsimp only at hc1
   obtain rfl : k = tb.length := by omega
   rw [someN_all]
   refine zX ?_
   refine wx (wx (zY (zU (zQ (zQ (zG (zR 3 rfl ?_)))))))
   refine yP ?_
   refine yP ?_
   refine WG.y rfl rfl (by decide) (Yl.index tab_ok rfl rfl rfl rfl rfl rfl qE (by intro hg; (try simp only [zk] at hg); constructor <;> (try dsimp only) <;> omega) (by intro hg; (try simp only [zk] at hg); first | exact qI)) ?_
   refine yP ?_
   refine' WG.y rfl rfl qD (Yl.loadG tab_ok rfl rfl rfl qE ?r3 rfl ?h3 ?g3) ?_
   case r3 => apply Rd.addC; ((apply RS.rdC; assumption))
   case h3 => rfl
   case g3 => (intro hg; (try simp only [zk] at hg); (try dsimp only); omega)
   refine yP ?_
   refine yO ?_
   refine zN (zU ?_)
   refine W.cond rfl (fun hc2 => ?_) (fun hc2 => ?_)
   ·try simp only [zk] at hc2
    have hd : slotC cap cls tb z = (zcv, 5) := by unfold slotC; rw [if_neg (fun h => h hc0), if_pos hc2]
    refine zQ (zG ?_)
    -- build
    refine WG.y rfl rfl qD (Yl.build (parts := []) tab_ok rfl rfl rfl rfl (fun _ => rfl) rfl rfl) ?_
    refine zE 1 ?_
    refine zR 1 rfl (zN (zU (zT (wt ?_))))
    refine WE.retF tab_ok [_, _] rfl ⟨⟨_, _, _, rfl, rfl, rfl, qB, rfl⟩, rfl, trivial⟩ ((by first | exact RLe.refl _ | exact hRa.trans (hRb.trans hR4) | exact hR1.trans (hR2.trans (hRc.trans hR4)))) ?_
    exact ⟨none, 0, by rw [hd]; rfl, by rw [hd]; exact rs_nil, qS⟩
   ·try simp only [zk] at hc2
    have hc2n : ¬ (someT cls tb = false ∨ (nth z cls.toNat).most < 1) := by
     rintro (h | h)
     ·simp_all
     ·omega
    have hmo : 1 ≤ (nth z cls.toNat).most := by omega
    have hlm : (nth z cls.toNat).most - 1 = lost := by omega
    refine zK (zU (zQ (zQ (zG (zR 2 rfl ?_)))))
    refine WG.callV en244 rfl rfl qD (CallOp.mk' rfl rfl rfl rfl) (fun _ => rfl) (fun hg => AheadT_V (t := 0) hwr qO qO) ?_
    refine zR 5 rfl (zN (zU (zQ (zG (zR 2 rfl (zN (zU ?_)))))))
    refine W.cond rfl (fun hc3 => ?_) (fun hc3 => ?_)
    ·try simp only [zk] at hc3
     have hall := (aheadV_all k1).1 hc3
     have hd : slotC cap cls tb z = mbuild (lineF cap lost) (lost / cap + 1).toNat 1 cap := by rw [line_build ⟨by omega, by omega⟩ ⟨by omega, by omega⟩]; unfold slotC; rw [if_neg (fun h => h hc0), if_neg hc2n, if_pos hall, hlm]
     obtain ⟨q1, q2, q3⟩ := lost_quo (cap := cap) (lost := lost) (by omega) (by omega)
     have hFb : ∀ t : Nat, t ≤ 10000 → 0 ≤ lineF cap lost t ∧ lineF cap lost t ≤ 40000000 := fun t ht => by
      have h1 := lineF_bound (cap := cap) (lost := lost) (by omega) (by omega) t
      have h2 := mulB (a := cap) (b := (t : Int)) (A := 4000) (B := 10000) (by omega) (by omega)
      omega
     refine W.freezeBlk 0 rfl ?_
     intro Ra hRa h12
     refine W.freezeBlk 1 rfl ?_
     intro Rb hRb h4
     have h12 := hRb _ _ h12
     
     refine zQ (zG (zR 2 rfl (zN (zU (zQ ?_)))))
     refine W.regionH _ (ES := []) mixed ?_
     refine tP 0 ?_
     refine' WA.take 1 rfl qK qK qK rfl rfl qD (Yl.load1 tab_ok rfl rfl rfl (fun _ => rfl) ?r4 rfl ?h4) qS qR ?_
     case r4 => (exact Rd.ro qU)
     case h4 => rfl
     refine' WA.take 2 rfl qK qK qK rfl rfl qD (Yl.load1 tab_ok rfl rfl rfl (fun _ => rfl) ?r5 rfl ?h5) qS qR ?_
     case r5 => (exact Rd.ro qU)
     case h5 => rfl
     refine WA.take 3 rfl qK qK qK rfl rfl qD (Yl.quo rfl rfl rfl (fun _ => rfl) qA (by intro _; omega)) qS qR ?_
     refine tA 4 ?_
     refine' WA.take 5 rfl qK qK qK rfl rfl qD (Yl.load1 tab_ok rfl rfl rfl (fun _ => rfl) ?r6 rfl ?h6) qS qR ?_
     case r6 => (exact Rd.ro qU)
     case h6 => rfl
     refine WA.callG 6 rfl qK en82 rfl (by first | rfl | decide) rfl qD (CallOp.mkT rfl rfl rfl rfl) (by
      rw [← Int.toNat_of_nonneg (show 0 ≤ lost / cap + 1 by omega)]
      exact Build_C (S := (lost / cap + 1).toNat) (P := 1) (I := cap) (F := lineF cap lost) (g := 245) (fi := #[]) (ca := #[.pointer (some ⟨b4, 0, none⟩), .pointer (some ⟨b12, 0, none⟩)]) en245 qO qO qO (fun t ht => .inr (by have := hFb t qO; omega)) (fun t ht => CurveTL_V h4 h12 qO qO qO) w0 _) ?_
     rintro _ R4 E4 hR4 ⟨f, fc, rfl, hf, hsub⟩
     refine ⟨hR4, List.nil_sublist _, ?_⟩
     refine WA.subE hsub ?_
     rw [← hd] at hf ⊢
     unfold cvV
     refine tP 7 ?_
     refine tP 8 ?_
     refine zCE 9 0 ?_
     refine tP 10 ?_
     refine WA.done qK ?_
     refine zU (zT (wt ?_))
     refine WE.retF tab_ok [_, _] rfl ⟨⟨_, _, _, rfl, rfl, rfl, qB, rfl⟩, rfl, trivial⟩ ((by first | exact RLe.refl _ | exact hRa.trans (hRb.trans hR4) | exact hR1.trans (hR2.trans (hRc.trans hR4)))) ?_
     exact ⟨f, fc, rfl, hf, qS⟩
    ·try simp only [zk] at hc3
     have hna : ¬ allT cls tb = true := fun h => by rw [(aheadV_all k1).2 h] at hc3; simp at hc3
     refine zK (zU (zQ (zG (zR 3 rfl (zN (zU (zQ (zG (zR 1 rfl ?_)))))))))
     refine WG.y rfl rfl qD (Yl.mul rfl rfl rfl (fun _ => rfl) qA) ?_
     refine WL.ef rfl rfl qD (Ef.makeSliceD (enc := encI) 0 tab_ok rfl rfl rfl rfl rfl rfl qX qX qX qX qD rfl rfl (fun a89 => ?_))
     refine zA fun b19 => ?_
     refine zE 0 ?_
     refine zN (zU (zQ ?_))
     have e3 : (3 * (tb.length : Int)).toNat = 3 * tb.length := by omega
     rw [e3, ← fillL_zero]
     refine zQ (zG ?_)
     refine yL (Rd.blk 0 rfl) ?_
     refine zR 2 rfl (zN (zU (zB ?_)))
     refine W.loopK (β := Nat) (fun k => k ≤ 3 * tb.length) (fun k => [(92, true, .int .i64 (k : Int))]) [1, 4, 8, 11, 12, 18, 19, 91] [_, _, _, _, _, _, _, _] [] _ rfl (fun k => [(1, .sl 3 1 (some ⟨a89, 0, none⟩) (3 * tb.length) ((fillL (3 * tb.length) k).map encI))]) (fun k => 3 * tb.length - k) (0) (Nat.zero_le _) ⟨rfl, rfl, rfl, rfl, rfl, rfl, rfl, rfl, rfl, rfl⟩ qS ?_
     intro k hst
     dsimp only [zipE, setAll, List.cons_append, List.nil_append, List.set_cons_zero, List.set_cons_succ] at hst ⊢
     
     refine zQ (zG (zR 1 rfl (zN (zU (zQ ?_)))))
     refine W.condD rfl (fun hc4 => ?_) (fun hc4 => ?_)
     ·try dsimp only at hc4
      have hkm : k < 3 * tb.length := by omega
      have hlf := fillL_len (3 * tb.length) k
      refine zK (zU (zQ (zB (zQ (zG (zR 2 rfl (zN (zU (zG ?_)))))))))
      refine yL (Rd.blk 0 rfl) ?_
      refine zR 1 rfl ?_
      refine WG.y rfl rfl qD (Yl.indexN tab_ok rfl rfl rfl rfl rfl rfl (fun _ => rfl) qN qH) ?_
      refine WL.efN rfl rfl (Ef.storeD _ 1 tab_ok rfl rfl rfl rfl rfl qX rfl rfl rfl rfl ?_)
      refine zN (zL (zU (zG ?_)))
      refine yA ?_
      refine zR 1 rfl (zN ?_)
      refine WE.again (k + 1) (by omega) (by (try dsimp only); omega) ⟨rfl, rfl, rfl, rfl, rfl, rfl, rfl, rfl, rfl, rfl⟩ (RLe.refl _) (by dsimp only [setAll, List.set_cons_zero, List.set_cons_succ]; rw [← fillL_set hkm]; exact List.Sublist.refl _)
     ·try dsimp only at hc4
      obtain rfl : k = 3 * tb.length := by omega
      refine zX ?_
      refine wx (wx (zY (zU (zQ (zG (zR 3 rfl ?_))))))
      refine WG.y rfl rfl qD (Yl.sliceHM tab_ok rfl rfl rfl rfl rfl rfl (fun _ => rfl) (by intro _; omega) rfl) ?_
      refine zR 1 rfl ?_
      refine WL.ef rfl rfl qD (Ef.appendF (enc := encI) tab_ok rfl rfl rfl rfl rfl (Int.toNat_natCast _) hwr qO rfl rfl qD rfl rfl hwr qO (by (try dsimp only); omega) qO (fun a104 c104 => ?_))
      refine zR 1 rfl ?_
      refine WL.ef rfl rfl (by decide) (Ef.appendR (enc := encI) 0 tab_ok rfl rfl rfl rfl rfl rfl rfl rfl rfl rfl hwr (fun _ _ => rfl) (by simp only [List.length_append]; omega) (by simp only [List.length_append]; omega) (fun a106 c106 ha106 => ?_))
      refine zR 1 rfl ?_
      refine WL.ef rfl rfl (by decide) (Ef.appendR (enc := encI) 0 tab_ok rfl rfl rfl rfl rfl rfl rfl rfl rfl rfl hwr (fun _ _ => rfl) (by simp only [List.length_append]; omega) (by simp only [List.length_append]; omega) (fun a108 c108 ha108 => ?_))
      refine zR 1 rfl (zN (zU (zQ ?_)))
      rw [show tb ++ tb ++ tb ++ tb = longT tb from rfl, fillL_all (fun a j => cntS cap lost (mineT tb cls) a j)]
      refine W.freeze (enc := encI) (xs := longT tb) 0 rfl ?_
      intro R1 hR1 hlg
      have hwr := hwr.mono hR1
      have hll := longT_len tb
      refine zQ (zG (zR 3 rfl (zN (zU (zB ?_)))))
      refine W.loopK (β := Nat) (fun f => f ≤ tb.length) (fun f => [(111, true, .int .i64 (f : Int))]) [1, 4, 8, 12, 18, 19, 21, 110] [_, _, _, _, _, _, _, _] [] _ rfl (fun f => [(1, .sl 3 1 (some ⟨a89, 0, none⟩) (3 * tb.length) ((tickL (fun a j => cntS cap lost (mineT tb cls) a j) (3 * tb.length) f 0).map encI))]) (fun f => tb.length - f) (0) (Nat.zero_le _) ⟨rfl, rfl, rfl, rfl, rfl, rfl, rfl, rfl, rfl, rfl⟩ qS ?_
      intro f hst
      dsimp only [zipE, setAll, List.cons_append, List.nil_append, List.set_cons_zero, List.set_cons_succ] at hst ⊢
      
      refine zQ (zG (zR 1 rfl (zN (zU (zQ ?_)))))
      refine W.condD rfl (fun hc5 => ?_) (fun hc5 => ?_)
      ·try dsimp only at hc5
       have hfl : f < tb.length := by omega
       refine zK (zU (zQ (zB (zQ (zG (zR 2 rfl (zN (zU (zQ (zG (zR 2 rfl (zN (zU (zQ (zG ?_)))))))))))))))
       refine yL (Rd.blk 0 rfl) ?_
       refine zR 2 rfl (zN (zU (zB ?_)))
       refine W.loopK (β := Nat) (fun k => k ≤ 3 * tb.length) (fun k => [(23, true, .int .i64 (slotS cap lost (mineT tb cls) f k).1), (24, true, .int .i64 (slotS cap lost (mineT tb cls) f k).2), (116, true, .int .i64 (k : Int))]) [1, 4, 8, 12, 18, 19, 21, 22, 110, 111, 115] [_, _, _, _, _, _, _, _, _, _, _] [] _ rfl (fun k => [(1, .sl 3 1 (some ⟨a89, 0, none⟩) (3 * tb.length) ((tickL (fun a j => cntS cap lost (mineT tb cls) a j) (3 * tb.length) f k).map encI))]) (fun k => 3 * tb.length - k) (0) (Nat.zero_le _) ⟨rfl, rfl, rfl, rfl, rfl, rfl, rfl, rfl, rfl, rfl, rfl, rfl, rfl, rfl, rfl⟩ qS ?_
       intro k hst
       dsimp only [zipE, setAll, List.cons_append, List.nil_append, List.set_cons_zero, List.set_cons_succ] at hst ⊢
       
       refine zQ (zG (zR 1 rfl (zN (zU (zQ ?_)))))
       refine W.condD rfl (fun hc6 => ?_) (fun hc6 => ?_)
       ·try dsimp only at hc6
        have hkm : k < 3 * tb.length := by omega
        obtain ⟨s1, s2, s3⟩ := slotS_nonneg (cap := cap) (lost := lost) (mine := mineT tb cls) (a := f) (by omega) k
        rw [show max 0 (-lost) = 0 by omega, Int.zero_mul] at s3
        have s4 := mulB (a := cap) (b := (k : Int)) (A := 4000) (B := 120) (by omega) (by omega)
        have htk := tickL_bound (C := (fun a j => cntS cap lost (mineT tb cls) a j)) (m := 3 * tb.length) (f := f) (k := k) (fun a j => (cntS_bound (by omega) (by omega) j).1) hkm
        have hlt := tickL_len (fun a j => cntS cap lost (mineT tb cls) a j) (3 * tb.length) f k
        have hfk : (f : Int) + (k : Int) = ((f + k : Nat) : Int) := rfl
        refine zK (zU (zQ (zB (zQ (zG (zR 2 rfl (zN (zU (zQ ?_)))))))))
        refine W.regionH _ (ES := [.blk b19 [.slice (some ⟨a89, 0, none⟩) (3 * tb.length) (3 * tb.length)], .blk b12 [.int .i64 lost]]) mixed ?_
        refine tL 0 (Rd.blk 0 rfl) ?_
        refine tP 1 ?_
        refine tL 2 (Rd.blk 0 rfl) ?_
        refine tP 3 ?_
        refine WA.take 4 rfl qK qK qK rfl rfl qD (Yl.indexN tab_ok rfl rfl rfl rfl rfl rfl (fun _ => rfl) qN qH) qS qR ?_
        refine tP 6 ?_
        refine tP 7 ?_
        refine tL 8 (Rd.blk 1 rfl) ?_
        refine tS 9 ?_
        refine tP 10 ?_
        refine tA 11 ?_
        refine' WA.yl 5 rfl qK rfl rfl qD (Yl.load1 tab_ok rfl rfl rfl (fun _ => rfl) ?r13 rfl ?h13) qS qR ?_
        case r13 => (exact Rd.slD 1 rfl qX)
        case h13 => rfl
        refine tP 12 ?_
        refine WA.take 13 rfl qK qK qK rfl rfl qD (Yl.indexN tab_ok rfl rfl rfl rfl rfl rfl (fun _ => rfl) qN qH) qS qR ?_
        refine WA.effN 14 rfl qK rfl rfl (Ef.storeD _ 1 tab_ok rfl rfl rfl rfl rfl qX rfl rfl rfl rfl ?_)
        refine ⟨qR, qS, ?_⟩
        refine WA.done qK ?_
        refine zU (zQ (zQ (zG (zR 3 rfl ?_))))
        refine yA ?_
        rw [hfk]
        refine WG.y rfl rfl qD (Yl.indexN tab_ok rfl rfl rfl rfl rfl rfl (fun _ => rfl) qN qH) ?_
        refine yR ?_
        refine zR 2 rfl (zN (zU ?_))
        refine W.condE rfl (fun hc7 => ?_) (fun hc7 => ?_)
        ·try dsimp only at hc7
         rw [longT_nth (by omega)] at hc7
         have hm : mineT tb cls (f + k) = true := by unfold mineT; rw [hc7]; simp
         have hS : slotS cap lost (mineT tb cls) f (k + 1) = ((slotS cap lost (mineT tb cls) f k).1, (slotS cap lost (mineT tb cls) f k).2 + cap) := by rw [slotS, if_pos hm]
         refine zQ (zG (zR 1 rfl ?_))
         refine yL (Rd.blk 4 rfl) ?_
         refine yA ?_
         refine zR 1 rfl (zN (zU ?_))
         refine zX ?_
         refine wx (zY (zU (zG ?_)))
         refine yA ?_
         refine zR 1 rfl (zN ?_)
         refine WE.again (k + 1) (by omega) (by (try dsimp only); omega) ⟨vint (by rw [hS] <;> (dsimp only; (repeat' split) <;> omega)), vint (by rw [hS] <;> (dsimp only; (repeat' split) <;> omega)), rfl, rfl, rfl, rfl, rfl, rfl, rfl, rfl, rfl, rfl, rfl, rfl, rfl⟩ (RLe.refl _) (by dsimp only [setAll, List.set_cons_zero, List.set_cons_succ]; rw [tickL_set (C := (fun a j => cntS cap lost (mineT tb cls) a j)) hkm] <;> first | exact List.Sublist.refl _ | (dsimp only [cntS]; (repeat' split) <;> omega))
        ·try dsimp only at hc7
         rw [longT_nth (by omega)] at hc7
         have hm : ¬ mineT tb cls (f + k) = true := by unfold mineT; simpa using hc7
         have hS : slotS cap lost (mineT tb cls) f (k + 1) = ((slotS cap lost (mineT tb cls) f k).1 + max 0 ((slotS cap lost (mineT tb cls) f k).2 - lost), 0) := by rw [slotS, if_neg hm]
         refine zK (zU (zG (zR 2 rfl ?_)))
         refine yL (Rd.blk 2 rfl) ?_
         refine yS ?_
         refine zR 1 rfl ?_
         refine yA ?_
         refine zR 2 rfl (zN (zL (zU (zG ?_))))
         refine yA ?_
         refine zR 1 rfl (zN ?_)
         refine WE.again (k + 1) (by omega) (by (try dsimp only); omega) ⟨vint (by rw [hS] <;> (dsimp only; (repeat' split) <;> omega)), vint (by rw [hS] <;> (dsimp only; (repeat' split) <;> omega)), rfl, rfl, rfl, rfl, rfl, rfl, rfl, rfl, rfl, rfl, rfl, rfl, rfl⟩ (RLe.refl _) (by dsimp only [setAll, List.set_cons_zero, List.set_cons_succ]; rw [tickL_set (C := (fun a j => cntS cap lost (mineT tb cls) a j)) hkm] <;> first | exact List.Sublist.refl _ | (dsimp only [cntS]; (repeat' split) <;> omega))
       ·try dsimp only at hc6
        obtain rfl : k = 3 * tb.length := by omega
        rw [tickL_next]
        refine zX ?_
        refine wx (wx (zY (zL (zU (zG ?_)))))
        refine yA ?_
        refine zR 1 rfl (zN ?_)
        refine WE.again (f + 1) qO (by (try dsimp only); omega) ⟨rfl, rfl, rfl, rfl, rfl, rfl, rfl, rfl, rfl, rfl⟩ (RLe.refl _) qS
      ·try dsimp only at hc5
       obtain rfl : f = tb.length := by omega
       refine zX ?_
       refine wx (wx (zY (zU ?_)))
       obtain ⟨b, _, hbm⟩ := allT_not hna
       obtain ⟨g1, g2, g3, g4⟩ := slot_build (cap := cap) (lost := lost) (mine := mineT tb cls) (n := tb.length) (by omega) (by omega) (fun i => mineT_per i) (by omega) hbm
       have hd : slotC cap cls tb z = mbuild (slotF cap lost (mineT tb cls) tb.length) tb.length tb.length ((slotF cap lost (mineT tb cls) tb.length) (2 * tb.length) - (slotF cap lost (mineT tb cls) tb.length) tb.length) := by rw [g4]; unfold slotC; rw [if_neg (fun h => h hc0), if_neg hc2n, if_neg hna, hlm]
       have hFb : ∀ t : Nat, t ≤ 10000 → 0 ≤ (slotF cap lost (mineT tb cls) tb.length) t ∧ (slotF cap lost (mineT tb cls) tb.length) t ≤ 40000000 := fun t ht => by
        have h1 := slotF_bound (cap := cap) (lost := lost) (mine := mineT tb cls) (n := tb.length) (by omega) (by omega) (by omega) t
        have h2 := mulB (a := cap) (b := (t : Int)) (A := 4000) (B := 10000) (by omega) (by omega)
        omega
       rw [tickL_end (C := (fun a j => cntS cap lost (mineT tb cls) a j)) (m := 3 * tb.length) (n := tb.length) (by omega) (fun j hj => by
        have h1 := (cntS_bound (cap := cap) (lost := lost) (mine := mineT tb cls) (a := 0) (by omega) (by omega) j).2
        have h2 := mulB (a := cap) (b := (j : Int)) (A := 4000) (B := 10000) (by omega) (by omega)
        omega)]
       refine W.freeze (enc := encI) (xs := fvals (slotF cap lost (mineT tb cls) tb.length) (3 * tb.length)) 1 rfl ?_
       intro R2 hR2 hls
       refine W.freezeBlk 0 rfl ?_
       intro Rc hRc h19
       have hls := hls.mono hRc
       have hfl3 := fvals_len (slotF cap lost (mineT tb cls) tb.length) (3 * tb.length)
       have h19' := h19
       rw [← hfl3] at h19'
       have eI : nth (fvals (slotF cap lost (mineT tb cls) tb.length) (3 * tb.length)) (2 * (tb.length : Int)).toNat - nth (fvals (slotF cap lost (mineT tb cls) tb.length) (3 * tb.length)) tb.length = (slotF cap lost (mineT tb cls) tb.length) (2 * tb.length) - (slotF cap lost (mineT tb cls) tb.length) tb.length := by
        rw [show (2 * (tb.length : Int)).toNat = 2 * tb.length by omega, fvals_nth _ (by omega), fvals_nth _ (by omega)]
       have hI1 := hFb (2 * tb.length) (by omega)
       have hI2 := hFb tb.length (by omega)
       have hF : ∀ t : Nat, t < tb.length + tb.length → FnV Tryz.prog 246 ((#[] : Array Value).toList ++ [.int .i64 (t : Int)] ++ (#[.pointer (some ⟨b19, 0, none⟩)] : Array Value).toList) Rc (.int .i64 ((slotF cap lost (mineT tb cls) tb.length) t)) := fun t ht => by
        have h := CurveTG_V h19' hls (t := t) (by omega)
        rw [fvals_nth _ (by omega)] at h
        exact h
       refine zQ ?_
       refine W.regionH _ (ES := []) mixed ?_
       refine WA.take 0 rfl qK qK qK rfl rfl qD (Yl.makeFunc (fi := []) (ca := [.tmp 19]) rfl rfl rfl (fun _ => rfl)) qS qR ?_
       refine tP 1 ?_
       refine tP 2 ?_
       refine' WA.take 3 rfl qK qK qK rfl rfl qD (Yl.load1 tab_ok rfl rfl rfl (fun _ => rfl) ?r17 rfl ?h17) qS qR ?_
       case r17 => (exact Rd.ro qU)
       case h17 => rfl
       refine tP 4 ?_
       refine WA.take 5 rfl qK qK qK rfl rfl qD (Yl.mul rfl rfl rfl (fun _ => rfl) qA) qS qR ?_
       refine WA.take 6 rfl qK qK qK rfl rfl qD (Yl.index tab_ok rfl rfl rfl rfl rfl rfl (fun _ => rfl) qA qH) qS qR ?_
       refine' WA.take 7 rfl qK qK qK rfl rfl qD (Yl.load1 tab_ok rfl rfl rfl (fun _ => rfl) ?r18 rfl ?h18) qS qR ?_
       case r18 => ((apply RS.rdD; assumption; ((try dsimp only) <;> omega)))
       case h18 => rfl
       refine' WA.take 8 rfl qK qK qK rfl rfl qD (Yl.load1 tab_ok rfl rfl rfl (fun _ => rfl) ?r19 rfl ?h19) qS qR ?_
       case r19 => (exact Rd.ro qU)
       case h19 => rfl
       refine tP 9 ?_
       refine WA.take 10 rfl qK qK qK rfl rfl qD (Yl.indexN tab_ok rfl rfl rfl rfl rfl rfl (fun _ => rfl) qN qH) qS qR ?_
       refine' WA.take 11 rfl qK qK qK rfl rfl qD (Yl.load1 tab_ok rfl rfl rfl (fun _ => rfl) ?r20 rfl ?h20) qS qR ?_
       case r20 => ((apply RS.rdD; assumption; ((try dsimp only) <;> omega)))
       case h20 => rfl
       refine tS 12 ?_
       refine WA.callG 13 rfl qK en82 rfl (by first | rfl | decide) rfl qD (CallOp.mkT rfl rfl rfl rfl) (by
        rw [eI]
        exact Build_C (S := tb.length) (P := tb.length) (I := (slotF cap lost (mineT tb cls) tb.length) (2 * tb.length) - (slotF cap lost (mineT tb cls) tb.length) tb.length) (F := (slotF cap lost (mineT tb cls) tb.length)) (g := 246) (fi := #[]) (ca := #[.pointer (some ⟨b19, 0, none⟩)]) en246 qO qO ⟨g3, by omega⟩ (fun t ht => .inr (by have := hFb t qO; omega)) hF w0 _) ?_
       rintro _ R4 E4 hR4 ⟨f, fc, rfl, hf, hsub⟩
       refine ⟨hR4, List.nil_sublist _, ?_⟩
       refine WA.subE hsub ?_
       rw [← hd] at hf ⊢
       unfold cvV
       refine tP 14 ?_
       refine tP 15 ?_
       refine zCE 16 1 ?_
       refine tP 17 ?_
       refine WA.done qK ?_
       refine zU (zT ?_)
       refine WE.retF tab_ok [_, _] rfl ⟨⟨_, _, _, rfl, rfl, rfl, qB, rfl⟩, rfl, trivial⟩ ((by first | exact RLe.refl _ | exact hRa.trans (hRb.trans hR4) | exact hR1.trans (hR2.trans (hRc.trans hR4)))) ?_
       exact ⟨f, fc, rfl, hf, qS⟩



theorem CurFifo_C {R : Ro} {aw at_ : Option Addr} {lw cw lt ct : Nat} {L : Ln} (hw : RS R 1 encI aw L.w) (hlw : L.w.length = lw) (ht : RS R 1 encI at_ L.tb) (hlt : L.tb.length = lt) {la : Option Addr} {lc ll : Nat} {ls : List CvS} (hla : RS R 3 encC la ls) (hll : ls.length = ll) (hlc : ll ≤ lc) (hls : ∀ x ∈ ls, RS R 1 encI x.a x.cv.vals ∧ x.cv.vals.length ≤ 100000) {za : Option Addr} {zc lz : Nat} {z : List Sz} (hzr : RS R 2 encZ za z) (hlz : z.length = lz) (hzc : lz ≤ zc) {cls : Int} (hc : 1 ≤ L.cap ∧ L.cap ≤ 4000) (hvl : ∀ x ∈ ls, validB x.cv = true) (w0 : World) (E : List Ent) : K.Fn Tryz.prog 185 [.agg #[], .agg #[.int .i64 L.kind, .int .i64 L.cap, .int .i64 L.n, .slice aw lw cw, .slice at_ lt ct], .int .i64 cls, .slice la ll lc, .slice za lz zc] w0 R E (fun r R' E' => ∃ (f : Option Addr) (fc : Nat), r = cvV f fc (fifoC L.cap (ls.map CvS.cv)) ∧ RS R' 1 encI f (fifoC L.cap (ls.map CvS.cv)).1.vals ∧ E.Sublist E') := by
 have eF : fifoC L.cap (ls.map CvS.cv) = if (allC L.cap (ls.map CvS.cv)).2 ≠ 0 then (zcv, (allC L.cap (ls.map CvS.cv)).2) else if (allC L.cap (ls.map CvS.cv)).1.1 = true then (zcv, 5) else waitC (allC L.cap (ls.map CvS.cv)).1.2.1 := rfl
 refine fE 32 Tryz.func185 ?_
 refine zQ (zG ?_)
 refine zO fun b5 => ?_
 refine zO fun b6 => ?_
 refine zA fun b10 => ?_
 refine zR 1 rfl (zN (zU (zQ (zG ?_))))
 refine yL (Rd.blk 1 rfl) ?_
 refine zR 1 rfl ?_
 refine WL.call en48 rfl rfl qD (CallOp.mkT rfl rfl rfl rfl) (AllSrv_C hw hlw ht hlt hla hll (fun x hx => ⟨(hls x hx).1, hvl x hx⟩) hc w0 _) ?_
 rintro _ R2 E2 hR2 ⟨rfl, hsub⟩
 refine WL.subE hsub ?_
 generalize allC L.cap (ls.map CvS.cv) = q at eF ⊢
 unfold devV
 refine zR 3 rfl ?_
 refine zA fun b12 => ?_
 refine zE 0 ?_
 refine zR 1 rfl (zN (zU (zQ (zQ (zG (zR 2 rfl (zN (zU ?_))))))))
 refine W.condN rfl (fun hc0 => ?_) (fun hc0 => ?_)
 ·try dsimp only at hc0
  rw [if_pos hc0] at eF
  refine zQ (zG ?_)
  -- build
  refine WG.y rfl rfl qD (Yl.build (parts := []) tab_ok rfl rfl rfl rfl (fun _ => rfl) rfl rfl) ?_
  refine zR 1 rfl ?_
  refine zE 1 ?_
  refine zR 1 rfl (zN (zU (zT (wt ?_))))
  refine WE.retF tab_ok [_, _] rfl ⟨⟨_, _, _, rfl, rfl, rfl, qB, rfl⟩, rfl, trivial⟩ (by first | exact hR2 | exact hR2.trans hR3) ?_
  rw [eF]
  exact ⟨none, 0, rfl, rs_nil, qS⟩
 ·try dsimp only at hc0
  rw [if_neg (fun h => h hc0)] at eF
  refine zK (zU (zQ (zQ (zG (zR 1 rfl ?_)))))
  refine yL (Rd.add (Rd.blk 0 rfl) _) ?_
  refine zN (zU ?_)
  refine W.cond rfl (fun hc1 => ?_) (fun hc1 => ?_)
  ·try simp only [zk] at hc1
   rw [if_pos hc1] at eF
   refine zQ (zG ?_)
   -- build
   refine WG.y rfl rfl qD (Yl.build (parts := []) tab_ok rfl rfl rfl rfl (fun _ => rfl) rfl rfl) ?_
   refine zE 1 ?_
   refine zR 1 rfl (zN (zU (zT (wt ?_))))
   refine WE.retF tab_ok [_, _] rfl ⟨⟨_, _, _, rfl, rfl, rfl, qB, rfl⟩, rfl, trivial⟩ (by first | exact hR2 | exact hR2.trans hR3) ?_
   rw [eF]
   exact ⟨none, 0, rfl, rs_nil, qS⟩
  ·try simp only [zk] at hc1
   rw [if_neg (by simp [hc1])] at eF
   refine zK (zU (zQ (zG (zR 1 rfl ?_))))
   refine yL (Rd.add (Rd.blk 0 rfl) _) ?_
   refine WL.call en188 rfl rfl qD (CallOp.mkT rfl rfl rfl rfl) (Wait_C (v := q.1.2.1) w0 _) ?_
   rintro _ R3 E3 hR3 ⟨f, fc, rfl, hf, hsub3⟩
   refine WL.subE hsub3 ?_
   rw [← eF] at hf ⊢
   unfold cvV
   refine zR 2 rfl ?_
   refine zE 1 ?_
   refine zR 1 rfl (zN (zU (zT ?_)))
   refine WE.retF tab_ok [_, _] rfl ⟨⟨_, _, _, rfl, rfl, rfl, qB, rfl⟩, rfl, trivial⟩ (by first | exact hR2 | exact hR2.trans hR3) ?_
   exact ⟨f, fc, rfl, hf, qS⟩

theorem CurRanks_C {R : Ro} {aw at_ : Option Addr} {lw cw lt ct : Nat} {L : Ln} (hw : RS R 1 encI aw L.w) (hlw : L.w.length = lw) (ht : RS R 1 encI at_ L.tb) (hlt : L.tb.length = lt) {la : Option Addr} {lc ll : Nat} {ls : List CvS} (hla : RS R 3 encC la ls) (hll : ls.length = ll) (hlc : ll ≤ lc) (hls : ∀ x ∈ ls, RS R 1 encI x.a x.cv.vals ∧ x.cv.vals.length ≤ 100000) {za : Option Addr} {zc lz : Nat} {z : List Sz} (hzr : RS R 2 encZ za z) (hlz : z.length = lz) (hzc : lz ≤ zc) {cls : Int} (htc : lt ≤ ct) (w0 : World) (E : List Ent) : K.Fn Tryz.prog 194 [.agg #[], .agg #[.int .i64 L.kind, .int .i64 L.cap, .int .i64 L.n, .slice aw lw cw, .slice at_ lt ct], .int .i64 cls, .slice la ll lc, .slice za lz zc] w0 R E (fun r R' E' => ∃ (f : Option Addr) (fc : Nat), r = cvV f fc (prioC L.cap cls (ls.map CvS.cv) z) ∧ RS R' 1 encI f (prioC L.cap cls (ls.map CvS.cv) z).1.vals ∧ E.Sublist E') := by
 subst hlw
 subst hlt
 subst hll
 subst hlz
 refine fE 20 Tryz.func194 ?_
 refine zQ (zG ?_)
 refine zO fun b5 => ?_
 refine zO fun b6 => ?_
 refine zA fun b10 => ?_
 refine zR 1 rfl (zN (zU (zQ (zG (zR 1 rfl ?_)))))
 refine yL (Rd.add (Rd.blk 1 rfl) _) ?_
 refine zR 3 rfl ?_
 refine WL.call en196 rfl rfl qD (CallOp.mkT rfl rfl rfl rfl) (PCurve_C hla hlc hls hzr hzc w0 _) ?_
 rintro _ R3 E3 hR3 ⟨f, fc, rfl, hf, hsub3⟩
 refine WL.subE hsub3 ?_
 unfold cvV
 refine zR 2 rfl ?_
 refine zE 0 ?_
 refine zR 1 rfl (zN (zU (zT ?_)))
 refine WE.retF tab_ok [_, _] rfl ⟨⟨_, _, _, rfl, rfl, rfl, qB, rfl⟩, rfl, trivial⟩ (hR3) ?_
 exact ⟨f, fc, rfl, hf, qS⟩

theorem CurRobin_C {R : Ro} {aw at_ : Option Addr} {lw cw lt ct : Nat} {L : Ln} (hw : RS R 1 encI aw L.w) (hlw : L.w.length = lw) (ht : RS R 1 encI at_ L.tb) (hlt : L.tb.length = lt) {la : Option Addr} {lc ll : Nat} {ls : List CvS} (hla : RS R 3 encC la ls) (hll : ls.length = ll) (hlc : ll ≤ lc) (hls : ∀ x ∈ ls, RS R 1 encI x.a x.cv.vals ∧ x.cv.vals.length ≤ 100000) {za : Option Addr} {zc lz : Nat} {z : List Sz} (hzr : RS R 2 encZ za z) (hlz : z.length = lz) (hzc : lz ≤ zc) {cls : Int} (htc : lt ≤ ct) (w0 : World) (E : List Ent) : K.Fn Tryz.prog 208 [.agg #[], .agg #[.int .i64 L.kind, .int .i64 L.cap, .int .i64 L.n, .slice aw lw cw, .slice at_ lt ct], .int .i64 cls, .slice la ll lc, .slice za lz zc] w0 R E (fun r R' E' => ∃ (f : Option Addr) (fc : Nat), r = cvV f fc (robinC L.cap cls L.w z) ∧ RS R' 1 encI f (robinC L.cap cls L.w z).1.vals ∧ E.Sublist E') := by
 subst hlw
 subst hlt
 subst hll
 subst hlz
 refine fE 21 Tryz.func208 ?_
 refine zQ (zG ?_)
 refine zO fun b5 => ?_
 refine zO fun b6 => ?_
 refine zA fun b10 => ?_
 refine zR 1 rfl (zN (zU (zQ (zG (zR 1 rfl ?_)))))
 refine yL (Rd.add (Rd.blk 1 rfl) _) ?_
 refine zR 2 rfl ?_
 refine yL (Rd.add (Rd.blk 1 rfl) _) ?_
 refine zR 1 rfl ?_
 refine WL.call en211 rfl rfl qD (CallOp.mkT rfl rfl rfl rfl) (CurveRob_C hw hzr w0 _) ?_
 rintro _ R3 E3 hR3 ⟨f, fc, rfl, hf, hsub3⟩
 refine WL.subE hsub3 ?_
 unfold cvV
 refine zR 2 rfl ?_
 refine zE 0 ?_
 refine zR 1 rfl (zN (zU (zT ?_)))
 refine WE.retF tab_ok [_, _] rfl ⟨⟨_, _, _, rfl, rfl, rfl, qB, rfl⟩, rfl, trivial⟩ (hR3) ?_
 exact ⟨f, fc, rfl, hf, qS⟩

theorem CurDef_C {R : Ro} {aw at_ : Option Addr} {lw cw lt ct : Nat} {L : Ln} (hw : RS R 1 encI aw L.w) (hlw : L.w.length = lw) (ht : RS R 1 encI at_ L.tb) (hlt : L.tb.length = lt) {la : Option Addr} {lc ll : Nat} {ls : List CvS} (hla : RS R 3 encC la ls) (hll : ls.length = ll) (hlc : ll ≤ lc) (hls : ∀ x ∈ ls, RS R 1 encI x.a x.cv.vals ∧ x.cv.vals.length ≤ 100000) {za : Option Addr} {zc lz : Nat} {z : List Sz} (hzr : RS R 2 encZ za z) (hlz : z.length = lz) (hzc : lz ≤ zc) {cls : Int} (htc : lt ≤ ct) (w0 : World) (E : List Ent) : K.Fn Tryz.prog 225 [.agg #[], .agg #[.int .i64 L.kind, .int .i64 L.cap, .int .i64 L.n, .slice aw lw cw, .slice at_ lt ct], .int .i64 cls, .slice la ll lc, .slice za lz zc] w0 R E (fun r R' E' => ∃ (f : Option Addr) (fc : Nat), r = cvV f fc (defC L.cap cls L.w z) ∧ RS R' 1 encI f (defC L.cap cls L.w z).1.vals ∧ E.Sublist E') := by
 subst hlw
 subst hlt
 subst hll
 subst hlz
 refine fE 21 Tryz.func225 ?_
 refine zQ (zG ?_)
 refine zO fun b5 => ?_
 refine zO fun b6 => ?_
 refine zA fun b10 => ?_
 refine zR 1 rfl (zN (zU (zQ (zG (zR 1 rfl ?_)))))
 refine yL (Rd.add (Rd.blk 1 rfl) _) ?_
 refine zR 2 rfl ?_
 refine yL (Rd.add (Rd.blk 1 rfl) _) ?_
 refine zR 1 rfl ?_
 refine WL.call en227 rfl rfl qD (CallOp.mkT rfl rfl rfl rfl) (CurveDef_C hw hzr w0 _) ?_
 rintro _ R3 E3 hR3 ⟨f, fc, rfl, hf, hsub3⟩
 refine WL.subE hsub3 ?_
 unfold cvV
 refine zR 2 rfl ?_
 refine zE 0 ?_
 refine zR 1 rfl (zN (zU (zT ?_)))
 refine WE.retF tab_ok [_, _] rfl ⟨⟨_, _, _, rfl, rfl, rfl, qB, rfl⟩, rfl, trivial⟩ (hR3) ?_
 exact ⟨f, fc, rfl, hf, qS⟩

theorem CurTimes_C {R : Ro} {aw at_ : Option Addr} {lw cw lt ct : Nat} {L : Ln} (hw : RS R 1 encI aw L.w) (hlw : L.w.length = lw) (ht : RS R 1 encI at_ L.tb) (hlt : L.tb.length = lt) {la : Option Addr} {lc ll : Nat} {ls : List CvS} (hla : RS R 3 encC la ls) (hll : ls.length = ll) (hlc : ll ≤ lc) (hls : ∀ x ∈ ls, RS R 1 encI x.a x.cv.vals ∧ x.cv.vals.length ≤ 100000) {za : Option Addr} {zc lz : Nat} {z : List Sz} (hzr : RS R 2 encZ za z) (hlz : z.length = lz) (hzc : lz ≤ zc) {cls : Int} (htc : lt ≤ ct) (w0 : World) (E : List Ent) : K.Fn Tryz.prog 238 [.agg #[], .agg #[.int .i64 L.kind, .int .i64 L.cap, .int .i64 L.n, .slice aw lw cw, .slice at_ lt ct], .int .i64 cls, .slice la ll lc, .slice za lz zc] w0 R E (fun r R' E' => ∃ (f : Option Addr) (fc : Nat), r = cvV f fc (slotC L.cap cls L.tb z) ∧ RS R' 1 encI f (slotC L.cap cls L.tb z).1.vals ∧ E.Sublist E') := by
 subst hlw
 subst hlt
 subst hll
 subst hlz
 refine fE 21 Tryz.func238 ?_
 refine zQ (zG ?_)
 refine zO fun b5 => ?_
 refine zO fun b6 => ?_
 refine zA fun b10 => ?_
 refine zR 1 rfl (zN (zU (zQ (zG (zR 1 rfl ?_)))))
 refine yL (Rd.add (Rd.blk 1 rfl) _) ?_
 refine zR 2 rfl ?_
 refine yL (Rd.add (Rd.blk 1 rfl) _) ?_
 refine zR 1 rfl ?_
 refine WL.call en240 rfl rfl qD (CallOp.mkT rfl rfl rfl rfl) (CurveT_C ht hzr htc w0 _) ?_
 rintro _ R3 E3 hR3 ⟨f, fc, rfl, hf, hsub3⟩
 refine WL.subE hsub3 ?_
 unfold cvV
 refine zR 2 rfl ?_
 refine zE 0 ?_
 refine zR 1 rfl (zN (zU (zT ?_)))
 refine WE.retF tab_ok [_, _] rfl ⟨⟨_, _, _, rfl, rfl, rfl, qB, rfl⟩, rfl, trivial⟩ (hR3) ?_
 exact ⟨f, fc, rfl, hf, qS⟩

theorem ArgSrv_V {R : Ro} {aw at_ : Option Addr} {lw cw lt ct : Nat} {L : Ln} (hw : RS R 1 encI aw L.w) (hlw : L.w.length = lw) (ht : RS R 1 encI at_ L.tb) (hlt : L.tb.length = lt) {la : Option Addr} {lc ll : Nat} {ls : List CvS} (hla : RS R 3 encC la ls) (hll : ls.length = ll) (hlc : ll ≤ lc) (hls : ∀ x ∈ ls, RS R 1 encI x.a x.cv.vals ∧ x.cv.vals.length ≤ 100000) {za : Option Addr} {zc lz : Nat} {z : List Sz} (hzr : RS R 2 encZ za z) (hlz : z.length = lz) (hzc : lz ≤ zc) {cls : Int} : FnV Tryz.prog 45 [.agg #[.int .i64 L.kind, .int .i64 L.cap, .int .i64 L.n, .slice aw lw cw, .slice at_ lt ct], .int .i64 cls, .slice la ll lc, .slice za lz zc] R (.int .i64 (argE L cls (ls.map CvS.cv) z)) := by
 subst hll
 subst hlz
 have hl1 := hla.len
 have hl2 := hzr.len
 refine Fn.toV (fun w0 E => ?_)
 refine fE 58 Tryz.func45 ?_
 refine zQ (zG ?_)
 refine zO fun b4 => ?_
 refine zR 1 rfl (zN (zU (zQ (zQ (zG ?_)))))
 refine yL (Rd.blk 0 rfl) ?_
 refine WG.callV en27 rfl rfl qD (CallOp.mk' rfl rfl rfl rfl) (fun _ => rfl) (fun hg => ChkSrv_V hw hlw ht hlt) ?_
 refine zR 1 rfl (zN (zU (zQ (zG (zR 2 rfl (zN (zU ?_)))))))
 refine W.condN rfl (fun hc0 => ?_) (fun hc0 => ?_)
 ·try dsimp only at hc0
  have e : argE L cls (ls.map CvS.cv) z = chkL L := if_pos hc0
  refine zQ (zG (zR 2 rfl (zN (zU (zT (wt ?_))))))
  refine sE (E := E) ?_
  refine WE.retF tab_ok [_] rfl ⟨rfl, trivial⟩ (RLe.refl _) ?_
  exact ⟨by rw [e]; rfl, rfl⟩
 ·try dsimp only at hc0
  have hn := (chk_facts hc0).2.2.2
  refine zK (zU (zQ (zQ (zG (zR 3 rfl ?_)))))
  refine yP ?_
  refine yP ?_
  refine yG (Rd.addC (Rd.blkC 0 rfl) _) ?_
  refine yP ?_
  refine yO ?_
  refine zR 1 rfl ?_
  refine yP ?_
  refine yP ?_
  refine yP ?_
  refine yG (Rd.addC (Rd.blkC 0 rfl) _) ?_
  refine yP ?_
  refine yO ?_
  refine zR 1 rfl ?_
  refine yP ?_
  refine yP ?_
  refine yP ?_
  refine yG (Rd.addC (Rd.blkC 0 rfl) _) ?_
  refine yP ?_
  refine yO ?_
  refine zN (zU ?_)
  refine W.cond rfl (fun hc1 => ?_) (fun hc1 => ?_)
  ·try simp only [zk] at hc1
   have e : argE L cls (ls.map CvS.cv) z = 2 := by unfold argE; rw [if_neg (fun h => h hc0), if_pos (by rw [List.length_map]; omega)]
   refine zQ (zG (zR 1 rfl (zN (zU (zT (wt ?_))))))
   refine sE (E := E) ?_
   refine WE.retF tab_ok [_] rfl ⟨rfl, trivial⟩ (RLe.refl _) ?_
   exact ⟨by rw [e]; rfl, rfl⟩
  ·try simp only [zk] at hc1
   refine zK (zU (zQ (zQ (zG (zR 1 rfl ?_)))))
   refine yL (Rd.add (Rd.blk 0 rfl) _) ?_
   refine zR 2 rfl ?_
   refine WG.callV en83 rfl rfl qD (CallOp.mk' rfl rfl rfl rfl) (fun _ => rfl) (fun hg => CheckP_V hzr) ?_
   refine zR 1 rfl (zN (zU (zQ (zG (zR 2 rfl (zN (zU ?_)))))))
   refine W.condN rfl (fun hc2 => ?_) (fun hc2 => ?_)
   ·try dsimp only at hc2
    have e : argE L cls (ls.map CvS.cv) z = chk18 L.cap cls z := by unfold argE; rw [if_neg (fun h => h hc0), if_neg (by rw [List.length_map]; omega), if_pos hc2]
    refine zQ (zG (zR 2 rfl (zN (zU (zT (wt ?_))))))
    refine sE (E := E) ?_
    refine WE.retF tab_ok [_] rfl ⟨rfl, trivial⟩ (RLe.refl _) ?_
    exact ⟨by rw [e]; rfl, rfl⟩
   ·try dsimp only at hc2
    refine zK (zU (zQ (zQ (zG (zR 3 rfl (zN (zU (zB ?_))))))))
    refine W.loopK (β := Nat) (fun k => k ≤ ls.length ∧ ∀ i, i < k → validB (nth ls i).cv = true) (fun k => [(50, true, .int .i64 (k : Int))]) [48, 49] [_, _] [] _ rfl (fun k => []) (fun k => ls.length - k) (0) (⟨Nat.zero_le _, fun i hi => absurd hi (Nat.not_lt_zero i)⟩) ⟨rfl, rfl, rfl, rfl⟩ qS ?_
    intro k hst
    dsimp only [zipE, setAll, List.cons_append, List.nil_append, List.set_cons_zero, List.set_cons_succ] at hst ⊢
    obtain ⟨hk, hpre⟩ := hst
    refine zQ (zG (zR 1 rfl (zN (zU (zQ ?_)))))
    refine W.condD rfl (fun hc3 => ?_) (fun hc3 => ?_)
    ·try dsimp only at hc3
     refine zK (zU (zQ (zB (zQ (zG ?_)))))
     refine WG.y rfl rfl qD (Yl.indexN tab_ok rfl rfl rfl rfl rfl rfl (fun _ => rfl) qN qH) ?_
     refine yR ?_
     refine zA fun b12 => ?_
     refine zE 0 ?_
     refine zN (zU (zQ (zG ?_)))
     refine yL (Rd.blk 0 rfl) ?_
     refine WG.callV en84 rfl rfl qD (CallOp.mk' rfl rfl rfl rfl) (fun _ => rfl) (fun hg => CValidG_V (hls _ (nth_mem (xs := ls) (k := k) qO)).1 (hls _ (nth_mem (xs := ls) (k := k) qO)).2) ?_
     refine zR 1 rfl (zN (zU ?_))
     refine W.cond rfl (fun hc4 => ?_) (fun hc4 => ?_)
     ·try simp only [zk] at hc4
      have e : argE L cls (ls.map CvS.cv) z = 1 := by
       unfold argE
       rw [if_neg (fun h => h hc0), if_neg (by rw [List.length_map]; omega), if_neg (fun h => h hc2), if_neg]
       intro hh
       have := List.all_eq_true.1 hh _ (List.mem_map.2 ⟨_, nth_mem (xs := ls) (k := k) (by omega), rfl⟩)
       rw [this] at hc4; cases hc4
      refine zQ (zG (zR 1 rfl (zN (zU (zT (wb (wt (wt (wb (wt ?_))))))))))
      refine sE (E := E) ?_
      refine WE.retF tab_ok [_] rfl ⟨rfl, trivial⟩ (RLe.refl _) ?_
      exact ⟨by rw [e]; rfl, rfl⟩
     ·try simp only [zk] at hc4
      refine zK (zL (zU (zG ?_)))
      refine yA ?_
      refine zR 1 rfl (zN ?_)
      refine WE.again (k + 1) (⟨by omega, fun i hi => by rcases Nat.lt_or_ge i k with h | h; exact hpre i h; rw [show i = k by omega]; exact hc4⟩) (by (try dsimp only); omega) ⟨rfl, rfl, rfl, rfl⟩ (RLe.refl _) qS
    ·try dsimp only at hc3
     refine zX ?_
     refine wx (wx (zY (zU (zQ (zG (zR 1 rfl (zN (zU (zT ?_)))))))))
     refine sE (E := E) ?_
     refine WE.retF tab_ok [_] rfl ⟨rfl, trivial⟩ (RLe.refl _) ?_
     have e : argE L cls (ls.map CvS.cv) z = 0 := by
      unfold argE
      rw [if_neg (fun h => h hc0), if_neg (by rw [List.length_map]; omega), if_neg (fun h => h hc2), if_pos]
      rw [List.all_eq_true]
      intro x hx
      obtain ⟨y, hy, rfl⟩ := List.mem_map.1 hx
      obtain ⟨i, hi, rfl⟩ := List.getElem_of_mem hy
      have := hpre i (by omega)
      rw [show nth ls i = ls[i] by unfold nth List.getD; rw [List.getElem?_eq_getElem hi]; rfl] at this
      exact this
     exact ⟨by rw [e]; rfl, rfl⟩



theorem meth_curve1 (x y z u : Value) : Meth Tryz.prog 112 (.agg #[]) "netcalculus/server.curve" 185 [x, y, z, u] := fun w => by kernel_rfl
theorem meth_curve2 (x y z u : Value) : Meth Tryz.prog 113 (.agg #[]) "netcalculus/server.curve" 194 [x, y, z, u] := fun w => by kernel_rfl
theorem meth_curve3 (x y z u : Value) : Meth Tryz.prog 114 (.agg #[]) "netcalculus/server.curve" 208 [x, y, z, u] := fun w => by kernel_rfl
theorem meth_curve4 (x y z u : Value) : Meth Tryz.prog 115 (.agg #[]) "netcalculus/server.curve" 225 [x, y, z, u] := fun w => by kernel_rfl
theorem meth_curve5 (x y z u : Value) : Meth Tryz.prog 116 (.agg #[]) "netcalculus/server.curve" 238 [x, y, z, u] := fun w => by kernel_rfl

theorem arg_facts {L : Ln} {cls : Int} {l : List Cv} {z : List Sz} (h : argE L cls l z = 0) : chkL L = 0 ∧ (0 ≤ cls ∧ cls < L.n ∧ (l.length : Int) = L.n ∧ (z.length : Int) = L.n) ∧ chk18 L.cap cls z = 0 ∧ ∀ c ∈ l, validB c = true := by
 unfold argE at h
 split at h
 ·rename_i h1; exact absurd h h1
 ·rename_i h1
  split at h
  ·omega
  ·split at h
   ·rename_i h2; exact absurd h h2
   ·rename_i h2
    split at h
    ·rename_i h3
     exact ⟨by omega, by omega, by omega, fun c hc => List.all_eq_true.1 h3 c hc⟩
    ·omega

theorem CurveSrv1_C {R : Ro} {aw at_ : Option Addr} {lw cw lt ct : Nat} {L : Ln} (hw : RS R 1 encI aw L.w) (hlw : L.w.length = lw) (ht : RS R 1 encI at_ L.tb) (hlt : L.tb.length = lt) {la : Option Addr} {lc ll : Nat} {ls : List CvS} (hla : RS R 3 encC la ls) (hll : ls.length = ll) (hlc : ll ≤ lc) (hls : ∀ x ∈ ls, RS R 1 encI x.a x.cv.vals ∧ x.cv.vals.length ≤ 100000) {za : Option Addr} {zc lz : Nat} {z : List Sz} (hzr : RS R 2 encZ za z) (hlz : z.length = lz) (hzc : lz ≤ zc) {cls : Int} (hk1 : L.kind = 1) (w0 : World) (E : List Ent) : K.Fn Tryz.prog 15 [.agg #[.int .i64 L.kind, .int .i64 L.cap, .int .i64 L.n, .slice aw lw cw, .slice at_ lt ct], .int .i64 cls, .slice la ll lc, .slice za lz zc] w0 R E (fun r R' E' => ∃ (f : Option Addr) (fc : Nat), r = cvV f fc (curveL L cls (ls.map CvS.cv) z) ∧ RS R' 1 encI f (curveL L cls (ls.map CvS.cv) z).1.vals ∧ E.Sublist E') := by
 refine fE 36 Tryz.func15 ?_
 refine zQ (zG ?_)
 refine zO fun b4 => ?_
 refine zA fun b8 => ?_
 refine zR 1 rfl (zN (zU (zQ (zQ (zG ?_)))))
 refine yL (Rd.blk 1 rfl) ?_
 refine zR 3 rfl ?_
 refine WG.callV en45 rfl rfl qD (CallOp.mk' rfl rfl rfl rfl) (fun _ => rfl) (fun hg => ArgSrv_V hw hlw ht hlt hla hll hlc hls hzr hlz hzc) ?_
 refine zR 1 rfl (zN (zU (zQ (zG (zR 2 rfl (zN (zU ?_)))))))
 refine W.condN rfl (fun hc0 => ?_) (fun hc0 => ?_)
 ·try dsimp only at hc0
  have e : curveL L cls (ls.map CvS.cv) z = (zcv, argE L cls (ls.map CvS.cv) z) := if_pos hc0
  refine zQ (zG ?_)
  -- build
  refine WG.y rfl rfl qD (Yl.build (parts := []) tab_ok rfl rfl rfl rfl (fun _ => rfl) rfl rfl) ?_
  refine zR 1 rfl ?_
  refine zE 0 ?_
  refine zR 1 rfl (zN (zU (zT (wt ?_))))
  refine WE.retF tab_ok [_, _] rfl ⟨⟨_, _, _, rfl, rfl, rfl, qB, rfl⟩, rfl, trivial⟩ (by first | exact RLe.refl _ | exact hR2) ?_
  rw [e]
  exact ⟨none, 0, rfl, rs_nil, qS⟩
 ·try dsimp only at hc0
  have e : curveL L cls (ls.map CvS.cv) z = fifoC L.cap (ls.map CvS.cv) := (if_neg (fun h => h hc0)).trans (if_pos hk1)
  obtain ⟨hk0, -, -, hv⟩ := arg_facts hc0
  have hf := chk_facts hk0
  refine zK (zU (zQ (zG (zR 1 rfl ?_))))
  refine yL (Rd.add (Rd.blk 1 rfl) _) ?_
  refine WG.callV en44 rfl rfl qD (CallOp.mk' rfl rfl rfl rfl) (fun _ => rfl) (fun hg => Kind_V L.kind) ?_
  refine zR 5 rfl (zN (zU ?_))
  rw [show kindI L.kind = .iface 112 (.agg #[]) by rw [hk1]; rfl]
  refine zQ (zG (zR 1 rfl ?_))
  refine yL (Rd.blk 1 rfl) ?_
  refine zR 3 rfl ?_
  refine WL.callI (args := [.tmp 29, .tmp 30, .tmp 31, .tmp 32]) rfl rfl rfl qD rfl rfl (meth_curve1 _ _ _ _) (CurFifo_C hw hlw ht hlt hla hll hlc hls hzr hlz hzc ⟨hf.2.1, hf.2.2.1⟩ (fun x hx => hv _ (List.mem_map.2 ⟨x, hx, rfl⟩)) w0 _) ?_
  rintro _ R2 E2 hR2 ⟨f, fc, rfl, hf, hsub⟩
  refine WL.subE hsub ?_
  rw [← e] at hf ⊢
  unfold cvV
  refine zR 2 rfl ?_
  refine zE 0 ?_
  refine zR 1 rfl (zN (zU (zT ?_)))
  refine WE.retF tab_ok [_, _] rfl ⟨⟨_, _, _, rfl, rfl, rfl, qB, rfl⟩, rfl, trivial⟩ (by first | exact RLe.refl _ | exact hR2) ?_
  exact ⟨f, fc, rfl, hf, qS⟩


theorem curve_any {R : Ro} {aw at_ : Option Addr} {lw cw lt ct : Nat} {L : Ln} (hw : RS R 1 encI aw L.w) (hlw : L.w.length = lw) (ht : RS R 1 encI at_ L.tb) (hlt : L.tb.length = lt) {la : Option Addr} {lc ll : Nat} {ls : List CvS} (hla : RS R 3 encC la ls) (hll : ls.length = ll) (hlc : ll ≤ lc) (hls : ∀ x ∈ ls, RS R 1 encI x.a x.cv.vals ∧ x.cv.vals.length ≤ 100000) {za : Option Addr} {zc lz : Nat} {z : List Sz} (hzr : RS R 2 encZ za z) (hlz : z.length = lz) (hzc : lz ≤ zc) {cls : Int} (htc : lt ≤ ct) (h0 : argE L cls (ls.map CvS.cv) z = 0) (w0 : World) (E : List Ent) :
  ∃ (T f : Nat), kindI L.kind = .iface T (.agg #[]) ∧ Meth Tryz.prog T (.agg #[]) "netcalculus/server.curve" f [.agg #[.int .i64 L.kind, .int .i64 L.cap, .int .i64 L.n, .slice aw lw cw, .slice at_ lt ct], .int .i64 cls, .slice la ll lc, .slice za lz zc] ∧ K.Fn Tryz.prog f [.agg #[], .agg #[.int .i64 L.kind, .int .i64 L.cap, .int .i64 L.n, .slice aw lw cw, .slice at_ lt ct], .int .i64 cls, .slice la ll lc, .slice za lz zc] w0 R E (fun r R' E' => ∃ (f : Option Addr) (fc : Nat), r = cvV f fc (schedC L cls (ls.map CvS.cv) z) ∧ RS R' 1 encI f (schedC L cls (ls.map CvS.cv) z).1.vals ∧ E.Sublist E') := by
 obtain ⟨hk0, -, -, hv⟩ := arg_facts h0
 have hf := chk_facts hk0
 rcases (show L.kind = 1 ∨ L.kind = 2 ∨ L.kind = 3 ∨ L.kind = 4 ∨ L.kind = 5 by omega) with h | h | h | h | h
 ·have e : schedC L cls (ls.map CvS.cv) z = fifoC L.cap (ls.map CvS.cv) := by unfold schedC; rw [h]; rfl
  rw [e]
  exact ⟨_, _, by unfold kindI; rw [h]; rfl, meth_curve1 _ _ _ _, CurFifo_C hw hlw ht hlt hla hll hlc hls hzr hlz hzc ⟨hf.2.1, hf.2.2.1⟩ (fun x hx => hv _ (List.mem_map.2 ⟨x, hx, rfl⟩)) w0 E⟩
 ·have e : schedC L cls (ls.map CvS.cv) z = prioC L.cap cls (ls.map CvS.cv) z := by unfold schedC; rw [h]; rfl
  rw [e]
  exact ⟨_, _, by unfold kindI; rw [h]; rfl, meth_curve2 _ _ _ _, CurRanks_C hw hlw ht hlt hla hll hlc hls hzr hlz hzc htc w0 E⟩
 ·have e : schedC L cls (ls.map CvS.cv) z = robinC L.cap cls L.w z := by unfold schedC; rw [h]; rfl
  rw [e]
  exact ⟨_, _, by unfold kindI; rw [h]; rfl, meth_curve3 _ _ _ _, CurRobin_C hw hlw ht hlt hla hll hlc hls hzr hlz hzc htc w0 E⟩
 ·have e : schedC L cls (ls.map CvS.cv) z = defC L.cap cls L.w z := by unfold schedC; rw [h]; rfl
  rw [e]
  exact ⟨_, _, by unfold kindI; rw [h]; rfl, meth_curve4 _ _ _ _, CurDef_C hw hlw ht hlt hla hll hlc hls hzr hlz hzc htc w0 E⟩
 ·have e : schedC L cls (ls.map CvS.cv) z = slotC L.cap cls L.tb z := by unfold schedC; rw [h]; rfl
  rw [e]
  exact ⟨_, _, by unfold kindI; rw [h]; rfl, meth_curve5 _ _ _ _, CurTimes_C hw hlw ht hlt hla hll hlc hls hzr hlz hzc htc w0 E⟩

theorem CurveSrv_C {R : Ro} {aw at_ : Option Addr} {lw cw lt ct : Nat} {L : Ln} (hw : RS R 1 encI aw L.w) (hlw : L.w.length = lw) (ht : RS R 1 encI at_ L.tb) (hlt : L.tb.length = lt) {la : Option Addr} {lc ll : Nat} {ls : List CvS} (hla : RS R 3 encC la ls) (hll : ls.length = ll) (hlc : ll ≤ lc) (hls : ∀ x ∈ ls, RS R 1 encI x.a x.cv.vals ∧ x.cv.vals.length ≤ 100000) {za : Option Addr} {zc lz : Nat} {z : List Sz} (hzr : RS R 2 encZ za z) (hlz : z.length = lz) (hzc : lz ≤ zc) {cls : Int} (htc : lt ≤ ct) (w0 : World) (E : List Ent) : K.Fn Tryz.prog 15 [.agg #[.int .i64 L.kind, .int .i64 L.cap, .int .i64 L.n, .slice aw lw cw, .slice at_ lt ct], .int .i64 cls, .slice la ll lc, .slice za lz zc] w0 R E (fun r R' E' => ∃ (f : Option Addr) (fc : Nat), r = cvV f fc (curveL L cls (ls.map CvS.cv) z) ∧ RS R' 1 encI f (curveL L cls (ls.map CvS.cv) z).1.vals ∧ E.Sublist E') := by
 refine fE 36 Tryz.func15 ?_
 refine zQ (zG ?_)
 refine zO fun b4 => ?_
 refine zA fun b8 => ?_
 refine zR 1 rfl (zN (zU (zQ (zQ (zG ?_)))))
 refine yL (Rd.blk 1 rfl) ?_
 refine zR 3 rfl ?_
 refine WG.callV en45 rfl rfl qD (CallOp.mk' rfl rfl rfl rfl) (fun _ => rfl) (fun hg => ArgSrv_V hw hlw ht hlt hla hll hlc hls hzr hlz hzc) ?_
 refine zR 1 rfl (zN (zU (zQ (zG (zR 2 rfl (zN (zU ?_)))))))
 refine W.condN rfl (fun hc0 => ?_) (fun hc0 => ?_)
 ·try dsimp only at hc0
  have e : curveL L cls (ls.map CvS.cv) z = (zcv, argE L cls (ls.map CvS.cv) z) := if_pos hc0
  refine zQ (zG ?_)
  -- build
  refine WG.y rfl rfl qD (Yl.build (parts := []) tab_ok rfl rfl rfl rfl (fun _ => rfl) rfl rfl) ?_
  refine zR 1 rfl ?_
  refine zE 0 ?_
  refine zR 1 rfl (zN (zU (zT (wt ?_))))
  refine WE.retF tab_ok [_, _] rfl ⟨⟨_, _, _, rfl, rfl, rfl, qB, rfl⟩, rfl, trivial⟩ (by first | exact RLe.refl _ | exact hR2) ?_
  rw [e]
  exact ⟨none, 0, rfl, rs_nil, qS⟩
 ·try dsimp only at hc0
  have e : curveL L cls (ls.map CvS.cv) z = schedC L cls (ls.map CvS.cv) z := if_neg (fun h => h hc0)
  refine zK (zU (zQ (zG (zR 1 rfl ?_))))
  refine yL (Rd.add (Rd.blk 1 rfl) _) ?_
  refine WG.callV en44 rfl rfl qD (CallOp.mk' rfl rfl rfl rfl) (fun _ => rfl) (fun hg => Kind_V L.kind) ?_
  refine zR 5 rfl (zN (zU ?_))
  obtain ⟨T9, f9, e9, m9, v9⟩ := curve_any (R := R) (lw := lw) (lt := lt) (cw := cw) (ct := ct) (cls := cls) hw hlw ht hlt hla hll hlc hls hzr hlz hzc htc hc0 w0 (.blk b8 [.slice none 0 0, .int .i64 0, .int .i64 0] :: .blk b4 [.int .i64 L.kind, .int .i64 L.cap, .int .i64 L.n, .slice aw lw cw, .slice at_ lt ct] :: E)
  rw [e9]
  refine zQ (zG (zR 1 rfl ?_))
  refine yL (Rd.blk 1 rfl) ?_
  refine zR 3 rfl ?_
  refine WL.callI (args := [.tmp 29, .tmp 30, .tmp 31, .tmp 32]) rfl rfl rfl qD rfl rfl (m9) (v9) ?_
  rintro _ R2 E2 hR2 ⟨f, fc, rfl, hf, hsub⟩
  refine WL.subE hsub ?_
  rw [← e] at hf ⊢
  unfold cvV
  refine zR 2 rfl ?_
  refine zE 0 ?_
  refine zR 1 rfl (zN (zU (zT ?_)))
  refine WE.retF tab_ok [_, _] rfl ⟨⟨_, _, _, rfl, rfl, rfl, qB, rfl⟩, rfl, trivial⟩ (by first | exact RLe.refl _ | exact hR2) ?_
  exact ⟨f, fc, rfl, hf, qS⟩





theorem srv_awake1 : curveL (⟨1, 10, 2, [], []⟩ : Ln) 1 [(⟨[0, 15], 1, 0⟩ : Cv), (⟨[0, 15], 1, 0⟩ : Cv)] [⟨15, 15⟩, ⟨15, 15⟩] = (⟨[0, 0, 0, INF], 1, 0⟩, 0) := by kernel_rfl
theorem srv_awake2 : srvE (⟨1, 10, 2, [], []⟩ : Ln) 4 ([⟨0, 0, 15⟩, ⟨1, 0, 15⟩] : List Pkt) = 0 := by kernel_rfl
theorem srv_awake3 : (srvL (⟨1, 10, 2, [], []⟩ : Ln) 4 ([⟨0, 0, 15⟩, ⟨1, 0, 15⟩] : List Pkt)).1 = [1, 2] := by kernel_rfl
theorem srv_awake4 : chkL (⟨1, 10, 2, [], []⟩ : Ln) = 0 := by kernel_rfl
theorem srv_awake5 : chkL ⟨0, 0, 0, [], []⟩ = 9 := by kernel_rfl

set_option maxHeartbeats 1000000 in
theorem Awake22_C {R : Ro} (w0 : World) (E : List Ent) : K.Fn Tryz.prog 18 [] w0 R E (fun v R' E' => v = .bool true ∧ E.Sublist E') := by
 refine fE 57 Tryz.func18 ?_
 refine zQ (zG (zR 1 rfl (zN (zU (zQ (zG ?_))))))
 -- build
 refine WG.y rfl rfl qD (Yl.build (parts := [(0, .const (.int .i64 1)), (1, .const (.int .i64 10)), (2, .const (.int .i64 2))]) tab_ok rfl rfl rfl rfl (fun _ => rfl) rfl rfl) ?_
 refine zA fun b1 => ?_
 refine zE 0 ?_
 refine zN (zU (zQ (zG ?_)))
 refine WL.ef rfl rfl qD (Ef.buildSliceD (enc := encI) (parts := [.const (.int .i64 0), .const (.int .i64 15)]) [_, _] tab_ok rfl rfl rfl rfl rfl rfl rfl rfl qD qD (fun a8 => ?_))
 refine WL.freeze (enc := encI) (xs := ([0, 15] : List Int)) 0 rfl ?_
 intro R1 hR1 hc1
 -- build
 refine WG.y rfl rfl qD (Yl.build (parts := [(0, .tmp 8), (1, .const (.int .i64 1))]) tab_ok rfl rfl rfl rfl (fun _ => rfl) rfl rfl) ?_
 refine zA fun b2 => ?_
 refine zE 0 ?_
 refine zN (zU (zQ (zG ?_)))
 refine yL (Rd.blk 1 rfl) ?_
 refine yL (Rd.blk 0 rfl) ?_
 refine yL (Rd.blk 0 rfl) ?_
 refine WL.ef rfl rfl qD (Ef.buildSlice (parts := [.tmp 12, .tmp 13]) tab_ok rfl rfl rfl rfl rfl rfl rfl qD qD (fun a14 => ?_))
 refine WL.freeze (enc := encC) (xs := ([⟨some ⟨a8, 0, none⟩, 2, (⟨[0, 15], 1, 0⟩ : Cv)⟩, ⟨some ⟨a8, 0, none⟩, 2, (⟨[0, 15], 1, 0⟩ : Cv)⟩] : List CvS)) 0 rfl ?_
 intro R2 hR2 hlc
 -- build
 refine WG.y rfl rfl qD (Yl.build (parts := [(0, .const (.int .i64 15)), (1, .const (.int .i64 15))]) tab_ok rfl rfl rfl rfl (fun _ => rfl) rfl rfl) ?_
 -- build
 refine WG.y rfl rfl qD (Yl.build (parts := [(0, .const (.int .i64 15)), (1, .const (.int .i64 15))]) tab_ok rfl rfl rfl rfl (fun _ => rfl) rfl rfl) ?_
 refine WL.ef rfl rfl qD (Ef.buildSliceD (enc := encZ) (parts := [.tmp 15, .tmp 16]) [⟨_, _⟩, ⟨_, _⟩] tab_ok rfl rfl rfl rfl rfl rfl rfl rfl qD qD (fun a17 => ?_))
 refine WL.freeze (enc := encZ) (xs := ([⟨15, 15⟩, ⟨15, 15⟩] : List Sz)) 0 rfl ?_
 intro R3 hR3 hzz
 have hlc := hlc.mono hR3
 have hc1 := hc1.mono (hR2.trans hR3)
 have hls : ∀ x ∈ ([⟨some ⟨a8, 0, none⟩, 2, (⟨[0, 15], 1, 0⟩ : Cv)⟩, ⟨some ⟨a8, 0, none⟩, 2, (⟨[0, 15], 1, 0⟩ : Cv)⟩] : List CvS), RS R3 1 encI x.a x.cv.vals ∧ x.cv.vals.length ≤ 100000 := fun x hx => by
  simp only [List.mem_cons, List.not_mem_nil, or_false] at hx
  rcases hx with rfl | rfl
  ·exact ⟨hc1, by show 2 ≤ 100000; decide⟩
  ·exact ⟨hc1, by show 2 ≤ 100000; decide⟩
 refine WL.call en15 rfl rfl qD (CallOp.mkT rfl rfl rfl rfl) (CurveSrv1_C (L := (⟨1, 10, 2, [], []⟩ : Ln)) (ls := ([⟨some ⟨a8, 0, none⟩, 2, (⟨[0, 15], 1, 0⟩ : Cv)⟩, ⟨some ⟨a8, 0, none⟩, 2, (⟨[0, 15], 1, 0⟩ : Cv)⟩] : List CvS)) (z := ([⟨15, 15⟩, ⟨15, 15⟩] : List Sz)) (cls := 1) (aw := none) (at_ := none) (lw := 0) (cw := 0) (lt := 0) (ct := 0) rs_nil rfl rs_nil rfl hlc rfl (Nat.le_refl 2) hls hzz rfl (Nat.le_refl 2) rfl w0 _) ?_
 rintro _ R4 E3 hR4 ⟨f1, fc1, rfl, hf1, hsub2⟩
 rw [show List.map CvS.cv ([⟨some ⟨a8, 0, none⟩, 2, (⟨[0, 15], 1, 0⟩ : Cv)⟩, ⟨some ⟨a8, 0, none⟩, 2, (⟨[0, 15], 1, 0⟩ : Cv)⟩] : List CvS) = [(⟨[0, 15], 1, 0⟩ : Cv), (⟨[0, 15], 1, 0⟩ : Cv)] from rfl, srv_awake1] at hf1 ⊢
 refine WL.subE hsub2 ?_
 unfold cvV
 refine zR 3 rfl ?_
 refine zA fun b3 => ?_
 refine zE 0 ?_
 refine zR 1 rfl (zN (zU (zQ (zG ?_))))
 refine yL (Rd.blk 2 rfl) ?_
 -- build
 refine WG.y rfl rfl qD (Yl.build (parts := [(2, .const (.int .i64 15))]) tab_ok rfl rfl rfl rfl (fun _ => rfl) rfl rfl) ?_
 -- build
 refine WG.y rfl rfl qD (Yl.build (parts := [(0, .const (.int .i64 1)), (2, .const (.int .i64 15))]) tab_ok rfl rfl rfl rfl (fun _ => rfl) rfl rfl) ?_
 refine WL.ef rfl rfl qD (Ef.buildSliceD (enc := encP) (parts := [.tmp 23, .tmp 24]) [⟨_, _, _⟩, ⟨_, _, _⟩] tab_ok rfl rfl rfl rfl rfl rfl rfl rfl qD qD (fun a25 => ?_))
 refine WL.freeze (enc := encP) (xs := ([⟨0, 0, 15⟩, ⟨1, 0, 15⟩] : List Pkt)) 0 rfl ?_
 intro R5 hR5 hp
 have hf1 := hf1.mono hR5
 refine WL.call en13 rfl rfl qD (CallOp.mkT rfl rfl rfl rfl) (RunSrv_C (L := (⟨1, 10, 2, [], []⟩ : Ln)) (ps := ([⟨0, 0, 15⟩, ⟨1, 0, 15⟩] : List Pkt)) (ticks := 4) (aw := none) (at_ := none) (lw := 0) (cw := 0) (lt := 0) (ct := 0) hp rfl rs_nil rfl rs_nil rfl w0 _) ?_
 rintro _ R6 E4 hR6 ⟨da, oa, dc, oc, rows, rfl, hd, ho, hrw, hrx, hcp, hsub⟩
 refine WL.subE hsub ?_
 rw [srv_awake3] at hd ⊢
 rw [srv_awake2]
 have hf1 := hf1.mono hR6
 refine zR 3 rfl ?_
 refine zA fun b5 => ?_
 refine zE 0 ?_
 refine zR 1 rfl (zN (zU (zQ (zG ?_))))
 refine yL (Rd.blk 3 rfl) ?_
 refine WG.callV (v := .int .i64 0) en27 rfl rfl qD (CallOp.mk' rfl rfl rfl rfl) (fun _ => rfl) (fun hg => by
  have h := ChkSrv_V (R := R6) (L := (⟨1, 10, 2, [], []⟩ : Ln)) (aw := none) (at_ := none) (cw := 0) (ct := 0) rs_nil rfl rs_nil rfl
  rw [srv_awake4] at h
  exact h) ?_
 refine zR 2 rfl ?_
 refine WL.guardT rfl (by rfl) ?_
 refine yP ?_
 refine WL.guardT rfl (by rfl) ?_
 refine yP ?_
 refine yN ?_
 refine zR 1 rfl ?_
 refine WL.guardT rfl (by rfl) ?_
 refine yL (Rd.blk 1 rfl) ?_
 refine WL.guardT rfl (by rfl) ?_
 refine WL.ef rfl rfl qD (Ef.buildSliceD (enc := encI) (parts := [.const (.int .i64 0), .const (.int .i64 0), .const (.int .i64 0), .const (.int .i64 4611686018427387904)]) [_, _, _, _] tab_ok rfl rfl rfl rfl rfl rfl rfl rfl qD qD (fun a38 => ?_))
 refine WL.freeze (enc := encI) (xs := ([0, 0, 0, 4611686018427387904] : List Int)) 0 rfl ?_
 intro R7 hR7 hi1
 have hd := hd.mono hR7
 have hf1 := hf1.mono hR7
 refine WL.guardT rfl (by rfl) ?_
 -- build
 refine WG.y rfl rfl qD (Yl.build (parts := [(0, .tmp 38), (1, .const (.int .i64 1))]) tab_ok rfl rfl rfl rfl (fun _ => rfl) rfl rfl) ?_
 refine WL.guardT rfl (by rfl) ?_
 refine WG.callV (v := .bool true) en39 rfl rfl qD (CallOp.mk' rfl rfl rfl rfl) (fun _ => rfl) (fun hg => by
  have h := Same02_V (ca := fc1) (cb := 4) (p1 := 1) (i1 := 0) (p2 := 1) (i2 := 0) hf1 hi1
  rw [decide_eq_true ⟨rfl, rfl, rfl⟩] at h
  exact h) ?_
 refine yN ?_
 refine zR 1 rfl ?_
 refine WL.guardT rfl (by rfl) ?_
 refine yP ?_
 refine WL.guardT rfl (by rfl) ?_
 refine yP ?_
 refine yN ?_
 refine zR 1 rfl ?_
 refine WL.guardT rfl (by rfl) ?_
 refine yP ?_
 refine WL.guardT rfl (by rfl) ?_
 refine yL (Rd.add (Rd.blk 0 rfl) _) ?_
 refine WL.guardT rfl (by rfl) ?_
 refine WL.ef rfl rfl qD (Ef.buildSliceD (enc := encI) (parts := [.const (.int .i64 1), .const (.int .i64 2)]) [_, _] tab_ok rfl rfl rfl rfl rfl rfl rfl rfl qD qD (fun a49 => ?_))
 refine WL.freeze (enc := encI) (xs := ([1, 2] : List Int)) 0 rfl ?_
 intro R8 hR8 hl1
 have hd := hd.mono hR8
 refine WL.guardT rfl (by rfl) ?_
 refine WG.callV (v := .bool true) en51 rfl rfl qD (CallOp.mk' rfl rfl rfl rfl) (fun _ => rfl) (fun hg => by
  have h := Ints_V (ca := dc) (cb := 2) hd hl1
  exact h) ?_
 refine yN ?_
 refine zR 1 rfl ?_
 refine WL.guardT rfl (by rfl) ?_
 -- build
 refine WG.y rfl rfl qD (Yl.build (parts := []) tab_ok rfl rfl rfl rfl (fun _ => rfl) rfl rfl) ?_
 refine WL.guardT rfl (by rfl) ?_
 refine WG.callV (v := .int .i64 9) en27 rfl rfl qD (CallOp.mk' rfl rfl rfl rfl) (fun _ => rfl) (fun hg => by
  have h := ChkSrv_V (R := R8) (L := (⟨0, 0, 0, [], []⟩ : Ln)) (aw := none) (at_ := none) (cw := 0) (ct := 0) rs_nil rfl rs_nil rfl
  rw [srv_awake5] at h
  exact h) ?_
 refine WL.guardT rfl (by rfl) ?_
 refine yP ?_
 refine yN ?_
 refine zR 1 rfl (zN (zU (zT ?_)))
 refine WE.retF tab_ok [_] rfl ⟨rfl, trivial⟩ (hR1.trans (hR2.trans (hR3.trans (hR4.trans (hR5.trans (hR6.trans (hR7.trans hR8))))))) ?_
 exact ⟨rfl, qS⟩



theorem Measure_C {R : Ro} {g : FuncId} (w0 : World) (E : List Ent) : K.Fn Tryz.prog 46 [.func (.func g) #[] #[]] w0 R E (fun v R' E' => ∃ b1 : Nat, v = .func (.func 85) #[] #[.pointer (some ⟨b1, 0, none⟩)] ∧ R' b1 = some [.func (.func g) #[] #[]] ∧ E.Sublist E') := by
 refine fE 4 Tryz.func46 ?_
 refine zQ (zG ?_)
 refine zO fun b1 => ?_
 refine zR 1 rfl (zN (zU ?_))
 refine W.freezeBlk (b := b1) 0 rfl (fun R1 hR1 hb1 => ?_)
 refine zQ (zG (zR 2 rfl (zN (zU (zT ?_)))))
 refine WE.retF tab_ok [_] rfl ⟨rfl, trivial⟩ (hR1) ?_
 exact ⟨b1, rfl, hb1, qS⟩

theorem Measure1_C {R : Ro} {aw at_ : Option Addr} {lw cw lt ct : Nat} {L : Ln} (hw : RS R 1 encI aw L.w) (hlw : L.w.length = lw) (ht : RS R 1 encI at_ L.tb) (hlt : L.tb.length = lt) {la : Option Addr} {lc ll : Nat} {ls : List CvS} (hla : RS R 3 encC la ls) (hll : ls.length = ll) (hlc : ll ≤ lc) (hls : ∀ x ∈ ls, RS R 1 encI x.a x.cv.vals ∧ x.cv.vals.length ≤ 100000) {za : Option Addr} {zc lz : Nat} {z : List Sz} (hzr : RS R 2 encZ za z) (hlz : z.length = lz) (hzc : lz ≤ zc) {cls : Int} (htc : lt ≤ ct) {g : FuncId} {D : Cv → Cv → (Bool × Int × Int) × Int} (heg : Enters Tryz.prog g) (hD : ∀ {R : Ro} {fa ga : Option Addr} {fc gc : Nat} {cf cg : Cv}, validB cf = true → RS R 1 encI fa cf.vals → validB cg = true → RS R 1 encI ga cg.vals → ∀ (w0 : World) (E : List Ent), K.Fn Tryz.prog g [.agg #[.slice fa cf.vals.length fc, .int .i64 cf.per, .int .i64 cf.inc], .agg #[.slice ga cg.vals.length gc, .int .i64 cg.per, .int .i64 cg.inc]] w0 R E (fun v R' E' => v = devV (D cf cg) ∧ E.Sublist E')) {b1 : Nat} (hb1 : R b1 = some [.func (.func g) #[] #[]]) (w0 : World) (E : List Ent) : K.Fn Tryz.prog 85 [.agg #[.int .i64 L.kind, .int .i64 L.cap, .int .i64 L.n, .slice aw lw cw, .slice at_ lt ct], .int .i64 cls, .slice la ll lc, .slice za lz zc, .pointer (some ⟨b1, 0, none⟩)] w0 R E (fun r R' E' => r = devV (measL D L cls (ls.map CvS.cv) z) ∧ E.Sublist E') := by
 have hl1 := hla.len
 have eM : measL D L cls (ls.map CvS.cv) z = if (curveL L cls (ls.map CvS.cv) z).2 ≠ 0 then ((false, 0, 0), (curveL L cls (ls.map CvS.cv) z).2) else D (nth (ls.map CvS.cv) cls.toNat) (curveL L cls (ls.map CvS.cv) z).1 := rfl
 refine fE 34 Tryz.func85 ?_
 refine zQ (zG ?_)
 refine zO fun b5 => ?_
 refine zA fun b9 => ?_
 refine zR 1 rfl (zN (zU (zQ (zG ?_))))
 refine yL (Rd.blk 1 rfl) ?_
 refine zR 3 rfl ?_
 refine WL.call en15 rfl rfl qD (CallOp.mkT rfl rfl rfl rfl) (CurveSrv_C hw hlw ht hlt hla hll hlc hls hzr hlz hzc htc w0 _) ?_
 rintro _ R2 E2 hR2 ⟨f, fc, rfl, hf, hsub⟩
 refine WL.subE hsub ?_
 have hcv : (curveL L cls (ls.map CvS.cv) z).2 = 0 → argE L cls (ls.map CvS.cv) z = 0 ∧ validB (curveL L cls (ls.map CvS.cv) z).1 = true := fun h => by
  have ha : argE L cls (ls.map CvS.cv) z = 0 := by
   apply Classical.byContradiction
   intro hn
   unfold curveL at h
   rw [if_pos hn] at h
   exact hn h
  refine ⟨ha, ?_⟩
  have e : curveL L cls (ls.map CvS.cv) z = schedC L cls (ls.map CvS.cv) z := if_neg (fun hn => hn ha)
  rw [e] at h ⊢
  exact sched_valid (arg_facts ha).2.2.2 h
 generalize curveL L cls (ls.map CvS.cv) z = q at hf eM hcv ⊢
 unfold cvV
 refine zR 3 rfl ?_
 refine zA fun b11 => ?_
 refine zE 0 ?_
 refine zR 1 rfl (zN (zU (zQ (zQ (zG (zR 2 rfl (zN (zU ?_))))))))
 refine W.condN rfl (fun hc0 => ?_) (fun hc0 => ?_)
 ·try dsimp only at hc0
  rw [if_pos hc0] at eM
  refine zQ (zG ?_)
  -- build
  refine WG.y rfl rfl qD (Yl.build (parts := []) tab_ok rfl rfl rfl rfl (fun _ => rfl) rfl rfl) ?_
  refine zR 1 rfl ?_
  refine zE 1 ?_
  refine zR 1 rfl (zN (zU (zT (wt ?_))))
  refine WE.retF tab_ok [_, _] rfl ⟨⟨_, _, _, rfl, rfl, rfl, qB, rfl⟩, rfl, trivial⟩ (by first | exact hR2 | exact hR2.trans hR3) ?_
  rw [eM]
  exact ⟨rfl, qS⟩
 ·try dsimp only at hc0
  rw [if_neg (fun h => h hc0)] at eM
  obtain ⟨ha, hqv⟩ := hcv hc0
  obtain ⟨-, hcl, -, hv⟩ := arg_facts ha
  rw [List.length_map] at hcl
  have hck : cls.toNat < ls.length := by omega
  have hla2 := hla.mono hR2
  have hnv : nth (ls.map CvS.cv) cls.toNat = (nth ls cls.toNat).cv := nth_map_lt _ hck
  have hvk : validB (nth ls cls.toNat).cv = true := hv _ (List.mem_map.2 ⟨_, nth_mem hck, rfl⟩)
  have hrk := (hls _ (nth_mem hck)).1.mono hR2
  obtain ⟨k, rfl⟩ := Int.eq_ofNat_of_zero_le hcl.1
  simp only [Int.toNat_natCast] at hck hnv hvk hrk eM
  subst hll
  have hbb := hR2 _ _ hb1
  refine zK (zU (zQ ?_))
  refine W.regionH _ (ES := (.blk b11 [.slice f q.1.vals.length fc, .int .i64 q.1.per, .int .i64 q.1.inc] :: E)) mixed ?_
  refine' WA.take 0 rfl qK qK qK rfl rfl qD (Yl.load1 tab_ok rfl rfl rfl (fun _ => rfl) ?r2 rfl ?h2) qS qR ?_
  case r2 => exact Rd.ro hbb
  case h2 => rfl
  refine tP 1 ?_
  refine tP 2 ?_
  refine WA.take 3 rfl qK qK qK rfl rfl qD (Yl.indexN tab_ok rfl rfl rfl rfl rfl rfl (fun _ => rfl) qN (by intro _; first | exact RS.has hla2 | exact qI)) qS qR ?_
  refine' WA.take 4 rfl qK qK qK rfl rfl qD (Yl.load1 tab_ok rfl rfl rfl (fun _ => rfl) ?r3 rfl ?h3) qS qR ?_
  case r3 => exact RS.rdD hla2 qO
  case h3 => rfl
  refine tL 5 (Rd.blk 0 rfl) ?_
  refine WA.callG 6 rfl qK heg rfl (by first | rfl | decide) rfl qD (CallOp.mkT rfl rfl rfl rfl) (hD (cf := (nth ls k).cv) (cg := q.1) (fc := (nth ls k).cap) (gc := fc) hvk hrk hqv hf w0 _) ?_
  rintro _ R3 E3 hR3 ⟨rfl, hsub3⟩
  refine ⟨hR3, List.Sublist.trans qS hsub3, ?_⟩
  refine WA.subE hsub3 ?_
  unfold devV
  refine tP 7 ?_
  refine tP 8 ?_
  refine zCE 9 1 ?_
  refine tP 10 ?_
  refine WA.done qK ?_
  refine zU (zT ?_)
  refine WE.retF tab_ok [_, _] rfl ⟨⟨_, _, _, rfl, rfl, rfl, qB, rfl⟩, rfl, trivial⟩ (by first | exact hR2 | exact hR2.trans hR3) ?_
  rw [eM, hnv]
  exact ⟨rfl, qS⟩



theorem DelaySrv_C {R : Ro} {aw at_ : Option Addr} {lw cw lt ct : Nat} {L : Ln} (hw : RS R 1 encI aw L.w) (hlw : L.w.length = lw) (ht : RS R 1 encI at_ L.tb) (hlt : L.tb.length = lt) {la : Option Addr} {lc ll : Nat} {ls : List CvS} (hla : RS R 3 encC la ls) (hll : ls.length = ll) (hlc : ll ≤ lc) (hls : ∀ x ∈ ls, RS R 1 encI x.a x.cv.vals ∧ x.cv.vals.length ≤ 100000) {za : Option Addr} {zc lz : Nat} {z : List Sz} (hzr : RS R 2 encZ za z) (hlz : z.length = lz) (hzc : lz ≤ zc) {cls : Int} (htc : lt ≤ ct) (w0 : World) (E : List Ent) : K.Fn Tryz.prog 16 [.agg #[.int .i64 L.kind, .int .i64 L.cap, .int .i64 L.n, .slice aw lw cw, .slice at_ lt ct], .int .i64 cls, .slice la ll lc, .slice za lz zc] w0 R E (fun r R' E' => r = devV (delayL L cls (ls.map CvS.cv) z) ∧ E.Sublist E') := by
 refine fE 36 Tryz.func16 ?_
 refine zQ (zG ?_)
 refine zO fun b4 => ?_
 refine zA fun b8 => ?_
 refine zR 1 rfl (zN (zU (zQ (zQ (zG (zR 1 rfl ?_))))))
 refine yL (Rd.add (Rd.blk 1 rfl) _) ?_
 refine zR 1 rfl (zN (zU ?_))
 refine W.condN rfl (fun hc0 => ?_) (fun hc0 => ?_)
 ·try dsimp only at hc0
  have e : delayL L cls (ls.map CvS.cv) z = measL delayC L cls (ls.map CvS.cv) z := if_pos hc0
  refine zQ ?_
  refine W.regionH _ (ES := (.blk b4 [.int .i64 L.kind, .int .i64 L.cap, .int .i64 L.n, .slice aw lw cw, .slice at_ lt ct] :: E)) mixed ?_
  refine tL 1 (Rd.blk 0 rfl) ?_
  refine tP 2 ?_
  refine tP 3 ?_
  refine tP 4 ?_
  refine WA.callG 0 rfl qK en46 rfl (by first | rfl | decide) rfl qD (CallOp.mkT rfl rfl rfl rfl) (Measure_C w0 _) ?_
  rintro _ R2 E2 hR2 ⟨b1, rfl, hb1, hsub1⟩
  refine ⟨hR2, List.Sublist.trans qS hsub1, ?_⟩
  refine WA.subE hsub1 ?_
  refine WA.callG 5 rfl qK en85 rfl (by first | rfl | decide) rfl qD (CallOp.mkT rfl rfl rfl rfl) (Measure1_C (hw.mono hR2) hlw (ht.mono hR2) hlt (hla.mono hR2) hll hlc (fun x hx => ⟨(hls x hx).1.mono hR2, (hls x hx).2⟩) (hzr.mono hR2) hlz hzc htc (D := delayC) en47 (fun a1 a2 a3 a4 w0 E => DelayG_C a1 a2 a3 a4 w0 E) hb1 w0 _) ?_
  rintro _ R3 E3 hR3 ⟨rfl, hsub3⟩
  have hR9 := hR2.trans hR3
  refine ⟨hR9, List.Sublist.trans qS hsub3, ?_⟩
  refine WA.subE hsub3 ?_
  unfold devV
  refine tP 6 ?_
  refine tP 7 ?_
  refine zCE 8 0 ?_
  refine tP 9 ?_
  refine WA.done qK ?_
  refine zU (zT (wt ?_))
  refine WE.retF tab_ok [_, _] rfl ⟨⟨_, _, _, rfl, rfl, rfl, qB, rfl⟩, rfl, trivial⟩ (by first | exact hR9 | exact RLe.refl _ | exact hR3) ?_
  rw [e]
  exact ⟨rfl, qS⟩
 ·try dsimp only at hc0
  refine zK (zU (zQ (zQ (zG ?_))))
  refine yL (Rd.blk 1 rfl) ?_
  refine zR 3 rfl ?_
  refine WG.callV en45 rfl rfl qD (CallOp.mk' rfl rfl rfl rfl) (fun _ => rfl) (fun hg => ArgSrv_V hw hlw ht hlt hla hll hlc hls hzr hlz hzc) ?_
  refine zR 1 rfl (zN (zU (zQ (zG (zR 2 rfl (zN (zU ?_)))))))
  refine W.condN rfl (fun hc1 => ?_) (fun hc1 => ?_)
  ·try dsimp only at hc1
   have e : delayL L cls (ls.map CvS.cv) z = ((false, 0, 0), argE L cls (ls.map CvS.cv) z) := (if_neg (fun h => h hc0)).trans (if_pos hc1)
   refine zQ (zG ?_)
   -- build
   refine WG.y rfl rfl qD (Yl.build (parts := []) tab_ok rfl rfl rfl rfl (fun _ => rfl) rfl rfl) ?_
   refine zR 1 rfl ?_
   refine zE 0 ?_
   refine zR 1 rfl (zN (zU (zT (wt ?_))))
   refine WE.retF tab_ok [_, _] rfl ⟨⟨_, _, _, rfl, rfl, rfl, qB, rfl⟩, rfl, trivial⟩ (by first | exact hR9 | exact RLe.refl _ | exact hR3) ?_
   rw [e]
   exact ⟨rfl, qS⟩
  ·try dsimp only at hc1
   have e : delayL L cls (ls.map CvS.cv) z = allC L.cap (ls.map CvS.cv) := (if_neg (fun h => h hc0)).trans (if_neg (fun h => h hc1))
   refine zK (zU (zQ (zG ?_)))
   refine yL (Rd.blk 1 rfl) ?_
   refine zR 1 rfl ?_
   refine WL.call en48 rfl rfl qD (CallOp.mkT rfl rfl rfl rfl) (AllSrv_C hw hlw ht hlt hla hll (fun x hx => ⟨(hls x hx).1, (arg_facts hc1).2.2.2 _ (List.mem_map.2 ⟨x, hx, rfl⟩)⟩) ⟨(chk_facts (arg_facts hc1).1).2.1, (chk_facts (arg_facts hc1).1).2.2.1⟩ w0 _) ?_
   rintro _ R3 E3 hR3 ⟨rfl, hsub3⟩
   refine WL.subE hsub3 ?_
   unfold devV
   refine zR 2 rfl ?_
   refine zE 0 ?_
   refine zR 1 rfl (zN (zU (zT ?_)))
   refine WE.retF tab_ok [_, _] rfl ⟨⟨_, _, _, rfl, rfl, rfl, qB, rfl⟩, rfl, trivial⟩ (by first | exact hR9 | exact RLe.refl _ | exact hR3) ?_
   rw [e]
   exact ⟨rfl, qS⟩



set_option maxHeartbeats 1000000 in
theorem DrawC_C {R : Ro} {b : Nat} {a : Option Addr} {cp : Nat} {xs : List Int} {c : Nat} (w0 : World) (ha : RS R 1 encI a xs) : FnAt Tryz.prog 9 [.pointer (some ⟨b, 0, none⟩)] w0 R (srcE b a cp xs c)
  (fun v R' e' N => ∃ (L : Ln) (aw at_ : Option Addr) (cw ct cn : Nat), v = .agg #[.int .i64 L.kind, .int .i64 L.cap, .int .i64 L.n, .slice aw L.w.length cw, .slice at_ L.tb.length ct] ∧ RS R' 1 encI aw L.w ∧ RS R' 1 encI at_ L.tb ∧ DrawOk L ∧ L.tb.length ≤ ct ∧ e' = srcE b a cp xs cn ∧ N = []) := by
 intro F
 refine fE 59 Tryz.func9 ?_
 refine zQ (zG ?_)
 refine zA fun b2 => ?_
 refine zN (zU (zQ (zG (zR 1 rfl ?_))))
 refine WL.callAt 1 en23 rfl rfl qD (CallOp.mkT rfl rfl rfl rfl) rfl (N_C w0 ha (by constructor <;> decide) _) ?_
 rintro _ _ _ _ - ⟨rfl, rfl, rfl, rfl⟩
 have hm0 := mod_range (nth xs (c)) (show (1 : Int) ≤ 5 by decide)
 refine yA ?_
 refine zR 1 rfl ?_
 refine WL.callAt 1 en23 rfl rfl qD (CallOp.mkT rfl rfl rfl rfl) rfl (N_C w0 ha (by constructor <;> decide) _) ?_
 rintro _ _ _ _ - ⟨rfl, rfl, rfl, rfl⟩
 have hm1 := mod_range (nth xs (c + 1)) (show (1 : Int) ≤ 40 by decide)
 refine yA ?_
 -- build
 refine WG.y rfl rfl qD (Yl.build (parts := [(0, .tmp 7), (1, .tmp 10), (2, .const (.int .i64 3))]) tab_ok rfl rfl rfl rfl (fun _ => rfl) rfl rfl) ?_
 refine zA fun b3 => ?_
 refine zE 0 ?_
 refine zN (zU (zQ (zQ (zG (zR 1 rfl ?_)))))
 refine yL (Rd.add (Rd.blk 0 rfl) _) ?_
 refine zN (zU (zB (zQ (zG (zR 2 rfl (zN (zU ?_)))))))
 refine W.condE rfl (fun hc0 => ?_) (fun hc0 => ?_)
 ·try dsimp only at hc0
  refine zG (zR 1 rfl ?_)
  refine WL.callAt 2 en23 rfl rfl qD (CallOp.mkT rfl rfl rfl rfl) rfl (N_C w0 ha (by constructor <;> decide) _) ?_
  rintro _ _ _ _ - ⟨rfl, rfl, rfl, rfl⟩
  have hm2 := mod_range (nth xs (c + 1 + 1)) (show (1 : Int) ≤ 3 by decide)
  refine yA ?_
  refine zR 1 rfl ?_
  refine WL.callAt 2 en23 rfl rfl qD (CallOp.mkT rfl rfl rfl rfl) rfl (N_C w0 ha (by constructor <;> decide) _) ?_
  rintro _ _ _ _ - ⟨rfl, rfl, rfl, rfl⟩
  have hm3 := mod_range (nth xs (c + 1 + 1 + 1)) (show (1 : Int) ≤ 3 by decide)
  refine yA ?_
  refine zR 1 rfl ?_
  refine WL.callAt 2 en23 rfl rfl qD (CallOp.mkT rfl rfl rfl rfl) rfl (N_C w0 ha (by constructor <;> decide) _) ?_
  rintro _ _ _ _ - ⟨rfl, rfl, rfl, rfl⟩
  have hm4 := mod_range (nth xs (c + 1 + 1 + 1 + 1)) (show (1 : Int) ≤ 3 by decide)
  refine yA ?_
  refine WL.ef rfl rfl qD (Ef.buildSliceD (enc := encI) (parts := [.tmp 18, .tmp 21, .tmp 24]) [_, _, _] tab_ok rfl rfl rfl rfl rfl rfl rfl rfl qD qD (fun a25 => ?_))
  refine zR 1 rfl ?_
  refine zF 1 ?_
  refine WL.freeze (enc := encI) (xs := ([1 + mod (nth xs (c + 1 + 1)) 3, 1 + mod (nth xs (c + 1 + 1 + 1)) 3, 1 + mod (nth xs (c + 1 + 1 + 1 + 1)) 3] : List Int)) 0 rfl ?_
  intro R1 hR1 hwz
  refine zN (zL (zU (zQ (zG ?_))))
  refine yL (Rd.blk 0 rfl) ?_
  refine zE 1 ?_
  refine zN (zU (zT ?_))
  refine WE.retFS (E' := srcE b a cp xs (c + 1 + 1 + 1 + 1 + 1) :: F) qS tab_ok [_] rfl ⟨⟨_, _, _, rfl, rfl, rfl, qB, rfl⟩, trivial⟩ (by first | exact hR1 | exact RLe.refl _) ?_
  exact ⟨_, [], rfl, ⟨(1 + mod (nth xs c) 5), (3 + mod (nth xs (c + 1)) 40), 3, ([1 + mod (nth xs (c + 1 + 1)) 3, 1 + mod (nth xs (c + 1 + 1 + 1)) 3, 1 + mod (nth xs (c + 1 + 1 + 1 + 1)) 3] : List Int), []⟩, _, none, _, 0, _, rfl, hwz, rs_nil, ⟨by dsimp only; omega, rfl, by dsimp only; omega, fun h => by dsimp only at h; omega, fun _ => ⟨rfl, fun x hx => by simp only [List.mem_cons, List.not_mem_nil, or_false] at hx; rcases hx with rfl | rfl | rfl <;> omega, rfl⟩, fun h => by dsimp only at h; omega, fun h => by dsimp only at h; omega⟩, Nat.le_refl 0, rfl, rfl⟩
 ·try dsimp only at hc0
  refine zQ (zG (zR 2 rfl (zN (zU ?_))))
  refine W.condE rfl (fun hc1 => ?_) (fun hc1 => ?_)
  ·try dsimp only at hc1
   refine zG (zR 1 rfl ?_)
   refine WL.callAt 2 en23 rfl rfl qD (CallOp.mkT rfl rfl rfl rfl) rfl (N_C w0 ha (by constructor <;> decide) _) ?_
   rintro _ _ _ _ - ⟨rfl, rfl, rfl, rfl⟩
   have hm2 := mod_range (nth xs (c + 1 + 1)) (show (1 : Int) ≤ 50 by decide)
   refine yA ?_
   refine zR 1 rfl ?_
   refine WL.callAt 2 en23 rfl rfl qD (CallOp.mkT rfl rfl rfl rfl) rfl (N_C w0 ha (by constructor <;> decide) _) ?_
   rintro _ _ _ _ - ⟨rfl, rfl, rfl, rfl⟩
   have hm3 := mod_range (nth xs (c + 1 + 1 + 1)) (show (1 : Int) ≤ 50 by decide)
   refine yA ?_
   refine zR 1 rfl ?_
   refine WL.callAt 2 en23 rfl rfl qD (CallOp.mkT rfl rfl rfl rfl) rfl (N_C w0 ha (by constructor <;> decide) _) ?_
   rintro _ _ _ _ - ⟨rfl, rfl, rfl, rfl⟩
   have hm4 := mod_range (nth xs (c + 1 + 1 + 1 + 1)) (show (1 : Int) ≤ 50 by decide)
   refine yA ?_
   refine WL.ef rfl rfl qD (Ef.buildSliceD (enc := encI) (parts := [.tmp 31, .tmp 34, .tmp 37]) [_, _, _] tab_ok rfl rfl rfl rfl rfl rfl rfl rfl qD qD (fun a38 => ?_))
   refine zR 1 rfl ?_
   refine zF 1 ?_
   refine WL.freeze (enc := encI) (xs := ([1 + mod (nth xs (c + 1 + 1)) 50, 1 + mod (nth xs (c + 1 + 1 + 1)) 50, 1 + mod (nth xs (c + 1 + 1 + 1 + 1)) 50] : List Int)) 0 rfl ?_
   intro R1 hR1 hwz
   refine zN (zL (zU (zQ (zG ?_))))
   refine yL (Rd.blk 0 rfl) ?_
   refine zE 1 ?_
   refine zN (zU (zT ?_))
   refine WE.retFS (E' := srcE b a cp xs (c + 1 + 1 + 1 + 1 + 1) :: F) qS tab_ok [_] rfl ⟨⟨_, _, _, rfl, rfl, rfl, qB, rfl⟩, trivial⟩ (by first | exact hR1 | exact RLe.refl _) ?_
   exact ⟨_, [], rfl, ⟨(1 + mod (nth xs c) 5), (3 + mod (nth xs (c + 1)) 40), 3, ([1 + mod (nth xs (c + 1 + 1)) 50, 1 + mod (nth xs (c + 1 + 1 + 1)) 50, 1 + mod (nth xs (c + 1 + 1 + 1 + 1)) 50] : List Int), []⟩, _, none, _, 0, _, rfl, hwz, rs_nil, ⟨by dsimp only; omega, rfl, by dsimp only; omega, fun h => by dsimp only at h; omega, fun h => by dsimp only at h; omega, fun _ => ⟨rfl, fun x hx => by simp only [List.mem_cons, List.not_mem_nil, or_false] at hx; rcases hx with rfl | rfl | rfl <;> omega, rfl⟩, fun h => by dsimp only at h; omega⟩, Nat.le_refl 0, rfl, rfl⟩
  ·try dsimp only at hc1
   refine zQ (zG (zR 2 rfl (zN (zU ?_))))
   refine W.condE rfl (fun hc2 => ?_) (fun hc2 => ?_)
   ·try dsimp only at hc2
    refine zQ (zG ?_)
    refine WL.ef rfl rfl qD (Ef.buildSliceD (enc := encI) (parts := [.const (.int .i64 0), .const (.int .i64 1), .const (.int .i64 2)]) [_, _, _] tab_ok rfl rfl rfl rfl rfl rfl rfl rfl qD qD (fun a42 => ?_))
    refine zR 1 rfl ?_
    refine zF 1 ?_
    refine zN (zU (zQ (zG (zR 1 rfl ?_))))
    refine WL.callAt 3 en23 rfl rfl qD (CallOp.mkT rfl rfl rfl rfl) rfl (N_C w0 ha (by constructor <;> decide) _) ?_
    rintro _ _ _ _ - ⟨rfl, rfl, rfl, rfl⟩
    have hm8 := mod_range (nth xs (c + 1 + 1)) (show (1 : Int) ≤ 4 by decide)
    obtain ⟨k8, hk8⟩ := Int.eq_ofNat_of_zero_le hm8.1
    rw [hk8]
    refine zR 1 rfl (zN (zU (zB ?_)))
    refine W.loopK (β := Nat × List Int × Nat × Option Addr × Nat) (fun (k, ys, cn, a9, c9) => 3 ≤ ys.length ∧ ys.length + k ≤ 6 ∧ ∀ y ∈ ys, -1 ≤ y ∧ y ≤ 2) (fun (k, ys, cn, a9, c9) => [(4, true, .int .i64 (k : Int))]) [0, 2, 3] [_, _, _] [] _ rfl (fun (k, ys, cn, a9, c9) => [(0, .sl 3 1 a9 c9 (ys.map encI)), (1, .blk b3 [.int .i64 (1 + mod (nth xs c) 5), .int .i64 (3 + mod (nth xs (c + 1)) 40), .int .i64 3, .slice none 0 0, .slice a9 ys.length c9]), (3, srcE b a cp xs cn)]) (fun (k, ys, cn, a9, c9) => k) ((k8, [0, 1, 2], c + 1 + 1 + 1, some ⟨a42, 0, none⟩, 3)) (⟨by decide, by dsimp only [List.length_cons, List.length_nil]; omega, by decide⟩) ⟨rfl, rfl, rfl, rfl, rfl⟩ qS ?_
    intro zz hst
    obtain ⟨k, ys, cn, a9, c9⟩ := zz
    dsimp only [zipE, setAll, List.cons_append, List.nil_append, List.set_cons_zero, List.set_cons_succ] at hst ⊢
    obtain ⟨hy1, hy2, hy3⟩ := hst
    refine zQ (zQ (zG (zR 2 rfl (zN (zU ?_)))))
    refine W.condD rfl (fun hc3 => ?_) (fun hc3 => ?_)
    ·try dsimp only at hc3
     obtain ⟨k, rfl⟩ : ∃ j, k = j + 1 := ⟨k - 1, by omega⟩
     refine zK (zU (zQ (zB ?_)))
     refine W.regionH _ (ES := (.blk b2 [.int .i64 0, .int .i64 0, .int .i64 0, .slice none 0 0, .slice none 0 0] :: F)) mixed ?_
     refine tP 0 ?_
     refine tP 2 ?_
     refine WA.br2 (i := 1) (j := 3) qK ?_ ?_
     ·
      refine sL (Rd.add (Rd.blk 1 rfl) _) ?_
      refine WA.callAt 3 3 rfl qK en23 rfl rfl qD (CallOp.mkT rfl rfl rfl rfl) rfl (N_C w0 ha (by constructor <;> decide) _) ?_
      rintro _ _ _ _ - ⟨rfl, rfl, rfl, rfl⟩
      refine ⟨RLe.refl _, qS, ?_⟩
      have hm9 := mod_range (nth xs cn) (show (1 : Int) ≤ 4 by decide)
      refine tS 4 ?_
      refine WA.eff 5 rfl qK rfl rfl qD (Ef.buildSliceD (enc := encI) (parts := [.tmp 54]) [_] tab_ok rfl rfl rfl rfl rfl rfl rfl rfl qD qD (fun a55 => ?_))
      refine ⟨qR, qS, ?_⟩
      refine WA.eff 6 rfl (by kernel_rfl) rfl rfl (by decide) (Ef.appendD 1 0 tab_ok rfl rfl rfl rfl rfl rfl rfl rfl rfl rfl rfl (fun _ _ => rfl) (by simp only [List.length_cons, List.length_nil]; omega) (by simp only [List.length_cons, List.length_nil]; omega) (fun a56 c56 ha56 => ?_))
      refine ⟨qR, qS, ?_⟩
      refine tP 7 ?_
      refine zCF 8 2 ?_
      refine WA.done qK ?_
      refine zL (zU (zG (zR 1 rfl ?_)))
      refine yS ?_
      refine zR 1 rfl (zN ?_)
      refine WE.again ((k, ys ++ [mod (nth xs cn) 4 - 1], cn + 1, a56, c56)) (⟨by simp only [List.length_append, List.length_cons, List.length_nil]; omega, by simp only [List.length_append, List.length_cons, List.length_nil]; omega, fun y hy => by rcases List.mem_append.1 hy with h | h; exact hy3 y h; have := List.mem_singleton.1 h; omega⟩) (by (try dsimp only); omega) ⟨vint (by omega), rfl, rfl, rfl, rfl⟩ (RLe.refl _) qS
     ·
      refine WS.callAt 3 rfl en23 rfl rfl qD (CallOp.mkT rfl rfl rfl rfl) rfl (N_C w0 ha (by constructor <;> decide) _) ?_
      rintro _ _ _ _ - ⟨rfl, rfl, rfl, rfl⟩
      refine ⟨RLe.refl _, qS, ?_⟩
      have hm9 := mod_range (nth xs cn) (show (1 : Int) ≤ 4 by decide)
      refine tS 4 ?_
      refine WA.br2 (i := 1) (j := 5) qK ?_ ?_
      ·
       refine sL (Rd.add (Rd.blk 1 rfl) _) ?_
       refine WA.eff 5 rfl qK rfl rfl qD (Ef.buildSliceD (enc := encI) (parts := [.tmp 54]) [_] tab_ok rfl rfl rfl rfl rfl rfl rfl rfl qD qD (fun a55 => ?_))
       refine ⟨qR, qS, ?_⟩
       refine WA.eff 6 rfl (by kernel_rfl) rfl rfl (by decide) (Ef.appendD 1 0 tab_ok rfl rfl rfl rfl rfl rfl rfl rfl rfl rfl rfl (fun _ _ => rfl) (by simp only [List.length_cons, List.length_nil]; omega) (by simp only [List.length_cons, List.length_nil]; omega) (fun a56 c56 ha56 => ?_))
       refine ⟨qR, qS, ?_⟩
       refine tP 7 ?_
       refine zCF 8 2 ?_
       refine WA.done qK ?_
       refine zL (zU (zG (zR 1 rfl ?_)))
       refine yS ?_
       refine zR 1 rfl (zN ?_)
       refine WE.again ((k, ys ++ [mod (nth xs cn) 4 - 1], cn + 1, a56, c56)) (⟨by simp only [List.length_append, List.length_cons, List.length_nil]; omega, by simp only [List.length_append, List.length_cons, List.length_nil]; omega, fun y hy => by rcases List.mem_append.1 hy with h | h; exact hy3 y h; have := List.mem_singleton.1 h; omega⟩) (by (try dsimp only); omega) ⟨vint (by omega), rfl, rfl, rfl, rfl⟩ (RLe.refl _) qS
      ·
       refine WS.eff rfl rfl rfl qD (Ef.buildSliceD (enc := encI) (parts := [.tmp 54]) [_] tab_ok rfl rfl rfl rfl rfl rfl rfl rfl qD qD (fun a55 => ?_))
       refine ⟨qR, qS, ?_⟩
       refine lL 1 (Rd.add (Rd.blk 2 rfl) _) ?_
       refine WA.eff 6 rfl (by kernel_rfl) rfl rfl (by decide) (Ef.appendD 1 0 tab_ok rfl rfl rfl rfl rfl rfl rfl rfl rfl rfl rfl (fun _ _ => rfl) (by simp only [List.length_cons, List.length_nil]; omega) (by simp only [List.length_cons, List.length_nil]; omega) (fun a56 c56 ha56 => ?_))
       refine ⟨qR, qS, ?_⟩
       refine tP 7 ?_
       refine zCF 8 2 ?_
       refine WA.done qK ?_
       refine zL (zU (zG (zR 1 rfl ?_)))
       refine yS ?_
       refine zR 1 rfl (zN ?_)
       refine WE.again ((k, ys ++ [mod (nth xs cn) 4 - 1], cn + 1, a56, c56)) (⟨by simp only [List.length_append, List.length_cons, List.length_nil]; omega, by simp only [List.length_append, List.length_cons, List.length_nil]; omega, fun y hy => by rcases List.mem_append.1 hy with h | h; exact hy3 y h; have := List.mem_singleton.1 h; omega⟩) (by (try dsimp only); omega) ⟨vint (by omega), rfl, rfl, rfl, rfl⟩ (RLe.refl _) qS
    ·try dsimp only at hc3
     refine W.cap 0 rfl ?_
     intro hcpT
     rw [List.length_map] at hcpT
     refine W.freeze (enc := encI) (xs := ys) 0 rfl ?_
     intro R1 hR1 hwz
     refine zX ?_
     refine wx (wx (zY (zL (zU (zQ (zG ?_))))))
     refine yL (Rd.blk 0 rfl) ?_
     refine zE 1 ?_
     refine zN (zU (zT ?_))
     refine WE.retFS (E' := srcE b a cp xs (cn) :: F) qS tab_ok [_] rfl ⟨⟨_, _, _, rfl, rfl, rfl, qB, rfl⟩, trivial⟩ (by first | exact hR1 | exact RLe.refl _) ?_
     exact ⟨_, [], rfl, ⟨(1 + mod (nth xs c) 5), (3 + mod (nth xs (c + 1)) 40), 3, [], ys⟩, none, _, 0, _, _, rfl, rs_nil, hwz, ⟨by dsimp only; omega, rfl, by dsimp only; omega, fun h => by dsimp only at h; omega, fun h => by dsimp only at h; omega, fun h => by dsimp only at h; omega, fun _ => ⟨rfl, hy1, by dsimp only; omega, hy3⟩⟩, hcpT, rfl, rfl⟩
   ·try dsimp only at hc2
    refine zK (zL (zU (zQ (zG ?_))))
    refine yL (Rd.blk 0 rfl) ?_
    refine zE 1 ?_
    refine zN (zU (zT ?_))
    refine WE.retFS (E' := srcE b a cp xs (c + 1 + 1) :: F) qS tab_ok [_] rfl ⟨⟨_, _, _, rfl, rfl, rfl, qB, rfl⟩, trivial⟩ (by first | exact hR1 | exact RLe.refl _) ?_
    exact ⟨_, [], rfl, ⟨(1 + mod (nth xs c) 5), (3 + mod (nth xs (c + 1)) 40), 3, [], []⟩, none, none, 0, 0, _, rfl, rs_nil, rs_nil, ⟨by dsimp only; omega, rfl, by dsimp only; omega, fun _ => ⟨rfl, rfl⟩, fun h => by dsimp only at h; omega, fun h => by dsimp only at h; omega, fun h => by dsimp only at h; omega⟩, Nat.le_refl 0, rfl, rfl⟩



theorem AboveG_V {R : Ro} {a1 a2 : Option Addr} {c1 c2 : Nat} {m1 m2 : Cv} (ha1 : RS R 1 encI a1 m1.vals) (ha2 : RS R 1 encI a2 m2.vals) (hv1 : validB m1 = true) (hv2 : validB m2 = true) {t : Nat} (ht : t ≤ 20000) : FnV Tryz.prog 103 [.agg #[.slice a1 m1.vals.length c1, .int .i64 m1.per, .int .i64 m1.inc], .agg #[.slice a2 m2.vals.length c2, .int .i64 m2.per, .int .i64 m2.inc], .int .i64 (t : Int)] R (.int .i64 (abvI m1 m2 t)) := by
 refine Fn.toV (fun w0 E => ?_)
 have ht1 := cvF_low15 hv1 (show t ≤ 100000 by omega)
 have ht2 := cvF_low15 hv2 (show t ≤ 100000 by omega)
 unfold INF at ht1 ht2
 refine fE 26 Tryz.func103 ?_
 refine zQ (zG ?_)
 refine zO fun b3 => ?_
 refine zO fun b4 => ?_
 refine zR 1 rfl (zN (zU (zQ ?_)))
 refine W.regionQ _ mixed qK ?_
 refine yL (Rd.blk 1 rfl) ?_
 refine zR 1 rfl ?_
 refine WG.callV en50 rfl rfl qD (CallOp.mk' rfl rfl rfl rfl) (fun _ => rfl) (fun hg => AtG_V hv1 ha1 qO) ?_
 refine yL (Rd.blk 0 rfl) ?_
 refine zR 1 rfl ?_
 refine WG.callV en50 rfl rfl qD (CallOp.mk' rfl rfl rfl rfl) (fun _ => rfl) (fun hg => AtG_V hv2 ha2 qO) ?_
 refine zR 2 rfl (zN (zU (zQ (zQ (zG (zR 3 rfl ?_))))))
 refine yP ?_
 refine yP ?_
 refine yO ?_
 refine zN (zU ?_)
 refine W.cond rfl (fun hc0 => ?_) (fun hc0 => ?_)
 ·try simp only [zk] at hc0
  have e : cvF m1 t = INF ∨ cvF m2 t = INF := hc0
  refine zQ (zQ (zG (zR 2 rfl (zN (zU ?_)))))
  refine W.condE rfl (fun hc1 => ?_) (fun hc1 => ?_)
  ·try dsimp only at hc1
   refine zQ (zG (zR 1 rfl (zN (zU (zT (wt (wt ?_)))))))
   refine sE (E := E) ?_
   refine WE.retF tab_ok [_] rfl ⟨rfl, trivial⟩ (RLe.refl _) ?_
   exact ⟨by unfold abvI; rw [if_pos e, if_pos (show cvF m2 t = INF from hc1)]; rfl, rfl⟩
  ·try dsimp only at hc1
   refine zK (zU (zQ (zG (zR 1 rfl (zN (zU (zT (wt ?_))))))))
   refine sE (E := E) ?_
   refine WE.retF tab_ok [_] rfl ⟨rfl, trivial⟩ (RLe.refl _) ?_
   exact ⟨by unfold abvI; rw [if_pos e, if_neg (show ¬ cvF m2 t = INF from hc1)]; rfl, rfl⟩
 ·try simp only [zk] at hc0
  have e : ¬ (cvF m1 t = INF ∨ cvF m2 t = INF) := by unfold INF; omega
  refine zK (zU (zQ (zG (zR 2 rfl ?_))))
  refine yS ?_
  refine zR 1 rfl (zN (zU (zT ?_)))
  refine sE (E := E) ?_
  refine WE.retF tab_ok [_] rfl ⟨rfl, trivial⟩ (RLe.refl _) ?_
  exact ⟨by unfold abvI; rw [if_neg e]; rfl, rfl⟩

theorem WindowG_V {R : Ro} {a1 a2 : Option Addr} {c1 c2 : Nat} {m1 m2 : Cv} (ha1 : RS R 1 encI a1 m1.vals) (ha2 : RS R 1 encI a2 m2.vals) (hv1 : validB m1 = true) (hv2 : validB m2 = true) : FnV Tryz.prog 102 [.agg #[.slice a1 m1.vals.length c1, .int .i64 m1.per, .int .i64 m1.inc], .agg #[.slice a2 m2.vals.length c2, .int .i64 m2.per, .int .i64 m2.inc]] R (.tuple #[.int .i64 (winN m1 m2 : Int), .int .i64 (lcmC m1 m2 : Int), .int .i64 (grI m1 m2)]) := by
 obtain ⟨w1, w2, w3⟩ := win_le hv1 hv2
 obtain ⟨_, k1, k2, k3, k4, k5, k6, k7⟩ := valid_range hv1
 obtain ⟨_, l1, l2, l3, l4, l5, l6, l7⟩ := valid_range hv2
 have hd1 : 0 ≤ (lcmC m1 m2 : Int) / m1.per := Int.ediv_nonneg (by omega) (by omega)
 have hd2 : 0 ≤ (lcmC m1 m2 : Int) / m2.per := Int.ediv_nonneg (by omega) (by omega)
 have he1 : (lcmC m1 m2 : Int) / m1.per ≤ lcmC m1 m2 := Int.ediv_le_self _ (by omega)
 have he2 : (lcmC m1 m2 : Int) / m2.per ≤ lcmC m1 m2 := Int.ediv_le_self _ (by omega)
 have hm1 := mulB (a := m1.inc) (b := (lcmC m1 m2 : Int) / m1.per) (A := 1073741824) (B := 14400) (by omega) (by omega)
 have hm2 := mulB (a := m2.inc) (b := (lcmC m1 m2 : Int) / m2.per) (A := 1073741824) (B := 14400) (by omega) (by omega)
 refine Fn.toV (fun w0 E => ?_)
 have hp1 : ((m1.per.toNat : Nat) : Int) = m1.per := by omega
 have hp2 : ((m2.per.toNat : Nat) : Int) = m2.per := by omega
 refine fE 38 Tryz.func102 ?_
 refine zQ (zG ?_)
 refine zO fun b2 => ?_
 refine zO fun b3 => ?_
 refine zR 3 rfl (zN (zU (zQ ?_)))
 refine W.regionQ _ mixed qK ?_
 refine zR 1 rfl ?_
 refine yL (Rd.add (Rd.blk 1 rfl) _) ?_
 refine zR 2 rfl ?_
 refine yL (Rd.add (Rd.blk 0 rfl) _) ?_
 refine zR 3 rfl ?_
 refine yL (Rd.add (Rd.blk 1 rfl) _) ?_
 refine zR 1 rfl ?_
 refine yL (Rd.add (Rd.blk 0 rfl) _) ?_
 refine WG.callV (v := .int .i64 (lcmC m1 m2 : Int)) en99 rfl rfl qD (CallOp.mk' rfl rfl rfl rfl) (fun _ => rfl) (fun hg => by
  have h := Lcm_V (R := R) (a := m1.per.toNat) (b := m2.per.toNat) (by omega) (by omega)
  rw [hp1, hp2] at h
  exact h) ?_
 refine zR 2 rfl (zN (zU (zQ ?_)))
 refine W.regionQ _ mixed qK ?_
 refine zR 3 rfl ?_
 refine yL (Rd.add (Rd.blk 1 rfl) _) ?_
 refine zR 2 rfl ?_
 refine yL (Rd.add (Rd.blk 1 rfl) _) ?_
 refine WG.y rfl rfl qD (Yl.quo rfl rfl rfl (fun _ => rfl) qA (by intro _; omega)) ?_
 refine WG.y rfl rfl qD (Yl.mul rfl rfl rfl (fun _ => rfl) qA) ?_
 refine zR 1 rfl ?_
 refine yL (Rd.add (Rd.blk 0 rfl) _) ?_
 refine zR 2 rfl ?_
 refine yL (Rd.add (Rd.blk 0 rfl) _) ?_
 refine WG.y rfl rfl qD (Yl.quo rfl rfl rfl (fun _ => rfl) qA (by intro _; omega)) ?_
 refine WG.y rfl rfl qD (Yl.mul rfl rfl rfl (fun _ => rfl) qA) ?_
 refine yS ?_
 refine zR 3 rfl (zN (zU (zT ?_)))
 refine sE (E := E) ?_
 refine WE.retF tab_ok [_, _, _] rfl ⟨rfl, rfl, rfl, trivial⟩ (RLe.refl _) ?_
 refine ⟨?_, rfl⟩
 have e : (winN m1 m2 : Int) = (if (m1.vals.length : Int) < (m2.vals.length : Int) then (m2.vals.length : Int) else (m1.vals.length : Int)) := by unfold winN; split <;> split <;> omega
 rw [e]; rfl

theorem ExceedsG_C {R : Ro} {a1 a2 : Option Addr} {c1 c2 : Nat} {m1 m2 : Cv} (ha1 : RS R 1 encI a1 m1.vals) (ha2 : RS R 1 encI a2 m2.vals) (hv1 : validB m1 = true) (hv2 : validB m2 = true) (w0 : World) (E : List Ent) : K.Fn Tryz.prog 61 [.agg #[.slice a1 m1.vals.length c1, .int .i64 m1.per, .int .i64 m1.inc], .agg #[.slice a2 m2.vals.length c2, .int .i64 m2.per, .int .i64 m2.inc]] w0 R E (fun v R' E' => ∃ z : Int, v = .tuple #[.int .i64 z, .bool (!leB m1 m2), .int .i64 0] ∧ R = R' ∧ E.Sublist E') := by
 obtain ⟨w1, w2, w3⟩ := win_le hv1 hv2
 obtain ⟨_, k1, k2, k3, k4, k5, k6, k7⟩ := valid_range hv1
 obtain ⟨_, l1, l2, l3, l4, l5, l6, l7⟩ := valid_range hv2
 refine fE 87 Tryz.func61 ?_
 refine zQ (zG ?_)
 refine zO fun b2 => ?_
 refine zO fun b3 => ?_
 refine zR 3 rfl (zN (zU (zQ (zQ (zG ?_)))))
 refine yL (Rd.blk 1 rfl) ?_
 refine WG.callV en101 rfl rfl qD (CallOp.mk' rfl rfl rfl rfl) (fun _ => rfl) (fun hg => ValidG_V hv1 ha1) ?_
 refine zR 2 rfl ?_
 refine yG (Rd.blkC 0 rfl) ?_
 refine WG.callV en101 rfl rfl qD (CallOp.mk' rfl rfl rfl rfl) qE (fun hg => ValidG_V hv2 ha2) ?_
 refine yP ?_
 refine yO ?_
 refine zN (zU ?_)
 refine W.cond rfl (fun hc0 => ?_) (fun hc0 => ?_)
 ·try simp only [zk] at hc0
  (simp at hc0; done)
 ·try simp only [zk] at hc0
  refine zK (zU (zQ (zG ?_)))
  refine yL (Rd.blk 1 rfl) ?_
  refine yL (Rd.blk 0 rfl) ?_
  refine WG.callV en102 rfl rfl qD (CallOp.mk' rfl rfl rfl rfl) (fun _ => rfl) (fun hg => WindowG_V ha1 ha2 hv1 hv2) ?_
  refine zR 7 rfl (zN (zU (zQ (zQ (zG (zR 1 rfl (zN (zU (zB ?_)))))))))
  refine W.loopK (β := Nat) (fun t => t ≤ winN m1 m2 + lcmC m1 m2 ∧ ∀ i, i < t → abvI m1 m2 i ≤ 0) (fun t => [(10, true, .int .i64 (t : Int))]) [2, 3, 7, 8, 9] [_, _, _, _, _] [] _ rfl (fun t => []) (fun t => winN m1 m2 + lcmC m1 m2 - t) (0) (⟨Nat.zero_le _, fun i hi => absurd hi (Nat.not_lt_zero i)⟩) ⟨rfl, rfl, rfl, rfl, rfl, rfl, rfl⟩ qS ?_
  intro t hst
  dsimp only [zipE, setAll, List.cons_append, List.nil_append, List.set_cons_zero, List.set_cons_succ] at hst ⊢
  obtain ⟨ht, hpre⟩ := hst
  refine zQ (zQ (zG (zR 3 rfl ?_)))
  refine yA ?_
  refine zR 1 rfl (zN (zU ?_))
  refine W.condD rfl (fun hc1 => ?_) (fun hc1 => ?_)
  ·try dsimp only at hc1
   refine zK (zU (zQ (zB (zQ (zG ?_)))))
   refine yL (Rd.blk 1 rfl) ?_
   refine yL (Rd.blk 0 rfl) ?_
   refine zR 1 rfl ?_
   refine WG.callV en103 rfl rfl qD (CallOp.mk' rfl rfl rfl rfl) (fun _ => rfl) (fun hg => AboveG_V ha1 ha2 hv1 hv2 (t := t) qO) ?_
   refine zR 1 rfl (zN (zU ?_))
   refine W.condD rfl (fun hc2 => ?_) (fun hc2 => ?_)
   ·try dsimp only at hc2
    have hle : leB m1 m2 = false := by
     unfold leB
     rw [decide_eq_false (fun h => by have := h t (by omega); omega)]; rfl
    refine zQ (zG (zR 4 rfl (zN (zU (zT (wb (wt (wt (wb (wt ?_))))))))))
    refine WE.retF tab_ok [_, _, _] rfl ⟨rfl, rfl, rfl, trivial⟩ (RLe.refl _) ?_
    exact ⟨_, by rw [hle]; rfl, rfl, qS⟩
   ·try dsimp only at hc2
    refine zK (zL (zU (zG (zR 1 rfl ?_))))
    refine yA ?_
    refine zR 1 rfl (zN ?_)
    refine WE.again (t + 1) (⟨by omega, fun i hi => by
     rcases Nat.lt_or_ge i t with h | h
     ·exact hpre i h
     ·obtain rfl : i = t := by omega
      omega⟩) (by (try dsimp only); omega) ⟨rfl, rfl, rfl, rfl, rfl, rfl, rfl⟩ (RLe.refl _) qS
  ·try dsimp only at hc1
   have hno : noneAbv m1 m2 := fun i hi => hpre i (by omega)
   refine zX ?_
   refine wx (wx (zY (zU (zQ (zQ (zG ?_))))))
   refine yL (Rd.blk 1 rfl) ?_
   refine WG.callV en104 rfl rfl qD (CallOp.mk' rfl rfl rfl rfl) (fun _ => rfl) (fun hg => FiniteG_V hv1 ha1) ?_
   refine zR 2 rfl ?_
   refine yG (Rd.blkC 0 rfl) ?_
   refine WG.callV en104 rfl rfl qD (CallOp.mk' rfl rfl rfl rfl) qE (fun hg => FiniteG_V hv2 ha2) ?_
   refine yP ?_
   refine yO ?_
   refine zR 1 rfl ?_
   refine yP ?_
   refine yP ?_
   refine yO ?_
   refine zN (zU ?_)
   refine W.cond rfl (fun hc3 => ?_) (fun hc3 => ?_)
   ·try simp only [zk] at hc3
    have hle : leB m1 m2 = true := by
     unfold leB
     rw [decide_eq_true hno, Bool.true_and]
     rcases hc3 with (h | h) | h
     ·rw [h]; rfl
     ·rw [h]; simp
     ·rw [decide_eq_false (by omega)]; simp
    refine zQ (zG (zR 3 rfl (zN (zU (zT (wt ?_))))))
    refine WE.retF tab_ok [_, _, _] rfl ⟨rfl, rfl, rfl, trivial⟩ (RLe.refl _) ?_
    exact ⟨_, by rw [hle]; rfl, rfl, qS⟩
   ·try simp only [zk] at hc3
    have hgr : 0 < grI m1 m2 := by omega
    have hle : leB m1 m2 = false := by
     unfold leB
     rw [decide_eq_true hno, hc3.1.1, hc3.1.2, decide_eq_true hgr]; rfl
    refine zK (zU (zQ (zG (zR 1 rfl (zN (zU (zQ (zQ (zG (zR 2 rfl (zN (zU (zB ?_)))))))))))))
    refine W.loopK (β := Nat × Int) (fun (t, y) => winN m1 m2 ≤ t ∧ t ≤ winN m1 m2 + lcmC m1 m2 ∧ -1 ≤ y ∧ y ≤ 1000000000000000000) (fun (t, y) => [(11, true, .int .i64 y), (12, true, .int .i64 (t : Int))]) [2, 3, 7, 8, 9] [_, _, _, _, _] [] _ rfl (fun (t, y) => []) (fun (t, y) => winN m1 m2 + lcmC m1 m2 - t) ((winN m1 m2, -1)) (⟨Nat.le_refl _, by (try dsimp only); omega, by decide, by decide⟩) ⟨rfl, rfl, rfl, rfl, rfl, rfl, rfl, rfl⟩ qS ?_
    intro zz hst
    obtain ⟨t, y⟩ := zz
    dsimp only [zipE, setAll, List.cons_append, List.nil_append, List.set_cons_zero, List.set_cons_succ] at hst ⊢
    obtain ⟨ht0, ht, hy0, hy1⟩ := hst
    refine zQ (zQ (zG (zR 3 rfl ?_)))
    refine yA ?_
    refine zR 1 rfl (zN (zU ?_))
    refine W.condD rfl (fun hc4 => ?_) (fun hc4 => ?_)
    ·try dsimp only at hc4
     have hab := hno t (by omega)
     have hcb1 := (cvF_bound hv1 t).1
     have hab2 : -20000000000000 ≤ abvI m1 m2 t := by
      unfold abvI
      have c2 := cvF_bound hv2 t
      split
      ·split <;> omega
      ·rename_i hn
       rcases c2.2 with c | c
       ·exact absurd (.inr c) hn
       ·omega
     have hq0 : 0 ≤ -(abvI m1 m2 t) / grI m1 m2 := Int.ediv_nonneg (by omega) (by omega)
     have hq1 : -(abvI m1 m2 t) / grI m1 m2 ≤ -(abvI m1 m2 t) := Int.ediv_le_self _ (by omega)
     have hml := mulB (a := -(abvI m1 m2 t) / grI m1 m2 + 1) (b := (lcmC m1 m2 : Int)) (A := 20000000000001) (B := 14400) (by omega) (by omega)
     refine zK (zU (zQ (zB (zQ (zG ?_)))))
     refine yL (Rd.blk 1 rfl) ?_
     refine yL (Rd.blk 0 rfl) ?_
     refine zR 1 rfl ?_
     refine WG.callV en103 rfl rfl qD (CallOp.mk' rfl rfl rfl rfl) (fun _ => rfl) (fun hg => AboveG_V ha1 ha2 hv1 hv2 (t := t) qO) ?_
     refine WG.y rfl rfl qD (Yl.neg rfl rfl (fun _ => rfl) qA) ?_
     refine zR 1 rfl ?_
     refine WG.y rfl rfl qD (Yl.quo rfl rfl rfl (fun _ => rfl) qA (by intro _; omega)) ?_
     refine yA ?_
     refine zR 1 rfl (zN (zU (zQ (zG (zR 3 rfl ?_)))))
     refine yP ?_
     refine yP ?_
     refine yP ?_
     refine WG.y rfl rfl (by decide) (Yl.mul rfl rfl rfl qE (by intro hg; (try simp only [zk] at hg); constructor <;> (try dsimp only) <;> omega)) ?_
     refine WG.y rfl rfl (by decide) (Yl.add rfl rfl rfl qE (by intro hg; (try simp only [zk] at hg); constructor <;> (try dsimp only) <;> omega)) ?_
     refine yP ?_
     refine yP ?_
     refine yO ?_
     refine zN (zU ?_)
     refine W.cond rfl (fun hc5 => ?_) (fun hc5 => ?_)
     ·try simp only [zk] at hc5
      refine zG (zR 3 rfl ?_)
      refine WG.y rfl rfl qD (Yl.mul rfl rfl rfl (fun _ => rfl) qA) ?_
      refine yA ?_
      refine zR 1 rfl (zN (zL (zU (zG (zR 1 rfl ?_)))))
      refine yA ?_
      refine zR 1 rfl (zN ?_)
      refine WE.again ((t + 1, _)) (⟨by (try dsimp only); omega, by (try dsimp only); omega, by (try dsimp only); omega, by (try dsimp only); omega⟩) (by (try dsimp only); omega) ⟨rfl, rfl, rfl, rfl, rfl, rfl, rfl, rfl⟩ (RLe.refl _) qS
     ·try simp only [zk] at hc5
      refine zK (zL (zU (zG (zR 1 rfl ?_))))
      refine yA ?_
      refine zR 1 rfl (zN ?_)
      refine WE.again ((t + 1, _)) (⟨by (try dsimp only); omega, by (try dsimp only); omega, by (try dsimp only); omega, by (try dsimp only); omega⟩) (by (try dsimp only); omega) ⟨rfl, rfl, rfl, rfl, rfl, rfl, rfl, rfl⟩ (RLe.refl _) qS
    ·try dsimp only at hc4
     refine zX ?_
     refine wx (wx (zY (zU (zQ (zG (zR 4 rfl (zN (zU (zT ?_)))))))))
     refine WE.retF tab_ok [_, _, _] rfl ⟨rfl, rfl, rfl, trivial⟩ (RLe.refl _) ?_
     exact ⟨_, by rw [hle]; rfl, rfl, qS⟩

theorem AtMostG_V {R : Ro} {a1 a2 : Option Addr} {c1 c2 : Nat} {m1 m2 : Cv} (ha1 : RS R 1 encI a1 m1.vals) (ha2 : RS R 1 encI a2 m2.vals) (hv1 : validB m1 = true) (hv2 : validB m2 = true) : FnV Tryz.prog 25 [.agg #[.slice a1 m1.vals.length c1, .int .i64 m1.per, .int .i64 m1.inc], .agg #[.slice a2 m2.vals.length c2, .int .i64 m2.per, .int .i64 m2.inc]] R (.bool (leB m1 m2)) := by
 refine Fn.toV (fun w0 E => ?_)
 refine fE 21 Tryz.func25 ?_
 refine zQ (zG ?_)
 refine zO fun b2 => ?_
 refine zO fun b3 => ?_
 refine zR 1 rfl (zN (zU (zQ (zG ?_))))
 refine yL (Rd.blk 1 rfl) ?_
 refine yL (Rd.blk 0 rfl) ?_
 refine WL.call en61 rfl rfl qD (CallOp.mkT rfl rfl rfl rfl) (ExceedsG_C ha1 ha2 hv1 hv2 w0 _) ?_
 rintro _ _ E3 - ⟨z, rfl, rfl, hsub3⟩
 refine WL.subE hsub3 ?_
 refine zR 7 rfl (zN (zU (zQ (zG (zR 3 rfl ?_)))))
 refine yP ?_
 refine yP ?_
 refine yN ?_
 refine zR 1 rfl (zN (zU (zT ?_)))
 refine sE (E := E) ?_
 refine WE.retF tab_ok [_] rfl ⟨rfl, trivial⟩ (RLe.refl _) ?_
 exact ⟨by simp; rfl, rfl⟩



set_option maxHeartbeats 4000000 in
theorem ServerMonotone_F {R : Ro} {a : Option Addr} {c : Nat} {xs : List Int} (ha : RS R 1 encI a xs) (hc : xs.length ≤ c) (w0 : World) : K.Fn Tryz.prog 5 [.slice a xs.length c] w0 R [] (fun v _ _ => v = .bool true) := by
 refine fE 139 Tryz.func5 ?_
 refine zQ (zG (zR 1 rfl (zN (zU (zQ (zG (zR 1 rfl ?_)))))))
 refine WL.call en8 rfl rfl qD (CallOp.mkT rfl rfl rfl rfl) (New_C w0 _ hc) ?_
 rintro _ _ _ - ⟨b, rfl, rfl, rfl⟩
 have hz := ha.take 2000
 refine zR 1 rfl (zN (zU (zQ (zG (zR 1 rfl ?_)))))
 refine WL.callAt 0 en9 rfl rfl qD (CallOp.mkT rfl rfl rfl rfl) rfl (DrawC_C w0 hz _) ?_
 rintro _ R0 _ _ hR0 ⟨L, aw, at_, cw, ct, cn, rfl, hw, ht, hL, hct, rfl, rfl⟩
 have hz := hz.mono hR0
 refine zA fun b4 => ?_
 refine zE 0 ?_
 refine zN (zU ?_)
 refine W.freezeBlk 0 rfl ?_
 intro R0b hR0b hb4
 have hz := hz.mono hR0b
 have hw := hw.mono hR0b
 have ht := ht.mono hR0b
 refine zQ (zG (zR 1 rfl ?_))
 refine WL.callAt 0 en22 rfl rfl qD (CallOp.mkT rfl rfl rfl rfl) rfl (Zero_C w0 hz (most := 3) qD _) ?_
 rintro _ R1 _ _ hR1 ⟨fz1, kz1, n1, v1, rfl, hzv1, hsm1, hfn1, hz01, hcp1, rfl, rfl⟩
 have hz := hz.mono hR1
 have hw := hw.mono hR1
 have ht := ht.mono hR1
 have hb4 := hR1 _ _ hb4
 refine zR 1 rfl ?_
 refine WL.callAt 0 en22 rfl rfl qD (CallOp.mkT rfl rfl rfl rfl) rfl (Zero_C w0 hz (most := 3) qD _) ?_
 rintro _ R2 _ _ hR2 ⟨fz2, kz2, n2, v2, rfl, hzv2, hsm2, hfn2, hz02, hcp2, rfl, rfl⟩
 have hz := hz.mono hR2
 have hw := hw.mono hR2
 have ht := ht.mono hR2
 have hzv1 := hzv1.mono hR2
 have hb4 := hR2 _ _ hb4
 refine zR 1 rfl ?_
 refine WL.callAt 0 en22 rfl rfl qD (CallOp.mkT rfl rfl rfl rfl) rfl (Zero_C w0 hz (most := 3) qD _) ?_
 rintro _ R3 _ _ hR3 ⟨fz3, kz3, n3, v3, rfl, hzv3, hsm3, hfn3, hz03, hcp3, rfl, rfl⟩
 have hz := hz.mono hR3
 have hw := hw.mono hR3
 have ht := ht.mono hR3
 have hzv1 := hzv1.mono hR3
 have hzv2 := hzv2.mono hR3
 have hb4 := hR3 _ _ hb4
 refine WL.ef rfl rfl qD (Ef.buildSliceD (enc := encC) (parts := [.tmp 23, .tmp 25, .tmp 27]) [(⟨fz1, kz1, v1⟩ : CvS), ⟨fz2, kz2, v2⟩, ⟨fz3, kz3, v3⟩] tab_ok rfl rfl rfl rfl rfl rfl rfl rfl qD qD (fun a28 => ?_))
 refine WL.freeze (enc := encC) 0 rfl ?_
 intro R4 hR4 hls0
 have hz := hz.mono hR4
 have hw := hw.mono hR4
 have ht := ht.mono hR4
 have hzv1 := hzv1.mono hR4
 have hzv2 := hzv2.mono hR4
 have hzv3 := hzv3.mono hR4
 have hb4 := hR4 _ _ hb4
 obtain ⟨ls, hls, hlsn, hlsa⟩ : ∃ ls : List CvS, RS R4 3 encC (some ⟨a28, 0, none⟩) ls ∧ ls.length = 3 ∧ ∀ x ∈ ls, RS R4 1 encI x.a x.cv.vals ∧ SmallC x.cv ∧ finB x.cv = true ∧ x.cv.vals.length ≤ x.cap := ⟨_, hls0, rfl, fun x hx => by
  simp only [List.mem_cons, List.not_mem_nil, or_false] at hx
  rcases hx with rfl | rfl | rfl
  ·exact ⟨hzv1, hsm1, hfn1, hcp1⟩
  ·exact ⟨hzv2, hsm2, hfn2, hcp2⟩
  ·exact ⟨hzv3, hsm3, hfn3, hcp3⟩⟩
 refine zR 1 rfl (zN (zU (zQ (zG (zR 1 rfl ?_)))))
 refine WL.callAt 0 en23 rfl rfl qD (CallOp.mkT rfl rfl rfl rfl) rfl (N_C w0 hz (by constructor <;> decide) _) ?_
 rintro _ _ _ _ - ⟨rfl, rfl, rfl, rfl⟩
 have hm9 := mod_range (nth (xs.take 2000) n3) (show (1 : Int) ≤ 9 by decide)
 refine yA ?_
 -- build
 refine WG.y rfl rfl qD (Yl.build (parts := [(0, .tmp 31), (1, .const (.int .i64 10))]) tab_ok rfl rfl rfl rfl (fun _ => rfl) rfl rfl) ?_
 -- build
 refine WG.y rfl rfl qD (Yl.build (parts := [(0, .const (.int .i64 1)), (1, .const (.int .i64 9))]) tab_ok rfl rfl rfl rfl (fun _ => rfl) rfl rfl) ?_
 -- build
 refine WG.y rfl rfl qD (Yl.build (parts := [(0, .const (.int .i64 1)), (1, .const (.int .i64 9))]) tab_ok rfl rfl rfl rfl (fun _ => rfl) rfl rfl) ?_
 refine WL.ef rfl rfl qD (Ef.buildSliceD (enc := encZ) (parts := [.tmp 32, .tmp 33, .tmp 34]) [(⟨1 + mod (nth (xs.take 2000) n3) 9, 10⟩ : Sz), ⟨1, 9⟩, ⟨1, 9⟩] tab_ok rfl rfl rfl rfl rfl rfl rfl rfl qD qD (fun a35 => ?_))
 refine WL.freeze (enc := encZ) 0 rfl ?_
 intro R5 hR5 hzz0
 have hz := hz.mono hR5
 have hw := hw.mono hR5
 have ht := ht.mono hR5
 have hls := hls.mono hR5
 have hb4 := hR5 _ _ hb4
 have hlsa : ∀ x ∈ ls, RS R5 1 encI x.a x.cv.vals ∧ SmallC x.cv ∧ finB x.cv = true ∧ x.cv.vals.length ≤ x.cap := fun x hx => ⟨(hlsa x hx).1.mono hR5, (hlsa x hx).2⟩
 obtain ⟨zz, hzz, hzl⟩ : ∃ zz : List Sz, RS R5 2 encZ (some ⟨a35, 0, none⟩) zz ∧ zz.length = 3 := ⟨_, hzz0, rfl⟩
 refine zR 1 rfl (zN (zU ?_))
 refine W.seqCut (β := Ro × Nat × Cv × Option Addr × Nat × Nat) (fun (Rk, b7, mo, fsm, ksm, n5) => RLe R5 Rk ∧ validB mo = true ∧ finB mo = true ∧ RS Rk 1 encI fsm mo.vals) (fun (Rk, b7, mo, fsm, ksm, n5) => [(3, true, .pointer (some ⟨b, 0, none⟩)), (4, true, .pointer (some ⟨b4, 0, none⟩)), (5, true, .slice (some ⟨a28, 0, none⟩) 3 3), (6, true, .slice (some ⟨a35, 0, none⟩) 3 3), (7, true, .pointer (some ⟨b7, 0, none⟩)), (8, true, .int .i64 0)]) (fun (Rk, _) => Rk) (fun (_, b7, mo, fsm, ksm, n5) => [.blk b7 [.slice fsm mo.vals.length ksm, .int .i64 mo.per, .int .i64 mo.inc], srcE b a c (xs.take 2000) n5]) ?_ ?_
 ·
  intro zz6 hst
  obtain ⟨Rk, b7, mo, fsm, ksm, n5⟩ := zz6
  obtain ⟨hRk, hmv, hmf, hfs⟩ := hst
  dsimp only at hRk hmv hmf hfs ⊢
  have hz := hz.mono hRk
  have hw := hw.mono hRk
  have ht := ht.mono hRk
  have hls := hls.mono hRk
  have hzz := hzz.mono hRk
  have hb4 := hRk _ _ hb4
  have hlsa : ∀ x ∈ ls, RS Rk 1 encI x.a x.cv.vals ∧ SmallC x.cv ∧ finB x.cv = true ∧ x.cv.vals.length ≤ x.cap := fun x hx => ⟨(hlsa x hx).1.mono hRk, (hlsa x hx).2⟩
  refine W.freezeBlk 0 rfl ?_
  intro Rm hRm hb7
  have hfs := hfs.mono hRm
  have hml : mo.vals.length ≤ 400 := (valid_range hmv).2.2.1
  have hz := hz.mono hRm
  have hw := hw.mono hRm
  have ht := ht.mono hRm
  have hls := hls.mono hRm
  have hzz := hzz.mono hRm
  have hb4 := hRm _ _ hb4
  have hlsa : ∀ x ∈ ls, RS Rm 1 encI x.a x.cv.vals ∧ SmallC x.cv ∧ finB x.cv = true ∧ x.cv.vals.length ≤ x.cap := fun x hx => ⟨(hlsa x hx).1.mono hRm, (hlsa x hx).2⟩
  refine zQ (zQ (zG (zR 2 rfl (zN (zU ?_)))))
  refine W.condN rfl (fun hc0 => ?_) (fun hc0 => ?_)
  ·try dsimp only at hc0
   (simp at hc0; done)
  ·try dsimp only at hc0
   refine zK (zU (zQ (zG ?_)))
   refine WL.ef rfl rfl qD (Ef.buildSliceD (enc := encC) (parts := []) [] tab_ok rfl rfl rfl rfl rfl rfl rfl rfl qD qD (fun a49 => ?_))
   refine zR 1 rfl ?_
   refine WL.ef rfl rfl (by decide) (Ef.cloneL (enc := encC) (ys := ls) 0 tab_ok rfl rfl rfl rfl rfl rfl rfl rfl rfl hlsn.symm hls (fun _ _ => rfl) (by (try simp only [List.length_nil]); omega) (by (try simp only [List.length_nil]); omega) (fun a51 c51 ha51 => ?_))
   refine zR 1 rfl (zN (zU ?_))
   refine W.seqCut (β := List CvS) (fun dl => dl.length = 3 ∧ More (ls.map CvS.cv) (dl.map CvS.cv) ∧ ∀ x ∈ dl, RS Rm 1 encI x.a x.cv.vals ∧ x.cv.vals.length ≤ 100000) (fun dl => [(3, true, .pointer (some ⟨b, 0, none⟩)), (4, true, .pointer (some ⟨b4, 0, none⟩)), (5, true, .slice (some ⟨a28, 0, none⟩) 3 3), (6, true, .slice (some ⟨a35, 0, none⟩) 3 3), (9, true, .slice a51 3 c51)]) (fun _ => Rm) (fun dl => [.sl 42 3 a51 c51 ((dl).map encC), srcE b a c (xs.take 2000) n5]) ?_ ?_
   ·
    intro dl hst
    obtain ⟨hdn, hMo, hda⟩ := hst
    refine W.cap 0 rfl ?_
    intro hdc
    rw [List.length_map, hdn] at hdc
    refine W.freeze (enc := encC) (xs := dl) 0 rfl ?_
    intro Rd0 hRd hdl
    have hz := hz.mono hRd
    have hw := hw.mono hRd
    have ht := ht.mono hRd
    have hls := hls.mono hRd
    have hzz := hzz.mono hRd
    have hb4 := hRd _ _ hb4
    have hlsa : ∀ x ∈ ls, RS Rd0 1 encI x.a x.cv.vals ∧ SmallC x.cv ∧ finB x.cv = true ∧ x.cv.vals.length ≤ x.cap := fun x hx => ⟨(hlsa x hx).1.mono hRd, (hlsa x hx).2⟩
    have hda : ∀ x ∈ dl, RS Rd0 1 encI x.a x.cv.vals ∧ x.cv.vals.length ≤ 100000 := fun x hx => ⟨(hda x hx).1.mono hRd, (hda x hx).2⟩
    refine zQ (zG (zR 1 rfl ?_))
    refine WL.callAt 0 en23 rfl rfl qD (CallOp.mkT rfl rfl rfl rfl) rfl (N_C w0 hz (by constructor <;> decide) _) ?_
    rintro _ _ _ _ - ⟨rfl, rfl, rfl, rfl⟩
    have hmk := mod_range (nth (xs.take 2000) n5) (show (1 : Int) ≤ 3 by decide)
    obtain ⟨k, hkn⟩ := Int.eq_ofNat_of_zero_le hmk.1
    rw [hkn] at hmk ⊢
    have hk : k < 3 := by omega
    refine zR 1 rfl (zN (zU (zQ (zG ?_))))
    refine' WG.y rfl rfl qD (Yl.load1 tab_ok rfl rfl rfl (fun _ => rfl) ?r1 rfl ?h1) ?_
    case r1 => exact Rd.ro hb4
    case h1 => rfl
    refine zR 3 rfl ?_
    refine WL.call en15 rfl rfl qD (CallOp.mkT rfl rfl rfl rfl) (CurveSrv_C (L := L) (cls := (k : Int)) (ls := ls) hw rfl ht rfl hls hlsn qD (fun x hx => ⟨(hlsa x hx).1, by have := (hlsa x hx).2.1.len; omega⟩) hzz hzl qD hct w0 _) ?_
    rintro _ R8 _ hR8 ⟨f1, fc1, rfl, hf1, hsub1⟩
    refine WL.subE hsub1 ?_
    generalize hq1 : curveL L (k : Int) (ls.map CvS.cv) zz = q1 at hf1 ⊢
    unfold cvV
    have hz := hz.mono hR8
    have hw := hw.mono hR8
    have ht := ht.mono hR8
    have hls := hls.mono hR8
    have hzz := hzz.mono hR8
    have hdl := hdl.mono hR8
    have hb4 := hR8 _ _ hb4
    have hlsa : ∀ x ∈ ls, RS R8 1 encI x.a x.cv.vals ∧ SmallC x.cv ∧ finB x.cv = true ∧ x.cv.vals.length ≤ x.cap := fun x hx => ⟨(hlsa x hx).1.mono hR8, (hlsa x hx).2⟩
    have hda : ∀ x ∈ dl, RS R8 1 encI x.a x.cv.vals ∧ x.cv.vals.length ≤ 100000 := fun x hx => ⟨(hda x hx).1.mono hR8, (hda x hx).2⟩
    refine zR 3 rfl ?_
    refine zA fun b12 => ?_
    refine zE 0 ?_
    refine zR 1 rfl (zN (zU (zQ (zG ?_))))
    refine' WG.y rfl rfl qD (Yl.load1 tab_ok rfl rfl rfl (fun _ => rfl) ?r2 rfl ?h2) ?_
    case r2 => exact Rd.ro hb4
    case h2 => rfl
    refine zR 3 rfl ?_
    refine WL.call en15 rfl rfl qD (CallOp.mkT rfl rfl rfl rfl) (CurveSrv_C (L := L) (cls := (k : Int)) (ls := dl) hw rfl ht rfl hdl hdn hdc hda hzz hzl qD hct w0 _) ?_
    rintro _ R9 _ hR9 ⟨f2, fc2, rfl, hf2, hsub2⟩
    refine WL.subE hsub2 ?_
    generalize hq2 : curveL L (k : Int) (dl.map CvS.cv) zz = q2 at hf2 ⊢
    unfold cvV
    have hz := hz.mono hR9
    have hw := hw.mono hR9
    have ht := ht.mono hR9
    have hls := hls.mono hR9
    have hzz := hzz.mono hR9
    have hdl := hdl.mono hR9
    have hf1 := hf1.mono hR9
    have hb4 := hR9 _ _ hb4
    have hlsa : ∀ x ∈ ls, RS R9 1 encI x.a x.cv.vals ∧ SmallC x.cv ∧ finB x.cv = true ∧ x.cv.vals.length ≤ x.cap := fun x hx => ⟨(hlsa x hx).1.mono hR9, (hlsa x hx).2⟩
    have hda : ∀ x ∈ dl, RS R9 1 encI x.a x.cv.vals ∧ x.cv.vals.length ≤ 100000 := fun x hx => ⟨(hda x hx).1.mono hR9, (hda x hx).2⟩
    refine zR 3 rfl ?_
    refine zA fun b14 => ?_
    refine zE 0 ?_
    refine zR 1 rfl (zN (zU (zQ ?_)))
    have hAM : (q1.2 == 0 && q2.2 == 0) = true → FnV Tryz.prog 25 [.agg #[.slice f2 q2.1.vals.length fc2, .int .i64 q2.1.per, .int .i64 q2.1.inc], .agg #[.slice f1 q1.1.vals.length fc1, .int .i64 q1.1.per, .int .i64 q1.1.inc]] R9 (.bool true) := fun hh => by
     simp only [Bool.and_eq_true, beq_iff_eq] at hh
     obtain ⟨v1, v2, v3⟩ := curve_mono (L := L) (k := k) (z := zz) hL hk hMo hzl (by rw [hq1]; exact hh.1) (by rw [hq2]; exact hh.2)
     rw [hq1, hq2] at v3
     rw [hq1] at v1
     rw [hq2] at v2
     have := AtMostG_V (c1 := fc2) (c2 := fc1) hf2 hf1 v2 v1
     rw [v3] at this
     exact this
    refine zQ (zG (zR 3 rfl ?_))
    refine yP ?_
    refine yP ?_
    refine yN ?_
    refine zR 1 rfl ?_
    refine yG (Rd.blkC 0 rfl) ?_
    refine yG (Rd.blkC 1 rfl) ?_
    refine WG.callV (v := .bool true) en25 rfl rfl (by decide) (CallOp.mk' rfl rfl rfl rfl) qE (fun hg => hAM (by first | exact hg | (simp only [Bool.and_eq_true, beq_iff_eq] at hg; exact hg) | simpa using hg)) ?_
    refine yP ?_
    refine yN ?_
    refine zN (zU ?_)
    refine W.cond rfl (fun hc1 => ?_) (fun hc1 => ?_)
    ·try simp only [zk] at hc1
     simp at hc1
    ·try simp only [zk] at hc1
     refine zK (zU (zQ (zG ?_)))
     refine' WG.y rfl rfl qD (Yl.load1 tab_ok rfl rfl rfl (fun _ => rfl) ?r5 rfl ?h5) ?_
     case r5 => exact Rd.ro hb4
     case h5 => rfl
     refine zR 3 rfl ?_
     refine WL.call en16 rfl rfl qD (CallOp.mkT rfl rfl rfl rfl) (DelaySrv_C (L := L) (cls := (k : Int)) (ls := ls) hw rfl ht rfl hls hlsn qD (fun x hx => ⟨(hlsa x hx).1, by have := (hlsa x hx).2.1.len; omega⟩) hzz hzl qD hct w0 _) ?_
     rintro _ R10 _ hR10 ⟨rfl, hsub3⟩
     refine WL.subE hsub3 ?_
     generalize hq3 : delayL L (k : Int) (ls.map CvS.cv) zz = q3
     unfold devV
     have hz := hz.mono hR10
     have hw := hw.mono hR10
     have ht := ht.mono hR10
     have hls := hls.mono hR10
     have hzz := hzz.mono hR10
     have hdl := hdl.mono hR10
     have hb4 := hR10 _ _ hb4
     have hlsa : ∀ x ∈ ls, RS R10 1 encI x.a x.cv.vals ∧ SmallC x.cv ∧ finB x.cv = true ∧ x.cv.vals.length ≤ x.cap := fun x hx => ⟨(hlsa x hx).1.mono hR10, (hlsa x hx).2⟩
     have hda : ∀ x ∈ dl, RS R10 1 encI x.a x.cv.vals ∧ x.cv.vals.length ≤ 100000 := fun x hx => ⟨(hda x hx).1.mono hR10, (hda x hx).2⟩
     refine zR 3 rfl ?_
     refine zA fun b16 => ?_
     refine zE 0 ?_
     refine zR 1 rfl (zN (zU (zQ (zG ?_))))
     refine' WG.y rfl rfl qD (Yl.load1 tab_ok rfl rfl rfl (fun _ => rfl) ?r6 rfl ?h6) ?_
     case r6 => exact Rd.ro hb4
     case h6 => rfl
     refine zR 3 rfl ?_
     refine WL.call en16 rfl rfl qD (CallOp.mkT rfl rfl rfl rfl) (DelaySrv_C (L := L) (cls := (k : Int)) (ls := dl) hw rfl ht rfl hdl hdn hdc hda hzz hzl qD hct w0 _) ?_
     rintro _ R11 _ hR11 ⟨rfl, hsub4⟩
     refine WL.subE hsub4 ?_
     generalize hq4 : delayL L (k : Int) (dl.map CvS.cv) zz = q4
     unfold devV
     have hz := hz.mono hR11
     have hw := hw.mono hR11
     have ht := ht.mono hR11
     have hls := hls.mono hR11
     have hzz := hzz.mono hR11
     have hdl := hdl.mono hR11
     have hb4 := hR11 _ _ hb4
     have hlsa : ∀ x ∈ ls, RS R11 1 encI x.a x.cv.vals ∧ SmallC x.cv ∧ finB x.cv = true ∧ x.cv.vals.length ≤ x.cap := fun x hx => ⟨(hlsa x hx).1.mono hR11, (hlsa x hx).2⟩
     have hda : ∀ x ∈ dl, RS R11 1 encI x.a x.cv.vals ∧ x.cv.vals.length ≤ 100000 := fun x hx => ⟨(hda x hx).1.mono hR11, (hda x hx).2⟩
     refine zR 3 rfl ?_
     refine zA fun b17 => ?_
     refine zE 0 ?_
     refine zR 1 rfl (zN (zU ?_))
     have hwm := wait_mono (L := L) (k := k) (z := zz) hL hk hMo hzl
     rw [hq3, hq4] at hwm
     have hG : (q3.2 != 0 || q4.2 != 0 || q4.1.1 || (!q3.1.1 && decide (q3.1.2.1 ≤ q4.1.2.1))) = true := by
      by_cases e3 : q3.2 = 0
      ·by_cases e4 : q4.2 = 0
       ·rcases hwm e3 e4 with h | ⟨h1, h2⟩
        ·rw [h]; simp
        ·rw [h1, decide_eq_true h2]; simp
       ·simp [e4]
      ·simp [e3]
     refine zQ (zG (zR 3 rfl ?_))
     refine yP ?_
     refine yP ?_
     refine yO ?_
     refine zR 1 rfl ?_
     refine yP ?_
     refine yG (Rd.addC (Rd.blkC 0 rfl) _) ?_
     refine yO ?_
     refine zR 1 rfl ?_
     refine yP ?_
     refine yG (Rd.addC (Rd.blkC 1 rfl) _) ?_
     refine yP ?_
     refine yP ?_
     refine yP ?_
     refine yG (Rd.addC (Rd.blkC 1 rfl) _) ?_
     refine yP ?_
     refine yG (Rd.addC (Rd.blkC 0 rfl) _) ?_
     refine yP ?_
     refine yN ?_
     refine yO ?_
     refine zR 1 rfl ?_
     refine WL.guardT rfl (by first | exact hG | (rw [hG]; rfl)) ?_
     refine WL.call en18 rfl rfl qD (CallOp.mkT rfl rfl rfl rfl) (Awake22_C w0 _) ?_
     rintro _ R13 E9 hR13 ⟨rfl, hsub9⟩
     refine WL.subE hsub9 ?_
     refine yN ?_
     refine zR 1 rfl (zN (zU (zT ?_)))
     refine WE.retF tab_ok [_] rfl ⟨rfl, trivial⟩ (by first | exact RLe.refl _ | exact hR0.trans (hR0b.trans (hR1.trans (hR2.trans (hR3.trans (hR4.trans (hR5.trans (hRk.trans (hRm.trans (hRd.trans (hR8.trans (hR9.trans (hR10.trans (hR11.trans hR13)))))))))))))) ?_
     exact congrArg Value.bool (by rw [hG]; rfl)
   ·
    refine zQ (zG (zR 3 rfl (zN (zU (zB ?_)))))
    refine W.loopK (β := Nat) (fun m => m ≤ 3) (fun m => [(54, true, .int .i64 (m : Int))]) [3, 4, 5, 6, 7, 9, 53] [_, _, _, _, _, _, _] [] _ rfl (fun m => [(0, .sl 42 3 a51 c51 ((ls).map encC))]) (fun m => 3 - m) (0) (Nat.zero_le _) ⟨rfl, rfl, rfl, rfl, rfl, rfl, rfl, rfl, rfl⟩ qS ?_
    intro m hst
    dsimp only [zipE, setAll, List.cons_append, List.nil_append, List.set_cons_zero, List.set_cons_succ] at hst ⊢
    
    refine zQ (zG (zR 1 rfl (zN (zU (zQ ?_)))))
    refine W.condD rfl (fun hc2 => ?_) (fun hc2 => ?_)
    ·try dsimp only at hc2
     refine zK (zU (zQ (zB (zQ (zG (zR 2 rfl (zN (zU (zQ ?_)))))))))
     refine W.regionH _ (ES := []) mixed ?_
     refine tP 0 ?_
     refine tP 1 ?_
     refine WA.take 2 rfl qK qK qK rfl rfl qD (Yl.index tab_ok rfl rfl rfl rfl rfl rfl (fun _ => rfl) qA (by intro _; first | exact fun _ _ _ _ => ha51 qO | exact qI)) qS qR ?_
     refine' WA.take 4 rfl qK qK qK rfl rfl qD (Yl.load1 tab_ok rfl rfl rfl (fun _ => rfl) ?r11 rfl ?h11) qS qR ?_
     case r11 => exact Rd.ro hb7
     case h11 => rfl
     refine' WA.yl 3 rfl qK rfl rfl qD (Yl.load1 tab_ok rfl rfl rfl (fun _ => rfl) ?r12 rfl ?h12) qS qR ?_
     case r12 => exact Rd.slD 0 rfl qO
     case h12 => rfl
     refine WA.callV 5 rfl qK en25 rfl rfl qD (CallOp.mk' rfl rfl rfl rfl) (fun _ => rfl) (fun hg => AtMostG_V (hlsa _ (nth_mem (xs := ls) (k := m) qO)).1 hfs (hlsa _ (nth_mem (xs := ls) (k := m) qO)).2.1.valid hmv) qS qR ?_
     refine WA.done qK ?_
     refine zU ?_
     refine W.cond rfl (fun hc3 => ?_) (fun hc3 => ?_)
     ·try simp only [zk] at hc3
      refine zQ (zG (zR 2 rfl ?_))
      refine' WG.y rfl rfl qD (Yl.load1 tab_ok rfl rfl rfl (fun _ => rfl) ?r13 rfl ?h13) ?_
      case r13 => exact Rd.ro hb7
      case h13 => rfl
      refine WG.y rfl rfl qD (Yl.index tab_ok rfl rfl rfl rfl rfl rfl (fun _ => rfl) qA (by intro _; first | exact fun _ _ _ _ => ha51 qO | exact qI)) ?_
      refine WL.efN rfl rfl (Ef.storeD (enc := encC) (xs := ls) ((⟨fsm, ksm, mo⟩ : CvS)) 0 tab_ok rfl rfl rfl rfl rfl (by show (m : Int).toNat < ls.length; omega) rfl rfl rfl rfl ?_)
      refine zN (zU ?_)
      refine zX ?_
      refine WE.blk_other rfl ?_
      refine wx (wx (zY ?_))
      have hMs : More (ls.map CvS.cv) ((ls.set ((m : Int)).toNat ⟨fsm, ksm, mo⟩).map CvS.cv) := by
       rw [List.map_set]
       exact more_set (by rw [List.length_map]; exact hlsn) (fun f hf => by obtain ⟨x, hx, rfl⟩ := List.mem_map.1 hf; exact ⟨(hlsa x hx).2.1.valid, (hlsa x hx).2.2.1⟩) (by omega) ⟨hmv, hmf⟩ (by rw [nth_map_lt _ (by omega)]; exact hc3)
      refine WE.cut (ls.set ((m : Int)).toNat ⟨fsm, ksm, mo⟩) ⟨by rw [List.length_set]; exact hlsn, hMs, fun x hx => ?_⟩ ⟨rfl, rfl, rfl, rfl, rfl, rfl⟩ (RLe.refl _) qS
      rcases List.mem_or_eq_of_mem_set hx with h1 | rfl
      ·exact ⟨(hlsa x h1).1, by have := (hlsa x h1).2.1.len; omega⟩
      ·exact ⟨hfs, by dsimp only; omega⟩
     ·try simp only [zk] at hc3
      refine zK (zL (zU (zG ?_)))
      refine yA ?_
      refine zR 1 rfl (zN ?_)
      refine WE.again (m + 1) qO (by (try dsimp only); omega) ⟨rfl, rfl, rfl, rfl, rfl, rfl, rfl, rfl, rfl⟩ (RLe.refl _) qS
    ·try dsimp only at hc2
     refine zX ?_
     refine wx (wx (zY ?_))
     refine WE.cut ls ⟨hlsn, more_self (by rw [List.length_map]; exact hlsn) (fun f hf => by obtain ⟨x, hx, rfl⟩ := List.mem_map.1 hf; exact ⟨(hlsa x hx).2.1.valid, (hlsa x hx).2.2.1⟩), fun x hx => ⟨(hlsa x hx).1, by have := (hlsa x hx).2.1.len; omega⟩⟩ ⟨rfl, rfl, rfl, rfl, rfl, rfl⟩ (RLe.refl _) qS
 ·
  refine W.regionH _ (ES := []) mixed ?_
  refine tP 0 ?_
  refine tP 1 ?_
  refine tP 5 ?_
  refine WA.br2 (i := 2) (j := 11) qK ?_ ?_
  ·
   refine WS.callAt 0 rfl en23 rfl rfl qD (CallOp.mkT rfl rfl rfl rfl) rfl (N_C w0 hz (by constructor <;> decide) _) ?_
   rintro _ _ _ _ - ⟨rfl, rfl, rfl, rfl⟩
   refine ⟨qR, qS, ?_⟩
   have hmi := mod_range (nth (xs.take 2000) (n3 + 1)) (show (1 : Int) ≤ 3 by decide)
   obtain ⟨i, hi⟩ := Int.eq_ofNat_of_zero_le hmi.1
   rw [hi] at hmi ⊢
   refine WA.take 3 rfl qK qK qK rfl rfl qD (Yl.index tab_ok rfl rfl rfl rfl rfl rfl (fun _ => rfl) qA (by intro _; first | exact fun _ _ _ _ => ha51 qO | exact qI)) qS qR ?_
   refine' WA.take 4 rfl qK qK qK rfl rfl qD (Yl.load1 tab_ok rfl rfl rfl (fun _ => rfl) ?r14 rfl ?h14) qS qR ?_
   case r14 => exact RS.rdD hls qO
   case h14 => rfl
   refine WA.br2 (i := 6) (j := 11) qK ?_ ?_
   ·
    refine WS.callAt 0 rfl en22 rfl rfl qD (CallOp.mkT rfl rfl rfl rfl) rfl (Zero_C w0 hz (most := 2) qD _) ?_
    rintro _ R6 _ _ hR6 ⟨fz4, kz4, n4, v4, rfl, hzv4, hsm4, hfn4, hz04, hcp4, rfl, rfl⟩
    have hz := hz.mono hR6
    have hw := hw.mono hR6
    have ht := ht.mono hR6
    have hls := hls.mono hR6
    have hzz := hzz.mono hR6
    have hb4 := hR6 _ _ hb4
    have hlsa : ∀ x ∈ ls, RS R6 1 encI x.a x.cv.vals ∧ SmallC x.cv ∧ finB x.cv = true ∧ x.cv.vals.length ≤ x.cap := fun x hx => ⟨(hlsa x hx).1.mono hR6, (hlsa x hx).2⟩
    refine ⟨hR6, qS, ?_⟩
    refine WA.br2 (i := 7) (j := 11) qK ?_ ?_
    ·
     refine WS.callG rfl en24 rfl (by first | rfl | decide) rfl qD (CallOp.mkT rfl rfl rfl rfl) (Sum05_C (c := (nth ls i).cv) (d := v4) (hlsa _ (nth_mem qO)).2.1 (hlsa _ (nth_mem qO)).2.2.1 (hlsa _ (nth_mem qO)).1 (hlsa _ (nth_mem qO)).2.2.2 hsm4 hfn4 hzv4 hcp4 w0 _) ?_
     rintro _ R7 E7 hR7 ⟨fsm, ksm, s, p, q, rfl, hfs, hfcs, hsubS⟩
     have hR67 := hR6.trans hR7
     refine ⟨hR67, List.nil_sublist _, ?_⟩
     refine WA.subE hsubS ?_
     have hz := hz.mono hR7
     have hw := hw.mono hR7
     have ht := ht.mono hR7
     have hls := hls.mono hR7
     have hzz := hzz.mono hR7
     have hb4 := hR7 _ _ hb4
     have hlsa : ∀ x ∈ ls, RS R7 1 encI x.a x.cv.vals ∧ SmallC x.cv ∧ finB x.cv = true ∧ x.cv.vals.length ≤ x.cap := fun x hx => ⟨(hlsa x hx).1.mono hR7, (hlsa x hx).2⟩
     refine tP 8 ?_
     refine tP 9 ?_
     refine tP 10 ?_
     refine WA.eff 11 rfl qK rfl rfl qD (Ef.alloc tab_ok rfl rfl (fun b7 => ?_))
     refine ⟨qR, qS, ?_⟩
     refine zCE 12 0 ?_
     refine tP 13 ?_
     refine WA.done qK ?_
     refine WE.cut (R7, b7, ⟨fvals (plusF (normR (nth ls i).cv) (normR v4)) (s + p), (p : Int), q⟩, fsm, ksm, n4) ⟨hR67, hfcs.valid', fin_fc hfcs, hfs⟩ ⟨rfl, rfl, rfl, rfl, rfl, rfl, rfl⟩ (RLe.refl _) qS
    ·
     refine WS.eff rfl rfl rfl qD (Ef.alloc tab_ok rfl rfl (fun b7 => ?_))
     refine ⟨qR, qS, ?_⟩
     refine WA.callG 7 rfl qK en24 rfl (by first | rfl | decide) rfl qD (CallOp.mkT rfl rfl rfl rfl) (Sum05_C (c := (nth ls i).cv) (d := v4) (hlsa _ (nth_mem qO)).2.1 (hlsa _ (nth_mem qO)).2.2.1 (hlsa _ (nth_mem qO)).1 (hlsa _ (nth_mem qO)).2.2.2 hsm4 hfn4 hzv4 hcp4 w0 _) ?_
     rintro _ R7 E7 hR7 ⟨fsm, ksm, s, p, q, rfl, hfs, hfcs, hsubS⟩
     have hR67 := hR6.trans hR7
     refine ⟨hR67, List.nil_sublist _, ?_⟩
     refine WA.subE hsubS ?_
     have hz := hz.mono hR7
     have hw := hw.mono hR7
     have ht := ht.mono hR7
     have hls := hls.mono hR7
     have hzz := hzz.mono hR7
     have hb4 := hR7 _ _ hb4
     have hlsa : ∀ x ∈ ls, RS R7 1 encI x.a x.cv.vals ∧ SmallC x.cv ∧ finB x.cv = true ∧ x.cv.vals.length ≤ x.cap := fun x hx => ⟨(hlsa x hx).1.mono hR7, (hlsa x hx).2⟩
     refine tP 8 ?_
     refine tP 9 ?_
     refine tP 10 ?_
     refine zCE 12 0 ?_
     refine tP 13 ?_
     refine WA.done qK ?_
     refine WE.cut (R7, b7, ⟨fvals (plusF (normR (nth ls i).cv) (normR v4)) (s + p), (p : Int), q⟩, fsm, ksm, n4) ⟨hR67, hfcs.valid', fin_fc hfcs, hfs⟩ ⟨rfl, rfl, rfl, rfl, rfl, rfl, rfl⟩ (RLe.refl _) qS
   ·
    refine WS.eff rfl rfl rfl qD (Ef.alloc tab_ok rfl rfl (fun b7 => ?_))
    refine ⟨qR, qS, ?_⟩
    refine WA.callAt 1 6 rfl qK en22 rfl rfl qD (CallOp.mkT rfl rfl rfl rfl) rfl (Zero_C w0 hz (most := 2) qD _) ?_
    rintro _ R6 _ _ hR6 ⟨fz4, kz4, n4, v4, rfl, hzv4, hsm4, hfn4, hz04, hcp4, rfl, rfl⟩
    have hz := hz.mono hR6
    have hw := hw.mono hR6
    have ht := ht.mono hR6
    have hls := hls.mono hR6
    have hzz := hzz.mono hR6
    have hb4 := hR6 _ _ hb4
    have hlsa : ∀ x ∈ ls, RS R6 1 encI x.a x.cv.vals ∧ SmallC x.cv ∧ finB x.cv = true ∧ x.cv.vals.length ≤ x.cap := fun x hx => ⟨(hlsa x hx).1.mono hR6, (hlsa x hx).2⟩
    refine ⟨hR6, qS, ?_⟩
    refine WA.callG 7 rfl qK en24 rfl (by first | rfl | decide) rfl qD (CallOp.mkT rfl rfl rfl rfl) (Sum05_C (c := (nth ls i).cv) (d := v4) (hlsa _ (nth_mem qO)).2.1 (hlsa _ (nth_mem qO)).2.2.1 (hlsa _ (nth_mem qO)).1 (hlsa _ (nth_mem qO)).2.2.2 hsm4 hfn4 hzv4 hcp4 w0 _) ?_
    rintro _ R7 E7 hR7 ⟨fsm, ksm, s, p, q, rfl, hfs, hfcs, hsubS⟩
    have hR67 := hR6.trans hR7
    refine ⟨hR67, List.nil_sublist _, ?_⟩
    refine WA.subE hsubS ?_
    have hz := hz.mono hR7
    have hw := hw.mono hR7
    have ht := ht.mono hR7
    have hls := hls.mono hR7
    have hzz := hzz.mono hR7
    have hb4 := hR7 _ _ hb4
    have hlsa : ∀ x ∈ ls, RS R7 1 encI x.a x.cv.vals ∧ SmallC x.cv ∧ finB x.cv = true ∧ x.cv.vals.length ≤ x.cap := fun x hx => ⟨(hlsa x hx).1.mono hR7, (hlsa x hx).2⟩
    refine tP 8 ?_
    refine tP 9 ?_
    refine tP 10 ?_
    refine zCE 12 0 ?_
    refine tP 13 ?_
    refine WA.done qK ?_
    refine WE.cut (R7, b7, ⟨fvals (plusF (normR (nth ls i).cv) (normR v4)) (s + p), (p : Int), q⟩, fsm, ksm, n4) ⟨hR67, hfcs.valid', fin_fc hfcs, hfs⟩ ⟨rfl, rfl, rfl, rfl, rfl, rfl, rfl⟩ (RLe.refl _) qS
  ·
   refine WS.eff rfl rfl rfl qD (Ef.alloc tab_ok rfl rfl (fun b7 => ?_))
   refine ⟨qR, qS, ?_⟩
   refine WA.callAt 1 2 rfl qK en23 rfl rfl qD (CallOp.mkT rfl rfl rfl rfl) rfl (N_C w0 hz (by constructor <;> decide) _) ?_
   rintro _ _ _ _ - ⟨rfl, rfl, rfl, rfl⟩
   refine ⟨qR, qS, ?_⟩
   have hmi := mod_range (nth (xs.take 2000) (n3 + 1)) (show (1 : Int) ≤ 3 by decide)
   obtain ⟨i, hi⟩ := Int.eq_ofNat_of_zero_le hmi.1
   rw [hi] at hmi ⊢
   refine WA.take 3 rfl qK qK qK rfl rfl qD (Yl.index tab_ok rfl rfl rfl rfl rfl rfl (fun _ => rfl) qA (by intro _; first | exact fun _ _ _ _ => ha51 qO | exact qI)) qS qR ?_
   refine' WA.take 4 rfl qK qK qK rfl rfl qD (Yl.load1 tab_ok rfl rfl rfl (fun _ => rfl) ?r15 rfl ?h15) qS qR ?_
   case r15 => exact RS.rdD hls qO
   case h15 => rfl
   refine WA.callAt 1 6 rfl qK en22 rfl rfl qD (CallOp.mkT rfl rfl rfl rfl) rfl (Zero_C w0 hz (most := 2) qD _) ?_
   rintro _ R6 _ _ hR6 ⟨fz4, kz4, n4, v4, rfl, hzv4, hsm4, hfn4, hz04, hcp4, rfl, rfl⟩
   have hz := hz.mono hR6
   have hw := hw.mono hR6
   have ht := ht.mono hR6
   have hls := hls.mono hR6
   have hzz := hzz.mono hR6
   have hb4 := hR6 _ _ hb4
   have hlsa : ∀ x ∈ ls, RS R6 1 encI x.a x.cv.vals ∧ SmallC x.cv ∧ finB x.cv = true ∧ x.cv.vals.length ≤ x.cap := fun x hx => ⟨(hlsa x hx).1.mono hR6, (hlsa x hx).2⟩
   refine ⟨hR6, qS, ?_⟩
   refine WA.callG 7 rfl qK en24 rfl (by first | rfl | decide) rfl qD (CallOp.mkT rfl rfl rfl rfl) (Sum05_C (c := (nth ls i).cv) (d := v4) (hlsa _ (nth_mem qO)).2.1 (hlsa _ (nth_mem qO)).2.2.1 (hlsa _ (nth_mem qO)).1 (hlsa _ (nth_mem qO)).2.2.2 hsm4 hfn4 hzv4 hcp4 w0 _) ?_
   rintro _ R7 E7 hR7 ⟨fsm, ksm, s, p, q, rfl, hfs, hfcs, hsubS⟩
   have hR67 := hR6.trans hR7
   refine ⟨hR67, List.nil_sublist _, ?_⟩
   refine WA.subE hsubS ?_
   have hz := hz.mono hR7
   have hw := hw.mono hR7
   have ht := ht.mono hR7
   have hls := hls.mono hR7
   have hzz := hzz.mono hR7
   have hb4 := hR7 _ _ hb4
   have hlsa : ∀ x ∈ ls, RS R7 1 encI x.a x.cv.vals ∧ SmallC x.cv ∧ finB x.cv = true ∧ x.cv.vals.length ≤ x.cap := fun x hx => ⟨(hlsa x hx).1.mono hR7, (hlsa x hx).2⟩
   refine tP 8 ?_
   refine tP 9 ?_
   refine tP 10 ?_
   refine zCE 12 0 ?_
   refine tP 13 ?_
   refine WA.done qK ?_
   refine WE.cut (R7, b7, ⟨fvals (plusF (normR (nth ls i).cv) (normR v4)) (s + p), (p : Int), q⟩, fsm, ksm, n4) ⟨hR67, hfcs.valid', fin_fc hfcs, hfs⟩ ⟨rfl, rfl, rfl, rfl, rfl, rfl, rfl⟩ (RLe.refl _) qS

end Go.Proofs.YthpblaoehlgpfaaGreat

/- ServerMonotone: for every list of numbers the law returns true, and the list reads afterwards as it read before. No condition. -/
namespace Go.Proofs.YthpblaoehlgpfaaGreat
open Go Go.RowKit Go.ChangeShapes Go.WideShapes Go.ChangeAt Go.WideElems Go.Maps Go.Proofs.YthpblaoehlgpfaaGreat.K
namespace serverMonotone
theorem law : LawI Tryz.prog 5 := fun ha hc w0 => ServerMonotone_F ha hc w0
theorem own : ownKnob Tryz.prog.godebug = none := by kernel_rfl
theorem laidOut : laidOutB Tryz.prog = true := by kernel_rfl
theorem cellsI : Tryz.prog.cellsOf 3 = 1 := by kernel_rfl
set_option maxRecDepth 100000 in
theorem lifted (os : Os) (started : os.Started) (H : Type) (enc : TypeId × Value → H) :
  ReturnsInHanded {} Tryz.checked os 5 .any (Rows.serverMonotoneSpec.pre6 enc Tryz.prog Tryz.f5 Rows.serverMonotoneRow.domain false) (Rows.serverMonotoneSpec.post enc Tryz.prog Tryz.f5 false true false false) := by
 refine returnsInHanded_of_change (C := Tryz.checked) own started (by kernel_rfl) Tryz.func5
  (ChangeSpec.witness6 (enc := enc) (C := Tryz.checked) false ⟨#[], #[.slice none 0 0], []⟩ 8 (by kernel_rfl) (by kernel_rfl) (by kernel_rfl) (by kernel_rfl)) ?_
 intro W base args ds gs before hval0 hW _ _
 have hval : ∀ (j : Nat) t v, Tryz.f5.params[j]? = some t → args[j]? = some v → Value.okWide Tryz.prog W .any base t v := hval0
 have hW' := hW
 obtain ⟨p, q, hA0, hV, rfl, _, _⟩ := hW
 have hA : DataW.TrodAll enc Tryz.prog W 0 (fun _ => true) true Tryz.f5.params.toList args.toList ds p := hA0
 rw [Tryz.params5] at hA hval
 obtain ⟨v0, d0, rfl, rfl, h0⟩ := trodAll_one hA
 obtain ⟨rfl, rfl⟩ := trodVars_none hV
 have h0k := h0
 obtain ⟨fuel, hf⟩ := h0
 clear hA0 hval0
 simp only [List.append_nil] at hW'
 have hlt : ∀ x ∈ p, x.block < W.heap.size := fun x hx => by simpa using hW'.lt x hx
 have hargs : ∀ W', Below W.heap.size W W' → DataW.Trod enc Tryz.prog W' 0 (fun b => decide (b < W.heap.size)) true 22 v0 d0 p := fun W' hb =>
  Below.trod laidOut (by kernel_rfl) (of_decide_eq_true (by kernel_rfl)) h0k hb hlt
 obtain ⟨a0, len, cap, rfl⟩ := okWide_slice Tryz.underlying22 (hval 0 22 v0 rfl rfl)
 rcases open_ints Tryz.underlying22 Tryz.underlying3 cellsI hf with ⟨hcs, hx⟩ | ⟨a, len', cap', zs, hcs, _, hl, hm, hz, hx, hcell, hwz⟩
 ·simp [Value.cells] at hcs
  obtain ⟨rfl, rfl, rfl⟩ := hcs
  simp only [Prod.mk.injEq] at hx
  obtain ⟨rfl, rfl⟩ := hx
  refine (law.nil W).mono fun e W' ⟨he, hb⟩ => ?_
  subst he
  exact ⟨_, rfl, ⟨_, _, _, [], _, [], hW', trodAll_mk1 (shut_bool Tryz.underlying4 _), trodAll_mk1 (hargs W' hb), rfl, hb.frame _, fun h => by cases h⟩⟩
 ·simp [Value.cells] at hcs
  obtain ⟨rfl, rfl, rfl⟩ := hcs
  simp only [Prod.mk.injEq] at hx
  obtain ⟨rfl, rfl⟩ := hx
  simp only [if_true] at hz
  refine (law.some (len := len) hcell (by rw [hz]; simp only [maxLen] at hm; omega) hz hl).mono fun e W' ⟨he, hb⟩ => ?_
  subst he
  exact ⟨_, rfl, ⟨_, _, _, [], _, [], hW', trodAll_mk1 (shut_bool Tryz.underlying4 _), trodAll_mk1 (hargs W' hb), rfl, hb.frame _, fun h => by cases h⟩⟩
end serverMonotone
theorem serverMonotone_holds : Rows.ServerMonotoneSaid :=
 OpenClaim.holds_of_wide 5 Tryz.f5 rfl rfl rfl rfl rfl rfl rfl ⟨rfl, rfl, rfl, rfl, rfl⟩ rfl rfl rfl rfl rfl (by kernel_rfl) Tryz.func5 (by kernel_rfl)
  (of_decide_eq_true (by kernel_rfl)) (by unfold Func.isWrapper; first | (rw [if_pos (by decide +kernel)]; kernel_rfl) | (rw [if_neg (by decide +kernel)]; exact ⟨rfl, rfl⟩))
  (fun os started H enc _ => serverMonotone.lifted os started H enc)
end Go.Proofs.YthpblaoehlgpfaaGreat
