/- Rules and walks, joined from 21 texts: the first of them says: Chapter 21: the curve. No condition. -/
import Derived.Test.YtaoakchgjgmedaaGreatG5
set_option maxRecDepth 4000
set_option linter.unusedSimpArgs false
set_option linter.unusedVariables false
namespace Go.Proofs.YtaoakchgjgmedaaGreat
open Go Go.RowKit Go.Proofs.YtaoakchgjgmedaaGreat.K Go.Proofs.YtaoakchgjgmedaaGreat.M
set_option maxHeartbeats 1000000 in
theorem CurveT_C {R : Ro} {wa za : Option Addr} {wc zc : Nat} {tb : List Int} {z : List Sz} (hwr : RS R 1 encI wa tb) (hzr : RS R 2 encZ za z) {cap cls : Int} (hwc : tb.length ≤ wc) (w0 : World) (E : List Ent) : K.Fn Tryz.prog 194 [.int .i64 cap, .int .i64 cls, .slice wa tb.length wc, .slice za z.length zc] w0 R E (fun r R' E' => ∃ (f : Option Addr) (fc : Nat), r = cvV f fc (slotC cap cls tb z) ∧ RS R' 1 encI f (slotC cap cls tb z).1.vals ∧ E.Sublist E') := by
 have hla := hzr.len
 have hlw := hwr.len
 refine fE 168 Tryz.func194 ?_
 refine zQ (zG ?_)
 refine zO fun b4 => ?_
 refine zA fun b8 => ?_
 refine zR 1 rfl (zN (zU (zQ (zQ (zG ?_)))))
 refine yB 1 ?_
 refine zR 3 rfl ?_
 refine WG.callV en196 rfl rfl qD (CallOp.mk' rfl rfl rfl rfl) (fun _ => rfl) (fun hg => CheckT_V hwr hzr) ?_
 refine zR 1 rfl (zN (zU (zQ (zG (zR 2 rfl (zN (zU ?_)))))))
 refine cN rfl ?_ ?_ <;> intro hc0
 ·
  have hd : slotC cap cls tb z = (zcv, chkT cap cls tb z) := if_pos hc0
  refine zQ (zG ?_)
  refine yW [] ?_
  refine zR 1 rfl ?_
  refine zE 0 ?_
  refine zR 1 rfl (zN (zU (zT (wt ?_))))
  refine zq4 (by first | exact RLe.refl _ | exact hRa.trans (hRb.trans hR4) | exact hR1.trans (hR2.trans (hRc.trans hR4))) ?_
  exact ⟨none, 0, by rw [hd]; rfl, by rw [hd]; exact rs_nil, qS⟩
 ·
  obtain ⟨c1, c2, k1, k2, zl, ⟨t1, t2, htb⟩, hz⟩ := chkT_ok hc0
  have hck : cls.toNat < z.length := by omega
  have hzk := hz _ (nth_mem hck)
  refine zK (zU (zQ ?_))
  refine W.regionH _ (ES := []) mixed ?_
  refine tP 0 ?_
  refine tP 1 ?_
  refine tP 2 ?_
  refine tX 3 ?_
  refine tP 4 ?_
  refine tD 5 (r := by apply Rd.add; ((apply RS.rdD; assumption; ((try dsimp only) <;> omega)))) (k := ?_)
  refine tS 6 ?_
  refine tP 7 ?_
  refine WA.eff 8 rfl qK rfl rfl qD (Ef.alloc tab_ok rfl rfl (fun b12 => ?_))
  refine ⟨qR, qS, ?_⟩
  refine tP 9 ?_
  refine zCE 10 0 ?_
  refine WA.done qK ?_
  refine zU ?_
  have hlo : (if (0 : Int) < (nth z cls.toNat).most - 1 then (nth z cls.toNat).most - 1 else 0) = max 0 ((nth z cls.toNat).most - 1) := by split <;> omega
  rw [hlo]
  generalize hlos : max 0 ((nth z cls.toNat).most - 1) = lost
  have hlb : 0 ≤ lost ∧ lost ≤ 1500 := by omega
  refine zQ (zG (zR 1 rfl (zN (zU (zQ (zQ (zG (zR 3 rfl (zN (zU (zB ?_)))))))))))
  refine W.loopK (β := Nat) (fun k => k ≤ tb.length) (fun k => [(13, true, .bool (someN tb cls k)), (45, true, .int .i64 (k : Int))]) [1, 3, 4, 8, 11, 12, 44] [_, _, _, _, _, _, _] [] _ rfl (fun k => []) (fun k => tb.length - k) (0) (Nat.zero_le _) ⟨rfl, rfl, rfl, rfl, rfl, rfl, rfl, rfl, rfl, rfl⟩ qS ?_
  intro k hst
  refine zQ (zG (zR 1 rfl (zN (zU (zQ ?_)))))
  refine cD rfl ?_ ?_ <;> intro hc1
  ·
   have hkl : k < tb.length := by omega
   refine zK (zU (zQ (zB (zQ (zG (zR 2 rfl (zN (zU (zG (zR 2 rfl ?_))))))))))
   refine yP ?_
   refine yP ?_
   refine yP ?_
   refine WG.callV en197 rfl rfl qD (CallOp.mk' rfl rfl rfl rfl) qE (fun hg => MineT_V hwr qO k1 qO) ?_
   refine yO ?_
   refine zR 1 rfl (zN (zL (zU (zG ?_))))
   refine yA ?_
   refine zR 1 rfl (zN ?_)
   refine WE.again (k + 1) qO (by (try dsimp only); omega) ⟨rfl, rfl, rfl, rfl, rfl, rfl, rfl, rfl, rfl, rfl⟩ (RLe.refl _) qS
  ·
   obtain rfl : k = tb.length := by omega
   rw [someN_all]
   refine zX ?_
   refine wx (wx (zY (zU (zQ (zQ (zG (zR 3 rfl ?_)))))))
   refine yP ?_
   refine yP ?_
   refine gX ?_
   refine yP ?_
   refine yJ (r := by apply Rd.addC; ((apply RS.rdC; assumption))) (k := ?_)
   refine yP ?_
   refine yO ?_
   refine zN (zU ?_)
   refine cC rfl ?_ ?_ <;> intro hc2
   ·try simp only [zk] at hc2
    have hd : slotC cap cls tb z = (zcv, 5) := by unfold slotC; rw [if_neg (fun h => h hc0), if_pos hc2]
    refine zQ (zG ?_)
    refine yW [] ?_
    refine zE 1 ?_
    refine zR 1 rfl (zN (zU (zT (wt ?_))))
    refine zq4 (by first | exact RLe.refl _ | exact hRa.trans (hRb.trans hR4) | exact hR1.trans (hR2.trans (hRc.trans hR4))) ?_
    exact ⟨none, 0, by rw [hd]; rfl, by rw [hd]; exact rs_nil, qS⟩
   ·try simp only [zk] at hc2
    have hc2n : ¬ (someT cls tb = false ∨ (nth z cls.toNat).most < 1) := by
     rintro (h | h)
     ·simp_all
     ·omega
    have hmo : 1 ≤ (nth z cls.toNat).most := by omega
    have hlm : (nth z cls.toNat).most - 1 = lost := by omega
    refine zK (zU (zQ (zQ (zG (zR 2 rfl ?_)))))
    refine WG.callV en198 rfl rfl qD (CallOp.mk' rfl rfl rfl rfl) (fun _ => rfl) (fun hg => AheadT_V (t := 0) hwr qO qO) ?_
    refine zR 5 rfl (zN (zU (zQ (zG (zR 2 rfl (zN (zU ?_)))))))
    refine cC rfl ?_ ?_ <;> intro hc3
    ·try simp only [zk] at hc3
     have hall := (aheadV_all k1).1 hc3
     have hd : slotC cap cls tb z = mbuild (lineF cap lost) (lost / cap + 1).toNat 1 cap := by rw [line_build ⟨by omega, by omega⟩ ⟨by omega, by omega⟩]; unfold slotC; rw [if_neg (fun h => h hc0), if_neg hc2n, if_pos hall, hlm]
     obtain ⟨q1, q2, q3⟩ := lost_quo (cap := cap) (lost := lost) (by omega) (by omega)
     have hFb : ∀ t : Nat, t ≤ 10000 → 0 ≤ lineF cap lost t ∧ lineF cap lost t ≤ 40000000 := fun t ht => by
      have h1 := lineF_bound (cap := cap) (lost := lost) (by omega) (by omega) t
      have h2 := mulB (a := cap) (b := (t : Int)) (A := 4000) (B := 10000) (by omega) (by omega)
      omega
     refine W.freezeBlk 0 rfl ?_
     intro Ra hRa h12
     refine W.freezeBlk 1 rfl ?_
     intro Rb hRb h4
     have h12 := hRb _ _ h12
     refine zQ (zG (zR 2 rfl (zN (zU (zQ ?_)))))
     refine W.regionH _ (ES := []) mixed ?_
     refine tP 0 ?_
     refine tD 1 (r := by (exact Rd.ro qU)) (k := ?_)
     refine tD 2 (r := by (exact Rd.ro qU)) (k := ?_)
     refine WA.take 3 rfl qK qK qK rfl rfl qD (Yl.quo rfl rfl rfl (fun _ => rfl) qA (by intro _; omega)) qS qR ?_
     refine tA 4 ?_
     refine tD 5 (r := by (exact Rd.ro qU)) (k := ?_)
     refine WA.callG 6 rfl qK en111 rfl (by first | rfl | decide) rfl qD (CallOp.mkT rfl rfl rfl rfl) (by
      rw [← Int.toNat_of_nonneg (show 0 ≤ lost / cap + 1 by omega)]
      exact Build_C (S := (lost / cap + 1).toNat) (P := 1) (I := cap) (F := lineF cap lost) (g := 199) (fi := #[]) (ca := #[.pointer (some ⟨b4, 0, none⟩), .pointer (some ⟨b12, 0, none⟩)]) en199 qO qO qO (fun t ht => .inr (by have := hFb t qO; omega)) (fun t ht => CurveTL_V h4 h12 qO qO qO) w0 _) ?_
     rintro _ R4 E4 hR4 ⟨f, fc, rfl, hf, hsub⟩
     refine ⟨hR4, List.nil_sublist _, ?_⟩
     refine WA.subE hsub ?_
     rw [← hd] at hf ⊢
     unfold cvV
     refine tP 7 ?_
     refine tP 8 ?_
     refine zCE 9 0 ?_
     refine tP 10 ?_
     refine WA.done qK ?_
     refine zU (zT (wt ?_))
     refine zq4 (by first | exact RLe.refl _ | exact hRa.trans (hRb.trans hR4) | exact hR1.trans (hR2.trans (hRc.trans hR4))) ?_
     exact ⟨f, fc, rfl, hf, qS⟩
    ·try simp only [zk] at hc3
     have hna : ¬ allT cls tb = true := fun h => by rw [(aheadV_all k1).2 h] at hc3; simp at hc3
     refine zK (zU (zQ (zG (zR 3 rfl (zN (zU (zQ (zG (zR 1 rfl ?_)))))))))
     refine yU ?_
     refine WL.ef rfl rfl qD (Ef.makeSliceD (enc := encI) 0 tab_ok rfl rfl rfl rfl rfl rfl qX qX qX qX qD rfl rfl (fun a89 => ?_))
     refine zA fun b19 => ?_
     refine zE 0 ?_
     refine zN (zU (zQ ?_))
     have e3 : (3 * (tb.length : Int)).toNat = 3 * tb.length := by omega
     rw [e3, ← fillL_zero]
     refine zQ (zG ?_)
     refine yB 0 ?_
     refine zR 2 rfl (zN (zU (zB ?_)))
     refine W.loopK (β := Nat) (fun k => k ≤ 3 * tb.length) (fun k => [(92, true, .int .i64 (k : Int))]) [1, 4, 8, 11, 12, 18, 19, 91] [_, _, _, _, _, _, _, _] [] _ rfl (fun k => [(1, .sl 3 1 (some ⟨a89, 0, none⟩) (3 * tb.length) ((fillL (3 * tb.length) k).map encI))]) (fun k => 3 * tb.length - k) (0) (Nat.zero_le _) ⟨rfl, rfl, rfl, rfl, rfl, rfl, rfl, rfl, rfl, rfl⟩ qS ?_
     intro k hst
     refine zQ (zG (zR 1 rfl (zN (zU (zQ ?_)))))
     refine cD rfl ?_ ?_ <;> intro hc4
     ·
      have hkm : k < 3 * tb.length := by omega
      have hlf := fillL_len (3 * tb.length) k
      refine zK (zU (zQ (zB (zQ (zG (zR 2 rfl (zN (zU (zG ?_)))))))))
      refine yB 0 ?_
      refine zR 1 rfl ?_
      refine yI ?_
      refine WL.efN rfl rfl (Ef.storeD _ 1 tab_ok rfl rfl rfl rfl rfl qX rfl rfl rfl rfl ?_)
      refine zN (zL (zU (zG ?_)))
      refine yA ?_
      refine zR 1 rfl (zN ?_)
      refine WE.again (k + 1) (by omega) (by (try dsimp only); omega) ⟨rfl, rfl, rfl, rfl, rfl, rfl, rfl, rfl, rfl, rfl⟩ (RLe.refl _) (by dsimp only [setAll, List.set_cons_zero, List.set_cons_succ]; rw [← fillL_set hkm]; exact List.Sublist.refl _)
     ·
      obtain rfl : k = 3 * tb.length := by omega
      refine zX ?_
      refine wx (wx (zY (zU (zQ (zG (zR 3 rfl ?_))))))
      refine WG.y rfl rfl qD (Yl.sliceHM tab_ok rfl rfl rfl rfl rfl rfl (fun _ => rfl) (by intro _; omega) rfl) ?_
      refine zR 1 rfl ?_
      refine WL.ef rfl rfl qD (Ef.appendF (enc := encI) tab_ok rfl rfl rfl rfl rfl (Int.toNat_natCast _) hwr qO rfl rfl qD rfl rfl hwr qO (by (try dsimp only); omega) qO (fun a104 c104 => ?_))
      refine zR 1 rfl ?_
      refine WL.ef rfl rfl (by decide) (Ef.appendR (enc := encI) 0 tab_ok rfl rfl rfl rfl rfl rfl rfl rfl rfl rfl hwr (fun _ _ => rfl) (by simp only [List.length_append]; omega) (by simp only [List.length_append]; omega) (fun a106 c106 ha106 => ?_))
      refine zR 1 rfl ?_
      refine WL.ef rfl rfl (by decide) (Ef.appendR (enc := encI) 0 tab_ok rfl rfl rfl rfl rfl rfl rfl rfl rfl rfl hwr (fun _ _ => rfl) (by simp only [List.length_append]; omega) (by simp only [List.length_append]; omega) (fun a108 c108 ha108 => ?_))
      refine zR 1 rfl (zN (zU (zQ ?_)))
      rw [show tb ++ tb ++ tb ++ tb = longT tb from rfl, fillL_all (fun a j => cntS cap lost (mineT tb cls) a j)]
      refine W.freeze (enc := encI) (xs := longT tb) 0 rfl ?_
      intro R1 hR1 hlg
      have hwr := hwr.mono hR1
      have hll := longT_len tb
      refine zQ (zG (zR 3 rfl (zN (zU (zB ?_)))))
      refine W.loopK (β := Nat) (fun f => f ≤ tb.length) (fun f => [(111, true, .int .i64 (f : Int))]) [1, 4, 8, 12, 18, 19, 21, 110] [_, _, _, _, _, _, _, _] [] _ rfl (fun f => [(1, .sl 3 1 (some ⟨a89, 0, none⟩) (3 * tb.length) ((tickL (fun a j => cntS cap lost (mineT tb cls) a j) (3 * tb.length) f 0).map encI))]) (fun f => tb.length - f) (0) (Nat.zero_le _) ⟨rfl, rfl, rfl, rfl, rfl, rfl, rfl, rfl, rfl, rfl⟩ qS ?_
      intro f hst
      refine zQ (zG (zR 1 rfl (zN (zU (zQ ?_)))))
      refine cD rfl ?_ ?_ <;> intro hc5
      ·
       have hfl : f < tb.length := by omega
       refine zK (zU (zQ (zB (zQ (zG (zR 2 rfl (zN (zU (zQ (zG (zR 2 rfl (zN (zU (zQ (zG ?_)))))))))))))))
       refine yB 0 ?_
       refine zR 2 rfl (zN (zU (zB ?_)))
       refine W.loopK (β := Nat) (fun k => k ≤ 3 * tb.length) (fun k => [(23, true, .int .i64 (slotS cap lost (mineT tb cls) f k).1), (24, true, .int .i64 (slotS cap lost (mineT tb cls) f k).2), (116, true, .int .i64 (k : Int))]) [1, 4, 8, 12, 18, 19, 21, 22, 110, 111, 115] [_, _, _, _, _, _, _, _, _, _, _] [] _ rfl (fun k => [(1, .sl 3 1 (some ⟨a89, 0, none⟩) (3 * tb.length) ((tickL (fun a j => cntS cap lost (mineT tb cls) a j) (3 * tb.length) f k).map encI))]) (fun k => 3 * tb.length - k) (0) (Nat.zero_le _) ⟨rfl, rfl, rfl, rfl, rfl, rfl, rfl, rfl, rfl, rfl, rfl, rfl, rfl, rfl, rfl⟩ qS ?_
       intro k hst
       refine zQ (zG (zR 1 rfl (zN (zU (zQ ?_)))))
       refine cD rfl ?_ ?_ <;> intro hc6
       ·
        have hkm : k < 3 * tb.length := by omega
        obtain ⟨s1, s2, s3⟩ := slotS_nonneg (cap := cap) (lost := lost) (mine := mineT tb cls) (a := f) (by omega) k
        rw [show max 0 (-lost) = 0 by omega, Int.zero_mul] at s3
        have s4 := mulB (a := cap) (b := (k : Int)) (A := 4000) (B := 120) (by omega) (by omega)
        have htk := tickL_bound (C := (fun a j => cntS cap lost (mineT tb cls) a j)) (m := 3 * tb.length) (f := f) (k := k) (fun a j => (cntS_bound (by omega) (by omega) j).1) hkm
        have hlt := tickL_len (fun a j => cntS cap lost (mineT tb cls) a j) (3 * tb.length) f k
        have hfk : (f : Int) + (k : Int) = ((f + k : Nat) : Int) := rfl
        refine zK (zU (zQ (zB (zQ (zG (zR 2 rfl (zN (zU (zQ ?_)))))))))
        refine W.regionH _ (ES := [.blk b19 [.slice (some ⟨a89, 0, none⟩) (3 * tb.length) (3 * tb.length)], .blk b12 [.int .i64 lost]]) mixed ?_
        refine tL 0 (Rd.blk 0 rfl) ?_
        refine tP 1 ?_
        refine tL 2 (Rd.blk 0 rfl) ?_
        refine tP 3 ?_
        refine tI 4 ?_
        refine tP 6 ?_
        refine tP 7 ?_
        refine tL 8 (Rd.blk 1 rfl) ?_
        refine tS 9 ?_
        refine tP 10 ?_
        refine tA 11 ?_
        refine' WA.yl 5 rfl qK rfl rfl qD (Yl.load1 tab_ok rfl rfl rfl (fun _ => rfl) ?r13 rfl ?h13) qS qR ?_
        case r13 => (exact Rd.slD 1 rfl qX)
        case h13 => rfl
        refine tP 12 ?_
        refine tI 13 ?_
        refine WA.effN 14 rfl qK rfl rfl (Ef.storeD _ 1 tab_ok rfl rfl rfl rfl rfl qX rfl rfl rfl rfl ?_)
        refine ⟨qR, qS, ?_⟩
        refine WA.done qK ?_
        refine zU (zQ (zQ (zG (zR 3 rfl ?_))))
        refine yA ?_
        rw [hfk]
        refine yI ?_
        refine yD (r := by ((apply RS.rdD; assumption; ((try dsimp only) <;> omega)))) (k := ?_)
        refine zR 2 rfl (zN (zU ?_))
        refine cE rfl ?_ ?_ <;> intro hc7
        ·
         rw [longT_nth (by omega)] at hc7
         have hm : mineT tb cls (f + k) = true := by unfold mineT; rw [hc7]; simp
         have hS : slotS cap lost (mineT tb cls) f (k + 1) = ((slotS cap lost (mineT tb cls) f k).1, (slotS cap lost (mineT tb cls) f k).2 + cap) := by rw [slotS, if_pos hm]
         refine zQ (zG (zR 1 rfl ?_))
         refine yB 4 ?_
         refine yA ?_
         refine zR 1 rfl (zN (zU ?_))
         refine zX ?_
         refine wx (zY (zU (zG ?_)))
         refine yA ?_
         refine zR 1 rfl (zN ?_)
         refine WE.again (k + 1) (by omega) (by (try dsimp only); omega) ⟨vint (by rw [hS] <;> (dsimp only; (repeat' split) <;> omega)), vint (by rw [hS] <;> (dsimp only; (repeat' split) <;> omega)), rfl, rfl, rfl, rfl, rfl, rfl, rfl, rfl, rfl, rfl, rfl, rfl, rfl⟩ (RLe.refl _) (by dsimp only [setAll, List.set_cons_zero, List.set_cons_succ]; rw [tickL_set (C := (fun a j => cntS cap lost (mineT tb cls) a j)) hkm] <;> first | exact List.Sublist.refl _ | (dsimp only [cntS]; (repeat' split) <;> omega))
        ·
         rw [longT_nth (by omega)] at hc7
         have hm : ¬ mineT tb cls (f + k) = true := by unfold mineT; simpa using hc7
         have hS : slotS cap lost (mineT tb cls) f (k + 1) = ((slotS cap lost (mineT tb cls) f k).1 + max 0 ((slotS cap lost (mineT tb cls) f k).2 - lost), 0) := by rw [slotS, if_neg hm]
         refine zK (zU (zG (zR 2 rfl ?_)))
         refine yB 2 ?_
         refine yS ?_
         refine zR 1 rfl ?_
         refine yA ?_
         refine zR 2 rfl (zN (zL (zU (zG ?_))))
         refine yA ?_
         refine zR 1 rfl (zN ?_)
         refine WE.again (k + 1) (by omega) (by (try dsimp only); omega) ⟨vint (by rw [hS] <;> (dsimp only; (repeat' split) <;> omega)), vint (by rw [hS] <;> (dsimp only; (repeat' split) <;> omega)), rfl, rfl, rfl, rfl, rfl, rfl, rfl, rfl, rfl, rfl, rfl, rfl, rfl⟩ (RLe.refl _) (by dsimp only [setAll, List.set_cons_zero, List.set_cons_succ]; rw [tickL_set (C := (fun a j => cntS cap lost (mineT tb cls) a j)) hkm] <;> first | exact List.Sublist.refl _ | (dsimp only [cntS]; (repeat' split) <;> omega))
       ·
        obtain rfl : k = 3 * tb.length := by omega
        rw [tickL_next]
        refine zX ?_
        refine wx (wx (zY (zL (zU (zG ?_)))))
        refine yA ?_
        refine zR 1 rfl (zN ?_)
        refine WE.again (f + 1) qO (by (try dsimp only); omega) ⟨rfl, rfl, rfl, rfl, rfl, rfl, rfl, rfl, rfl, rfl⟩ (RLe.refl _) qS
      ·
       obtain rfl : f = tb.length := by omega
       refine zX ?_
       refine wx (wx (zY (zU ?_)))
       obtain ⟨b, _, hbm⟩ := allT_not hna
       obtain ⟨g1, g2, g3, g4⟩ := slot_build (cap := cap) (lost := lost) (mine := mineT tb cls) (n := tb.length) (by omega) (by omega) (fun i => mineT_per i) (by omega) hbm
       have hd : slotC cap cls tb z = mbuild (slotF cap lost (mineT tb cls) tb.length) tb.length tb.length ((slotF cap lost (mineT tb cls) tb.length) (2 * tb.length) - (slotF cap lost (mineT tb cls) tb.length) tb.length) := by rw [g4]; unfold slotC; rw [if_neg (fun h => h hc0), if_neg hc2n, if_neg hna, hlm]
       have hFb : ∀ t : Nat, t ≤ 10000 → 0 ≤ (slotF cap lost (mineT tb cls) tb.length) t ∧ (slotF cap lost (mineT tb cls) tb.length) t ≤ 40000000 := fun t ht => by
        have h1 := slotF_bound (cap := cap) (lost := lost) (mine := mineT tb cls) (n := tb.length) (by omega) (by omega) (by omega) t
        have h2 := mulB (a := cap) (b := (t : Int)) (A := 4000) (B := 10000) (by omega) (by omega)
        omega
       rw [tickL_end (C := (fun a j => cntS cap lost (mineT tb cls) a j)) (m := 3 * tb.length) (n := tb.length) (by omega) (fun j hj => by
        have h1 := (cntS_bound (cap := cap) (lost := lost) (mine := mineT tb cls) (a := 0) (by omega) (by omega) j).2
        have h2 := mulB (a := cap) (b := (j : Int)) (A := 4000) (B := 10000) (by omega) (by omega)
        omega)]
       refine W.freeze (enc := encI) (xs := fvals (slotF cap lost (mineT tb cls) tb.length) (3 * tb.length)) 1 rfl ?_
       intro R2 hR2 hls
       refine W.freezeBlk 0 rfl ?_
       intro Rc hRc h19
       have hls := hls.mono hRc
       have hfl3 := fvals_len (slotF cap lost (mineT tb cls) tb.length) (3 * tb.length)
       have h19' := h19
       rw [← hfl3] at h19'
       have eI : nth (fvals (slotF cap lost (mineT tb cls) tb.length) (3 * tb.length)) (2 * (tb.length : Int)).toNat - nth (fvals (slotF cap lost (mineT tb cls) tb.length) (3 * tb.length)) tb.length = (slotF cap lost (mineT tb cls) tb.length) (2 * tb.length) - (slotF cap lost (mineT tb cls) tb.length) tb.length := by
        rw [show (2 * (tb.length : Int)).toNat = 2 * tb.length by omega, fvals_nth _ (by omega), fvals_nth _ (by omega)]
       have hI1 := hFb (2 * tb.length) (by omega)
       have hI2 := hFb tb.length (by omega)
       have hF : ∀ t : Nat, t < tb.length + tb.length → FnV Tryz.prog 200 ((#[] : Array Value).toList ++ [.int .i64 (t : Int)] ++ (#[.pointer (some ⟨b19, 0, none⟩)] : Array Value).toList) Rc (.int .i64 ((slotF cap lost (mineT tb cls) tb.length) t)) := fun t ht => by
        have h := CurveTG_V h19' hls (t := t) (by omega)
        rw [fvals_nth _ (by omega)] at h
        exact h
       refine zQ ?_
       refine W.regionH _ (ES := []) mixed ?_
       refine WA.take 0 rfl qK qK qK rfl rfl qD (Yl.makeFunc (fi := []) (ca := [.tmp 19]) rfl rfl rfl (fun _ => rfl)) qS qR ?_
       refine tP 1 ?_
       refine tP 2 ?_
       refine tD 3 (r := by (exact Rd.ro qU)) (k := ?_)
       refine tP 4 ?_
       refine WA.take 5 rfl qK qK qK rfl rfl qD (Yl.mul rfl rfl rfl (fun _ => rfl) qA) qS qR ?_
       refine tX 6 ?_
       refine tD 7 (r := by ((apply RS.rdD; assumption; ((try dsimp only) <;> omega)))) (k := ?_)
       refine tD 8 (r := by (exact Rd.ro qU)) (k := ?_)
       refine tP 9 ?_
       refine tI 10 ?_
       refine tD 11 (r := by ((apply RS.rdD; assumption; ((try dsimp only) <;> omega)))) (k := ?_)
       refine tS 12 ?_
       refine WA.callG 13 rfl qK en111 rfl (by first | rfl | decide) rfl qD (CallOp.mkT rfl rfl rfl rfl) (by
        rw [eI]
        exact Build_C (S := tb.length) (P := tb.length) (I := (slotF cap lost (mineT tb cls) tb.length) (2 * tb.length) - (slotF cap lost (mineT tb cls) tb.length) tb.length) (F := (slotF cap lost (mineT tb cls) tb.length)) (g := 200) (fi := #[]) (ca := #[.pointer (some ⟨b19, 0, none⟩)]) en200 qO qO ⟨g3, by omega⟩ (fun t ht => .inr (by have := hFb t qO; omega)) hF w0 _) ?_
       rintro _ R4 E4 hR4 ⟨f, fc, rfl, hf, hsub⟩
       refine ⟨hR4, List.nil_sublist _, ?_⟩
       refine WA.subE hsub ?_
       rw [← hd] at hf ⊢
       unfold cvV
       refine tP 14 ?_
       refine tP 15 ?_
       refine zCE 16 1 ?_
       refine tP 17 ?_
       refine WA.done qK ?_
       refine zU (zT ?_)
       refine zq4 (by first | exact RLe.refl _ | exact hRa.trans (hRb.trans hR4) | exact hR1.trans (hR2.trans (hRc.trans hR4))) ?_
       exact ⟨f, fc, rfl, hf, qS⟩

theorem CurFifo_C {R : Ro} {aw at_ : Option Addr} {lw cw lt ct : Nat} {L : Ln} (hw : RS R 1 encI aw L.w) (hlw : L.w.length = lw) (ht : RS R 1 encI at_ L.tb) (hlt : L.tb.length = lt) {la : Option Addr} {lc ll : Nat} {ls : List CvS} (hla : RS R 3 encC la ls) (hll : ls.length = ll) (hlc : ll ≤ lc) (hls : ∀ x ∈ ls, RS R 1 encI x.a x.cv.vals ∧ x.cv.vals.length ≤ 100000) {za : Option Addr} {zc lz : Nat} {z : List Sz} (hzr : RS R 2 encZ za z) (hlz : z.length = lz) (hzc : lz ≤ zc) {cls : Int} (hc : 1 ≤ L.cap ∧ L.cap ≤ 4000) (hvl : ∀ x ∈ ls, validB x.cv = true) (w0 : World) (E : List Ent) : K.Fn Tryz.prog 138 [.agg #[], .agg #[.int .i64 L.kind, .int .i64 L.cap, .int .i64 L.n, .slice aw lw cw, .slice at_ lt ct], .int .i64 cls, .slice la ll lc, .slice za lz zc] w0 R E (fun r R' E' => ∃ (f : Option Addr) (fc : Nat), r = cvV f fc (fifoC L.cap (ls.map CvS.cv)) ∧ RS R' 1 encI f (fifoC L.cap (ls.map CvS.cv)).1.vals ∧ E.Sublist E') := by
 have eF : fifoC L.cap (ls.map CvS.cv) = if (allC L.cap (ls.map CvS.cv)).2 ≠ 0 then (zcv, (allC L.cap (ls.map CvS.cv)).2) else if (allC L.cap (ls.map CvS.cv)).1.1 = true then (zcv, 5) else waitC (allC L.cap (ls.map CvS.cv)).1.2.1 := rfl
 refine fE 32 Tryz.func138 ?_
 refine zQ (zG ?_)
 refine zO fun b5 => ?_
 refine zO fun b6 => ?_
 refine zA fun b10 => ?_
 refine zR 1 rfl (zN (zU (zQ (zG ?_))))
 refine yB 1 ?_
 refine zR 1 rfl ?_
 refine WL.call en42 rfl rfl qD (CallOp.mkT rfl rfl rfl rfl) (AllSrv_C hw hlw ht hlt hla hll (fun x hx => ⟨(hls x hx).1, hvl x hx⟩) hc w0 _) ?_
 rintro _ R2 E2 hR2 ⟨rfl, hsub⟩
 refine WL.subE hsub ?_
 generalize allC L.cap (ls.map CvS.cv) = q at eF ⊢
 unfold devV
 refine zR 3 rfl ?_
 refine zA fun b12 => ?_
 refine zE 0 ?_
 refine zR 1 rfl (zN (zU (zQ (zQ (zG (zR 2 rfl (zN (zU ?_))))))))
 refine cN rfl ?_ ?_ <;> intro hc0
 ·
  rw [if_pos hc0] at eF
  refine zQ (zG ?_)
  refine yW [] ?_
  refine zR 1 rfl ?_
  refine zE 1 ?_
  refine zR 1 rfl (zN (zU (zT (wt ?_))))
  refine zq4 (by first | exact hR2 | exact hR2.trans hR3) ?_
  rw [eF]
  exact ⟨none, 0, rfl, rs_nil, qS⟩
 ·
  rw [if_neg (fun h => h hc0)] at eF
  refine zK (zU (zQ (zQ (zG (zR 1 rfl ?_)))))
  refine yM 0 ?_
  refine zN (zU ?_)
  refine cC rfl ?_ ?_ <;> intro hc1
  ·try simp only [zk] at hc1
   rw [if_pos hc1] at eF
   refine zQ (zG ?_)
   refine yW [] ?_
   refine zE 1 ?_
   refine zR 1 rfl (zN (zU (zT (wt ?_))))
   refine zq4 (by first | exact hR2 | exact hR2.trans hR3) ?_
   rw [eF]
   exact ⟨none, 0, rfl, rs_nil, qS⟩
  ·try simp only [zk] at hc1
   rw [if_neg (by simp [hc1])] at eF
   refine zK (zU (zQ (zG (zR 1 rfl ?_))))
   refine yM 0 ?_
   refine WL.call en141 rfl rfl qD (CallOp.mkT rfl rfl rfl rfl) (Wait_C (v := q.1.2.1) w0 _) ?_
   rintro _ R3 E3 hR3 ⟨f, fc, rfl, hf, hsub3⟩
   refine WL.subE hsub3 ?_
   rw [← eF] at hf ⊢
   unfold cvV
   refine zR 2 rfl ?_
   refine zE 1 ?_
   refine zR 1 rfl (zN (zU (zT ?_)))
   refine zq4 (by first | exact hR2 | exact hR2.trans hR3) ?_
   exact ⟨f, fc, rfl, hf, qS⟩
theorem CurRanks_C {R : Ro} {aw at_ : Option Addr} {lw cw lt ct : Nat} {L : Ln} (hw : RS R 1 encI aw L.w) (hlw : L.w.length = lw) (ht : RS R 1 encI at_ L.tb) (hlt : L.tb.length = lt) {la : Option Addr} {lc ll : Nat} {ls : List CvS} (hla : RS R 3 encC la ls) (hll : ls.length = ll) (hlc : ll ≤ lc) (hls : ∀ x ∈ ls, RS R 1 encI x.a x.cv.vals ∧ x.cv.vals.length ≤ 100000) {za : Option Addr} {zc lz : Nat} {z : List Sz} (hzr : RS R 2 encZ za z) (hlz : z.length = lz) (hzc : lz ≤ zc) {cls : Int} (htc : lt ≤ ct) (w0 : World) (E : List Ent) : K.Fn Tryz.prog 148 [.agg #[], .agg #[.int .i64 L.kind, .int .i64 L.cap, .int .i64 L.n, .slice aw lw cw, .slice at_ lt ct], .int .i64 cls, .slice la ll lc, .slice za lz zc] w0 R E (fun r R' E' => ∃ (f : Option Addr) (fc : Nat), r = cvV f fc (prioC L.cap cls (ls.map CvS.cv) z) ∧ RS R' 1 encI f (prioC L.cap cls (ls.map CvS.cv) z).1.vals ∧ E.Sublist E') := by
 subst hlw
 subst hlt
 subst hll
 subst hlz
 refine fE 20 Tryz.func148 ?_
 refine zQ (zG ?_)
 refine zO fun b5 => ?_
 refine zO fun b6 => ?_
 refine zA fun b10 => ?_
 refine zR 1 rfl (zN (zU (zQ (zG (zR 1 rfl ?_)))))
 refine yM 1 ?_
 refine zR 3 rfl ?_
 refine WL.call en150 rfl rfl qD (CallOp.mkT rfl rfl rfl rfl) (PCurve_C hla hlc hls hzr hzc w0 _) ?_
 rintro _ R3 E3 hR3 ⟨f, fc, rfl, hf, hsub3⟩
 refine WL.subE hsub3 ?_
 unfold cvV
 refine zR 2 rfl ?_
 refine zE 0 ?_
 refine zR 1 rfl (zN (zU (zT ?_)))
 refine zq4 (hR3) ?_
 exact ⟨f, fc, rfl, hf, qS⟩
theorem CurRobin_C {R : Ro} {aw at_ : Option Addr} {lw cw lt ct : Nat} {L : Ln} (hw : RS R 1 encI aw L.w) (hlw : L.w.length = lw) (ht : RS R 1 encI at_ L.tb) (hlt : L.tb.length = lt) {la : Option Addr} {lc ll : Nat} {ls : List CvS} (hla : RS R 3 encC la ls) (hll : ls.length = ll) (hlc : ll ≤ lc) (hls : ∀ x ∈ ls, RS R 1 encI x.a x.cv.vals ∧ x.cv.vals.length ≤ 100000) {za : Option Addr} {zc lz : Nat} {z : List Sz} (hzr : RS R 2 encZ za z) (hlz : z.length = lz) (hzc : lz ≤ zc) {cls : Int} (htc : lt ≤ ct) (w0 : World) (E : List Ent) : K.Fn Tryz.prog 162 [.agg #[], .agg #[.int .i64 L.kind, .int .i64 L.cap, .int .i64 L.n, .slice aw lw cw, .slice at_ lt ct], .int .i64 cls, .slice la ll lc, .slice za lz zc] w0 R E (fun r R' E' => ∃ (f : Option Addr) (fc : Nat), r = cvV f fc (robinC L.cap cls L.w z) ∧ RS R' 1 encI f (robinC L.cap cls L.w z).1.vals ∧ E.Sublist E') := by
 subst hlw
 subst hlt
 subst hll
 subst hlz
 refine fE 21 Tryz.func162 ?_
 refine zQ (zG ?_)
 refine zO fun b5 => ?_
 refine zO fun b6 => ?_
 refine zA fun b10 => ?_
 refine zR 1 rfl (zN (zU (zQ (zG (zR 1 rfl ?_)))))
 refine yM 1 ?_
 refine zR 2 rfl ?_
 refine yM 1 ?_
 refine zR 1 rfl ?_
 refine WL.call en165 rfl rfl qD (CallOp.mkT rfl rfl rfl rfl) (CurveRob_C hw hzr w0 _) ?_
 rintro _ R3 E3 hR3 ⟨f, fc, rfl, hf, hsub3⟩
 refine WL.subE hsub3 ?_
 unfold cvV
 refine zR 2 rfl ?_
 refine zE 0 ?_
 refine zR 1 rfl (zN (zU (zT ?_)))
 refine zq4 (hR3) ?_
 exact ⟨f, fc, rfl, hf, qS⟩
theorem CurDef_C {R : Ro} {aw at_ : Option Addr} {lw cw lt ct : Nat} {L : Ln} (hw : RS R 1 encI aw L.w) (hlw : L.w.length = lw) (ht : RS R 1 encI at_ L.tb) (hlt : L.tb.length = lt) {la : Option Addr} {lc ll : Nat} {ls : List CvS} (hla : RS R 3 encC la ls) (hll : ls.length = ll) (hlc : ll ≤ lc) (hls : ∀ x ∈ ls, RS R 1 encI x.a x.cv.vals ∧ x.cv.vals.length ≤ 100000) {za : Option Addr} {zc lz : Nat} {z : List Sz} (hzr : RS R 2 encZ za z) (hlz : z.length = lz) (hzc : lz ≤ zc) {cls : Int} (htc : lt ≤ ct) (w0 : World) (E : List Ent) : K.Fn Tryz.prog 179 [.agg #[], .agg #[.int .i64 L.kind, .int .i64 L.cap, .int .i64 L.n, .slice aw lw cw, .slice at_ lt ct], .int .i64 cls, .slice la ll lc, .slice za lz zc] w0 R E (fun r R' E' => ∃ (f : Option Addr) (fc : Nat), r = cvV f fc (defC L.cap cls L.w z) ∧ RS R' 1 encI f (defC L.cap cls L.w z).1.vals ∧ E.Sublist E') := by
 subst hlw
 subst hlt
 subst hll
 subst hlz
 refine fE 21 Tryz.func179 ?_
 refine zQ (zG ?_)
 refine zO fun b5 => ?_
 refine zO fun b6 => ?_
 refine zA fun b10 => ?_
 refine zR 1 rfl (zN (zU (zQ (zG (zR 1 rfl ?_)))))
 refine yM 1 ?_
 refine zR 2 rfl ?_
 refine yM 1 ?_
 refine zR 1 rfl ?_
 refine WL.call en181 rfl rfl qD (CallOp.mkT rfl rfl rfl rfl) (CurveDef_C hw hzr w0 _) ?_
 rintro _ R3 E3 hR3 ⟨f, fc, rfl, hf, hsub3⟩
 refine WL.subE hsub3 ?_
 unfold cvV
 refine zR 2 rfl ?_
 refine zE 0 ?_
 refine zR 1 rfl (zN (zU (zT ?_)))
 refine zq4 (hR3) ?_
 exact ⟨f, fc, rfl, hf, qS⟩
theorem CurTimes_C {R : Ro} {aw at_ : Option Addr} {lw cw lt ct : Nat} {L : Ln} (hw : RS R 1 encI aw L.w) (hlw : L.w.length = lw) (ht : RS R 1 encI at_ L.tb) (hlt : L.tb.length = lt) {la : Option Addr} {lc ll : Nat} {ls : List CvS} (hla : RS R 3 encC la ls) (hll : ls.length = ll) (hlc : ll ≤ lc) (hls : ∀ x ∈ ls, RS R 1 encI x.a x.cv.vals ∧ x.cv.vals.length ≤ 100000) {za : Option Addr} {zc lz : Nat} {z : List Sz} (hzr : RS R 2 encZ za z) (hlz : z.length = lz) (hzc : lz ≤ zc) {cls : Int} (htc : lt ≤ ct) (w0 : World) (E : List Ent) : K.Fn Tryz.prog 192 [.agg #[], .agg #[.int .i64 L.kind, .int .i64 L.cap, .int .i64 L.n, .slice aw lw cw, .slice at_ lt ct], .int .i64 cls, .slice la ll lc, .slice za lz zc] w0 R E (fun r R' E' => ∃ (f : Option Addr) (fc : Nat), r = cvV f fc (slotC L.cap cls L.tb z) ∧ RS R' 1 encI f (slotC L.cap cls L.tb z).1.vals ∧ E.Sublist E') := by
 subst hlw
 subst hlt
 subst hll
 subst hlz
 refine fE 21 Tryz.func192 ?_
 refine zQ (zG ?_)
 refine zO fun b5 => ?_
 refine zO fun b6 => ?_
 refine zA fun b10 => ?_
 refine zR 1 rfl (zN (zU (zQ (zG (zR 1 rfl ?_)))))
 refine yM 1 ?_
 refine zR 2 rfl ?_
 refine yM 1 ?_
 refine zR 1 rfl ?_
 refine WL.call en194 rfl rfl qD (CallOp.mkT rfl rfl rfl rfl) (CurveT_C ht hzr htc w0 _) ?_
 rintro _ R3 E3 hR3 ⟨f, fc, rfl, hf, hsub3⟩
 refine WL.subE hsub3 ?_
 unfold cvV
 refine zR 2 rfl ?_
 refine zE 0 ?_
 refine zR 1 rfl (zN (zU (zT ?_)))
 refine zq4 (hR3) ?_
 exact ⟨f, fc, rfl, hf, qS⟩
theorem ArgSrv_V {R : Ro} {aw at_ : Option Addr} {lw cw lt ct : Nat} {L : Ln} (hw : RS R 1 encI aw L.w) (hlw : L.w.length = lw) (ht : RS R 1 encI at_ L.tb) (hlt : L.tb.length = lt) {la : Option Addr} {lc ll : Nat} {ls : List CvS} (hla : RS R 3 encC la ls) (hll : ls.length = ll) (hlc : ll ≤ lc) (hls : ∀ x ∈ ls, RS R 1 encI x.a x.cv.vals ∧ x.cv.vals.length ≤ 100000) {za : Option Addr} {zc lz : Nat} {z : List Sz} (hzr : RS R 2 encZ za z) (hlz : z.length = lz) (hzc : lz ≤ zc) {cls : Int} : FnV Tryz.prog 31 [.agg #[.int .i64 L.kind, .int .i64 L.cap, .int .i64 L.n, .slice aw lw cw, .slice at_ lt ct], .int .i64 cls, .slice la ll lc, .slice za lz zc] R (.int .i64 (argE L cls (ls.map CvS.cv) z)) := by
 subst hll
 subst hlz
 have hl1 := hla.len
 have hl2 := hzr.len
 refine Fn.toV (fun w0 E => ?_)
 refine fE 58 Tryz.func31 ?_
 refine zQ (zG ?_)
 refine zO fun b4 => ?_
 refine zR 1 rfl (zN (zU (zQ (zQ (zG ?_)))))
 refine yB 0 ?_
 refine WG.callV en26 rfl rfl qD (CallOp.mk' rfl rfl rfl rfl) (fun _ => rfl) (fun hg => ChkSrv_V hw hlw ht hlt) ?_
 refine zR 1 rfl (zN (zU (zQ (zG (zR 2 rfl (zN (zU ?_)))))))
 refine cN rfl ?_ ?_ <;> intro hc0
 ·
  have e : argE L cls (ls.map CvS.cv) z = chkL L := if_pos hc0
  refine zQ (zG (zR 2 rfl (zN (zU (zT (wt ?_))))))
  refine sE (E := E) ?_
  refine zr1 ?_
  exact ⟨by rw [e]; rfl, rfl⟩
 ·
  have hn := (chk_facts hc0).2.2.2
  refine zK (zU (zQ (zQ (zG (zR 3 rfl ?_)))))
  refine yP ?_
  refine yP ?_
  refine yG (Rd.addC (Rd.blkC 0 rfl) _) ?_
  refine yP ?_
  refine yO ?_
  refine zR 1 rfl ?_
  refine yP ?_
  refine yP ?_
  refine yP ?_
  refine yG (Rd.addC (Rd.blkC 0 rfl) _) ?_
  refine yP ?_
  refine yO ?_
  refine zR 1 rfl ?_
  refine yP ?_
  refine yP ?_
  refine yP ?_
  refine yG (Rd.addC (Rd.blkC 0 rfl) _) ?_
  refine yP ?_
  refine yO ?_
  refine zN (zU ?_)
  refine cC rfl ?_ ?_ <;> intro hc1
  ·try simp only [zk] at hc1
   have e : argE L cls (ls.map CvS.cv) z = 2 := by unfold argE; rw [if_neg (fun h => h hc0), if_pos (by rw [List.length_map]; omega)]
   refine zQ (zG (zR 1 rfl (zN (zU (zT (wt ?_))))))
   refine sE (E := E) ?_
   refine zr1 ?_
   exact ⟨by rw [e]; rfl, rfl⟩
  ·try simp only [zk] at hc1
   refine zK (zU (zQ (zQ (zG (zR 1 rfl ?_)))))
   refine yM 0 ?_
   refine zR 2 rfl ?_
   refine WG.callV en49 rfl rfl qD (CallOp.mk' rfl rfl rfl rfl) (fun _ => rfl) (fun hg => CheckP_V hzr) ?_
   refine zR 1 rfl (zN (zU (zQ (zG (zR 2 rfl (zN (zU ?_)))))))
   refine cN rfl ?_ ?_ <;> intro hc2
   ·
    have e : argE L cls (ls.map CvS.cv) z = chk18 L.cap cls z := by unfold argE; rw [if_neg (fun h => h hc0), if_neg (by rw [List.length_map]; omega), if_pos hc2]
    refine zQ (zG (zR 2 rfl (zN (zU (zT (wt ?_))))))
    refine sE (E := E) ?_
    refine zr1 ?_
    exact ⟨by rw [e]; rfl, rfl⟩
   ·
    refine zK (zU (zQ (zQ (zG (zR 3 rfl (zN (zU (zB ?_))))))))
    refine W.loopK (β := Nat) (fun k => k ≤ ls.length ∧ ∀ i, i < k → validB (nth ls i).cv = true) (fun k => [(50, true, .int .i64 (k : Int))]) [48, 49] [_, _] [] _ rfl (fun k => []) (fun k => ls.length - k) (0) (⟨Nat.zero_le _, fun i hi => absurd hi (Nat.not_lt_zero i)⟩) ⟨rfl, rfl, rfl, rfl⟩ qS ?_
    intro k hst
    obtain ⟨hk, hpre⟩ := hst
    refine zQ (zG (zR 1 rfl (zN (zU (zQ ?_)))))
    refine cD rfl ?_ ?_ <;> intro hc3
    ·
     refine zK (zU (zQ (zB (zQ (zG ?_)))))
     refine yI ?_
     refine yD (r := by ((apply RS.rdD; assumption; ((try dsimp only) <;> omega)))) (k := ?_)
     refine zA fun b12 => ?_
     refine zE 0 ?_
     refine zN (zU (zQ (zG ?_)))
     refine yB 0 ?_
     refine WG.callV en50 rfl rfl qD (CallOp.mk' rfl rfl rfl rfl) (fun _ => rfl) (fun hg => CValidG_V (hls _ (nth_mem (xs := ls) (k := k) qO)).1 (hls _ (nth_mem (xs := ls) (k := k) qO)).2) ?_
     refine zR 1 rfl (zN (zU ?_))
     refine cC rfl ?_ ?_ <;> intro hc4
     ·try simp only [zk] at hc4
      have e : argE L cls (ls.map CvS.cv) z = 1 := by
       unfold argE
       rw [if_neg (fun h => h hc0), if_neg (by rw [List.length_map]; omega), if_neg (fun h => h hc2), if_neg]
       intro hh
       have := List.all_eq_true.1 hh _ (List.mem_map.2 ⟨_, nth_mem (xs := ls) (k := k) (by omega), rfl⟩)
       rw [this] at hc4; cases hc4
      refine zQ (zG (zR 1 rfl (zN (zU (zT (wb (wt (wt (wb (wt ?_))))))))))
      refine sE (E := E) ?_
      refine zr1 ?_
      exact ⟨by rw [e]; rfl, rfl⟩
     ·try simp only [zk] at hc4
      refine zK (zL (zU (zG ?_)))
      refine yA ?_
      refine zR 1 rfl (zN ?_)
      refine WE.again (k + 1) (⟨by omega, fun i hi => by rcases Nat.lt_or_ge i k with h | h; exact hpre i h; rw [show i = k by omega]; exact hc4⟩) (by (try dsimp only); omega) ⟨rfl, rfl, rfl, rfl⟩ (RLe.refl _) qS
    ·
     refine zX ?_
     refine wx (wx (zY (zU (zQ (zG (zR 1 rfl (zN (zU (zT ?_)))))))))
     refine sE (E := E) ?_
     refine zr1 ?_
     have e : argE L cls (ls.map CvS.cv) z = 0 := by
      unfold argE
      rw [if_neg (fun h => h hc0), if_neg (by rw [List.length_map]; omega), if_neg (fun h => h hc2), if_pos]
      rw [List.all_eq_true]
      intro x hx
      obtain ⟨y, hy, rfl⟩ := List.mem_map.1 hx
      obtain ⟨i, hi, rfl⟩ := List.getElem_of_mem hy
      have := hpre i (by omega)
      rw [show nth ls i = ls[i] by unfold nth List.getD; rw [List.getElem?_eq_getElem hi]; rfl] at this
      exact this
     exact ⟨by rw [e]; rfl, rfl⟩

theorem meth_curve1 (x y z u : Value) : Meth Tryz.prog 85 (.agg #[]) "netcalculus/server.curve" 138 [x, y, z, u] := fun w => by kernel_rfl
theorem meth_curve2 (x y z u : Value) : Meth Tryz.prog 86 (.agg #[]) "netcalculus/server.curve" 148 [x, y, z, u] := fun w => by kernel_rfl
theorem meth_curve3 (x y z u : Value) : Meth Tryz.prog 87 (.agg #[]) "netcalculus/server.curve" 162 [x, y, z, u] := fun w => by kernel_rfl
theorem meth_curve4 (x y z u : Value) : Meth Tryz.prog 88 (.agg #[]) "netcalculus/server.curve" 179 [x, y, z, u] := fun w => by kernel_rfl
theorem meth_curve5 (x y z u : Value) : Meth Tryz.prog 89 (.agg #[]) "netcalculus/server.curve" 192 [x, y, z, u] := fun w => by kernel_rfl
theorem arg_facts {L : Ln} {cls : Int} {l : List Cv} {z : List Sz} (h : argE L cls l z = 0) : chkL L = 0 ∧ (0 ≤ cls ∧ cls < L.n ∧ (l.length : Int) = L.n ∧ (z.length : Int) = L.n) ∧ chk18 L.cap cls z = 0 ∧ ∀ c ∈ l, validB c = true := by
 unfold argE at h
 split at h
 ·rename_i h1; exact absurd h h1
 ·rename_i h1
  split at h
  ·omega
  ·split at h
   ·rename_i h2; exact absurd h h2
   ·rename_i h2
    split at h
    ·rename_i h3
     exact ⟨by omega, by omega, by omega, fun c hc => List.all_eq_true.1 h3 c hc⟩
    ·omega
theorem curve_any {R : Ro} {aw at_ : Option Addr} {lw cw lt ct : Nat} {L : Ln} (hw : RS R 1 encI aw L.w) (hlw : L.w.length = lw) (ht : RS R 1 encI at_ L.tb) (hlt : L.tb.length = lt) {la : Option Addr} {lc ll : Nat} {ls : List CvS} (hla : RS R 3 encC la ls) (hll : ls.length = ll) (hlc : ll ≤ lc) (hls : ∀ x ∈ ls, RS R 1 encI x.a x.cv.vals ∧ x.cv.vals.length ≤ 100000) {za : Option Addr} {zc lz : Nat} {z : List Sz} (hzr : RS R 2 encZ za z) (hlz : z.length = lz) (hzc : lz ≤ zc) {cls : Int} (htc : lt ≤ ct) (h0 : argE L cls (ls.map CvS.cv) z = 0) (w0 : World) (E : List Ent) :
  ∃ (T f : Nat), kindI L.kind = .iface T (.agg #[]) ∧ Meth Tryz.prog T (.agg #[]) "netcalculus/server.curve" f [.agg #[.int .i64 L.kind, .int .i64 L.cap, .int .i64 L.n, .slice aw lw cw, .slice at_ lt ct], .int .i64 cls, .slice la ll lc, .slice za lz zc] ∧ K.Fn Tryz.prog f [.agg #[], .agg #[.int .i64 L.kind, .int .i64 L.cap, .int .i64 L.n, .slice aw lw cw, .slice at_ lt ct], .int .i64 cls, .slice la ll lc, .slice za lz zc] w0 R E (fun r R' E' => ∃ (f : Option Addr) (fc : Nat), r = cvV f fc (schedC L cls (ls.map CvS.cv) z) ∧ RS R' 1 encI f (schedC L cls (ls.map CvS.cv) z).1.vals ∧ E.Sublist E') := by
 obtain ⟨hk0, -, -, hv⟩ := arg_facts h0
 have hf := chk_facts hk0
 rcases (show L.kind = 1 ∨ L.kind = 2 ∨ L.kind = 3 ∨ L.kind = 4 ∨ L.kind = 5 by omega) with h | h | h | h | h
 ·have e : schedC L cls (ls.map CvS.cv) z = fifoC L.cap (ls.map CvS.cv) := by unfold schedC; rw [h]; rfl
  rw [e]
  exact ⟨_, _, by unfold kindI; rw [h]; rfl, meth_curve1 _ _ _ _, CurFifo_C hw hlw ht hlt hla hll hlc hls hzr hlz hzc ⟨hf.2.1, hf.2.2.1⟩ (fun x hx => hv _ (List.mem_map.2 ⟨x, hx, rfl⟩)) w0 E⟩
 ·have e : schedC L cls (ls.map CvS.cv) z = prioC L.cap cls (ls.map CvS.cv) z := by unfold schedC; rw [h]; rfl
  rw [e]
  exact ⟨_, _, by unfold kindI; rw [h]; rfl, meth_curve2 _ _ _ _, CurRanks_C hw hlw ht hlt hla hll hlc hls hzr hlz hzc htc w0 E⟩
 ·have e : schedC L cls (ls.map CvS.cv) z = robinC L.cap cls L.w z := by unfold schedC; rw [h]; rfl
  rw [e]
  exact ⟨_, _, by unfold kindI; rw [h]; rfl, meth_curve3 _ _ _ _, CurRobin_C hw hlw ht hlt hla hll hlc hls hzr hlz hzc htc w0 E⟩
 ·have e : schedC L cls (ls.map CvS.cv) z = defC L.cap cls L.w z := by unfold schedC; rw [h]; rfl
  rw [e]
  exact ⟨_, _, by unfold kindI; rw [h]; rfl, meth_curve4 _ _ _ _, CurDef_C hw hlw ht hlt hla hll hlc hls hzr hlz hzc htc w0 E⟩
 ·have e : schedC L cls (ls.map CvS.cv) z = slotC L.cap cls L.tb z := by unfold schedC; rw [h]; rfl
  rw [e]
  exact ⟨_, _, by unfold kindI; rw [h]; rfl, meth_curve5 _ _ _ _, CurTimes_C hw hlw ht hlt hla hll hlc hls hzr hlz hzc htc w0 E⟩
theorem CurveSrv_C {R : Ro} {aw at_ : Option Addr} {lw cw lt ct : Nat} {L : Ln} (hw : RS R 1 encI aw L.w) (hlw : L.w.length = lw) (ht : RS R 1 encI at_ L.tb) (hlt : L.tb.length = lt) {la : Option Addr} {lc ll : Nat} {ls : List CvS} (hla : RS R 3 encC la ls) (hll : ls.length = ll) (hlc : ll ≤ lc) (hls : ∀ x ∈ ls, RS R 1 encI x.a x.cv.vals ∧ x.cv.vals.length ≤ 100000) {za : Option Addr} {zc lz : Nat} {z : List Sz} (hzr : RS R 2 encZ za z) (hlz : z.length = lz) (hzc : lz ≤ zc) {cls : Int} (htc : lt ≤ ct) (w0 : World) (E : List Ent) : K.Fn Tryz.prog 16 [.agg #[.int .i64 L.kind, .int .i64 L.cap, .int .i64 L.n, .slice aw lw cw, .slice at_ lt ct], .int .i64 cls, .slice la ll lc, .slice za lz zc] w0 R E (fun r R' E' => ∃ (f : Option Addr) (fc : Nat), r = cvV f fc (curveL L cls (ls.map CvS.cv) z) ∧ RS R' 1 encI f (curveL L cls (ls.map CvS.cv) z).1.vals ∧ E.Sublist E') := by
 refine fE 36 Tryz.func16 ?_
 refine zQ (zG ?_)
 refine zO fun b4 => ?_
 refine zA fun b8 => ?_
 refine zR 1 rfl (zN (zU (zQ (zQ (zG ?_)))))
 refine yB 1 ?_
 refine zR 3 rfl ?_
 refine WG.callV en31 rfl rfl qD (CallOp.mk' rfl rfl rfl rfl) (fun _ => rfl) (fun hg => ArgSrv_V hw hlw ht hlt hla hll hlc hls hzr hlz hzc) ?_
 refine zR 1 rfl (zN (zU (zQ (zG (zR 2 rfl (zN (zU ?_)))))))
 refine cN rfl ?_ ?_ <;> intro hc0
 ·
  have e : curveL L cls (ls.map CvS.cv) z = (zcv, argE L cls (ls.map CvS.cv) z) := if_pos hc0
  refine zQ (zG ?_)
  refine yW [] ?_
  refine zR 1 rfl ?_
  refine zE 0 ?_
  refine zR 1 rfl (zN (zU (zT (wt ?_))))
  refine zq4 (by first | exact RLe.refl _ | exact hR2) ?_
  rw [e]
  exact ⟨none, 0, rfl, rs_nil, qS⟩
 ·
  have e : curveL L cls (ls.map CvS.cv) z = schedC L cls (ls.map CvS.cv) z := if_neg (fun h => h hc0)
  refine zK (zU (zQ (zG (zR 1 rfl ?_))))
  refine yM 1 ?_
  refine WG.callV en32 rfl rfl qD (CallOp.mk' rfl rfl rfl rfl) (fun _ => rfl) (fun hg => Kind_V L.kind) ?_
  refine zR 5 rfl (zN (zU ?_))
  obtain ⟨T9, f9, e9, m9, v9⟩ := curve_any (R := R) (lw := lw) (lt := lt) (cw := cw) (ct := ct) (cls := cls) hw hlw ht hlt hla hll hlc hls hzr hlz hzc htc hc0 w0 (.blk b8 [.slice none 0 0, .int .i64 0, .int .i64 0] :: .blk b4 [.int .i64 L.kind, .int .i64 L.cap, .int .i64 L.n, .slice aw lw cw, .slice at_ lt ct] :: E)
  rw [e9]
  refine zQ (zG (zR 1 rfl ?_))
  refine yB 1 ?_
  refine zR 3 rfl ?_
  refine WL.callI (args := [.tmp 29, .tmp 30, .tmp 31, .tmp 32]) rfl rfl rfl qD rfl rfl (m9) (v9) ?_
  rintro _ R2 E2 hR2 ⟨f, fc, rfl, hf, hsub⟩
  refine WL.subE hsub ?_
  rw [← e] at hf ⊢
  unfold cvV
  refine zR 2 rfl ?_
  refine zE 0 ?_
  refine zR 1 rfl (zN (zU (zT ?_)))
  refine zq4 (by first | exact RLe.refl _ | exact hR2) ?_
  exact ⟨f, fc, rfl, hf, qS⟩

theorem Measure_C {R : Ro} {g : FuncId} (w0 : World) (E : List Ent) : K.Fn Tryz.prog 40 [.func (.func g) #[] #[]] w0 R E (fun v R' E' => ∃ b1 : Nat, v = .func (.func 70) #[] #[.pointer (some ⟨b1, 0, none⟩)] ∧ R' b1 = some [.func (.func g) #[] #[]] ∧ E.Sublist E') := by
 refine fE 4 Tryz.func40 ?_
 refine zQ (zG ?_)
 refine zO fun b1 => ?_
 refine zR 1 rfl (zN (zU ?_))
 refine W.freezeBlk (b := b1) 0 rfl (fun R1 hR1 hb1 => ?_)
 refine zQ (zG (zR 2 rfl (zN (zU (zT ?_)))))
 refine zq1 (hR1) ?_
 exact ⟨b1, rfl, hb1, qS⟩
theorem Measure1_C {R : Ro} {aw at_ : Option Addr} {lw cw lt ct : Nat} {L : Ln} (hw : RS R 1 encI aw L.w) (hlw : L.w.length = lw) (ht : RS R 1 encI at_ L.tb) (hlt : L.tb.length = lt) {la : Option Addr} {lc ll : Nat} {ls : List CvS} (hla : RS R 3 encC la ls) (hll : ls.length = ll) (hlc : ll ≤ lc) (hls : ∀ x ∈ ls, RS R 1 encI x.a x.cv.vals ∧ x.cv.vals.length ≤ 100000) {za : Option Addr} {zc lz : Nat} {z : List Sz} (hzr : RS R 2 encZ za z) (hlz : z.length = lz) (hzc : lz ≤ zc) {cls : Int} (htc : lt ≤ ct) {g : FuncId} {D : Cv → Cv → (Bool × Int × Int) × Int} (heg : Enters Tryz.prog g) (hD : ∀ {R : Ro} {fa ga : Option Addr} {fc gc : Nat} {cf cg : Cv}, validB cf = true → RS R 1 encI fa cf.vals → validB cg = true → RS R 1 encI ga cg.vals → ∀ (w0 : World) (E : List Ent), K.Fn Tryz.prog g [.agg #[.slice fa cf.vals.length fc, .int .i64 cf.per, .int .i64 cf.inc], .agg #[.slice ga cg.vals.length gc, .int .i64 cg.per, .int .i64 cg.inc]] w0 R E (fun v R' E' => v = devV (D cf cg) ∧ E.Sublist E')) {b1 : Nat} (hb1 : R b1 = some [.func (.func g) #[] #[]]) (w0 : World) (E : List Ent) : K.Fn Tryz.prog 70 [.agg #[.int .i64 L.kind, .int .i64 L.cap, .int .i64 L.n, .slice aw lw cw, .slice at_ lt ct], .int .i64 cls, .slice la ll lc, .slice za lz zc, .pointer (some ⟨b1, 0, none⟩)] w0 R E (fun r R' E' => r = devV (measL D L cls (ls.map CvS.cv) z) ∧ E.Sublist E') := by
 have hl1 := hla.len
 have eM : measL D L cls (ls.map CvS.cv) z = if (curveL L cls (ls.map CvS.cv) z).2 ≠ 0 then ((false, 0, 0), (curveL L cls (ls.map CvS.cv) z).2) else D (nth (ls.map CvS.cv) cls.toNat) (curveL L cls (ls.map CvS.cv) z).1 := rfl
 refine fE 34 Tryz.func70 ?_
 refine zQ (zG ?_)
 refine zO fun b5 => ?_
 refine zA fun b9 => ?_
 refine zR 1 rfl (zN (zU (zQ (zG ?_))))
 refine yB 1 ?_
 refine zR 3 rfl ?_
 refine WL.call en16 rfl rfl qD (CallOp.mkT rfl rfl rfl rfl) (CurveSrv_C hw hlw ht hlt hla hll hlc hls hzr hlz hzc htc w0 _) ?_
 rintro _ R2 E2 hR2 ⟨f, fc, rfl, hf, hsub⟩
 refine WL.subE hsub ?_
 have hcv : (curveL L cls (ls.map CvS.cv) z).2 = 0 → argE L cls (ls.map CvS.cv) z = 0 ∧ validB (curveL L cls (ls.map CvS.cv) z).1 = true := fun h => by
  have ha : argE L cls (ls.map CvS.cv) z = 0 := by
   apply Classical.byContradiction
   intro hn
   unfold curveL at h
   rw [if_pos hn] at h
   exact hn h
  refine ⟨ha, ?_⟩
  have e : curveL L cls (ls.map CvS.cv) z = schedC L cls (ls.map CvS.cv) z := if_neg (fun hn => hn ha)
  rw [e] at h ⊢
  exact sched_valid (arg_facts ha).2.2.2 h
 generalize curveL L cls (ls.map CvS.cv) z = q at hf eM hcv ⊢
 unfold cvV
 refine zR 3 rfl ?_
 refine zA fun b11 => ?_
 refine zE 0 ?_
 refine zR 1 rfl (zN (zU (zQ (zQ (zG (zR 2 rfl (zN (zU ?_))))))))
 refine cN rfl ?_ ?_ <;> intro hc0
 ·
  rw [if_pos hc0] at eM
  refine zQ (zG ?_)
  refine yW [] ?_
  refine zR 1 rfl ?_
  refine zE 1 ?_
  refine zR 1 rfl (zN (zU (zT (wt ?_))))
  refine zq4 (by first | exact hR2 | exact hR2.trans hR3) ?_
  rw [eM]
  exact ⟨rfl, qS⟩
 ·
  rw [if_neg (fun h => h hc0)] at eM
  obtain ⟨ha, hqv⟩ := hcv hc0
  obtain ⟨-, hcl, -, hv⟩ := arg_facts ha
  rw [List.length_map] at hcl
  have hck : cls.toNat < ls.length := by omega
  have hla2 := hla.mono hR2
  have hnv : nth (ls.map CvS.cv) cls.toNat = (nth ls cls.toNat).cv := nth_map_lt _ hck
  have hvk : validB (nth ls cls.toNat).cv = true := hv _ (List.mem_map.2 ⟨_, nth_mem hck, rfl⟩)
  have hrk := (hls _ (nth_mem hck)).1.mono hR2
  obtain ⟨k, rfl⟩ := Int.eq_ofNat_of_zero_le hcl.1
  simp only [Int.toNat_natCast] at hck hnv hvk hrk eM
  subst hll
  have hbb := hR2 _ _ hb1
  refine zK (zU (zQ ?_))
  refine W.regionH _ (ES := (.blk b11 [.slice f q.1.vals.length fc, .int .i64 q.1.per, .int .i64 q.1.inc] :: E)) mixed ?_
  refine tD 0 (r := by exact Rd.ro hbb) (k := ?_)
  refine tP 1 ?_
  refine tP 2 ?_
  refine WA.take 3 rfl qK qK qK rfl rfl qD (Yl.indexN tab_ok rfl rfl rfl rfl rfl rfl (fun _ => rfl) qN (by intro _; first | exact RS.has hla2 | exact qI)) qS qR ?_
  refine tD 4 (r := by exact RS.rdD hla2 qO) (k := ?_)
  refine tL 5 (Rd.blk 0 rfl) ?_
  refine WA.callG 6 rfl qK heg rfl (by first | rfl | decide) rfl qD (CallOp.mkT rfl rfl rfl rfl) (hD (cf := (nth ls k).cv) (cg := q.1) (fc := (nth ls k).cap) (gc := fc) hvk hrk hqv hf w0 _) ?_
  rintro _ R3 E3 hR3 ⟨rfl, hsub3⟩
  refine ⟨hR3, List.Sublist.trans qS hsub3, ?_⟩
  refine WA.subE hsub3 ?_
  unfold devV
  refine tP 7 ?_
  refine tP 8 ?_
  refine zCE 9 1 ?_
  refine tP 10 ?_
  refine WA.done qK ?_
  refine zU (zT ?_)
  refine zq4 (by first | exact hR2 | exact hR2.trans hR3) ?_
  rw [eM, hnv]
  exact ⟨rfl, qS⟩

theorem DelaySrv_C {R : Ro} {aw at_ : Option Addr} {lw cw lt ct : Nat} {L : Ln} (hw : RS R 1 encI aw L.w) (hlw : L.w.length = lw) (ht : RS R 1 encI at_ L.tb) (hlt : L.tb.length = lt) {la : Option Addr} {lc ll : Nat} {ls : List CvS} (hla : RS R 3 encC la ls) (hll : ls.length = ll) (hlc : ll ≤ lc) (hls : ∀ x ∈ ls, RS R 1 encI x.a x.cv.vals ∧ x.cv.vals.length ≤ 100000) {za : Option Addr} {zc lz : Nat} {z : List Sz} (hzr : RS R 2 encZ za z) (hlz : z.length = lz) (hzc : lz ≤ zc) {cls : Int} (htc : lt ≤ ct) (w0 : World) (E : List Ent) : K.Fn Tryz.prog 19 [.agg #[.int .i64 L.kind, .int .i64 L.cap, .int .i64 L.n, .slice aw lw cw, .slice at_ lt ct], .int .i64 cls, .slice la ll lc, .slice za lz zc] w0 R E (fun r R' E' => r = devV (delayL L cls (ls.map CvS.cv) z) ∧ E.Sublist E') := by
 refine fE 36 Tryz.func19 ?_
 refine zQ (zG ?_)
 refine zO fun b4 => ?_
 refine zA fun b8 => ?_
 refine zR 1 rfl (zN (zU (zQ (zQ (zG (zR 1 rfl ?_))))))
 refine yM 1 ?_
 refine zR 1 rfl (zN (zU ?_))
 refine cN rfl ?_ ?_ <;> intro hc0
 ·
  have e : delayL L cls (ls.map CvS.cv) z = measL delayC L cls (ls.map CvS.cv) z := if_pos hc0
  refine zQ ?_
  refine W.regionH _ (ES := (.blk b4 [.int .i64 L.kind, .int .i64 L.cap, .int .i64 L.n, .slice aw lw cw, .slice at_ lt ct] :: E)) mixed ?_
  refine tL 1 (Rd.blk 0 rfl) ?_
  refine tP 2 ?_
  refine tP 3 ?_
  refine tP 4 ?_
  refine WA.callG 0 rfl qK en40 rfl (by first | rfl | decide) rfl qD (CallOp.mkT rfl rfl rfl rfl) (Measure_C w0 _) ?_
  rintro _ R2 E2 hR2 ⟨b1, rfl, hb1, hsub1⟩
  refine ⟨hR2, List.Sublist.trans qS hsub1, ?_⟩
  refine WA.subE hsub1 ?_
  refine WA.callG 5 rfl qK en70 rfl (by first | rfl | decide) rfl qD (CallOp.mkT rfl rfl rfl rfl) (Measure1_C (hw.mono hR2) hlw (ht.mono hR2) hlt (hla.mono hR2) hll hlc (fun x hx => ⟨(hls x hx).1.mono hR2, (hls x hx).2⟩) (hzr.mono hR2) hlz hzc htc (D := delayC) en41 (fun a1 a2 a3 a4 w0 E => DelayG_C a1 a2 a3 a4 w0 E) hb1 w0 _) ?_
  rintro _ R3 E3 hR3 ⟨rfl, hsub3⟩
  have hR9 := hR2.trans hR3
  refine ⟨hR9, List.Sublist.trans qS hsub3, ?_⟩
  refine WA.subE hsub3 ?_
  unfold devV
  refine tP 6 ?_
  refine tP 7 ?_
  refine zCE 8 0 ?_
  refine tP 9 ?_
  refine WA.done qK ?_
  refine zU (zT (wt ?_))
  refine zq4 (by first | exact hR9 | exact RLe.refl _ | exact hR3) ?_
  rw [e]
  exact ⟨rfl, qS⟩
 ·
  refine zK (zU (zQ (zQ (zG ?_))))
  refine yB 1 ?_
  refine zR 3 rfl ?_
  refine WG.callV en31 rfl rfl qD (CallOp.mk' rfl rfl rfl rfl) (fun _ => rfl) (fun hg => ArgSrv_V hw hlw ht hlt hla hll hlc hls hzr hlz hzc) ?_
  refine zR 1 rfl (zN (zU (zQ (zG (zR 2 rfl (zN (zU ?_)))))))
  refine cN rfl ?_ ?_ <;> intro hc1
  ·
   have e : delayL L cls (ls.map CvS.cv) z = ((false, 0, 0), argE L cls (ls.map CvS.cv) z) := (if_neg (fun h => h hc0)).trans (if_pos hc1)
   refine zQ (zG ?_)
   refine yW [] ?_
   refine zR 1 rfl ?_
   refine zE 0 ?_
   refine zR 1 rfl (zN (zU (zT (wt ?_))))
   refine zq4 (by first | exact hR9 | exact RLe.refl _ | exact hR3) ?_
   rw [e]
   exact ⟨rfl, qS⟩
  ·
   have e : delayL L cls (ls.map CvS.cv) z = allC L.cap (ls.map CvS.cv) := (if_neg (fun h => h hc0)).trans (if_neg (fun h => h hc1))
   refine zK (zU (zQ (zG ?_)))
   refine yB 1 ?_
   refine zR 1 rfl ?_
   refine WL.call en42 rfl rfl qD (CallOp.mkT rfl rfl rfl rfl) (AllSrv_C hw hlw ht hlt hla hll (fun x hx => ⟨(hls x hx).1, (arg_facts hc1).2.2.2 _ (List.mem_map.2 ⟨x, hx, rfl⟩)⟩) ⟨(chk_facts (arg_facts hc1).1).2.1, (chk_facts (arg_facts hc1).1).2.2.1⟩ w0 _) ?_
   rintro _ R3 E3 hR3 ⟨rfl, hsub3⟩
   refine WL.subE hsub3 ?_
   unfold devV
   refine zR 2 rfl ?_
   refine zE 0 ?_
   refine zR 1 rfl (zN (zU (zT ?_)))
   refine zq4 (by first | exact hR9 | exact RLe.refl _ | exact hR3) ?_
   rw [e]
   exact ⟨rfl, qS⟩
theorem BackSrv_C {R : Ro} {aw at_ : Option Addr} {lw cw lt ct : Nat} {L : Ln} (hw : RS R 1 encI aw L.w) (hlw : L.w.length = lw) (ht : RS R 1 encI at_ L.tb) (hlt : L.tb.length = lt) {la : Option Addr} {lc ll : Nat} {ls : List CvS} (hla : RS R 3 encC la ls) (hll : ls.length = ll) (hlc : ll ≤ lc) (hls : ∀ x ∈ ls, RS R 1 encI x.a x.cv.vals ∧ x.cv.vals.length ≤ 100000) {za : Option Addr} {zc lz : Nat} {z : List Sz} (hzr : RS R 2 encZ za z) (hlz : z.length = lz) (hzc : lz ≤ zc) {cls : Int} (htc : lt ≤ ct) (w0 : World) (E : List Ent) : K.Fn Tryz.prog 21 [.agg #[.int .i64 L.kind, .int .i64 L.cap, .int .i64 L.n, .slice aw lw cw, .slice at_ lt ct], .int .i64 cls, .slice la ll lc, .slice za lz zc] w0 R E (fun r R' E' => r = devV (measL backC L cls (ls.map CvS.cv) z) ∧ E.Sublist E') := by
 refine fE 18 Tryz.func21 ?_
 refine zQ (zG ?_)
 refine zO fun b4 => ?_
 refine zA fun b8 => ?_
 refine zR 1 rfl (zN (zU (zQ ?_)))
 refine W.regionH _ (ES := (.blk b4 [.int .i64 L.kind, .int .i64 L.cap, .int .i64 L.n, .slice aw lw cw, .slice at_ lt ct] :: E)) mixed ?_
 refine tL 1 (Rd.blk 0 rfl) ?_
 refine tP 2 ?_
 refine tP 3 ?_
 refine tP 4 ?_
 refine WA.callG 0 rfl qK en40 rfl (by first | rfl | decide) rfl qD (CallOp.mkT rfl rfl rfl rfl) (Measure_C w0 _) ?_
 rintro _ R2 E2 hR2 ⟨b1, rfl, hb1, hsub1⟩
 refine ⟨hR2, List.Sublist.trans qS hsub1, ?_⟩
 refine WA.subE hsub1 ?_
 refine WA.callG 5 rfl qK en70 rfl (by first | rfl | decide) rfl qD (CallOp.mkT rfl rfl rfl rfl) (Measure1_C (hw.mono hR2) hlw (ht.mono hR2) hlt (hla.mono hR2) hll hlc (fun x hx => ⟨(hls x hx).1.mono hR2, (hls x hx).2⟩) (hzr.mono hR2) hlz hzc htc (D := backC) en44 (fun a1 a2 a3 a4 w0 E => BacklogG_C a1 a2 a3 a4 w0 E) hb1 w0 _) ?_
 rintro _ R3 E3 hR3 ⟨rfl, hsub3⟩
 have hR9 := hR2.trans hR3
 refine ⟨hR9, List.Sublist.trans qS hsub3, ?_⟩
 refine WA.subE hsub3 ?_
 unfold devV
 refine tP 6 ?_
 refine tP 7 ?_
 refine zCE 8 0 ?_
 refine tP 9 ?_
 refine WA.done qK ?_
 refine zU (zT ?_)
 refine zq4 (hR9) ?_
 exact ⟨rfl, qS⟩
theorem PeakSrv_C {R : Ro} {aw at_ : Option Addr} {lw cw lt ct : Nat} {L : Ln} (hw : RS R 1 encI aw L.w) (hlw : L.w.length = lw) (ht : RS R 1 encI at_ L.tb) (hlt : L.tb.length = lt) {la : Option Addr} {lc ll : Nat} {ls : List CvS} (hla : RS R 3 encC la ls) (hll : ls.length = ll) (hlc : ll ≤ lc) (hls : ∀ x ∈ ls, RS R 1 encI x.a x.cv.vals ∧ x.cv.vals.length ≤ 100000) {za : Option Addr} {zc lz : Nat} {z : List Sz} (hzr : RS R 2 encZ za z) (hlz : z.length = lz) (hzc : lz ≤ zc) {cls : Int} (htc : lt ≤ ct) (w0 : World) (E : List Ent) : K.Fn Tryz.prog 23 [.agg #[.int .i64 L.kind, .int .i64 L.cap, .int .i64 L.n, .slice aw lw cw, .slice at_ lt ct], .int .i64 cls, .slice la ll lc, .slice za lz zc] w0 R E (fun r R' E' => r = devV (measL peakC L cls (ls.map CvS.cv) z) ∧ E.Sublist E') := by
 refine fE 18 Tryz.func23 ?_
 refine zQ (zG ?_)
 refine zO fun b4 => ?_
 refine zA fun b8 => ?_
 refine zR 1 rfl (zN (zU (zQ ?_)))
 refine W.regionH _ (ES := (.blk b4 [.int .i64 L.kind, .int .i64 L.cap, .int .i64 L.n, .slice aw lw cw, .slice at_ lt ct] :: E)) mixed ?_
 refine tL 1 (Rd.blk 0 rfl) ?_
 refine tP 2 ?_
 refine tP 3 ?_
 refine tP 4 ?_
 refine WA.callG 0 rfl qK en40 rfl (by first | rfl | decide) rfl qD (CallOp.mkT rfl rfl rfl rfl) (Measure_C w0 _) ?_
 rintro _ R2 E2 hR2 ⟨b1, rfl, hb1, hsub1⟩
 refine ⟨hR2, List.Sublist.trans qS hsub1, ?_⟩
 refine WA.subE hsub1 ?_
 refine WA.callG 5 rfl qK en70 rfl (by first | rfl | decide) rfl qD (CallOp.mkT rfl rfl rfl rfl) (Measure1_C (hw.mono hR2) hlw (ht.mono hR2) hlt (hla.mono hR2) hll hlc (fun x hx => ⟨(hls x hx).1.mono hR2, (hls x hx).2⟩) (hzr.mono hR2) hlz hzc htc (D := peakC) en46 (fun a1 a2 a3 a4 w0 E => PeakG_C a1 a2 a3 a4 w0 E) hb1 w0 _) ?_
 rintro _ R3 E3 hR3 ⟨rfl, hsub3⟩
 have hR9 := hR2.trans hR3
 refine ⟨hR9, List.Sublist.trans qS hsub3, ?_⟩
 refine WA.subE hsub3 ?_
 unfold devV
 refine tP 6 ?_
 refine tP 7 ?_
 refine zCE 8 0 ?_
 refine tP 9 ?_
 refine WA.done qK ?_
 refine zU (zT ?_)
 refine zq4 (hR9) ?_
 exact ⟨rfl, qS⟩

set_option maxHeartbeats 1000000 in
theorem DrawC_C {R : Ro} {b : Nat} {a : Option Addr} {cp : Nat} {xs : List Int} {c : Nat} (w0 : World) (ha : RS R 1 encI a xs) : FnAt Tryz.prog 7 [.pointer (some ⟨b, 0, none⟩)] w0 R (srcE b a cp xs c)
  (fun v R' e' N => ∃ (L : Ln) (aw at_ : Option Addr) (cw ct cn : Nat), v = .agg #[.int .i64 L.kind, .int .i64 L.cap, .int .i64 L.n, .slice aw L.w.length cw, .slice at_ L.tb.length ct] ∧ RS R' 1 encI aw L.w ∧ RS R' 1 encI at_ L.tb ∧ DrawOk L ∧ L.tb.length ≤ ct ∧ e' = srcE b a cp xs cn ∧ N = []) := by
 intro F
 refine fE 59 Tryz.func7 ?_
 refine zQ (zG ?_)
 refine zA fun b2 => ?_
 refine zN (zU (zQ (zG (zR 1 rfl ?_))))
 refine WL.callAt 1 en13 rfl rfl qD (CallOp.mkT rfl rfl rfl rfl) rfl (N_C w0 ha (by constructor <;> decide) _) ?_
 rintro _ _ _ _ - ⟨rfl, rfl, rfl, rfl⟩
 have hm0 := mod_range (nth xs (c)) (show (1 : Int) ≤ 5 by decide)
 refine yA ?_
 refine zR 1 rfl ?_
 refine WL.callAt 1 en13 rfl rfl qD (CallOp.mkT rfl rfl rfl rfl) rfl (N_C w0 ha (by constructor <;> decide) _) ?_
 rintro _ _ _ _ - ⟨rfl, rfl, rfl, rfl⟩
 have hm1 := mod_range (nth xs (c + 1)) (show (1 : Int) ≤ 40 by decide)
 refine yA ?_
 refine yW [(0, .tmp 7), (1, .tmp 10), (2, .const (.int .i64 3))] ?_
 refine zA fun b3 => ?_
 refine zE 0 ?_
 refine zN (zU (zQ (zQ (zG (zR 1 rfl ?_)))))
 refine yM 0 ?_
 refine zN (zU (zB (zQ (zG (zR 2 rfl (zN (zU ?_)))))))
 refine cE rfl ?_ ?_ <;> intro hc0
 ·
  refine zG (zR 1 rfl ?_)
  refine WL.callAt 2 en13 rfl rfl qD (CallOp.mkT rfl rfl rfl rfl) rfl (N_C w0 ha (by constructor <;> decide) _) ?_
  rintro _ _ _ _ - ⟨rfl, rfl, rfl, rfl⟩
  have hm2 := mod_range (nth xs (c + 1 + 1)) (show (1 : Int) ≤ 3 by decide)
  refine yA ?_
  refine zR 1 rfl ?_
  refine WL.callAt 2 en13 rfl rfl qD (CallOp.mkT rfl rfl rfl rfl) rfl (N_C w0 ha (by constructor <;> decide) _) ?_
  rintro _ _ _ _ - ⟨rfl, rfl, rfl, rfl⟩
  have hm3 := mod_range (nth xs (c + 1 + 1 + 1)) (show (1 : Int) ≤ 3 by decide)
  refine yA ?_
  refine zR 1 rfl ?_
  refine WL.callAt 2 en13 rfl rfl qD (CallOp.mkT rfl rfl rfl rfl) rfl (N_C w0 ha (by constructor <;> decide) _) ?_
  rintro _ _ _ _ - ⟨rfl, rfl, rfl, rfl⟩
  have hm4 := mod_range (nth xs (c + 1 + 1 + 1 + 1)) (show (1 : Int) ≤ 3 by decide)
  refine yA ?_
  refine WL.ef rfl rfl qD (Ef.buildSliceD (enc := encI) (parts := [.tmp 18, .tmp 21, .tmp 24]) [_, _, _] tab_ok rfl rfl rfl rfl rfl rfl rfl rfl qD qD (fun a25 => ?_))
  refine zR 1 rfl ?_
  refine zF 1 ?_
  refine WL.freeze (enc := encI) (xs := ([1 + mod (nth xs (c + 1 + 1)) 3, 1 + mod (nth xs (c + 1 + 1 + 1)) 3, 1 + mod (nth xs (c + 1 + 1 + 1 + 1)) 3] : List Int)) 0 rfl ?_
  intro R1 hR1 hwz
  refine zN (zL (zU (zQ (zG ?_))))
  refine yB 0 ?_
  refine zE 1 ?_
  refine zN (zU (zT ?_))
  refine WE.retFS (E' := srcE b a cp xs (c + 1 + 1 + 1 + 1 + 1) :: F) qS tab_ok [_] rfl ⟨⟨_, _, _, rfl, rfl, rfl, qB, rfl⟩, trivial⟩ (by first | exact hR1 | exact RLe.refl _) ?_
  exact ⟨_, [], rfl, ⟨(1 + mod (nth xs c) 5), (3 + mod (nth xs (c + 1)) 40), 3, ([1 + mod (nth xs (c + 1 + 1)) 3, 1 + mod (nth xs (c + 1 + 1 + 1)) 3, 1 + mod (nth xs (c + 1 + 1 + 1 + 1)) 3] : List Int), []⟩, _, none, _, 0, _, rfl, hwz, rs_nil, ⟨by dsimp only; omega, rfl, by dsimp only; omega, fun h => by dsimp only at h; omega, fun _ => ⟨rfl, fun x hx => by simp only [List.mem_cons, List.not_mem_nil, or_false] at hx; rcases hx with rfl | rfl | rfl <;> omega, rfl⟩, fun h => by dsimp only at h; omega, fun h => by dsimp only at h; omega⟩, Nat.le_refl 0, rfl, rfl⟩
 ·
  refine zQ (zG (zR 2 rfl (zN (zU ?_))))
  refine cE rfl ?_ ?_ <;> intro hc1
  ·
   refine zG (zR 1 rfl ?_)
   refine WL.callAt 2 en13 rfl rfl qD (CallOp.mkT rfl rfl rfl rfl) rfl (N_C w0 ha (by constructor <;> decide) _) ?_
   rintro _ _ _ _ - ⟨rfl, rfl, rfl, rfl⟩
   have hm2 := mod_range (nth xs (c + 1 + 1)) (show (1 : Int) ≤ 50 by decide)
   refine yA ?_
   refine zR 1 rfl ?_
   refine WL.callAt 2 en13 rfl rfl qD (CallOp.mkT rfl rfl rfl rfl) rfl (N_C w0 ha (by constructor <;> decide) _) ?_
   rintro _ _ _ _ - ⟨rfl, rfl, rfl, rfl⟩
   have hm3 := mod_range (nth xs (c + 1 + 1 + 1)) (show (1 : Int) ≤ 50 by decide)
   refine yA ?_
   refine zR 1 rfl ?_
   refine WL.callAt 2 en13 rfl rfl qD (CallOp.mkT rfl rfl rfl rfl) rfl (N_C w0 ha (by constructor <;> decide) _) ?_
   rintro _ _ _ _ - ⟨rfl, rfl, rfl, rfl⟩
   have hm4 := mod_range (nth xs (c + 1 + 1 + 1 + 1)) (show (1 : Int) ≤ 50 by decide)
   refine yA ?_
   refine WL.ef rfl rfl qD (Ef.buildSliceD (enc := encI) (parts := [.tmp 31, .tmp 34, .tmp 37]) [_, _, _] tab_ok rfl rfl rfl rfl rfl rfl rfl rfl qD qD (fun a38 => ?_))
   refine zR 1 rfl ?_
   refine zF 1 ?_
   refine WL.freeze (enc := encI) (xs := ([1 + mod (nth xs (c + 1 + 1)) 50, 1 + mod (nth xs (c + 1 + 1 + 1)) 50, 1 + mod (nth xs (c + 1 + 1 + 1 + 1)) 50] : List Int)) 0 rfl ?_
   intro R1 hR1 hwz
   refine zN (zL (zU (zQ (zG ?_))))
   refine yB 0 ?_
   refine zE 1 ?_
   refine zN (zU (zT ?_))
   refine WE.retFS (E' := srcE b a cp xs (c + 1 + 1 + 1 + 1 + 1) :: F) qS tab_ok [_] rfl ⟨⟨_, _, _, rfl, rfl, rfl, qB, rfl⟩, trivial⟩ (by first | exact hR1 | exact RLe.refl _) ?_
   exact ⟨_, [], rfl, ⟨(1 + mod (nth xs c) 5), (3 + mod (nth xs (c + 1)) 40), 3, ([1 + mod (nth xs (c + 1 + 1)) 50, 1 + mod (nth xs (c + 1 + 1 + 1)) 50, 1 + mod (nth xs (c + 1 + 1 + 1 + 1)) 50] : List Int), []⟩, _, none, _, 0, _, rfl, hwz, rs_nil, ⟨by dsimp only; omega, rfl, by dsimp only; omega, fun h => by dsimp only at h; omega, fun h => by dsimp only at h; omega, fun _ => ⟨rfl, fun x hx => by simp only [List.mem_cons, List.not_mem_nil, or_false] at hx; rcases hx with rfl | rfl | rfl <;> omega, rfl⟩, fun h => by dsimp only at h; omega⟩, Nat.le_refl 0, rfl, rfl⟩
  ·
   refine zQ (zG (zR 2 rfl (zN (zU ?_))))
   refine cE rfl ?_ ?_ <;> intro hc2
   ·
    refine zQ (zG ?_)
    refine WL.ef rfl rfl qD (Ef.buildSliceD (enc := encI) (parts := [.const (.int .i64 0), .const (.int .i64 1), .const (.int .i64 2)]) [_, _, _] tab_ok rfl rfl rfl rfl rfl rfl rfl rfl qD qD (fun a42 => ?_))
    refine zR 1 rfl ?_
    refine zF 1 ?_
    refine zN (zU (zQ (zG (zR 1 rfl ?_))))
    refine WL.callAt 3 en13 rfl rfl qD (CallOp.mkT rfl rfl rfl rfl) rfl (N_C w0 ha (by constructor <;> decide) _) ?_
    rintro _ _ _ _ - ⟨rfl, rfl, rfl, rfl⟩
    have hm8 := mod_range (nth xs (c + 1 + 1)) (show (1 : Int) ≤ 4 by decide)
    obtain ⟨k8, hk8⟩ := Int.eq_ofNat_of_zero_le hm8.1
    rw [hk8]
    refine zR 1 rfl (zN (zU (zB ?_)))
    refine W.loopK (β := Nat × List Int × Nat × Option Addr × Nat) (fun (k, ys, cn, a9, c9) => 3 ≤ ys.length ∧ ys.length + k ≤ 6 ∧ ∀ y ∈ ys, -1 ≤ y ∧ y ≤ 2) (fun (k, ys, cn, a9, c9) => [(4, true, .int .i64 (k : Int))]) [0, 2, 3] [_, _, _] [] _ rfl (fun (k, ys, cn, a9, c9) => [(0, .sl 3 1 a9 c9 (ys.map encI)), (1, .blk b3 [.int .i64 (1 + mod (nth xs c) 5), .int .i64 (3 + mod (nth xs (c + 1)) 40), .int .i64 3, .slice none 0 0, .slice a9 ys.length c9]), (3, srcE b a cp xs cn)]) (fun (k, ys, cn, a9, c9) => k) ((k8, [0, 1, 2], c + 1 + 1 + 1, some ⟨a42, 0, none⟩, 3)) (⟨by decide, by dsimp only [List.length_cons, List.length_nil]; omega, by decide⟩) ⟨rfl, rfl, rfl, rfl, rfl⟩ qS ?_
    intro zz hst
    obtain ⟨k, ys, cn, a9, c9⟩ := zz
    obtain ⟨hy1, hy2, hy3⟩ := hst
    refine zQ (zQ (zG (zR 2 rfl (zN (zU ?_)))))
    refine cD rfl ?_ ?_ <;> intro hc3
    ·
     obtain ⟨k, rfl⟩ : ∃ j, k = j + 1 := ⟨k - 1, by omega⟩
     refine zK (zU (zQ (zB ?_)))
     refine W.regionH _ (ES := (.blk b2 [.int .i64 0, .int .i64 0, .int .i64 0, .slice none 0 0, .slice none 0 0] :: F)) mixed ?_
     refine tP 0 ?_
     refine tP 2 ?_
     refine WA.br2 (i := 1) (j := 3) qK ?_ ?_
     ·
      refine sL (Rd.add (Rd.blk 1 rfl) _) ?_
      refine WA.callAt 3 3 rfl qK en13 rfl rfl qD (CallOp.mkT rfl rfl rfl rfl) rfl (N_C w0 ha (by constructor <;> decide) _) ?_
      rintro _ _ _ _ - ⟨rfl, rfl, rfl, rfl⟩
      refine ⟨RLe.refl _, qS, ?_⟩
      have hm9 := mod_range (nth xs cn) (show (1 : Int) ≤ 4 by decide)
      refine tS 4 ?_
      refine WA.eff 5 rfl qK rfl rfl qD (Ef.buildSliceD (enc := encI) (parts := [.tmp 54]) [_] tab_ok rfl rfl rfl rfl rfl rfl rfl rfl qD qD (fun a55 => ?_))
      refine ⟨qR, qS, ?_⟩
      refine WA.eff 6 rfl (by kernel_rfl) rfl rfl (by decide) (Ef.appendD 1 0 tab_ok rfl rfl rfl rfl rfl rfl rfl rfl rfl rfl rfl (fun _ _ => rfl) (by simp only [List.length_cons, List.length_nil]; omega) (by simp only [List.length_cons, List.length_nil]; omega) (fun a56 c56 ha56 => ?_))
      refine ⟨qR, qS, ?_⟩
      refine tP 7 ?_
      refine zCF 8 2 ?_
      refine WA.done qK ?_
      refine zL (zU (zG (zR 1 rfl ?_)))
      refine yS ?_
      refine zR 1 rfl (zN ?_)
      refine WE.again ((k, ys ++ [mod (nth xs cn) 4 - 1], cn + 1, a56, c56)) (⟨by simp only [List.length_append, List.length_cons, List.length_nil]; omega, by simp only [List.length_append, List.length_cons, List.length_nil]; omega, fun y hy => by rcases List.mem_append.1 hy with h | h; exact hy3 y h; have := List.mem_singleton.1 h; omega⟩) (by (try dsimp only); omega) ⟨vint (by omega), rfl, rfl, rfl, rfl⟩ (RLe.refl _) qS
     ·
      refine WS.callAt 3 rfl en13 rfl rfl qD (CallOp.mkT rfl rfl rfl rfl) rfl (N_C w0 ha (by constructor <;> decide) _) ?_
      rintro _ _ _ _ - ⟨rfl, rfl, rfl, rfl⟩
      refine ⟨RLe.refl _, qS, ?_⟩
      have hm9 := mod_range (nth xs cn) (show (1 : Int) ≤ 4 by decide)
      refine tS 4 ?_
      refine WA.br2 (i := 1) (j := 5) qK ?_ ?_
      ·
       refine sL (Rd.add (Rd.blk 1 rfl) _) ?_
       refine WA.eff 5 rfl qK rfl rfl qD (Ef.buildSliceD (enc := encI) (parts := [.tmp 54]) [_] tab_ok rfl rfl rfl rfl rfl rfl rfl rfl qD qD (fun a55 => ?_))
       refine ⟨qR, qS, ?_⟩
       refine WA.eff 6 rfl (by kernel_rfl) rfl rfl (by decide) (Ef.appendD 1 0 tab_ok rfl rfl rfl rfl rfl rfl rfl rfl rfl rfl rfl (fun _ _ => rfl) (by simp only [List.length_cons, List.length_nil]; omega) (by simp only [List.length_cons, List.length_nil]; omega) (fun a56 c56 ha56 => ?_))
       refine ⟨qR, qS, ?_⟩
       refine tP 7 ?_
       refine zCF 8 2 ?_
       refine WA.done qK ?_
       refine zL (zU (zG (zR 1 rfl ?_)))
       refine yS ?_
       refine zR 1 rfl (zN ?_)
       refine WE.again ((k, ys ++ [mod (nth xs cn) 4 - 1], cn + 1, a56, c56)) (⟨by simp only [List.length_append, List.length_cons, List.length_nil]; omega, by simp only [List.length_append, List.length_cons, List.length_nil]; omega, fun y hy => by rcases List.mem_append.1 hy with h | h; exact hy3 y h; have := List.mem_singleton.1 h; omega⟩) (by (try dsimp only); omega) ⟨vint (by omega), rfl, rfl, rfl, rfl⟩ (RLe.refl _) qS
      ·
       refine WS.eff rfl rfl rfl qD (Ef.buildSliceD (enc := encI) (parts := [.tmp 54]) [_] tab_ok rfl rfl rfl rfl rfl rfl rfl rfl qD qD (fun a55 => ?_))
       refine ⟨qR, qS, ?_⟩
       refine lL 1 (Rd.add (Rd.blk 2 rfl) _) ?_
       refine WA.eff 6 rfl (by kernel_rfl) rfl rfl (by decide) (Ef.appendD 1 0 tab_ok rfl rfl rfl rfl rfl rfl rfl rfl rfl rfl rfl (fun _ _ => rfl) (by simp only [List.length_cons, List.length_nil]; omega) (by simp only [List.length_cons, List.length_nil]; omega) (fun a56 c56 ha56 => ?_))
       refine ⟨qR, qS, ?_⟩
       refine tP 7 ?_
       refine zCF 8 2 ?_
       refine WA.done qK ?_
       refine zL (zU (zG (zR 1 rfl ?_)))
       refine yS ?_
       refine zR 1 rfl (zN ?_)
       refine WE.again ((k, ys ++ [mod (nth xs cn) 4 - 1], cn + 1, a56, c56)) (⟨by simp only [List.length_append, List.length_cons, List.length_nil]; omega, by simp only [List.length_append, List.length_cons, List.length_nil]; omega, fun y hy => by rcases List.mem_append.1 hy with h | h; exact hy3 y h; have := List.mem_singleton.1 h; omega⟩) (by (try dsimp only); omega) ⟨vint (by omega), rfl, rfl, rfl, rfl⟩ (RLe.refl _) qS
    ·
     refine W.cap 0 rfl ?_
     intro hcpT
     rw [List.length_map] at hcpT
     refine W.freeze (enc := encI) (xs := ys) 0 rfl ?_
     intro R1 hR1 hwz
     refine zX ?_
     refine wx (wx (zY (zL (zU (zQ (zG ?_))))))
     refine yB 0 ?_
     refine zE 1 ?_
     refine zN (zU (zT ?_))
     refine WE.retFS (E' := srcE b a cp xs (cn) :: F) qS tab_ok [_] rfl ⟨⟨_, _, _, rfl, rfl, rfl, qB, rfl⟩, trivial⟩ (by first | exact hR1 | exact RLe.refl _) ?_
     exact ⟨_, [], rfl, ⟨(1 + mod (nth xs c) 5), (3 + mod (nth xs (c + 1)) 40), 3, [], ys⟩, none, _, 0, _, _, rfl, rs_nil, hwz, ⟨by dsimp only; omega, rfl, by dsimp only; omega, fun h => by dsimp only at h; omega, fun h => by dsimp only at h; omega, fun h => by dsimp only at h; omega, fun _ => ⟨rfl, hy1, by dsimp only; omega, hy3⟩⟩, hcpT, rfl, rfl⟩
   ·
    refine zK (zL (zU (zQ (zG ?_))))
    refine yB 0 ?_
    refine zE 1 ?_
    refine zN (zU (zT ?_))
    refine WE.retFS (E' := srcE b a cp xs (c + 1 + 1) :: F) qS tab_ok [_] rfl ⟨⟨_, _, _, rfl, rfl, rfl, qB, rfl⟩, trivial⟩ (by first | exact hR1 | exact RLe.refl _) ?_
    exact ⟨_, [], rfl, ⟨(1 + mod (nth xs c) 5), (3 + mod (nth xs (c + 1)) 40), 3, [], []⟩, none, none, 0, 0, _, rfl, rs_nil, rs_nil, ⟨by dsimp only; omega, rfl, by dsimp only; omega, fun _ => ⟨rfl, rfl⟩, fun h => by dsimp only at h; omega, fun h => by dsimp only at h; omega, fun h => by dsimp only at h; omega⟩, Nat.le_refl 0, rfl, rfl⟩

theorem SmallK_V {R : Ro} {a : Option Addr} {n fc : Nat} {p q : Int} : FnV Tryz.prog 4 [.agg #[.slice a n fc, .int .i64 p, .int .i64 q]] R (.bool (decide ((n : Int) ≤ 800))) := by
 refine Fn.toV (fun w0 E => ?_)
 refine fE 7 Tryz.func4 ?_
 refine zQ (zG ?_)
 refine zO fun b1 => ?_
 refine zR 1 rfl (zN (zU (zQ (zG (zR 1 rfl ?_)))))
 refine yM 0 ?_
 refine zR 3 rfl (zN (zU (zT ?_)))
 refine sE (E := E) ?_
 refine zr1 ?_
 exact ⟨rfl, rfl⟩
theorem ValidA_V {R : Ro} {a : Option Addr} {c : Nat} {v : List Int} {per inc : Int} (ha : RS R 1 encI a v) : FnV Tryz.prog 88 [.agg #[.slice a v.length c, .int .i64 per, .int .i64 inc]] R (.bool (validB ⟨v, per, inc⟩)) := by
 have hla := ha.len
 refine Fn.toV (fun w0 E => ?_)
 refine fE 118 Tryz.func88 ?_
 refine zQ (zG ?_)
 refine zO fun b1 => ?_
 refine zR 1 rfl (zN (zU (zQ (zG (zR 1 rfl ?_)))))
 refine yM 0 ?_
 refine zR 2 rfl (zN (zU (zQ (zQ (zG (zR 3 rfl ?_))))))
 refine yP ?_
 refine yP ?_
 refine yO ?_
 refine zR 1 rfl ?_
 refine yP ?_
 refine yG (Rd.addC (Rd.blkC 0 rfl) _) ?_
 refine yP ?_
 refine yO ?_
 refine zR 1 rfl ?_
 refine yP ?_
 refine yG (Rd.addC (Rd.blkC 0 rfl) _) ?_
 refine yP ?_
 refine yO ?_
 refine zR 1 rfl ?_
 refine yP ?_
 refine yG (Rd.addC (Rd.blkC 0 rfl) _) ?_
 refine yP ?_
 refine yP ?_
 refine yO ?_
 refine zR 1 rfl ?_
 refine yP ?_
 refine yG (Rd.addC (Rd.blkC 0 rfl) _) ?_
 refine yP ?_
 refine yO ?_
 refine zR 1 rfl ?_
 refine yP ?_
 refine yG (Rd.addC (Rd.blkC 0 rfl) _) ?_
 refine yP ?_
 refine yO ?_
 refine zN (zU ?_)
 refine cC rfl ?_ ?_ <;> intro hc0
 ·try simp only [zk] at hc0
  have hno : validB ⟨v, per, inc⟩ = false := validB_false (fun h => by obtain ⟨⟨a1, a2, a3, a4, a5, a6, a7⟩, _⟩ := h; dsimp only at a1 a2 a3 a4 a5 a6 a7; unfold MAXV at a7; omega)
  refine zQ (zG (zR 1 rfl (zN (zU (zT (wt ?_))))))
  refine sE (E := E) ?_
  refine zr1 ?_
  exact ⟨by rw [hno]; rfl, rfl⟩
 ·try simp only [zk] at hc0
  have hall : 1 ≤ v.length ∧ v.length ≤ 400 ∧ 1 ≤ per ∧ per ≤ 120 ∧ per ≤ v.length ∧ 0 ≤ inc ∧ inc ≤ MAXV := by unfold MAXV; omega
  refine zK (zU (zQ (zQ (zG (zR 1 rfl (zN (zU (zB ?_))))))))
  refine W.loopK (β := Nat) (fun i => i ≤ v.length ∧ ∀ j, j < i → (nth v j = INF ∨ (0 ≤ nth v j ∧ nth v j ≤ MAXV)) ∧ (j = 0 ∨ nth v (j - 1) ≤ nth v j)) (fun i => [(4, true, .int .i64 (i : Int))]) [1, 3] [_, _] [] _ rfl (fun i => []) (fun i => v.length - i) (0) (⟨Nat.zero_le _, fun j hj => by omega⟩) ⟨rfl, rfl, rfl, rfl⟩ qS ?_
  intro i hst
  refine zQ (zQ (zG (zR 3 rfl (zN (zU ?_)))))
  refine cD rfl ?_ ?_ <;> intro hc1
  ·
   have hil : i < v.length := by omega
   have e1 : 0 < i → ((i : Int) - 1).toNat = i - 1 := fun _ => by omega
   refine zK (zU (zQ (zB (zQ ?_))))
   refine W.regionQ _ mixed qK ?_
   refine zR 1 rfl ?_
   refine yM 0 ?_
   refine zR 1 rfl ?_
   refine yI ?_
   refine yD (r := by ((apply RS.rdD; assumption; ((try dsimp only) <;> omega)))) (k := ?_)
   refine zR 2 rfl ?_
   refine yP ?_
   refine yG (Rd.addC (Rd.blkC 0 rfl) _) ?_
   refine yP ?_
   refine gI ?_
   refine yJ (r := by ((apply RS.rdC; assumption))) (k := ?_)
   refine yP ?_
   refine yP ?_
   refine yP ?_
   refine yG (Rd.addC (Rd.blkC 0 rfl) _) ?_
   refine yP ?_
   refine gI ?_
   refine yJ (r := by ((apply RS.rdC; assumption))) (k := ?_)
   refine yP ?_
   refine yO ?_
   refine yN ?_
   refine zR 1 rfl ?_
   refine yP ?_
   refine yP ?_
   refine yP ?_
   refine yP ?_
   refine yG (Rd.addC (Rd.blkC 0 rfl) _) ?_
   refine yP ?_
   refine gI ?_
   refine yJ (r := by ((apply RS.rdC; assumption))) (k := ?_)
   refine yP ?_
   refine yG (Rd.addC (Rd.blkC 0 rfl) _) ?_
   refine yP ?_
   refine WG.y rfl rfl (by decide) (Yl.sub rfl rfl rfl qE (by intro hg; (try simp only [zk] at hg); constructor <;> (try dsimp only) <;> omega)) ?_
   refine gX ?_
   refine yJ (r := by ((apply RS.rdC; assumption))) (k := ?_)
   refine yP ?_
   refine yN ?_
   refine yO ?_
   refine zN (zU ?_)
   refine cC rfl ?_ ?_ <;> intro hc2
   ·try simp only [zk] at hc2
    have hno : validB ⟨v, per, inc⟩ = false := validB_false (fun h => by
     obtain ⟨_, h2, _⟩ := h
     have h2 := h2 i hil
     dsimp only at h2
     unfold INF MAXV at h2
     rcases hc2 with ⟨x1, x2⟩ | ⟨x1, x2⟩
     ·omega
     ·rw [e1 (by omega)] at x2; omega)
    refine zQ (zG (zR 1 rfl (zN (zU (zT (wb (wt (wt (wb (wt ?_))))))))))
    refine sE (E := E) ?_
    refine zr1 ?_
    exact ⟨by rw [hno]; rfl, rfl⟩
   ·try simp only [zk] at hc2
    have hy : (nth v i = INF ∨ (0 ≤ nth v i ∧ nth v i ≤ MAXV)) ∧ (i = 0 ∨ nth v (i - 1) ≤ nth v i) := by
     obtain ⟨x1, x2⟩ := hc2
     unfold INF MAXV
     refine ⟨by omega, ?_⟩
     by_cases h : i = 0
     ·exact .inl h
     ·have := x2 (by omega)
      rw [e1 (by omega)] at this
      right; omega
    refine zK (zL (zU (zG (zR 1 rfl ?_))))
    refine yA ?_
    refine zR 1 rfl (zN ?_)
    refine WE.again (i + 1) (⟨by omega, fun j hj => by
     by_cases e : j = i
     ·subst e; exact hy
     ·exact hst.2 j (by omega)⟩) (by (try dsimp only); omega) ⟨rfl, rfl, rfl, rfl⟩ (RLe.refl _) qS
  ·
   obtain rfl : i = v.length := by omega
   have hvn : ∀ j, j < v.length → 0 ≤ nth v j ∧ nth v j ≤ 4611686018427387904 := fun j hj => by
    have := (hst.2 j hj).1
    unfold INF MAXV at this
    omega
   have e2 : ((v.length : Int) - 1).toNat = v.length - 1 := by omega
   have e3 : ((v.length : Int) - per).toNat = v.length - per.toNat := by omega
   have hx1 := hvn (((v.length : Int) - 1).toNat) (by omega)
   have hx2 := hvn (((v.length : Int) - per).toNat) (by omega)
   have hx2b : nth v ((v.length : Int) - 1).toNat ≠ 4611686018427387904 → nth v ((v.length : Int) - per).toNat + inc ≤ 4611686018427387904 + 1073741824 := fun _ => by unfold MAXV at hall; omega
   refine zX ?_
   refine wx (wx (zY (zU (zQ (zQ (zG (zR 1 rfl ?_)))))))
   refine yM 0 ?_
   refine zR 1 rfl ?_
   refine yS ?_
   refine yX ?_
   refine yD (r := by exact RS.rdD ha qO) (k := ?_)
   refine zR 1 rfl (zN (zU ?_))
   refine cE rfl ?_ ?_ <;> intro hc3
   ·
    have hif : (if nth v (v.length - 1) = INF then per = 1 ∧ inc = 0 else nth v (v.length - 1) ≤ nth v (v.length - per.toNat) + inc) ↔ (per = 1 ∧ inc = 0) := by rw [if_pos (by rw [← e2]; exact hc3)]
    refine zQ (zG (zR 1 rfl ?_))
    refine yM 0 ?_
    refine zR 2 rfl ?_
    refine yP ?_
    refine yG (Rd.addC (Rd.blkC 0 rfl) _) ?_
    refine yP ?_
    refine yN ?_
    refine zR 1 rfl (zN (zU (zT (wt ?_))))
    refine sE (E := E) ?_
    refine zr1 ?_
    refine ⟨congrArg Value.bool ?_, rfl⟩
    rw [Bool.eq_iff_iff, validB_iff]
    dsimp only
    rw [hif]
    simp only [Bool.and_eq_true, beq_iff_eq]
    exact ⟨fun h => ⟨hall, fun j hj => hst.2 j hj, h⟩, fun h => h.2.2⟩
   ·
    have hif : (if nth v (v.length - 1) = INF then per = 1 ∧ inc = 0 else nth v (v.length - 1) ≤ nth v (v.length - per.toNat) + inc) ↔ (nth v (v.length - 1) ≤ nth v (v.length - per.toNat) + inc) := by rw [if_neg (by rw [← e2]; exact hc3)]
    refine zK (zU (zQ ?_))
    refine W.regionQ _ mixed qK ?_
    refine zR 1 rfl ?_
    refine yM 0 ?_
    refine zR 2 rfl ?_
    refine yM 0 ?_
    refine yS ?_
    refine yX ?_
    refine yD (r := by exact RS.rdD ha qO) (k := ?_)
    refine zR 1 rfl ?_
    refine yM 0 ?_
    refine yA ?_
    refine zR 1 rfl ?_
    refine yM 0 ?_
    refine zR 1 rfl ?_
    refine yS ?_
    refine yX ?_
    refine yD (r := by exact RS.rdD ha qO) (k := ?_)
    refine zR 2 rfl (zN (zU (zT ?_)))
    refine sE (E := E) ?_
    refine zr1 ?_
    refine ⟨congrArg Value.bool ?_, rfl⟩
    rw [Bool.eq_iff_iff, validB_iff]
    dsimp only
    rw [hif, e2, e3]
    simp only [decide_eq_true_eq]
    exact ⟨fun h => ⟨hall, fun j hj => hst.2 j hj, h⟩, fun h => h.2.2⟩

theorem Bent_C {R : Ro} {b : Nat} {a : Option Addr} {cp : Nat} {xs : List Int} {c : Nat} {fa : Option Addr} {fc : Nat} {c1 : Cv} (w0 : World) (ha : RS R 1 encI a xs) (hv : validB c1 = true) (hx : RS R 1 encI fa c1.vals) : FnAt Tryz.prog 12 [.pointer (some ⟨b, 0, none⟩), .agg #[.slice fa c1.vals.length fc, .int .i64 c1.per, .int .i64 c1.inc]] w0 R (srcE b a cp xs c) (fun v R' e' N => ∃ (f : Option Addr) (fc cn : Nat) (cv : Cv), v = .agg #[.slice f cv.vals.length fc, .int .i64 cv.per, .int .i64 cv.inc] ∧ RS R' 1 encI f cv.vals ∧ cv.vals.length ≤ 500 ∧ cv.vals.length ≤ fc ∧ e' = srcE b a cp xs cn ∧ N = []) := by
 intro F
 obtain ⟨hvr, hl1, hl4, hp1, hp2, hp3, hi1, hi2⟩ := valid_range hv
 refine fE 96 Tryz.func12 ?_
 refine zQ (zG ?_)
 refine zO fun b3 => ?_
 refine zA fun b4 => ?_
 refine zN (zU ?_)
 refine W.seqCut (β := Nat × Option Addr × Nat) (fun (b5, a10, c10) => True) (fun (b5, a10, c10) => [(0, true, .pointer (some ⟨b, 0, none⟩)), (4, true, .pointer (some ⟨b4, 0, none⟩)), (5, true, .pointer (some ⟨b5, 0, none⟩))]) (fun _ => R) (fun (b5, a10, c10) => .blk b5 [.slice a10 c1.vals.length c10, .int .i64 c1.per, .int .i64 c1.inc] :: .sl 3 1 a10 c10 ((c1.vals).map encI) :: .blk b4 [.slice none 0 0, .int .i64 0, .int .i64 0] :: .blk b3 [.slice fa c1.vals.length fc, .int .i64 c1.per, .int .i64 c1.inc] :: srcE b a cp xs c :: F) ?_ ?_
 ·
  intro st hst
  obtain ⟨b5, a10, c10⟩ := st
  dsimp only
  refine zQ (zQ (zG (zR 1 rfl ?_)))
  refine yM 0 ?_
  refine zR 2 rfl (zN (zU ?_))
  refine cE rfl ?_ ?_ <;> intro hc0
  ·
   omega
  ·
   refine zK (zU (zQ (zG (zR 2 rfl ?_))))
   refine yM 0 ?_
   refine zR 1 rfl ?_
   refine WL.callAt 4 en13 rfl rfl qD (CallOp.mkT rfl rfl rfl rfl) rfl (N_C w0 ha (by constructor <;> omega) _) ?_
   rintro _ _ _ _ - ⟨rfl, rfl, rfl, rfl⟩
   have hm1 := mod_range (nth xs c) (show (1 : Int) ≤ (c1.vals.length : Int) by omega)
   obtain ⟨i, hi⟩ := Int.eq_ofNat_of_zero_le (show 0 ≤ mod (nth xs c) (c1.vals.length : Int) by omega)
   rw [hi] at hm1 ⊢
   have hbi := hvr _ (nth_mem (xs := c1.vals) (k := i) (by omega))
   have hbj : -2305843009213693952 ≤ nth c1.vals ((i : Int)).toNat ∧ nth c1.vals ((i : Int)).toNat ≤ 4611686018427387904 := hbi
   have hin : ((i : Int)).toNat = i := rfl
   refine zR 1 rfl (zN (zU (zQ (zQ (zG (zR 1 rfl ?_))))))
   refine WL.callAt 4 en13 rfl rfl qD (CallOp.mkT rfl rfl rfl rfl) rfl (N_C w0 ha (by constructor <;> decide) _) ?_
   rintro _ _ _ _ - ⟨rfl, rfl, rfl, rfl⟩
   refine zN (zU (zB (zQ (zG (zR 2 rfl (zN (zU ?_)))))))
   refine cE rfl ?_ ?_ <;> intro hc1
   ·
    refine W.regionH _ (ES := [.blk b5 [.slice a10 c1.vals.length c10, .int .i64 c1.per, .int .i64 c1.inc]]) mixed ?_
    refine tP 0 ?_
    refine tL 1 (Rd.add (Rd.blk 0 rfl) _) ?_
    refine tP 2 ?_
    refine tP 3 ?_
    refine WA.eff 4 rfl qK rfl rfl qD (Ef.buildSliceD (enc := encI) (parts := [.const (.int .i64 (-1)), .const (.int .i64 0), .const (.int .i64 1073741824), .const (.int .i64 1073741825), .const (.int .i64 4611686018427387904), .const (.int .i64 4611686018427387905)]) [_, _, _, _, _, _] tab_ok rfl rfl rfl rfl rfl rfl rfl rfl qD qD (fun a54 => ?_))
    refine ⟨qR, qS, ?_⟩
    refine WA.callAt 5 5 rfl qK en15 rfl rfl qD (CallOp.mkT rfl rfl rfl rfl) rfl (PickM_C (j := 0) w0 ([-1, 0, 1073741824, 1073741825, 4611686018427387904, 4611686018427387905] : List Int) rfl qD qD ha rfl) ?_
    rintro _ _ _ _ - ⟨rfl, rfl, rfl, rfl⟩
    refine ⟨RLe.refl _, qS, ?_⟩
    refine WA.yl 6 rfl qK rfl rfl qD (Yl.index tab_ok rfl rfl rfl rfl rfl rfl (fun _ => rfl) qA (by intro _; first | exact fun _ _ _ _ => ha10 qO | exact qI)) qS qR ?_
    refine WA.effN 7 rfl qK rfl rfl (Ef.storeD _ 2 tab_ok rfl rfl rfl rfl rfl qX rfl rfl rfl rfl ?_)
    refine ⟨qR, qS, ?_⟩
    refine WA.done qK ?_
    refine zL (zU ?_)
    (refine W.cap 2 rfl ?_; intro hcp; rw [List.length_map] at hcp; (try rw [List.length_set] at hcp); refine W.freeze (enc := encI) 2 rfl ?_; intro R1 hR1 hfz)
    refine zQ (zG ?_)
    refine yB 1 ?_
    refine zE 2 ?_
    refine zN (zU (zT ?_))
    refine WE.retFS (E' := srcE b a cp xs (c + 1 + 1 + 1) :: F) qS tab_ok [_] rfl ⟨⟨_, _, _, rfl, rfl, rfl, qB, rfl⟩, trivial⟩ (hR1) ?_
    exact ⟨_, [], rfl, a10, c10, _, ⟨c1.vals.set ((i : Int)).toNat (_), c1.per, c1.inc⟩, by (try dsimp only); rw [List.length_set]; rfl, hfz, by (try dsimp only); (try rw [List.length_set]); omega, by (try dsimp only); (try rw [List.length_set]); omega, rfl, rfl⟩
   ·
    refine zQ (zG (zR 2 rfl (zN (zU ?_))))
    refine cE rfl ?_ ?_ <;> intro hc2
    ·
     refine zG (zR 2 rfl ?_)
     refine yM 0 ?_
     refine zR 2 rfl ?_
     refine yM 0 ?_
     refine zR 1 rfl ?_
     refine yA ?_
     refine WL.ef rfl rfl qD (Ef.buildSliceD (enc := encI) (parts := [.const (.int .i64 (-1)), .const (.int .i64 0), .const (.int .i64 1), .tmp 62, .tmp 66, .const (.int .i64 121)]) [_, _, _, _, _, _] tab_ok rfl rfl rfl rfl rfl rfl rfl rfl qD qD (fun a67 => ?_))
     refine WL.callAt 5 en15 rfl rfl qD (CallOp.mkT rfl rfl rfl rfl) rfl (PickM_C (j := 0) w0 ([-1, 0, 1, (c1.vals.length : Int), (c1.vals.length : Int) + 1, 121] : List Int) rfl qD qD ha rfl) ?_
     rintro _ _ _ _ - ⟨rfl, rfl, rfl, rfl⟩
     refine zR 1 rfl ?_
     refine zF 1 ?_
     refine zN (zL (zU ?_))
     (refine W.cap 2 rfl ?_; intro hcp; rw [List.length_map] at hcp; (try rw [List.length_set] at hcp); refine W.freeze (enc := encI) 2 rfl ?_; intro R1 hR1 hfz)
     refine zQ (zG ?_)
     refine yB 1 ?_
     refine zE 2 ?_
     refine zN (zU (zT ?_))
     refine WE.retFS (E' := srcE b a cp xs (c + 1 + 1 + 1) :: F) qS tab_ok [_] rfl ⟨⟨_, _, _, rfl, rfl, rfl, qB, rfl⟩, trivial⟩ (hR1) ?_
     exact ⟨_, [], rfl, a10, c10, _, ⟨c1.vals, nth ([-1, 0, 1, (c1.vals.length : Int), (c1.vals.length : Int) + 1, 121] : List Int) (mod (nth xs (c + 1 + 1)) ((6 : Nat) : Int)).toNat, c1.inc⟩, rfl, hfz, by (try dsimp only); (try rw [List.length_set]); omega, by (try dsimp only); (try rw [List.length_set]); omega, rfl, rfl⟩
    ·
     refine zQ (zG (zR 2 rfl (zN (zU ?_))))
     refine cE rfl ?_ ?_ <;> intro hc3
     ·
      refine zG (zR 1 rfl ?_)
      refine WL.ef rfl rfl qD (Ef.buildSliceD (enc := encI) (parts := [.const (.int .i64 (-1)), .const (.int .i64 0), .const (.int .i64 1073741824), .const (.int .i64 1073741825)]) [_, _, _, _] tab_ok rfl rfl rfl rfl rfl rfl rfl rfl qD qD (fun a73 => ?_))
      refine WL.callAt 5 en15 rfl rfl qD (CallOp.mkT rfl rfl rfl rfl) rfl (PickM_C (j := 0) w0 ([-1, 0, 1073741824, 1073741825] : List Int) rfl qD qD ha rfl) ?_
      rintro _ _ _ _ - ⟨rfl, rfl, rfl, rfl⟩
      refine zR 1 rfl ?_
      refine zF 1 ?_
      refine zN (zL (zU ?_))
      (refine W.cap 2 rfl ?_; intro hcp; rw [List.length_map] at hcp; (try rw [List.length_set] at hcp); refine W.freeze (enc := encI) 2 rfl ?_; intro R1 hR1 hfz)
      refine zQ (zG ?_)
      refine yB 1 ?_
      refine zE 2 ?_
      refine zN (zU (zT ?_))
      refine WE.retFS (E' := srcE b a cp xs (c + 1 + 1 + 1) :: F) qS tab_ok [_] rfl ⟨⟨_, _, _, rfl, rfl, rfl, qB, rfl⟩, trivial⟩ (hR1) ?_
      exact ⟨_, [], rfl, a10, c10, _, ⟨c1.vals, c1.per, nth ([-1, 0, 1073741824, 1073741825] : List Int) (mod (nth xs (c + 1 + 1)) ((4 : Nat) : Int)).toNat⟩, rfl, hfz, by (try dsimp only); (try rw [List.length_set]); omega, by (try dsimp only); (try rw [List.length_set]); omega, rfl, rfl⟩
     ·
      refine zQ (zG (zR 2 rfl (zN (zU ?_))))
      refine cE rfl ?_ ?_ <;> intro hc4
      ·
       refine W.cap 1 rfl ?_
       intro hcp
       rw [List.length_map] at hcp
       (try rw [List.length_set] at hcp)
       refine W.freeze (enc := encI) 1 rfl ?_
       intro R1 hR1 hfz
       refine zG (zR 1 rfl ?_)
       refine yM 0 ?_
       refine zR 1 rfl ?_
       refine WG.y rfl rfl qD (Yl.sliceH tab_ok rfl rfl rfl rfl rfl (fun _ => rfl) (by intro _; omega) rfl) ?_
       refine zR 1 rfl ?_
       refine zF 0 ?_
       refine zN (zL (zU ?_))
       skip
       refine zQ (zG ?_)
       refine yB 0 ?_
       refine zE 1 ?_
       refine zN (zU (zT ?_))
       refine WE.retFS (E' := srcE b a cp xs (c + 1 + 1) :: F) qS tab_ok [_] rfl ⟨⟨_, _, _, rfl, rfl, rfl, qB, rfl⟩, trivial⟩ (hR1) ?_
       exact ⟨_, [], rfl, a10, c10, _, ⟨c1.vals.take ((i : Int)).toNat, c1.per, c1.inc⟩, by (try dsimp only); rw [List.length_take, Nat.min_eq_left (by omega)]; rfl, hfz.take _, by (try dsimp only); rw [List.length_take]; omega, by (try dsimp only); rw [List.length_take]; omega, rfl, rfl⟩
      ·
       refine zQ (zG (zR 2 rfl (zN (zU ?_))))
       refine cE rfl ?_ ?_ <;> intro hc5
       ·
        have hm2 := mod_range (nth xs (c + 1 + 1)) (show (1 : Int) ≤ 5 by decide)
        refine W.regionD _ [.blk b5 [.slice a10 c1.vals.length c10, .int .i64 c1.per, .int .i64 c1.inc]] [.blk b5 [.slice a10 c1.vals.length c10, .int .i64 c1.per, .int .i64 c1.inc], .sl 3 1 a10 c10 ((c1.vals).map encI)] [10] mixed ?_
        refine vP 0 ?_
        refine vD 1 (r := by apply Rd.add; (exact Rd.blk 0 rfl)) (k := ?_)
        refine vP 2 ?_
        refine VA.take2 3 rfl qK qK qK rfl qK qK rfl rfl qD (Yl.index tab_ok rfl rfl rfl rfl rfl rfl (fun _ => rfl) qA (by intro _; first | exact fun _ _ _ _ => ha10 qO | exact qI)) qS qR qS ?_
        refine vD 4 (r := by (exact Rd.slD 1 rfl qX)) (k := ?_)
        refine vP 5 ?_
        refine VA.one (i := 6) qK ?_
        refine VS.callAt 4 rfl en13 rfl rfl qD (CallOp.mkT rfl rfl rfl rfl) rfl (N_C w0 ha (by constructor <;> decide) _) ?_
        rintro _ _ _ _ - ⟨rfl, rfl, rfl, rfl⟩
        refine ⟨RLe.refl _, qS, (fun _ => qS), ?_⟩
        refine VA.take2 7 rfl qK qK qK rfl qK qK rfl rfl qD (Yl.sub rfl rfl rfl (fun _ => rfl) qA) qS qR qS ?_
        refine VA.take2 8 rfl qK qK qK rfl qK qK rfl rfl qD (Yl.add rfl rfl rfl (fun _ => rfl) qA) qS qR qS ?_
        refine VA.take2 9 rfl qK qK qK rfl qK qK rfl rfl qD (Yl.index tab_ok rfl rfl rfl rfl rfl rfl (fun _ => rfl) qA (by intro _; first | exact fun _ _ _ _ => ha10 qO | exact qI)) qS qR qS ?_
        refine VA.one (i := 10) qK ?_
        refine VS.effN rfl rfl rfl (Ef.storeD _ 1 tab_ok rfl rfl rfl rfl rfl qX rfl rfl rfl rfl ?_)
        refine ⟨by first | exact RLe.refl _ | assumption, qS, (noD qK), ?_⟩
        refine VA.done qK ?_
        refine zL (zU ?_)
        (refine W.cap 1 rfl ?_; intro hcp; rw [List.length_map] at hcp; (try rw [List.length_set] at hcp); refine W.freeze (enc := encI) 1 rfl ?_; intro R1 hR1 hfz)
        refine zQ (zG ?_)
        refine yB 0 ?_
        refine zE 1 ?_
        refine zN (zU (zT ?_))
        refine WE.retFS (E' := srcE b a cp xs (c + 1 + 1 + 1) :: F) qS tab_ok [_] rfl ⟨⟨_, _, _, rfl, rfl, rfl, qB, rfl⟩, trivial⟩ (hR1) ?_
        exact ⟨_, [], rfl, a10, c10, _, ⟨c1.vals.set ((i : Int)).toNat (_), c1.per, c1.inc⟩, by (try dsimp only); rw [List.length_set]; rfl, hfz, by (try dsimp only); (try rw [List.length_set]); omega, by (try dsimp only); (try rw [List.length_set]); omega, rfl, rfl⟩
       ·
        refine zB ?_
        refine W.loopK (β := List Int × Option Addr × Nat × Nat) (fun (qs, aq, cq, cn) => 0 < qs.length ∧ qs.length ≤ 401) (fun (qs, aq, cq, cn) => []) [0, 4, 5] [_, _, _] [] _ rfl (fun (qs, aq, cq, cn) => [(0, .blk b5 [.slice aq qs.length cq, .int .i64 c1.per, .int .i64 c1.inc]), (1, .sl 3 1 aq cq ((qs).map encI)), (4, srcE b a cp xs cn)]) (fun (qs, aq, cq, cn) => 401 - qs.length) ((c1.vals, a10, c10, c + 1 + 1)) (⟨by (try dsimp only); omega, by (try dsimp only); omega⟩) ⟨rfl, rfl, rfl, rfl⟩ qS ?_
        intro zz hst
        obtain ⟨qs, aq, cq, cn⟩ := zz
        obtain ⟨hq0, hq1⟩ := hst
        have hm3 := mod_range (nth xs cn) (show (1 : Int) ≤ 2 by decide)
        refine zQ (zQ ?_)
        refine W.regionH _ (ES := [.blk b5 [.slice aq qs.length cq, .int .i64 c1.per, .int .i64 c1.inc]]) mixed ?_
        refine tP 0 ?_
        refine tL 1 (Rd.add (Rd.blk 0 rfl) _) ?_
        refine tP 2 ?_
        refine tP 3 ?_
        refine WA.callAt 4 4 rfl qK en13 rfl rfl qD (CallOp.mkT rfl rfl rfl rfl) rfl (N_C w0 ha (by constructor <;> decide) _) ?_
        rintro _ _ _ _ - ⟨rfl, rfl, rfl, rfl⟩
        refine ⟨RLe.refl _, qS, ?_⟩
        refine tA 5 ?_
        refine tP 6 ?_
        refine WA.done qK ?_
        refine zU ?_
        refine cD rfl ?_ ?_ <;> intro hc6
        ·
         refine zK (zU (zB ?_))
         refine W.regionD _ [] [.blk b5 [.slice aq qs.length cq, .int .i64 c1.per, .int .i64 c1.inc]] [13] mixed ?_
         refine vP 0 ?_
         refine vD 1 (r := by apply Rd.add; (exact Rd.blk 0 rfl)) (k := ?_)
         refine vP 2 ?_
         refine vD 3 (r := by apply Rd.add; (exact Rd.blk 0 rfl)) (k := ?_)
         refine vP 4 ?_
         refine vD 5 (r := by apply Rd.add; (exact Rd.blk 0 rfl)) (k := ?_)
         refine vP 6 ?_
         refine VA.take2 7 rfl qK qK qK rfl qK qK rfl rfl qD (Yl.sub rfl rfl rfl (fun _ => rfl) qA) qS qR qS ?_
         refine VA.one (i := 8) qK ?_
         refine VS.yl rfl rfl rfl qD (Yl.index tab_ok rfl rfl rfl rfl rfl rfl (fun _ => rfl) qA (by intro _; first | exact fun _ _ _ _ => ha10 qO | exact qI)) qS qR (fun _ => qS) ?_
         refine VA.one (i := 9) qK ?_
         refine' VS.yl rfl rfl rfl qD (Yl.load1 tab_ok rfl rfl rfl (fun _ => rfl) ?r18 rfl ?h18) qS qR (fun _ => qS) ?_
         case r18 => (exact Rd.slD 1 rfl qX)
         case h18 => rfl
         refine VA.one (i := 10) qK ?_
         refine VS.eff rfl rfl rfl qD (Ef.buildSliceD (enc := encI) (parts := [.tmp 44]) [_] tab_ok rfl rfl rfl rfl rfl rfl rfl rfl qD qD (fun a45 => ?_))
         refine ⟨by first | exact RLe.refl _ | assumption, qS, (fun _ => qS), ?_⟩
         refine VA.one (i := 11) qK ?_
         refine VS.eff rfl rfl rfl (by decide) (Ef.appendD 2 0 tab_ok rfl rfl rfl rfl rfl rfl rfl rfl rfl rfl rfl (fun _ _ => rfl) (by simp only [List.length_cons, List.length_nil]; omega) (by simp only [List.length_cons, List.length_nil]; omega) (fun a46 c46 ha46 => ?_))
         refine ⟨by first | exact RLe.refl _ | assumption, qS, (fun _ => qS), ?_⟩
         refine vP 12 ?_
         refine VA.one (i := 13) qK ?_
         refine VS.effN rfl rfl rfl (Ef.store 1 tab_ok rfl rfl rfl rfl rfl rfl rfl rfl ?_)
         refine ⟨by first | exact RLe.refl _ | assumption, qS, (noD qK), ?_⟩
         refine VA.done qK ?_
         refine zL ?_
         refine WE.again ((qs ++ [nth qs ((qs.length : Int) - 1).toNat], a46, c46, cn + 1)) (⟨by simp, by simp only [List.length_append, List.length_cons, List.length_nil]; omega⟩) (by simp only [List.length_append, List.length_cons, List.length_nil]; omega) ⟨rfl, rfl, rfl, rfl⟩ (RLe.refl _) qS
        ·
         refine zX ?_
         refine wx (wx (zY (zL (zU ?_))))
         (refine W.cap 1 rfl ?_; intro hcp; rw [List.length_map] at hcp; (try rw [List.length_set] at hcp); refine W.freeze (enc := encI) 1 rfl ?_; intro R1 hR1 hfz)
         refine zQ (zG ?_)
         refine yB 0 ?_
         refine zE 1 ?_
         refine zN (zU (zT ?_))
         refine WE.retFS (E' := srcE b a cp xs (cn + 1) :: F) qS tab_ok [_] rfl ⟨⟨_, _, _, rfl, rfl, rfl, qB, rfl⟩, trivial⟩ (hR1) ?_
         exact ⟨_, [], rfl, aq, cq, _, ⟨qs, c1.per, c1.inc⟩, rfl, hfz, by (try dsimp only); (try rw [List.length_set]); omega, by (try dsimp only); (try rw [List.length_set]); omega, rfl, rfl⟩
 ·
  refine W.regionH _ (ES := [.blk b3 [.slice fa c1.vals.length fc, .int .i64 c1.per, .int .i64 c1.inc]]) mixed ?_
  refine tP 1 ?_
  refine tL 2 (Rd.add (Rd.blk 0 rfl) _) ?_
  refine tP 4 ?_
  refine tL 5 (Rd.add (Rd.blk 0 rfl) _) ?_
  refine tP 6 ?_
  refine tL 7 (Rd.add (Rd.blk 0 rfl) _) ?_
  refine WA.br2 (i := 0) (j := 9) qK ?_ ?_
  ·
   refine WS.eff rfl rfl rfl qD (Ef.buildSliceD (enc := encI) (parts := []) [] tab_ok rfl rfl rfl rfl rfl rfl rfl rfl qD qD (fun a7 => ?_))
   refine ⟨qR, qS, ?_⟩
   refine WA.br2 (i := 3) (j := 9) qK ?_ ?_
   ·
    refine WS.eff rfl rfl rfl qD (Ef.cloneL (enc := encI) 0 tab_ok rfl rfl rfl rfl rfl rfl rfl rfl rfl rfl hx (fun _ _ => rfl) (by dsimp only; omega) qO (fun a10 c10 ha10 => ?_))
    refine ⟨qR, qS, ?_⟩
    refine WA.take 8 rfl qK qK qK rfl rfl qD (Yl.build (parts := [(0, .tmp 10), (1, .tmp 12), (2, .tmp 14)]) tab_ok rfl rfl rfl rfl (fun _ => rfl) rfl rfl) qS qR ?_
    refine WA.eff 9 rfl qK rfl rfl qD (Ef.alloc tab_ok rfl rfl (fun b5 => ?_))
    refine ⟨qR, qS, ?_⟩
    refine zCE 10 0 ?_
    refine WA.done qK ?_
    refine WE.cutP (b5, a10, c10) trivial ⟨rfl, rfl, rfl, rfl⟩ (RLe.refl _) (by dsimp only; first | exact List.Perm.refl _ | exact List.Perm.swap _ _ _)
   ·
    refine WS.eff rfl rfl rfl qD (Ef.alloc tab_ok rfl rfl (fun b5 => ?_))
    refine ⟨qR, qS, ?_⟩
    refine WA.eff 3 rfl qK rfl rfl qD (Ef.cloneL (enc := encI) 1 tab_ok rfl rfl rfl rfl rfl rfl rfl rfl rfl rfl hx (fun _ _ => rfl) (by dsimp only; omega) qO (fun a10 c10 ha10 => ?_))
    refine ⟨qR, qS, ?_⟩
    refine WA.take 8 rfl qK qK qK rfl rfl qD (Yl.build (parts := [(0, .tmp 10), (1, .tmp 12), (2, .tmp 14)]) tab_ok rfl rfl rfl rfl (fun _ => rfl) rfl rfl) qS qR ?_
    refine zCE 10 0 ?_
    refine WA.done qK ?_
    refine WE.cutP (b5, a10, c10) trivial ⟨rfl, rfl, rfl, rfl⟩ (RLe.refl _) (by dsimp only; first | exact List.Perm.refl _ | exact List.Perm.swap _ _ _)
  ·
   refine WS.eff rfl rfl rfl qD (Ef.alloc tab_ok rfl rfl (fun b5 => ?_))
   refine ⟨qR, qS, ?_⟩
   refine WA.eff 0 rfl qK rfl rfl qD (Ef.buildSliceD (enc := encI) (parts := []) [] tab_ok rfl rfl rfl rfl rfl rfl rfl rfl qD qD (fun a7 => ?_))
   refine ⟨qR, qS, ?_⟩
   refine WA.eff 3 rfl qK rfl rfl qD (Ef.cloneL (enc := encI) 0 tab_ok rfl rfl rfl rfl rfl rfl rfl rfl rfl rfl hx (fun _ _ => rfl) (by dsimp only; omega) qO (fun a10 c10 ha10 => ?_))
   refine ⟨qR, qS, ?_⟩
   refine WA.take 8 rfl qK qK qK rfl rfl qD (Yl.build (parts := [(0, .tmp 10), (1, .tmp 12), (2, .tmp 14)]) tab_ok rfl rfl rfl rfl (fun _ => rfl) rfl rfl) qS qR ?_
   refine zCE 10 1 ?_
   refine WA.done qK ?_
   refine WE.cutP (b5, a10, c10) trivial ⟨rfl, rfl, rfl, rfl⟩ (RLe.refl _) (by dsimp only; first | exact List.Perm.refl _ | exact List.Perm.swap _ _ _)

theorem TwistedK_C {R : Ro} {b : Nat} {a : Option Addr} {cp : Nat} {xs : List Int} {c : Nat} {za : Option Addr} {zc zl : Nat} {z : List Sz} (w0 : World) (ha : RS R 1 encI a xs) (hzr : RS R 2 encZ za z) (hzl : z.length = zl) (hl : zl ≤ 1000) (hb : ∀ s ∈ z, -1000000 ≤ s.most ∧ s.most ≤ 1000000) : FnAt Tryz.prog 14 [.pointer (some ⟨b, 0, none⟩), .slice za zl zc] w0 R (srcE b a cp xs c)
  (fun v R' e' N => ∃ (a' : Option Addr) (c' cn : Nat) (qs : List Sz), v = .slice a' qs.length c' ∧ RS R' 2 encZ a' qs ∧ qs.length ≤ c' ∧ e' = srcE b a cp xs cn ∧ N = []) := by
 intro F
 subst hzl
 refine fE 65 Tryz.func14 ?_
 refine zQ (zG (zR 1 rfl (zN (zU (zQ (zG ?_))))))
 refine WL.ef rfl rfl qD (Ef.buildSliceD (enc := encZ) (parts := []) [] tab_ok rfl rfl rfl rfl rfl rfl rfl rfl qD qD (fun a7 => ?_))
 refine zR 1 rfl ?_
 refine WL.ef rfl rfl qD (Ef.cloneL (enc := encZ) 0 tab_ok rfl rfl rfl rfl rfl rfl rfl rfl rfl rfl hzr (fun _ _ => rfl) (by dsimp only; omega) qO (fun a9 c9 ha9 => ?_))
 refine zR 1 rfl (zN (zU (zQ ?_)))
 refine W.cap 0 rfl ?_
 intro hcap0
 rw [List.length_map] at hcap0
 refine zQ (zG (zR 3 rfl (zN (zU ?_))))
 refine cE rfl ?_ ?_ <;> intro hc0
 ·
  refine W.freeze (enc := encZ) (xs := z) 0 rfl ?_
  intro R1 hR1 hqs
  refine zQ (zG (zR 2 rfl (zN (zU (zT (wt ?_))))))
  refine WE.subE (E' := srcE b a cp xs (c) :: F) qS ?_
  refine zq1 (hR1) ?_
  exact ⟨_, [], rfl, _, _, _, _, rfl, hqs, hcap0, rfl, rfl⟩
 ·
  have hm1 := mod_range (nth xs c) (show (1 : Int) ≤ z.length by omega)
  have hm2 := mod_range (nth xs (c + 1)) (show (1 : Int) ≤ 4 by decide)
  have hzi := hb _ (nth_mem (xs := z) (k := (mod (nth xs c) z.length).toNat) (by omega))
  refine zK (zU (zQ (zG (zR 3 rfl ?_))))
  refine WL.callAt 1 en13 rfl rfl qD (CallOp.mkT rfl rfl rfl rfl) rfl (N_C w0 ha (by constructor <;> omega) _) ?_
  rintro _ _ _ _ - ⟨rfl, rfl, rfl, rfl⟩
  refine zR 1 rfl (zN (zU (zQ (zQ (zG (zR 1 rfl ?_))))))
  refine WL.callAt 1 en13 rfl rfl qD (CallOp.mkT rfl rfl rfl rfl) rfl (N_C w0 ha (by constructor <;> omega) _) ?_
  rintro _ _ _ _ - ⟨rfl, rfl, rfl, rfl⟩
  refine zN (zU (zB (zQ (zG (zR 2 rfl (zN (zU ?_)))))))
  refine cE rfl ?_ ?_ <;> intro hc1
  ·
   refine W.regionH _ (ES := []) mixed ?_
   refine tP 0 ?_
   refine tP 1 ?_
   refine tP 2 ?_
   refine tP 3 ?_
   refine tP 4 ?_
   refine WA.take 5 rfl qK qK qK rfl rfl qD (Yl.index tab_ok rfl rfl rfl rfl rfl rfl (fun _ => rfl) qA (by intro _; first | exact fun _ _ _ h => ha9 h | exact qI)) qS qR ?_
   refine tP 6 ?_
   refine tP 8 ?_
   refine tP 9 ?_
   refine WA.take 10 rfl qK qK qK rfl rfl qD (Yl.index tab_ok rfl rfl rfl rfl rfl rfl (fun _ => rfl) qA (by intro _; first | exact fun _ _ _ h => ha9 h | exact qI)) qS qR ?_
   refine tP 11 ?_
   refine WA.br2 (i := 7) (j := 12) qK ?_ ?_
   ·
    refine' WS.yl rfl rfl rfl qD (Yl.load1 tab_ok rfl rfl rfl (fun _ => rfl) ?r1 rfl ?h1) qS qR ?_
    case r1 => apply Rd.add; exact Rd.slD 0 rfl qO
    case h1 => rfl
    refine' WA.yl 12 rfl qK rfl rfl qD (Yl.load1 tab_ok rfl rfl rfl (fun _ => rfl) ?r2 rfl ?h2) qS qR ?_
    case r2 => apply Rd.add; exact Rd.slD 0 rfl qO
    case h2 => rfl
    refine tA 13 ?_
    refine WA.eff 14 rfl qK rfl rfl qD (Ef.buildSliceD (enc := encI) (parts := [.const (.int .i64 (-1)), .const (.int .i64 0), .tmp 39, .tmp 45]) [_, _, _, _] tab_ok rfl rfl rfl rfl rfl rfl rfl rfl qD qD (fun a46 => ?_))
    refine ⟨qR, qS, ?_⟩
    refine WA.callAt 2 15 rfl qK en15 rfl rfl qD (CallOp.mkT rfl rfl rfl rfl) rfl (PickM_C (j := 0) w0 [-1, 0, (nth z (mod (nth xs c) z.length).toNat).most, (nth z (mod (nth xs c) z.length).toNat).most + 1] rfl qD qD ha rfl) ?_
    rintro _ _ _ _ - ⟨rfl, rfl, rfl, rfl⟩
    refine ⟨RLe.refl _, qS, ?_⟩
    refine WA.take 16 rfl qK qK qK rfl rfl qD (Yl.index tab_ok rfl rfl rfl rfl rfl rfl (fun _ => rfl) qA (by intro _; first | exact fun _ _ _ h => ha9 h | exact qI)) qS qR ?_
    refine tP 17 ?_
    refine WA.effN 18 rfl qK rfl rfl (Ef.storeF (enc := encZ) (xs := z) (⟨(nth ([-1, 0, (nth z (mod (nth xs c) z.length).toNat).most, (nth z (mod (nth xs c) z.length).toNat).most + 1] : List Int) (mod (nth xs (c + 1 + 1)) ((4 : Nat) : Int)).toNat), (nth z (mod (nth xs c) z.length).toNat).most⟩ : Sz) 1 tab_ok rfl rfl rfl rfl rfl qO rfl rfl qD rfl ?_)
    refine ⟨qR, qS, ?_⟩
    refine WA.done qK ?_
    refine WE.freeze (enc := encZ) (xs := z.set (mod (nth xs c) z.length).toNat (⟨(nth ([-1, 0, (nth z (mod (nth xs c) z.length).toNat).most, (nth z (mod (nth xs c) z.length).toNat).most + 1] : List Int) (mod (nth xs (c + 1 + 1)) ((4 : Nat) : Int)).toNat), (nth z (mod (nth xs c) z.length).toNat).most⟩ : Sz)) 1 rfl ?_
    intro R1 hR1 hqs
    refine zL (zU (zQ (zG (zR 2 rfl (zN (zU (zT ?_)))))))
    refine WE.subE (E' := srcE b a cp xs (c + 1 + 1 + 1) :: F) qS ?_
    refine zq1 (hR1) ?_
    refine ⟨_, [], rfl, a9, c9, _, _, ?_, hqs, by rw [List.length_set]; exact hcap0, rfl, rfl⟩
    rw [List.length_set]; rfl
   ·
    refine' WS.yl rfl rfl rfl qD (Yl.load1 tab_ok rfl rfl rfl (fun _ => rfl) ?r3 rfl ?h3) qS qR ?_
    case r3 => apply Rd.add; exact Rd.slD 0 rfl qO
    case h3 => rfl
    refine tA 13 ?_
    refine' WA.yl 7 rfl qK rfl rfl qD (Yl.load1 tab_ok rfl rfl rfl (fun _ => rfl) ?r4 rfl ?h4) qS qR ?_
    case r4 => apply Rd.add; exact Rd.slD 0 rfl qO
    case h4 => rfl
    refine WA.eff 14 rfl qK rfl rfl qD (Ef.buildSliceD (enc := encI) (parts := [.const (.int .i64 (-1)), .const (.int .i64 0), .tmp 39, .tmp 45]) [_, _, _, _] tab_ok rfl rfl rfl rfl rfl rfl rfl rfl qD qD (fun a46 => ?_))
    refine ⟨qR, qS, ?_⟩
    refine WA.callAt 2 15 rfl qK en15 rfl rfl qD (CallOp.mkT rfl rfl rfl rfl) rfl (PickM_C (j := 0) w0 [-1, 0, (nth z (mod (nth xs c) z.length).toNat).most, (nth z (mod (nth xs c) z.length).toNat).most + 1] rfl qD qD ha rfl) ?_
    rintro _ _ _ _ - ⟨rfl, rfl, rfl, rfl⟩
    refine ⟨RLe.refl _, qS, ?_⟩
    refine WA.take 16 rfl qK qK qK rfl rfl qD (Yl.index tab_ok rfl rfl rfl rfl rfl rfl (fun _ => rfl) qA (by intro _; first | exact fun _ _ _ h => ha9 h | exact qI)) qS qR ?_
    refine tP 17 ?_
    refine WA.effN 18 rfl qK rfl rfl (Ef.storeF (enc := encZ) (xs := z) (⟨(nth ([-1, 0, (nth z (mod (nth xs c) z.length).toNat).most, (nth z (mod (nth xs c) z.length).toNat).most + 1] : List Int) (mod (nth xs (c + 1 + 1)) ((4 : Nat) : Int)).toNat), (nth z (mod (nth xs c) z.length).toNat).most⟩ : Sz) 1 tab_ok rfl rfl rfl rfl rfl qO rfl rfl qD rfl ?_)
    refine ⟨qR, qS, ?_⟩
    refine WA.done qK ?_
    refine WE.freeze (enc := encZ) (xs := z.set (mod (nth xs c) z.length).toNat (⟨(nth ([-1, 0, (nth z (mod (nth xs c) z.length).toNat).most, (nth z (mod (nth xs c) z.length).toNat).most + 1] : List Int) (mod (nth xs (c + 1 + 1)) ((4 : Nat) : Int)).toNat), (nth z (mod (nth xs c) z.length).toNat).most⟩ : Sz)) 1 rfl ?_
    intro R1 hR1 hqs
    refine zL (zU (zQ (zG (zR 2 rfl (zN (zU (zT ?_)))))))
    refine WE.subE (E' := srcE b a cp xs (c + 1 + 1 + 1) :: F) qS ?_
    refine zq1 (hR1) ?_
    refine ⟨_, [], rfl, a9, c9, _, _, ?_, hqs, by rw [List.length_set]; exact hcap0, rfl, rfl⟩
    rw [List.length_set]; rfl
  ·
   refine zQ (zG (zR 2 rfl (zN (zU ?_))))
   refine cE rfl ?_ ?_ <;> intro hc2
   ·
    refine zG (zR 3 rfl ?_)
    refine WL.ef rfl rfl qD (Ef.buildSliceD (enc := encI) (parts := [.const (.int .i64 1500), .const (.int .i64 1501), .const (.int .i64 0), .const (.int .i64 (-1))]) [_, _, _, _] tab_ok rfl rfl rfl rfl rfl rfl rfl rfl qD qD (fun a55 => ?_))
    refine WL.callAt 2 en15 rfl rfl qD (CallOp.mkT rfl rfl rfl rfl) rfl (PickM_C (j := 0) w0 [1500, 1501, 0, -1] rfl qD qD ha rfl) ?_
    rintro _ _ _ _ - ⟨rfl, rfl, rfl, rfl⟩
    refine WG.y rfl rfl qD (Yl.index tab_ok rfl rfl rfl rfl rfl rfl (fun _ => rfl) qA (by intro _; first | exact fun _ _ _ h => ha9 h | exact qI)) ?_
    refine zR 1 rfl ?_
    refine WL.efN rfl rfl (Ef.storeF (enc := encZ) (xs := z) (⟨(nth z (mod (nth xs c) z.length).toNat).least, (nth ([1500, 1501, 0, -1] : List Int) (mod (nth xs (c + 1 + 1)) ((4 : Nat) : Int)).toNat)⟩ : Sz) 1 tab_ok rfl rfl rfl rfl rfl qO rfl rfl qD rfl ?_)
    refine WL.freeze (enc := encZ) (xs := z.set (mod (nth xs c) z.length).toNat (⟨(nth z (mod (nth xs c) z.length).toNat).least, (nth ([1500, 1501, 0, -1] : List Int) (mod (nth xs (c + 1 + 1)) ((4 : Nat) : Int)).toNat)⟩ : Sz)) 1 rfl ?_
    intro R1 hR1 hqs
    refine zN (zL (zU (zQ (zG (zR 2 rfl (zN (zU (zT ?_))))))))
    refine WE.subE (E' := srcE b a cp xs (c + 1 + 1 + 1) :: F) qS ?_
    refine zq1 (hR1) ?_
    refine ⟨_, [], rfl, a9, c9, _, _, ?_, hqs, by rw [List.length_set]; exact hcap0, rfl, rfl⟩
    rw [List.length_set]; rfl
   ·
    refine zQ (zG (zR 2 rfl (zN (zU ?_))))
    refine cE rfl ?_ ?_ <;> intro hc3
    ·
     refine zG (zR 2 rfl ?_)
     refine WL.cap 0 rfl ?_
     intro hcap
     rw [List.length_map] at hcap
     refine WG.y rfl rfl qD (Yl.sliceH tab_ok rfl rfl rfl rfl rfl (fun _ => rfl) (by intro _; omega) rfl) ?_
     refine WL.freeze (enc := encZ) (xs := z) 0 rfl ?_
     intro R1 hR1 hqs
     refine zR 1 rfl (zN (zL (zU (zQ (zG (zR 2 rfl (zN (zU (zT ?_)))))))))
     refine WE.subE (E' := srcE b a cp xs (c + 1 + 1) :: F) qS ?_
     refine zq1 (hR1) ?_
     refine ⟨_, [], rfl, a9, c9, _, z.take (mod (nth xs c) z.length).toNat, ?_, hqs.take _, by rw [List.length_take]; omega, rfl, rfl⟩
     rw [List.length_take, Nat.min_eq_left (by omega)]; rfl
    ·
     refine zB ?_
     refine W.loop (β := List Sz × Option Addr × Nat × Nat) (fun (qs, aq, cq, cn) => qs.length ≤ 2000) (fun (qs, aq, cq, cn) => [(0, true, .pointer (some ⟨b, 0, none⟩)), (5, true, .slice aq qs.length cq)]) (fun _ => R) (fun (qs, aq, cq, cn) => .sl 56 2 aq cq (qs.map encZ) :: srcE b a cp xs cn :: F) (fun (qs, aq, cq, cn) => 2000 - qs.length) ((z, a9, c9, c + 1 + 1)) ((by dsimp only; omega)) ⟨rfl, rfl, rfl⟩ (RLe.refl _) qS ?_
     intro st hst
     obtain ⟨qs, aq, cq, cn⟩ := st
     dsimp only at hst ⊢
     have hm3 := mod_range (nth xs cn) (show (1 : Int) ≤ 2 by decide)
     refine zQ (zQ (zG (zR 3 rfl ?_)))
     refine WL.callAt 1 en13 rfl rfl qD (CallOp.mkT rfl rfl rfl rfl) rfl (N_C w0 ha (by constructor <;> omega) _) ?_
     rintro _ _ _ _ - ⟨rfl, rfl, rfl, rfl⟩
     refine yA ?_
     refine zR 1 rfl (zN (zU ?_))
     refine cD rfl ?_ ?_ <;> intro hc4
     ·
      refine zK (zU (zB (zG (zR 1 rfl ?_))))
      refine yW [(0, .const (.int .i64 1)), (1, .const (.int .i64 9))] ?_
      refine WL.ef rfl rfl qD (Ef.buildSliceD (enc := encZ) (parts := [.tmp 27]) [⟨_, _⟩] tab_ok rfl rfl rfl rfl rfl rfl rfl rfl qD qD (fun a28 => ?_))
      refine WL.ef rfl rfl (by decide) (Ef.appendD 1 0 tab_ok rfl rfl rfl rfl rfl rfl rfl rfl rfl rfl rfl (fun _ _ => rfl) (by simp only [List.length_cons, List.length_nil]; omega) (by simp only [List.length_cons, List.length_nil]; omega) (fun a29 c29 ha29 => ?_))
      refine zR 1 rfl (zN (zL ?_))
      refine WE.again ((qs ++ [(⟨1, 9⟩ : Sz)], a29, c29, cn + 1)) ((by dsimp only; simp only [List.length_append, List.length_cons, List.length_nil]; omega)) (by simp only [List.length_append, List.length_cons, List.length_nil]; omega) ⟨rfl, rfl, rfl⟩ (RLe.refl _) qS
     ·
      refine W.cap 0 rfl ?_
      intro hcap0
      rw [List.length_map] at hcap0
      refine W.freeze (enc := encZ) (xs := qs) 0 rfl ?_
      intro R1 hR1 hqs
      refine zX ?_
      refine wx (wx (zY (zL (zU (zQ (zG (zR 2 rfl (zN (zU (zT ?_))))))))))
      refine WE.subE (E' := srcE b a cp xs (cn + 1) :: F) qS ?_
      refine zq1 (hR1) ?_
      exact ⟨_, [], rfl, _, _, _, _, rfl, hqs, hcap0, rfl, rfl⟩


theorem RunSrv1_C {R : Ro} {pa : Option Addr} {pc l : Nat} {ps : List Pkt} (hp : RS R 3 encP pa ps) (hl : ps.length = l) {ticks : Int} {aw at_ : Option Addr} {lw cw lt ct : Nat} {L : Ln} (hw : RS R 1 encI aw L.w) (hlw : L.w.length = lw) (ht : RS R 1 encI at_ L.tb) (hlt : L.tb.length = lt) (hk1 : L.kind = 1) (w0 : World) (E : List Ent) : K.Fn Tryz.prog 25 [.agg #[.int .i64 L.kind, .int .i64 L.cap, .int .i64 L.n, .slice aw lw cw, .slice at_ lt ct], .slice pa l pc, .int .i64 ticks] w0 R E (RunV (srvL L ticks ps) E (fun r => .tuple #[r, .int .i64 (srvE L ticks ps)])) := by
 refine fE 30 Tryz.func25 ?_
 refine zQ (zG ?_)
 refine zO fun b3 => ?_
 refine zA fun b6 => ?_
 refine zR 1 rfl (zN (zU (zQ (zQ (zG ?_)))))
 refine yB 1 ?_
 refine WG.callV en26 rfl rfl qD (CallOp.mk' rfl rfl rfl rfl) (fun _ => rfl) (fun hg => ChkSrv_V hw hlw ht hlt) ?_
 refine zR 1 rfl (zN (zU (zQ (zG (zR 2 rfl (zN (zU ?_)))))))
 refine cN rfl ?_ ?_ <;> intro hc0
 ·
  have e : srvE L ticks ps = chkL L := if_pos hc0
  have eo : srvL L ticks ps = ([], []) := if_pos hc0
  refine zQ (zG ?_)
  refine yW [] ?_
  refine zR 1 rfl ?_
  refine zE 0 ?_
  refine zR 1 rfl (zN (zU (zT (wt ?_))))
  refine zq4 (by first | exact RLe.refl _ | exact hR2) ?_
  rw [eo, e]
  exact ⟨none, none, 0, 0, [], rfl, rs_nil, rs_nil, by simp, rfl, by simp, qS⟩
 ·
  have e : srvE L ticks ps = runE L ticks ps := if_neg (fun h => h hc0)
  have eo : srvL L ticks ps = runL L ticks ps := if_neg (fun h => h hc0)
  have hf := chk_facts hc0
  have hn : 1 ≤ L.n ∧ L.n ≤ 6 := ⟨hf.2.2.2.1, hf.2.2.2.2.1⟩
  refine zK (zU (zQ (zG (zR 1 rfl ?_))))
  refine yM 1 ?_
  refine WG.callV en32 rfl rfl qD (CallOp.mk' rfl rfl rfl rfl) (fun _ => rfl) (fun hg => Kind_V L.kind) ?_
  refine zR 5 rfl (zN (zU ?_))
  rw [show kindI L.kind = .iface 85 (.agg #[]) by rw [hk1]; rfl]
  refine zQ (zG (zR 1 rfl ?_))
  refine yB 1 ?_
  refine zR 2 rfl ?_
  refine WL.callI (args := [.tmp 24, .tmp 25, .tmp 26]) rfl rfl rfl qD rfl rfl (meth_run1 _ _ _) (RunFifo_C hp hl hw hlw ht hlt hn hk1 w0 _) ?_
  rintro _ R2 E2 hR2 ⟨da, oa, dc, oc, rows, rfl, hd, ho, hrw, hrx, hcp, hsub⟩
  refine WL.subE hsub ?_
  rw [← eo] at hd hrx
  rw [← eo]
  refine zR 2 rfl ?_
  refine zE 0 ?_
  refine zR 1 rfl (zN (zU (zT ?_)))
  refine zq4 (by first | exact RLe.refl _ | exact hR2) ?_
  rw [e]
  exact ⟨da, oa, dc, oc, rows, rfl, hd, ho, hrw, hrx, hcp, qS⟩

theorem srv_awake1 : curveL (⟨1, 10, 2, [], []⟩ : Ln) 1 [(⟨[0, 15], 1, 0⟩ : Cv), (⟨[0, 15], 1, 0⟩ : Cv)] [⟨15, 15⟩, ⟨15, 15⟩] = (⟨[0, 0, 0, INF], 1, 0⟩, 0) := by kernel_rfl
theorem srv_awake2 : srvE (⟨1, 10, 2, [], []⟩ : Ln) 4 ([⟨0, 0, 15⟩, ⟨1, 0, 15⟩] : List Pkt) = 0 := by kernel_rfl
theorem srv_awake3 : (srvL (⟨1, 10, 2, [], []⟩ : Ln) 4 ([⟨0, 0, 15⟩, ⟨1, 0, 15⟩] : List Pkt)).1 = [1, 2] := by kernel_rfl
theorem srv_awake4 : chkL (⟨1, 10, 2, [], []⟩ : Ln) = 0 := by kernel_rfl
theorem srv_awake5 : chkL ⟨0, 0, 0, [], []⟩ = 9 := by kernel_rfl
set_option maxHeartbeats 1000000 in
theorem AwakeC_C {R : Ro} (w0 : World) (E : List Ent) : K.Fn Tryz.prog 5 [] w0 R E (fun v R' E' => v = .bool true ∧ E.Sublist E') := by
 refine fE 57 Tryz.func5 ?_
 refine zQ (zG (zR 1 rfl (zN (zU (zQ (zG ?_))))))
 refine yW [(0, .const (.int .i64 1)), (1, .const (.int .i64 10)), (2, .const (.int .i64 2))] ?_
 refine zA fun b1 => ?_
 refine zE 0 ?_
 refine zN (zU (zQ (zG ?_)))
 refine WL.ef rfl rfl qD (Ef.buildSliceD (enc := encI) (parts := [.const (.int .i64 0), .const (.int .i64 15)]) [_, _] tab_ok rfl rfl rfl rfl rfl rfl rfl rfl qD qD (fun a8 => ?_))
 refine WL.freeze (enc := encI) (xs := ([0, 15] : List Int)) 0 rfl ?_
 intro R1 hR1 hc1
 refine yW [(0, .tmp 8), (1, .const (.int .i64 1))] ?_
 refine zA fun b2 => ?_
 refine zE 0 ?_
 refine zN (zU (zQ (zG ?_)))
 refine yB 1 ?_
 refine yB 0 ?_
 refine yB 0 ?_
 refine WL.ef rfl rfl qD (Ef.buildSlice (parts := [.tmp 12, .tmp 13]) tab_ok rfl rfl rfl rfl rfl rfl rfl qD qD (fun a14 => ?_))
 refine WL.freeze (enc := encC) (xs := ([⟨some ⟨a8, 0, none⟩, 2, (⟨[0, 15], 1, 0⟩ : Cv)⟩, ⟨some ⟨a8, 0, none⟩, 2, (⟨[0, 15], 1, 0⟩ : Cv)⟩] : List CvS)) 0 rfl ?_
 intro R2 hR2 hlc
 refine yW [(0, .const (.int .i64 15)), (1, .const (.int .i64 15))] ?_
 refine yW [(0, .const (.int .i64 15)), (1, .const (.int .i64 15))] ?_
 refine WL.ef rfl rfl qD (Ef.buildSliceD (enc := encZ) (parts := [.tmp 15, .tmp 16]) [⟨_, _⟩, ⟨_, _⟩] tab_ok rfl rfl rfl rfl rfl rfl rfl rfl qD qD (fun a17 => ?_))
 refine WL.freeze (enc := encZ) (xs := ([⟨15, 15⟩, ⟨15, 15⟩] : List Sz)) 0 rfl ?_
 intro R3 hR3 hzz
 have hlc := hlc.mono hR3
 have hc1 := hc1.mono (hR2.trans hR3)
 have hls : ∀ x ∈ ([⟨some ⟨a8, 0, none⟩, 2, (⟨[0, 15], 1, 0⟩ : Cv)⟩, ⟨some ⟨a8, 0, none⟩, 2, (⟨[0, 15], 1, 0⟩ : Cv)⟩] : List CvS), RS R3 1 encI x.a x.cv.vals ∧ x.cv.vals.length ≤ 100000 := fun x hx => by
  simp only [List.mem_cons, List.not_mem_nil, or_false] at hx
  rcases hx with rfl | rfl
  ·exact ⟨hc1, by show 2 ≤ 100000; decide⟩
  ·exact ⟨hc1, by show 2 ≤ 100000; decide⟩
 refine WL.call en16 rfl rfl qD (CallOp.mkT rfl rfl rfl rfl) (CurveSrv_C (L := (⟨1, 10, 2, [], []⟩ : Ln)) (ls := ([⟨some ⟨a8, 0, none⟩, 2, (⟨[0, 15], 1, 0⟩ : Cv)⟩, ⟨some ⟨a8, 0, none⟩, 2, (⟨[0, 15], 1, 0⟩ : Cv)⟩] : List CvS)) (z := ([⟨15, 15⟩, ⟨15, 15⟩] : List Sz)) (cls := 1) (aw := none) (at_ := none) (lw := 0) (cw := 0) (lt := 0) (ct := 0) rs_nil rfl rs_nil rfl hlc rfl (Nat.le_refl 2) hls hzz rfl (Nat.le_refl 2) (Nat.le_refl 0) w0 _) ?_
 rintro _ R4 E3 hR4 ⟨f1, fc1, rfl, hf1, hsub2⟩
 rw [show List.map CvS.cv ([⟨some ⟨a8, 0, none⟩, 2, (⟨[0, 15], 1, 0⟩ : Cv)⟩, ⟨some ⟨a8, 0, none⟩, 2, (⟨[0, 15], 1, 0⟩ : Cv)⟩] : List CvS) = [(⟨[0, 15], 1, 0⟩ : Cv), (⟨[0, 15], 1, 0⟩ : Cv)] from rfl, srv_awake1] at hf1 ⊢
 refine WL.subE hsub2 ?_
 unfold cvV
 refine zR 3 rfl ?_
 refine zA fun b3 => ?_
 refine zE 0 ?_
 refine zR 1 rfl (zN (zU (zQ (zG ?_))))
 refine yB 2 ?_
 refine yW [(2, .const (.int .i64 15))] ?_
 refine yW [(0, .const (.int .i64 1)), (2, .const (.int .i64 15))] ?_
 refine WL.ef rfl rfl qD (Ef.buildSliceD (enc := encP) (parts := [.tmp 23, .tmp 24]) [⟨_, _, _⟩, ⟨_, _, _⟩] tab_ok rfl rfl rfl rfl rfl rfl rfl rfl qD qD (fun a25 => ?_))
 refine WL.freeze (enc := encP) (xs := ([⟨0, 0, 15⟩, ⟨1, 0, 15⟩] : List Pkt)) 0 rfl ?_
 intro R5 hR5 hp
 have hf1 := hf1.mono hR5
 refine WL.call en25 rfl rfl qD (CallOp.mkT rfl rfl rfl rfl) (RunSrv1_C (L := (⟨1, 10, 2, [], []⟩ : Ln)) (ps := ([⟨0, 0, 15⟩, ⟨1, 0, 15⟩] : List Pkt)) (ticks := 4) (aw := none) (at_ := none) (lw := 0) (cw := 0) (lt := 0) (ct := 0) hp rfl rs_nil rfl rs_nil rfl rfl w0 _) ?_
 rintro _ R6 E4 hR6 ⟨da, oa, dc, oc, rows, rfl, hd, ho, hrw, hrx, hcp, hsub⟩
 refine WL.subE hsub ?_
 rw [srv_awake3] at hd ⊢
 rw [srv_awake2]
 have hf1 := hf1.mono hR6
 refine zR 3 rfl ?_
 refine zA fun b5 => ?_
 refine zE 0 ?_
 refine zR 1 rfl (zN (zU (zQ (zG ?_))))
 refine yB 3 ?_
 refine WG.callV (v := .int .i64 0) en26 rfl rfl qD (CallOp.mk' rfl rfl rfl rfl) (fun _ => rfl) (fun hg => by
  have h := ChkSrv_V (R := R6) (L := (⟨1, 10, 2, [], []⟩ : Ln)) (aw := none) (at_ := none) (cw := 0) (ct := 0) rs_nil rfl rs_nil rfl
  rw [srv_awake4] at h
  exact h) ?_
 refine zR 2 rfl ?_
 refine WL.guardT rfl (by rfl) ?_
 refine yP ?_
 refine WL.guardT rfl (by rfl) ?_
 refine yP ?_
 refine yN ?_
 refine zR 1 rfl ?_
 refine WL.guardT rfl (by rfl) ?_
 refine yB 1 ?_
 refine WL.guardT rfl (by rfl) ?_
 refine WL.ef rfl rfl qD (Ef.buildSliceD (enc := encI) (parts := [.const (.int .i64 0), .const (.int .i64 0), .const (.int .i64 0), .const (.int .i64 4611686018427387904)]) [_, _, _, _] tab_ok rfl rfl rfl rfl rfl rfl rfl rfl qD qD (fun a38 => ?_))
 refine WL.freeze (enc := encI) (xs := ([0, 0, 0, 4611686018427387904] : List Int)) 0 rfl ?_
 intro R7 hR7 hi1
 have hd := hd.mono hR7
 have hf1 := hf1.mono hR7
 refine WL.guardT rfl (by rfl) ?_
 refine yW [(0, .tmp 38), (1, .const (.int .i64 1))] ?_
 refine WL.guardT rfl (by rfl) ?_
 refine WG.callV (v := .bool true) en18 rfl rfl qD (CallOp.mk' rfl rfl rfl rfl) (fun _ => rfl) (fun hg => by
  have h := Same02_V (ca := fc1) (cb := 4) (p1 := 1) (i1 := 0) (p2 := 1) (i2 := 0) hf1 hi1
  rw [decide_eq_true ⟨rfl, rfl, rfl⟩] at h
  exact h) ?_
 refine yN ?_
 refine zR 1 rfl ?_
 refine WL.guardT rfl (by rfl) ?_
 refine yP ?_
 refine WL.guardT rfl (by rfl) ?_
 refine yP ?_
 refine yN ?_
 refine zR 1 rfl ?_
 refine WL.guardT rfl (by rfl) ?_
 refine yP ?_
 refine WL.guardT rfl (by rfl) ?_
 refine yM 0 ?_
 refine WL.guardT rfl (by rfl) ?_
 refine WL.ef rfl rfl qD (Ef.buildSliceD (enc := encI) (parts := [.const (.int .i64 1), .const (.int .i64 2)]) [_, _] tab_ok rfl rfl rfl rfl rfl rfl rfl rfl qD qD (fun a49 => ?_))
 refine WL.freeze (enc := encI) (xs := ([1, 2] : List Int)) 0 rfl ?_
 intro R8 hR8 hl1
 have hd := hd.mono hR8
 refine WL.guardT rfl (by rfl) ?_
 refine WG.callV (v := .bool true) en27 rfl rfl qD (CallOp.mk' rfl rfl rfl rfl) (fun _ => rfl) (fun hg => by
  have h := Ints_V (ca := dc) (cb := 2) hd hl1
  exact h) ?_
 refine yN ?_
 refine zR 1 rfl ?_
 refine WL.guardT rfl (by rfl) ?_
 refine yW [] ?_
 refine WL.guardT rfl (by rfl) ?_
 refine WG.callV (v := .int .i64 9) en26 rfl rfl qD (CallOp.mk' rfl rfl rfl rfl) (fun _ => rfl) (fun hg => by
  have h := ChkSrv_V (R := R8) (L := (⟨0, 0, 0, [], []⟩ : Ln)) (aw := none) (at_ := none) (cw := 0) (ct := 0) rs_nil rfl rs_nil rfl
  rw [srv_awake5] at h
  exact h) ?_
 refine WL.guardT rfl (by rfl) ?_
 refine yP ?_
 refine yN ?_
 refine zR 1 rfl (zN (zU (zT ?_)))
 refine zq1 (hR1.trans (hR2.trans (hR3.trans (hR4.trans (hR5.trans (hR6.trans (hR7.trans hR8))))))) ?_
 exact ⟨rfl, qS⟩

theorem AtG_V {R : Ro} {fa : Option Addr} {fc : Nat} {c : Cv} (hv : validB c = true) (ha : RS R 1 encI fa c.vals) {t : Nat} (ht : t ≤ 1000000000) : FnV Tryz.prog 83 [.agg #[.slice fa c.vals.length fc, .int .i64 c.per, .int .i64 c.inc], .int .i64 (t : Int)] R (.int .i64 (cvF c t)) := by
 obtain ⟨h1, h2, h3, h4, h5, h6, h7, h8⟩ := valid_range hv
 exact At_V ha (by constructor <;> omega) ⟨by constructor <;> omega, by omega⟩ qO h1
theorem ValidG_V {R : Ro} {fa : Option Addr} {fc : Nat} {c : Cv} (hv : validB c = true) (ha : RS R 1 encI fa c.vals) : FnV Tryz.prog 88 [.agg #[.slice fa c.vals.length fc, .int .i64 c.per, .int .i64 c.inc]] R (.bool true) := by
 obtain ⟨h1, h2, h3, h4, h5, h6, h7, h8⟩ := valid_range hv
 have h := Valid_V (c := fc) (per := c.per) (inc := c.inc) ha (by constructor <;> omega) (by constructor <;> omega) h1
 rw [show validB ⟨c.vals, c.per, c.inc⟩ = true from hv] at h
 exact h
theorem MadeGK_C {R : Ro} {a : Option Addr} {cc : Nat} {v : List Int} {per inc : Int} (ha : RS R 1 encI a v) (hl : v.length ≤ 100000) (hok : MadeOk v per inc) (hac : v.length ≤ cc) (w0 : World) (E : List Ent) : K.Fn Tryz.prog 64 [.agg #[.slice a v.length cc, .int .i64 per, .int .i64 inc]] w0 R E (fun r R' E' => ∃ (f : Option Addr) (fc : Nat), r = cvV f fc (madeR ⟨v, per, inc⟩) ∧ RS R' 1 encI f (madeR ⟨v, per, inc⟩).1.vals ∧ (madeR ⟨v, per, inc⟩).1.vals.length ≤ fc ∧ E.Sublist E') :=
 MadeK_C ha ⟨hl, hok.hper.2.2⟩ (fun _ => hac) ⟨hok.hper.1, by have := hok.hper; omega⟩ hok.hinc hok.vals hok.self hok.at_ hok.nb w0 E
theorem Normal02_C {R : Ro} {fa : Option Addr} {fc : Nat} {c : Cv} (hv : validB c = true) (ha : RS R 1 encI fa c.vals) (hcap : c.vals.length ≤ fc) (w0 : World) (E : List Ent) : K.Fn Tryz.prog 91 [.agg #[.slice fa c.vals.length fc, .int .i64 c.per, .int .i64 c.inc]] w0 R E (fun r R' E' => ∃ (f : Option Addr) (fc : Nat), r = cvV f fc (normR c, 0) ∧ RS R' 1 encI f (normR c).vals ∧ E.Sublist E') := by
 obtain ⟨h1, h2, h3, h4, h5, h6, h7, h8⟩ := valid_range hv
 have hok := valid_madeOk hv
 refine fE 10 Tryz.func91 ?_
 refine zQ (zG ?_)
 refine zO fun b1 => ?_
 refine zA fun b2 => ?_
 refine zR 1 rfl (zN (zU (zQ (zQ (zG ?_)))))
 refine yB 1 ?_
 refine WG.callV (v := .bool true) en88 rfl rfl qD (CallOp.mk' rfl rfl rfl rfl) (fun _ => rfl) (fun hg => ValidG_V hv ha) ?_
 refine zR 1 rfl (zN (zU ?_))
 refine cC rfl ?_ ?_ <;> intro hc0
 ·try simp only [zk] at hc0
  (simp at hc0; done)
 ·try simp only [zk] at hc0
  refine zK (zU (zQ (zG ?_)))
  refine yB 1 ?_
  refine WL.call en96 rfl rfl qD (CallOp.mkT rfl rfl rfl rfl) (Least02_C ha ⟨by omega, by omega⟩ (fun _ => hcap) ⟨by omega, by omega⟩ hok.hinc hok.vals hok.self hok.at_ w0 _) ?_
  rintro _ R1 E1 hR1 ⟨f, fc2, rfl, hf, hsub⟩
  refine WL.subE hsub ?_
  unfold cuV
  refine zE 0 ?_
  refine zR 1 rfl (zN (zU (zT ?_)))
  refine zq4 (hR1) ?_
  exact ⟨f, fc2, rfl, hf, qS⟩
theorem FiniteG_V {R : Ro} {fa : Option Addr} {fc : Nat} {c : Cv} (hv : validB c = true) (ha : RS R 1 encI fa c.vals) : FnV Tryz.prog 79 [.agg #[.slice fa c.vals.length fc, .int .i64 c.per, .int .i64 c.inc]] R (.bool (finB c)) := by
 refine Fn.toV (fun w0 E => ?_)
 obtain ⟨h1, h2, h3, h4, h5, h6, h7, h8⟩ := valid_range hv
 have hl : ((c.vals.length : Int) - 1).toNat = c.vals.length - 1 := by omega
 refine fE 16 Tryz.func79 ?_
 refine zQ (zG ?_)
 refine zO fun b1 => ?_
 refine zR 1 rfl (zN (zU (zQ (zG ?_))))
 refine yB 0 ?_
 refine WG.callV (v := .bool true) en88 rfl rfl qD (CallOp.mk' rfl rfl rfl rfl) (fun _ => rfl) (fun hg => ValidG_V hv ha) ?_
 refine zR 1 rfl ?_
 refine WL.guardT rfl (by rfl) ?_
 refine yP ?_
 refine WL.guardT rfl (by rfl) ?_
 refine yM 0 ?_
 refine WL.guardT rfl (by rfl) ?_
 refine yP ?_
 refine WL.guardT rfl (by rfl) ?_
 refine yM 0 ?_
 refine WL.guardT rfl (by rfl) ?_
 refine yP ?_
 refine WL.guardT rfl (by rfl) ?_
 refine yS ?_
 refine WL.guardT rfl (by rfl) ?_
 refine yX ?_
 refine WL.guardT rfl (by rfl) ?_
 refine yD (r := by ((apply RS.rdD; assumption; ((try dsimp only) <;> omega)))) (k := ?_)
 refine WL.guardT rfl (by rfl) ?_
 refine yP ?_
 refine yN ?_
 refine zR 1 rfl (zN (zU (zT ?_)))
 refine sE (E := E) ?_
 refine zr1 ?_
 exact ⟨by rw [hl]; rfl, rfl⟩

theorem Lcm_V {R : Ro} {a b : Nat} (ha : 0 < a ∧ a ≤ 1000000) (hb : 0 < b ∧ b ≤ 1000000) : FnV Tryz.prog 107 [.int .i64 (a : Int), .int .i64 (b : Int)] R (.int .i64 (lcmN a b : Int)) := by
 refine Fn.toV (fun w0 E => ?_)
 have hg : 0 < Nat.gcd a b := Nat.gcd_pos_of_pos_right _ hb.1
 have hq : ((a : Int) / (Nat.gcd a b : Int) * (b : Int)) ≤ 1000000 * 1000000 ∧ 0 ≤ ((a : Int) / (Nat.gcd a b : Int) * (b : Int)) := by
  have h1 : a / Nat.gcd a b * b ≤ 1000000 * 1000000 := Nat.mul_le_mul (Nat.le_trans (Nat.div_le_self _ _) ha.2) hb.2
  have e : ((a : Int) / (Nat.gcd a b : Int) * (b : Int)) = ((a / Nat.gcd a b * b : Nat) : Int) := rfl
  omega
 refine fE 12 Tryz.func107 ?_
 refine zQ (zG (zR 1 rfl (zN (zU (zQ (zG (zR 3 rfl ?_)))))))
 refine WG.callV en63 rfl rfl qD (CallOp.mk' rfl rfl rfl rfl) (fun _ => rfl) (fun hg => Gcd_V) ?_
 refine yV ?_
 refine zR 1 rfl ?_
 refine yU ?_
 refine zR 1 rfl (zN (zU (zT ?_)))
 refine sE (E := E) ?_
 refine zr1 ?_
 exact ⟨rfl, rfl⟩

theorem Pair05_C {R : Ro} {fa : Option Addr} {fc : Nat} {c : Cv} (hv : validB c = true) (ha : RS R 1 encI fa c.vals) (hcap : c.vals.length ≤ fc) {ga : Option Addr} {gc : Nat} {d : Cv} (hw : validB d = true) (hb : RS R 1 encI ga d.vals) (hcapd : d.vals.length ≤ gc) (w0 : World) (E : List Ent) : K.Fn Tryz.prog 78 [.agg #[.slice fa c.vals.length fc, .int .i64 c.per, .int .i64 c.inc], .agg #[.slice ga d.vals.length gc, .int .i64 d.per, .int .i64 d.inc]] w0 R E (fun v R' E' => ∃ (f1 : Option Addr) (k1 : Nat) (f2 : Option Addr) (k2 : Nat), v = .tuple #[.agg #[.slice f1 (normR c).vals.length k1, .int .i64 (normR c).per, .int .i64 (normR c).inc], .agg #[.slice f2 (normR d).vals.length k2, .int .i64 (normR d).per, .int .i64 (normR d).inc], .int .i64 (if 120 < lcmC (normR c) (normR d) then 0 else (lcmC (normR c) (normR d) : Int)), .int .i64 (if 120 < lcmC (normR c) (normR d) then 3 else 0)] ∧ RS R' 1 encI f1 (normR c).vals ∧ RS R' 1 encI f2 (normR d).vals ∧ E.Sublist E') := by
 have hnv := (norm_valid hv).1
 have hnw := (norm_valid hw).1
 obtain ⟨_, _, _, p1, p2, _⟩ := valid_range hnv
 obtain ⟨_, _, _, q1, q2, _⟩ := valid_range hnw
 refine fE 43 Tryz.func78 ?_
 refine zQ (zG ?_)
 refine zO fun b2 => ?_
 refine zO fun b3 => ?_
 refine zA fun b4 => ?_
 refine zA fun b5 => ?_
 refine zR 2 rfl (zN (zU (zQ (zG ?_))))
 refine yB 3 ?_
 refine WL.call en91 rfl rfl qD (CallOp.mkT rfl rfl rfl rfl) (Normal02_C hv ha hcap w0 _) ?_
 rintro _ R1 E1 hR1 ⟨f1, k1, rfl, hf1, hsub1⟩
 refine WL.subE hsub1 ?_
 unfold cvV
 have hb := hb.mono hR1
 refine zR 3 rfl ?_
 refine zA fun b8 => ?_
 refine zE 0 ?_
 refine zR 1 rfl (zN (zU (zQ (zG ?_))))
 refine yB 3 ?_
 refine WL.call en91 rfl rfl qD (CallOp.mkT rfl rfl rfl rfl) (Normal02_C hw hb hcapd w0 _) ?_
 rintro _ R2 E2 hR2 ⟨f2, k2, rfl, hf2, hsub2⟩
 refine WL.subE hsub2 ?_
 unfold cvV
 have hf1 := hf1.mono hR2
 generalize normR c = m1 at *
 generalize normR d = m2 at *
 refine zR 3 rfl ?_
 refine zA fun b10 => ?_
 refine zE 0 ?_
 refine zR 1 rfl (zN (zU (zQ (zQ (zG (zR 3 rfl ?_))))))
 refine WL.guardT rfl (by rfl) ?_
 refine yP ?_
 refine WL.guardT rfl (by rfl) ?_
 refine yP ?_
 refine yO ?_
 refine zN (zU ?_)
 refine cC rfl ?_ ?_ <;> intro hc0
 ·try simp only [zk] at hc0
  (simp at hc0; done)
 ·try simp only [zk] at hc0
  refine zK (zU (zQ (zG (zR 1 rfl ?_))))
  refine yM 1 ?_
  refine zR 1 rfl ?_
  refine yM 0 ?_
  refine WG.callV (v := .int .i64 (lcmC m1 m2 : Int)) en107 rfl rfl (by decide) (CallOp.mk' rfl rfl rfl rfl) (fun _ => rfl) (fun hg => by have h := Lcm_V (R := R2) (a := m1.per.toNat) (b := m2.per.toNat) (by omega) (by omega); rw [Int.toNat_of_nonneg (by omega), Int.toNat_of_nonneg (by omega)] at h; exact h) ?_
  refine zR 1 rfl (zN (zU (zQ (zQ (zG (zR 2 rfl (zN (zU ?_))))))))
  refine cD rfl ?_ ?_ <;> intro hc1
  ·
   have hL : 120 < lcmC m1 m2 := by omega
   refine zQ ?_
   refine W.regionH _ (ES := [.blk b10 [.slice f2 m2.vals.length k2, .int .i64 m2.per, .int .i64 m2.inc], .blk b8 [.slice f1 m1.vals.length k1, .int .i64 m1.per, .int .i64 m1.inc]]) mixed ?_
   refine tL 0 (Rd.blk 1 rfl) ?_
   refine tL 1 (Rd.blk 0 rfl) ?_
   refine zCE 2 3 ?_
   refine zCE 3 2 ?_
   refine tP 4 ?_
   refine tP 5 ?_
   refine WA.done qK ?_
   refine zU (zT (wt ?_))
   refine WE.retF tab_ok [_, _, _, _] rfl ⟨⟨_, _, _, rfl, rfl, rfl, qB, rfl⟩, ⟨_, _, _, rfl, rfl, rfl, qB, rfl⟩, rfl, rfl, trivial⟩ (hR1.trans hR2) ?_
   exact ⟨f1, k1, f2, k2, by rw [if_pos hL, if_pos hL]; rfl, hf1, hf2, qS⟩
  ·
   have hL : ¬ 120 < lcmC m1 m2 := by omega
   refine zK (zU (zQ ?_))
   refine W.regionH _ (ES := [.blk b10 [.slice f2 m2.vals.length k2, .int .i64 m2.per, .int .i64 m2.inc], .blk b8 [.slice f1 m1.vals.length k1, .int .i64 m1.per, .int .i64 m1.inc]]) mixed ?_
   refine tL 0 (Rd.blk 1 rfl) ?_
   refine tL 1 (Rd.blk 0 rfl) ?_
   refine tP 2 ?_
   refine zCE 3 3 ?_
   refine zCE 4 2 ?_
   refine tP 5 ?_
   refine tP 6 ?_
   refine WA.done qK ?_
   refine zU (zT ?_)
   refine WE.retF tab_ok [_, _, _, _] rfl ⟨⟨_, _, _, rfl, rfl, rfl, qB, rfl⟩, ⟨_, _, _, rfl, rfl, rfl, qB, rfl⟩, rfl, rfl, trivial⟩ (hR1.trans hR2) ?_
   exact ⟨f1, k1, f2, k2, by rw [if_neg hL, if_neg hL]; rfl, hf1, hf2, qS⟩
theorem Plus05_V {R : Ro} {x y : Int} (hx : x = INF ∨ (0 ≤ x ∧ x ≤ 2000000000000000000)) (hy : y = INF ∨ (0 ≤ y ∧ y ≤ 2000000000000000000)) : FnV Tryz.prog 92 [.int .i64 x, .int .i64 y] R (.int .i64 (if x = INF ∨ y = INF then INF else x + y)) := by
 unfold INF at *
 refine Fn.toV (fun w0 E => ?_)
 refine fE 14 Tryz.func92 ?_
 refine zQ (zG (zR 1 rfl (zN (zU (zQ (zQ (zG (zR 3 rfl ?_))))))))
 refine yP ?_
 refine yP ?_
 refine yO ?_
 refine zN (zU ?_)
 refine cC rfl ?_ ?_ <;> intro hc0
 ·try simp only [zk] at hc0
  have hh : x = 4611686018427387904 ∨ y = 4611686018427387904 := by first | exact hc0 | omega
  refine zQ (zG (zR 1 rfl (zN (zU (zT (wt ?_))))))
  refine sE (E := E) ?_
  refine zr1 ?_
  exact ⟨by rw [if_pos hh]; rfl, rfl⟩
 ·try simp only [zk] at hc0
  have hh : ¬ (x = 4611686018427387904 ∨ y = 4611686018427387904) := by first | exact hc0 | omega
  refine zK (zU (zQ (zG (zR 2 rfl ?_))))
  refine yA ?_
  refine zR 1 rfl (zN (zU (zT ?_)))
  refine sE (E := E) ?_
  refine zr1 ?_
  exact ⟨by rw [if_neg hh]; rfl, rfl⟩

theorem Slopes05_V {R : Ro} {a1 : Option Addr} {c1 : Nat} {m1 : Cv} (hv1 : validB m1 = true) (hx1 : RS R 1 encI a1 m1.vals) {a2 : Option Addr} {c2 : Nat} {m2 : Cv} (hv2 : validB m2 = true) (hx2 : RS R 1 encI a2 m2.vals) {L : Nat} (hL : L ≤ 10000) : FnV Tryz.prog 94 [.agg #[.slice a1 m1.vals.length c1, .int .i64 m1.per, .int .i64 m1.inc], .agg #[.slice a2 m2.vals.length c2, .int .i64 m2.per, .int .i64 m2.inc], .int .i64 (L : Int)] R (.int .i64 (gainC m1 L - gainC m2 L)) := by
 refine Fn.toV (fun w0 E => ?_)
 obtain ⟨_, _, _, p1, p2, p3, p4, p5⟩ := valid_range hv1
 obtain ⟨_, _, _, q1, q2, q3, q4, q5⟩ := valid_range hv2
 have d0 : 0 ≤ (L : Int) / m1.per := Int.ediv_nonneg (by omega) (by omega)
 have d1 : (L : Int) / m1.per ≤ L := Int.ediv_le_self _ (by omega)
 have e0 : 0 ≤ (L : Int) / m2.per := Int.ediv_nonneg (by omega) (by omega)
 have e1 : (L : Int) / m2.per ≤ L := Int.ediv_le_self _ (by omega)
 have h1 := mulB (a := m1.inc) (b := (L : Int) / m1.per) (A := 1073741824) (B := 10000) (by omega) (by omega)
 have h2 := mulB (a := m2.inc) (b := (L : Int) / m2.per) (A := 1073741824) (B := 10000) (by omega) (by omega)
 have hr : m1.inc * ((L : Int) / m1.per) - m2.inc * ((L : Int) / m2.per) = gainC m1 L - gainC m2 L := by unfold gainC; rw [Int.mul_comm m1.inc, Int.mul_comm m2.inc]
 refine fE 22 Tryz.func94 ?_
 refine zQ (zG ?_)
 refine zO fun b3 => ?_
 refine zO fun b4 => ?_
 refine zR 1 rfl (zN (zU (zQ ?_)))
 refine W.regionQ _ mixed qK ?_
 refine zR 1 rfl ?_
 refine yM 1 ?_
 refine zR 2 rfl ?_
 refine yM 1 ?_
 refine yV ?_
 refine yU ?_
 refine zR 1 rfl ?_
 refine yM 0 ?_
 refine zR 2 rfl ?_
 refine yM 0 ?_
 refine yV ?_
 refine yU ?_
 refine yS ?_
 refine zR 1 rfl (zN (zU (zT ?_)))
 refine sE (E := E) ?_
 refine zr1 ?_
 exact ⟨by rw [← hr]; rfl, rfl⟩
theorem Flat02K_C {R : Ro} {k : Int} (hk : 0 ≤ k ∧ k ≤ 1073741824) (w0 : World) (E : List Ent) : K.Fn Tryz.prog 89 [.int .i64 k] w0 R E (fun r R' E' => ∃ (f : Option Addr) (fc : Nat), r = cvV f fc (flatC k) ∧ RS R' 1 encI f (flatC k).1.vals ∧ (flatC k).1.vals.length ≤ fc ∧ E.Sublist E') := by
 have hmn : (if (1073741825 : Int) < k then (1073741825 : Int) else k) = k := if_neg (by omega)
 have hg1 : Grows (flatF k) 1 1 0 := fun t ht => by unfold flatF; rw [if_neg (by omega), if_neg (by omega)]; omega
 have hm : ∀ t, flatF k t ≤ flatF k (t + 1) := fun t => by unfold flatF; rw [if_neg (show ¬ t + 1 = 0 by omega)]; split <;> omega
 have hfb : ∀ t, 0 ≤ flatF k t ∧ flatF k t ≤ 1073741824 := fun t => by unfold flatF; split <;> omega
 have hv2 : fvals (flatF k) (1 + 1) = [0, k] := by simp [fvals, flatF, List.range_succ]
 have hd : flatC k = madeR ⟨[0, k], ((1 : Nat) : Int), 0⟩ := by
  have := build_made_fin (F := flatF k) (S := 1) (P := 1) (S' := 1) (P' := 1) (by decide) (by decide) hg1 (by decide) (by decide) hg1 hm (hfb 0).1 (fun t _ => by have := hfb t; unfold INF; omega) (fun t _ => by have := hfb t; unfold INF; omega)
  rw [hv2] at this
  exact this
 have hmk : MadeOk [0, k] ((1 : Nat) : Int) 0 := by
  have := madeOk_fin (F := flatF k) (S := 1) (P := 1) (I := 0) ⟨by decide, by decide⟩ (by decide) ⟨by decide, by decide⟩ hg1 (fun t _ => by have := hfb t; omega)
  rw [hv2] at this
  exact this
 refine fE 14 Tryz.func89 ?_
 refine zQ (zG ?_)
 refine zA fun b2 => ?_
 refine zR 1 rfl (zN (zU (zQ (zQ (zG (zR 2 rfl (zN (zU ?_))))))))
 refine cD rfl ?_ ?_ <;> intro hc0
 ·
  omega
 ·
  refine zK (zU (zQ (zG (zR 2 rfl ?_))))
  rw [hmn]
  refine WL.ef rfl rfl qD (Ef.buildSliceD (enc := encI) (parts := [.const (.int .i64 0), .tmp 8]) [0, k] tab_ok rfl rfl rfl rfl rfl rfl rfl rfl qD qD (fun a9 => ?_))
  refine yW [(0, .tmp 9), (1, .const (.int .i64 1))] ?_
  refine WL.freeze (enc := encI) (xs := [0, k]) 0 rfl ?_
  intro R1 hR1 hv0
  refine WL.call en64 rfl rfl qD (CallOp.mkT rfl rfl rfl rfl) (MadeGK_C (cc := 2) hv0 (by show 2 ≤ 100000; decide) hmk (Nat.le_refl 2) w0 _) ?_
  rintro _ R4 E4 hR4 ⟨f, fc4, rfl, hf4, hcp4, hsub4⟩
  refine WL.subE hsub4 ?_
  rw [← hd] at hf4 hcp4 ⊢
  unfold cvV
  refine zR 2 rfl ?_
  refine zE 0 ?_
  refine zR 1 rfl (zN (zU (zT ?_)))
  refine zq4 (hR1.trans hR4) ?_
  exact ⟨f, fc4, rfl, hf4, hcp4, qS⟩
theorem MadeGLK_C {R : Ro} {a : Option Addr} {cc l : Nat} {v : List Int} {per inc : Int} (ha : RS R 1 encI a v) (hvl : v.length = l) (hl : l ≤ 100000) (hok : MadeOk v per inc) (hac : l ≤ cc) (w0 : World) (E : List Ent) : K.Fn Tryz.prog 64 [.agg #[.slice a l cc, .int .i64 per, .int .i64 inc]] w0 R E (fun r R' E' => ∃ (f : Option Addr) (fc : Nat), r = cvV f fc (madeR ⟨v, per, inc⟩) ∧ RS R' 1 encI f (madeR ⟨v, per, inc⟩).1.vals ∧ (madeR ⟨v, per, inc⟩).1.vals.length ≤ fc ∧ E.Sublist E') := by
 subst hvl
 exact MadeGK_C ha hl hok hac w0 E

theorem first10 {c : Cv} {v : Int} {S P t0 : Nat} {m : Int} (hfc : FC (cvF c) S P c.inc) (hp : c.per = P) (hI : c.inc ≠ 0) (hlow : ∀ j, j < S + P → cvF c j < v) (h1 : S ≤ t0) (h2 : t0 < S + P) (hm : m = (((t0 : Nat) : Int) + ((v - cvF c t0 - 1) / c.inc + 1) * c.per)) (hmin : ∀ t : Nat, S ≤ t → t < S + P → m ≤ (((t : Nat) : Int) + ((v - cvF c t - 1) / c.inc + 1) * c.per)) : IsFirst (cvF c) v (m, true) := by
 have hP := hfc.hP
 have hI0 := hfc.hI
 have hIp : 0 < c.inc := by omega
 have key : ∀ t : Nat, t < S + P → 0 ≤ (v - cvF c t - 1) / c.inc ∧ ((v - cvF c t - 1) / c.inc) * c.inc ≤ v - cvF c t - 1 ∧ v - cvF c t - 1 < ((v - cvF c t - 1) / c.inc + 1) * c.inc := fun t ht => by
  have := hlow t ht
  refine ⟨Int.ediv_nonneg qO qO, Int.ediv_mul_le _ qO, ?_⟩
  exact Int.lt_ediv_add_one_mul_self _ hIp
 obtain ⟨k1, k2, k3⟩ := key t0 h2
 obtain ⟨k, hk⟩ := Int.eq_ofNat_of_zero_le k1
 rw [hk] at k2 k3
 have hmn : m = ((t0 + (k + 1) * P : Nat) : Int) := by
  rw [hm, hk, hp, Int.natCast_add, Int.natCast_mul]; rfl
 refine ⟨fun _ => ⟨t0 + (k + 1) * P, hmn, ?_, fun j hj => ?_⟩, fun h => by cases h⟩
 ·have := hfc.hg.mul (k + 1) t0 h1
  have e : ((k + 1 : Nat) : Int) = (k : Int) + 1 := rfl
  rw [e] at this
  omega
 ·by_cases hj2 : j < S + P
  ·exact hlow j hj2
  ·apply Classical.byContradiction
   intro hge
   have hd := Nat.mod_add_div (j - S) P
   have hml := Nat.mod_lt (j - S) (show 0 < P by omega)
   have hq : 1 ≤ (j - S) / P := (Nat.le_div_iff_mul_le (by omega)).2 (by omega)
   rw [Nat.mul_comm] at hd
   generalize hr : (j - S) % P = r at hd hml
   generalize (j - S) / P = q at hd hq
   have hjs : j = S + r + q * P := by omega
   have g := hfc.hg.mul q (S + r) (by omega)
   rw [← hjs] at g
   obtain ⟨s1, s2, s3⟩ := key (S + r) (by omega)
   have hmi := hmin (S + r) (by omega) (by omega)
   obtain ⟨k', hk'⟩ := Int.eq_ofNat_of_zero_le s1
   rw [hk'] at s2 s3 hmi
   have hlt : (k' : Int) < (q : Int) := by
    apply Classical.byContradiction
    intro hn
    have := Int.mul_le_mul_of_nonneg_right (show (q : Int) ≤ (k' : Int) by omega) (show 0 ≤ c.inc by omega)
    omega
   have h5 : (k' + 1) * P ≤ q * P := Nat.mul_le_mul_right P (by omega)
   have h6 : m ≤ ((S + r + (k' + 1) * P : Nat) : Int) := by
    have e : ((S + r + (k' + 1) * P : Nat) : Int) = ((S + r : Nat) : Int) + ((k' : Int) + 1) * c.per := by
     rw [hp, Int.natCast_add, Int.natCast_mul]; rfl
    rw [e]; exact hmi
   omega
set_option maxHeartbeats 1000000 in
theorem First10_V {R : Ro} {fa : Option Addr} {fc : Nat} {c : Cv} (hv : validB c = true) (ha : RS R 1 encI fa c.vals) {v : Int} (hvv : v = 4611686018427387904 ∨ (0 ≤ v ∧ v ≤ 1000000000000000)) : FnV Tryz.prog 82 [.agg #[.slice fa c.vals.length fc, .int .i64 c.per, .int .i64 c.inc], .int .i64 v] R (.tuple #[.int .i64 (reachG c v).1, .bool (reachG c v).2]) := by
 refine Fn.toV (fun w0 E => ?_)
 obtain ⟨hr1, hr2, hr3, hr4, hr5, hr6, hr7, hr8⟩ := valid_range hv
 refine fE 73 Tryz.func82 ?_
 refine zQ (zG ?_)
 refine zO fun b2 => ?_
 refine zR 2 rfl (zN (zU (zQ (zQ (zG (zR 1 rfl (zN (zU (zB ?_)))))))))
 refine W.loopK (β := Nat) (fun t => t ≤ c.vals.length ∧ ∀ j, j < t → cvF c j < v) (fun t => [(6, true, .int .i64 (t : Int))]) [1, 2] [_, _] [] _ rfl (fun t => []) (fun t => c.vals.length - t) (0) (⟨Nat.zero_le _, fun j hj => by omega⟩) ⟨rfl, rfl, rfl, rfl⟩ qS ?_
 intro t hst
 dsimp only [zipE, setAll, List.cons_append, List.nil_append, List.set_cons_zero, List.set_cons_succ]
 obtain ⟨ht, hno⟩ := hst
 refine zQ (zQ (zG (zR 2 rfl ?_)))
 refine yM 0 ?_
 refine zR 2 rfl (zN (zU ?_))
 refine cD rfl ?_ ?_ <;> intro hc0
 ·
  have htl : t < c.vals.length := by omega
  have hft := cvF_low htl
  refine zK (zU (zQ (zB (zQ (zG (zR 1 rfl ?_))))))
  refine yM 0 ?_
  refine zR 1 rfl ?_
  refine yI ?_
  refine yD (r := by ((apply RS.rdD; assumption; ((try dsimp only) <;> omega)))) (k := ?_)
  refine zR 2 rfl (zN (zU ?_))
  refine cD rfl ?_ ?_ <;> intro hc1
  ·
   have hff : findFrom (fun t => decide (cvF c t ≥ v)) c.vals.length 0 = t := findFrom_some (Nat.zero_le _) (by omega) (decide_eq_true (by rw [hft]; exact hc1)) (fun j _ hj => decide_eq_false (by have := hno j hj; omega))
   have hr : reachG c v = ((t : Int), true) := by unfold reachG; rw [hff, if_pos (by omega)]
   refine zQ (zG (zR 3 rfl (zN (zU (zT (wb (wt (wt (wb (wt ?_))))))))))
   refine sE (E := E) ?_
   refine zr2 ?_
   exact ⟨by rw [hr]; rfl, rfl⟩
  ·
   refine zK (zL (zU (zG (zR 1 rfl ?_))))
   refine yA ?_
   refine zR 1 rfl (zN ?_)
   refine WE.again (t + 1) (⟨by omega, fun j hj => by
    by_cases e : j = t
    ·subst e; rw [hft]; omega
    ·exact hno j (by omega)⟩) (by (try dsimp only); omega) ⟨rfl, rfl, rfl, rfl⟩ (RLe.refl _) qS
 ·
  obtain rfl : t = c.vals.length := by omega
  have hff : findFrom (fun t => decide (cvF c t ≥ v)) c.vals.length 0 = -1 := findFrom_none (fun j _ hj => decide_eq_false (by have := hno j (by omega); omega))
  refine zX ?_
  refine wx (wx (zY (zU (zQ (zQ (zG (zR 1 rfl ?_)))))))
  refine yM 0 ?_
  refine zR 2 rfl ?_
  refine yP ?_
  refine yP ?_
  refine yO ?_
  refine zN (zU ?_)
  refine cC rfl ?_ ?_ <;> intro hc2
  ·try simp only [zk] at hc2
   have hr : reachG c v = (0, false) := by unfold reachG; rw [hff, if_neg (fun hh => hh rfl), if_pos (by unfold INF; omega)]
   refine zQ (zG (zR 2 rfl (zN (zU (zT (wt ?_))))))
   refine sE (E := E) ?_
   refine zr2 ?_
   exact ⟨by rw [hr]; rfl, rfl⟩
  ·try simp only [zk] at hc2
   obtain ⟨hI0, hvI⟩ : c.inc ≠ 0 ∧ v ≠ 4611686018427387904 := by constructor <;> intro h <;> simp_all
   obtain ⟨S, P, hlen, hper, hfc, hfb⟩ : ∃ S P : Nat, c.vals.length = S + P ∧ c.per = P ∧ FC (cvF c) S P c.inc ∧ finB c = true := by
    rcases valid_cases hv with ⟨S, P, _, h1, h2, h3, h4⟩ | ⟨_, _, _, _, h, _, _, _⟩
    ·exact ⟨S, P, h1, h2, h3, h4⟩
    ·exact absurd h hI0
   have hI1 := hfc.hI
   have hSv : (c.vals.length : Int) - c.per = (S : Int) := by omega
   refine zK (zU (zQ (zG (zR 1 rfl (zN (zU (zQ (zQ (zG (zR 1 rfl ?_))))))))))
   refine yM 0 ?_
   refine zR 2 rfl ?_
   refine yM 0 ?_
   refine yS ?_
   rw [hSv]
   refine zR 1 rfl (zN (zU (zB ?_)))
   refine W.loopK (β := Nat × Int) (fun (t, m) => t ≤ c.vals.length ∧ S ≤ t ∧ ((t = S ∧ m = -1) ∨ (0 ≤ m ∧ (∃ t0 : Nat, S ≤ t0 ∧ t0 < t ∧ m = (((t0 : Nat) : Int) + ((v - cvF c t0 - 1) / c.inc + 1) * c.per)) ∧ ∀ j : Nat, S ≤ j → j < t → m ≤ (((j : Nat) : Int) + ((v - cvF c j - 1) / c.inc + 1) * c.per)))) (fun (t, m) => [(7, true, .int .i64 m), (8, true, .int .i64 (t : Int))]) [1, 2] [_, _] [] _ rfl (fun (t, m) => []) (fun (t, m) => c.vals.length - t) ((S, -1)) (⟨by (try dsimp only); omega, Nat.le_refl _, .inl ⟨rfl, rfl⟩⟩) ⟨rfl, rfl, rfl, rfl, rfl⟩ qS ?_
   intro zz hst
   obtain ⟨t, m⟩ := zz
   dsimp only [zipE, setAll, List.cons_append, List.nil_append, List.set_cons_zero, List.set_cons_succ]
   obtain ⟨ht, hts, hm⟩ := hst
   refine zQ (zQ (zG (zR 2 rfl ?_)))
   refine yM 0 ?_
   refine zR 2 rfl (zN (zU ?_))
   refine cD rfl ?_ ?_ <;> intro hc3
   ·
    have htl : t < c.vals.length := by omega
    have hft := cvF_low htl
    have hlt := hno t htl
    have hcb := hfc.nonneg t
    have hk0 : 0 ≤ (v - cvF c t - 1) / c.inc := Int.ediv_nonneg (by omega) (by omega)
    have hk1 : (v - cvF c t - 1) / c.inc ≤ v - cvF c t - 1 := Int.ediv_le_self _ (by omega)
    have hkm := mulB (a := (v - cvF c t - 1) / c.inc + 1) (b := c.per) (A := 1000000000000001) (B := 120) (by omega) (by omega)
    rw [hft] at hk0 hk1 hkm
    refine zK (zU (zQ (zB (zQ ?_))))
    refine W.regionQ _ mixed qK ?_
    refine zR 2 rfl ?_
    refine yM 0 ?_
    refine zR 1 rfl ?_
    refine yI ?_
    refine yD (r := by ((apply RS.rdD; assumption; ((try dsimp only) <;> omega)))) (k := ?_)
    refine yS ?_
    refine yS ?_
    refine zR 1 rfl ?_
    refine yM 0 ?_
    refine yV ?_
    refine zR 1 rfl (zN (zU (zQ (zG (zR 2 rfl ?_)))))
    refine yA ?_
    refine zR 1 rfl ?_
    refine yM 0 ?_
    refine yU ?_
    refine yA ?_
    refine zR 1 rfl (zN (zU (zQ (zG (zR 3 rfl ?_)))))
    refine yP ?_
    refine yP ?_
    refine yP ?_
    refine yO ?_
    refine zN (zU ?_)
    refine cC rfl ?_ ?_ <;> intro hc4
    ·try simp only [zk] at hc4
     refine zG (zR 2 rfl (zN (zL (zU (zG (zR 1 rfl ?_))))))
     refine yA ?_
     refine zR 1 rfl (zN ?_)
     refine WE.again ((t + 1, (((t : Nat) : Int) + ((v - nth c.vals t - 1) / c.inc + 1) * c.per))) (⟨by (try dsimp only); omega, by (try dsimp only); omega, .inr ⟨by (try dsimp only); omega, ⟨t, hts, by (try dsimp only); omega, by (try dsimp only); rw [hft]⟩, fun j a b => by
      (try dsimp only at b ⊢)
      by_cases e : j = t
      ·subst e; rw [hft]; exact Int.le_refl _
      ·rcases hm with ⟨h1, _⟩ | ⟨h0, _, h4⟩
       ·omega
       ·have := h4 j a (by omega)
        rcases hc4 with h | h <;> omega⟩⟩) (by (try dsimp only); omega) ⟨rfl, rfl, rfl, rfl, rfl⟩ (RLe.refl _) qS
    ·try simp only [zk] at hc4
     refine zK (zL (zU (zG (zR 1 rfl ?_))))
     refine yA ?_
     refine zR 1 rfl (zN ?_)
     refine WE.again ((t + 1, m)) (⟨by (try dsimp only); omega, by (try dsimp only); omega, .inr (by
      rcases hm with ⟨_, h1⟩ | ⟨h0, ⟨t0, h1, h2, h3⟩, h4⟩
      ·omega
      ·refine ⟨h0, ⟨t0, h1, by (try dsimp only); omega, h3⟩, fun j a b => ?_⟩
       (try dsimp only at b ⊢)
       by_cases e : j = t
       ·subst e; rw [hft]; omega
       ·exact h4 j a (by omega))⟩) (by (try dsimp only); omega) ⟨rfl, rfl, rfl, rfl, rfl⟩ (RLe.refl _) qS
   ·
    obtain rfl : t = c.vals.length := by omega
    have hfi : IsFirst (cvF c) v (m, true) := by
     rcases hm with ⟨h1, _⟩ | ⟨_, ⟨t0, h1, h2, h3⟩, h4⟩
     ·have := hfc.hP; omega
     ·exact first10 hfc hper hI0 (fun j hj => hno j (by omega)) h1 (by omega) h3 (fun t a b => h4 t a (by omega))
    have hr : reachG c v = (m, true) := (reachG_fin hv hfb hvI).eq hfi
    refine zX ?_
    refine wx (wx (zY (zU (zQ (zG (zR 3 rfl (zN (zU (zT ?_)))))))))
    refine sE (E := E) ?_
    refine zr2 ?_
    exact ⟨by rw [hr]; rfl, rfl⟩
theorem Grows10_V {R : Ro} {a1 : Option Addr} {c1 : Nat} {m1 : Cv} (hv1 : validB m1 = true) (hx1 : RS R 1 encI a1 m1.vals) {a2 : Option Addr} {c2 : Nat} {m2 : Cv} (hv2 : validB m2 = true) (hx2 : RS R 1 encI a2 m2.vals) {L : Nat} (hL : L ≤ 10000) : FnV Tryz.prog 80 [.agg #[.slice a1 m1.vals.length c1, .int .i64 m1.per, .int .i64 m1.inc], .agg #[.slice a2 m2.vals.length c2, .int .i64 m2.per, .int .i64 m2.inc], .int .i64 (L : Int)] R (.bool (decide (gainC m1 L - gainC m2 L > 0))) := by
 refine Fn.toV (fun w0 E => ?_)
 refine fE 12 Tryz.func80 ?_
 refine zQ (zG ?_)
 refine zO fun b3 => ?_
 refine zO fun b4 => ?_
 refine zR 1 rfl (zN (zU (zQ (zG ?_))))
 refine yB 1 ?_
 refine yB 0 ?_
 refine zR 1 rfl ?_
 refine WG.callV (v := .int .i64 (gainC m1 L - gainC m2 L)) en94 rfl rfl qD (CallOp.mk' rfl rfl rfl rfl) (fun _ => rfl) (fun hg => Slopes05_V hv1 hx1 hv2 hx2 hL) ?_
 refine zR 2 rfl (zN (zU (zT ?_)))
 refine sE (E := E) ?_
 refine zr1 ?_
 exact ⟨rfl, rfl⟩
theorem Window10_V {R : Ro} {a1 : Option Addr} {c1 : Nat} {m1 : Cv} (hv1 : validB m1 = true) (hx1 : RS R 1 encI a1 m1.vals) {a2 : Option Addr} {c2 : Nat} {m2 : Cv} (hv2 : validB m2 = true) (hx2 : RS R 1 encI a2 m2.vals) {L : Nat} (hL : L ≤ 10000) : FnV Tryz.prog 81 [.agg #[.slice a1 m1.vals.length c1, .int .i64 m1.per, .int .i64 m1.inc], .agg #[.slice a2 m2.vals.length c2, .int .i64 m2.per, .int .i64 m2.inc], .int .i64 (L : Int)] R (.int .i64 ((max m1.vals.length m2.vals.length + L : Nat) : Int)) := by
 refine Fn.toV (fun w0 E => ?_)
 obtain ⟨_, _, p1, _⟩ := valid_range hv1
 obtain ⟨_, _, q1, _⟩ := valid_range hv2
 have hr : (if (m1.vals.length : Int) < (m2.vals.length : Int) then (m2.vals.length : Int) else (m1.vals.length : Int)) + (L : Int) = ((max m1.vals.length m2.vals.length + L : Nat) : Int) := by split <;> omega
 refine fE 16 Tryz.func81 ?_
 refine zQ (zG ?_)
 refine zO fun b3 => ?_
 refine zO fun b4 => ?_
 refine zR 1 rfl (zN (zU (zQ (zG (zR 1 rfl ?_)))))
 refine yM 1 ?_
 refine zR 2 rfl ?_
 refine yM 0 ?_
 refine zR 3 rfl ?_
 refine yA ?_
 refine zR 1 rfl (zN (zU (zT ?_)))
 refine sE (E := E) ?_
 refine zr1 ?_
 exact ⟨by rw [← hr]; rfl, rfl⟩
set_option maxHeartbeats 2000000 in
theorem Delay10_C {R : Ro} {fa : Option Addr} {fc : Nat} {cf : Cv} (hvf : validB cf = true) (ha : RS R 1 encI fa cf.vals) (hcap : cf.vals.length ≤ fc) {ga : Option Addr} {gc : Nat} {cg : Cv} (hvg : validB cg = true) (hb : RS R 1 encI ga cg.vals) (hcapd : cg.vals.length ≤ gc) (w0 : World) (E : List Ent) : K.Fn Tryz.prog 43 [.agg #[.slice fa cf.vals.length fc, .int .i64 cf.per, .int .i64 cf.inc], .agg #[.slice ga cg.vals.length gc, .int .i64 cg.per, .int .i64 cg.inc]] w0 R E (fun v R' E' => v = .tuple #[.agg #[.bool ((devQ (normR cf) (normR cg) (gapD (normR cf) (normR cg)))).1.1, .int .i64 ((devQ (normR cf) (normR cg) (gapD (normR cf) (normR cg)))).1.2.1, .int .i64 ((devQ (normR cf) (normR cg) (gapD (normR cf) (normR cg)))).1.2.2], .int .i64 ((devQ (normR cf) (normR cg) (gapD (normR cf) (normR cg)))).2] ∧ E.Sublist E') := by
 have hnf := norm_nrm hvf
 have hng := norm_nrm hvg
 refine fE 72 Tryz.func43 ?_
 refine zQ (zG ?_)
 refine zO fun b2 => ?_
 refine zO fun b3 => ?_
 refine zA fun b4 => ?_
 refine zR 1 rfl (zN (zU (zQ (zG ?_))))
 refine yB 2 ?_
 refine yB 1 ?_
 refine WL.call en78 rfl rfl qD (CallOp.mkT rfl rfl rfl rfl) (Pair05_C hvf ha hcap hvg hb hcapd w0 _) ?_
 rintro _ R1 _ hR1 ⟨fa1x, ca1x, fa2x, ca2x, rfl, ha1x, ha2x, hsub1⟩
 refine WL.subE hsub1 ?_
 generalize normR cf = m1 at *
 generalize normR cg = m2 at *
 have hv1 := hnf.valid
 have hv2 := hng.valid
 have hlp := lcm_pos hv1 hv2
 have hs1 := stN_lt hv1
 have hs2 := stN_lt hv2
 have hlle := lcmC_le hv1 hv2
 refine zR 5 rfl ?_
 refine zA fun b6 => ?_
 refine zA fun b7 => ?_
 refine zE 1 ?_
 refine zE 0 ?_
 refine zR 2 rfl (zN (zU (zQ (zQ (zG (zR 2 rfl (zN (zU ?_))))))))
 refine cN rfl ?_ ?_ <;> intro hc0
 ·
  have hl1 : 120 < lcmC m1 m2 := by
   apply Classical.byContradiction
   intro h
   rw [if_neg h] at hc0
   exact hc0 rfl
  rw [if_pos hl1]
  have hd : devQ m1 m2 (gapD m1 m2) = ((false, 0, 0), 3) := by unfold devQ; rw [if_pos hl1]
  refine zQ (zG ?_)
  refine yW [] ?_
  refine zR 1 rfl ?_
  refine zE 2 ?_
  refine zR 1 rfl (zN (zU (zT (wt ?_))))
  refine zq4 (hR1) ?_
  exact ⟨by rw [hd]; rfl, qS⟩
 ·
  have hl1 : ¬ 120 < lcmC m1 m2 := fun h => by rw [if_pos h] at hc0; exact absurd hc0 (by decide)
  rw [if_neg hl1, if_neg hl1]
  refine zK (zU (zQ (zQ (zG ?_))))
  refine yB 1 ?_
  refine WG.callV en79 rfl rfl qD (CallOp.mk' rfl rfl rfl rfl) (fun _ => rfl) (fun hg => FiniteG_V hv1 ha1x) ?_
  refine zR 1 rfl ?_
  refine' WG.y rfl rfl (by decide) (Yl.loadG tab_ok rfl rfl rfl (by first | exact fun _ => rfl | exact fun h => h | (intro h; simp_all; done) | ((try generalize decide (driftG m1 m2 < 0) = k1); (try generalize (driftG m1 m2 == 0) = k2); (try generalize decide (gainC m1 (lcmC m1 m2) - gainC m2 (lcmC m1 m2) > 0) = k5); (try generalize finB m1 = k3); (try generalize finB m2 = k4); (try revert k1); (try revert k2); (try revert k3); (try revert k4); (try revert k5); decide)) ?r4 rfl ?h4 ?g4) ?_
  case r4 => (exact Rd.blkC 0 rfl)
  case h4 => rfl
  case g4 => exact fun _ => trivial
  refine WG.callV en79 rfl rfl (by decide) (CallOp.mk' rfl rfl rfl rfl) (by first | exact fun _ => rfl | exact fun h => h | (intro h; simp_all; done) | ((try generalize decide (driftG m1 m2 < 0) = k1); (try generalize (driftG m1 m2 == 0) = k2); (try generalize decide (gainC m1 (lcmC m1 m2) - gainC m2 (lcmC m1 m2) > 0) = k5); (try generalize finB m1 = k3); (try generalize finB m2 = k4); (try revert k1); (try revert k2); (try revert k3); (try revert k4); (try revert k5); decide)) (fun hg => FiniteG_V hv2 ha2x) ?_
  refine WG.y rfl rfl (by decide) (Yl.pand rfl rfl rfl (fun _ => rfl) (by first | exact fun _ _ => rfl | ((try generalize decide (driftG m1 m2 < 0) = k1); (try generalize (driftG m1 m2 == 0) = k2); (try generalize decide (gainC m1 (lcmC m1 m2) - gainC m2 (lcmC m1 m2) > 0) = k5); (try generalize finB m1 = k3); (try generalize finB m2 = k4); (try revert k1); (try revert k2); (try revert k3); (try revert k4); (try revert k5); decide) | (intro h1 h2; simp_all <;> omega))) ?_
  refine zR 1 rfl ?_
  refine' WG.y rfl rfl (by decide) (Yl.loadG tab_ok rfl rfl rfl (by first | exact fun _ => rfl | exact fun h => h | (intro h; simp_all; done) | ((try generalize decide (driftG m1 m2 < 0) = k1); (try generalize (driftG m1 m2 == 0) = k2); (try generalize decide (gainC m1 (lcmC m1 m2) - gainC m2 (lcmC m1 m2) > 0) = k5); (try generalize finB m1 = k3); (try generalize finB m2 = k4); (try revert k1); (try revert k2); (try revert k3); (try revert k4); (try revert k5); decide)) ?r5 rfl ?h5 ?g5) ?_
  case r5 => (exact Rd.blkC 1 rfl)
  case h5 => rfl
  case g5 => exact fun _ => trivial
  refine' WG.y rfl rfl (by decide) (Yl.loadG tab_ok rfl rfl rfl (by first | exact fun _ => rfl | exact fun h => h | (intro h; simp_all; done) | ((try generalize decide (driftG m1 m2 < 0) = k1); (try generalize (driftG m1 m2 == 0) = k2); (try generalize decide (gainC m1 (lcmC m1 m2) - gainC m2 (lcmC m1 m2) > 0) = k5); (try generalize finB m1 = k3); (try generalize finB m2 = k4); (try revert k1); (try revert k2); (try revert k3); (try revert k4); (try revert k5); decide)) ?r6 rfl ?h6 ?g6) ?_
  case r6 => (exact Rd.blkC 0 rfl)
  case h6 => rfl
  case g6 => exact fun _ => trivial
  refine WG.y rfl rfl (by decide) (pureV_ok tab_ok rfl (by first | exact fun _ => rfl | exact fun h => h | (intro h; simp_all; done) | ((try generalize decide (driftG m1 m2 < 0) = k1); (try generalize (driftG m1 m2 == 0) = k2); (try generalize decide (gainC m1 (lcmC m1 m2) - gainC m2 (lcmC m1 m2) > 0) = k5); (try generalize finB m1 = k3); (try generalize finB m2 = k4); (try revert k1); (try revert k2); (try revert k3); (try revert k4); (try revert k5); decide))) ?_
  refine WG.callV en80 rfl rfl (by decide) (CallOp.mk' rfl rfl rfl rfl) (by first | exact fun _ => rfl | exact fun h => h | (intro h; simp_all; done) | ((try generalize decide (driftG m1 m2 < 0) = k1); (try generalize (driftG m1 m2 == 0) = k2); (try generalize decide (gainC m1 (lcmC m1 m2) - gainC m2 (lcmC m1 m2) > 0) = k5); (try generalize finB m1 = k3); (try generalize finB m2 = k4); (try revert k1); (try revert k2); (try revert k3); (try revert k4); (try revert k5); decide)) (fun hg => Grows10_V hv1 ha1x hv2 ha2x (L := lcmC m1 m2) (by omega)) ?_
  refine WG.y rfl rfl (by decide) (Yl.pand rfl rfl rfl (fun _ => rfl) (by first | exact fun _ _ => rfl | ((try generalize decide (driftG m1 m2 < 0) = k1); (try generalize (driftG m1 m2 == 0) = k2); (try generalize decide (gainC m1 (lcmC m1 m2) - gainC m2 (lcmC m1 m2) > 0) = k5); (try generalize finB m1 = k3); (try generalize finB m2 = k4); (try revert k1); (try revert k2); (try revert k3); (try revert k4); (try revert k5); decide) | (intro h1 h2; simp_all <;> omega))) ?_
  refine zN (zU ?_)
  refine cC rfl ?_ ?_ <;> intro hc1
  ·try simp only [zk] at hc1
   have hq : fastQ m1 m2 := ⟨hc1.1.1, hc1.1.2, by omega⟩
   have hd : devQ m1 m2 (gapD m1 m2) = ((true, 0, 0), 0) := by unfold devQ; rw [if_neg hl1, if_pos hq]
   refine zQ (zG ?_)
   refine yW [(0, .const (.bool true))] ?_
   refine zE 2 ?_
   refine zR 1 rfl (zN (zU (zT (wt ?_))))
   refine zq4 (hR1) ?_
   exact ⟨by rw [hd]; rfl, qS⟩
  ·try simp only [zk] at hc1
   have hq : ¬ fastQ m1 m2 := fun ⟨g1, g2, g3⟩ => by have := hc1 ⟨g1, g2⟩; omega
   have hd : devQ m1 m2 (gapD m1 m2) = (greatW (gapD m1 m2) (max m1.vals.length m2.vals.length + lcmC m1 m2) 0 0 0, 0) := by unfold devQ; rw [if_neg hl1, if_neg hq]
   refine zK (zU (zQ (zG ?_)))
   refine yW [] ?_
   refine zA fun b10 => ?_
   refine zE 0 ?_
   refine zN (zU (zQ (zQ (zG (zR 1 rfl (zN (zU (zB ?_))))))))
   refine W.loopK (β := Nat × Int × Int) (fun (t, v, a) => t ≤ (max m1.vals.length m2.vals.length + lcmC m1 m2) ∧ greatW (gapD m1 m2) ((max m1.vals.length m2.vals.length + lcmC m1 m2) - t) t v a = greatW (gapD m1 m2) (max m1.vals.length m2.vals.length + lcmC m1 m2) 0 0 0) (fun (t, v, a) => [(11, true, .int .i64 (t : Int))]) [4, 6, 7, 8, 10] [_, _, _, _, _] [] _ rfl (fun (t, v, a) => [(0, .blk b10 [.bool false, .int .i64 v, .int .i64 a])]) (fun (t, v, a) => (max m1.vals.length m2.vals.length + lcmC m1 m2) - t) ((0, 0, 0)) (⟨Nat.zero_le _, by rfl⟩) ⟨rfl, rfl, rfl, rfl, rfl, rfl, rfl⟩ qS ?_
   intro st hst
   obtain ⟨t, v, a⟩ := st
   dsimp only [zipE, setAll, List.cons_append, List.nil_append, List.set_cons_zero, List.set_cons_succ]
   obtain ⟨ht, hg⟩ := hst
   refine zQ (zQ (zG (zR 1 rfl ?_)))
   refine yB 2 ?_
   refine yB 1 ?_
   refine zR 1 rfl ?_
   refine WG.callV en81 rfl rfl qD (CallOp.mk' rfl rfl rfl rfl) (fun _ => rfl) (fun hg => Window10_V hv1 ha1x hv2 ha2x (L := lcmC m1 m2) qO) ?_
   refine zR 1 rfl (zN (zU ?_))
   refine cD rfl ?_ ?_ <;> intro hc2
   ·
    have htl : t < (max m1.vals.length m2.vals.length + lcmC m1 m2) := by omega
    obtain ⟨m, hm⟩ : ∃ m, (max m1.vals.length m2.vals.length + lcmC m1 m2) - t = m + 1 := ⟨(max m1.vals.length m2.vals.length + lcmC m1 m2) - t - 1, by omega⟩
    have hm2 : (max m1.vals.length m2.vals.length + lcmC m1 m2) - (t + 1) = m := by omega
    rw [hm, greatW] at hg
    have hlow := cvF_low15 hv1 (show t ≤ 100000 by omega)
    have hrb := reachG_bound hv2 hlow
    have hge : gapD m1 m2 t = ((reachG m2 (cvF m1 t)).1 - (t : Int), (reachG m2 (cvF m1 t)).2) := rfl
    rw [hge] at hg
    dsimp only at hg
    unfold INF at hlow
    refine zK (zU (zQ (zB (zQ ?_))))
    refine W.regionQ _ mixed qK ?_
    refine yB 1 ?_
    refine yB 2 ?_
    refine zR 1 rfl ?_
    refine WG.callV (v := .int .i64 (cvF m1 t)) en83 rfl rfl qD (CallOp.mk' rfl rfl rfl rfl) (fun _ => rfl) (fun hg => AtG_V hv1 ha1x (t := t) qO) ?_
    refine WG.callV en82 rfl rfl qD (CallOp.mk' rfl rfl rfl rfl) (fun _ => rfl) (fun hg => First10_V hv2 ha2x hlow) ?_
    refine zR 5 rfl (zN (zU (zQ (zQ (zG (zR 2 rfl (zN (zU ?_))))))))
    refine cC rfl ?_ ?_ <;> intro hc3
    ·try simp only [zk] at hc3
     have hok : (reachG m2 (cvF m1 t)).2 = false := by simpa using hc3
     rw [if_pos hok] at hg
     refine zQ (zG ?_)
     refine yW [(0, .const (.bool true))] ?_
     refine zE 3 ?_
     refine zR 1 rfl (zN (zU (zT (wt (wb (wt (wt (wb (wt ?_)))))))))
     refine zq4 (hR1) ?_
     exact ⟨by rw [hd, ← hg]; rfl, qS⟩
    ·try simp only [zk] at hc3
     have hok : ¬ (reachG m2 (cvF m1 t)).2 = false := by simpa using hc3
     rw [if_neg hok] at hg
     refine zK (zU (zQ (zG (zR 2 rfl ?_))))
     refine yS ?_
     refine zR 1 rfl ?_
     refine yM 0 ?_
     refine zR 1 rfl (zN (zU ?_))
     refine cD rfl ?_ ?_ <;> intro hc4
     ·
      rw [if_pos hc4, ← hm2] at hg
      refine zG (zR 2 rfl ?_)
      refine yS ?_
      refine zR 2 rfl ?_
      refine zF 0 ?_
      refine zR 1 rfl ?_
      refine zF 0 ?_
      refine zN (zL (zU (zG (zR 1 rfl ?_))))
      refine yA ?_
      refine zR 1 rfl (zN ?_)
      refine WE.again ((t + 1, (reachG m2 (cvF m1 t)).1 - (t : Int), t)) (⟨by dsimp only; omega, hg⟩) (by (try dsimp only); omega) ⟨rfl, rfl, rfl, rfl, rfl, rfl, rfl⟩ (RLe.refl _) qS
     ·
      rw [if_neg (by omega), ← hm2] at hg
      refine zK (zL (zU (zG (zR 1 rfl ?_))))
      refine yA ?_
      refine zR 1 rfl (zN ?_)
      refine WE.again ((t + 1, v, a)) (⟨by dsimp only; omega, hg⟩) (by (try dsimp only); omega) ⟨rfl, rfl, rfl, rfl, rfl, rfl, rfl⟩ (RLe.refl _) qS
   ·
    obtain rfl : t = (max m1.vals.length m2.vals.length + lcmC m1 m2) := by omega
    rw [Nat.sub_self, greatW] at hg
    refine zX ?_
    refine wx (wx (zY (zU (zQ (zG ?_)))))
    refine yB 0 ?_
    refine zE 3 ?_
    refine zR 1 rfl (zN (zU (zT ?_)))
    refine zq4 (hR1) ?_
    exact ⟨by rw [hd, ← hg]; rfl, qS⟩

set_option maxHeartbeats 4000000 in
theorem SumG05_C {R : Ro} {fa : Option Addr} {fc : Nat} {c : Cv} (hv : validB c = true) (ha : RS R 1 encI fa c.vals) (hcap : c.vals.length ≤ fc) {ga : Option Addr} {gc : Nat} {d : Cv} (hw : validB d = true) (hb : RS R 1 encI ga d.vals) (hcapd : d.vals.length ≤ gc) (w0 : World) (E : List Ent) : K.Fn Tryz.prog 90 [.agg #[.slice fa c.vals.length fc, .int .i64 c.per, .int .i64 c.inc], .agg #[.slice ga d.vals.length gc, .int .i64 d.per, .int .i64 d.inc]] w0 R E (fun r R' E' => ∃ (f : Option Addr) (fc : Nat), r = cvV f fc (sumC c d) ∧ RS R' 1 encI f (sumC c d).1.vals ∧ (sumC c d).1.vals.length ≤ fc ∧ E.Sublist E') := by
 have hnv := (norm_valid hv).1
 have hnw := (norm_valid hw).1
 refine fE 70 Tryz.func90 ?_
 refine zQ (zG ?_)
 refine zO fun b2 => ?_
 refine zO fun b3 => ?_
 refine zA fun b4 => ?_
 refine zR 1 rfl (zN (zU (zQ (zG ?_))))
 refine yB 2 ?_
 refine yB 1 ?_
 refine WL.call en78 rfl rfl qD (CallOp.mkT rfl rfl rfl rfl) (Pair05_C hv ha hcap hw hb hcapd w0 _) ?_
 rintro _ R1 E1 hR1 ⟨f1, k1, f2, k2, rfl, hf1, hf2, hsub1⟩
 refine WL.subE hsub1 ?_
 have hun : sumC c d = if 120 < lcmC (normR c) (normR d) then (zcv, 3) else mbuild (plusF (normR c) (normR d)) (max (stN (normR c)) (stN (normR d))) (lcmC (normR c) (normR d)) (gainC (normR c) (lcmC (normR c) (normR d)) + gainC (normR d) (lcmC (normR c) (normR d))) := by unfold sumC; rw [if_neg (by rw [hv, hw]; simp)]
 generalize normR c = m1 at *
 generalize normR d = m2 at *
 obtain ⟨_, _, s1, p1, p2, p3, p4, p5⟩ := valid_range hnv
 obtain ⟨_, _, s2, q1, q2, q3, q4, q5⟩ := valid_range hnw
 refine zR 5 rfl ?_
 refine zA fun b6 => ?_
 refine zA fun b7 => ?_
 refine zE 1 ?_
 refine zE 0 ?_
 refine zR 2 rfl (zN (zU (zQ (zQ (zG (zR 2 rfl (zN (zU ?_))))))))
 refine cN rfl ?_ ?_ <;> intro hc0
 ·
  have hL : 120 < lcmC m1 m2 := by
   apply Classical.byContradiction; intro h
   rw [if_neg h] at hc0; exact hc0 rfl
  have hd : sumC c d = (zcv, 3) := by rw [hun, if_pos hL]
  refine zQ (zG ?_)
  refine yW [] ?_
  refine zR 1 rfl ?_
  refine zE 2 ?_
  refine zR 1 rfl (zN (zU (zT (wt ?_))))
  refine zq4 (by first | exact hR1 | exact hR1.trans (hR2.trans hR4)) ?_
  rw [if_pos hL]
  exact ⟨none, 0, by rw [hd]; rfl, by rw [hd]; exact rs_nil, by rw [hd]; exact Nat.le_refl _, qS⟩
 ·
  have hL : ¬ 120 < lcmC m1 m2 := fun h => by rw [if_pos h] at hc0; exact absurd hc0 (by decide)
  rw [if_neg hL] at hun
  have hLp : 0 < lcmC m1 m2 := (lcm_mod (show 0 < m1.per.toNat by omega) (show 0 < m2.per.toNat by omega)).2.2
  obtain ⟨hmade, hmok⟩ := sum_ref hnv hnw (by omega) (n := (max m1.vals.length m2.vals.length)) (by omega) (by omega)
  have hgb1 := gain_bound hnv (L := lcmC m1 m2) (by omega)
  have hgb2 := gain_bound hnw (L := lcmC m1 m2) (by omega)
  have hgi : (gainC m1 (lcmC m1 m2) + gainC m2 (lcmC m1 m2)) = m1.inc * ((lcmC m1 m2 : Int) / m1.per) + m2.inc * ((lcmC m1 m2 : Int) / m2.per) := by unfold gainC; rw [Int.mul_comm m1.inc, Int.mul_comm m2.inc]
  have hd1 : 0 ≤ (lcmC m1 m2 : Int) / m1.per ∧ (lcmC m1 m2 : Int) / m1.per ≤ 120 := ⟨Int.ediv_nonneg (by omega) (by omega), by have := Int.ediv_le_self (a := (lcmC m1 m2 : Int)) m1.per (by omega); omega⟩
  have hd2 : 0 ≤ (lcmC m1 m2 : Int) / m2.per ∧ (lcmC m1 m2 : Int) / m2.per ≤ 120 := ⟨Int.ediv_nonneg (by omega) (by omega), by have := Int.ediv_le_self (a := (lcmC m1 m2 : Int)) m2.per (by omega); omega⟩
  have hq1 := mulB (a := m1.inc) (b := (lcmC m1 m2 : Int) / m1.per) (A := 1073741824) (B := 120) (by omega) (by omega)
  have hq2 := mulB (a := m2.inc) (b := (lcmC m1 m2 : Int) / m2.per) (A := 1073741824) (B := 120) (by omega) (by omega)
  have hle : ∀ t, t ≤ 100000 → plusF m1 m2 t = (if cvF m1 t = INF ∨ cvF m2 t = INF then INF else cvF m1 t + cvF m2 t) ∧ (cvF m1 t = INF ∨ (0 ≤ cvF m1 t ∧ cvF m1 t ≤ 2000000000000000000)) ∧ (cvF m2 t = INF ∨ (0 ≤ cvF m2 t ∧ cvF m2 t ≤ 2000000000000000000)) := fun t ht => by
   have b1 := cvF_bound hnv t
   have b2 := cvF_bound hnw t
   have i1 := isInf_iff hnv (t := t) (by omega)
   have i2 := isInf_iff hnw (t := t) (by omega)
   refine ⟨?_, by omega, by omega⟩
   unfold plusF
   by_cases h : cvF m1 t = INF ∨ cvF m2 t = INF
   ·rw [if_pos h, if_pos (h.imp i1.2 i2.2)]
   ·rw [if_neg h, if_neg (fun x => h (x.imp i1.1 i2.1))]
  rw [if_neg hL, if_neg hL]
  refine zK (zU (zQ ?_))
  refine W.regionH _ (ES := [.blk b7 [.slice f2 m2.vals.length k2, .int .i64 m2.per, .int .i64 m2.inc], .blk b6 [.slice f1 m1.vals.length k1, .int .i64 m1.per, .int .i64 m1.inc]]) mixed ?_
  refine tP 0 ?_
  refine tP 1 ?_
  refine tL 2 (Rd.add (Rd.blk 1 rfl) _) ?_
  refine tP 3 ?_
  refine tP 4 ?_
  refine tL 5 (Rd.add (Rd.blk 1 rfl) _) ?_
  refine WA.take 6 rfl qK qK qK rfl rfl qD (Yl.quo rfl rfl rfl (fun _ => rfl) qA (by intro _; omega)) qS qR ?_
  refine WA.take 7 rfl qK qK qK rfl rfl qD (Yl.mul rfl rfl rfl (fun _ => rfl) qA) qS qR ?_
  refine tP 8 ?_
  refine tL 9 (Rd.add (Rd.blk 0 rfl) _) ?_
  refine tP 10 ?_
  refine tP 11 ?_
  refine tL 12 (Rd.add (Rd.blk 0 rfl) _) ?_
  refine WA.take 13 rfl qK qK qK rfl rfl qD (Yl.quo rfl rfl rfl (fun _ => rfl) qA (by intro _; omega)) qS qR ?_
  refine WA.take 14 rfl qK qK qK rfl rfl qD (Yl.mul rfl rfl rfl (fun _ => rfl) qA) qS qR ?_
  refine tA 15 ?_
  refine WA.take 16 rfl qK qK qK rfl rfl qD (Yl.build (parts := [(1, .tmp 24), (2, .tmp 39)]) tab_ok rfl rfl rfl rfl (fun _ => rfl) rfl rfl) qS qR ?_
  refine WA.eff 17 rfl qK rfl rfl qD (Ef.alloc tab_ok rfl rfl (fun b10 => ?_))
  refine ⟨qR, qS, ?_⟩
  refine zCE 18 0 ?_
  refine WA.done qK ?_
  refine zU (zQ ?_)
  rw [← hgi]
  generalize (gainC m1 (lcmC m1 m2) + gainC m2 (lcmC m1 m2)) = G at *
  generalize hLL : lcmC m1 m2 = L at *
  refine W.nil 3 1 qD ?_
  refine zQ (zG (zR 1 rfl (zN (zU (zB ?_)))))
  refine W.loopK (β := Nat × Option Addr × Nat) (fun (t, a9, c9) => t ≤ (max m1.vals.length m2.vals.length) + L) (fun (t, a9, c9) => [(11, true, .int .i64 (t : Int))]) [4, 6, 7, 8, 10] [_, _, _, _, _] [] _ rfl (fun (t, a9, c9) => [(0, .sl 3 1 a9 c9 ((fvals (plusF m1 m2) t).map encI)), (1, .blk b10 [.slice a9 (fvals (plusF m1 m2) t).length c9, .int .i64 (L : Int), .int .i64 G])]) (fun (t, a9, c9) => (max m1.vals.length m2.vals.length) + L - t) ((0, none, 0)) (Nat.zero_le _) ⟨rfl, rfl, rfl, rfl, rfl, rfl, rfl⟩ qS ?_
  intro st hst
  obtain ⟨t, a9, c9⟩ := st
  have hfl := fvals_len (plusF m1 m2) t
  refine zQ (zQ (zG (zR 2 rfl ?_)))
  refine yM 3 ?_
  refine zR 2 rfl ?_
  refine yM 2 ?_
  refine zR 3 rfl ?_
  refine yA ?_
  refine zR 1 rfl (zN (zU ?_))
  refine cD rfl ?_ ?_ <;> intro hc1
  ·
   have htM : t < (max m1.vals.length m2.vals.length) + L := by split at hc1 <;> omega
   obtain ⟨x1, x2, x3⟩ := hle t (by omega)
   have e1 : fvals (plusF m1 m2) (t + 1) = fvals (plusF m1 m2) t ++ [(if cvF m1 t = INF ∨ cvF m2 t = INF then INF else cvF m1 t + cvF m2 t)] := by rw [fvals_snoc, x1]
   refine zK (zU (zQ (zB ?_)))
   refine W.regionH _ (ES := [.blk b7 [.slice f2 m2.vals.length k2, .int .i64 m2.per, .int .i64 m2.inc], .blk b6 [.slice f1 m1.vals.length k1, .int .i64 m1.per, .int .i64 m1.inc]]) mixed ?_
   refine tP 0 ?_
   refine tL 2 (Rd.blk 1 rfl) ?_
   refine tP 3 ?_
   refine tL 5 (Rd.blk 0 rfl) ?_
   refine tP 6 ?_
   refine WA.br2 (i := 1) (j := 4) qK ?_ ?_
   ·
    refine sL (Rd.add (Rd.blk 1 rfl) _) ?_
    refine WA.callG 4 rfl qK en83 rfl (by first | rfl | decide) rfl qD (CallOp.mkT rfl rfl rfl rfl) (FnV.toFn (AtG_V (fc := k1) hnv hf1 (t := t) qO)) ?_
    rintro _ _ _ - ⟨rfl, rfl, rfl⟩
    refine ⟨qR, qS, ?_⟩
    refine WA.callG 7 rfl qK en83 rfl (by first | rfl | decide) rfl qD (CallOp.mkT rfl rfl rfl rfl) (FnV.toFn (AtG_V (fc := k2) hnw hf2 (t := t) qO)) ?_
    rintro _ _ _ - ⟨rfl, rfl, rfl⟩
    refine ⟨qR, qS, ?_⟩
    refine WA.callG 8 rfl qK en92 rfl (by first | rfl | decide) rfl qD (CallOp.mkT rfl rfl rfl rfl) (FnV.toFn (Plus05_V x2 x3)) ?_
    rintro _ _ _ - ⟨rfl, rfl, rfl⟩
    refine ⟨qR, qS, ?_⟩
    refine WA.eff 9 rfl qK rfl rfl qD (Ef.buildSliceD (enc := encI) (parts := [.tmp 62]) [_] tab_ok rfl rfl rfl rfl rfl rfl rfl rfl qD qD (fun a63 => ?_))
    refine ⟨qR, qS, ?_⟩
    refine WA.eff 10 rfl (by kernel_rfl) rfl rfl (by decide) (Ef.appendD 1 0 tab_ok rfl rfl rfl rfl rfl rfl rfl rfl rfl rfl rfl (fun _ _ => rfl) (by simp only [List.length_cons, List.length_nil]; omega) (by simp only [List.length_cons, List.length_nil]; omega) (fun a64 c64 ha64 => ?_))
    refine ⟨qR, qS, ?_⟩
    refine tP 11 ?_
    refine zCF 12 2 ?_
    refine WA.done qK ?_
    refine zL (zU (zG (zR 1 rfl ?_)))
    refine yA ?_
    refine zR 1 rfl (zN ?_)
    refine WE.again ((t + 1, a64, c64)) (by dsimp only; omega) (by (try dsimp only); omega) ⟨rfl, rfl, rfl, rfl, rfl, rfl, rfl⟩ (RLe.refl _) (by dsimp only [setAll, List.set_cons_zero, List.set_cons_succ]; rw [e1, List.length_append]; exact qS)
   ·
    refine WS.callG rfl en83 rfl (by first | rfl | decide) rfl qD (CallOp.mkT rfl rfl rfl rfl) (FnV.toFn (AtG_V (fc := k1) hnv hf1 (t := t) qO)) ?_
    rintro _ _ _ - ⟨rfl, rfl, rfl⟩
    refine ⟨qR, qS, ?_⟩
    refine WA.br2 (i := 1) (j := 7) qK ?_ ?_
    ·
     refine sL (Rd.add (Rd.blk 1 rfl) _) ?_
     refine WA.callG 7 rfl qK en83 rfl (by first | rfl | decide) rfl qD (CallOp.mkT rfl rfl rfl rfl) (FnV.toFn (AtG_V (fc := k2) hnw hf2 (t := t) qO)) ?_
     rintro _ _ _ - ⟨rfl, rfl, rfl⟩
     refine ⟨qR, qS, ?_⟩
     refine WA.callG 8 rfl qK en92 rfl (by first | rfl | decide) rfl qD (CallOp.mkT rfl rfl rfl rfl) (FnV.toFn (Plus05_V x2 x3)) ?_
     rintro _ _ _ - ⟨rfl, rfl, rfl⟩
     refine ⟨qR, qS, ?_⟩
     refine WA.eff 9 rfl qK rfl rfl qD (Ef.buildSliceD (enc := encI) (parts := [.tmp 62]) [_] tab_ok rfl rfl rfl rfl rfl rfl rfl rfl qD qD (fun a63 => ?_))
     refine ⟨qR, qS, ?_⟩
     refine WA.eff 10 rfl (by kernel_rfl) rfl rfl (by decide) (Ef.appendD 1 0 tab_ok rfl rfl rfl rfl rfl rfl rfl rfl rfl rfl rfl (fun _ _ => rfl) (by simp only [List.length_cons, List.length_nil]; omega) (by simp only [List.length_cons, List.length_nil]; omega) (fun a64 c64 ha64 => ?_))
     refine ⟨qR, qS, ?_⟩
     refine tP 11 ?_
     refine zCF 12 2 ?_
     refine WA.done qK ?_
     refine zL (zU (zG (zR 1 rfl ?_)))
     refine yA ?_
     refine zR 1 rfl (zN ?_)
     refine WE.again ((t + 1, a64, c64)) (by dsimp only; omega) (by (try dsimp only); omega) ⟨rfl, rfl, rfl, rfl, rfl, rfl, rfl⟩ (RLe.refl _) (by dsimp only [setAll, List.set_cons_zero, List.set_cons_succ]; rw [e1, List.length_append]; exact qS)
    ·
     refine WS.callG rfl en83 rfl (by first | rfl | decide) rfl qD (CallOp.mkT rfl rfl rfl rfl) (FnV.toFn (AtG_V (fc := k2) hnw hf2 (t := t) qO)) ?_
     rintro _ _ _ - ⟨rfl, rfl, rfl⟩
     refine ⟨qR, qS, ?_⟩
     refine WA.br2 (i := 1) (j := 8) qK ?_ ?_
     ·
      refine sL (Rd.add (Rd.blk 1 rfl) _) ?_
      refine WA.callG 8 rfl qK en92 rfl (by first | rfl | decide) rfl qD (CallOp.mkT rfl rfl rfl rfl) (FnV.toFn (Plus05_V x2 x3)) ?_
      rintro _ _ _ - ⟨rfl, rfl, rfl⟩
      refine ⟨qR, qS, ?_⟩
      refine WA.eff 9 rfl qK rfl rfl qD (Ef.buildSliceD (enc := encI) (parts := [.tmp 62]) [_] tab_ok rfl rfl rfl rfl rfl rfl rfl rfl qD qD (fun a63 => ?_))
      refine ⟨qR, qS, ?_⟩
      refine WA.eff 10 rfl (by kernel_rfl) rfl rfl (by decide) (Ef.appendD 1 0 tab_ok rfl rfl rfl rfl rfl rfl rfl rfl rfl rfl rfl (fun _ _ => rfl) (by simp only [List.length_cons, List.length_nil]; omega) (by simp only [List.length_cons, List.length_nil]; omega) (fun a64 c64 ha64 => ?_))
      refine ⟨qR, qS, ?_⟩
      refine tP 11 ?_
      refine zCF 12 2 ?_
      refine WA.done qK ?_
      refine zL (zU (zG (zR 1 rfl ?_)))
      refine yA ?_
      refine zR 1 rfl (zN ?_)
      refine WE.again ((t + 1, a64, c64)) (by dsimp only; omega) (by (try dsimp only); omega) ⟨rfl, rfl, rfl, rfl, rfl, rfl, rfl⟩ (RLe.refl _) (by dsimp only [setAll, List.set_cons_zero, List.set_cons_succ]; rw [e1, List.length_append]; exact qS)
     ·
      refine WS.callG rfl en92 rfl (by first | rfl | decide) rfl qD (CallOp.mkT rfl rfl rfl rfl) (FnV.toFn (Plus05_V x2 x3)) ?_
      rintro _ _ _ - ⟨rfl, rfl, rfl⟩
      refine ⟨qR, qS, ?_⟩
      refine WA.br2 (i := 1) (j := 9) qK ?_ ?_
      ·
       refine sL (Rd.add (Rd.blk 1 rfl) _) ?_
       refine WA.eff 9 rfl qK rfl rfl qD (Ef.buildSliceD (enc := encI) (parts := [.tmp 62]) [_] tab_ok rfl rfl rfl rfl rfl rfl rfl rfl qD qD (fun a63 => ?_))
       refine ⟨qR, qS, ?_⟩
       refine WA.eff 10 rfl (by kernel_rfl) rfl rfl (by decide) (Ef.appendD 1 0 tab_ok rfl rfl rfl rfl rfl rfl rfl rfl rfl rfl rfl (fun _ _ => rfl) (by simp only [List.length_cons, List.length_nil]; omega) (by simp only [List.length_cons, List.length_nil]; omega) (fun a64 c64 ha64 => ?_))
       refine ⟨qR, qS, ?_⟩
       refine tP 11 ?_
       refine zCF 12 2 ?_
       refine WA.done qK ?_
       refine zL (zU (zG (zR 1 rfl ?_)))
       refine yA ?_
       refine zR 1 rfl (zN ?_)
       refine WE.again ((t + 1, a64, c64)) (by dsimp only; omega) (by (try dsimp only); omega) ⟨rfl, rfl, rfl, rfl, rfl, rfl, rfl⟩ (RLe.refl _) (by dsimp only [setAll, List.set_cons_zero, List.set_cons_succ]; rw [e1, List.length_append]; exact qS)
      ·
       refine WS.eff rfl rfl rfl qD (Ef.buildSliceD (enc := encI) (parts := [.tmp 62]) [_] tab_ok rfl rfl rfl rfl rfl rfl rfl rfl qD qD (fun a63 => ?_))
       refine ⟨qR, qS, ?_⟩
       refine lL 1 (Rd.add (Rd.blk 2 rfl) _) ?_
       refine WA.eff 10 rfl (by kernel_rfl) rfl rfl (by decide) (Ef.appendD 1 0 tab_ok rfl rfl rfl rfl rfl rfl rfl rfl rfl rfl rfl (fun _ _ => rfl) (by simp only [List.length_cons, List.length_nil]; omega) (by simp only [List.length_cons, List.length_nil]; omega) (fun a64 c64 ha64 => ?_))
       refine ⟨qR, qS, ?_⟩
       refine tP 11 ?_
       refine zCF 12 2 ?_
       refine WA.done qK ?_
       refine zL (zU (zG (zR 1 rfl ?_)))
       refine yA ?_
       refine zR 1 rfl (zN ?_)
       refine WE.again ((t + 1, a64, c64)) (by dsimp only; omega) (by (try dsimp only); omega) ⟨rfl, rfl, rfl, rfl, rfl, rfl, rfl⟩ (RLe.refl _) (by dsimp only [setAll, List.set_cons_zero, List.set_cons_succ]; rw [e1, List.length_append]; exact qS)
  ·
   obtain rfl : t = (max m1.vals.length m2.vals.length) + L := by split at hc1 <;> omega
   refine W.cap 0 rfl ?_
   intro hcp
   rw [List.length_map] at hcp
   refine W.freeze (enc := encI) (xs := fvals (plusF m1 m2) ((max m1.vals.length m2.vals.length) + L)) 0 rfl ?_
   intro R2 hR2 hv0
   refine zX ?_
   refine wx (wx (zY (zU (zQ (zG ?_)))))
   refine yB 0 ?_
   refine WL.call en64 rfl rfl (by decide) (CallOp.mkT rfl rfl rfl rfl) (MadeGLK_C hv0 rfl (by rw [fvals_len]; omega) hmok hcp w0 _) ?_
   rintro _ R4 E4 hR4 ⟨f, fc4, rfl, hf4, hcp4, hsub4⟩
   refine WL.subE hsub4 ?_
   rw [← hmade, ← hun] at hf4 hcp4 ⊢
   unfold cvV
   refine zR 2 rfl ?_
   refine zE 3 ?_
   refine zR 1 rfl (zN (zU (zT ?_)))
   refine zq4 (by first | exact hR1 | exact hR1.trans (hR2.trans hR4)) ?_
   exact ⟨f, fc4, rfl, hf4, hcp4, qS⟩

set_option maxHeartbeats 4000000 in
theorem RaiseG05_C {R : Ro} {fa : Option Addr} {fc : Nat} {c : Cv} (hv : validB c = true) (ha : RS R 1 encI fa c.vals) (hcap : c.vals.length ≤ fc) {k : Int} (hk : 0 ≤ k ∧ k ≤ MAXV) (w0 : World) (E : List Ent) : K.Fn Tryz.prog 56 [.agg #[.slice fa c.vals.length fc, .int .i64 c.per, .int .i64 c.inc], .int .i64 k] w0 R E (fun r R' E' => ∃ (f : Option Addr) (fc : Nat), r = cvV f fc (raiseC c k) ∧ RS R' 1 encI f (raiseC c k).1.vals ∧ (raiseC c k).1.vals.length ≤ fc ∧ E.Sublist E') := by
 have hun : raiseC c k = mbuild (raiseF (normR c) k) (max 1 (stN (normR c))) (normR c).per.toNat (normR c).inc := by unfold raiseC; rw [if_neg (by rw [hv]; decide), if_neg (by omega)]
 have hnv := (norm_valid hv).1
 have hk2 := hk
 unfold MAXV at hk2
 refine fE 57 Tryz.func56 ?_
 refine zQ (zG ?_)
 refine zO fun b2 => ?_
 refine zA fun b4 => ?_
 refine zR 1 rfl (zN (zU (zQ (zG ?_))))
 refine yB 1 ?_
 refine WL.call en91 rfl rfl qD (CallOp.mkT rfl rfl rfl rfl) (Normal02_C hv ha hcap w0 _) ?_
 rintro _ R1 E1 hR1 ⟨f1, k1, rfl, hf1, hsub1⟩
 refine WL.subE hsub1 ?_
 unfold cvV
 generalize normR c = m at *
 obtain ⟨hmade, hmok⟩ := raise_ref hnv hk
 rw [hmade] at hun
 obtain ⟨_, _, s1, p1, p2, p3, p4, p5⟩ := valid_range hnv
 refine zR 3 rfl ?_
 refine zA fun b6 => ?_
 refine zE 0 ?_
 refine zR 1 rfl (zN (zU (zQ (zQ (zG (zR 2 rfl (zN (zU ?_))))))))
 refine cN rfl ?_ ?_ <;> intro hc0
 ·dsimp only at hc0
  (simp at hc0; done)
 ·dsimp only at hc0
  refine zK (zU (zQ (zQ (zG (zR 3 rfl ?_)))))
  refine yP ?_
  refine yP ?_
  refine yO ?_
  refine zN (zU ?_)
  refine cC rfl ?_ ?_ <;> intro hc1
  ·try simp only [zk] at hc1
   omega
  ·try simp only [zk] at hc1
   refine zK (zU (zQ (zG (zR 1 rfl ?_))))
   refine yM 0 ?_
   refine zR 1 rfl ?_
   refine yM 0 ?_
   refine WL.ef rfl rfl qD (Ef.buildSliceD (enc := encI) (parts := [.const (.int .i64 0)]) [_] tab_ok rfl rfl rfl rfl rfl rfl rfl rfl qD qD (fun a30 => ?_))
   refine yW [(1, .tmp 27), (2, .tmp 29), (0, .tmp 30)] ?_
   refine zA fun b8 => ?_
   refine zE 0 ?_
   refine zN (zU (zQ (zQ (zG (zR 1 rfl (zN (zU (zB ?_))))))))
   refine W.loopK (β := Nat × Option Addr × Nat) (fun (t, a9, c9) => 1 ≤ t ∧ t ≤ (m.vals.length + m.per.toNat + 1)) (fun (t, a9, c9) => [(9, true, .int .i64 (t : Int))]) [1, 4, 6, 8] [_, _, _, _] [] _ rfl (fun (t, a9, c9) => [(0, .blk b8 [.slice a9 (fvals (raiseF m k) t).length c9, .int .i64 m.per, .int .i64 m.inc]), (1, .sl 3 1 a9 c9 ((fvals (raiseF m k) t).map encI))]) (fun (t, a9, c9) => (m.vals.length + m.per.toNat + 1) - t) ((1, some ⟨a30, 0, none⟩, 1)) (⟨Nat.le_refl _, by (try dsimp only); omega⟩) ⟨rfl, rfl, rfl, rfl, rfl, rfl⟩ qS ?_
   intro zz hst
   obtain ⟨t, a9, c9⟩ := zz
   dsimp only [zipE, setAll, List.cons_append, List.nil_append, List.set_cons_zero, List.set_cons_succ]
   obtain ⟨ht1, htm⟩ := hst
   have hfl := fvals_len (raiseF m k) t
   refine zQ (zQ (zG (zR 2 rfl ?_)))
   refine yM 2 ?_
   refine zR 2 rfl ?_
   refine yM 2 ?_
   refine yA ?_
   refine yA ?_
   refine zR 1 rfl (zN (zU ?_))
   refine cD rfl ?_ ?_ <;> intro hc2
   ·
    have htn : t < (m.vals.length + m.per.toNat + 1) := by omega
    have b1 := cvF_bound hnv t
    have i1 := isInf_iff hnv (t := t) (by omega)
    have x1 : raiseF m k t = (if cvF m t = INF ∨ k = INF then INF else cvF m t + k) := by
     unfold raiseF
     rw [if_neg (by omega)]
     by_cases h : cvF m t = INF
     ·rw [if_pos (i1.2 h), if_pos (.inl h)]
     ·rw [if_neg (fun x => h (i1.1 x)), if_neg (by rintro (x | x); exact h x; unfold INF at x; omega)]
    have e1 : fvals (raiseF m k) (t + 1) = fvals (raiseF m k) t ++ [(if cvF m t = INF ∨ k = INF then INF else cvF m t + k)] := by rw [fvals_snoc, x1]
    refine zK (zU (zQ (zB ?_)))
    refine W.regionH _ (ES := [.blk b6 [.slice f1 m.vals.length k1, .int .i64 m.per, .int .i64 m.inc]]) mixed ?_
    refine tP 0 ?_
    refine tL 2 (Rd.blk 0 rfl) ?_
    refine tP 3 ?_
    refine tP 5 ?_
    refine WA.br2 (i := 1) (j := 4) qK ?_ ?_
    ·
     refine sL (Rd.add (Rd.blk 0 rfl) _) ?_
     refine WA.callG 4 rfl qK en83 rfl (by first | rfl | decide) rfl qD (CallOp.mkT rfl rfl rfl rfl) (FnV.toFn (AtG_V (fc := k1) hnv hf1 (t := t) qO)) ?_
     rintro _ _ _ - ⟨rfl, rfl, rfl⟩
     refine ⟨qR, qS, ?_⟩
     refine WA.callG 6 rfl qK en92 rfl (by first | rfl | decide) rfl qD (CallOp.mkT rfl rfl rfl rfl) (FnV.toFn (Plus05_V (by unfold INF at *; omega) (.inr ⟨hk2.1, by omega⟩))) ?_
     rintro _ _ _ - ⟨rfl, rfl, rfl⟩
     refine ⟨qR, qS, ?_⟩
     refine WA.eff 7 rfl qK rfl rfl qD (Ef.buildSliceD (enc := encI) (parts := [.tmp 49]) [_] tab_ok rfl rfl rfl rfl rfl rfl rfl rfl qD qD (fun a50 => ?_))
     refine ⟨qR, qS, ?_⟩
     refine WA.eff 8 rfl (by kernel_rfl) rfl rfl (by decide) (Ef.appendD 2 0 tab_ok rfl rfl rfl rfl rfl rfl rfl rfl rfl rfl rfl (fun _ _ => rfl) (by simp only [List.length_cons, List.length_nil]; omega) (by simp only [List.length_cons, List.length_nil]; omega) (fun a51 c51 ha51 => ?_))
     refine ⟨qR, qS, ?_⟩
     refine tP 9 ?_
     refine zCF 10 1 ?_
     refine WA.done qK ?_
     refine zL (zU (zG (zR 1 rfl ?_)))
     refine yA ?_
     refine zR 1 rfl (zN ?_)
     refine WE.again ((t + 1, a51, c51)) (⟨by (try dsimp only); omega, by (try dsimp only); omega⟩) (by (try dsimp only); omega) ⟨rfl, rfl, rfl, rfl, rfl, rfl⟩ (RLe.refl _) (by dsimp only [setAll, List.set_cons_zero, List.set_cons_succ]; rw [e1, List.length_append]; exact qS)
    ·
     refine WS.callG rfl en83 rfl (by first | rfl | decide) rfl qD (CallOp.mkT rfl rfl rfl rfl) (FnV.toFn (AtG_V (fc := k1) hnv hf1 (t := t) qO)) ?_
     rintro _ _ _ - ⟨rfl, rfl, rfl⟩
     refine ⟨qR, qS, ?_⟩
     refine WA.br2 (i := 1) (j := 6) qK ?_ ?_
     ·
      refine sL (Rd.add (Rd.blk 0 rfl) _) ?_
      refine WA.callG 6 rfl qK en92 rfl (by first | rfl | decide) rfl qD (CallOp.mkT rfl rfl rfl rfl) (FnV.toFn (Plus05_V (by unfold INF at *; omega) (.inr ⟨hk2.1, by omega⟩))) ?_
      rintro _ _ _ - ⟨rfl, rfl, rfl⟩
      refine ⟨qR, qS, ?_⟩
      refine WA.eff 7 rfl qK rfl rfl qD (Ef.buildSliceD (enc := encI) (parts := [.tmp 49]) [_] tab_ok rfl rfl rfl rfl rfl rfl rfl rfl qD qD (fun a50 => ?_))
      refine ⟨qR, qS, ?_⟩
      refine WA.eff 8 rfl (by kernel_rfl) rfl rfl (by decide) (Ef.appendD 2 0 tab_ok rfl rfl rfl rfl rfl rfl rfl rfl rfl rfl rfl (fun _ _ => rfl) (by simp only [List.length_cons, List.length_nil]; omega) (by simp only [List.length_cons, List.length_nil]; omega) (fun a51 c51 ha51 => ?_))
      refine ⟨qR, qS, ?_⟩
      refine tP 9 ?_
      refine zCF 10 1 ?_
      refine WA.done qK ?_
      refine zL (zU (zG (zR 1 rfl ?_)))
      refine yA ?_
      refine zR 1 rfl (zN ?_)
      refine WE.again ((t + 1, a51, c51)) (⟨by (try dsimp only); omega, by (try dsimp only); omega⟩) (by (try dsimp only); omega) ⟨rfl, rfl, rfl, rfl, rfl, rfl⟩ (RLe.refl _) (by dsimp only [setAll, List.set_cons_zero, List.set_cons_succ]; rw [e1, List.length_append]; exact qS)
     ·
      refine WS.callG rfl en92 rfl (by first | rfl | decide) rfl qD (CallOp.mkT rfl rfl rfl rfl) (FnV.toFn (Plus05_V (by unfold INF at *; omega) (.inr ⟨hk2.1, by omega⟩))) ?_
      rintro _ _ _ - ⟨rfl, rfl, rfl⟩
      refine ⟨qR, qS, ?_⟩
      refine WA.br2 (i := 1) (j := 7) qK ?_ ?_
      ·
       refine sL (Rd.add (Rd.blk 0 rfl) _) ?_
       refine WA.eff 7 rfl qK rfl rfl qD (Ef.buildSliceD (enc := encI) (parts := [.tmp 49]) [_] tab_ok rfl rfl rfl rfl rfl rfl rfl rfl qD qD (fun a50 => ?_))
       refine ⟨qR, qS, ?_⟩
       refine WA.eff 8 rfl (by kernel_rfl) rfl rfl (by decide) (Ef.appendD 2 0 tab_ok rfl rfl rfl rfl rfl rfl rfl rfl rfl rfl rfl (fun _ _ => rfl) (by simp only [List.length_cons, List.length_nil]; omega) (by simp only [List.length_cons, List.length_nil]; omega) (fun a51 c51 ha51 => ?_))
       refine ⟨qR, qS, ?_⟩
       refine tP 9 ?_
       refine zCF 10 1 ?_
       refine WA.done qK ?_
       refine zL (zU (zG (zR 1 rfl ?_)))
       refine yA ?_
       refine zR 1 rfl (zN ?_)
       refine WE.again ((t + 1, a51, c51)) (⟨by (try dsimp only); omega, by (try dsimp only); omega⟩) (by (try dsimp only); omega) ⟨rfl, rfl, rfl, rfl, rfl, rfl⟩ (RLe.refl _) (by dsimp only [setAll, List.set_cons_zero, List.set_cons_succ]; rw [e1, List.length_append]; exact qS)
      ·
       refine WS.eff rfl rfl rfl qD (Ef.buildSliceD (enc := encI) (parts := [.tmp 49]) [_] tab_ok rfl rfl rfl rfl rfl rfl rfl rfl qD qD (fun a50 => ?_))
       refine ⟨qR, qS, ?_⟩
       refine lL 1 (Rd.add (Rd.blk 1 rfl) _) ?_
       refine WA.eff 8 rfl (by kernel_rfl) rfl rfl (by decide) (Ef.appendD 2 0 tab_ok rfl rfl rfl rfl rfl rfl rfl rfl rfl rfl rfl (fun _ _ => rfl) (by simp only [List.length_cons, List.length_nil]; omega) (by simp only [List.length_cons, List.length_nil]; omega) (fun a51 c51 ha51 => ?_))
       refine ⟨qR, qS, ?_⟩
       refine tP 9 ?_
       refine zCF 10 1 ?_
       refine WA.done qK ?_
       refine zL (zU (zG (zR 1 rfl ?_)))
       refine yA ?_
       refine zR 1 rfl (zN ?_)
       refine WE.again ((t + 1, a51, c51)) (⟨by (try dsimp only); omega, by (try dsimp only); omega⟩) (by (try dsimp only); omega) ⟨rfl, rfl, rfl, rfl, rfl, rfl⟩ (RLe.refl _) (by dsimp only [setAll, List.set_cons_zero, List.set_cons_succ]; rw [e1, List.length_append]; exact qS)
   ·
    obtain rfl : t = (m.vals.length + m.per.toNat + 1) := by omega
    refine W.cap 1 rfl ?_
    intro hcp
    rw [List.length_map] at hcp
    refine W.freeze (enc := encI) (xs := fvals (raiseF m k) (m.vals.length + m.per.toNat + 1)) 1 rfl ?_
    intro R2 hR2 hv0
    refine zX ?_
    refine wx (wx (zY (zU (zQ (zG ?_)))))
    refine yB 0 ?_
    refine WL.call en64 rfl rfl (by decide) (CallOp.mkT rfl rfl rfl rfl) (MadeGLK_C hv0 rfl (by rw [fvals_len]; omega) hmok (by first | exact hcp | (rw [fvals_len]; exact hcp)) w0 _) ?_
    rintro _ R4 E4 hR4 ⟨f, fc4, rfl, hf4, hcp4, hsub4⟩
    refine WL.subE hsub4 ?_
    rw [← hun] at hf4 hcp4 ⊢
    unfold cvV
    refine zR 2 rfl ?_
    refine zE 2 ?_
    refine zR 1 rfl (zN (zU (zT ?_)))
    refine zq4 (hR1.trans (hR2.trans hR4)) ?_
    exact ⟨f, fc4, rfl, hf4, hcp4, qS⟩
set_option maxHeartbeats 2000000 in
theorem TotalG05_C {R : Ro} {la : Option Addr} {lc l : Nat} {ls : List CvS} (hl : ls.length = l) (hla : RS R 3 encC la ls) (hls : ∀ x ∈ ls, RS R 1 encI x.a x.cv.vals ∧ validB x.cv = true ∧ x.cv.vals.length ≤ x.cap) (w0 : World) (E : List Ent) : K.Fn Tryz.prog 55 [.slice la l lc] w0 R E (fun r R' E' => ∃ (f : Option Addr) (fc : Nat), r = cvV f fc (totalC (ls.map CvS.cv)) ∧ RS R' 1 encI f (totalC (ls.map CvS.cv)).1.vals ∧ (totalC (ls.map CvS.cv)).1.vals.length ≤ fc ∧ E.Sublist E') := by
 subst hl
 have hll := hla.len
 have hz0 : flatC 0 = (zeroC, 0) := flat_zero
 refine fE 34 Tryz.func55 ?_
 refine zQ (zG ?_)
 refine zA fun b2 => ?_
 refine zR 1 rfl (zN (zU (zQ (zG ?_))))
 refine WL.call en89 rfl rfl qD (CallOp.mkT rfl rfl rfl rfl) (Flat02K_C (k := 0) qD w0 _) ?_
 rintro _ R1 _ hR1 ⟨fz, fzc, rfl, hfz, hcz, hsub⟩
 refine WL.subE hsub ?_
 rw [hz0] at hfz hcz ⊢
 unfold cvV
 dsimp only at hfz hcz ⊢
 refine zR 3 rfl ?_
 refine zA fun b4 => ?_
 refine zE 0 ?_
 refine zR 1 rfl (zN (zU (zQ (zQ (zG (zR 1 rfl (zN (zU (zB ?_)))))))))
 refine W.loopR (β := Nat × Cv × Option Addr × Nat × Ro) (fun (i, s, sa, sc, Rk) => i ≤ ls.length ∧ RLe R1 Rk ∧ Nrm s ∧ RS Rk 1 encI sa s.vals ∧ s.vals.length ≤ sc ∧ totalC (ls.map CvS.cv) = totalGo s ((ls.map CvS.cv).drop i)) (fun (i, s, sa, sc, Rk) => [(6, true, .int .i64 (i : Int))]) [0, 2, 4] [_, _, _] [] _ rfl (fun (i, s, sa, sc, Rk) => [(0, .blk b4 [.slice sa s.vals.length sc, .int .i64 s.per, .int .i64 s.inc])]) (fun (i, s, sa, sc, Rk) => Rk) (fun (i, s, sa, sc, Rk) => ls.length - i) ((0, zeroC, fz, fzc, R1)) (⟨Nat.zero_le _, RLe.refl _, zero_nrm, hfz, hcz, rfl⟩) ⟨rfl, rfl, rfl, rfl, rfl⟩ (RLe.refl _) qS ?_
 intro zz hst
 obtain ⟨i, s, sa, sc, Rk⟩ := zz
 dsimp only [zipE, setAll, List.cons_append, List.nil_append, List.set_cons_zero, List.set_cons_succ]
 obtain ⟨hi, hRk, hns, hsa, hsc, htot⟩ := hst
 have hla := hla.mono (hR1.trans hRk)
 refine zQ (zQ (zG (zR 4 rfl (zN (zU ?_)))))
 refine cD rfl ?_ ?_ <;> intro hc0
 ·
  have hil : i < ls.length := by omega
  have hxi := hls _ (nth_mem hil)
  have hvx := hxi.2.1
  have hxa := hxi.1.mono (hR1.trans hRk)
  refine zK (zU (zQ (zB ?_)))
  refine W.seqCut (β := Nat × Option Addr × Nat × Ro) (fun (b7, fr, frc, R2) => RLe Rk R2 ∧ RS R2 1 encI fr (sumC s (nth ls i).cv).1.vals ∧ (sumC s (nth ls i).cv).1.vals.length ≤ frc) (fun (b7, fr, frc, R2) => [(0, true, .slice la ls.length lc), (2, true, .pointer (some ⟨b2, 0, none⟩)), (4, true, .pointer (some ⟨b4, 0, none⟩)), (6, true, .int .i64 (i : Int)), (7, true, .pointer (some ⟨b7, 0, none⟩)), (8, true, .int .i64 (sumC s (nth ls i).cv).2)]) (fun (b7, fr, frc, R2) => R2) (fun (b7, fr, frc, R2) => .blk b7 [.slice fr (sumC s (nth ls i).cv).1.vals.length frc, .int .i64 (sumC s (nth ls i).cv).1.per, .int .i64 (sumC s (nth ls i).cv).1.inc] :: .blk b4 [.slice sa s.vals.length sc, .int .i64 s.per, .int .i64 s.inc] :: .blk b2 [.slice none 0 0, .int .i64 0, .int .i64 0] :: E) ?_ ?_
  ·
   intro yy hst
   obtain ⟨b7, fr, frc, R2⟩ := yy
   obtain ⟨hR2, hfr, hcr⟩ := hst
   dsimp only at hR2 hfr hcr ⊢
   have hgo : totalC (ls.map CvS.cv) = if (sumC s (nth ls i).cv).2 ≠ 0 then (zcv, (sumC s (nth ls i).cv).2) else totalGo (sumC s (nth ls i).cv).1 ((ls.map CvS.cv).drop (i + 1)) := by
    rw [htot, drop_map_cons hil]
    rfl
   have hsr := sum_res hns.valid hvx
   generalize sumC s (nth ls i).cv = sr at hfr hcr hgo hsr ⊢
   obtain ⟨sv, se⟩ := sr
   dsimp only at hfr hcr hgo hsr ⊢
   refine zQ (zQ (zG (zR 2 rfl (zN (zU ?_)))))
   refine cN rfl ?_ ?_ <;> intro hc1
   ·
    have hd : totalC (ls.map CvS.cv) = (zcv, se) := by rw [hgo, if_pos hc1]
    refine zQ (zG ?_)
    refine yW [] ?_
    refine zR 1 rfl ?_
    refine zE 2 ?_
    refine zR 1 rfl (zN (zU (zT (wt (wb (wt (wt (wb (wt ?_)))))))))
    refine zq4 (by first | exact hR1.trans (hRk.trans hR2) | exact hR1.trans hRk) ?_
    exact ⟨none, 0, by rw [hd]; rfl, by rw [hd]; exact rs_nil, by rw [hd]; exact Nat.le_refl _, qS⟩
   ·
    have hd2 : totalC (ls.map CvS.cv) = totalGo sv ((ls.map CvS.cv).drop (i + 1)) := by rw [hgo, if_neg (fun h => h hc1)]
    obtain ⟨rfl, hnsv⟩ : se = 0 ∧ Nrm sv := by
     rcases hsr with h | ⟨c, h1, h2, _⟩
     ·have := congrArg Prod.snd h; dsimp only at this; omega
     ·have e1 := congrArg Prod.fst h1
      have e2 := congrArg Prod.snd h1
      dsimp only at e1 e2
      exact ⟨e2, by rw [e1]; exact h2⟩
    refine zK (zU (zG ?_))
    refine yB 0 ?_
    refine zE 1 ?_
    refine zN (zL (zU (zG (zR 1 rfl ?_))))
    refine yA ?_
    refine zR 1 rfl (zN ?_)
    refine WE.again ((i + 1, sv, fr, frc, R2)) (⟨by dsimp only; omega, hRk.trans hR2, hnsv, hfr, hcr, hd2⟩) (by (try dsimp only); omega) ⟨rfl, rfl, rfl, rfl, rfl⟩ (RLe.refl _) qS
  ·
   refine W.regionH _ (ES := [.blk b4 [.slice sa s.vals.length sc, .int .i64 s.per, .int .i64 s.inc]]) mixed ?_
   refine tL 0 (Rd.blk 0 rfl) ?_
   refine tP 1 ?_
   refine tP 2 ?_
   refine tI 3 ?_
   refine tD 4 (r := by ((apply RS.rdD; assumption; ((try dsimp only) <;> omega)))) (k := ?_)
   refine WA.br2 (i := 5) (j := 9) qK ?_ ?_
   ·
    refine WS.callG rfl en90 rfl (by first | rfl | decide) rfl qD (CallOp.mkT rfl rfl rfl rfl) (SumG05_C hns.valid hsa hsc hvx hxa hxi.2.2 w0 _) ?_
    rintro _ R2 _ hR2 ⟨fr, frc, rfl, hfr, hcr, hsub⟩
    refine ⟨hR2, List.Sublist.trans qS hsub, ?_⟩
    refine WA.subE hsub ?_
    unfold cvV
    refine tP 6 ?_
    refine tP 7 ?_
    refine tP 8 ?_
    refine WA.eff 9 rfl qK rfl rfl qD (Ef.alloc tab_ok rfl rfl (fun b7 => ?_))
    refine ⟨qR, qS, ?_⟩
    refine zCE 10 0 ?_
    refine tP 11 ?_
    refine WA.done qK ?_
    refine WE.cut (b7, fr, frc, R2) ⟨hR2, hfr, hcr⟩ ⟨rfl, rfl, rfl, rfl, rfl, rfl, rfl⟩ (RLe.refl _) qS
   ·
    refine WS.eff rfl rfl rfl qD (Ef.alloc tab_ok rfl rfl (fun b7 => ?_))
    refine ⟨qR, qS, ?_⟩
    refine WA.callG 5 rfl qK en90 rfl (by first | rfl | decide) rfl qD (CallOp.mkT rfl rfl rfl rfl) (SumG05_C hns.valid hsa hsc hvx hxa hxi.2.2 w0 _) ?_
    rintro _ R2 _ hR2 ⟨fr, frc, rfl, hfr, hcr, hsub⟩
    refine ⟨hR2, List.Sublist.trans qS hsub, ?_⟩
    refine WA.subE hsub ?_
    unfold cvV
    refine tP 6 ?_
    refine tP 7 ?_
    refine tP 8 ?_
    refine zCE 10 0 ?_
    refine tP 11 ?_
    refine WA.done qK ?_
    refine WE.cut (b7, fr, frc, R2) ⟨hR2, hfr, hcr⟩ ⟨rfl, rfl, rfl, rfl, rfl, rfl, rfl⟩ (RLe.refl _) qS
 ·
  obtain rfl : i = ls.length := by omega
  have hd : totalC (ls.map CvS.cv) = (s, 0) := by rw [htot, List.drop_eq_nil_of_le (by simp)]; rfl
  refine zX ?_
  refine wx (wx (zY (zU (zQ (zG ?_)))))
  refine yB 0 ?_
  refine zE 1 ?_
  refine zR 1 rfl (zN (zU (zT ?_)))
  refine zq4 (by first | exact hR1.trans (hRk.trans hR2) | exact hR1.trans hRk) ?_
  exact ⟨sa, sc, by rw [hd]; rfl, by rw [hd]; exact hsa, by rw [hd]; exact hsc, qS⟩

theorem lcm_line {cap : Int} {b : Cv} : lcmC (lineC cap) b = b.per.toNat := by
 unfold lcmC lcmN lineC
 simp
theorem drift_line {cap : Int} {b : Cv} (hb : validB b = true) : driftG (lineC cap) b = driftL cap b := by
 obtain ⟨_, _, _, p1, _⟩ := valid_range hb
 unfold driftG gainC driftL
 rw [lcm_line, Int.toNat_of_nonneg (by omega), Int.ediv_self (by omega)]
 unfold lineC
 simp
theorem DiffL06_V {R : Ro} {a1 : Option Addr} {c1 : Nat} {cap : Int} (hcap : 1 ≤ cap ∧ cap ≤ 4000) (hx1 : RS R 1 encI a1 (lineC cap).vals) {a2 : Option Addr} {c2 : Nat} {b : Cv} (hvb : validB b = true) (hx2 : RS R 1 encI a2 b.vals) {t : Nat} (ht : t ≤ 10000) : FnV Tryz.prog 93 [.agg #[.slice a1 (lineC cap).vals.length c1, .int .i64 (lineC cap).per, .int .i64 (lineC cap).inc], .agg #[.slice a2 b.vals.length c2, .int .i64 b.per, .int .i64 b.inc], .int .i64 (t : Int)] R (.int .i64 (max 0 (rawL cap b t))) := by
 refine Fn.toV (fun w0 E => ?_)
 obtain ⟨hln, hlcv, hlf, hls⟩ := line_facts (cap := cap) (by omega)
 have hlnn : normR (lineC cap) = lineC cap := hln.norm
 have hbb := cvF_bound hvb t
 have i1 := isInf_iff hvb (t := t) (by omega)
 have hm := mulB (a := cap) (b := (t : Int)) (A := 4000) (B := 10000) (by omega) (by omega)
 have hlt : cvF (lineC cap) t = cap * (t : Int) := by rw [hlcv]
 unfold INF at hbb
 refine fE 25 Tryz.func93 ?_
 refine zQ (zG ?_)
 refine zO fun b3 => ?_
 refine zO fun b4 => ?_
 refine zR 1 rfl (zN (zU (zQ ?_)))
 refine W.regionQ _ mixed qK ?_
 refine yB 1 ?_
 refine zR 1 rfl ?_
 refine WG.callV (v := .int .i64 (cap * (t : Int))) en83 rfl rfl (by decide) (CallOp.mk' rfl rfl rfl rfl) (fun _ => rfl) (fun hg => by have h := AtG_V (fc := c1) hln.valid hx1 (t := t) (by omega); rw [hlt] at h; exact h) ?_
 refine yB 0 ?_
 refine zR 1 rfl ?_
 refine WG.callV (v := .int .i64 (cvF b t)) en83 rfl rfl qD (CallOp.mk' rfl rfl rfl rfl) (fun _ => rfl) (fun hg => AtG_V hvb hx2 qO) ?_
 refine zR 2 rfl (zN (zU (zQ (zB (zQ (zG (zR 3 rfl (zN (zU ?_)))))))))
 refine cE rfl ?_ ?_ <;> intro hc0
 ·
  have hr : rawL cap b t = 0 := if_pos (i1.2 hc0)
  refine zQ (zG (zR 1 rfl (zN (zU (zT (wb (wt ?_)))))))
  refine sE (E := E) ?_
  refine zr1 ?_
  exact ⟨by rw [hr]; rfl, rfl⟩
 ·
  have hr : rawL cap b t = cap * (t : Int) - cvF b t := if_neg (fun h => hc0 (i1.1 h))
  have hr2 : max 0 (rawL cap b t) = if 0 < cap * (t : Int) - cvF b t then cap * (t : Int) - cvF b t else 0 := by rw [hr]; split <;> omega
  refine zQ (zG (zR 3 rfl (zN (zU ?_))))
  refine cE rfl ?_ ?_ <;> intro hc1
  ·
   exfalso; omega
  ·
   refine zK (zL (zU (zQ (zG (zR 2 rfl ?_)))))
   refine yS ?_
   refine zR 2 rfl (zN (zU (zT ?_)))
   refine sE (E := E) ?_
   refine zr1 ?_
   exact ⟨by rw [hr2]; rfl, rfl⟩
set_option maxHeartbeats 1000000 in
theorem RestR06_C {R : Ro} {la : Option Addr} {lc : Nat} {cap : Int} (hcap : 1 ≤ cap ∧ cap ≤ 4000) (hla : RS R 1 encI la (lineC cap).vals) {ga : Option Addr} {gc : Nat} {cg : Cv} (hvg : validB cg = true) (hb : RS R 1 encI ga cg.vals) (hlc : (lineC cap).vals.length ≤ lc) (hgc : cg.vals.length ≤ gc) (w0 : World) (E : List Ent) : K.Fn Tryz.prog 59 [.agg #[.slice la (lineC cap).vals.length lc, .int .i64 (lineC cap).per, .int .i64 (lineC cap).inc], .agg #[.slice ga cg.vals.length gc, .int .i64 cg.per, .int .i64 cg.inc]] w0 R E (fun r R' E' => ∃ (f : Option Addr) (fc : Nat), r = cvV f fc (restC cap cg) ∧ RS R' 1 encI f (restC cap cg).1.vals ∧ (restC cap cg).1.vals.length ≤ fc ∧ E.Sublist E') := by
 obtain ⟨hln, hlcv, hlf, hls⟩ := line_facts (cap := cap) (by omega)
 have hlnn : normR (lineC cap) = lineC cap := hln.norm
 have hun := rest_ref (cap := cap) (g := cg) (by omega) hvg
 have hnv := (norm_valid hvg).1
 refine fE 83 Tryz.func59 ?_
 refine zQ (zG ?_)
 refine zO fun b2 => ?_
 refine zO fun b3 => ?_
 refine zA fun b4 => ?_
 refine zR 1 rfl (zN (zU (zQ (zG ?_))))
 refine yB 2 ?_
 refine yB 1 ?_
 refine WL.call en78 rfl rfl qD (CallOp.mkT rfl rfl rfl rfl) (Pair05_C hln.valid hla hlc hvg hb hgc w0 _) ?_
 rintro _ R1 E1 hR1 ⟨f1, k1, f2, k2, rfl, hf1, hf2, hsub1⟩
 refine WL.subE hsub1 ?_
 rw [hlnn] at hf1 ⊢
 unfold restQ at hun
 generalize normR cg = m at *
 obtain ⟨_, _, s1, p1, p2, p3, p4, p5⟩ := valid_range hnv
 have hnoL : ¬ 120 < lcmC (lineC cap) m := by rw [lcm_line]; omega
 have hper : ((m.per.toNat : Nat) : Int) = m.per := by omega
 rw [if_neg hnoL, if_neg hnoL, lcm_line, hper]
 have hbd : ∀ t, t ≤ 10000 → 0 ≤ restF cap m t ∧ restF cap m t ≤ 4000 * 10000 := fun t ht => by
  have h1 := restF_bound (cap := cap) (by omega) hnv t
  have h3 := mulB (a := cap) (b := (t : Int)) (A := 4000) (B := 10000) (by omega) (by omega)
  omega
 refine zR 5 rfl ?_
 refine zA fun b6 => ?_
 refine zA fun b7 => ?_
 refine zE 1 ?_
 refine zE 0 ?_
 refine zR 2 rfl (zN (zU (zQ (zQ (zG (zR 2 rfl (zN (zU ?_))))))))
 refine cN rfl ?_ ?_ <;> intro hc0
 ·
  (simp at hc0; done)
 ·
  refine zK (zU (zQ (zG (zR 1 rfl (zN (zU (zQ (zG (zR 1 rfl (zN (zU (zQ ?_))))))))))))
  refine W.nil 3 1 qD ?_
  refine zQ (zG (zR 1 rfl (zN (zU (zB ?_)))))
  refine W.loopK (β := Nat × Option Addr × Nat) (fun (t, a10, c10) => t ≤ (400 + m.per.toNat) + 1) (fun (t, a10, c10) => [(10, true, .slice a10 (fvals (restF cap m) t).length c10), (11, true, .int .i64 (mostF (rawL cap m) t)), (12, true, .int .i64 (t : Int))]) [4, 6, 7, 8] [_, _, _, _] [] _ rfl (fun (t, a10, c10) => [(0, .sl 3 1 a10 c10 ((fvals (restF cap m) t).map encI))]) (fun (t, a10, c10) => (400 + m.per.toNat) + 1 - t) ((0, none, 0)) (Nat.zero_le _) ⟨rfl, rfl, rfl, rfl, rfl, rfl, rfl, rfl⟩ qS ?_
  intro st hst
  obtain ⟨t, a10, c10⟩ := st
  dsimp only [zipE, setAll, List.cons_append, List.nil_append, List.set_cons_zero, List.set_cons_succ]
  have hfl := fvals_len (restF cap m) t
  refine zQ (zQ (zG (zR 2 rfl ?_)))
  refine yA ?_
  refine zR 1 rfl (zN (zU ?_))
  refine cD rfl ?_ ?_ <;> intro hc1
  ·
   have htn : t ≤ (400 + m.per.toNat) := by omega
   have hb1 := hbd t (by omega)
   have hbt : restF cap m t = max (mostF (rawL cap m) t) (rawL cap m t) := rfl
   have hmn := mostF_nonneg (f := rawL cap m) t
   have hmx : (if (mostF (rawL cap m) t) < max 0 (rawL cap m t) then max 0 (rawL cap m t) else (mostF (rawL cap m) t)) = restF cap m t := by rw [hbt]; split <;> omega
   have e1 : fvals (restF cap m) (t + 1) = fvals (restF cap m) t ++ [restF cap m t] := fvals_snoc _ _
   refine zK (zU (zQ (zB (zQ (zG (zR 1 rfl ?_))))))
   refine yB 2 ?_
   refine yB 1 ?_
   refine zR 1 rfl ?_
   refine WG.callV en93 rfl rfl qD (CallOp.mk' rfl rfl rfl rfl) (fun _ => rfl) (fun hg => DiffL06_V hcap hf1 hnv hf2 qO) ?_
   refine zR 2 rfl ?_
   rw [hmx]
   refine zN (zU (zG (zR 2 rfl ?_)))
   refine WL.ef rfl rfl qD (Ef.buildSliceD (enc := encI) (parts := [.tmp 39]) [_] tab_ok rfl rfl rfl rfl rfl rfl rfl rfl qD qD (fun a40 => ?_))
   refine WL.ef rfl rfl (by decide) (Ef.appendD 1 0 tab_ok rfl rfl rfl rfl rfl rfl rfl rfl rfl rfl rfl (fun _ _ => rfl) (by simp only [List.length_cons, List.length_nil]; omega) (by simp only [List.length_cons, List.length_nil]; omega) (fun a41 c41 ha41 => ?_))
   refine zR 1 rfl (zN (zL (zU (zG (zR 1 rfl ?_)))))
   refine yA ?_
   refine zR 1 rfl (zN ?_)
   refine WE.again ((t + 1, a41, c41)) (by (try dsimp only); omega) (by (try dsimp only); omega) ⟨by rw [e1, List.length_append]; rfl, rfl, rfl, rfl, rfl, rfl, rfl, rfl⟩ (RLe.refl _) (by dsimp only [setAll, List.set_cons_zero, List.set_cons_succ]; rw [e1]; exact qS)
  ·
   obtain rfl : t = (400 + m.per.toNat) + 1 := by omega
   have hbl : mostF (rawL cap m) ((400 + m.per.toNat) + 1) = restF cap m (400 + m.per.toNat) := rfl
   rw [hbl]
   have hbe := hbd (400 + m.per.toNat) (by omega)
   have hb4 := hbd 400 (by omega)
   refine W.cap 0 rfl ?_
   intro hcp
   rw [List.length_map] at hcp
   refine W.freeze (enc := encI) (xs := fvals (restF cap m) ((400 + m.per.toNat) + 1)) 0 rfl ?_
   intro R2 hR2 hv0
   have hfl := fvals_len (restF cap m) ((400 + m.per.toNat) + 1)
   have hf1 := hf1.mono hR2
   have hf2 := hf2.mono hR2
   refine zX ?_
   refine wx (wx (zY (zU (zQ (zG (zR 3 rfl ?_))))))
   refine yA ?_
   refine WG.y rfl rfl qD (Yl.sliceH tab_ok rfl rfl rfl rfl rfl (fun _ => rfl) (by intro _; omega) rfl) ?_
   rw [show ((400 : Int) + m.per).toNat = (400 + m.per.toNat) by omega]
   refine yW [(1, .tmp 42), (0, .tmp 46)] ?_
   refine zA fun b13 => ?_
   refine zE 0 ?_
   refine zN (zU (zQ (zQ (zG (zR 2 rfl (zN (zU ?_)))))))
   refine cE rfl ?_ ?_ <;> intro hc2
   ·
    omega
   ·
    refine zK (zU ?_)
    refine W.seqCut (β := Unit) (fun _u => True) (fun _u => [(4, true, .pointer (some ⟨b4, 0, none⟩)), (8, true, .int .i64 m.per), (10, true, .slice a10 (fvals (restF cap m) ((400 + m.per.toNat) + 1)).length c10), (13, true, .pointer (some ⟨b13, 0, none⟩))]) (fun _ => R2) (fun _ => .blk b13 [.slice a10 (400 + m.per.toNat) c10, .int .i64 m.per, .int .i64 (gainL cap m)] :: .blk b7 [.slice f2 m.vals.length k2, .int .i64 m.per, .int .i64 m.inc] :: .blk b6 [.slice f1 (lineC cap).vals.length k1, .int .i64 (lineC cap).per, .int .i64 (lineC cap).inc] :: .blk b4 [.slice none 0 0, .int .i64 0, .int .i64 0] :: E) ?_ ?_
    ·
     intro _u hst
     have hgl : 0 ≤ gainL cap m ∧ gainL cap m ≤ 1000000 := by
      unfold gainL driftL
      have := mulB (a := m.per) (b := cap) (A := 120) (B := 4000) (by omega) (by omega)
      split <;> omega
     refine zQ (zQ ?_)
     refine W.regionQ _ mixed qK ?_
     refine zR 2 rfl ?_
     refine yA ?_
     rw [show (400 : Int) + m.per = (((400 + m.per.toNat) : Nat) : Int) by omega]
     refine yI ?_
     refine yD (r := by ((apply RS.rdD; assumption; ((try dsimp only) <;> omega)))) (k := ?_)
     rw [fvals_nth (restF cap m) (show (400 + m.per.toNat) < (400 + m.per.toNat) + 1 by omega)]
     refine zR 1 rfl ?_
     refine yX ?_
     refine yD (r := by ((apply RS.rdD; assumption; ((try dsimp only) <;> omega)))) (k := ?_)
     rw [show ((400 : Int)).toNat = 400 from rfl, fvals_nth (restF cap m) (show 400 < (400 + m.per.toNat) + 1 by omega)]
     refine zR 1 rfl ?_
     refine yM 0 ?_
     refine yA ?_
     refine zR 1 rfl (zN (zU ?_))
     refine cN rfl ?_ ?_ <;> intro hc3
     ·
      rw [if_pos hc3] at hun
      refine zQ (zG ?_)
      refine yW [] ?_
      refine zE 3 ?_
      refine zR 1 rfl (zN (zU (zT (wt ?_))))
      refine zq4 (by first | exact hR1 | exact hR1.trans (hR2.trans hR4) | exact hR1.trans hR2) ?_
      exact ⟨none, 0, by rw [hun]; rfl, by rw [hun]; exact rs_nil, by rw [hun]; exact Nat.le_refl _, qS⟩
     ·
      have hc3e := hc3
      rw [if_neg (fun h => h hc3)] at hun
      have htk : (fvals (restF cap m) ((400 + m.per.toNat) + 1)).take (400 + m.per.toNat) = fvals (restF cap m) (400 + m.per.toNat) := by rw [fvals_snoc, List.take_left' (fvals_len _ _)]
      have hv1 := hv0.take (400 + m.per.toNat)
      rw [htk] at hv1
      have hmk2 := rest_madeOk (cap := cap) (by omega) hnv (fun h => h hc3)
      refine zK (zU (zQ (zG ?_)))
      refine yB 0 ?_
      refine WL.call en64 rfl rfl (by decide) (CallOp.mkT rfl rfl rfl rfl) (MadeGLK_C hv1 (fvals_len _ _) (by omega) hmk2 (by rw [hfl] at hcp; omega) w0 _) ?_
      rintro _ R4 E4 hR4 ⟨f, fc4, rfl, hf4, hcp4, hsub4⟩
      refine WL.subE hsub4 ?_
      rw [← hun] at hf4 hcp4 ⊢
      unfold cvV
      refine zR 2 rfl ?_
      refine zE 3 ?_
      refine zR 1 rfl (zN (zU (zT ?_)))
      refine zq4 (by first | exact hR1 | exact hR1.trans (hR2.trans hR4) | exact hR1.trans hR2) ?_
      exact ⟨f, fc4, rfl, hf4, hcp4, qS⟩
    ·
     refine zQ (zG ?_)
     refine yB 2 ?_
     refine WG.callV (v := .bool true) en79 rfl rfl (by decide) (CallOp.mk' rfl rfl rfl rfl) (fun _ => rfl) (fun hg => by have h := FiniteG_V (fc := k1) hln.valid hf1; rw [hlf] at h; exact h) ?_
     refine zR 1 rfl ?_
     refine yG (Rd.blkC 1 rfl) ?_
     refine WG.callV (v := .bool (finB m)) en79 rfl rfl qD (CallOp.mk' rfl rfl rfl rfl) qE (fun hg => FiniteG_V hnv hf2) ?_
     refine yN ?_
     refine zN (zU ?_)
     refine cC rfl ?_ ?_ <;> intro hc4
     ·try simp only [zk] at hc4
      refine zG ?_
      refine yB 2 ?_
      refine yB 1 ?_
      refine zR 1 rfl ?_
      refine WG.callV (v := .int .i64 (driftL cap m)) en94 rfl rfl (by decide) (CallOp.mk' rfl rfl rfl rfl) (fun _ => rfl) (fun hg => by have h := Slopes05_V (c1 := k1) (c2 := k2) hln.valid hf1 hnv hf2 (L := lcmC (lineC cap) m) (by rw [lcm_line]; omega); rw [show ((lcmC (lineC cap) m : Nat) : Int) = m.per by rw [lcm_line, hper], show gainC (lineC cap) (lcmC (lineC cap) m) - gainC m (lcmC (lineC cap) m) = driftL cap m from drift_line hnv] at h; exact h) ?_
      refine zR 2 rfl ?_
      refine zF 0 ?_
      refine zN ?_
      have hg1 : gainL cap m = max 0 (driftL cap m) := if_pos (by simpa using hc4)
      rw [show (if (0 : Int) < driftL cap m then driftL cap m else 0) = gainL cap m by rw [hg1]; split <;> omega]
      refine WE.cut () trivial ⟨rfl, rfl, rfl, rfl, rfl⟩ (RLe.refl _) qS
     ·try simp only [zk] at hc4
      refine zK ?_
      have hg0 : gainL cap m = 0 := if_neg (by simpa using hc4)
      refine WE.cut () trivial ⟨rfl, rfl, rfl, rfl, rfl⟩ (RLe.refl _) (by rw [hg0]; exact qS)

theorem Valid18_V {R : Ro} {la : Option Addr} {lc : Nat} {ls : List CvS} (hla : RS R 3 encC la ls) (hls : ∀ x ∈ ls, RS R 1 encI x.a x.cv.vals ∧ x.cv.vals.length ≤ 100000 ∧ x.cv.vals.length ≤ x.cap) : FnV Tryz.prog 53 [.slice la ls.length lc] R (.bool (allV (ls.map CvS.cv))) := by
 have hll := hla.len
 refine Fn.toV (fun w0 E => ?_)
 refine fE 16 Tryz.func53 ?_
 refine zQ (zG (zR 1 rfl (zN (zU (zQ (zQ (zG (zR 1 rfl (zN (zU (zB ?_)))))))))))
 refine W.loopK (β := Nat) (fun i => i ≤ ls.length ∧ ∀ j, j < i → validB (nth ls j).cv = true) (fun i => [(3, true, .int .i64 (i : Int))]) [0] [_] [] _ rfl (fun i => []) (fun i => ls.length - i) (0) (⟨Nat.zero_le _, fun j hj => by omega⟩) ⟨rfl, rfl, rfl⟩ qS ?_
 intro i hst
 refine zQ (zQ (zG (zR 4 rfl (zN (zU ?_)))))
 refine cD rfl ?_ ?_ <;> intro hc0
 ·
  have hil : i < ls.length := by omega
  refine zK (zU (zQ (zB (zQ (zG (zR 2 rfl ?_))))))
  refine yI ?_
  refine yD (r := by ((apply RS.rdD; assumption; ((try dsimp only) <;> omega)))) (k := ?_)
  refine WG.callV (v := .bool (validB (nth ls i).cv)) en88 rfl rfl qD (CallOp.mk' rfl rfl rfl rfl) (fun _ => rfl) (fun hg => ValidA_V (c := (nth ls i).cap) (hls _ (nth_mem (xs := ls) (k := i) qO)).1) ?_
  refine zR 1 rfl (zN (zU ?_))
  refine cC rfl ?_ ?_ <;> intro hc1
  ·try simp only [zk] at hc1
   have hno : allV (ls.map CvS.cv) = false := by
    rw [← Bool.not_eq_true, allV_iff]
    intro h
    have := h _ (List.mem_map_of_mem (nth_mem hil))
    simp [this] at hc1
   refine zQ (zG (zR 1 rfl (zN (zU (zT (wb (wt (wt (wb (wt ?_))))))))))
   refine sE (E := E) ?_
   refine zr1 ?_
   exact ⟨by rw [hno]; rfl, rfl⟩
  ·try simp only [zk] at hc1
   have hvi : validB (nth ls i).cv = true := by simpa using hc1
   refine zK (zL (zU (zG (zR 1 rfl ?_))))
   refine yA ?_
   refine zR 1 rfl (zN ?_)
   refine WE.again (i + 1) (⟨by omega, fun j hj => by
    by_cases e : j = i
    ·subst e; exact hvi
    ·exact hst.2 j (by omega)⟩) (by (try dsimp only); omega) ⟨rfl, rfl, rfl⟩ (RLe.refl _) qS
 ·
  obtain rfl : i = ls.length := by omega
  have hav : allV (ls.map CvS.cv) = true := allV_iff.2 (fun c hc => by
   obtain ⟨x, hx, rfl⟩ := List.mem_map.1 hc
   obtain ⟨j, hj, rfl⟩ := List.getElem_of_mem hx
   have := hst.2 j hj
   rw [nth_eq hj] at this
   exact this)
  refine zX ?_
  refine wx (wx (zY (zU (zQ (zG (zR 1 rfl (zN (zU (zT ?_)))))))))
  refine sE (E := E) ?_
  refine zr1 ?_
  exact ⟨by rw [hav]; rfl, rfl⟩
theorem Block18_V {R : Ro} {za : Option Addr} {zc : Nat} {z : List Sz} (hzr : RS R 2 encZ za z) {k : Nat} (hk : k < z.length ∧ z.length ≤ 6) (hz : ∀ s ∈ z, 0 ≤ s.least ∧ s.least ≤ s.most ∧ s.most ≤ 1500) : FnV Tryz.prog 57 [.int .i64 (k : Int), .slice za z.length zc] R (.int .i64 (blkN (k : Int) z)) := by
 refine Fn.toV (fun w0 E => ?_)
 have hk1 : ((k : Int) + 1).toNat = k + 1 := by omega
 refine fE 24 Tryz.func57 ?_
 refine zQ (zG (zR 1 rfl (zN (zU (zQ (zG (zR 1 rfl (zN (zU (zQ (zQ (zG (zR 1 rfl ?_)))))))))))))
 refine yA ?_
 refine zR 1 rfl (zN (zU (zB ?_)))
 refine W.loopK (β := Nat) (fun n => k + 1 + n ≤ z.length) (fun n => [(5, true, .int .i64 (mostF (blkF (k : Int) z) n)), (6, true, .int .i64 ((k + 1 + n : Nat) : Int))]) [1] [_] [] _ rfl (fun n => []) (fun n => z.length - n) (0) (by (try dsimp only); omega) ⟨rfl, vint qO, rfl, rfl⟩ qS ?_
 intro n hst
 refine zQ (zQ (zG (zR 4 rfl (zN (zU ?_)))))
 refine cD rfl ?_ ?_ <;> intro hc0
 ·
  have hnl : k + 1 + n < z.length := by omega
  have hdn : nth (z.drop ((k : Int) + 1).toNat) n = nth z (k + 1 + n) := by rw [hk1]; unfold nth; rw [List.getD_eq_getElem?_getD, List.getD_eq_getElem?_getD, List.getElem?_drop]
  have hzi := hz _ (nth_mem hnl)
  have hmk := blk_range (cls := (k : Int)) hz (n := n) (by omega)
  have hmx : (if (mostF (blkF (k : Int) z) n) < (nth z (k + 1 + n)).most - 1 then (nth z (k + 1 + n)).most - 1 else (mostF (blkF (k : Int) z) n)) = mostF (blkF (k : Int) z) (n + 1) := by
   show _ = max (mostF (blkF (k : Int) z) n) (blkF (k : Int) z n)
   unfold blkF
   rw [hdn]
   split <;> omega
  refine zK (zU (zQ (zB (zG (zR 3 rfl ?_)))))
  refine yI ?_
  refine zR 1 rfl ?_
  refine yD (r := by apply Rd.add; ((apply RS.rdD; assumption; ((try dsimp only) <;> omega)))) (k := ?_)
  refine yS ?_
  refine zR 2 rfl (zN (zL (zU (zG (zR 1 rfl ?_)))))
  refine yA ?_
  refine zR 1 rfl (zN ?_)
  refine WE.again (n + 1) qO (by (try dsimp only); omega) ⟨vint hmx, vint qO, rfl, rfl⟩ (RLe.refl _) qS
 ·
  have hn : n = z.length - ((k : Int) + 1).toNat := by omega
  refine zX ?_
  refine wx (wx (zY (zU (zQ (zG (zR 2 rfl (zN (zU (zT ?_)))))))))
  refine sE (E := E) ?_
  refine zr1 ?_
  exact ⟨by rw [hn]; rfl, rfl⟩
theorem ServeL_ok {R : Ro} {cap : Int} (hc : 1 ≤ cap ∧ cap ≤ 4000) (w0 : World) (E : List Ent) :
  K.Fn Tryz.prog 58 [.int .i64 cap] w0 R E (fun v R' E' => ∃ f : Option Addr, v = .tuple #[.agg #[.slice f 1 1, .int .i64 1, .int .i64 cap], .int .i64 0] ∧ RS R' 1 encI f [0] ∧ E.Sublist E') := by
 refine fE 14 Tryz.func58 ?_
 refine zQ (zG ?_)
 refine zA fun b2 => ?_
 refine zR 1 rfl (zN (zU (zQ (zQ (zG (zR 3 rfl ?_))))))
 refine yP ?_
 refine yP ?_
 refine yO ?_
 refine zN (zU ?_)
 refine cC rfl ?_ ?_ <;> intro hc0
 ·try simp only [zk] at hc0
  omega
 ·try simp only [zk] at hc0
  refine zK (zU (zQ (zG ?_)))
  refine WL.ef rfl rfl qD (Ef.buildSliceD (enc := encI) (parts := [.const (.int .i64 0)]) [_] tab_ok rfl rfl rfl rfl rfl rfl rfl rfl qD qD (fun a11 => ?_))
  refine WL.freeze (enc := encI) (xs := [0]) 0 rfl ?_
  intro R1 hR1 hsv
  refine zR 1 rfl ?_
  refine yW [(0, .tmp 11), (1, .const (.int .i64 1)), (2, .tmp 12)] ?_
  refine zE 0 ?_
  refine zR 1 rfl (zN (zU (zT ?_)))
  refine zq4 (hR1) ?_
  exact ⟨_, rfl, hsv, qS⟩
set_option maxHeartbeats 2000000 in
theorem RCurve18_C {R : Ro} {la : Option Addr} {lc : Nat} {ls : List CvS} (hla : RS R 3 encC la ls) (hlc : ls.length ≤ lc) (hls : ∀ x ∈ ls, RS R 1 encI x.a x.cv.vals ∧ x.cv.vals.length ≤ 100000 ∧ x.cv.vals.length ≤ x.cap) {za : Option Addr} {zc : Nat} {z : List Sz} (hzr : RS R 2 encZ za z) (cap cls : Int) (w0 : World) (E : List Ent) : K.Fn Tryz.prog 34 [.int .i64 cap, .int .i64 cls, .slice la ls.length lc, .slice za z.length zc] w0 R E (fun r R' E' => ∃ (f : Option Addr) (fc : Nat), r = cvV f fc (prioC cap cls (ls.map CvS.cv) z) ∧ RS R' 1 encI f (prioC cap cls (ls.map CvS.cv) z).1.vals ∧ (prioC cap cls (ls.map CvS.cv) z).1.vals.length ≤ fc ∧ E.Sublist E') := by
 have hll := hla.len
 have hlz := hzr.len
 have hmap : (ls.map CvS.cv).length = ls.length := by simp
 refine fE 66 Tryz.func34 ?_
 refine zQ (zG ?_)
 refine zA fun b8 => ?_
 refine zR 1 rfl (zN (zU (zQ (zQ (zG (zR 3 rfl ?_))))))
 refine WG.callV (v := .int .i64 (chk18 cap cls z)) en54 rfl rfl qD (CallOp.mk' rfl rfl rfl rfl) (fun _ => rfl) (fun hg => Check18_V hzr) ?_
 refine zR 1 rfl (zN (zU (zQ (zG (zR 2 rfl (zN (zU ?_)))))))
 refine cN rfl ?_ ?_ <;> intro hc0
 ·
  have hd : (prioC cap cls (ls.map CvS.cv) z) = (zcv, chk18 cap cls z) := if_pos hc0
  refine zQ (zG ?_)
  refine yW [] ?_
  refine zR 1 rfl ?_
  refine zE 0 ?_
  refine zR 1 rfl (zN (zU (zT (wt ?_))))
  refine zq4 (by first | exact RLe.refl _ | assumption | exact hR1.trans hR2 | exact hR1.trans (hR2.trans (hR3.trans hR4))) ?_
  exact ⟨none, 0, by rw [hd]; rfl, by rw [hd]; exact rs_nil, by rw [hd]; exact Nat.le_refl _, qS⟩
 ·
  obtain ⟨p1, p2, p3, p4, p5, hz⟩ := chk18_ok hc0
  obtain ⟨k, rfl⟩ := Int.eq_ofNat_of_zero_le p3
  refine zK (zU (zQ (zQ (zG (zR 5 rfl (zN (zU ?_)))))))
  refine cN rfl ?_ ?_ <;> intro hc1
  ·
   have hd : prioC cap (k : Int) (ls.map CvS.cv) z = (zcv, 2) := by unfold prioC; rw [if_neg (fun h => h hc0), if_pos (by rw [hmap]; omega)]
   refine zQ (zG ?_)
   refine yW [] ?_
   refine zE 0 ?_
   refine zR 1 rfl (zN (zU (zT (wt ?_))))
   refine zq4 (by first | exact RLe.refl _ | assumption | exact hR1.trans hR2 | exact hR1.trans (hR2.trans (hR3.trans hR4))) ?_
   exact ⟨none, 0, by rw [hd]; rfl, by rw [hd]; exact rs_nil, by rw [hd]; exact Nat.le_refl _, qS⟩
  ·
   have hle : ls.length = z.length := by omega
   refine zK (zU (zQ (zQ (zG (zR 1 rfl ?_)))))
   refine WG.callV (v := .bool (allV (ls.map CvS.cv))) en53 rfl rfl qD (CallOp.mk' rfl rfl rfl rfl) (fun _ => rfl) (fun hg => Valid18_V hla hls) ?_
   refine zR 1 rfl (zN (zU ?_))
   refine cC rfl ?_ ?_ <;> intro hc2
   ·try simp only [zk] at hc2
    have hno : allV (ls.map CvS.cv) = false := by simpa using hc2
    have hd : prioC cap (k : Int) (ls.map CvS.cv) z = (zcv, 1) := by unfold prioC; rw [if_neg (fun h => h hc0), if_neg (by rw [hmap]; omega), if_pos hno]
    refine zQ (zG ?_)
    refine yW [] ?_
    refine zE 0 ?_
    refine zR 1 rfl (zN (zU (zT (wt ?_))))
    refine zq4 (by first | exact RLe.refl _ | assumption | exact hR1.trans hR2 | exact hR1.trans (hR2.trans (hR3.trans hR4))) ?_
    exact ⟨none, 0, by rw [hd]; rfl, by rw [hd]; exact rs_nil, by rw [hd]; exact Nat.le_refl _, qS⟩
   ·try simp only [zk] at hc2
    have hav2 : allV (ls.map CvS.cv) = true := by simpa using hc2
    have hav := allV_iff.1 hav2
    have hbk : 0 ≤ blkN (k : Int) z ∧ blkN (k : Int) z ≤ 1499 := blk_range hz (Nat.le_refl _)
    have hmr := mid_res (l := (ls.map CvS.cv).take k) (fun c hc => hav c (List.mem_of_mem_take hc)) (k := blkN (k : Int) z) (by unfold MAXV; omega)
    have htr := total_res ((ls.map CvS.cv).take k) zeroC zero_nrm.valid zero_nrm (fun c hc => hav c (List.mem_of_mem_take hc))
    have hun : prioC cap (k : Int) (ls.map CvS.cv) z = if (midC (totalC ((ls.map CvS.cv).take k)) (blkN (k : Int) z)).2 ≠ 0 then (zcv, (midC (totalC ((ls.map CvS.cv).take k)) (blkN (k : Int) z)).2) else restC cap (midC (totalC ((ls.map CvS.cv).take k)) (blkN (k : Int) z)).1 := by
     unfold prioC
     rw [if_neg (fun h => h hc0), if_neg (by rw [hmap]; omega), if_neg (by rw [hav2]; decide)]
     rfl
    refine zK (zU (zQ (zG (zR 2 rfl ?_))))
    refine WG.y rfl rfl qD (Yl.sliceH tab_ok rfl rfl rfl rfl rfl (fun _ => rfl) (by intro _; omega) rfl) ?_
    refine WL.call en55 rfl rfl (by decide) (CallOp.mkT rfl rfl rfl rfl) (TotalG05_C (ls := ls.take k) (by rw [List.length_take]; omega) (hla.take _) (fun x hx => ⟨(hls x (List.mem_of_mem_take hx)).1, hav x.cv (List.mem_map_of_mem (List.mem_of_mem_take hx)), (hls x (List.mem_of_mem_take hx)).2.2⟩) w0 _) ?_
    rintro _ R1 _ hR1 ⟨ft, ftc, rfl, hft, hct, hsub⟩
    refine WL.subE hsub ?_
    rw [List.map_take] at hft hct ⊢
    unfold cvV
    have hzr1 := hzr.mono hR1
    refine zR 3 rfl ?_
    refine zA fun b11 => ?_
    refine zE 0 ?_
    refine zR 1 rfl (zN (zU (zQ (zQ (zG (zR 2 rfl (zN (zU ?_))))))))
    refine cN rfl ?_ ?_ <;> intro hc3
    ·
     have hme : (midC (totalC ((ls.map CvS.cv).take k)) (blkN (k : Int) z)) = (totalC ((ls.map CvS.cv).take k)) := if_neg hc3
     have hd : prioC cap (k : Int) (ls.map CvS.cv) z = (zcv, (totalC ((ls.map CvS.cv).take k)).2) := by rw [hun, hme, if_pos hc3]
     refine zQ (zG ?_)
     refine yW [] ?_
     refine zR 1 rfl ?_
     refine zE 1 ?_
     refine zR 1 rfl (zN (zU (zT (wt ?_))))
     refine zq4 (by first | exact RLe.refl _ | assumption | exact hR1.trans hR2 | exact hR1.trans (hR2.trans (hR3.trans hR4))) ?_
     exact ⟨none, 0, by rw [hd]; rfl, by rw [hd]; exact rs_nil, by rw [hd]; exact Nat.le_refl _, qS⟩
    ·
     have hme : (midC (totalC ((ls.map CvS.cv).take k)) (blkN (k : Int) z)) = (raiseC (totalC ((ls.map CvS.cv).take k)).1 (blkN (k : Int) z)) := if_pos (by first | exact hc3 | simpa using hc3)
     rw [hme] at hun hmr
     have htv : validB (totalC ((ls.map CvS.cv).take k)).1 = true := by
      rcases htr with h | ⟨c, h1, h2, _⟩
      ·rw [show (totalC ((ls.map CvS.cv).take k)) = (zcv, 3) from h] at hc3; exact absurd hc3 (by decide)
      ·rw [show (totalC ((ls.map CvS.cv).take k)) = (c, 0) from h1]; exact h2.valid
     refine zK (zU ?_)
     refine W.seqCut (β := Option Addr × Nat × Ro) (fun (fm, fmc, R2) => RLe R1 R2 ∧ RS R2 1 encI fm (raiseC (totalC ((ls.map CvS.cv).take k)).1 (blkN (k : Int) z)).1.vals ∧ (raiseC (totalC ((ls.map CvS.cv).take k)).1 (blkN (k : Int) z)).1.vals.length ≤ fmc) (fun (fm, fmc, R2) => [(0, true, .int .i64 cap), (8, true, .pointer (some ⟨b8, 0, none⟩)), (11, true, .pointer (some ⟨b11, 0, none⟩)), (12, true, .int .i64 (raiseC (totalC ((ls.map CvS.cv).take k)).1 (blkN (k : Int) z)).2)]) (fun (fm, fmc, R2) => R2) (fun (fm, fmc, R2) => .blk b11 [.slice fm (raiseC (totalC ((ls.map CvS.cv).take k)).1 (blkN (k : Int) z)).1.vals.length fmc, .int .i64 (raiseC (totalC ((ls.map CvS.cv).take k)).1 (blkN (k : Int) z)).1.per, .int .i64 (raiseC (totalC ((ls.map CvS.cv).take k)).1 (blkN (k : Int) z)).1.inc] :: .blk b8 [.slice none 0 0, .int .i64 0, .int .i64 0] :: E) ?_ ?_
     ·
      intro yy hst
      obtain ⟨fm, fmc, R2⟩ := yy
      obtain ⟨hR2, hfm, hcm⟩ := hst
      dsimp only at hR2 hfm hcm ⊢
      refine zQ (zQ (zG (zR 2 rfl (zN (zU ?_)))))
      refine cN rfl ?_ ?_ <;> intro hc4
      ·
       have hd : prioC cap (k : Int) (ls.map CvS.cv) z = (zcv, (raiseC (totalC ((ls.map CvS.cv).take k)).1 (blkN (k : Int) z)).2) := by rw [hun, if_pos hc4]
       refine zQ (zG ?_)
       refine yW [] ?_
       refine zR 1 rfl ?_
       refine zE 1 ?_
       refine zR 1 rfl (zN (zU (zT (wt ?_))))
       refine zq4 (by first | exact RLe.refl _ | assumption | exact hR1.trans hR2 | exact hR1.trans (hR2.trans (hR3.trans hR4))) ?_
       exact ⟨none, 0, by rw [hd]; rfl, by rw [hd]; exact rs_nil, by rw [hd]; exact Nat.le_refl _, qS⟩
      ·
       rw [if_neg (fun h => h hc4)] at hun
       have hmv : validB (raiseC (totalC ((ls.map CvS.cv).take k)).1 (blkN (k : Int) z)).1 = true := by
        rcases hmr with h | ⟨c, h1, h2⟩
        ·rw [h] at hc4; exact absurd hc4 (by decide)
        ·rw [h1]; exact h2.valid
       refine zK (zU (zQ (zG (zR 1 rfl ?_))))
       refine WL.call en58 rfl rfl qD (CallOp.mkT rfl rfl rfl rfl) (ServeL_ok (cap := cap) qO w0 _) ?_
       rintro _ R3 _ hR3 ⟨fl, rfl, hfl1, hsub⟩
       refine WL.subE hsub ?_
       have hfm := hfm.mono hR3
       refine zR 3 rfl ?_
       refine zA fun b13 => ?_
       refine zE 0 ?_
       refine zR 1 rfl (zN (zU (zQ (zG ?_))))
       refine yB 0 ?_
       refine yB 1 ?_
       refine WL.call en59 rfl rfl qD (CallOp.mkT rfl rfl rfl rfl) (RestR06_C (lc := 1) qO hfl1 (cg := (raiseC (totalC ((ls.map CvS.cv).take k)).1 (blkN (k : Int) z)).1) hmv hfm (Nat.le_refl _) hcm w0 _) ?_
       rintro _ R4 E4 hR4 ⟨fr, frc, rfl, hfr, hcr, hsub⟩
       refine WL.subE hsub ?_
       unfold cvV
       refine zR 2 rfl ?_
       refine zE 2 ?_
       refine zR 1 rfl (zN (zU (zT ?_)))
       refine zq4 (by first | exact RLe.refl _ | assumption | exact hR1.trans hR2 | exact hR1.trans (hR2.trans (hR3.trans hR4))) ?_
       exact ⟨fr, frc, by rw [hun]; rfl, by rw [hun]; exact hfr, by rw [hun]; exact hcr, qS⟩
     ·
      refine W.regionH _ (ES := []) mixed ?_
      refine tP 1 ?_
      refine tP 2 ?_
      refine WA.br2 (i := 0) (j := 3) qK ?_ ?_
      ·
       refine sL (Rd.blk 0 rfl) ?_
       refine WA.callG 3 rfl qK en57 rfl (by first | rfl | decide) rfl qD (CallOp.mkT rfl rfl rfl rfl) (FnV.toFn (Block18_V (k := k) hzr1 qO hz)) ?_
       rintro _ _ _ - ⟨rfl, rfl, rfl⟩
       refine ⟨qR, qS, ?_⟩
       refine WA.callG 4 rfl qK en56 rfl (by first | rfl | decide) rfl qD (CallOp.mkT rfl rfl rfl rfl) (RaiseG05_C (c := (totalC ((ls.map CvS.cv).take k)).1) (k := blkN (k : Int) z) htv hft hct (by unfold MAXV; omega) w0 _) ?_
       rintro _ R2 _ hR2 ⟨fm, fmc, rfl, hfm, hcm, hsub⟩
       refine ⟨hR2, List.nil_sublist _, ?_⟩
       refine WA.subE hsub ?_
       unfold cvV
       refine tP 5 ?_
       refine tP 6 ?_
       refine tP 7 ?_
       refine zCE 8 0 ?_
       refine tP 9 ?_
       refine WA.done qK ?_
       refine WE.cut (fm, fmc, R2) ⟨hR2, hfm, hcm⟩ ⟨rfl, rfl, rfl, rfl, rfl⟩ (RLe.refl _) qS
      ·
       refine WS.callG rfl en57 rfl (by first | rfl | decide) rfl qD (CallOp.mkT rfl rfl rfl rfl) (FnV.toFn (Block18_V (k := k) hzr1 qO hz)) ?_
       rintro _ _ _ - ⟨rfl, rfl, rfl⟩
       refine ⟨qR, qS, ?_⟩
       refine lL 0 (Rd.blk 0 rfl) ?_
       refine WA.callG 4 rfl qK en56 rfl (by first | rfl | decide) rfl qD (CallOp.mkT rfl rfl rfl rfl) (RaiseG05_C (c := (totalC ((ls.map CvS.cv).take k)).1) (k := blkN (k : Int) z) htv hft hct (by unfold MAXV; omega) w0 _) ?_
       rintro _ R2 _ hR2 ⟨fm, fmc, rfl, hfm, hcm, hsub⟩
       refine ⟨hR2, List.nil_sublist _, ?_⟩
       refine WA.subE hsub ?_
       unfold cvV
       refine tP 5 ?_
       refine tP 6 ?_
       refine tP 7 ?_
       refine zCE 8 0 ?_
       refine tP 9 ?_
       refine WA.done qK ?_
       refine WE.cut (fm, fmc, R2) ⟨hR2, hfm, hcm⟩ ⟨rfl, rfl, rfl, rfl, rfl⟩ (RLe.refl _) qS
end Go.Proofs.YtaoakchgjgmedaaGreat