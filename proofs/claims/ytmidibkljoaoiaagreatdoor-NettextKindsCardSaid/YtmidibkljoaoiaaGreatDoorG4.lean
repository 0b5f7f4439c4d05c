/- NettextKinds: for every input the law returns true, and the input reads afterwards as it read before; the listed variables of the library start as its text lays them. -/
import Derived.Test.YtmidibkljoaoiaaGreatDoorG3
import Derived.Laws.IdiomCopy
import Derived.Laws.BitsAllLaws
import Derived.Laws.IdiomStrings
import Derived.Test.YtmidibkljoaoiaaGreatDoorRows
import Derived.ProofKit
import Derived.SizedLaws
import Derived.Maps.OwnSet
import Derived.WideKeyElems2
import Derived.Carry
import Derived.Deep.Slices
import Derived.OpenShut
import Derived.Handed
import Derived.HandedShaped
import Derived.LaidMore
import Derived.LaidHandle
import Derived.LaidLaws
import Derived.MakeChecks
import Derived.Stop.LaidErr
import Derived.Lib.LaidTab
import Derived.Shelf.Vars
import Derived.Test.YtmidibkljoaoiaaGreatDoorTie
import Derived.Test.YtmidibkljoaoiaaGreatDoorCards
import Derived.SevenTiedAt
import Derived.Stop.Joined
import Derived.Lay
/- Chapter 24: a line that is drawn. No condition. -/
set_option maxRecDepth 4000
set_option linter.unusedSimpArgs false
set_option linter.unusedVariables false
namespace Go.Proofs.YtmidibkljoaoiaaGreatDoor
open Go Go.RowKit Go.Proofs.YtmidibkljoaoiaaGreatDoor.K Go.Proofs.YtmidibkljoaoiaaGreatDoor.M

set_option maxHeartbeats 4000000 in
theorem Port2_C {R : Ro} {b : Nat} {a : Option Addr} {cp : Nat} {xs : List Int} {c : Nat} (w0 : World) (ha : K.RS R 1 encI a xs) : FnAt Tryz.prog 26 [.pointer (some ⟨b, 0, none⟩), .int .i64 2] w0 R (srcE b a cp xs c) (fun v R' e' N => ∃ (L : Ln) (aw at_ : Option Addr) (cw ct cn : Nat), v = .agg #[.int .i64 L.kind, .int .i64 L.cap, .int .i64 L.n, .slice aw L.w.length cw, .slice at_ L.tb.length ct] ∧ K.RS R' 1 encI aw L.w ∧ K.RS R' 1 encI at_ L.tb ∧ DrawP 2 L ∧ e' = srcE b a cp xs cn ∧ N = []) := by
 intro F
 refine fE 85 Tryz.func26 ?_
 refine zQ (zG ?_)
 refine zA fun b4 => ?_
 refine zN (zU (zQ (zG (zR 1 rfl ?_))))
 refine WL.callAt 1 en25 rfl rfl qD (CallOp.mkT rfl rfl rfl rfl) rfl (Range_C (lo := 4) (hi := 24) w0 ha qO qO _) ?_
 rintro _ _ _ _ - ⟨rfl, rfl, rfl, rfl⟩
 have hm0 := mod_range (nth xs (c)) (show (1 : Int) ≤ 24 - 4 + 1 by omega)
 refine zR 1 rfl ?_
 -- build
 refine WG.y rfl rfl qD (Yl.build (parts := [(0, .const (.int .i64 1)), (1, .tmp 11), (2, .tmp 12)]) tab_ok rfl rfl rfl rfl (fun _ => rfl) rfl rfl) ?_
 refine zA fun b5 => ?_
 refine zE 0 ?_
 refine zN (zU (zQ (zQ (zG (zR 3 rfl ?_)))))
 refine yP ?_
 refine WG.callV (v := .int .i64 0) (vs := [.pointer (some ⟨b, 0, none⟩), .int .i64 3]) en17 rfl rfl qD (CallOp.mk' rfl rfl rfl rfl) (by intro h; cases h) (fun h => by cases h) ?_
 refine yP ?_
 refine yN ?_
 refine zN (zU ?_)
 refine W.cond rfl (fun hc0 => ?_) (fun hc0 => ?_)
 ·try simp only [zk] at hc0
  exact absurd hc0.1 qD
 ·try simp only [zk] at hc0
  refine zK (zU (zQ (zQ (zG (zR 1 rfl ?_)))))
  refine WL.callAt 2 en17 rfl rfl qD (CallOp.mkT rfl rfl rfl rfl) rfl (N_C w0 ha (by constructor <;> decide) _) ?_
  rintro _ _ _ _ - ⟨rfl, rfl, rfl, rfl⟩
  have hm1 := mod_range (nth xs (c + 1)) (show (1 : Int) ≤ 4 by decide)
  refine zN (zU (zB (zQ (zG (zR 2 rfl (zN (zU ?_)))))))
  refine W.condE rfl (fun hc1 => ?_) (fun hc1 => ?_)
  ·try dsimp only at hc1
   refine zG (zR 1 rfl ?_)
   refine zF 0 ?_
   refine zN (zL (zU (zQ (zG ?_))))
   refine yL (Rd.blk 0 rfl) ?_
   refine zE 1 ?_
   refine zN (zU (zT ?_))
   refine WE.retFS (E' := srcE b a cp xs (c + 1 + 1) :: F) qS tab_ok [_] rfl ⟨⟨_, _, _, rfl, rfl, rfl, qB, rfl⟩, trivial⟩ (by first | assumption | exact RLe.refl _) ?_
   exact ⟨_, [], rfl, ⟨2, (4 + mod (nth xs c) (24 - 4 + 1)), 2, [], []⟩, none, none, 0, 0, _, rfl, rs_nil, rs_nil, ⟨by dsimp only; omega, rfl, by dsimp only; omega, fun _ => ⟨rfl, rfl⟩, fun h => by dsimp only at h; omega, fun h => by dsimp only at h; omega, fun h => by dsimp only at h; omega, fun h => by dsimp only at h; omega⟩, rfl, rfl⟩
  ·try dsimp only at hc1
   refine zQ (zG (zR 2 rfl (zN (zU ?_))))
   refine W.condE rfl (fun hc2 => ?_) (fun hc2 => ?_)
   ·try dsimp only at hc2
    refine zQ (zG (zR 1 rfl ?_))
    refine zF 0 ?_
    refine zN (zU ?_)
    refine W.nil 3 1 qD ?_
    refine zQ (zG (zR 1 rfl (zN (zU (zB ?_)))))
    refine W.loopK (β := Nat × List Int × Nat × Option Addr × Nat) (fun (i, ys, cn, a9, c9) => ys.length = i ∧ i ≤ 2 ∧ ∀ y ∈ ys, 1 ≤ y ∧ y ≤ 3) (fun (i, ys, cn, a9, c9) => [(6, true, .int .i64 (i : Int))]) [0, 1, 4, 5] [_, _, _, _] [] _ rfl (fun (i, ys, cn, a9, c9) => [(0, .sl 3 1 a9 c9 (ys.map encI)), (1, .blk b5 [.int .i64 3, .int .i64 (4 + mod (nth xs c) (24 - 4 + 1)), .int .i64 2, .slice a9 ys.length c9, .slice none 0 0]), (3, srcE b a cp xs cn)]) (fun (i, ys, cn, a9, c9) => 2 - i) ((0, [], c + 1 + 1, none, 0)) (⟨rfl, Nat.zero_le _, fun y h => (by cases h)⟩) ⟨rfl, rfl, rfl, rfl, rfl, rfl⟩ qS ?_
    intro zz hst
    obtain ⟨i, ys, cn, a9, c9⟩ := zz
    dsimp only [zipE, setAll, List.cons_append, List.nil_append, List.set_cons_zero, List.set_cons_succ] at hst ⊢
    obtain ⟨hy1, hy2, hy3⟩ := hst
    refine zQ (zQ (zG (zR 3 rfl (zN (zU ?_)))))
    refine W.condD rfl (fun hc3 => ?_) (fun hc3 => ?_)
    ·try dsimp only at hc3
     refine zK (zU (zQ (zB ?_)))
     refine W.regionH _ (ES := (.blk b4 [.int .i64 0, .int .i64 0, .int .i64 0, .slice none 0 0, .slice none 0 0] :: F)) mixed ?_
     refine tP 0 ?_
     refine tP 2 ?_
     refine WA.br2 (i := 1) (j := 3) qK ?_ ?_
     ·
      refine sL (Rd.add (Rd.blk 1 rfl) _) ?_
      refine WA.callAt 3 3 rfl qK en25 rfl rfl qD (CallOp.mkT rfl rfl rfl rfl) rfl (Range_C (lo := 1) (hi := 3) w0 ha qO qO _) ?_
      rintro _ _ _ _ - ⟨rfl, rfl, rfl, rfl⟩
      refine ⟨RLe.refl _, qS, ?_⟩
      have hm9 := mod_range (nth xs cn) (show (1 : Int) ≤ 3 - 1 + 1 by omega)
      refine WA.eff 4 rfl qK rfl rfl qD (Ef.buildSliceD (enc := encI) (parts := [.tmp 65]) [_] tab_ok rfl rfl rfl rfl rfl rfl rfl rfl qD qD (fun a66 => ?_))
      refine ⟨qR, qS, ?_⟩
      refine WA.eff 5 rfl (by kernel_rfl) rfl rfl (by decide) (Ef.appendD 1 0 tab_ok rfl rfl rfl rfl rfl rfl rfl rfl rfl rfl rfl (fun _ _ => rfl) (by simp only [List.length_cons, List.length_nil]; omega) (by simp only [List.length_cons, List.length_nil]; omega) (fun a67 c67 ha67 => ?_))
      refine ⟨qR, qS, ?_⟩
      refine tP 6 ?_
      refine zCF 7 2 ?_
      refine WA.done qK ?_
      refine zL (zU (zG (zR 1 rfl ?_)))
      refine yA ?_
      refine zR 1 rfl (zN ?_)
      refine WE.again ((i + 1, ys ++ [1 + mod (nth xs cn) (3 - 1 + 1)], cn + 1, a67, c67)) (⟨by simp only [List.length_append, List.length_cons, List.length_nil]; omega, by omega, fun y hy => by rcases List.mem_append.1 hy with h | h; exact hy3 y h; have := List.mem_singleton.1 h; omega⟩) (by (try dsimp only); omega) ⟨rfl, rfl, rfl, rfl, rfl, rfl⟩ (RLe.refl _) qS
     ·
      refine WS.callAt 3 rfl en25 rfl rfl qD (CallOp.mkT rfl rfl rfl rfl) rfl (Range_C (lo := 1) (hi := 3) w0 ha qO qO _) ?_
      rintro _ _ _ _ - ⟨rfl, rfl, rfl, rfl⟩
      refine ⟨RLe.refl _, qS, ?_⟩
      have hm9 := mod_range (nth xs cn) (show (1 : Int) ≤ 3 - 1 + 1 by omega)
      refine WA.br2 (i := 1) (j := 4) qK ?_ ?_
      ·
       refine sL (Rd.add (Rd.blk 1 rfl) _) ?_
       refine WA.eff 4 rfl qK rfl rfl qD (Ef.buildSliceD (enc := encI) (parts := [.tmp 65]) [_] tab_ok rfl rfl rfl rfl rfl rfl rfl rfl qD qD (fun a66 => ?_))
       refine ⟨qR, qS, ?_⟩
       refine WA.eff 5 rfl (by kernel_rfl) rfl rfl (by decide) (Ef.appendD 1 0 tab_ok rfl rfl rfl rfl rfl rfl rfl rfl rfl rfl rfl (fun _ _ => rfl) (by simp only [List.length_cons, List.length_nil]; omega) (by simp only [List.length_cons, List.length_nil]; omega) (fun a67 c67 ha67 => ?_))
       refine ⟨qR, qS, ?_⟩
       refine tP 6 ?_
       refine zCF 7 2 ?_
       refine WA.done qK ?_
       refine zL (zU (zG (zR 1 rfl ?_)))
       refine yA ?_
       refine zR 1 rfl (zN ?_)
       refine WE.again ((i + 1, ys ++ [1 + mod (nth xs cn) (3 - 1 + 1)], cn + 1, a67, c67)) (⟨by simp only [List.length_append, List.length_cons, List.length_nil]; omega, by omega, fun y hy => by rcases List.mem_append.1 hy with h | h; exact hy3 y h; have := List.mem_singleton.1 h; omega⟩) (by (try dsimp only); omega) ⟨rfl, rfl, rfl, rfl, rfl, rfl⟩ (RLe.refl _) qS
      ·
       refine WS.eff rfl rfl rfl qD (Ef.buildSliceD (enc := encI) (parts := [.tmp 65]) [_] tab_ok rfl rfl rfl rfl rfl rfl rfl rfl qD qD (fun a66 => ?_))
       refine ⟨qR, qS, ?_⟩
       refine lL 1 (Rd.add (Rd.blk 2 rfl) _) ?_
       refine WA.eff 5 rfl (by kernel_rfl) rfl rfl (by decide) (Ef.appendD 1 0 tab_ok rfl rfl rfl rfl rfl rfl rfl rfl rfl rfl rfl (fun _ _ => rfl) (by simp only [List.length_cons, List.length_nil]; omega) (by simp only [List.length_cons, List.length_nil]; omega) (fun a67 c67 ha67 => ?_))
       refine ⟨qR, qS, ?_⟩
       refine tP 6 ?_
       refine zCF 7 2 ?_
       refine WA.done qK ?_
       refine zL (zU (zG (zR 1 rfl ?_)))
       refine yA ?_
       refine zR 1 rfl (zN ?_)
       refine WE.again ((i + 1, ys ++ [1 + mod (nth xs cn) (3 - 1 + 1)], cn + 1, a67, c67)) (⟨by simp only [List.length_append, List.length_cons, List.length_nil]; omega, by omega, fun y hy => by rcases List.mem_append.1 hy with h | h; exact hy3 y h; have := List.mem_singleton.1 h; omega⟩) (by (try dsimp only); omega) ⟨rfl, rfl, rfl, rfl, rfl, rfl⟩ (RLe.refl _) qS
    ·try dsimp only at hc3
     refine W.freeze (enc := encI) (xs := ys) 0 rfl ?_
     intro R1 hR1 hwz
     refine zX ?_
     refine wx (wx (zY (zL (zU (zQ (zG ?_))))))
     refine yL (Rd.blk 0 rfl) ?_
     refine zE 1 ?_
     refine zN (zU (zT ?_))
     refine WE.retFS (E' := srcE b a cp xs (cn) :: F) qS tab_ok [_] rfl ⟨⟨_, _, _, rfl, rfl, rfl, qB, rfl⟩, trivial⟩ (by first | assumption | exact RLe.refl _) ?_
     exact ⟨_, [], rfl, ⟨3, (4 + mod (nth xs c) (24 - 4 + 1)), 2, ys, []⟩, _, none, _, 0, _, rfl, hwz, rs_nil, ⟨by dsimp only; omega, rfl, by dsimp only; omega, fun h => by dsimp only at h; omega, fun h => by dsimp only at h; omega, fun _ => ⟨by dsimp only; omega, hy3, rfl⟩, fun h => by dsimp only at h; omega, fun h => by dsimp only at h; omega⟩, rfl, rfl⟩
   ·try dsimp only at hc2
    refine zQ (zG (zR 2 rfl (zN (zU ?_))))
    refine W.condE rfl (fun hc4 => ?_) (fun hc4 => ?_)
    ·try dsimp only at hc4
     refine zQ (zG (zR 1 rfl ?_))
     refine zF 0 ?_
     refine zN (zU ?_)
     refine W.nil 3 1 qD ?_
     refine zQ (zG (zR 1 rfl (zN (zU (zB ?_)))))
     refine W.loopK (β := Nat × List Int × Nat × Option Addr × Nat) (fun (i, ys, cn, a9, c9) => ys.length = i ∧ i ≤ 2 ∧ ∀ y ∈ ys, 8 ≤ y ∧ y ≤ 20) (fun (i, ys, cn, a9, c9) => [(7, true, .int .i64 (i : Int))]) [0, 1, 4, 5] [_, _, _, _] [] _ rfl (fun (i, ys, cn, a9, c9) => [(0, .sl 3 1 a9 c9 (ys.map encI)), (1, .blk b5 [.int .i64 4, .int .i64 (4 + mod (nth xs c) (24 - 4 + 1)), .int .i64 2, .slice a9 ys.length c9, .slice none 0 0]), (3, srcE b a cp xs cn)]) (fun (i, ys, cn, a9, c9) => 2 - i) ((0, [], c + 1 + 1, none, 0)) (⟨rfl, Nat.zero_le _, fun y h => (by cases h)⟩) ⟨rfl, rfl, rfl, rfl, rfl, rfl⟩ qS ?_
     intro zz hst
     obtain ⟨i, ys, cn, a9, c9⟩ := zz
     dsimp only [zipE, setAll, List.cons_append, List.nil_append, List.set_cons_zero, List.set_cons_succ] at hst ⊢
     obtain ⟨hy1, hy2, hy3⟩ := hst
     refine zQ (zQ (zG (zR 3 rfl (zN (zU ?_)))))
     refine W.condD rfl (fun hc5 => ?_) (fun hc5 => ?_)
     ·try dsimp only at hc5
      refine zK (zU (zQ (zB ?_)))
      refine W.regionH _ (ES := (.blk b4 [.int .i64 0, .int .i64 0, .int .i64 0, .slice none 0 0, .slice none 0 0] :: F)) mixed ?_
      refine tP 0 ?_
      refine tP 2 ?_
      refine WA.br2 (i := 1) (j := 3) qK ?_ ?_
      ·
       refine sL (Rd.add (Rd.blk 1 rfl) _) ?_
       refine WA.callAt 3 3 rfl qK en25 rfl rfl qD (CallOp.mkT rfl rfl rfl rfl) rfl (Range_C (lo := 8) (hi := 20) w0 ha qO qO _) ?_
       rintro _ _ _ _ - ⟨rfl, rfl, rfl, rfl⟩
       refine ⟨RLe.refl _, qS, ?_⟩
       have hm9 := mod_range (nth xs cn) (show (1 : Int) ≤ 20 - 8 + 1 by omega)
       refine WA.eff 4 rfl qK rfl rfl qD (Ef.buildSliceD (enc := encI) (parts := [.tmp 80]) [_] tab_ok rfl rfl rfl rfl rfl rfl rfl rfl qD qD (fun a81 => ?_))
       refine ⟨qR, qS, ?_⟩
       refine WA.eff 5 rfl (by kernel_rfl) rfl rfl (by decide) (Ef.appendD 1 0 tab_ok rfl rfl rfl rfl rfl rfl rfl rfl rfl rfl rfl (fun _ _ => rfl) (by simp only [List.length_cons, List.length_nil]; omega) (by simp only [List.length_cons, List.length_nil]; omega) (fun a82 c82 ha82 => ?_))
       refine ⟨qR, qS, ?_⟩
       refine tP 6 ?_
       refine zCF 7 2 ?_
       refine WA.done qK ?_
       refine zL (zU (zG (zR 1 rfl ?_)))
       refine yA ?_
       refine zR 1 rfl (zN ?_)
       refine WE.again ((i + 1, ys ++ [8 + mod (nth xs cn) (20 - 8 + 1)], cn + 1, a82, c82)) (⟨by simp only [List.length_append, List.length_cons, List.length_nil]; omega, by omega, fun y hy => by rcases List.mem_append.1 hy with h | h; exact hy3 y h; have := List.mem_singleton.1 h; omega⟩) (by (try dsimp only); omega) ⟨rfl, rfl, rfl, rfl, rfl, rfl⟩ (RLe.refl _) qS
      ·
       refine WS.callAt 3 rfl en25 rfl rfl qD (CallOp.mkT rfl rfl rfl rfl) rfl (Range_C (lo := 8) (hi := 20) w0 ha qO qO _) ?_
       rintro _ _ _ _ - ⟨rfl, rfl, rfl, rfl⟩
       refine ⟨RLe.refl _, qS, ?_⟩
       have hm9 := mod_range (nth xs cn) (show (1 : Int) ≤ 20 - 8 + 1 by omega)
       refine WA.br2 (i := 1) (j := 4) qK ?_ ?_
       ·
        refine sL (Rd.add (Rd.blk 1 rfl) _) ?_
        refine WA.eff 4 rfl qK rfl rfl qD (Ef.buildSliceD (enc := encI) (parts := [.tmp 80]) [_] tab_ok rfl rfl rfl rfl rfl rfl rfl rfl qD qD (fun a81 => ?_))
        refine ⟨qR, qS, ?_⟩
        refine WA.eff 5 rfl (by kernel_rfl) rfl rfl (by decide) (Ef.appendD 1 0 tab_ok rfl rfl rfl rfl rfl rfl rfl rfl rfl rfl rfl (fun _ _ => rfl) (by simp only [List.length_cons, List.length_nil]; omega) (by simp only [List.length_cons, List.length_nil]; omega) (fun a82 c82 ha82 => ?_))
        refine ⟨qR, qS, ?_⟩
        refine tP 6 ?_
        refine zCF 7 2 ?_
        refine WA.done qK ?_
        refine zL (zU (zG (zR 1 rfl ?_)))
        refine yA ?_
        refine zR 1 rfl (zN ?_)
        refine WE.again ((i + 1, ys ++ [8 + mod (nth xs cn) (20 - 8 + 1)], cn + 1, a82, c82)) (⟨by simp only [List.length_append, List.length_cons, List.length_nil]; omega, by omega, fun y hy => by rcases List.mem_append.1 hy with h | h; exact hy3 y h; have := List.mem_singleton.1 h; omega⟩) (by (try dsimp only); omega) ⟨rfl, rfl, rfl, rfl, rfl, rfl⟩ (RLe.refl _) qS
       ·
        refine WS.eff rfl rfl rfl qD (Ef.buildSliceD (enc := encI) (parts := [.tmp 80]) [_] tab_ok rfl rfl rfl rfl rfl rfl rfl rfl qD qD (fun a81 => ?_))
        refine ⟨qR, qS, ?_⟩
        refine lL 1 (Rd.add (Rd.blk 2 rfl) _) ?_
        refine WA.eff 5 rfl (by kernel_rfl) rfl rfl (by decide) (Ef.appendD 1 0 tab_ok rfl rfl rfl rfl rfl rfl rfl rfl rfl rfl rfl (fun _ _ => rfl) (by simp only [List.length_cons, List.length_nil]; omega) (by simp only [List.length_cons, List.length_nil]; omega) (fun a82 c82 ha82 => ?_))
        refine ⟨qR, qS, ?_⟩
        refine tP 6 ?_
        refine zCF 7 2 ?_
        refine WA.done qK ?_
        refine zL (zU (zG (zR 1 rfl ?_)))
        refine yA ?_
        refine zR 1 rfl (zN ?_)
        refine WE.again ((i + 1, ys ++ [8 + mod (nth xs cn) (20 - 8 + 1)], cn + 1, a82, c82)) (⟨by simp only [List.length_append, List.length_cons, List.length_nil]; omega, by omega, fun y hy => by rcases List.mem_append.1 hy with h | h; exact hy3 y h; have := List.mem_singleton.1 h; omega⟩) (by (try dsimp only); omega) ⟨rfl, rfl, rfl, rfl, rfl, rfl⟩ (RLe.refl _) qS
     ·try dsimp only at hc5
      refine W.freeze (enc := encI) (xs := ys) 0 rfl ?_
      intro R1 hR1 hwz
      refine zX ?_
      refine wx (wx (zY (zL (zU (zQ (zG ?_))))))
      refine yL (Rd.blk 0 rfl) ?_
      refine zE 1 ?_
      refine zN (zU (zT ?_))
      refine WE.retFS (E' := srcE b a cp xs (cn) :: F) qS tab_ok [_] rfl ⟨⟨_, _, _, rfl, rfl, rfl, qB, rfl⟩, trivial⟩ (by first | assumption | exact RLe.refl _) ?_
      exact ⟨_, [], rfl, ⟨4, (4 + mod (nth xs c) (24 - 4 + 1)), 2, ys, []⟩, _, none, _, 0, _, rfl, hwz, rs_nil, ⟨by dsimp only; omega, rfl, by dsimp only; omega, fun h => by dsimp only at h; omega, fun h => by dsimp only at h; omega, fun h => by dsimp only at h; omega, fun _ => ⟨by dsimp only; omega, hy3, rfl⟩, fun h => by dsimp only at h; omega⟩, rfl, rfl⟩
    ·try dsimp only at hc4
     refine zQ (zG (zR 1 rfl ?_))
     refine zF 0 ?_
     refine zN (zU (zQ ?_))
     refine W.nil 3 1 qD ?_
     refine zQ (zG (zR 1 rfl (zN (zU (zB ?_)))))
     refine W.loopK (β := Nat × List Int × Option Addr × Nat) (fun (i, ys, a9, c9) => ys.length = i ∧ i ≤ 2 ∧ ∀ y ∈ ys, -1 ≤ y ∧ y ≤ (2 : Int) - 1) (fun (i, ys, a9, c9) => [(8, true, .int .i64 (i : Int))]) [0, 1, 4, 5] [_, _, _, _] [] _ rfl (fun (i, ys, a9, c9) => [(0, .sl 3 1 a9 c9 (ys.map encI)), (1, .blk b5 [.int .i64 5, .int .i64 (4 + mod (nth xs c) (24 - 4 + 1)), .int .i64 2, .slice none 0 0, .slice a9 ys.length c9])]) (fun (i, ys, a9, c9) => 2 - i) ((0, [], none, 0)) (⟨rfl, Nat.zero_le _, fun y h => (by cases h)⟩) ⟨rfl, rfl, rfl, rfl, rfl, rfl⟩ qS ?_
     intro zz hst
     obtain ⟨i, ys, a9, c9⟩ := zz
     dsimp only [zipE, setAll, List.cons_append, List.nil_append, List.set_cons_zero, List.set_cons_succ] at hst ⊢
     obtain ⟨hy1, hy2, hy3⟩ := hst
     refine zQ (zQ (zG (zR 3 rfl (zN (zU ?_)))))
     refine W.condD rfl (fun hc6 => ?_) (fun hc6 => ?_)
     ·try dsimp only at hc6
      refine zK (zU (zQ (zB (zG (zR 1 rfl ?_)))))
      refine yL (Rd.add (Rd.blk 1 rfl) _) ?_
      refine zR 1 rfl ?_
      refine WL.ef rfl rfl qD (Ef.buildSliceD (enc := encI) (parts := [.tmp 32]) [_] tab_ok rfl rfl rfl rfl rfl rfl rfl rfl qD qD (fun a33 => ?_))
      refine WL.ef rfl rfl (by decide) (Ef.appendD 1 0 tab_ok rfl rfl rfl rfl rfl rfl rfl rfl rfl rfl rfl (fun _ _ => rfl) (by simp only [List.length_cons, List.length_nil]; omega) (by simp only [List.length_cons, List.length_nil]; omega) (fun a34 c34 ha34 => ?_))
      refine zR 1 rfl ?_
      refine zF 2 ?_
      refine zN (zL (zU (zG (zR 1 rfl ?_))))
      refine yA ?_
      refine zR 1 rfl (zN ?_)
      refine WE.again ((i + 1, ys ++ [(i : Int)], a34, c34)) (⟨by simp only [List.length_append, List.length_cons, List.length_nil]; omega, by omega, fun y hy => by rcases List.mem_append.1 hy with h | h; exact hy3 y h; have := List.mem_singleton.1 h; omega⟩) (by (try dsimp only); omega) ⟨rfl, rfl, rfl, rfl, rfl, rfl⟩ (RLe.refl _) qS
     ·try dsimp only at hc6
      refine zX ?_
      refine wx (wx (zY (zU (zQ (zG (zR 1 rfl ?_))))))
      refine WL.callAt 3 en17 rfl rfl qD (CallOp.mkT rfl rfl rfl rfl) rfl (N_C w0 ha (by constructor <;> decide) _) ?_
      rintro _ _ _ _ - ⟨rfl, rfl, rfl, rfl⟩
      have hm8 := mod_range (nth xs (c + 1 + 1)) (show (1 : Int) ≤ 3 by decide)
      obtain ⟨k8, hk8⟩ := Int.eq_ofNat_of_zero_le hm8.1
      rw [hk8]
      refine zR 1 rfl (zN (zU (zB ?_)))
      refine W.loopK (β := Nat × List Int × Nat × Option Addr × Nat) (fun (j, ys, cn, a9, c9) => 2 ≤ ys.length ∧ ys.length + j ≤ 4 ∧ ∀ y ∈ ys, -1 ≤ y ∧ y ≤ (2 : Int) - 1) (fun (j, ys, cn, a9, c9) => [(9, true, .int .i64 (j : Int))]) [0, 1, 4, 5] [_, _, _, _] [] _ rfl (fun (j, ys, cn, a9, c9) => [(0, .sl 3 1 a9 c9 (ys.map encI)), (1, .blk b5 [.int .i64 5, .int .i64 (4 + mod (nth xs c) (24 - 4 + 1)), .int .i64 2, .slice none 0 0, .slice a9 ys.length c9]), (3, srcE b a cp xs cn)]) (fun (j, ys, cn, a9, c9) => j) ((k8, ys, c + 1 + 1 + 1, a9, c9)) (⟨by (try dsimp only); omega, by (try dsimp only); omega, hy3⟩) ⟨rfl, rfl, rfl, rfl, rfl, rfl⟩ qS ?_
      intro zz hst
      obtain ⟨j, ys, cn, a9, c9⟩ := zz
      dsimp only [zipE, setAll, List.cons_append, List.nil_append, List.set_cons_zero, List.set_cons_succ] at hst ⊢
      obtain ⟨hy1, hy2, hy3⟩ := hst
      refine zQ (zQ (zG (zR 2 rfl (zN (zU ?_)))))
      refine W.condD rfl (fun hc7 => ?_) (fun hc7 => ?_)
      ·try dsimp only at hc7
       obtain ⟨j, rfl⟩ : ∃ m, j = m + 1 := ⟨j - 1, by omega⟩
       refine zK (zU (zQ (zB ?_)))
       refine W.regionH _ (ES := (.blk b4 [.int .i64 0, .int .i64 0, .int .i64 0, .slice none 0 0, .slice none 0 0] :: F)) mixed ?_
       refine tP 0 ?_
       refine tP 2 ?_
       refine tP 3 ?_
       refine tS 4 ?_
       refine WA.br2 (i := 1) (j := 5) qK ?_ ?_
       ·
        refine sL (Rd.add (Rd.blk 1 rfl) _) ?_
        refine WA.callAt 3 5 rfl qK en25 rfl rfl qD (CallOp.mkT rfl rfl rfl rfl) rfl (Range_C (lo := (-1)) (hi := (2 - 1)) w0 ha qO qO _) ?_
        rintro _ _ _ _ - ⟨rfl, rfl, rfl, rfl⟩
        refine ⟨RLe.refl _, qS, ?_⟩
        have hm9 := mod_range (nth xs cn) (show (1 : Int) ≤ (2 - 1) - (-1) + 1 by omega)
        refine WA.eff 6 rfl qK rfl rfl qD (Ef.buildSliceD (enc := encI) (parts := [.tmp 47]) [_] tab_ok rfl rfl rfl rfl rfl rfl rfl rfl qD qD (fun a48 => ?_))
        refine ⟨qR, qS, ?_⟩
        refine WA.eff 7 rfl (by kernel_rfl) rfl rfl (by decide) (Ef.appendD 1 0 tab_ok rfl rfl rfl rfl rfl rfl rfl rfl rfl rfl rfl (fun _ _ => rfl) (by simp only [List.length_cons, List.length_nil]; omega) (by simp only [List.length_cons, List.length_nil]; omega) (fun a49 c49 ha49 => ?_))
        refine ⟨qR, qS, ?_⟩
        refine tP 8 ?_
        refine zCF 9 2 ?_
        refine WA.done qK ?_
        refine zL (zU (zG (zR 1 rfl ?_)))
        refine yS ?_
        refine zR 1 rfl (zN ?_)
        refine WE.again ((j, ys ++ [-1 + mod (nth xs cn) ((2 - 1) - -1 + 1)], cn + 1, a49, c49)) (⟨by simp only [List.length_append, List.length_cons, List.length_nil]; omega, by simp only [List.length_append, List.length_cons, List.length_nil]; omega, fun y hy => by rcases List.mem_append.1 hy with h | h; exact hy3 y h; have := List.mem_singleton.1 h; omega⟩) (by (try dsimp only); omega) ⟨vint (by omega), rfl, rfl, rfl, rfl, rfl⟩ (RLe.refl _) qS
       ·
        refine WS.callAt 3 rfl en25 rfl rfl qD (CallOp.mkT rfl rfl rfl rfl) rfl (Range_C (lo := (-1)) (hi := (2 - 1)) w0 ha qO qO _) ?_
        rintro _ _ _ _ - ⟨rfl, rfl, rfl, rfl⟩
        refine ⟨RLe.refl _, qS, ?_⟩
        have hm9 := mod_range (nth xs cn) (show (1 : Int) ≤ (2 - 1) - (-1) + 1 by omega)
        refine WA.br2 (i := 1) (j := 6) qK ?_ ?_
        ·
         refine sL (Rd.add (Rd.blk 1 rfl) _) ?_
         refine WA.eff 6 rfl qK rfl rfl qD (Ef.buildSliceD (enc := encI) (parts := [.tmp 47]) [_] tab_ok rfl rfl rfl rfl rfl rfl rfl rfl qD qD (fun a48 => ?_))
         refine ⟨qR, qS, ?_⟩
         refine WA.eff 7 rfl (by kernel_rfl) rfl rfl (by decide) (Ef.appendD 1 0 tab_ok rfl rfl rfl rfl rfl rfl rfl rfl rfl rfl rfl (fun _ _ => rfl) (by simp only [List.length_cons, List.length_nil]; omega) (by simp only [List.length_cons, List.length_nil]; omega) (fun a49 c49 ha49 => ?_))
         refine ⟨qR, qS, ?_⟩
         refine tP 8 ?_
         refine zCF 9 2 ?_
         refine WA.done qK ?_
         refine zL (zU (zG (zR 1 rfl ?_)))
         refine yS ?_
         refine zR 1 rfl (zN ?_)
         refine WE.again ((j, ys ++ [-1 + mod (nth xs cn) ((2 - 1) - -1 + 1)], cn + 1, a49, c49)) (⟨by simp only [List.length_append, List.length_cons, List.length_nil]; omega, by simp only [List.length_append, List.length_cons, List.length_nil]; omega, fun y hy => by rcases List.mem_append.1 hy with h | h; exact hy3 y h; have := List.mem_singleton.1 h; omega⟩) (by (try dsimp only); omega) ⟨vint (by omega), rfl, rfl, rfl, rfl, rfl⟩ (RLe.refl _) qS
        ·
         refine WS.eff rfl rfl rfl qD (Ef.buildSliceD (enc := encI) (parts := [.tmp 47]) [_] tab_ok rfl rfl rfl rfl rfl rfl rfl rfl qD qD (fun a48 => ?_))
         refine ⟨qR, qS, ?_⟩
         refine lL 1 (Rd.add (Rd.blk 2 rfl) _) ?_
         refine WA.eff 7 rfl (by kernel_rfl) rfl rfl (by decide) (Ef.appendD 1 0 tab_ok rfl rfl rfl rfl rfl rfl rfl rfl rfl rfl rfl (fun _ _ => rfl) (by simp only [List.length_cons, List.length_nil]; omega) (by simp only [List.length_cons, List.length_nil]; omega) (fun a49 c49 ha49 => ?_))
         refine ⟨qR, qS, ?_⟩
         refine tP 8 ?_
         refine zCF 9 2 ?_
         refine WA.done qK ?_
         refine zL (zU (zG (zR 1 rfl ?_)))
         refine yS ?_
         refine zR 1 rfl (zN ?_)
         refine WE.again ((j, ys ++ [-1 + mod (nth xs cn) ((2 - 1) - -1 + 1)], cn + 1, a49, c49)) (⟨by simp only [List.length_append, List.length_cons, List.length_nil]; omega, by simp only [List.length_append, List.length_cons, List.length_nil]; omega, fun y hy => by rcases List.mem_append.1 hy with h | h; exact hy3 y h; have := List.mem_singleton.1 h; omega⟩) (by (try dsimp only); omega) ⟨vint (by omega), rfl, rfl, rfl, rfl, rfl⟩ (RLe.refl _) qS
      ·try dsimp only at hc7
       refine W.freeze (enc := encI) (xs := ys) 0 rfl ?_
       intro R1 hR1 hwz
       refine zX ?_
       refine wx (wx (zY (zL (zU (zQ (zG ?_))))))
       refine yL (Rd.blk 0 rfl) ?_
       refine zE 1 ?_
       refine zN (zU (zT ?_))
       refine WE.retFS (E' := srcE b a cp xs (cn) :: F) qS tab_ok [_] rfl ⟨⟨_, _, _, rfl, rfl, rfl, qB, rfl⟩, trivial⟩ (by first | assumption | exact RLe.refl _) ?_
       exact ⟨_, [], rfl, ⟨5, (4 + mod (nth xs c) (24 - 4 + 1)), 2, [], ys⟩, none, _, 0, _, _, rfl, rs_nil, hwz, ⟨by dsimp only; omega, rfl, by dsimp only; omega, fun h => by dsimp only at h; omega, fun h => by dsimp only at h; omega, fun h => by dsimp only at h; omega, fun h => by dsimp only at h; omega, fun _ => ⟨rfl, by dsimp only; omega, by dsimp only; omega, hy3⟩⟩, rfl, rfl⟩

set_option maxHeartbeats 4000000 in
theorem Port1_C {R : Ro} {b : Nat} {a : Option Addr} {cp : Nat} {xs : List Int} {c : Nat} (w0 : World) (ha : K.RS R 1 encI a xs) : FnAt Tryz.prog 26 [.pointer (some ⟨b, 0, none⟩), .int .i64 1] w0 R (srcE b a cp xs c) (fun v R' e' N => ∃ (L : Ln) (aw at_ : Option Addr) (cw ct cn : Nat), v = .agg #[.int .i64 L.kind, .int .i64 L.cap, .int .i64 L.n, .slice aw L.w.length cw, .slice at_ L.tb.length ct] ∧ K.RS R' 1 encI aw L.w ∧ K.RS R' 1 encI at_ L.tb ∧ DrawP 1 L ∧ e' = srcE b a cp xs cn ∧ N = []) := by
 intro F
 refine fE 85 Tryz.func26 ?_
 refine zQ (zG ?_)
 refine zA fun b4 => ?_
 refine zN (zU (zQ (zG (zR 1 rfl ?_))))
 refine WL.callAt 1 en25 rfl rfl qD (CallOp.mkT rfl rfl rfl rfl) rfl (Range_C (lo := 4) (hi := 24) w0 ha qO qO _) ?_
 rintro _ _ _ _ - ⟨rfl, rfl, rfl, rfl⟩
 have hm0 := mod_range (nth xs (c)) (show (1 : Int) ≤ 24 - 4 + 1 by omega)
 refine zR 1 rfl ?_
 -- build
 refine WG.y rfl rfl qD (Yl.build (parts := [(0, .const (.int .i64 1)), (1, .tmp 11), (2, .tmp 12)]) tab_ok rfl rfl rfl rfl (fun _ => rfl) rfl rfl) ?_
 refine zA fun b5 => ?_
 refine zE 0 ?_
 refine zN (zU (zQ (zQ (zG (zR 3 rfl ?_)))))
 refine yP ?_
 refine WL.callAtT 2 en17 rfl rfl (by rfl) qD (CallOp.mk' rfl rfl rfl rfl) rfl rfl (N_C (n := 3) w0 ha (by constructor <;> decide) _) ?_
 rintro _ _ _ _ - ⟨rfl, rfl, rfl, rfl⟩
 have hm2 := mod_range (nth xs (c + 1)) (show (1 : Int) ≤ 3 by decide)
 refine yP ?_
 refine yN ?_
 refine zN (zU ?_)
 refine W.cond rfl (fun hc0 => ?_) (fun hc0 => ?_)
 ·try simp only [zk] at hc0
  refine zQ (zG ?_)
  refine yL (Rd.blk 0 rfl) ?_
  refine zE 1 ?_
  refine zN (zU (zT (wt ?_)))
  refine WE.retFS (E' := srcE b a cp xs (c + 1 + 1) :: F) qS tab_ok [_] rfl ⟨⟨_, _, _, rfl, rfl, rfl, qB, rfl⟩, trivial⟩ (by first | assumption | exact RLe.refl _) ?_
  exact ⟨_, [], rfl, ⟨1, (4 + mod (nth xs c) (24 - 4 + 1)), 1, [], []⟩, none, none, 0, 0, _, rfl, rs_nil, rs_nil, ⟨by dsimp only; omega, rfl, by dsimp only; omega, fun _ => ⟨rfl, rfl⟩, fun _ => rfl, fun h => by dsimp only at h; omega, fun h => by dsimp only at h; omega, fun h => by dsimp only at h; omega⟩, rfl, rfl⟩
 ·try simp only [zk] at hc0
  refine zK (zU (zQ (zQ (zG (zR 1 rfl ?_)))))
  refine WL.callAt 2 en17 rfl rfl qD (CallOp.mkT rfl rfl rfl rfl) rfl (N_C w0 ha (by constructor <;> decide) _) ?_
  rintro _ _ _ _ - ⟨rfl, rfl, rfl, rfl⟩
  have hm1 := mod_range (nth xs (c + 1 + 1)) (show (1 : Int) ≤ 4 by decide)
  refine zN (zU (zB (zQ (zG (zR 2 rfl (zN (zU ?_)))))))
  refine W.condE rfl (fun hc1 => ?_) (fun hc1 => ?_)
  ·try dsimp only at hc1
   refine zG (zR 1 rfl ?_)
   refine zF 0 ?_
   refine zN (zL (zU (zQ (zG ?_))))
   refine yL (Rd.blk 0 rfl) ?_
   refine zE 1 ?_
   refine zN (zU (zT ?_))
   refine WE.retFS (E' := srcE b a cp xs (c + 1 + 1 + 1) :: F) qS tab_ok [_] rfl ⟨⟨_, _, _, rfl, rfl, rfl, qB, rfl⟩, trivial⟩ (by first | assumption | exact RLe.refl _) ?_
   exact ⟨_, [], rfl, ⟨2, (4 + mod (nth xs c) (24 - 4 + 1)), 1, [], []⟩, none, none, 0, 0, _, rfl, rs_nil, rs_nil, ⟨by dsimp only; omega, rfl, by dsimp only; omega, fun _ => ⟨rfl, rfl⟩, fun h => by dsimp only at h; omega, fun h => by dsimp only at h; omega, fun h => by dsimp only at h; omega, fun h => by dsimp only at h; omega⟩, rfl, rfl⟩
  ·try dsimp only at hc1
   refine zQ (zG (zR 2 rfl (zN (zU ?_))))
   refine W.condE rfl (fun hc2 => ?_) (fun hc2 => ?_)
   ·try dsimp only at hc2
    refine zQ (zG (zR 1 rfl ?_))
    refine zF 0 ?_
    refine zN (zU ?_)
    refine W.nil 3 1 qD ?_
    refine zQ (zG (zR 1 rfl (zN (zU (zB ?_)))))
    refine W.loopK (β := Nat × List Int × Nat × Option Addr × Nat) (fun (i, ys, cn, a9, c9) => ys.length = i ∧ i ≤ 1 ∧ ∀ y ∈ ys, 1 ≤ y ∧ y ≤ 3) (fun (i, ys, cn, a9, c9) => [(6, true, .int .i64 (i : Int))]) [0, 1, 4, 5] [_, _, _, _] [] _ rfl (fun (i, ys, cn, a9, c9) => [(0, .sl 3 1 a9 c9 (ys.map encI)), (1, .blk b5 [.int .i64 3, .int .i64 (4 + mod (nth xs c) (24 - 4 + 1)), .int .i64 1, .slice a9 ys.length c9, .slice none 0 0]), (3, srcE b a cp xs cn)]) (fun (i, ys, cn, a9, c9) => 1 - i) ((0, [], c + 1 + 1 + 1, none, 0)) (⟨rfl, Nat.zero_le _, fun y h => (by cases h)⟩) ⟨rfl, rfl, rfl, rfl, rfl, rfl⟩ qS ?_
    intro zz hst
    obtain ⟨i, ys, cn, a9, c9⟩ := zz
    dsimp only [zipE, setAll, List.cons_append, List.nil_append, List.set_cons_zero, List.set_cons_succ] at hst ⊢
    obtain ⟨hy1, hy2, hy3⟩ := hst
    refine zQ (zQ (zG (zR 3 rfl (zN (zU ?_)))))
    refine W.condD rfl (fun hc3 => ?_) (fun hc3 => ?_)
    ·try dsimp only at hc3
     refine zK (zU (zQ (zB ?_)))
     refine W.regionH _ (ES := (.blk b4 [.int .i64 0, .int .i64 0, .int .i64 0, .slice none 0 0, .slice none 0 0] :: F)) mixed ?_
     refine tP 0 ?_
     refine tP 2 ?_
     refine WA.br2 (i := 1) (j := 3) qK ?_ ?_
     ·
      refine sL (Rd.add (Rd.blk 1 rfl) _) ?_
      refine WA.callAt 3 3 rfl qK en25 rfl rfl qD (CallOp.mkT rfl rfl rfl rfl) rfl (Range_C (lo := 1) (hi := 3) w0 ha qO qO _) ?_
      rintro _ _ _ _ - ⟨rfl, rfl, rfl, rfl⟩
      refine ⟨RLe.refl _, qS, ?_⟩
      have hm9 := mod_range (nth xs cn) (show (1 : Int) ≤ 3 - 1 + 1 by omega)
      refine WA.eff 4 rfl qK rfl rfl qD (Ef.buildSliceD (enc := encI) (parts := [.tmp 65]) [_] tab_ok rfl rfl rfl rfl rfl rfl rfl rfl qD qD (fun a66 => ?_))
      refine ⟨qR, qS, ?_⟩
      refine WA.eff 5 rfl (by kernel_rfl) rfl rfl (by decide) (Ef.appendD 1 0 tab_ok rfl rfl rfl rfl rfl rfl rfl rfl rfl rfl rfl (fun _ _ => rfl) (by simp only [List.length_cons, List.length_nil]; omega) (by simp only [List.length_cons, List.length_nil]; omega) (fun a67 c67 ha67 => ?_))
      refine ⟨qR, qS, ?_⟩
      refine tP 6 ?_
      refine zCF 7 2 ?_
      refine WA.done qK ?_
      refine zL (zU (zG (zR 1 rfl ?_)))
      refine yA ?_
      refine zR 1 rfl (zN ?_)
      refine WE.again ((i + 1, ys ++ [1 + mod (nth xs cn) (3 - 1 + 1)], cn + 1, a67, c67)) (⟨by simp only [List.length_append, List.length_cons, List.length_nil]; omega, by omega, fun y hy => by rcases List.mem_append.1 hy with h | h; exact hy3 y h; have := List.mem_singleton.1 h; omega⟩) (by (try dsimp only); omega) ⟨rfl, rfl, rfl, rfl, rfl, rfl⟩ (RLe.refl _) qS
     ·
      refine WS.callAt 3 rfl en25 rfl rfl qD (CallOp.mkT rfl rfl rfl rfl) rfl (Range_C (lo := 1) (hi := 3) w0 ha qO qO _) ?_
      rintro _ _ _ _ - ⟨rfl, rfl, rfl, rfl⟩
      refine ⟨RLe.refl _, qS, ?_⟩
      have hm9 := mod_range (nth xs cn) (show (1 : Int) ≤ 3 - 1 + 1 by omega)
      refine WA.br2 (i := 1) (j := 4) qK ?_ ?_
      ·
       refine sL (Rd.add (Rd.blk 1 rfl) _) ?_
       refine WA.eff 4 rfl qK rfl rfl qD (Ef.buildSliceD (enc := encI) (parts := [.tmp 65]) [_] tab_ok rfl rfl rfl rfl rfl rfl rfl rfl qD qD (fun a66 => ?_))
       refine ⟨qR, qS, ?_⟩
       refine WA.eff 5 rfl (by kernel_rfl) rfl rfl (by decide) (Ef.appendD 1 0 tab_ok rfl rfl rfl rfl rfl rfl rfl rfl rfl rfl rfl (fun _ _ => rfl) (by simp only [List.length_cons, List.length_nil]; omega) (by simp only [List.length_cons, List.length_nil]; omega) (fun a67 c67 ha67 => ?_))
       refine ⟨qR, qS, ?_⟩
       refine tP 6 ?_
       refine zCF 7 2 ?_
       refine WA.done qK ?_
       refine zL (zU (zG (zR 1 rfl ?_)))
       refine yA ?_
       refine zR 1 rfl (zN ?_)
       refine WE.again ((i + 1, ys ++ [1 + mod (nth xs cn) (3 - 1 + 1)], cn + 1, a67, c67)) (⟨by simp only [List.length_append, List.length_cons, List.length_nil]; omega, by omega, fun y hy => by rcases List.mem_append.1 hy with h | h; exact hy3 y h; have := List.mem_singleton.1 h; omega⟩) (by (try dsimp only); omega) ⟨rfl, rfl, rfl, rfl, rfl, rfl⟩ (RLe.refl _) qS
      ·
       refine WS.eff rfl rfl rfl qD (Ef.buildSliceD (enc := encI) (parts := [.tmp 65]) [_] tab_ok rfl rfl rfl rfl rfl rfl rfl rfl qD qD (fun a66 => ?_))
       refine ⟨qR, qS, ?_⟩
       refine lL 1 (Rd.add (Rd.blk 2 rfl) _) ?_
       refine WA.eff 5 rfl (by kernel_rfl) rfl rfl (by decide) (Ef.appendD 1 0 tab_ok rfl rfl rfl rfl rfl rfl rfl rfl rfl rfl rfl (fun _ _ => rfl) (by simp only [List.length_cons, List.length_nil]; omega) (by simp only [List.length_cons, List.length_nil]; omega) (fun a67 c67 ha67 => ?_))
       refine ⟨qR, qS, ?_⟩
       refine tP 6 ?_
       refine zCF 7 2 ?_
       refine WA.done qK ?_
       refine zL (zU (zG (zR 1 rfl ?_)))
       refine yA ?_
       refine zR 1 rfl (zN ?_)
       refine WE.again ((i + 1, ys ++ [1 + mod (nth xs cn) (3 - 1 + 1)], cn + 1, a67, c67)) (⟨by simp only [List.length_append, List.length_cons, List.length_nil]; omega, by omega, fun y hy => by rcases List.mem_append.1 hy with h | h; exact hy3 y h; have := List.mem_singleton.1 h; omega⟩) (by (try dsimp only); omega) ⟨rfl, rfl, rfl, rfl, rfl, rfl⟩ (RLe.refl _) qS
    ·try dsimp only at hc3
     refine W.freeze (enc := encI) (xs := ys) 0 rfl ?_
     intro R1 hR1 hwz
     refine zX ?_
     refine wx (wx (zY (zL (zU (zQ (zG ?_))))))
     refine yL (Rd.blk 0 rfl) ?_
     refine zE 1 ?_
     refine zN (zU (zT ?_))
     refine WE.retFS (E' := srcE b a cp xs (cn) :: F) qS tab_ok [_] rfl ⟨⟨_, _, _, rfl, rfl, rfl, qB, rfl⟩, trivial⟩ (by first | assumption | exact RLe.refl _) ?_
     exact ⟨_, [], rfl, ⟨3, (4 + mod (nth xs c) (24 - 4 + 1)), 1, ys, []⟩, _, none, _, 0, _, rfl, hwz, rs_nil, ⟨by dsimp only; omega, rfl, by dsimp only; omega, fun h => by dsimp only at h; omega, fun h => by dsimp only at h; omega, fun _ => ⟨by dsimp only; omega, hy3, rfl⟩, fun h => by dsimp only at h; omega, fun h => by dsimp only at h; omega⟩, rfl, rfl⟩
   ·try dsimp only at hc2
    refine zQ (zG (zR 2 rfl (zN (zU ?_))))
    refine W.condE rfl (fun hc4 => ?_) (fun hc4 => ?_)
    ·try dsimp only at hc4
     refine zQ (zG (zR 1 rfl ?_))
     refine zF 0 ?_
     refine zN (zU ?_)
     refine W.nil 3 1 qD ?_
     refine zQ (zG (zR 1 rfl (zN (zU (zB ?_)))))
     refine W.loopK (β := Nat × List Int × Nat × Option Addr × Nat) (fun (i, ys, cn, a9, c9) => ys.length = i ∧ i ≤ 1 ∧ ∀ y ∈ ys, 8 ≤ y ∧ y ≤ 20) (fun (i, ys, cn, a9, c9) => [(7, true, .int .i64 (i : Int))]) [0, 1, 4, 5] [_, _, _, _] [] _ rfl (fun (i, ys, cn, a9, c9) => [(0, .sl 3 1 a9 c9 (ys.map encI)), (1, .blk b5 [.int .i64 4, .int .i64 (4 + mod (nth xs c) (24 - 4 + 1)), .int .i64 1, .slice a9 ys.length c9, .slice none 0 0]), (3, srcE b a cp xs cn)]) (fun (i, ys, cn, a9, c9) => 1 - i) ((0, [], c + 1 + 1 + 1, none, 0)) (⟨rfl, Nat.zero_le _, fun y h => (by cases h)⟩) ⟨rfl, rfl, rfl, rfl, rfl, rfl⟩ qS ?_
     intro zz hst
     obtain ⟨i, ys, cn, a9, c9⟩ := zz
     dsimp only [zipE, setAll, List.cons_append, List.nil_append, List.set_cons_zero, List.set_cons_succ] at hst ⊢
     obtain ⟨hy1, hy2, hy3⟩ := hst
     refine zQ (zQ (zG (zR 3 rfl (zN (zU ?_)))))
     refine W.condD rfl (fun hc5 => ?_) (fun hc5 => ?_)
     ·try dsimp only at hc5
      refine zK (zU (zQ (zB ?_)))
      refine W.regionH _ (ES := (.blk b4 [.int .i64 0, .int .i64 0, .int .i64 0, .slice none 0 0, .slice none 0 0] :: F)) mixed ?_
      refine tP 0 ?_
      refine tP 2 ?_
      refine WA.br2 (i := 1) (j := 3) qK ?_ ?_
      ·
       refine sL (Rd.add (Rd.blk 1 rfl) _) ?_
       refine WA.callAt 3 3 rfl qK en25 rfl rfl qD (CallOp.mkT rfl rfl rfl rfl) rfl (Range_C (lo := 8) (hi := 20) w0 ha qO qO _) ?_
       rintro _ _ _ _ - ⟨rfl, rfl, rfl, rfl⟩
       refine ⟨RLe.refl _, qS, ?_⟩
       have hm9 := mod_range (nth xs cn) (show (1 : Int) ≤ 20 - 8 + 1 by omega)
       refine WA.eff 4 rfl qK rfl rfl qD (Ef.buildSliceD (enc := encI) (parts := [.tmp 80]) [_] tab_ok rfl rfl rfl rfl rfl rfl rfl rfl qD qD (fun a81 => ?_))
       refine ⟨qR, qS, ?_⟩
       refine WA.eff 5 rfl (by kernel_rfl) rfl rfl (by decide) (Ef.appendD 1 0 tab_ok rfl rfl rfl rfl rfl rfl rfl rfl rfl rfl rfl (fun _ _ => rfl) (by simp only [List.length_cons, List.length_nil]; omega) (by simp only [List.length_cons, List.length_nil]; omega) (fun a82 c82 ha82 => ?_))
       refine ⟨qR, qS, ?_⟩
       refine tP 6 ?_
       refine zCF 7 2 ?_
       refine WA.done qK ?_
       refine zL (zU (zG (zR 1 rfl ?_)))
       refine yA ?_
       refine zR 1 rfl (zN ?_)
       refine WE.again ((i + 1, ys ++ [8 + mod (nth xs cn) (20 - 8 + 1)], cn + 1, a82, c82)) (⟨by simp only [List.length_append, List.length_cons, List.length_nil]; omega, by omega, fun y hy => by rcases List.mem_append.1 hy with h | h; exact hy3 y h; have := List.mem_singleton.1 h; omega⟩) (by (try dsimp only); omega) ⟨rfl, rfl, rfl, rfl, rfl, rfl⟩ (RLe.refl _) qS
      ·
       refine WS.callAt 3 rfl en25 rfl rfl qD (CallOp.mkT rfl rfl rfl rfl) rfl (Range_C (lo := 8) (hi := 20) w0 ha qO qO _) ?_
       rintro _ _ _ _ - ⟨rfl, rfl, rfl, rfl⟩
       refine ⟨RLe.refl _, qS, ?_⟩
       have hm9 := mod_range (nth xs cn) (show (1 : Int) ≤ 20 - 8 + 1 by omega)
       refine WA.br2 (i := 1) (j := 4) qK ?_ ?_
       ·
        refine sL (Rd.add (Rd.blk 1 rfl) _) ?_
        refine WA.eff 4 rfl qK rfl rfl qD (Ef.buildSliceD (enc := encI) (parts := [.tmp 80]) [_] tab_ok rfl rfl rfl rfl rfl rfl rfl rfl qD qD (fun a81 => ?_))
        refine ⟨qR, qS, ?_⟩
        refine WA.eff 5 rfl (by kernel_rfl) rfl rfl (by decide) (Ef.appendD 1 0 tab_ok rfl rfl rfl rfl rfl rfl rfl rfl rfl rfl rfl (fun _ _ => rfl) (by simp only [List.length_cons, List.length_nil]; omega) (by simp only [List.length_cons, List.length_nil]; omega) (fun a82 c82 ha82 => ?_))
        refine ⟨qR, qS, ?_⟩
        refine tP 6 ?_
        refine zCF 7 2 ?_
        refine WA.done qK ?_
        refine zL (zU (zG (zR 1 rfl ?_)))
        refine yA ?_
        refine zR 1 rfl (zN ?_)
        refine WE.again ((i + 1, ys ++ [8 + mod (nth xs cn) (20 - 8 + 1)], cn + 1, a82, c82)) (⟨by simp only [List.length_append, List.length_cons, List.length_nil]; omega, by omega, fun y hy => by rcases List.mem_append.1 hy with h | h; exact hy3 y h; have := List.mem_singleton.1 h; omega⟩) (by (try dsimp only); omega) ⟨rfl, rfl, rfl, rfl, rfl, rfl⟩ (RLe.refl _) qS
       ·
        refine WS.eff rfl rfl rfl qD (Ef.buildSliceD (enc := encI) (parts := [.tmp 80]) [_] tab_ok rfl rfl rfl rfl rfl rfl rfl rfl qD qD (fun a81 => ?_))
        refine ⟨qR, qS, ?_⟩
        refine lL 1 (Rd.add (Rd.blk 2 rfl) _) ?_
        refine WA.eff 5 rfl (by kernel_rfl) rfl rfl (by decide) (Ef.appendD 1 0 tab_ok rfl rfl rfl rfl rfl rfl rfl rfl rfl rfl rfl (fun _ _ => rfl) (by simp only [List.length_cons, List.length_nil]; omega) (by simp only [List.length_cons, List.length_nil]; omega) (fun a82 c82 ha82 => ?_))
        refine ⟨qR, qS, ?_⟩
        refine tP 6 ?_
        refine zCF 7 2 ?_
        refine WA.done qK ?_
        refine zL (zU (zG (zR 1 rfl ?_)))
        refine yA ?_
        refine zR 1 rfl (zN ?_)
        refine WE.again ((i + 1, ys ++ [8 + mod (nth xs cn) (20 - 8 + 1)], cn + 1, a82, c82)) (⟨by simp only [List.length_append, List.length_cons, List.length_nil]; omega, by omega, fun y hy => by rcases List.mem_append.1 hy with h | h; exact hy3 y h; have := List.mem_singleton.1 h; omega⟩) (by (try dsimp only); omega) ⟨rfl, rfl, rfl, rfl, rfl, rfl⟩ (RLe.refl _) qS
     ·try dsimp only at hc5
      refine W.freeze (enc := encI) (xs := ys) 0 rfl ?_
      intro R1 hR1 hwz
      refine zX ?_
      refine wx (wx (zY (zL (zU (zQ (zG ?_))))))
      refine yL (Rd.blk 0 rfl) ?_
      refine zE 1 ?_
      refine zN (zU (zT ?_))
      refine WE.retFS (E' := srcE b a cp xs (cn) :: F) qS tab_ok [_] rfl ⟨⟨_, _, _, rfl, rfl, rfl, qB, rfl⟩, trivial⟩ (by first | assumption | exact RLe.refl _) ?_
      exact ⟨_, [], rfl, ⟨4, (4 + mod (nth xs c) (24 - 4 + 1)), 1, ys, []⟩, _, none, _, 0, _, rfl, hwz, rs_nil, ⟨by dsimp only; omega, rfl, by dsimp only; omega, fun h => by dsimp only at h; omega, fun h => by dsimp only at h; omega, fun h => by dsimp only at h; omega, fun _ => ⟨by dsimp only; omega, hy3, rfl⟩, fun h => by dsimp only at h; omega⟩, rfl, rfl⟩
    ·try dsimp only at hc4
     refine zQ (zG (zR 1 rfl ?_))
     refine zF 0 ?_
     refine zN (zU (zQ ?_))
     refine W.nil 3 1 qD ?_
     refine zQ (zG (zR 1 rfl (zN (zU (zB ?_)))))
     refine W.loopK (β := Nat × List Int × Option Addr × Nat) (fun (i, ys, a9, c9) => ys.length = i ∧ i ≤ 1 ∧ ∀ y ∈ ys, -1 ≤ y ∧ y ≤ (1 : Int) - 1) (fun (i, ys, a9, c9) => [(8, true, .int .i64 (i : Int))]) [0, 1, 4, 5] [_, _, _, _] [] _ rfl (fun (i, ys, a9, c9) => [(0, .sl 3 1 a9 c9 (ys.map encI)), (1, .blk b5 [.int .i64 5, .int .i64 (4 + mod (nth xs c) (24 - 4 + 1)), .int .i64 1, .slice none 0 0, .slice a9 ys.length c9])]) (fun (i, ys, a9, c9) => 1 - i) ((0, [], none, 0)) (⟨rfl, Nat.zero_le _, fun y h => (by cases h)⟩) ⟨rfl, rfl, rfl, rfl, rfl, rfl⟩ qS ?_
     intro zz hst
     obtain ⟨i, ys, a9, c9⟩ := zz
     dsimp only [zipE, setAll, List.cons_append, List.nil_append, List.set_cons_zero, List.set_cons_succ] at hst ⊢
     obtain ⟨hy1, hy2, hy3⟩ := hst
     refine zQ (zQ (zG (zR 3 rfl (zN (zU ?_)))))
     refine W.condD rfl (fun hc6 => ?_) (fun hc6 => ?_)
     ·try dsimp only at hc6
      refine zK (zU (zQ (zB (zG (zR 1 rfl ?_)))))
      refine yL (Rd.add (Rd.blk 1 rfl) _) ?_
      refine zR 1 rfl ?_
      refine WL.ef rfl rfl qD (Ef.buildSliceD (enc := encI) (parts := [.tmp 32]) [_] tab_ok rfl rfl rfl rfl rfl rfl rfl rfl qD qD (fun a33 => ?_))
      refine WL.ef rfl rfl (by decide) (Ef.appendD 1 0 tab_ok rfl rfl rfl rfl rfl rfl rfl rfl rfl rfl rfl (fun _ _ => rfl) (by simp only [List.length_cons, List.length_nil]; omega) (by simp only [List.length_cons, List.length_nil]; omega) (fun a34 c34 ha34 => ?_))
      refine zR 1 rfl ?_
      refine zF 2 ?_
      refine zN (zL (zU (zG (zR 1 rfl ?_))))
      refine yA ?_
      refine zR 1 rfl (zN ?_)
      refine WE.again ((i + 1, ys ++ [(i : Int)], a34, c34)) (⟨by simp only [List.length_append, List.length_cons, List.length_nil]; omega, by omega, fun y hy => by rcases List.mem_append.1 hy with h | h; exact hy3 y h; have := List.mem_singleton.1 h; omega⟩) (by (try dsimp only); omega) ⟨rfl, rfl, rfl, rfl, rfl, rfl⟩ (RLe.refl _) qS
     ·try dsimp only at hc6
      refine zX ?_
      refine wx (wx (zY (zU (zQ (zG (zR 1 rfl ?_))))))
      refine WL.callAt 3 en17 rfl rfl qD (CallOp.mkT rfl rfl rfl rfl) rfl (N_C w0 ha (by constructor <;> decide) _) ?_
      rintro _ _ _ _ - ⟨rfl, rfl, rfl, rfl⟩
      have hm8 := mod_range (nth xs (c + 1 + 1 + 1)) (show (1 : Int) ≤ 3 by decide)
      obtain ⟨k8, hk8⟩ := Int.eq_ofNat_of_zero_le hm8.1
      rw [hk8]
      refine zR 1 rfl (zN (zU (zB ?_)))
      refine W.loopK (β := Nat × List Int × Nat × Option Addr × Nat) (fun (j, ys, cn, a9, c9) => 1 ≤ ys.length ∧ ys.length + j ≤ 3 ∧ ∀ y ∈ ys, -1 ≤ y ∧ y ≤ (1 : Int) - 1) (fun (j, ys, cn, a9, c9) => [(9, true, .int .i64 (j : Int))]) [0, 1, 4, 5] [_, _, _, _] [] _ rfl (fun (j, ys, cn, a9, c9) => [(0, .sl 3 1 a9 c9 (ys.map encI)), (1, .blk b5 [.int .i64 5, .int .i64 (4 + mod (nth xs c) (24 - 4 + 1)), .int .i64 1, .slice none 0 0, .slice a9 ys.length c9]), (3, srcE b a cp xs cn)]) (fun (j, ys, cn, a9, c9) => j) ((k8, ys, c + 1 + 1 + 1 + 1, a9, c9)) (⟨by (try dsimp only); omega, by (try dsimp only); omega, hy3⟩) ⟨rfl, rfl, rfl, rfl, rfl, rfl⟩ qS ?_
      intro zz hst
      obtain ⟨j, ys, cn, a9, c9⟩ := zz
      dsimp only [zipE, setAll, List.cons_append, List.nil_append, List.set_cons_zero, List.set_cons_succ] at hst ⊢
      obtain ⟨hy1, hy2, hy3⟩ := hst
      refine zQ (zQ (zG (zR 2 rfl (zN (zU ?_)))))
      refine W.condD rfl (fun hc7 => ?_) (fun hc7 => ?_)
      ·try dsimp only at hc7
       obtain ⟨j, rfl⟩ : ∃ m, j = m + 1 := ⟨j - 1, by omega⟩
       refine zK (zU (zQ (zB ?_)))
       refine W.regionH _ (ES := (.blk b4 [.int .i64 0, .int .i64 0, .int .i64 0, .slice none 0 0, .slice none 0 0] :: F)) mixed ?_
       refine tP 0 ?_
       refine tP 2 ?_
       refine tP 3 ?_
       refine tS 4 ?_
       refine WA.br2 (i := 1) (j := 5) qK ?_ ?_
       ·
        refine sL (Rd.add (Rd.blk 1 rfl) _) ?_
        refine WA.callAt 3 5 rfl qK en25 rfl rfl qD (CallOp.mkT rfl rfl rfl rfl) rfl (Range_C (lo := (-1)) (hi := (1 - 1)) w0 ha qO qO _) ?_
        rintro _ _ _ _ - ⟨rfl, rfl, rfl, rfl⟩
        refine ⟨RLe.refl _, qS, ?_⟩
        have hm9 := mod_range (nth xs cn) (show (1 : Int) ≤ (1 - 1) - (-1) + 1 by omega)
        refine WA.eff 6 rfl qK rfl rfl qD (Ef.buildSliceD (enc := encI) (parts := [.tmp 47]) [_] tab_ok rfl rfl rfl rfl rfl rfl rfl rfl qD qD (fun a48 => ?_))
        refine ⟨qR, qS, ?_⟩
        refine WA.eff 7 rfl (by kernel_rfl) rfl rfl (by decide) (Ef.appendD 1 0 tab_ok rfl rfl rfl rfl rfl rfl rfl rfl rfl rfl rfl (fun _ _ => rfl) (by simp only [List.length_cons, List.length_nil]; omega) (by simp only [List.length_cons, List.length_nil]; omega) (fun a49 c49 ha49 => ?_))
        refine ⟨qR, qS, ?_⟩
        refine tP 8 ?_
        refine zCF 9 2 ?_
        refine WA.done qK ?_
        refine zL (zU (zG (zR 1 rfl ?_)))
        refine yS ?_
        refine zR 1 rfl (zN ?_)
        refine WE.again ((j, ys ++ [-1 + mod (nth xs cn) ((1 - 1) - -1 + 1)], cn + 1, a49, c49)) (⟨by simp only [List.length_append, List.length_cons, List.length_nil]; omega, by simp only [List.length_append, List.length_cons, List.length_nil]; omega, fun y hy => by rcases List.mem_append.1 hy with h | h; exact hy3 y h; have := List.mem_singleton.1 h; omega⟩) (by (try dsimp only); omega) ⟨vint (by omega), rfl, rfl, rfl, rfl, rfl⟩ (RLe.refl _) qS
       ·
        refine WS.callAt 3 rfl en25 rfl rfl qD (CallOp.mkT rfl rfl rfl rfl) rfl (Range_C (lo := (-1)) (hi := (1 - 1)) w0 ha qO qO _) ?_
        rintro _ _ _ _ - ⟨rfl, rfl, rfl, rfl⟩
        refine ⟨RLe.refl _, qS, ?_⟩
        have hm9 := mod_range (nth xs cn) (show (1 : Int) ≤ (1 - 1) - (-1) + 1 by omega)
        refine WA.br2 (i := 1) (j := 6) qK ?_ ?_
        ·
         refine sL (Rd.add (Rd.blk 1 rfl) _) ?_
         refine WA.eff 6 rfl qK rfl rfl qD (Ef.buildSliceD (enc := encI) (parts := [.tmp 47]) [_] tab_ok rfl rfl rfl rfl rfl rfl rfl rfl qD qD (fun a48 => ?_))
         refine ⟨qR, qS, ?_⟩
         refine WA.eff 7 rfl (by kernel_rfl) rfl rfl (by decide) (Ef.appendD 1 0 tab_ok rfl rfl rfl rfl rfl rfl rfl rfl rfl rfl rfl (fun _ _ => rfl) (by simp only [List.length_cons, List.length_nil]; omega) (by simp only [List.length_cons, List.length_nil]; omega) (fun a49 c49 ha49 => ?_))
         refine ⟨qR, qS, ?_⟩
         refine tP 8 ?_
         refine zCF 9 2 ?_
         refine WA.done qK ?_
         refine zL (zU (zG (zR 1 rfl ?_)))
         refine yS ?_
         refine zR 1 rfl (zN ?_)
         refine WE.again ((j, ys ++ [-1 + mod (nth xs cn) ((1 - 1) - -1 + 1)], cn + 1, a49, c49)) (⟨by simp only [List.length_append, List.length_cons, List.length_nil]; omega, by simp only [List.length_append, List.length_cons, List.length_nil]; omega, fun y hy => by rcases List.mem_append.1 hy with h | h; exact hy3 y h; have := List.mem_singleton.1 h; omega⟩) (by (try dsimp only); omega) ⟨vint (by omega), rfl, rfl, rfl, rfl, rfl⟩ (RLe.refl _) qS
        ·
         refine WS.eff rfl rfl rfl qD (Ef.buildSliceD (enc := encI) (parts := [.tmp 47]) [_] tab_ok rfl rfl rfl rfl rfl rfl rfl rfl qD qD (fun a48 => ?_))
         refine ⟨qR, qS, ?_⟩
         refine lL 1 (Rd.add (Rd.blk 2 rfl) _) ?_
         refine WA.eff 7 rfl (by kernel_rfl) rfl rfl (by decide) (Ef.appendD 1 0 tab_ok rfl rfl rfl rfl rfl rfl rfl rfl rfl rfl rfl (fun _ _ => rfl) (by simp only [List.length_cons, List.length_nil]; omega) (by simp only [List.length_cons, List.length_nil]; omega) (fun a49 c49 ha49 => ?_))
         refine ⟨qR, qS, ?_⟩
         refine tP 8 ?_
         refine zCF 9 2 ?_
         refine WA.done qK ?_
         refine zL (zU (zG (zR 1 rfl ?_)))
         refine yS ?_
         refine zR 1 rfl (zN ?_)
         refine WE.again ((j, ys ++ [-1 + mod (nth xs cn) ((1 - 1) - -1 + 1)], cn + 1, a49, c49)) (⟨by simp only [List.length_append, List.length_cons, List.length_nil]; omega, by simp only [List.length_append, List.length_cons, List.length_nil]; omega, fun y hy => by rcases List.mem_append.1 hy with h | h; exact hy3 y h; have := List.mem_singleton.1 h; omega⟩) (by (try dsimp only); omega) ⟨vint (by omega), rfl, rfl, rfl, rfl, rfl⟩ (RLe.refl _) qS
      ·try dsimp only at hc7
       refine W.freeze (enc := encI) (xs := ys) 0 rfl ?_
       intro R1 hR1 hwz
       refine zX ?_
       refine wx (wx (zY (zL (zU (zQ (zG ?_))))))
       refine yL (Rd.blk 0 rfl) ?_
       refine zE 1 ?_
       refine zN (zU (zT ?_))
       refine WE.retFS (E' := srcE b a cp xs (cn) :: F) qS tab_ok [_] rfl ⟨⟨_, _, _, rfl, rfl, rfl, qB, rfl⟩, trivial⟩ (by first | assumption | exact RLe.refl _) ?_
       exact ⟨_, [], rfl, ⟨5, (4 + mod (nth xs c) (24 - 4 + 1)), 1, [], ys⟩, none, _, 0, _, _, rfl, rs_nil, hwz, ⟨by dsimp only; omega, rfl, by dsimp only; omega, fun h => by dsimp only at h; omega, fun h => by dsimp only at h; omega, fun h => by dsimp only at h; omega, fun h => by dsimp only at h; omega, fun _ => ⟨rfl, by dsimp only; omega, by dsimp only; omega, hy3⟩⟩, rfl, rfl⟩



theorem PortK_C {k : Nat} (hk : k = 1 ∨ k = 2) {R : Ro} {b : Nat} {a : Option Addr} {cp : Nat} {xs : List Int} {c : Nat} (w0 : World) (ha : K.RS R 1 encI a xs) : FnAt Tryz.prog 26 [.pointer (some ⟨b, 0, none⟩), .int .i64 (k : Int)] w0 R (srcE b a cp xs c) (fun v R' e' N => ∃ (L : Ln) (aw at_ : Option Addr) (cw ct cn : Nat), v = .agg #[.int .i64 L.kind, .int .i64 L.cap, .int .i64 L.n, .slice aw L.w.length cw, .slice at_ L.tb.length ct] ∧ K.RS R' 1 encI aw L.w ∧ K.RS R' 1 encI at_ L.tb ∧ DrawP k L ∧ e' = srcE b a cp xs cn ∧ N = []) := by
 rcases hk with rfl | rfl
 ·exact Port1_C w0 ha
 ·exact Port2_C w0 ha

set_option maxHeartbeats 8000000 in
theorem Net40_C {R : Ro} {b : Nat} {a : Option Addr} {cp : Nat} {xs : List Int} {c : Nat} (w0 : World) (ha : K.RS R 1 encI a xs) : FnAt Tryz.prog 9 [.pointer (some ⟨b, 0, none⟩), .int .i64 4, .int .i64 0] w0 R (srcE b a cp xs c) (fun v R' e' N => ∃ (k : Nat) (ms : List LnM) (na la : Option Addr) (nc lc cn : Nat), v = .agg #[.slice na (nm4.take ms.length).length nc, .slice la ms.length lc, .slice none 0 0] ∧ (k = 1 ∨ k = 2) ∧ (1 ≤ ms.length ∧ ms.length ≤ 4) ∧ K.RS R' 1 encT na (nm4.take ms.length) ∧ K.RS R' 5 encLn la ms ∧ (∀ m ∈ ms, OkLn R' m ∧ DrawP k m.L) ∧ e' = srcE b a cp xs cn ∧ N = []) := by
 intro F
 refine fE 64 Tryz.func9 ?_
 refine zQ (zG ?_)
 refine zA fun b6 => ?_
 refine zN (zU (zQ (zG ?_)))
 refine zA fun b7 => ?_
 refine zN (zU (zQ (zG (zR 1 rfl ?_))))
 refine WL.callAt 2 en25 rfl rfl qD (CallOp.mkT rfl rfl rfl rfl) rfl (Range_C (lo := 1) (hi := 2) w0 ha qO qO _) ?_
 rintro _ _ _ _ - ⟨rfl, rfl, rfl, rfl⟩
 obtain ⟨k, hkv, hk⟩ : ∃ k : Nat, 1 + mod (nth xs c) (2 - 1 + 1) = (k : Int) ∧ (k = 1 ∨ k = 2) := by
  have := mod_range (nth xs c) (show (1 : Int) ≤ 2 - 1 + 1 by omega)
  exact ⟨(1 + mod (nth xs c) (2 - 1 + 1)).toNat, by omega, by omega⟩
 rw [hkv]
 refine zR 1 rfl (zN (zU (zQ ?_)))
 refine W.nil 29 5 qD ?_
 refine W.nil 9 1 qD ?_
 refine zQ (zG (zR 2 rfl ?_))
 refine WL.callAt 4 en25 rfl rfl qD (CallOp.mkT rfl rfl rfl rfl) rfl (Range_C (lo := 1) (hi := 4) w0 ha qO qO _) ?_
 rintro _ _ _ _ - ⟨rfl, rfl, rfl, rfl⟩
 obtain ⟨n, hnv, hn⟩ : ∃ n : Nat, 1 + mod (nth xs (c + 1)) (4 - 1 + 1) = (n : Int) ∧ 1 ≤ n ∧ n ≤ 4 := by
  have := mod_range (nth xs (c + 1)) (show (1 : Int) ≤ 4 - 1 + 1 by omega)
  exact ⟨(1 + mod (nth xs (c + 1)) (4 - 1 + 1)).toNat, by omega, by omega⟩
 rw [hnv]
 refine zR 1 rfl (zN (zU (zB ?_)))
 refine W.loopR (β := Nat × List (List UInt8) × List LnM × Option Addr × Nat × Option Addr × Nat × Nat × Ro) (fun (j, ns, ms, a1, c1, a2, c2, cn, Rk) => j + ms.length = n ∧ ns = nm4.take ms.length ∧ RLe R Rk ∧ ∀ m ∈ ms, OkLn Rk m ∧ DrawP k m.L) (fun (j, ns, ms, a1, c1, a2, c2, cn, Rk) => [(9, true, .int .i64 (j : Int))]) [0, 2, 6, 7, 8] [_, _, _, _, _] [] _ rfl (fun (j, ns, ms, a1, c1, a2, c2, cn, Rk) => [(0, .sl 9 1 a1 c1 (ns.map encT)), (1, .sl 29 5 a2 c2 (ms.map encLn)), (2, .blk b7 [.slice a1 ns.length c1, .slice a2 ms.length c2, .slice none 0 0]), (4, srcE b a cp xs cn)]) (fun (j, ns, ms, a1, c1, a2, c2, cn, Rk) => Rk) (fun (j, ns, ms, a1, c1, a2, c2, cn, Rk) => j) ((n, [], [], none, 0, none, 0, c + 1 + 1, R)) (⟨by simp, rfl, RLe.refl _, fun m h => (by cases h)⟩) ⟨rfl, rfl, rfl, rfl, rfl, rfl, rfl⟩ (RLe.refl _) qS ?_
 intro zz hst
 obtain ⟨j, ns, ms, a1, c1, a2, c2, cn, Rk⟩ := zz
 dsimp only [zipE, setAll, List.cons_append, List.nil_append, List.set_cons_zero, List.set_cons_succ] at hst ⊢
 obtain ⟨hj, hns, hRk, hom⟩ := hst
 have ha := ha.mono hRk
 have hnl : ns.length = ms.length := by rw [hns, List.length_take]; show min _ 4 = _; omega
 refine zQ (zQ (zG (zR 2 rfl (zN (zU ?_)))))
 refine W.condD rfl (fun hc0 => ?_) (fun hc0 => ?_)
 ·try dsimp only at hc0
  have htk : ns ++ [nth nm4 (ns.length % 4)] = nm4.take (ms.length + 1) := by
   rw [hnl, Nat.mod_eq_of_lt (by omega), hns]
   exact (take_nth (show ms.length < nm4.length by show _ < 4; omega)).symm
  refine zK (zU (zQ (zB ?_)))
  refine W.seqCut (β := Option Addr × Nat) (fun (a3, c3) => True) (fun (a3, c3) => [(0, true, .pointer (some ⟨b, 0, none⟩)), (2, true, .int .i64 0), (7, true, .pointer (some ⟨b7, 0, none⟩)), (8, true, .int .i64 (k : Int)), (6, true, .pointer (some ⟨b6, 0, none⟩)), (9, true, .int .i64 (j : Int))]) (fun _ => Rk) (fun (a3, c3) => .sl 9 1 a3 c3 ((nm4.take (ms.length + 1)).map encT) :: .sl 29 5 a2 c2 (ms.map encLn) :: .blk b7 [.slice a3 (nm4.take (ms.length + 1)).length c3, .slice a2 ms.length c2, .slice none 0 0] :: .blk b6 [.slice none 0 0, .slice none 0 0, .slice none 0 0] :: srcE b a cp xs cn :: F) ?_ ?_
  ·
   intro _zz hst
   obtain ⟨a3, c3⟩ := _zz
   dsimp only
   refine W.regionH _ (ES := (.blk b6 [.slice none 0 0, .slice none 0 0, .slice none 0 0] :: F)) mixed ?_
   refine tP 0 ?_
   refine tP 2 ?_
   refine tP 3 ?_
   refine WA.br2 (i := 1) (j := 4) qK ?_ ?_
   ·
    refine sL (Rd.add (Rd.blk 2 rfl) _) ?_
    refine WA.callAt 4 4 rfl qK en26 rfl rfl qD (CallOp.mkT rfl rfl rfl rfl) rfl (PortK_C hk w0 ha _) ?_
    rintro _ R2 _ _ hR2 ⟨L, aw, at_, cw, ct, cq, rfl, hf1, hf2, hdp, rfl, rfl⟩
    refine ⟨by first | exact hR2 | assumption, qS, ?_⟩
    refine WA.eff 5 rfl qK rfl rfl qD (Ef.buildSliceD (enc := encLn) (parts := [.tmp 36]) [⟨aw, cw, at_, ct, L⟩] tab_ok rfl rfl rfl rfl rfl rfl rfl rfl qD qD (fun a37 => ?_))
    refine ⟨qR, qS, ?_⟩
    refine WA.eff 6 rfl (by kernel_rfl) rfl rfl (by decide) (Ef.appendD 2 0 tab_ok rfl rfl rfl rfl rfl rfl rfl rfl rfl rfl rfl (fun _ _ => rfl) (by simp only [List.length_cons, List.length_nil]; omega) (by simp only [List.length_cons, List.length_nil]; omega) (fun a38 c38 ha38 => ?_))
    refine ⟨qR, qS, ?_⟩
    refine tP 7 ?_
    refine zCF 8 3 ?_
    refine WA.done qK ?_
    refine zL (zU (zG (zR 1 rfl ?_)))
    refine yS ?_
    refine zR 1 rfl (zN ?_)
    refine WE.again ((j - 1, nm4.take (ms.length + 1), ms ++ [⟨aw, cw, at_, ct, L⟩], a3, c3, a38, c38, cq, R2)) (⟨by rw [List.length_append]; show j - 1 + (ms.length + 1) = n; omega, by rw [List.length_append]; rfl, hRk.trans hR2, fun m hm => by
     rcases List.mem_append.1 hm with h | h
     ·exact ⟨(hom m h).1.mono hR2, (hom m h).2⟩
     ·rw [List.mem_singleton.1 h]; exact ⟨⟨hf1, hf2⟩, hdp⟩⟩) (by show j - 1 < j; omega) ⟨vint (by show (j : Int) - 1 = ((j - 1 : Nat) : Int); omega), rfl, rfl, rfl, rfl, rfl, rfl⟩ (RLe.refl _) qS
   ·
    refine WS.callAt 4 rfl en26 rfl rfl qD (CallOp.mkT rfl rfl rfl rfl) rfl (PortK_C hk w0 ha _) ?_
    rintro _ R2 _ _ hR2 ⟨L, aw, at_, cw, ct, cq, rfl, hf1, hf2, hdp, rfl, rfl⟩
    refine ⟨by first | exact hR2 | assumption, qS, ?_⟩
    refine WA.br2 (i := 1) (j := 5) qK ?_ ?_
    ·
     refine sL (Rd.add (Rd.blk 2 rfl) _) ?_
     refine WA.eff 5 rfl qK rfl rfl qD (Ef.buildSliceD (enc := encLn) (parts := [.tmp 36]) [⟨aw, cw, at_, ct, L⟩] tab_ok rfl rfl rfl rfl rfl rfl rfl rfl qD qD (fun a37 => ?_))
     refine ⟨qR, qS, ?_⟩
     refine WA.eff 6 rfl (by kernel_rfl) rfl rfl (by decide) (Ef.appendD 2 0 tab_ok rfl rfl rfl rfl rfl rfl rfl rfl rfl rfl rfl (fun _ _ => rfl) (by simp only [List.length_cons, List.length_nil]; omega) (by simp only [List.length_cons, List.length_nil]; omega) (fun a38 c38 ha38 => ?_))
     refine ⟨qR, qS, ?_⟩
     refine tP 7 ?_
     refine zCF 8 3 ?_
     refine WA.done qK ?_
     refine zL (zU (zG (zR 1 rfl ?_)))
     refine yS ?_
     refine zR 1 rfl (zN ?_)
     refine WE.again ((j - 1, nm4.take (ms.length + 1), ms ++ [⟨aw, cw, at_, ct, L⟩], a3, c3, a38, c38, cq, R2)) (⟨by rw [List.length_append]; show j - 1 + (ms.length + 1) = n; omega, by rw [List.length_append]; rfl, hRk.trans hR2, fun m hm => by
      rcases List.mem_append.1 hm with h | h
      ·exact ⟨(hom m h).1.mono hR2, (hom m h).2⟩
      ·rw [List.mem_singleton.1 h]; exact ⟨⟨hf1, hf2⟩, hdp⟩⟩) (by show j - 1 < j; omega) ⟨vint (by show (j : Int) - 1 = ((j - 1 : Nat) : Int); omega), rfl, rfl, rfl, rfl, rfl, rfl⟩ (RLe.refl _) qS
    ·
     refine WS.eff rfl rfl rfl qD (Ef.buildSliceD (enc := encLn) (parts := [.tmp 36]) [⟨aw, cw, at_, ct, L⟩] tab_ok rfl rfl rfl rfl rfl rfl rfl rfl qD qD (fun a37 => ?_))
     refine ⟨qR, qS, ?_⟩
     refine lL 1 (Rd.add (Rd.blk 3 rfl) _) ?_
     refine WA.eff 6 rfl (by kernel_rfl) rfl rfl (by decide) (Ef.appendD 2 0 tab_ok rfl rfl rfl rfl rfl rfl rfl rfl rfl rfl rfl (fun _ _ => rfl) (by simp only [List.length_cons, List.length_nil]; omega) (by simp only [List.length_cons, List.length_nil]; omega) (fun a38 c38 ha38 => ?_))
     refine ⟨qR, qS, ?_⟩
     refine tP 7 ?_
     refine zCF 8 3 ?_
     refine WA.done qK ?_
     refine zL (zU (zG (zR 1 rfl ?_)))
     refine yS ?_
     refine zR 1 rfl (zN ?_)
     refine WE.again ((j - 1, nm4.take (ms.length + 1), ms ++ [⟨aw, cw, at_, ct, L⟩], a3, c3, a38, c38, cq, R2)) (⟨by rw [List.length_append]; show j - 1 + (ms.length + 1) = n; omega, by rw [List.length_append]; rfl, hRk.trans hR2, fun m hm => by
      rcases List.mem_append.1 hm with h | h
      ·exact ⟨(hom m h).1.mono hR2, (hom m h).2⟩
      ·rw [List.mem_singleton.1 h]; exact ⟨⟨hf1, hf2⟩, hdp⟩⟩) (by show j - 1 < j; omega) ⟨vint (by show (j : Int) - 1 = ((j - 1 : Nat) : Int); omega), rfl, rfl, rfl, rfl, rfl, rfl⟩ (RLe.refl _) qS
  ·
   refine W.regionH _ (ES := (.blk b6 [.slice none 0 0, .slice none 0 0, .slice none 0 0] :: F)) mixed ?_
   refine tP 0 ?_
   refine tP 3 ?_
   refine WA.br3 (i := 1) (j := 2) (k := 4) qK ?_ ?_ ?_
   ·
    refine sL (Rd.add (Rd.blk 2 rfl) _) ?_
    refine WA.br2 (i := 2) (j := 4) qK ?_ ?_
    ·
     refine WS.eff rfl rfl rfl qD (Ef.buildSliceD (enc := encT) (parts := [.const (.string ⟨#[97]⟩), .const (.string ⟨#[98]⟩), .const (.string ⟨#[99]⟩), .const (.string ⟨#[100]⟩)]) nm4 tab_ok rfl rfl rfl rfl rfl rfl rfl rfl qD qD (fun a22 => ?_))
     refine ⟨qR, qS, ?_⟩
     refine lL 4 (Rd.add (Rd.blk 3 rfl) _) ?_
     refine tP 5 ?_
     refine WA.take 6 rfl qK qK qK rfl rfl qD (Yl.rem rfl rfl rfl (fun _ => rfl) qN qN) qS qR ?_
     refine WA.take 7 rfl qK qK qK rfl rfl qD (Yl.indexN tab_ok rfl rfl rfl rfl rfl rfl (fun _ => rfl) (by intro _; (show _ < 4; exact Nat.mod_lt _ qD)) qH) qS qR ?_
     refine' WA.yl 8 rfl qK rfl rfl qD (Yl.load1 tab_ok rfl rfl rfl (fun _ => rfl) ?r6 rfl ?h6) qS qR ?_
     case r6 => exact Rd.slD 0 rfl (by show _ < 4; exact Nat.mod_lt _ qD)
     case h6 => rfl
     refine WA.eff 9 rfl qK rfl rfl qD (Ef.buildSliceD (enc := encT) (parts := [.tmp 28]) [nth nm4 (ns.length % 4)] tab_ok rfl rfl rfl rfl rfl rfl rfl rfl qD qD (fun a29 => ?_))
     refine ⟨qR, qS, ?_⟩
     refine WA.eff 10 rfl (by kernel_rfl) rfl rfl (by decide) (Ef.appendD 2 0 tab_ok rfl rfl rfl rfl rfl rfl rfl rfl rfl rfl rfl (fun _ _ => rfl) (by simp only [List.length_cons, List.length_nil]; omega) (by simp only [List.length_cons, List.length_nil]; omega) (fun a30 c30 ha30 => ?_))
     refine ⟨qR, qS, ?_⟩
     refine tP 11 ?_
     refine zCF 12 4 ?_
     refine WA.done qK ?_
     rw [htk]
     refine WE.cut (a30, c30) trivial ⟨rfl, rfl, rfl, rfl, rfl, rfl, rfl⟩ (RLe.refl _) qS
    ·
     refine sL (Rd.add (Rd.blk 2 rfl) _) ?_
     refine tP 5 ?_
     refine WA.take 6 rfl qK qK qK rfl rfl qD (Yl.rem rfl rfl rfl (fun _ => rfl) qN qN) qS qR ?_
     refine WA.eff 2 rfl qK rfl rfl qD (Ef.buildSliceD (enc := encT) (parts := [.const (.string ⟨#[97]⟩), .const (.string ⟨#[98]⟩), .const (.string ⟨#[99]⟩), .const (.string ⟨#[100]⟩)]) nm4 tab_ok rfl rfl rfl rfl rfl rfl rfl rfl qD qD (fun a22 => ?_))
     refine ⟨qR, qS, ?_⟩
     refine WA.take 7 rfl qK qK qK rfl rfl qD (Yl.indexN tab_ok rfl rfl rfl rfl rfl rfl (fun _ => rfl) (by intro _; (show _ < 4; exact Nat.mod_lt _ qD)) qH) qS qR ?_
     refine' WA.yl 8 rfl qK rfl rfl qD (Yl.load1 tab_ok rfl rfl rfl (fun _ => rfl) ?r8 rfl ?h8) qS qR ?_
     case r8 => exact Rd.slD 0 rfl (by show _ < 4; exact Nat.mod_lt _ qD)
     case h8 => rfl
     refine WA.eff 9 rfl qK rfl rfl qD (Ef.buildSliceD (enc := encT) (parts := [.tmp 28]) [nth nm4 (ns.length % 4)] tab_ok rfl rfl rfl rfl rfl rfl rfl rfl qD qD (fun a29 => ?_))
     refine ⟨qR, qS, ?_⟩
     refine WA.eff 10 rfl (by kernel_rfl) rfl rfl (by decide) (Ef.appendD 2 0 tab_ok rfl rfl rfl rfl rfl rfl rfl rfl rfl rfl rfl (fun _ _ => rfl) (by simp only [List.length_cons, List.length_nil]; omega) (by simp only [List.length_cons, List.length_nil]; omega) (fun a30 c30 ha30 => ?_))
     refine ⟨qR, qS, ?_⟩
     refine tP 11 ?_
     refine zCF 12 4 ?_
     refine WA.done qK ?_
     rw [htk]
     refine WE.cut (a30, c30) trivial ⟨rfl, rfl, rfl, rfl, rfl, rfl, rfl⟩ (RLe.refl _) qS
   ·
    refine WS.eff rfl rfl rfl qD (Ef.buildSliceD (enc := encT) (parts := [.const (.string ⟨#[97]⟩), .const (.string ⟨#[98]⟩), .const (.string ⟨#[99]⟩), .const (.string ⟨#[100]⟩)]) nm4 tab_ok rfl rfl rfl rfl rfl rfl rfl rfl qD qD (fun a22 => ?_))
    refine ⟨qR, qS, ?_⟩
    refine WA.br2 (i := 1) (j := 4) qK ?_ ?_
    ·
     refine sL (Rd.add (Rd.blk 3 rfl) _) ?_
     refine lL 4 (Rd.add (Rd.blk 3 rfl) _) ?_
     refine tP 5 ?_
     refine WA.take 6 rfl qK qK qK rfl rfl qD (Yl.rem rfl rfl rfl (fun _ => rfl) qN qN) qS qR ?_
     refine WA.take 7 rfl qK qK qK rfl rfl qD (Yl.indexN tab_ok rfl rfl rfl rfl rfl rfl (fun _ => rfl) (by intro _; (show _ < 4; exact Nat.mod_lt _ qD)) qH) qS qR ?_
     refine' WA.yl 8 rfl qK rfl rfl qD (Yl.load1 tab_ok rfl rfl rfl (fun _ => rfl) ?r11 rfl ?h11) qS qR ?_
     case r11 => exact Rd.slD 0 rfl (by show _ < 4; exact Nat.mod_lt _ qD)
     case h11 => rfl
     refine WA.eff 9 rfl qK rfl rfl qD (Ef.buildSliceD (enc := encT) (parts := [.tmp 28]) [nth nm4 (ns.length % 4)] tab_ok rfl rfl rfl rfl rfl rfl rfl rfl qD qD (fun a29 => ?_))
     refine ⟨qR, qS, ?_⟩
     refine WA.eff 10 rfl (by kernel_rfl) rfl rfl (by decide) (Ef.appendD 2 0 tab_ok rfl rfl rfl rfl rfl rfl rfl rfl rfl rfl rfl (fun _ _ => rfl) (by simp only [List.length_cons, List.length_nil]; omega) (by simp only [List.length_cons, List.length_nil]; omega) (fun a30 c30 ha30 => ?_))
     refine ⟨qR, qS, ?_⟩
     refine tP 11 ?_
     refine zCF 12 4 ?_
     refine WA.done qK ?_
     rw [htk]
     refine WE.cut (a30, c30) trivial ⟨rfl, rfl, rfl, rfl, rfl, rfl, rfl⟩ (RLe.refl _) qS
    ·
     refine sL (Rd.add (Rd.blk 3 rfl) _) ?_
     refine tP 5 ?_
     refine WA.take 6 rfl qK qK qK rfl rfl qD (Yl.rem rfl rfl rfl (fun _ => rfl) qN qN) qS qR ?_
     refine WA.take 7 rfl qK qK qK rfl rfl qD (Yl.indexN tab_ok rfl rfl rfl rfl rfl rfl (fun _ => rfl) (by intro _; (show _ < 4; exact Nat.mod_lt _ qD)) qH) qS qR ?_
     refine WA.br2 (i := 1) (j := 8) qK ?_ ?_
     ·
      refine sL (Rd.add (Rd.blk 3 rfl) _) ?_
      refine' WA.yl 8 rfl qK rfl rfl qD (Yl.load1 tab_ok rfl rfl rfl (fun _ => rfl) ?r14 rfl ?h14) qS qR ?_
      case r14 => exact Rd.slD 0 rfl (by show _ < 4; exact Nat.mod_lt _ qD)
      case h14 => rfl
      refine WA.eff 9 rfl qK rfl rfl qD (Ef.buildSliceD (enc := encT) (parts := [.tmp 28]) [nth nm4 (ns.length % 4)] tab_ok rfl rfl rfl rfl rfl rfl rfl rfl qD qD (fun a29 => ?_))
      refine ⟨qR, qS, ?_⟩
      refine WA.eff 10 rfl (by kernel_rfl) rfl rfl (by decide) (Ef.appendD 2 0 tab_ok rfl rfl rfl rfl rfl rfl rfl rfl rfl rfl rfl (fun _ _ => rfl) (by simp only [List.length_cons, List.length_nil]; omega) (by simp only [List.length_cons, List.length_nil]; omega) (fun a30 c30 ha30 => ?_))
      refine ⟨qR, qS, ?_⟩
      refine tP 11 ?_
      refine zCF 12 4 ?_
      refine WA.done qK ?_
      rw [htk]
      refine WE.cut (a30, c30) trivial ⟨rfl, rfl, rfl, rfl, rfl, rfl, rfl⟩ (RLe.refl _) qS
     ·
      refine' WS.yl rfl rfl rfl qD (Yl.load1 tab_ok rfl rfl rfl (fun _ => rfl) ?r15 rfl ?h15) qS qR ?_
      case r15 => exact Rd.slD 0 rfl (by show _ < 4; exact Nat.mod_lt _ qD)
      case h15 => rfl
      refine WA.br2 (i := 1) (j := 9) qK ?_ ?_
      ·
       refine sL (Rd.add (Rd.blk 3 rfl) _) ?_
       refine WA.eff 9 rfl qK rfl rfl qD (Ef.buildSliceD (enc := encT) (parts := [.tmp 28]) [nth nm4 (ns.length % 4)] tab_ok rfl rfl rfl rfl rfl rfl rfl rfl qD qD (fun a29 => ?_))
       refine ⟨qR, qS, ?_⟩
       refine WA.eff 10 rfl (by kernel_rfl) rfl rfl (by decide) (Ef.appendD 2 0 tab_ok rfl rfl rfl rfl rfl rfl rfl rfl rfl rfl rfl (fun _ _ => rfl) (by simp only [List.length_cons, List.length_nil]; omega) (by simp only [List.length_cons, List.length_nil]; omega) (fun a30 c30 ha30 => ?_))
       refine ⟨qR, qS, ?_⟩
       refine tP 11 ?_
       refine zCF 12 4 ?_
       refine WA.done qK ?_
       rw [htk]
       refine WE.cut (a30, c30) trivial ⟨rfl, rfl, rfl, rfl, rfl, rfl, rfl⟩ (RLe.refl _) qS
      ·
       refine WS.eff rfl rfl rfl qD (Ef.buildSliceD (enc := encT) (parts := [.tmp 28]) [nth nm4 (ns.length % 4)] tab_ok rfl rfl rfl rfl rfl rfl rfl rfl qD qD (fun a29 => ?_))
       refine ⟨qR, qS, ?_⟩
       refine lL 1 (Rd.add (Rd.blk 4 rfl) _) ?_
       refine WA.eff 10 rfl (by kernel_rfl) rfl rfl (by decide) (Ef.appendD 2 0 tab_ok rfl rfl rfl rfl rfl rfl rfl rfl rfl rfl rfl (fun _ _ => rfl) (by simp only [List.length_cons, List.length_nil]; omega) (by simp only [List.length_cons, List.length_nil]; omega) (fun a30 c30 ha30 => ?_))
       refine ⟨qR, qS, ?_⟩
       refine tP 11 ?_
       refine zCF 12 4 ?_
       refine WA.done qK ?_
       rw [htk]
       refine WE.cut (a30, c30) trivial ⟨rfl, rfl, rfl, rfl, rfl, rfl, rfl⟩ (RLe.refl _) qS
   ·
    refine sL (Rd.add (Rd.blk 2 rfl) _) ?_
    refine tP 5 ?_
    refine WA.take 6 rfl qK qK qK rfl rfl qD (Yl.rem rfl rfl rfl (fun _ => rfl) qN qN) qS qR ?_
    refine WA.br2 (i := 1) (j := 2) qK ?_ ?_
    ·
     refine sL (Rd.add (Rd.blk 2 rfl) _) ?_
     refine WA.eff 2 rfl qK rfl rfl qD (Ef.buildSliceD (enc := encT) (parts := [.const (.string ⟨#[97]⟩), .const (.string ⟨#[98]⟩), .const (.string ⟨#[99]⟩), .const (.string ⟨#[100]⟩)]) nm4 tab_ok rfl rfl rfl rfl rfl rfl rfl rfl qD qD (fun a22 => ?_))
     refine ⟨qR, qS, ?_⟩
     refine WA.take 7 rfl qK qK qK rfl rfl qD (Yl.indexN tab_ok rfl rfl rfl rfl rfl rfl (fun _ => rfl) (by intro _; (show _ < 4; exact Nat.mod_lt _ qD)) qH) qS qR ?_
     refine' WA.yl 8 rfl qK rfl rfl qD (Yl.load1 tab_ok rfl rfl rfl (fun _ => rfl) ?r20 rfl ?h20) qS qR ?_
     case r20 => exact Rd.slD 0 rfl (by show _ < 4; exact Nat.mod_lt _ qD)
     case h20 => rfl
     refine WA.eff 9 rfl qK rfl rfl qD (Ef.buildSliceD (enc := encT) (parts := [.tmp 28]) [nth nm4 (ns.length % 4)] tab_ok rfl rfl rfl rfl rfl rfl rfl rfl qD qD (fun a29 => ?_))
     refine ⟨qR, qS, ?_⟩
     refine WA.eff 10 rfl (by kernel_rfl) rfl rfl (by decide) (Ef.appendD 2 0 tab_ok rfl rfl rfl rfl rfl rfl rfl rfl rfl rfl rfl (fun _ _ => rfl) (by simp only [List.length_cons, List.length_nil]; omega) (by simp only [List.length_cons, List.length_nil]; omega) (fun a30 c30 ha30 => ?_))
     refine ⟨qR, qS, ?_⟩
     refine tP 11 ?_
     refine zCF 12 4 ?_
     refine WA.done qK ?_
     rw [htk]
     refine WE.cut (a30, c30) trivial ⟨rfl, rfl, rfl, rfl, rfl, rfl, rfl⟩ (RLe.refl _) qS
    ·
     refine WS.eff rfl rfl rfl qD (Ef.buildSliceD (enc := encT) (parts := [.const (.string ⟨#[97]⟩), .const (.string ⟨#[98]⟩), .const (.string ⟨#[99]⟩), .const (.string ⟨#[100]⟩)]) nm4 tab_ok rfl rfl rfl rfl rfl rfl rfl rfl qD qD (fun a22 => ?_))
     refine ⟨qR, qS, ?_⟩
     refine WA.take 7 rfl qK qK qK rfl rfl qD (Yl.indexN tab_ok rfl rfl rfl rfl rfl rfl (fun _ => rfl) (by intro _; (show _ < 4; exact Nat.mod_lt _ qD)) qH) qS qR ?_
     refine WA.br2 (i := 1) (j := 8) qK ?_ ?_
     ·
      refine sL (Rd.add (Rd.blk 3 rfl) _) ?_
      refine' WA.yl 8 rfl qK rfl rfl qD (Yl.load1 tab_ok rfl rfl rfl (fun _ => rfl) ?r22 rfl ?h22) qS qR ?_
      case r22 => exact Rd.slD 0 rfl (by show _ < 4; exact Nat.mod_lt _ qD)
      case h22 => rfl
      refine WA.eff 9 rfl qK rfl rfl qD (Ef.buildSliceD (enc := encT) (parts := [.tmp 28]) [nth nm4 (ns.length % 4)] tab_ok rfl rfl rfl rfl rfl rfl rfl rfl qD qD (fun a29 => ?_))
      refine ⟨qR, qS, ?_⟩
      refine WA.eff 10 rfl (by kernel_rfl) rfl rfl (by decide) (Ef.appendD 2 0 tab_ok rfl rfl rfl rfl rfl rfl rfl rfl rfl rfl rfl (fun _ _ => rfl) (by simp only [List.length_cons, List.length_nil]; omega) (by simp only [List.length_cons, List.length_nil]; omega) (fun a30 c30 ha30 => ?_))
      refine ⟨qR, qS, ?_⟩
      refine tP 11 ?_
      refine zCF 12 4 ?_
      refine WA.done qK ?_
      rw [htk]
      refine WE.cut (a30, c30) trivial ⟨rfl, rfl, rfl, rfl, rfl, rfl, rfl⟩ (RLe.refl _) qS
     ·
      refine' WS.yl rfl rfl rfl qD (Yl.load1 tab_ok rfl rfl rfl (fun _ => rfl) ?r23 rfl ?h23) qS qR ?_
      case r23 => exact Rd.slD 0 rfl (by show _ < 4; exact Nat.mod_lt _ qD)
      case h23 => rfl
      refine WA.br2 (i := 1) (j := 9) qK ?_ ?_
      ·
       refine sL (Rd.add (Rd.blk 3 rfl) _) ?_
       refine WA.eff 9 rfl qK rfl rfl qD (Ef.buildSliceD (enc := encT) (parts := [.tmp 28]) [nth nm4 (ns.length % 4)] tab_ok rfl rfl rfl rfl rfl rfl rfl rfl qD qD (fun a29 => ?_))
       refine ⟨qR, qS, ?_⟩
       refine WA.eff 10 rfl (by kernel_rfl) rfl rfl (by decide) (Ef.appendD 2 0 tab_ok rfl rfl rfl rfl rfl rfl rfl rfl rfl rfl rfl (fun _ _ => rfl) (by simp only [List.length_cons, List.length_nil]; omega) (by simp only [List.length_cons, List.length_nil]; omega) (fun a30 c30 ha30 => ?_))
       refine ⟨qR, qS, ?_⟩
       refine tP 11 ?_
       refine zCF 12 4 ?_
       refine WA.done qK ?_
       rw [htk]
       refine WE.cut (a30, c30) trivial ⟨rfl, rfl, rfl, rfl, rfl, rfl, rfl⟩ (RLe.refl _) qS
      ·
       refine WS.eff rfl rfl rfl qD (Ef.buildSliceD (enc := encT) (parts := [.tmp 28]) [nth nm4 (ns.length % 4)] tab_ok rfl rfl rfl rfl rfl rfl rfl rfl qD qD (fun a29 => ?_))
       refine ⟨qR, qS, ?_⟩
       refine lL 1 (Rd.add (Rd.blk 4 rfl) _) ?_
       refine WA.eff 10 rfl (by kernel_rfl) rfl rfl (by decide) (Ef.appendD 2 0 tab_ok rfl rfl rfl rfl rfl rfl rfl rfl rfl rfl rfl (fun _ _ => rfl) (by simp only [List.length_cons, List.length_nil]; omega) (by simp only [List.length_cons, List.length_nil]; omega) (fun a30 c30 ha30 => ?_))
       refine ⟨qR, qS, ?_⟩
       refine tP 11 ?_
       refine zCF 12 4 ?_
       refine WA.done qK ?_
       rw [htk]
       refine WE.cut (a30, c30) trivial ⟨rfl, rfl, rfl, rfl, rfl, rfl, rfl⟩ (RLe.refl _) qS
 ·try dsimp only at hc0
  obtain rfl : j = 0 := by omega
  subst hns
  refine zX ?_
  refine wx (wx (zY (zU (zQ ?_))))
  refine W.cap 0 rfl ?_
  intro hcl1
  refine W.cap 1 rfl ?_
  intro hcl2
  refine W.freeze (enc := encT) (xs := nm4.take ms.length) 0 rfl ?_
  intro R3 hR3 hna
  refine W.freeze (enc := encLn) (xs := ms) 0 rfl ?_
  intro R4 hR4 hla
  have hna := hna.mono hR4
  have ha := ha.mono (hR3.trans hR4)
  have hRR := (hRk.trans hR3).trans hR4
  refine zQ (zG (zR 2 rfl ?_))
  refine WL.callAt 2 en25 rfl rfl qD (CallOp.mkT rfl rfl rfl rfl) rfl (Range_C (lo := 0) (hi := 0) w0 ha qO qO _) ?_
  rintro _ _ _ _ - ⟨rfl, rfl, rfl, rfl⟩
  have hmz := mod_range (nth xs cn) (show (1 : Int) ≤ 0 - 0 + 1 by omega)
  rw [show (0 : Int) + mod (nth xs cn) (0 - 0 + 1) = 0 by omega]
  refine zR 1 rfl (zN (zU (zB ?_)))
  refine W.loopK (β := Unit) (fun _u => True) (fun _u => [(10, true, .int .i64 0)]) [0, 6, 7, 8] [_, _, _, _] [] _ rfl (fun _u => []) (fun _u => 0) (()) (trivial) ⟨rfl, rfl, rfl, rfl, rfl, rfl⟩ qS ?_
  intro _u hst
  dsimp only [zipE, setAll, List.cons_append, List.nil_append, List.set_cons_zero, List.set_cons_succ] at hst ⊢
  
  refine zQ (zQ (zG (zR 2 rfl (zN (zU ?_)))))
  refine W.condD rfl (fun hc1 => ?_) (fun hc1 => ?_)
  ·try dsimp only at hc1
   omega
  ·try dsimp only at hc1
   refine zX ?_
   refine wx (wx (zY (zU (zQ (zG ?_)))))
   refine yL (Rd.blk 0 rfl) ?_
   refine zE 1 ?_
   refine zN (zU (zT ?_))
   refine WE.retFS (E' := srcE b a cp xs (cn + 1) :: F) qS tab_ok [_] rfl ⟨⟨_, _, _, rfl, rfl, rfl, qB, rfl⟩, trivial⟩ (by first | assumption | exact RLe.refl _) ?_
   exact ⟨_, [], rfl, k, ms, _, _, _, _, _, rfl, hk, ⟨by omega, by omega⟩, hna, hla, fun m hm => ⟨(hom m hm).1.mono (hR3.trans hR4), (hom m hm).2⟩, rfl, rfl⟩

end Go.Proofs.YtmidibkljoaoiaaGreatDoor

/- Rules: remainders of numbers of any kind. No condition. -/
namespace Go.Proofs.YtmidibkljoaoiaaGreatDoor.K
open Go Go.RowKit
section
variable {P : Program} {T : Tab} {n : Nat} {env : Env} {w0 : World} {R : Ro} {E : List Ent} {o : Oper} {pc p q r : Bool}
end
end Go.Proofs.YtmidibkljoaoiaaGreatDoor.K

/- Rules: the bytes of a string as a slice of one's own (a place behind the last is marked), xor of bytes. No condition. -/
namespace Go.Proofs.YtmidibkljoaoiaaGreatDoor.K
open Go Go.RowKit
def byCells (l : List UInt8) (n : Nat) : Array Value := (l.map (fun c => Value.int .u8 c.toNat) ++ List.replicate n (Value.int .u8 0)).toArray
def byB (b : Nat) (e : TypeId) (l : List UInt8) (n : Nat) : Ent := .obj b (.cells (byCells l n) e (l.length + n, l.length + n + 1))
theorem byteAt_get {l : List UInt8} {i : Nat} (h : i < l.length) : byteAt l i = ((l[i]'h).toNat : Int) := by
 unfold byteAt
 rw [List.getD_eq_getElem?_getD, List.getElem?_eq_getElem h, Option.getD_some]
theorem byCells_get {l : List UInt8} {n i : Nat} (h : i < l.length) : (byCells l n)[i]? = some (.int .u8 (byteAt l i)) := by
 rw [byteAt_get h]
 unfold byCells
 rw [List.getElem?_toArray, List.getElem?_append_left (by simpa using h), List.getElem?_map, List.getElem?_eq_getElem h]
 rfl
section
variable {P : Program} {T : Tab} {n : Nat} {env : Env} {w0 : World} {R : Ro} {E : List Ent} {o : Oper} {pc p q r : Bool}
theorem Rd.byB {b : Nat} {e : TypeId} {l : List UInt8} {m i : Nat} (k : Nat) (h : E[k]? = some (byB b e l m)) (hi : i < l.length) : Rd R E (eaddr (some ⟨b, 0, none⟩) 1 i) [.int .u8 (byteAt l i)] := by
 intro w0 w hm j v hv
 obtain ⟨_, hb⟩ := hm.own _ (mem_of_get h)
 have hj : j = 0 := by
  rcases j with _ | j
  ·rfl
  ·simp at hv
 subst hj
 simp only [List.getElem?_cons_zero, Option.some.injEq] at hv
 subst hv
 have e1 : (eaddr (some ⟨b, 0, none⟩) 1 i).add 0 = ⟨b, i, none⟩ := by
  unfold eaddr
  rw [Option.getD_some, addr_add_add, addr_add_mk]
  simp
 rw [e1]
 simp [World.cell?, hb, byCells_get hi]
end
end Go.Proofs.YtmidibkljoaoiaaGreatDoor.K

/- Rules: what is behind a place of an array, and its bytes as a string. No condition. -/
namespace Go.Proofs.YtmidibkljoaoiaaGreatDoor.K
open Go Go.RowKit Go.Proofs.YtmidibkljoaoiaaGreatDoor.M
section
variable {P : Program} {T : Tab} {n : Nat} {env : Env} {w0 : World} {R : Ro} {E : List Ent} {o : Oper} {pc p q : Bool}
theorem Yl.sliceArrL {t e : TypeId} {x l : Operand} {b m : Nat} {i : Int} {d d2 : TD} (hT : TabOk P T) (ho : o.op = .slice t x (some l) none none) (hd : T.at t = some d) (hk : d.k = .arr m e) (hd2 : T.at e = some d2) (hs : d2.size = 1)
  (hx : ev env x = some (p, .pointer (some ⟨b, 0, none⟩))) (hl : ev env l = some (q, .int .i64 i)) (hpq : pc = true → (p && q) = true) (hi : pc = true → 0 ≤ i ∧ i < m) : Yl P n env w0 R E o pc (.slice (some ⟨b, i.toNat, none⟩) (m - i.toNat) (m - i.toNat)) := by
 intro ac w hkn hm hpc
 obtain ⟨h1, h2⟩ := and_both (hpq hpc)
 have hi := hi hpc
 have hne : ¬ m = i.toNat := by omega
 unfold execOp
 simp [ho, hkn.ev hx h1, hkn.ev hl h2, Instr.sliceAt, Instr.sureAddr, Instr.sliceBounds, Instr.sliceBound, asIntOf, underlying, hT.arr hd hk, hi, run_sizeOf hT hd2, hs, Addr.add, hne, show i ≤ (m : Int) by omega]
 intro _; omega
theorem Yl.blkStr {src dst e : TypeId} {x : Operand} {m b k cap : Nat} {cs : List Value} {l : List UInt8} {d d2 d3 : TD} (i : Nat) (hT : TabOk P T) (ho : o.op = .convert src dst x) (hd : T.at src = some d) (hk : d.k = .slice e) (hd2 : T.at e = some d2) (hk2 : d2.k = .int .u8) (hd3 : T.at dst = some d3) (hk3 : d3.k = .str)
  (hE : E[i]? = some (.blk b cs)) (hx : ev env x = some (p, .slice (some ⟨b, k, none⟩) m cap)) (hm : m = l.length) (hc : cs.drop k = l.map fun c => Value.int .u8 c.toNat) (hp : pc = true → p = true) : Yl P n env w0 R E o pc (.string (str l)) := by
 intro ac w hkn hmm hpc
 subst hm
 obtain ⟨hb, t, hh⟩ := hmm.own _ (mem_of_get hE)
 have e1 := run_convert_bytes_back w src dst e ⟨b, k, none⟩ cap l (hT.slice hd hk) (hT.int hd2 hk2) (hT.str hd3 hk3) (fun j hj => by
  rw [addr_add_mk]
  have h4 : (cs.drop k)[j]? = some (.int .u8 (l[j]).toNat) := by rw [hc, List.getElem?_map, List.getElem?_eq_getElem hj]; rfl
  rw [List.getElem?_drop] at h4
  simp [World.cell?, hh, h4])
 unfold execOp
 simp [ho, hkn.ev hx (hp hpc), e1, str]
end
end Go.Proofs.YtmidibkljoaoiaaGreatDoor.K

/- Chapter 24: decimals. No condition. -/
set_option maxRecDepth 4000
set_option linter.unusedSimpArgs false
set_option linter.unusedVariables false
namespace Go.Proofs.YtmidibkljoaoiaaGreatDoor
open Go Go.RowKit Go.Proofs.YtmidibkljoaoiaaGreatDoor.K Go.Proofs.YtmidibkljoaoiaaGreatDoor.M

set_option maxHeartbeats 1000000 in
theorem Dec24_V {R : Ro} {n : Nat} (hn : n ≤ 9223372036854775807) : FnV Tryz.prog 38 [.int .i64 (n : Int)] R (.string (str (Lib.decDigits n))) := by
 refine FnV.ofOwn (fun w0 hb0 => ?_)
 refine fE 20 Tryz.func38 ?_
 refine zQ (zG (zR 1 rfl (zN (zU (zQ (zG ?_))))))
 refine zA fun b3 => ?_
 refine zN (zU (zQ (zG (zR 1 rfl (zN (zU (zB ?_)))))))
 refine W.loopK (β := Nat × Nat × List Value × List UInt8) (fun (x, k, cs, suf) => x ≤ 9223372036854775807 ∧ cs.length = 20 ∧ k + suf.length = 20 ∧ 1 ≤ k ∧ x < 10 ^ (k - 1) ∧ cs.drop k = suf.map (fun c => Value.int .u8 c.toNat) ∧ Lib.decDigits x ++ suf = Lib.decDigits n) (fun (x, k, cs, suf) => [(0, true, .int .i64 (x : Int)), (4, true, .int .i64 (k : Int))]) [3] [_] [] _ rfl (fun (x, k, cs, suf) => [(0, .blk b3 cs)]) (fun (x, k, cs, suf) => k) ((n, 20, List.replicate 20 (.int .u8 0), [])) (⟨hn, rfl, rfl, by decide, by show n < 10 ^ 19; omega, rfl, List.append_nil _⟩) ⟨rfl, rfl, rfl, rfl⟩ qS ?_
 intro zz hst
 obtain ⟨x, k, cs, suf⟩ := zz
 dsimp only [zipE, setAll, List.cons_append, List.nil_append, List.set_cons_zero, List.set_cons_succ] at hst ⊢
 obtain ⟨hxm, hcl, hks, hk1, hxk, hdr, hde⟩ := hst
 refine zB (zQ (zG (zR 1 rfl ?_)))
 refine yS ?_
 rw [show (k : Int) - 1 = ((k - 1 : Nat) : Int) by omega]
 have hk11 : k - 1 < cs.length := by omega
 have hseg := seg_snoc (v := Value.int .u8 (UInt8.ofNat (48 + x % 10)).toNat) hk11
 rw [show k - 1 + 1 = k by omega, hdr] at hseg
 have hsl := setSeg_length (cs := cs) (off := k - 1) (vs := [Value.int .u8 (UInt8.ofNat (48 + x % 10)).toNat]) (by show k - 1 + 1 ≤ _; omega)
 refine zR 1 rfl (zN (zU (zQ (zG (zR 2 rfl ?_)))))
 refine WG.y rfl rfl qD (Yl.rem rfl rfl rfl (fun _ => rfl) qN qN) ?_
 refine yA ?_
 rw [show (48 : Int) + (x : Int) % 10 = ((UInt8.ofNat (48 + x % 10)).toNat : Int) from by rw [← u8_dig (show x % 10 ≤ 9 by omega)]; omega]
 have hu8 := UInt8.toNat_lt (UInt8.ofNat (48 + x % 10))
 refine WG.y rfl rfl qD (Yl.convId tab_ok rfl rfl rfl rfl rfl rfl (fun _ => rfl) (by intro _; (try dsimp only); first | exact u64_id ⟨by omega, by omega⟩ | exact i64_wrap ⟨by omega, by omega⟩ | exact u8_id ⟨by omega, by omega⟩)) ?_
 refine WG.y rfl rfl qD (Yl.indexArr tab_ok rfl rfl rfl rfl rfl rfl (fun _ => rfl) qA) ?_
 refine WL.efN rfl rfl (Ef.store (off := k - 1) 0 tab_ok rfl rfl (by show some (true, Value.pointer (some ((⟨b3, 0, none⟩ : Addr).add ((((k - 1 : Nat) : Int)).toNat * 1)))) = _; rw [Int.toNat_natCast, Nat.mul_one]) rfl rfl rfl (Nat.ble_eq_true_of_le (by show k - 1 + 1 ≤ cs.length; omega)) rfl ?_)
 refine zN (zU (zQ (zG (zR 1 rfl ?_))))
 refine WG.y rfl rfl qD (Yl.quo rfl rfl rfl (fun _ => rfl) qA (by intro _; omega)) ?_
 rw [show (x : Int) / 10 = ((x / 10 : Nat) : Int) by omega]
 refine zR 1 rfl (zN (zU (zQ (zG (zR 2 rfl (zN (zU ?_)))))))
 refine W.condE rfl (fun hc0 => ?_) (fun hc0 => ?_)
 ·try dsimp only at hc0
  have hx10 : x < 10 := by omega
  rw [dec_one hx10] at hde
  refine zQ (zG (zR 1 rfl ?_))
  refine WG.y rfl rfl qD (Yl.sliceArrL tab_ok rfl rfl rfl rfl rfl rfl rfl (fun _ => rfl) qN) ?_
  refine WG.y rfl rfl qD (Yl.blkStr (l := UInt8.ofNat (48 + x % 10) :: suf) 0 tab_ok rfl rfl rfl rfl rfl rfl rfl rfl rfl (by show _ = suf.length + 1; omega) hseg (fun _ => rfl)) ?_
  refine zR 1 rfl (zN (zU (zT (wb (wt (wb ?_))))))
  refine WE.subE (E' := []) qS ?_
  refine WE.retF tab_ok [_] rfl ⟨rfl, trivial⟩ (RLe.refl _) ?_
  show Value.string _ = Value.string _
  rw [← hde, Nat.mod_eq_of_lt hx10]; rfl
 ·try dsimp only at hc0
  have hx10 : ¬ x < 10 := by omega
  rw [dec_step hx10, List.append_assoc] at hde
  refine zK (zL ?_)
  refine WE.again ((x / 10, k - 1, setSeg cs (k - 1) [.int .u8 (UInt8.ofNat (48 + x % 10)).toNat], UInt8.ofNat (48 + x % 10) :: suf)) (⟨by omega, by rw [hsl]; exact hcl, by show k - 1 + (suf.length + 1) = 20; omega, by show 1 ≤ k - 1; rcases Nat.eq_or_lt_of_le hk1 with h | h; (rw [← h] at hxk; simp at hxk; omega); omega, by
   have e : 10 ^ (k - 1) = 10 ^ (k - 1 - 1) * 10 := by
    cases hk2 : k - 1 with
    | zero => rw [hk2] at hxk; omega
    | succ m => rw [Nat.pow_succ]; rfl
   show x / 10 < 10 ^ (k - 1 - 1)
   omega, hseg, hde⟩) (by show k - 1 < k; omega) ⟨rfl, rfl, rfl, rfl⟩ (RLe.refl _) qS



theorem encT_flat : ∀ xs : List (List UInt8), (xs.map encT).flatten = xs.map (fun x => Value.string (str x))
 | [] => rfl
 | x :: l => by simp only [List.map_cons, List.flatten_cons, encT_flat l]; rfl
theorem Join_V {R : Ro} {a : Option Addr} {c : Nat} {d : UInt8} {xs : List (List UInt8)} (hxs : RS R 1 encT a xs) (h0 : xs ≠ []) (hc : xs.length ≤ c) (hn : xs.length ≤ 1000000) (hl : (Lib.join xs [d]).length ≤ 140737488355328) : FnV Tryz.prog 37 [.slice a xs.length c, .string (str [d])] R (.string (str (Lib.join xs [d]))) := by
 intro w0 E w hm
 obtain ⟨_, h2, _⟩ := hxs
 rcases h2 with h | ⟨b, off, cs, rfl, hb, hcs⟩
 ·exact absurd (List.map_eq_nil_iff.1 h) h0
 have hfl := encT_flat xs
 have hdat : (xs.map str).map (·.data.toList) = xs := by
  rw [List.map_map]
  exact List.map_id'' (fun x => by simp [str]) _
 have hld : (str [d]).data.toList = [d] := by simp [str]
 have hsh := sh_strings_Join b off c (xs.map str) (str [d]) w (fun j x hj => by
   rw [List.getElem?_map] at hj
   obtain ⟨T, fz, h1⟩ := hm.ro b cs hb
   have h3 := hcs j (.string x) (by
    rw [hfl, List.getElem?_map]
    cases hx : xs[j]? with
    | none => rw [hx] at hj; cases hj
    | some y => rw [hx] at hj; obtain rfl := Option.some.inj hj; rfl)
   simp [World.cell?, h1, h3]) (hm.ro_lt hb) (by rw [List.length_map]; omega) (by rw [List.length_map]; exact hc) (by rw [hdat, hld]; exact hl)
 rw [hdat, hld, List.length_map] at hsh
 refine hsh.mono ?_
 rintro e w' ⟨rfl, hb'⟩
 exact ⟨rfl, hm.belowAll hb'⟩

theorem Keyw_V {R : Ro} {k : Int} : FnV Tryz.prog 43 [.int .i64 k] R (.string (str (kwS k))) := by
 refine Fn.toV (fun w0 E => ?_)
 refine fE 14 Tryz.func43 ?_
 refine zQ (zG (zR 1 rfl (zN (zU (zQ (zQ (zG (zR 1 rfl (zN (zU (zB (zQ (zG (zR 2 rfl (zN (zU ?_))))))))))))))))
 refine W.condE rfl (fun hc0 => ?_) (fun hc0 => ?_)
 ·try dsimp only at hc0
  have hkk : k = 1 := by omega
  
  refine zQ (zG (zR 1 rfl (zN (zU (zT (wb (wt ?_)))))))
  refine sE (E := E) ?_
  refine WE.retF tab_ok [_] rfl ⟨rfl, trivial⟩ (RLe.refl _) ?_
  exact ⟨by subst hkk; rfl, rfl⟩
 ·try dsimp only at hc0
  have hkk1 : ¬ k = 1 := by omega
  refine zQ (zG (zR 2 rfl (zN (zU ?_))))
  refine W.condE rfl (fun hc1 => ?_) (fun hc1 => ?_)
  ·try dsimp only at hc1
   have hkk : k = 2 := by omega
   
   refine zQ (zG (zR 1 rfl (zN (zU (zT (wb (wt ?_)))))))
   refine sE (E := E) ?_
   refine WE.retF tab_ok [_] rfl ⟨rfl, trivial⟩ (RLe.refl _) ?_
   exact ⟨by subst hkk; rfl, rfl⟩
  ·try dsimp only at hc1
   have hkk2 : ¬ k = 2 := by omega
   refine zQ (zG (zR 2 rfl (zN (zU ?_))))
   refine W.condE rfl (fun hc2 => ?_) (fun hc2 => ?_)
   ·try dsimp only at hc2
    have hkk : k = 3 := by omega
    
    refine zQ (zG (zR 1 rfl (zN (zU (zT (wb (wt ?_)))))))
    refine sE (E := E) ?_
    refine WE.retF tab_ok [_] rfl ⟨rfl, trivial⟩ (RLe.refl _) ?_
    exact ⟨by subst hkk; rfl, rfl⟩
   ·try dsimp only at hc2
    have hkk3 : ¬ k = 3 := by omega
    refine zQ (zG (zR 2 rfl (zN (zU ?_))))
    refine W.condE rfl (fun hc3 => ?_) (fun hc3 => ?_)
    ·try dsimp only at hc3
     have hkk : k = 4 := by omega
     
     refine zQ (zG (zR 1 rfl (zN (zU (zT (wb (wt ?_)))))))
     refine sE (E := E) ?_
     refine WE.retF tab_ok [_] rfl ⟨rfl, trivial⟩ (RLe.refl _) ?_
     exact ⟨by subst hkk; rfl, rfl⟩
    ·try dsimp only at hc3
     have hkk4 : ¬ k = 4 := by omega
     refine zQ (zG (zR 2 rfl (zN (zU ?_))))
     refine W.condE rfl (fun hc4 => ?_) (fun hc4 => ?_)
     ·try dsimp only at hc4
      have hkk : k = 5 := by omega
      
      refine zQ (zG (zR 1 rfl (zN (zU (zT (wb (wt ?_)))))))
      refine sE (E := E) ?_
      refine WE.retF tab_ok [_] rfl ⟨rfl, trivial⟩ (RLe.refl _) ?_
      exact ⟨by subst hkk; rfl, rfl⟩
     ·try dsimp only at hc4
      have hkk5 : ¬ k = 5 := by omega
      refine zK (zL (zU (zQ (zG (zR 1 rfl (zN (zU (zT ?_))))))))
      refine sE (E := E) ?_
      refine WE.retF tab_ok [_] rfl ⟨rfl, trivial⟩ (RLe.refl _) ?_
      exact ⟨by unfold kwS; rw [if_neg hkk1, if_neg hkk2, if_neg hkk3, if_neg hkk4, if_neg hkk5]; rfl, rfl⟩



theorem Dec24z_V {R : Ro} {z : Int} (h0 : 0 ≤ z) (h1 : z ≤ 9223372036854775807) : FnV Tryz.prog 38 [.int .i64 z] R (.string (str (Lib.decDigits z.toNat))) := by
 have h := Dec24_V (R := R) (n := z.toNat) (by omega)
 rw [Int.toNat_of_nonneg h0] at h
 exact h

set_option maxHeartbeats 1000000 in
theorem ListN_V {R : Ro} {a : Option Addr} {c : Nat} {l : List Int} (hl : RS R 1 encI a l) (h0 : l ≠ []) (hn : l.length ≤ 1000000) (hz : ∀ x ∈ l, x ≤ 9223372036854775807) (hlen : (lstS l).length ≤ 140737488355328) : FnV Tryz.prog 44 [.slice a l.length c] R (.string (str (lstS l))) := by
 refine FnV.ofOwn (fun w0 hb0 => ?_)
 have hll := hl.len
 refine fE 29 Tryz.func44 ?_
 refine zQ (zG (zR 1 rfl (zN (zU (zQ (zG (zR 2 rfl ?_)))))))
 refine WL.ef rfl rfl qD (Ef.makeSliceD (enc := encT) [] tab_ok rfl rfl rfl rfl rfl rfl qX qX qX qX qD rfl rfl (fun a8 => ?_))
 refine zR 1 rfl (zN (zU (zQ (zQ (zG (zR 3 rfl (zN (zU (zB ?_)))))))))
 refine W.loopK (β := Nat × List (List UInt8)) (fun (i, ws) => i ≤ l.length ∧ ws.length = l.length ∧ ws.take i = (l.take i).map lstW) (fun (i, ws) => [(11, true, .int .i64 (i : Int))]) [3, 9, 10] [_, _, _] [] _ rfl (fun (i, ws) => [(0, .sl 9 1 (some ⟨a8, 0, none⟩) l.length (ws.map encT))]) (fun (i, ws) => l.length - i) ((0, List.replicate l.length [])) (⟨Nat.zero_le _, by simp, rfl⟩) ⟨rfl, rfl, rfl, rfl, rfl⟩ qS ?_
 intro zz hst
 obtain ⟨i, ws⟩ := zz
 dsimp only [zipE, setAll, List.cons_append, List.nil_append, List.set_cons_zero, List.set_cons_succ] at hst ⊢
 obtain ⟨hi, hwl, hwt⟩ := hst
 refine zQ (zG (zR 1 rfl (zN (zU (zQ ?_)))))
 refine W.condD rfl (fun hc0 => ?_) (fun hc0 => ?_)
 ·try dsimp only at hc0
  have hil : i < l.length := by omega
  have hiw : i < ws.length := by omega
  have hzi := hz _ (nth_mem hil)
  refine zK (zU (zQ (zB (zQ (zG (zR 1 rfl ?_))))))
  refine WG.y rfl rfl qD (Yl.indexN tab_ok rfl rfl rfl rfl rfl rfl (fun _ => rfl) qN qH) ?_
  refine yR ?_
  refine zR 2 rfl (zN (zU (zQ (zG (zR 2 rfl ?_)))))
  refine WG.y rfl rfl qD (Yl.indexN tab_ok rfl rfl rfl rfl rfl rfl (fun _ => rfl) qN qH) ?_
  refine WL.efN rfl rfl (Ef.storeD [45] 0 tab_ok rfl rfl rfl rfl rfl qX rfl rfl rfl rfl ?_)
  refine zN (zU (zQ (zG (zR 2 rfl (zN (zU ?_))))))
  refine W.condD rfl (fun hc1 => ?_) (fun hc1 => ?_)
  ·try dsimp only at hc1
   refine zG (zR 3 rfl ?_)
   refine WG.callV en38 rfl rfl qD (CallOp.mk' rfl rfl rfl rfl) (fun _ => rfl) (fun hg => Dec24z_V hc1 hzi) ?_
   refine WG.y rfl rfl qD (Yl.indexN tab_ok rfl rfl rfl rfl rfl rfl (fun _ => rfl) qN qH) ?_
   refine WL.efN rfl rfl (Ef.storeD (Lib.decDigits (nth l i).toNat) 0 tab_ok rfl rfl rfl rfl rfl (by (try dsimp only); rw [List.length_set]; omega) rfl rfl rfl rfl ?_)
   refine zN (zL (zU (zG ?_)))
   refine yA ?_
   refine zR 1 rfl (zN ?_)
   refine WE.again ((i + 1, (ws.set i [45]).set i (Lib.decDigits (nth l i).toNat))) (⟨by omega, by rw [List.length_set, List.length_set]; exact hwl, by
    show List.take (i + 1) _ = (l.take (i + 1)).map lstW
    rw [set_snoc (by rw [List.length_set]; omega), List.take_set_of_le (Nat.le_refl _), hwt, (show l.take (i + 1) = _ from take_nth hil), List.map_append, List.map_singleton, show lstW (nth l i) = _ from if_pos hc1]⟩) (by (try dsimp only); omega) ⟨rfl, rfl, rfl, rfl, rfl⟩ (RLe.refl _) qS
  ·try dsimp only at hc1
   refine zK (zL (zU (zG ?_)))
   refine yA ?_
   refine zR 1 rfl (zN ?_)
   refine WE.again ((i + 1, ws.set i [45])) (⟨by omega, by rw [List.length_set]; exact hwl, by
    show List.take (i + 1) _ = (l.take (i + 1)).map lstW
    rw [set_snoc (by omega), hwt, (show l.take (i + 1) = _ from take_nth hil), List.map_append, List.map_singleton, show lstW (nth l i) = _ from if_neg hc1]⟩) (by (try dsimp only); omega) ⟨rfl, rfl, rfl, rfl, rfl⟩ (RLe.refl _) qS
 ·try dsimp only at hc0
  obtain rfl : i = l.length := by omega
  refine zX ?_
  refine wx (wx (zY (zU ?_)))
  rw [show l.take l.length = l from List.take_length, List.take_of_length_le (by omega)] at hwt
  refine W.freeze (enc := encT) (xs := ws) 0 rfl ?_
  intro R2 hR2 hws
  rw [show l.length = ws.length from hwl.symm]
  subst hwt
  refine zQ (zG (zR 1 rfl ?_))
  refine WG.callV en37 rfl rfl (by decide) (CallOp.mk' rfl rfl rfl rfl) (fun _ => rfl) (fun hg => Join_V hws (fun h => by rw [h] at hwl; exact h0 (List.length_eq_zero_iff.1 hwl.symm)) (Nat.le_refl _) (by omega) hlen) ?_
  refine zR 1 rfl (zN (zU (zT ?_)))
  refine WE.subE (E' := []) qS ?_
  refine WE.retF tab_ok [_] rfl ⟨rfl, trivial⟩ (by first | assumption | exact RLe.refl _) ?_
  exact rfl



set_option maxHeartbeats 4000000 in
theorem FmtL_V {R : Ro} {aw at_ : Option Addr} {cw ct : Nat} {L : Ln} (hw : RS R 1 encI aw L.w) (ht : RS R 1 encI at_ L.tb) {name : List UInt8} (hn : name.length ≤ 1000000) : FnV Tryz.prog 15 [.string (str name), .agg #[.int .i64 L.kind, .int .i64 L.cap, .int .i64 L.n, .slice aw L.w.length cw, .slice at_ L.tb.length ct]] R (.tuple #[.string (str (fmtL name L)), .int .i64 (fmtE name L)]) := by
 refine FnV.ofOwn (fun w0 hb0 => ?_)
 have hwll := hw.len
 have htll := ht.len
 refine fE 105 Tryz.func15 ?_
 refine zQ (zG ?_)
 refine zO fun b3 => ?_
 refine zR 2 rfl (zN (zU (zQ (zQ (zG (zR 1 rfl ?_))))))
 refine WG.callV en41 rfl rfl qD (CallOp.mk' rfl rfl rfl rfl) (fun _ => rfl) (fun hg => Word_V (s := name) qO) ?_
 refine zR 1 rfl (zN (zU ?_))
 refine W.cond rfl (fun hc0 => ?_) (fun hc0 => ?_)
 ·try simp only [zk] at hc0
  have hno : wordB name = false := by simpa using hc0
  have hfe : fmtE name L = 4 := if_pos hno
  refine zQ (zG (zR 2 rfl (zN (zU (zT (wt ?_))))))
  refine WE.subE (E' := []) qS ?_
  refine WE.retF tab_ok [_, _] rfl ⟨rfl, rfl, trivial⟩ (by first | assumption | exact RLe.refl _) ?_
  show Value.tuple #[_, _] = _
  unfold fmtL; rw [hfe]; rfl
 ·try simp only [zk] at hc0
  have hyes : wordB name = true := by simpa using hc0
  have hnl : name.length ≤ 12 := (of_decide_eq_true hyes).2.1
  refine zK (zU (zQ (zQ (zG ?_))))
  refine yL (Rd.blk 0 rfl) ?_
  refine WG.callV en42 rfl rfl qD (CallOp.mk' rfl rfl rfl rfl) (fun _ => rfl) (fun hg => ChkSrv_V hw rfl ht rfl) ?_
  refine zR 1 rfl (zN (zU (zQ (zG (zR 2 rfl (zN (zU ?_)))))))
  refine W.condN rfl (fun hc1 => ?_) (fun hc1 => ?_)
  ·try dsimp only at hc1
   have hfe : fmtE name L = chkL L := by unfold fmtE; rw [if_neg (by rw [hyes]; decide), if_pos hc1]
   refine zQ (zG (zR 3 rfl (zN (zU (zT (wt ?_))))))
   refine WE.subE (E' := []) qS ?_
   refine WE.retF tab_ok [_, _] rfl ⟨rfl, rfl, trivial⟩ (by first | assumption | exact RLe.refl _) ?_
   show Value.tuple #[_, _] = _
   unfold fmtL; rw [hfe, if_neg hc1]; rfl
  ·try dsimp only at hc1
   have hck : chkL L = 0 := by first | exact hc1 | exact Classical.not_not.1 hc1
   have hfe : fmtE name L = if L.kind = 1 ∧ L.n ≠ 1 then 6 else 0 := by unfold fmtE; rw [if_neg (by rw [hyes]; decide), if_neg (fun h => h hck)]
   obtain ⟨hkk, hcp1, hcp2, hn1, hn6, _⟩ := chk_facts hck
   refine zK (zU (zQ ?_))
   refine W.regionH _ (ES := [.blk b3 [.int .i64 L.kind, .int .i64 L.cap, .int .i64 L.n, .slice aw L.w.length cw, .slice at_ L.tb.length ct]]) mixed ?_
   refine tP 0 ?_
   refine tP 1 ?_
   refine tL 2 (Rd.add (Rd.blk 0 rfl) _) ?_
   refine tP 4 ?_
   refine tL 5 (Rd.add (Rd.blk 0 rfl) _) ?_
   refine WA.callV 3 rfl qK en43 rfl rfl qD (CallOp.mk' rfl rfl rfl rfl) (fun _ => rfl) (fun hg => Keyw_V) qS qR ?_
   refine WA.callV 6 rfl qK en38 rfl rfl qD (CallOp.mk' rfl rfl rfl rfl) (fun _ => rfl) (fun hg => Dec24z_V qO qO) qS qR ?_
   refine WA.eff 7 rfl qK rfl rfl qD (Ef.buildSliceD (enc := encT) (parts := [.const (.string ⟨#[108, 105, 110, 101]⟩), .tmp 17, .tmp 20, .tmp 23]) [wLine, name, kwS L.kind, Lib.decDigits L.cap.toNat] tab_ok rfl rfl rfl rfl rfl rfl rfl rfl qD qD (fun a24 => ?_))
   refine ⟨qR, qS, ?_⟩
   refine tP 8 ?_
   refine WA.done qK ?_
   refine zU (zQ (zG (zR 1 rfl ?_)))
   refine yL (Rd.add (Rd.blk 1 rfl) _) ?_
   refine zR 3 rfl ?_
   refine yP ?_
   refine yG (Rd.addC (Rd.blkC 1 rfl) _) ?_
   refine yP ?_
   refine yP ?_
   refine yN ?_
   refine zR 1 rfl (zN (zU ?_))
   refine W.seqCut (β := List (List UInt8) × Option Addr × Nat × Bool) (fun (ws, a7, c7, rt) => rt = decide (fmtE name L = 0) ∧ (rt = true → ws = fmtWords name L) ∧ ws ≠ [] ∧ ws.length ≤ 10) (fun (ws, a7, c7, rt) => [(7, true, .slice a7 ws.length c7), (8, true, .bool rt)]) (fun _ => R) (fun (ws, a7, c7, rt) => [.sl 9 1 a7 c7 (ws.map encT)]) ?_ ?_
   ·
    intro zz hst
    obtain ⟨ws, a7, c7, rt⟩ := zz
    obtain ⟨hrt, hwv, hwn, hwl⟩ := hst
    dsimp only at hrt hwv hwn hwl ⊢
    refine zQ (zQ (zG (zR 2 rfl (zN (zU ?_)))))
    refine W.cond rfl (fun hc2 => ?_) (fun hc2 => ?_)
    ·try simp only [zk] at hc2
     have hrf : rt = false := by simpa using hc2
     refine zQ (zG (zR 2 rfl (zN (zU (zT (wt ?_))))))
     refine WE.subE (E' := []) qS ?_
     refine WE.retF tab_ok [_, _] rfl ⟨rfl, rfl, trivial⟩ (by first | assumption | exact RLe.refl _) ?_
     have hfe6 : fmtE name L = 6 := by
      rw [hfe]
      rw [hfe, hrf] at hrt
      split
      ·rfl
      ·rename_i h; rw [if_neg h] at hrt; exact absurd hrt (by decide)
     show Value.tuple #[_, _] = _
     unfold fmtL; rw [hfe6]; rfl
    ·try simp only [zk] at hc2
     have hrt1 : rt = true := by simpa using hc2
     have hfe0 : fmtE name L = 0 := by rw [hrt1] at hrt; exact of_decide_eq_true hrt.symm
     refine zK (zU ?_)
     refine W.cap 0 rfl ?_
     intro hcl
     refine W.freeze (enc := encT) (xs := ws) 0 rfl ?_
     intro R2 hR2 hws
     refine zQ (zG (zR 1 rfl ?_))
     refine WG.callV en37 rfl rfl (by decide) (CallOp.mk' rfl rfl rfl rfl) (fun _ => rfl) (fun hg => Join_V hws hwn (by simpa using hcl) (by omega) (by rw [hwv hrt1]; exact fmt_le hyes hck)) ?_
     refine zR 2 rfl (zN (zU (zT ?_)))
     refine WE.subE (E' := []) qS ?_
     refine WE.retF tab_ok [_, _] rfl ⟨rfl, rfl, trivial⟩ (by first | assumption | exact RLe.refl _) ?_
     show Value.tuple #[_, _] = _
     unfold fmtL; rw [hfe0, if_pos rfl, hwv hrt1]
   ·
    refine zQ (zG (zR 1 rfl ?_))
    refine yL (Rd.add (Rd.blk 1 rfl) _) ?_
    refine zN (zU (zB (zQ (zG (zR 2 rfl (zN (zU ?_)))))))
    refine W.condE rfl (fun hc3 => ?_) (fun hc3 => ?_)
    ·try dsimp only at hc3
     have hk1 : L.kind = 1 := by omega
     obtain ⟨hw0, ht0⟩ := chk_flat hck (.inl hk1)
     refine zG (zR 2 rfl ?_)
     refine yP ?_
     refine yG (Rd.addC (Rd.blkC 1 rfl) _) ?_
     refine yP ?_
     refine yN ?_
     refine zR 1 rfl (zN (zL ?_))
     refine WE.cut ([wLine, name, kwS L.kind, Lib.decDigits L.cap.toNat], (some ⟨a24, 0, none⟩), 4, _) ⟨by show _ = _; rw [hfe, hw0, ht0]; by_cases h1 : L.n = 1 <;> simp [h1, hk1], by intro _; unfold fmtWords fmtRest; rw [if_pos hk1]; rfl, List.cons_ne_nil _ _, by first | decide | exact Nat.le_of_ble_eq_true rfl⟩ ⟨rfl, rfl, rfl⟩ (RLe.refl _) qS
    ·try dsimp only at hc3
     refine zQ (zG (zR 2 rfl (zN (zU ?_))))
     refine W.condE rfl (fun hc4 => ?_) (fun hc4 => ?_)
     ·try dsimp only at hc4
      have hk2 : L.kind = 2 := by omega
      obtain ⟨hw0, ht0⟩ := chk_flat hck (.inr hk2)
      refine zG (zR 2 rfl ?_)
      refine yL (Rd.add (Rd.blk 1 rfl) _) ?_
      refine WG.callV en38 rfl rfl qD (CallOp.mk' rfl rfl rfl rfl) (fun _ => rfl) (fun hg => Dec24z_V qO qO) ?_
      refine WL.ef rfl rfl qD (Ef.buildSliceD (enc := encT) (parts := [.tmp 50]) [_] tab_ok rfl rfl rfl rfl rfl rfl rfl rfl qD qD (fun a51 => ?_))
      refine WL.ef rfl rfl (by decide) (Ef.appendD 1 0 tab_ok rfl rfl rfl rfl rfl rfl rfl rfl rfl rfl rfl (fun _ _ => rfl) (by simp only [List.length_cons, List.length_nil]; omega) (by simp only [List.length_cons, List.length_nil]; omega) (fun a52 c52 ha52 => ?_))
      refine zR 1 rfl (zN (zL ?_))
      refine WE.cut ([wLine, name, kwS L.kind, Lib.decDigits L.cap.toNat] ++ [Lib.decDigits L.n.toNat], a52, c52, _) ⟨by show _ = _; rw [hfe, hw0, ht0]; simp [hk2], by intro _; unfold fmtWords fmtRest; rw [if_neg (by omega), if_pos hk2], List.cons_ne_nil _ _, by first | decide | exact Nat.le_of_ble_eq_true rfl⟩ ⟨rfl, rfl, rfl⟩ (RLe.refl _) qS
     ·try dsimp only at hc4
      refine zQ (zQ (zG (zR 2 rfl (zN (zU ?_)))))
      refine W.condE rfl (fun hc5 => ?_) (fun hc5 => ?_)
      ·try dsimp only at hc5
       have hk3 : L.kind = 3 := by omega
       obtain ⟨hr1, hr2, hr3⟩ := chk_rob hck hk3
       refine zK (zU ?_)
       refine W.condE rfl (fun hc6 => ?_) (fun hc6 => ?_)
       ·try dsimp only at hc6
        refine zQ (zG (zR 1 rfl ?_))
        refine yL (Rd.add (Rd.blk 1 rfl) _) ?_
        refine zR 2 rfl ?_
        refine yL (Rd.add (Rd.blk 1 rfl) _) ?_
        refine zR 2 rfl ?_
        refine yP ?_
        refine yG (Rd.addC (Rd.blkC 1 rfl) _) ?_
        refine yP ?_
        refine yP ?_
        refine yN ?_
        refine zR 1 rfl ?_
        refine yP ?_
        refine yG (Rd.addC (Rd.blkC 1 rfl) _) ?_
        refine yP ?_
        refine yP ?_
        refine yN ?_
        refine zR 1 rfl (zN (zU (zG (zR 2 rfl ?_))))
        refine yL (Rd.add (Rd.blk 1 rfl) _) ?_
        refine WG.callV en44 rfl rfl (by decide) (CallOp.mk' rfl rfl rfl rfl) (fun _ => rfl) (fun hg => ListN_V hw (by intro h; rw [h] at hr1; simp at hr1; omega) (by omega) (fun x hx => by have := within_mem hr2 x hx; omega) (by have := lstS_le (fun x hx => by have := within_mem hr2 x hx; omega); omega)) ?_
        refine WL.ef rfl rfl qD (Ef.buildSliceD (enc := encT) (parts := [.tmp 77]) [_] tab_ok rfl rfl rfl rfl rfl rfl rfl rfl qD qD (fun a78 => ?_))
        refine WL.ef rfl rfl (by decide) (Ef.appendD 1 0 tab_ok rfl rfl rfl rfl rfl rfl rfl rfl rfl rfl rfl (fun _ _ => rfl) (by simp only [List.length_cons, List.length_nil]; omega) (by simp only [List.length_cons, List.length_nil]; omega) (fun a79 c79 ha79 => ?_))
        refine zR 1 rfl (zN (zL ?_))
        refine WE.cut ([wLine, name, kwS L.kind, Lib.decDigits L.cap.toNat] ++ [lstS L.w], a79, c79, _) ⟨by show _ = _; rw [hfe, hr3]; simp [hk3]; omega, by intro _; unfold fmtWords fmtRest; rw [if_neg (by omega), if_neg (by omega), if_pos (.inl hk3)], List.cons_ne_nil _ _, by first | decide | exact Nat.le_of_ble_eq_true rfl⟩ ⟨rfl, rfl, rfl⟩ (RLe.refl _) qS
       ·try dsimp only at hc6
        exact absurd hc5 hc6
      ·try dsimp only at hc5
       refine zG (zR 2 rfl (zN (zU ?_)))
       refine W.condE rfl (fun hc7 => ?_) (fun hc7 => ?_)
       ·try dsimp only at hc7
        have hk4 : L.kind = 4 := by omega
        obtain ⟨hr1, hr2, hr3⟩ := chk_def hck hk4
        refine zQ (zG (zR 1 rfl ?_))
        refine yL (Rd.add (Rd.blk 1 rfl) _) ?_
        refine zR 2 rfl ?_
        refine yL (Rd.add (Rd.blk 1 rfl) _) ?_
        refine zR 2 rfl ?_
        refine yP ?_
        refine yG (Rd.addC (Rd.blkC 1 rfl) _) ?_
        refine yP ?_
        refine yP ?_
        refine yN ?_
        refine zR 1 rfl ?_
        refine yP ?_
        refine yG (Rd.addC (Rd.blkC 1 rfl) _) ?_
        refine yP ?_
        refine yP ?_
        refine yN ?_
        refine zR 1 rfl (zN (zU (zG (zR 2 rfl ?_))))
        refine yL (Rd.add (Rd.blk 1 rfl) _) ?_
        refine WG.callV en44 rfl rfl (by decide) (CallOp.mk' rfl rfl rfl rfl) (fun _ => rfl) (fun hg => ListN_V hw (by intro h; rw [h] at hr1; simp at hr1; omega) (by omega) (fun x hx => by have := within_mem hr2 x hx; omega) (by have := lstS_le (fun x hx => by have := within_mem hr2 x hx; omega); omega)) ?_
        refine WL.ef rfl rfl qD (Ef.buildSliceD (enc := encT) (parts := [.tmp 77]) [_] tab_ok rfl rfl rfl rfl rfl rfl rfl rfl qD qD (fun a78 => ?_))
        refine WL.ef rfl rfl (by decide) (Ef.appendD 1 0 tab_ok rfl rfl rfl rfl rfl rfl rfl rfl rfl rfl rfl (fun _ _ => rfl) (by simp only [List.length_cons, List.length_nil]; omega) (by simp only [List.length_cons, List.length_nil]; omega) (fun a79 c79 ha79 => ?_))
        refine zR 1 rfl (zN (zL ?_))
        refine WE.cut ([wLine, name, kwS L.kind, Lib.decDigits L.cap.toNat] ++ [lstS L.w], a79, c79, _) ⟨by show _ = _; rw [hfe, hr3]; simp [hk4]; omega, by intro _; unfold fmtWords fmtRest; rw [if_neg (by omega), if_neg (by omega), if_pos (.inr hk4)], List.cons_ne_nil _ _, by first | decide | exact Nat.le_of_ble_eq_true rfl⟩ ⟨rfl, rfl, rfl⟩ (RLe.refl _) qS
       ·try dsimp only at hc7
        refine zQ (zG (zR 2 rfl (zN (zU ?_))))
        refine W.condE rfl (fun hc8 => ?_) (fun hc8 => ?_)
        ·try dsimp only at hc8
         have hk5 : L.kind = 5 := by omega
         obtain ⟨hs1, hs2, hs3⟩ := chk_times hck hk5
         refine zQ (zG (zR 1 rfl ?_))
         refine yL (Rd.add (Rd.blk 1 rfl) _) ?_
         refine zR 3 rfl ?_
         refine yP ?_
         refine yG (Rd.addC (Rd.blkC 1 rfl) _) ?_
         refine yP ?_
         refine yP ?_
         refine yN ?_
         refine zR 1 rfl (zN (zU ?_))
         refine W.regionH _ (ES := [.blk b3 [.int .i64 L.kind, .int .i64 L.cap, .int .i64 L.n, .slice aw L.w.length cw, .slice at_ L.tb.length ct]]) mixed ?_
         refine tP 0 ?_
         refine tP 1 ?_
         refine tL 2 (Rd.add (Rd.blk 0 rfl) _) ?_
         refine tP 4 ?_
         refine tL 5 (Rd.add (Rd.blk 0 rfl) _) ?_
         refine WA.callV 3 rfl qK en38 rfl rfl qD (CallOp.mk' rfl rfl rfl rfl) (fun _ => rfl) (fun hg => Dec24z_V qO qO) qS qR ?_
         refine WA.callV 6 rfl (by kernel_rfl) en44 rfl rfl (by decide) (CallOp.mk' rfl rfl rfl rfl) (fun _ => rfl) (fun hg => ListN_V ht (by intro h; rw [h] at hs1; simp at hs1) (by omega) (fun x hx => by have := within_mem hs2 x hx; omega) (by have := lstS_le (fun x hx => by have := within_mem hs2 x hx; omega); omega)) qS (by first | exact RLe.refl _ | assumption) ?_
         refine WA.eff 7 rfl qK rfl rfl qD (Ef.buildSliceD (enc := encT) (parts := [.tmp 95, .tmp 98]) [_, _] tab_ok rfl rfl rfl rfl rfl rfl rfl rfl qD qD (fun a99 => ?_))
         refine ⟨qR, qS, ?_⟩
         refine WA.eff 8 rfl (by kernel_rfl) rfl rfl (by decide) (Ef.appendD 1 0 tab_ok rfl rfl rfl rfl rfl rfl rfl rfl rfl rfl rfl (fun _ _ => rfl) (by simp only [List.length_cons, List.length_nil]; omega) (by simp only [List.length_cons, List.length_nil]; omega) (fun a100 c100 ha100 => ?_))
         refine ⟨qR, qS, ?_⟩
         refine tP 9 ?_
         refine WA.done qK ?_
         refine zL ?_
         refine WE.cut ([wLine, name, kwS L.kind, Lib.decDigits L.cap.toNat] ++ [Lib.decDigits L.n.toNat, lstS L.tb], a100, c100, _) ⟨by show _ = _; rw [hfe, hs3]; simp [hk5]; omega, by intro _; unfold fmtWords fmtRest; rw [if_neg (by omega), if_neg (by omega), if_neg (by omega)], List.cons_ne_nil _ _, by first | decide | exact Nat.le_of_ble_eq_true rfl⟩ ⟨rfl, rfl, rfl⟩ (RLe.refl _) qS
        ·try dsimp only at hc8
         exact absurd hkk qO



theorem CopyF_C {R : Ro} {b n cap : Nat} {a : Option Addr} {S : Ent} {F : List Ent} (w0 : World) : K.Fn Tryz.prog 65 [.pointer (some ⟨b, 0, none⟩)] w0 R (S :: .obj b (.cells #[.pointer none, .slice a n cap] 75 (0, 0)) :: F) (fun v R' E' => v = .tuple #[] ∧ R = R' ∧ E' = S :: .obj b (.cells #[.pointer (some ⟨b, 0, none⟩), .slice a n cap] 75 (0, 0)) :: F) := by
 refine fE 20 Tryz.func65 ?_
 refine zQ (zG (zR 3 rfl ?_))
 refine' WG.y rfl rfl qD (Yl.load1 tab_ok rfl rfl rfl (fun _ => rfl) ?r1 rfl ?h1) ?_
 case r1 => apply Rd.add; exact Rd.obj 1 rfl
 case h1 => rfl
 refine WG.y rfl rfl qD (Yl.ptrNil tab_ok rfl rfl rfl rfl rfl (fun _ => rfl)) ?_
 refine zN (zU ?_)
 refine W.cond rfl (fun hc0 => ?_) (fun hc0 => ?_)
 ·try simp only [zk] at hc0
  refine zG (zR 2 rfl ?_)
  refine WG.y rfl rfl qD (Yl.toUnsafe 1 tab_ok rfl rfl rfl rfl rfl Tryz.underlying125 rfl rfl rfl (fun _ => rfl)) ?_
  refine WG.y rfl rfl qD (Yl.noEscape rfl Tryz.func84 qK qK qK qK rfl (fun _ => rfl)) ?_
  refine WG.y rfl rfl qD (Yl.fromUnsafe 1 tab_ok rfl rfl rfl rfl Tryz.underlying125 rfl qK rfl (fun _ => rfl)) ?_
  refine zR 2 rfl ?_
  refine WL.efN rfl rfl (Ef.storeObj (off := 0) 1 tab_ok rfl rfl rfl rfl rfl rfl rfl rfl ?_)
  refine zN ?_
  refine WE.endF tab_ok [] rfl trivial (RLe.refl _) ?_
  exact ⟨rfl, rfl, rfl⟩
 ·try simp only [zk] at hc0
  (simp at hc0; done)

theorem CopyU_C {R : Ro} {b n cap : Nat} {a : Option Addr} {S : Ent} {F : List Ent} (w0 : World) : K.Fn Tryz.prog 65 [.pointer (some ⟨b, 0, none⟩)] w0 R (S :: .obj b (.cells #[.pointer (some ⟨b, 0, none⟩), .slice a n cap] 75 (0, 0)) :: F) (fun v R' E' => v = .tuple #[] ∧ R = R' ∧ E' = S :: .obj b (.cells #[.pointer (some ⟨b, 0, none⟩), .slice a n cap] 75 (0, 0)) :: F) := by
 refine fE 20 Tryz.func65 ?_
 refine zQ (zG (zR 3 rfl ?_))
 refine' WG.y rfl rfl qD (Yl.load1 tab_ok rfl rfl rfl (fun _ => rfl) ?r1 rfl ?h1) ?_
 case r1 => apply Rd.add; exact Rd.obj 1 rfl
 case h1 => rfl
 refine WG.y rfl rfl qD (Yl.ptrNil tab_ok rfl rfl rfl rfl rfl (fun _ => rfl)) ?_
 refine zN (zU ?_)
 refine W.cond rfl (fun hc0 => ?_) (fun hc0 => ?_)
 ·try simp only [zk] at hc0
  (simp at hc0; done)
 ·try simp only [zk] at hc0
  refine zQ (zG (zR 3 rfl ?_))
  refine' WG.y rfl rfl qD (Yl.load1 tab_ok rfl rfl rfl (fun _ => rfl) ?r2 rfl ?h2) ?_
  case r2 => apply Rd.add; exact Rd.obj 1 rfl
  case h2 => rfl
  refine zR 1 rfl ?_
  refine WG.y rfl rfl qD (Yl.ptrSame tab_ok rfl rfl rfl rfl rfl rfl (fun _ => rfl)) ?_
  refine zN (zU ?_)
  refine W.cond rfl (fun hc1 => ?_) (fun hc1 => ?_)
  ·try simp only [zk] at hc1
   (simp at hc1; done)
  ·try simp only [zk] at hc1
   refine zK ?_
   refine WE.endF tab_ok [] rfl trivial (RLe.refl _) ?_
   exact ⟨rfl, rfl, rfl⟩

theorem Copy_C {R : Ro} {b n cap : Nat} {a p : Option Addr} {S : Ent} {F : List Ent} (hp : p = none ∨ p = some ⟨b, 0, none⟩) (w0 : World) : K.Fn Tryz.prog 65 [.pointer (some ⟨b, 0, none⟩)] w0 R (S :: .obj b (.cells #[.pointer p, .slice a n cap] 75 (0, 0)) :: F) (fun v R' E' => v = .tuple #[] ∧ R = R' ∧ E' = S :: .obj b (.cells #[.pointer (some ⟨b, 0, none⟩), .slice a n cap] 75 (0, 0)) :: F) := by
 rcases hp with rfl | rfl
 ·exact CopyF_C w0
 ·exact CopyU_C w0

theorem WriteString_C {R : Ro} {b cap : Nat} {a p : Option Addr} {l : List UInt8} {F : List Ent} (hp : p = none ∨ p = some ⟨b, 0, none⟩) (hl : l.length ≤ 1000000) (x : List UInt8) (hx : x.length ≤ 1000000) (w0 : World) : K.Fn Tryz.prog 33 [.pointer (some ⟨b, 0, none⟩), .string (str x)] w0 R (.sl 5 1 a cap (l.map encY) :: .obj b (.cells #[.pointer p, .slice a l.length cap] 75 (0, 0)) :: F) (fun v R' E' => ∃ (a' : Option Addr) (cap' : Nat), v = .tuple #[.int .i64 ((str x).size : Int), .nilIface] ∧ R = R' ∧ E' = .sl 5 1 a' cap' ((l ++ x).map encY) :: .obj b (.cells #[.pointer (some ⟨b, 0, none⟩), .slice a' (l ++ x).length cap'] 75 (0, 0)) :: F) := by
 refine fE 19 Tryz.func33 ?_
 refine zQ (zG (zR 2 rfl (zN (zU (zQ (zG (zR 1 rfl ?_)))))))
 refine WL.call en65 rfl rfl qD (CallOp.mkT rfl rfl rfl rfl) (Copy_C hp w0) ?_
 rintro _ _ _ - ⟨rfl, rfl, rfl⟩
 refine zN (zU (zQ (zG (zR 4 rfl ?_))))
 refine' WG.y rfl rfl qD (Yl.load1 tab_ok rfl rfl rfl (fun _ => rfl) ?r1 rfl ?h1) ?_
 case r1 => apply Rd.add; exact Rd.obj 1 rfl
 case h1 => rfl
 refine zR 1 rfl ?_
 refine WL.ef rfl rfl qD (Ef.appendStr 0 tab_ok rfl rfl rfl rfl rfl rfl qK rfl rfl rfl rfl rfl rfl qO (fun a14 c14 => ?_))
 refine zR 2 rfl ?_
 refine WL.efN rfl rfl (Ef.storeObj (off := 1) 1 tab_ok rfl rfl rfl rfl rfl rfl rfl rfl ?_)
 refine zN (zU (zQ (zG (zR 4 rfl (zN (zU (zT ?_)))))))
 refine WE.retF tab_ok [_, _] rfl ⟨rfl, rfl, trivial⟩ (RLe.refl _) ?_
 exact ⟨a14, c14, rfl, rfl, rfl⟩



theorem BString_C {R : Ro} {b cap : Nat} {a p : Option Addr} {l : List UInt8} (hp : p = none ∨ p = some ⟨b, 0, none⟩) (w0 : World) (hR : RBelow w0 R) : K.Fn Tryz.prog 35 [.pointer (some ⟨b, 0, none⟩)] w0 R [.sl 5 1 a cap (l.map encY), .obj b (.cells #[.pointer p, .slice a l.length cap] 75 (0, 0))] (fun v R' E' => v = .string (str l) ∧ R = R' ∧ E' = []) := by
 intro w hm
 obtain ⟨hb0, hb1⟩ := hm.own _ (show .obj b (.cells #[.pointer p, .slice a l.length cap] 75 (0, 0)) ∈ _ by simp)
 obtain ⟨_, _, hs2⟩ := hm.own _ (show .sl 5 1 a cap (l.map encY) ∈ _ by simp)
 rw [encY_flat, List.length_map] at hs2
 have hne : (Value.slice a l.length cap).ownBlock ≠ some b := fun h => by
  have hnd := hm.nodup
  rw [List.pairwise_cons] at hnd
  have := hnd.1 _ (List.mem_singleton.2 rfl) b (by cases a with
   | none => simp [Value.ownBlock] at h
   | some ad => simpa [Value.ownBlock, Ent.block] using h)
  exact this rfl
 have hB : Lib.BuilderAt 75 5 w0.heap.size b (.pointer p) (Lib.byteCells l) w := ⟨hb0, _, hb1, by rw [Lib.byteCells_length]; exact hs2, hne⟩
 have hIs : Lib.IsBuilder 75 5 w0.heap.size b (Lib.byteCells l) w := by
  rcases hp with rfl | rfl
  ·exact .inl hB
  ·exact .inr hB
 refine (sh_Builder_String_any w0.heap.size b l w hIs hm.below.size).mono ?_
 rintro e w' ⟨rfl, hbl⟩
 refine ⟨_, R, [], rfl, RLe.refl _, ⟨hm.below.trans hbl, fun b' cs hr => ?_, fun e he => (by cases he), fun e he => (by cases he), List.Pairwise.nil⟩, rfl, rfl, rfl⟩
 obtain ⟨T, fz, h1⟩ := hm.ro b' cs hr
 exact ⟨T, fz, by rw [hbl.block b' (hR b' cs hr)]; exact h1⟩

theorem BLen_C {R : Ro} {b cap : Nat} {a p : Option Addr} {l : List UInt8} {F : List Ent} (w0 : World) : K.Fn Tryz.prog 34 [.pointer (some ⟨b, 0, none⟩)] w0 R (.sl 5 1 a cap (l.map encY) :: .obj b (.cells #[.pointer p, .slice a l.length cap] 75 (0, 0)) :: F) (fun v R' E' => v = .int .i64 (l.length : Int) ∧ R = R' ∧ E' = .sl 5 1 a cap (l.map encY) :: .obj b (.cells #[.pointer p, .slice a l.length cap] 75 (0, 0)) :: F) := by
 refine fE 8 Tryz.func34 ?_
 refine zQ (zG (zR 1 rfl (zN (zU (zQ (zG (zR 3 rfl ?_)))))))
 refine' WG.y rfl rfl qD (Yl.load1 tab_ok rfl rfl rfl (fun _ => rfl) ?r1 rfl ?h1) ?_
 case r1 => apply Rd.add; exact Rd.obj 1 rfl
 case h1 => rfl
 refine zR 2 rfl (zN (zU (zT ?_)))
 refine WE.retF tab_ok [_] rfl ⟨rfl, trivial⟩ (RLe.refl _) ?_
 exact ⟨rfl, rfl, rfl⟩



set_option maxHeartbeats 4000000 in
theorem Fmt0_V {R : Ro} {na la fa : Option Addr} {nc lc fc : Nat} {names : List (List UInt8)} {ms : List LnM} (hna : K.RS R 1 encT na names) (hla : K.RS R 5 encLn la ms) (hok : ∀ m ∈ ms, OkLn R m) (hnl : ∀ x ∈ names, x.length ≤ 9223372036854775807) : FnV Tryz.prog 12 [.agg #[.slice na names.length nc, .slice la ms.length lc, .slice fa 0 fc]] R (.tuple #[.string (str (fmtN0 names (ms.map (·.L))).1), .int .i64 (fmtN0 names (ms.map (·.L))).2]) := by
 refine FnV.ofOwn (fun w0 hb0 => ?_)
 have hll := hla.len
 have hml : (ms.map (·.L)).length = ms.length := List.length_map ..
 refine fE 67 Tryz.func12 ?_
 refine zQ (zG ?_)
 refine zO fun b1 => ?_
 refine zR 2 rfl (zN (zU (zQ (zQ (zG ?_)))))
 refine yL (Rd.blk 0 rfl) ?_
 refine WG.callV en32 rfl rfl qD (CallOp.mk' rfl rfl rfl rfl) (fun _ => rfl) (fun hg => NCheck0_V hna hla hok hnl) ?_
 refine zR 1 rfl (zN (zU (zQ (zG (zR 2 rfl (zN (zU ?_)))))))
 refine W.condN rfl (fun hc0 => ?_) (fun hc0 => ?_)
 ·try dsimp only at hc0
  have hc : chkNet0 names (ms.map (·.L)) ≠ 0 := hc0
  refine zQ (zG (zR 3 rfl (zN (zU (zT (wt ?_))))))
  refine WE.subE (E' := []) qS ?_
  refine WE.retF tab_ok [_, _] rfl ⟨rfl, rfl, trivial⟩ (by first | assumption | exact RLe.refl _) ?_
  show Value.tuple #[_, _] = _
  unfold fmtN0; rw [if_pos hc]; rfl
 ·try dsimp only at hc0
  have hck : chkNet0 names (ms.map (·.L)) = 0 := by first | exact hc0 | exact Classical.not_not.1 hc0
  obtain ⟨hlr, hnlm, hall⟩ := chkNet0_zero hck
  rw [hml] at hlr hnlm
  refine zK (zU (zQ (zG ?_)))
  refine WL.ef rfl rfl qD (Ef.allocObj tab_ok rfl rfl (fun b5 => ?_))
  refine WL.nilE 5 1 qD ?_
  refine zN (zU (zQ (zQ (zG (zR 1 rfl ?_)))))
  refine yL (Rd.add (Rd.blk 2 rfl) _) ?_
  refine zR 2 rfl (zN (zU (zB ?_)))
  refine W.loopK (β := Nat × List UInt8 × Option Addr × Nat × Option Addr) (fun (i, m, a, k, p) => i ≤ ms.length ∧ m = rowsT (((names.zip (ms.map (·.L))).take i).map rowX) ∧ fmtErr ((names.zip (ms.map (·.L))).drop i) = fmtErr (names.zip (ms.map (·.L))) ∧ m.length ≤ 6007 * i ∧ (p = none ∨ p = some ⟨b5, 0, none⟩)) (fun (i, m, a, k, p) => [(22, true, .int .i64 (i : Int))]) [1, 5, 20, 21] [_, _, _, _] [] _ rfl (fun (i, m, a, k, p) => [(0, .sl 5 1 a k (m.map encY)), (1, .obj b5 (.cells #[.pointer p, .slice a m.length k] 75 (0, 0)))]) (fun (i, m, a, k, p) => ms.length - i) ((0, [], none, 0, none)) (⟨Nat.zero_le _, rfl, rfl, Nat.le_refl _, .inl rfl⟩) ⟨rfl, rfl, rfl, rfl, rfl, rfl⟩ qS ?_
  intro zz hst
  obtain ⟨i, m, a, k, p⟩ := zz
  dsimp only [zipE, setAll, List.cons_append, List.nil_append, List.set_cons_zero, List.set_cons_succ] at hst ⊢
  obtain ⟨hi, hm, hfe, hmb, hp⟩ := hst
  refine zQ (zG (zR 1 rfl (zN (zU (zQ ?_)))))
  refine W.condD rfl (fun hc1 => ?_) (fun hc1 => ?_)
  ·try dsimp only at hc1
   have him : i < ms.length := by omega
   have hin : i < names.length := by omega
   have hzl : (names.zip (ms.map (·.L))).length = ms.length := by rw [List.length_zip, hml]; omega
   have hdr : (names.zip (ms.map (·.L))).drop i = (nth names i, (nth ms i).L) :: (names.zip (ms.map (·.L))).drop (i + 1) := by
    have hl : i < (names.zip (ms.map (·.L))).length := by omega
    rw [List.drop_eq_getElem_cons hl, List.getElem_zip, nth_eq hin, nth_eq him, List.getElem_map]
   have hzi : nth (names.zip (ms.map (·.L))) i = (nth names i, (nth ms i).L) := by
    rw [nth_eq (by omega), List.getElem_zip, nth_eq hin, nth_eq him, List.getElem_map]
   have hwn : wordB (nth names i) = true ∧ chkL (nth ms i).L = 0 := by
    have := hall (nth (names.zip (ms.map (·.L))) i) (nth_mem (by omega))
    rw [hzi] at this; exact this
   have hw12 : (nth names i).length ≤ 12 := (of_decide_eq_true hwn.1).2.1
   have hfl := fmtL_le (nth names i) (nth ms i).L
   rw [hdr, fmtErr] at hfe
   dsimp only at hfe
   refine zK (zU (zQ (zB (zQ (zG (zR 1 rfl ?_))))))
   refine WG.y rfl rfl qD (Yl.indexN tab_ok rfl rfl rfl rfl rfl rfl (fun _ => rfl) qN qH) ?_
   refine' WG.y rfl rfl qD (Yl.load1 tab_ok rfl rfl rfl (fun _ => rfl) ?r3 rfl ?h3) ?_
   case r3 => exact RS.rdD hla him
   case h3 => rfl
   refine zA fun b7 => ?_
   refine zR 1 rfl ?_
   refine zE 0 ?_
   refine zN (zU (zQ ?_))
   refine W.regionQ _ mixed qK ?_
   refine zR 1 rfl ?_
   refine yL (Rd.add (Rd.blk 3 rfl) _) ?_
   refine zR 1 rfl ?_
   refine WG.y rfl rfl qD (Yl.indexN tab_ok rfl rfl rfl rfl rfl rfl (fun _ => rfl) qN qH) ?_
   refine' WG.y rfl rfl qD (Yl.load1 tab_ok rfl rfl rfl (fun _ => rfl) ?r5 rfl ?h5) ?_
   case r5 => exact RS.rdD hna hin
   case h5 => rfl
   refine yL (Rd.blk 0 rfl) ?_
   refine WG.callV en15 rfl rfl qD (CallOp.mk' rfl rfl rfl rfl) (fun _ => rfl) (fun hg => FmtL_V (L := (nth ms i).L) (name := nth names i) (hok _ (nth_mem him)).1 (hok _ (nth_mem him)).2 qO) ?_
   refine zR 5 rfl (zN (zU (zQ (zQ (zG (zR 2 rfl (zN (zU ?_))))))))
   refine W.condN rfl (fun hc2 => ?_) (fun hc2 => ?_)
   ·try dsimp only at hc2
    rw [if_pos hc2] at hfe
    refine zQ (zG (zR 3 rfl (zN (zU (zT (wt (wb (wt (wt (wb (wt ?_)))))))))))
    refine WE.subE (E' := []) qS ?_
    refine WE.retF tab_ok [_, _] rfl ⟨rfl, rfl, trivial⟩ (by first | assumption | exact RLe.refl _) ?_
    show Value.tuple #[_, _] = _
    unfold fmtN0; rw [if_neg (fun h => h hck), ← hfe, if_pos hc2]; rfl
   ·try dsimp only at hc2
    have he0 : fmtE (nth names i) (nth ms i).L = 0 := by first | exact hc2 | exact Classical.not_not.1 hc2
    rw [if_neg (fun h => h he0)] at hfe
    refine W.dropE (E' := [.sl 5 1 a k (m.map encY), .obj b5 (.cells #[.pointer p, .slice a m.length k] 75 (0, 0)), .blk b1 [.slice na names.length nc, .slice la ms.length lc, .slice fa 0 fc]]) qS ?_
    refine zK (zU (zG (zR 1 rfl ?_)))
    refine WG.y rfl rfl (by decide) (Yl.catS rfl rfl rfl (fun _ => rfl) (by intro _; (simp only [List.length_cons, List.length_nil]; omega))) ?_
    refine WL.call en33 rfl rfl (by decide) (CallOp.mkT rfl rfl rfl rfl) (WriteString_C (l := m) (b := b5) hp (by omega) (fmtL (nth names i) (nth ms i).L ++ [10]) (by rw [List.length_append]; show _ + 1 ≤ _; omega) w0) ?_
    rintro _ _ _ - ⟨a9, k9, rfl, rfl, rfl⟩
    refine zN (zL (zU (zG ?_)))
    refine yA ?_
    refine zR 1 rfl (zN ?_)
    refine WE.again ((i + 1, m ++ (fmtL (nth names i) (nth ms i).L ++ [10]), a9, k9, some ⟨b5, 0, none⟩)) (⟨by omega, by rw [take_nth (by omega), List.map_append, List.map_singleton, rowsT_snoc, ← hm, hzi]; rfl, hfe, by simp only [List.length_append, List.length_cons, List.length_nil]; omega, .inr rfl⟩) (by (try dsimp only); omega) ⟨rfl, rfl, rfl, rfl, rfl, rfl⟩ (RLe.refl _) qS
  ·try dsimp only at hc1
   obtain rfl : i = ms.length := by omega
   refine zX ?_
   refine wx (wx (zY (zU (zQ (zQ (zG (zR 1 rfl ?_)))))))
   refine yL (Rd.add (Rd.blk 2 rfl) _) ?_
   refine zR 2 rfl (zN (zU (zB ?_)))
   refine W.loopK (β := Unit) (fun _u => True) (fun _u => [(47, true, .int .i64 0)]) [1, 5, 45, 46] [_, _, _, _] [] _ rfl (fun _u => []) (fun _u => 0) (()) (trivial) ⟨rfl, rfl, rfl, rfl, rfl, rfl⟩ qS ?_
   intro _u hst
   dsimp only [zipE, setAll, List.cons_append, List.nil_append, List.set_cons_zero, List.set_cons_succ] at hst ⊢
   
   refine zQ (zG (zR 1 rfl (zN (zU (zQ ?_)))))
   refine W.condD rfl (fun hc3 => ?_) (fun hc3 => ?_)
   ·try dsimp only at hc3
    omega
   ·try dsimp only at hc3
    refine zX ?_
    refine wx (wx (zY (zU (zQ ?_))))
    have hzl : (names.zip (ms.map (·.L))).length = ms.length := by rw [List.length_zip, hml]; omega
    rw [List.drop_of_length_le (by omega)] at hfe
    rw [List.take_of_length_le (by omega)] at hm
    have hfz : fmtErr (names.zip (ms.map (·.L))) = 0 := hfe.symm
    have hmm : m = rowsT ((names.zip (ms.map (·.L))).map rowX) := hm
    refine W.dropE (E' := [.sl 5 1 a k (m.map encY), .obj b5 (.cells #[.pointer p, .slice a m.length k] 75 (0, 0))]) qS ?_
    refine zQ (zG ?_)
    refine WL.call en34 rfl rfl qD (CallOp.mkT rfl rfl rfl rfl) (BLen_C (l := m) (b := b5) w0) ?_
    rintro _ _ _ - ⟨rfl, rfl, rfl⟩
    refine zR 1 rfl (zN (zU ?_))
    refine W.condD rfl (fun hc4 => ?_) (fun hc4 => ?_)
    ·try dsimp only at hc4
     refine zQ (zG (zR 2 rfl (zN (zU (zT (wt ?_))))))
     refine WE.subE (E' := []) qS ?_
     refine WE.retF tab_ok [_, _] rfl ⟨rfl, rfl, trivial⟩ (by first | assumption | exact RLe.refl _) ?_
     show Value.tuple #[_, _] = _
     unfold fmtN0; rw [if_neg (fun h => h hck), if_neg (fun h => h hfz), ← hmm, if_pos (by omega)]; rfl
    ·try dsimp only at hc4
     refine zK (zU (zQ (zG ?_)))
     refine WL.call en35 rfl rfl qD (CallOp.mkT rfl rfl rfl rfl) (BString_C (l := m) (b := b5) hp w0 hb0) ?_
     rintro _ _ _ - ⟨rfl, rfl, rfl⟩
     refine zR 2 rfl (zN (zU (zT ?_)))
     refine WE.subE (E' := []) qS ?_
     refine WE.retF tab_ok [_, _] rfl ⟨rfl, rfl, trivial⟩ (by first | assumption | exact RLe.refl _) ?_
     show Value.tuple #[_, _] = _
     unfold fmtN0; rw [if_neg (fun h => h hck), if_neg (fun h => h hfz), ← hmm, if_neg (by omega)]



set_option maxHeartbeats 4000000 in
theorem Sane24_C {R : Ro} (hG : GlobE R) (w0 : World) (E : List Ent) : K.Fn Tryz.prog 7 [] w0 R E (fun v R' E' => v = .bool true ∧ E.Sublist E') := by
 have hrA : ∀ x ∈ [lineA], (∀ c ∈ x, c ≠ 10) ∧ lineO x = true ∧ x.length ≤ 4000 := fun x hx => by
  rw [List.mem_singleton.1 hx]; exact ⟨by decide, by kernel_rfl, by decide⟩
 refine fE 60 Tryz.func7 ?_
 refine zQ (zG (zR 1 rfl (zN (zU (zQ (zG ?_))))))
 refine WL.call en19 rfl rfl qD (CallOp.mkT rfl rfl rfl rfl) (show K.Fn _ _ [.string (str [108, 105, 110, 101, 32, 97, 32, 102, 105, 102, 111, 32, 49, 48, 48, 10])] _ _ _ _ from Parse0_C hG (rows := [lineA]) (tail := []) hrA qD qD (.inl rfl) w0 _) ?_
 rintro _ R1 _ hR1 ⟨rfl, na1, la1, nc1, lc1, ns1, ms1, ln1, e1, rfl, hna1, hla1, hom1, hnc1, hlc1, hps1⟩
 have hG := hG.mono hR1
 obtain ⟨rfl, rfl, he1⟩ : ln1 = 0 ∧ e1 = 0 ∧ (ns1 = [[97]] ∧ ms1.map (·.L) = [(⟨1, 100, 1, [], []⟩ : Ln)]) := by
  rcases hps1 with ⟨h, _⟩ | ⟨_, h2, h3, h4⟩
  ·exact absurd rfl h
  ·have h5 : e1 = 0 := by rw [h3]; kernel_rfl
   obtain ⟨h6, h7⟩ := h4 h5
   exact ⟨h2, h5, by rw [h6]; kernel_rfl, by rw [h7]; kernel_rfl⟩
 obtain ⟨rfl, hms⟩ := he1
 obtain ⟨⟨x1, y1, x2, y2, L⟩, rfl, hL⟩ : ∃ m, ms1 = [m] ∧ m.L = (⟨1, 100, 1, [], []⟩ : Ln) := by
  obtain ⟨m, r, rfl, h1, h2⟩ := List.map_eq_cons_iff.1 hms
  obtain rfl := List.map_eq_nil_iff.1 h2
  exact ⟨m, rfl, h1⟩
 dsimp only at hL
 subst hL
 refine zR 4 rfl ?_
 refine zA fun b1 => ?_
 refine zE 0 ?_
 refine zR 2 rfl (zN (zU (zQ (zG ?_))))
 refine yL (Rd.blk 0 rfl) ?_
 refine WG.callV (v := .tuple #[.string (str (lineA ++ [10])), .int .i64 0]) en12 rfl rfl qD (CallOp.mk' rfl rfl rfl rfl) (fun _ => rfl) (fun hg => by
  have h := Fmt0_V (fa := none) (fc := 0) (nc := nc1) (lc := lc1) hna1 hla1 hom1 (by decide)
  rw [show ([(⟨x1, y1, x2, y2, (⟨1, 100, 1, [], []⟩ : Ln)⟩ : LnM)].map (·.L)) = [(⟨1, 100, 1, [], []⟩ : Ln)] from rfl, fmt_A] at h
  exact h) ?_
 refine zR 5 rfl (zN (zU (zQ (zG ?_))))
 refine WL.call en19 rfl rfl qD (CallOp.mkT rfl rfl rfl rfl) (show K.Fn _ _ [.string (str [108, 105, 110, 101, 32, 97, 32, 102, 105, 102, 111, 32, 49, 48, 48, 10, 108, 105, 110, 101, 32, 98, 32, 102, 105, 102, 111, 10])] _ _ _ _ from Parse0_C hG (rows := [lineA]) (tail := lineB ++ 10 :: []) hrA qD qD (.inr ⟨lineB, [], rfl, by decide, by kernel_rfl, noflB⟩) w0 _) ?_
 rintro _ R2 _ hR2 ⟨rfl, na2, la2, nc2, lc2, ns2, ms2, ln2, e2, rfl, hna2, hla2, hom2, hnc2, hlc2, hps2⟩
 have hG := hG.mono hR2
 have hla1 := hla1.mono hR2
 obtain ⟨rfl, rfl⟩ : ln2 = 2 ∧ e2 = 4 := by
  rcases hps2 with ⟨_, h1, h2⟩ | ⟨h, _⟩
  ·exact ⟨h2, h1⟩
  ·exact absurd h (by decide)
 refine zR 4 rfl ?_
 refine zA fun b6 => ?_
 refine zE 0 ?_
 refine zR 2 rfl (zN (zU (zQ (zG (zR 3 rfl ?_)))))
 refine WL.guardT rfl (by rfl) ?_
 refine yP ?_
 refine WL.guardT rfl (by rfl) ?_
 refine yP ?_
 refine yN ?_
 refine zR 1 rfl ?_
 refine WL.guardT rfl (by rfl) ?_
 refine yP ?_
 refine WL.guardT rfl (by rfl) ?_
 refine yL (Rd.add (Rd.blk 1 rfl) _) ?_
 refine WL.guardT rfl (by rfl) ?_
 refine yP ?_
 refine WL.guardT rfl (by rfl) ?_
 refine yP ?_
 refine yN ?_
 refine zR 1 rfl ?_
 refine WL.guardT rfl (by rfl) ?_
 refine yP ?_
 refine WL.guardT rfl (by rfl) ?_
 refine yL (Rd.add (Rd.blk 1 rfl) _) ?_
 refine WL.guardT rfl (by rfl) ?_
 refine WG.y rfl rfl qD (Yl.indexN tab_ok rfl rfl rfl rfl rfl rfl (fun _ => rfl) (by intro _; (exact Nat.one_pos)) qH) ?_
 refine WL.guardT rfl (by rfl) ?_
 refine yP ?_
 refine WL.guardT rfl (by rfl) ?_
 refine' WG.y rfl rfl qD (Yl.load1 tab_ok rfl rfl rfl (fun _ => rfl) ?r4 rfl ?h4) ?_
 case r4 => apply Rd.add; exact RS.rdD hla1 Nat.one_pos
 case h4 => rfl
 refine WL.guardT rfl (by rfl) ?_
 refine yP ?_
 refine yN ?_
 refine zR 1 rfl ?_
 refine WL.guardT rfl (by rfl) ?_
 refine yP ?_
 refine WL.guardT rfl (by rfl) ?_
 refine yP ?_
 refine yN ?_
 refine zR 1 rfl ?_
 refine WL.guardT rfl (by rfl) ?_
 refine yP ?_
 refine WL.guardT rfl (by rfl) ?_
 refine WG.y rfl rfl qD (Yl.eqS rfl rfl rfl (fun _ => rfl)) ?_
 refine yN ?_
 refine zR 1 rfl ?_
 refine WL.guardT rfl (by rfl) ?_
 refine yP ?_
 refine WL.guardT rfl (by rfl) ?_
 refine yP ?_
 refine yN ?_
 refine zR 1 rfl ?_
 refine WL.guardT rfl (by rfl) ?_
 refine yP ?_
 refine WL.guardT rfl (by rfl) ?_
 refine yP ?_
 refine yN ?_
 refine zR 1 rfl (zN (zU (zT ?_)))
 refine WE.retF tab_ok [_] rfl ⟨rfl, trivial⟩ (hR1.trans hR2) ?_
 exact ⟨rfl, qS⟩



set_option maxHeartbeats 8000000 in
theorem NettextKinds_F {R : Ro} {z : Int} {a : Option Addr} {c : Nat} {xs : List Int} (ha : RS R 1 encI a xs) (hzr : -128 ≤ z ∧ z ≤ 127) (hG : GlobE R) (hc : xs.length ≤ c) (w0 : World) : K.Fn Tryz.prog 6 [.slice a xs.length c, .int .i8 z] w0 R [] (fun v _ _ => v = .bool true) := by
 
 refine fE 122 Tryz.func6 ?_
 refine zQ (zG (zR 1 rfl (zN (zU (zQ (zQ (zG (zR 3 rfl (zN (zU ?_))))))))))
 refine W.condD rfl (fun hc0 => ?_) (fun hc0 => ?_)
 ·try dsimp only at hc0
  refine zQ (zG ?_)
  refine WL.call en7 rfl rfl qD (CallOp.mkT rfl rfl rfl rfl) (Sane24_C hG w0 _) ?_
  rintro _ R9 E9 hR9 ⟨rfl, hsub9⟩
  refine WL.subE hsub9 ?_
  refine zR 1 rfl (zN (zU (zT (wt ?_))))
  refine WE.retF tab_ok [_] rfl ⟨rfl, trivial⟩ (by first | assumption | exact RLe.refl _ | exact (hR1.trans hRk).trans (hR3.trans (hR4.trans hR9)) | exact (hR1.trans hRk).trans (hR2.trans hR9)) ?_
  exact rfl
 ·try dsimp only at hc0
  refine zK (zU (zQ (zG (zR 1 rfl ?_))))
  refine WL.call en8 rfl rfl qD (CallOp.mkT rfl rfl rfl rfl) (New_C w0 _ hc) ?_
  rintro _ _ _ - ⟨b, rfl, rfl, rfl⟩
  have hz := ha.take 2000
  refine WL.callAt 0 en9 rfl rfl qD (CallOp.mkT rfl rfl rfl rfl) rfl (Net40_C w0 hz _) ?_
  rintro _ R1 _ _ hR1 ⟨k, ms, na, la, nc, lc, cn, rfl, hk, hml, hna, hla, hmd, rfl, rfl⟩
  have hG := hG.mono hR1
  obtain ⟨hdr1, hdr2, hdr3, hdr4, hdr5, hdr6⟩ := draw_rows hk hml (fun m hm => (hmd m hm).2)
  have hnl : (nm4.take ms.length).length = ms.length := by rw [List.length_take]; show min _ 4 = _; omega
  have hmL : (ms.map (·.L)).length = ms.length := List.length_map ..
  have hzl : ((nm4.take ms.length).zip (ms.map (·.L))).length = ms.length := by rw [List.length_zip, hnl, hmL]; omega
  refine zA fun b5 => ?_
  refine zE 0 ?_
  refine zN (zU (zQ (zG (zR 1 rfl (zN (zU (zQ (zQ (zG (zR 1 rfl ?_))))))))))
  refine yL (Rd.add (Rd.blk 0 rfl) _) ?_
  refine zR 2 rfl (zN (zU (zB ?_)))
  refine W.loopR (β := Nat × Ro) (fun (i, Rk) => i ≤ ms.length ∧ RLe R1 Rk) (fun (i, Rk) => [(6, true, .string (str (rowsT ((((nm4.take ms.length).zip (ms.map (·.L))).take i).map rowX)))), (29, true, .int .i64 (i : Int))]) [1, 5, 28] [_, _, _] [] _ rfl (fun (i, Rk) => []) (fun (i, Rk) => Rk) (fun (i, Rk) => ms.length - i) ((0, R1)) (⟨Nat.zero_le _, RLe.refl _⟩) ⟨rfl, rfl, rfl, rfl, rfl, rfl⟩ (RLe.refl _) qS ?_
  intro zz hst
  obtain ⟨i, Rk⟩ := zz
  dsimp only [zipE, setAll, List.cons_append, List.nil_append, List.set_cons_zero, List.set_cons_succ] at hst ⊢
  obtain ⟨hi, hRk⟩ := hst
  have hG := hG.mono hRk
  have hna := hna.mono hRk
  have hla := hla.mono hRk
  have hmd := fun m hm => (⟨(hmd m hm).1.mono hRk, (hmd m hm).2⟩ : OkLn Rk m ∧ DrawP k m.L)
  refine zQ (zG (zR 1 rfl (zN (zU (zQ ?_)))))
  refine W.condD rfl (fun hc1 => ?_) (fun hc1 => ?_)
  ·try dsimp only at hc1
   have him : i < ms.length := by omega
   have hin : i < (nm4.take ms.length).length := by omega
   have hdr := draw_row hk (hmd _ (nth_mem him)).2 (nth_mem hin)
   obtain ⟨hd1, hd2, hd3, hd4, hd5, hd6⟩ := hdr
   have hw1 := (nm4_len (nth_mem hin)).1
   have htl : (rowsT ((((nm4.take ms.length).zip (ms.map (·.L))).take i).map rowX)).length ≤ 4000 := by
    have := rowsT_take_le (((nm4.take ms.length).zip (ms.map (·.L))).map rowX) i
    rw [← List.map_take] at this
    omega
   have hzi : nth ((nm4.take ms.length).zip (ms.map (·.L))) i = (nth (nm4.take ms.length) i, (nth ms i).L) := by
    rw [nth_eq (by omega), List.getElem_zip, nth_eq hin, nth_eq him, List.getElem_map]
   have htx : (rowsT ((((nm4.take ms.length).zip (ms.map (·.L))).take (i + 1)).map rowX)) = (rowsT ((((nm4.take ms.length).zip (ms.map (·.L))).take i).map rowX)) ++ (fmtL (nth (nm4.take ms.length) i) (nth ms i).L ++ [10]) := by
    rw [take_nth (by omega), List.map_append, List.map_singleton, rowsT_snoc, hzi]; rfl
   refine zK (zU (zQ (zB (zQ (zG (zR 2 rfl (zN (zU (zQ ?_)))))))))
   refine W.regionQ _ mixed qK ?_
   refine zR 1 rfl ?_
   refine yL (Rd.add (Rd.blk 0 rfl) _) ?_
   refine zR 1 rfl ?_
   refine WG.y rfl rfl qD (Yl.indexN tab_ok rfl rfl rfl rfl rfl rfl (fun _ => rfl) qN qH) ?_
   refine' WG.y rfl rfl qD (Yl.load1 tab_ok rfl rfl rfl (fun _ => rfl) ?r3 rfl ?h3) ?_
   case r3 => exact RS.rdD hna hin
   case h3 => rfl
   refine zR 1 rfl ?_
   refine yL (Rd.add (Rd.blk 0 rfl) _) ?_
   refine zR 1 rfl ?_
   refine WG.y rfl rfl qD (Yl.indexN tab_ok rfl rfl rfl rfl rfl rfl (fun _ => rfl) qN qH) ?_
   refine' WG.y rfl rfl qD (Yl.load1 tab_ok rfl rfl rfl (fun _ => rfl) ?r5 rfl ?h5) ?_
   case r5 => exact RS.rdD hla him
   case h5 => rfl
   refine WG.callV en15 rfl rfl qD (CallOp.mk' rfl rfl rfl rfl) (fun _ => rfl) (fun hg => FmtL_V (L := (nth ms i).L) (name := nth (nm4.take ms.length) i) (hmd _ (nth_mem him)).1.1 (hmd _ (nth_mem him)).1.2 qO) ?_
   refine zR 5 rfl (zN (zU (zQ (zQ (zG (zR 2 rfl (zN (zU ?_))))))))
   refine W.condN rfl (fun hc2 => ?_) (fun hc2 => ?_)
   ·try dsimp only at hc2
    exact absurd hd1 hc2
   ·try dsimp only at hc2
    refine zK (zU (zQ (zG (zR 1 rfl ?_))))
    refine WG.y rfl rfl (by decide) (Yl.catS rfl rfl rfl (fun _ => rfl) (by intro _; (simp only [List.length_cons, List.length_nil]; omega))) ?_
    rw [row1]
    refine WL.call en19 rfl rfl (by decide) (CallOp.mkT rfl rfl rfl rfl) (Parse0_C hG (rows := [fmtL (nth (nm4.take ms.length) i) (nth ms i).L]) (tail := []) (fun x hx => by rw [List.mem_singleton.1 hx]; exact ⟨hd2, hd3, by omega⟩) (by rw [← row1, List.length_append]; show _ + 1 ≤ _; omega) (show 1 ≤ 100 by decide) (.inl rfl) w0 _) ?_
    rintro _ R2 _ hR2 ⟨rfl, na2, la2, nc2, lc2, ns2, ms2, ln2, e2, rfl, hna2, hla2, hom2, hnc2, hlc2, hps2⟩
    have hG := hG.mono hR2
    obtain ⟨rfl, rfl, he1⟩ : ln2 = 0 ∧ e2 = 0 ∧ (ns2 = [nth (nm4.take ms.length) i] ∧ ms2.map (·.L) = [(nth ms i).L]) := by
     rcases hps2 with ⟨h, _⟩ | ⟨_, h2, h3, h4⟩
     ·exact absurd rfl h
     ·rw [List.map_singleton, List.map_singleton, hd5, hd6] at h3 h4
      have h5 : e2 = 0 := by
       rw [h3]
       unfold chkNet0
       rw [if_neg (show ¬ ([(nth ms i).L].length = 0 ∨ 8 < [(nth ms i).L].length) from (show ¬ (1 = 0 ∨ 8 < 1) by decide)), if_neg (fun h => h rfl)]
       exact chkLs_ok _ _ (fun x hx => by
        rw [List.mem_singleton.1 hx]; exact ⟨(nm4_len (nth_mem hin)).2, ((hmd _ (nth_mem him)).2.chk hk).1⟩) (by simp)
      exact ⟨h2, h5, h4 h5⟩
    obtain ⟨rfl, hms2⟩ := he1
    obtain ⟨m2, rfl, hL2⟩ : ∃ m, ms2 = [m] ∧ m.L = (nth ms i).L := by
     obtain ⟨m, r, rfl, h1, h2⟩ := List.map_eq_cons_iff.1 hms2
     obtain rfl := List.map_eq_nil_iff.1 h2
     exact ⟨m, rfl, h1⟩
    have hmd := fun m hm => (⟨(hmd m hm).1.mono hR2, (hmd m hm).2⟩ : OkLn R2 m ∧ DrawP k m.L)
    have hna := hna.mono hR2
    have hla := hla.mono hR2
    refine zR 4 rfl ?_
    refine zA fun b10 => ?_
    refine zE 0 ?_
    refine zR 2 rfl (zN (zU (zQ (zQ ?_))))
    refine W.regionQ _ mixed qK ?_
    refine zR 3 rfl ?_
    refine yP ?_
    refine yG (Rd.addC (Rd.blkC 0 rfl) _) ?_
    refine yP ?_
    refine yP ?_
    refine yO ?_
    refine zR 1 rfl ?_
    refine yP ?_
    refine yG (Rd.addC (Rd.blkC 0 rfl) _) ?_
    refine WG.y rfl rfl (by decide) (Yl.indexN tab_ok rfl rfl rfl rfl rfl rfl qE (by intro hg; (try simp only [zk] at hg); (exact Nat.one_pos)) (by intro hg; (try simp only [zk] at hg); first | exact qI)) ?_
    refine' WG.y rfl rfl qD (Yl.loadG tab_ok rfl rfl rfl qE ?r8 rfl ?h8 ?g8) ?_
    case r8 => exact fun _ => RS.rdD hna2 Nat.one_pos
    case h8 => rfl
    case g8 => exact fun _ => trivial
    refine yP ?_
    refine yG (Rd.addC (Rd.blkC 1 rfl) _) ?_
    refine yP ?_
    refine WG.y rfl rfl (by decide) (Yl.indexN tab_ok rfl rfl rfl rfl rfl rfl qE (by intro hg; (try simp only [zk] at hg); (try dsimp only) <;> omega) (by intro hg; (try simp only [zk] at hg); first | exact qI)) ?_
    refine' WG.y rfl rfl qD (Yl.loadG tab_ok rfl rfl rfl qE ?r10 rfl ?h10 ?g10) ?_
    case r10 => exact fun _ => RS.rdD hna hin
    case h10 => rfl
    case g10 => exact fun _ => trivial
    refine WG.y rfl rfl qD (Yl.neS rfl rfl rfl qE) ?_
    refine yO ?_
    refine zR 1 rfl ?_
    refine yP ?_
    refine yG (Rd.addC (Rd.blkC 0 rfl) _) ?_
    refine WG.y rfl rfl (by decide) (Yl.indexN tab_ok rfl rfl rfl rfl rfl rfl qE (by intro hg; (try simp only [zk] at hg); (exact Nat.one_pos)) (by intro hg; (try simp only [zk] at hg); first | exact qI)) ?_
    refine' WG.y rfl rfl qD (Yl.loadG tab_ok rfl rfl rfl qE ?r12 rfl ?h12 ?g12) ?_
    case r12 => exact fun _ => RS.rdD hla2 Nat.one_pos
    case h12 => rfl
    case g12 => exact fun _ => trivial
    refine yP ?_
    refine yG (Rd.addC (Rd.blkC 1 rfl) _) ?_
    refine yP ?_
    refine WG.y rfl rfl (by decide) (Yl.indexN tab_ok rfl rfl rfl rfl rfl rfl qE (by intro hg; (try simp only [zk] at hg); (try dsimp only) <;> omega) (by intro hg; (try simp only [zk] at hg); first | exact qI)) ?_
    refine' WG.y rfl rfl qD (Yl.loadG tab_ok rfl rfl rfl qE ?r14 rfl ?h14 ?g14) ?_
    case r14 => exact fun _ => RS.rdD hla him
    case h14 => rfl
    case g14 => exact fun _ => trivial
    refine WG.callV en24 rfl rfl qD (CallOp.mk' rfl rfl rfl rfl) qE (fun hg => SameLn_V (L := (nth [m2] 0).L) (M := (nth ms i).L) (hom2 _ (nth_mem Nat.one_pos)).1 (hom2 _ (nth_mem Nat.one_pos)).2 (hmd _ (nth_mem him)).1.1 (hmd _ (nth_mem him)).1.2) ?_
    refine yP ?_
    refine yO ?_
    refine zN (zU ?_)
    refine W.cond rfl (fun hc3 => ?_) (fun hc3 => ?_)
    ·try simp only [zk] at hc3
     have hsm : Ln.same (nth [m2] 0).L (nth ms i).L = true := Ln.same_iff.2 hL2
     exfalso
     rcases hc3 with (h | h) | h
     ·first | exact h rfl | (rcases h with h | h <;> first | exact h rfl | exact h trivial | simp at h)
     ·exact h rfl
     ·rw [hsm] at h; cases h
    ·try simp only [zk] at hc3
     refine zK (zU (zG (zR 2 rfl ?_)))
     refine WG.y rfl rfl (by decide) (Yl.catS rfl rfl rfl (fun _ => rfl) (by intro _; (simp only [List.length_cons, List.length_nil]; omega))) ?_
     refine WG.y rfl rfl (by decide) (Yl.catS rfl rfl rfl (fun _ => rfl) (by intro _; (simp only [List.length_append, List.length_cons, List.length_nil]; omega))) ?_
     refine zR 1 rfl (zN (zL (zU (zG ?_))))
     refine yA ?_
     refine zR 1 rfl (zN ?_)
     rw [← htx]
     refine WE.again ((i + 1, R2)) (⟨by omega, hRk.trans hR2⟩) (by (try dsimp only); omega) ⟨rfl, rfl, rfl, rfl, rfl, rfl⟩ (RLe.refl _) qS
  ·try dsimp only at hc1
   obtain rfl : i = ms.length := by omega
   have htw : (rowsT ((((nm4.take ms.length).zip (ms.map (·.L))).take ms.length).map rowX)) = rowsT (((nm4.take ms.length).zip (ms.map (·.L))).map rowX) ++ [] := by rw [List.take_of_length_le (by omega), List.append_nil]
   rw [htw]
   refine zX ?_
   refine wx (wx (zY (zU (zQ (zG (zR 1 rfl ?_))))))
   have h9 := Parse0_C hG (rows := (((nm4.take ms.length).zip (ms.map (·.L))).map rowX)) (tail := []) hdr1 (by rw [List.append_nil]; exact hdr2) hdr3 (.inl rfl) w0
   refine WL.call en19 rfl rfl qD (CallOp.mkT rfl rfl rfl rfl) (h9 _) ?_
   rintro _ R3 _ hR3 ⟨rfl, na3, la3, nc3, lc3, ns3, ms3, ln3, e3, rfl, hna3, hla3, hom3, hnc3, hlc3, hps3⟩
   have hG := hG.mono hR3
   obtain ⟨rfl, rfl, he3⟩ : ln3 = 0 ∧ e3 = 0 ∧ (ns3 = (nm4.take ms.length) ∧ ms3.map (·.L) = ms.map (·.L)) := by
    rcases hps3 with ⟨h, _⟩ | ⟨_, h2, h3, h4⟩
    ·exact absurd rfl h
    ·rw [hdr4, hdr5] at h3 h4
     have h5 : e3 = 0 := h3.trans hdr6
     exact ⟨h2, h5, h4 h5⟩
   obtain ⟨rfl, hms3⟩ := he3
   have hmd := fun m hm => (⟨(hmd m hm).1.mono hR3, (hmd m hm).2⟩ : OkLn R3 m ∧ DrawP k m.L)
   have hna := hna.mono hR3
   have hla := hla.mono hR3
   refine zR 4 rfl ?_
   refine zA fun b13 => ?_
   refine zE 0 ?_
   refine zR 2 rfl (zN (zU (zQ (zG (zR 1 rfl ?_)))))
   refine WG.y rfl rfl qD (Yl.convId tab_ok rfl rfl rfl rfl rfl rfl (fun _ => rfl) (by intro _; exact i64_wrap ⟨by omega, by omega⟩)) ?_
   refine WL.ef rfl rfl qD (Ef.buildSliceD (enc := encI) (parts := [.tmp 100]) [_] tab_ok rfl rfl rfl rfl rfl rfl rfl rfl qD qD (fun a101 => ?_))
   refine WL.freeze (enc := encI) (xs := [z]) 0 rfl ?_
   intro R4 hR4 hz1
   have hG := hG.mono hR4
   have hmd := fun m hm => (⟨(hmd m hm).1.mono hR4, (hmd m hm).2⟩ : OkLn R4 m ∧ DrawP k m.L)
   have hom3 := fun m hm => (hom3 m hm).mono hR4
   have hna := hna.mono hR4
   have hla := hla.mono hR4
   have hna3 := hna3.mono hR4
   have hla3 := hla3.mono hR4
   have hfe := fmt_extra z
   obtain ⟨q, hq⟩ : ∃ q, q = fmtE [97] ⟨1, 9, 1, [z], []⟩ := ⟨_, rfl⟩
   rw [← hq] at hfe
   have hqb : (q != 0) = true := bne_iff_ne.2 hfe
   -- build
   refine WG.y rfl rfl qD (Yl.build (parts := [(0, .const (.int .i64 1)), (1, .const (.int .i64 9)), (2, .const (.int .i64 1)), (3, .tmp 101)]) tab_ok rfl rfl rfl rfl (fun _ => rfl) rfl rfl) ?_
   refine zA fun b16 => ?_
   refine zE 0 ?_
   refine zN (zU (zQ (zG ?_)))
   refine yL (Rd.blk 0 rfl) ?_
   refine WG.callV (v := .tuple #[.string (str (fmtL [97] ⟨1, 9, 1, [z], []⟩)), .int .i64 q]) en15 rfl rfl qD (CallOp.mk' rfl rfl rfl rfl) (fun _ => rfl) (fun hg => by
    have h := FmtL_V (L := ⟨1, 9, 1, [z], []⟩) (cw := 1) (ct := 0) (name := [97]) hz1 rs_nil (by decide)
    rw [← hq] at h
    exact h) ?_
   refine zR 5 rfl (zN (zU (zQ (zG (zR 3 rfl ?_)))))
   refine WL.guardT rfl (by rfl) ?_
   refine yL (Rd.blk 1 rfl) ?_
   refine WL.guardT rfl (by rfl) ?_
   refine yL (Rd.blk 2 rfl) ?_
   refine WL.guardT rfl (by rfl) ?_
   refine WG.callV (v := .bool true) en21 rfl rfl qD (CallOp.mk' rfl rfl rfl rfl) (fun _ => rfl) (fun hg => by
    have h := Same0_V (fa := none) (fb := none) (nc := nc3) (lc := lc3) (fc := 0) (nd := nc) (ld := lc) (fd := 0) hna3 hla3 hna hla hom3 (fun m hm => (hmd m hm).1)
    rw [decide_eq_true ⟨rfl, hms3⟩] at h
    exact h) ?_
   refine yN ?_
   refine zR 1 rfl ?_
   refine WL.guardT rfl (by rfl) ?_
   refine yP ?_
   refine WL.guardT rfl (by rfl) ?_
   refine yP ?_
   refine yN ?_
   refine zR 1 rfl ?_
   refine WL.guardT rfl (by first | rfl | simp [hqb]) ?_
   refine WL.callT en7 rfl rfl (by rfl) qD (CallOp.mk' rfl rfl rfl rfl) rfl (Sane24_C hG w0 _) ?_
   rintro _ R9 E9 hR9 ⟨rfl, hsub9⟩
   refine WL.subE hsub9 ?_
   refine yN ?_
   refine zR 1 rfl (zN (zU (zT ?_)))
   refine WE.retF tab_ok [_] rfl ⟨rfl, trivial⟩ (by first | assumption | exact RLe.refl _ | exact (hR1.trans hRk).trans (hR3.trans (hR4.trans hR9)) | exact (hR1.trans hRk).trans (hR2.trans hR9)) ?_
   show Value.bool _ = Value.bool true
   rw [hqb]; rfl

end Go.Proofs.YtmidibkljoaoiaaGreatDoor

/- A law over a list of numbers: from its contract to its row. No condition. -/
namespace Go.Proofs.YtmidibkljoaoiaaGreatDoor.K
open Go Go.RowKit

theorem mem0 (W : World) : Mem W W (fun _ => none) [] :=
 ⟨Below.refl _ W, fun b cs h => (by cases h), fun e he => (by cases he), fun e he => (by cases he), List.Pairwise.nil⟩
theorem encI_flat : ∀ (zs : List Int), (zs.map encI).flatten = zs.map (Value.int .i64)
 | [] => rfl
 | z :: zs => by simp [encI, encI_flat zs]
theorem rs_of_ints {W : World} {a : Addr} {zs : List Int} (hcell : ∀ i, i < zs.length → W.cell? (a.add i) = some (.int .i64 (zs.getD i 0))) (hl : zs.length ≤ 9223372036854775807) :
  ∃ R, Mem W W R [] ∧ RS R 1 encI (some a) zs := by
 by_cases h0 : zs = []
 ·subst h0
  exact ⟨_, mem0 W, by simp, .inl rfl, by simp⟩
 ·have hpos : 0 < zs.length := List.length_pos_iff.2 h0
  have h1 := hcell 0 hpos
  unfold World.cell? at h1
  cases hh : W.heap[(a.add 0).block]? with
  | none => simp [hh] at h1
  | some o =>
   cases o with
   | cells arr T fz =>
    have hs : a.spot = none := by
     simp only [hh] at h1
     cases hsp : a.spot with
     | none => rfl
     | some x => simp [Addr.add, hsp] at h1
    have hb : (a.add 0).block = a.block := rfl
    rw [hb] at hh
    refine ⟨fun b => if b = a.block then some arr.toList else none, ⟨Below.refl _ W, fun b cs h => ?_, fun e he => (by cases he), fun e he => (by cases he), List.Pairwise.nil⟩, by simp [encI], .inr ⟨a.block, a.off, arr.toList, ?_, by simp, fun j v hv => ?_⟩, by simpa using hl⟩
    ·by_cases hba : b = a.block
     ·subst hba
      simp at h; subst h
      exact ⟨T, fz, by simpa using hh⟩
     ·simp [hba] at h
    ·cases a; simp only at hs; subst hs; rfl
    ·rw [encI_flat] at hv
     have hj : j < zs.length := by
      have := (List.getElem?_eq_some_iff.1 hv).1
      simpa using this
     have h2 := hcell j hj
     unfold World.cell? at h2
     have hbj : (a.add j).block = a.block := by unfold Addr.add; split <;> rfl
     have hsj : (a.add j).spot = a.spot := by unfold Addr.add; split <;> simp [hs]
     have hoj : (a.add j).off = a.off + j := by unfold Addr.add; split <;> simp [*]
     rw [hbj, hh] at h2
     simp only [hsj, hs, hoj] at h2
     rw [List.getElem?_map, List.getElem?_eq_getElem hj] at hv
     simp only [Option.map_some, Option.some.injEq] at hv
     subst hv
     have e1 : zs.getD j 0 = zs[j] := by simp [List.getD, List.getElem?_eq_getElem hj]
     rw [e1] at h2
     simpa using h2
   | _ => simp [hh] at h1

/-- a contract over a list of numbers, seen from outside -/
def LawI (P : Program) (f : FuncId) : Prop := ∀ {R : Ro} {a : Option Addr} {c : Nat} {xs : List Int}, RS R 1 encI a xs → xs.length ≤ c → ∀ w0, Fn P f [.slice a xs.length c] w0 R [] (fun v _ _ => v = .bool true)
theorem LawI.nil {P : Program} {f : FuncId} (h : LawI P f) (W : World) : Calls P f #[.slice none 0 0] W fun e W' => e = .returned (.bool true) ∧ Below W.heap.size W W' := by
 refine (h (R := fun _ => none) (a := none) (c := 0) (xs := []) ⟨by simp, .inl rfl, by simp⟩ (Nat.le_refl _) W W (mem0 W)).mono ?_
 rintro e w' ⟨v, R', E', rfl, _, hm, rfl⟩
 exact ⟨rfl, hm.below⟩
theorem LawI.some {P : Program} {f : FuncId} (h : LawI P f) {W : World} {a : Addr} {len cap : Nat} {zs : List Int} (hcell : ∀ i, i < zs.length → W.cell? (a.add i) = some (.int .i64 (zs.getD i 0))) (hl : zs.length ≤ 9223372036854775807) (hz : zs.length = cap) (hc : len ≤ cap) :
  Calls P f #[.slice (some a) len cap] W fun e W' => e = .returned (.bool true) ∧ Below W.heap.size W W' := by
 obtain ⟨R, hm, hr⟩ := rs_of_ints hcell hl
 have hr := hr.take len
 have hlen : (zs.take len).length = len := by simp; omega
 have := h (c := cap) hr (by omega) W W hm
 rw [hlen] at this
 refine this.mono ?_
 rintro e w' ⟨v, R', E', rfl, _, hm, rfl⟩
 exact ⟨rfl, hm.below⟩
end Go.Proofs.YtmidibkljoaoiaaGreatDoor.K

/- A law over any data: from its contract to its row. No condition. -/
namespace Go.Proofs.YtmidibkljoaoiaaGreatDoor.K
open Go Go.RowKit Go.ChangeShapes Go.WideShapes Go.ChangeAt Go.WideElems Go.Maps

/-- all that lies in memory, as what is read only -/
def roOf (W : World) : Ro := fun b => match W.heap[b]? with
  | some (.cells arr _ _) => some arr.toList
  | _ => none
theorem memAll (W : World) : Mem W W (roOf W) [] := by
 refine ⟨Below.refl _ W, fun b cs h => ?_, fun e he => (by cases he), fun e he => (by cases he), List.Pairwise.nil⟩
 unfold roOf at h
 split at h
 ·rename_i arr T fz hh
  simp only [Option.some.injEq] at h
  subst h
  exact ⟨T, fz, by simpa using hh⟩
 ·cases h
def ints (z : List Int) : List Value := z.map (Value.int .i64)
/-- rows of numbers that lie in memory -/
theorem rsl_of {W : World} {k : Nat} {a : Addr} {zss : List (List Int)} (hk : 0 < k) (hl : ∀ z ∈ zss, z.length = k) (hm : zss.length ≤ 9223372036854775807)
  (hc : ∀ i z, zss[i]? = some z → ∀ j v, (ints z)[j]? = some v → W.cell? (a.add (i * k + j)) = some v) : RSl (roOf W) k (some a) (zss.map ints) := by
 have hlen : ∀ r ∈ zss.map ints, r.length = k := fun r hr => by
  obtain ⟨z, hz, rfl⟩ := List.mem_map.1 hr
  simp [ints, hl z hz]
 by_cases h0 : zss = []
 ·subst h0
  exact ⟨by simp, .inl rfl, by simp⟩
 ·have hpos : 0 < zss.length := List.length_pos_iff.2 h0
  have hz0 : (ints zss[0]).length = k := by simp [ints, hl _ (List.getElem_mem hpos)]
  have h1 := hc 0 zss[0] (List.getElem?_eq_getElem hpos) 0 ((ints zss[0])[0]'(by omega)) (List.getElem?_eq_getElem (by omega))
  rw [Nat.zero_mul, Nat.zero_add] at h1
  unfold World.cell? at h1
  cases hh : W.heap[(a.add 0).block]? with
  | none => simp [hh] at h1
  | some o =>
   cases o with
   | cells arr T fz =>
    have hs : a.spot = none := by
     simp only [hh] at h1
     cases hsp : a.spot with
     | none => rfl
     | some x => simp [Addr.add, hsp] at h1
    have hb : (a.add 0).block = a.block := rfl
    rw [hb] at hh
    refine ⟨hlen, .inr ⟨a.block, a.off, arr.toList, ?_, ?_, fun m v hv => ?_⟩, by simpa using hm⟩
    ·cases a; simp only at hs; subst hs; rfl
    ·unfold roOf; rw [hh]
    ·have hmlt : m < (zss.map ints).flatten.length := (List.getElem?_eq_some_iff.1 hv).1
     rw [flatten_len hlen, List.length_map] at hmlt
     have hi : m / k < zss.length := Nat.div_lt_of_lt_mul (by rw [Nat.mul_comm]; exact hmlt)
     have hj : m % k < k := Nat.mod_lt _ hk
     have hzi := hl _ (List.getElem_mem hi)
     have hg := flatten_get hlen (i := m / k) (j := m % k) (row := ints zss[m / k]) (v := (ints zss[m / k])[m % k]'(by simp [ints, hzi, hj])) (by rw [List.getElem?_map, List.getElem?_eq_getElem hi]; rfl) (List.getElem?_eq_getElem _)
     have hme : m / k * k + m % k = m := by rw [Nat.mul_comm]; exact Nat.div_add_mod m k
     rw [hme, hv] at hg
     have hv' : v = (ints zss[m / k])[m % k]'(by simp [ints, hzi, hj]) := by simpa using hg
     have h2 := hc (m / k) _ (List.getElem?_eq_getElem hi) (m % k) v (by rw [hv']; exact List.getElem?_eq_getElem _)
     rw [hme] at h2
     unfold World.cell? at h2
     have hbj : (a.add m).block = a.block := by unfold Addr.add; split <;> rfl
     have hsj : (a.add m).spot = a.spot := by unfold Addr.add; split <;> simp [hs]
     have hoj : (a.add m).off = a.off + m := by unfold Addr.add; split <;> simp [*]
     rw [hbj, hh] at h2
     simp only [hsj, hs, hoj] at h2
     simpa using h2
   | _ => simp [hh] at h1

section
variable {H : Type} {enc : TypeId × Value → H} {P : Program} {W : World} {spare : Nat → Bool}
/-- elements that are k numbers -/
def Flat (enc : TypeId × Value → H) (P : Program) (e k : Nat) : Prop := ∀ (W : World) (spare : Nat → Bool) (fuel : Nat) (cs : List Value) (x : DataW H × List MemPlace), DataW.trod enc P W 0 spare true fuel e cs = some x → ∃ z : List Int, z.length = k ∧ cs = ints z ∧ ∀ n ∈ z, InR n
theorem flat_int {e : Nat} (he : P.underlying e = some (.int .i64)) : Flat enc P e 1 := by
 intro W spare fuel cs x h
 obtain ⟨n, rfl, _, hw⟩ := DataW.trod_int he h
 exact ⟨[n], rfl, rfl, fun m hm => (by
  have e : m = n := by simpa using hm
  rw [e]; exact bounds_i64 hw)⟩
theorem open_flat {t e k : Nat} {v : Value} {d : DataW H} {ps : List MemPlace} (ht : P.underlying t = some (.slice e)) (hk : 0 < k) (hce : P.cellsOf e = k) (hfl : Flat enc P e k)
  (hval : Value.okWide P W .any 0 t v) (h : DataW.Trod enc P W 0 spare true t v d ps) :
  ∃ (a : Option Addr) (cap : Nat) (zss : List (List Int)), v = .slice a zss.length cap ∧ zss.length ≤ cap ∧ (∀ z ∈ zss, z.length = k) ∧ RSl (roOf W) k a (zss.map ints) ∧ ∀ z ∈ zss, ∀ n ∈ z, InR n := by
 obtain ⟨a0, len, cap, rfl⟩ := okWide_slice ht hval
 obtain ⟨fuel, hf⟩ := h
 rcases Go.Deep.open_slice ht hf with ⟨hcs, _⟩ | ⟨a, len', cap', m, n, D, Pl, hcs, _, hl, hm, hmm, _, hx⟩
 ·simp [Value.cells] at hcs
  obtain ⟨rfl, rfl, rfl⟩ := hcs
  exact ⟨none, 0, [], rfl, Nat.le_refl _, by simp, ⟨by simp, .inl rfl, by simp⟩, by simp⟩
 ·simp [Value.cells] at hcs
  obtain ⟨rfl, rfl, rfl⟩ := hcs
  have hlm : len ≤ m := by rw [hmm]; split <;> omega
  have each : ∀ i, i < len → ∃ z : List Int, z.length = k ∧ (∀ j v, (ints z)[j]? = some v → W.cell? (a.add (i * k + j)) = some v) ∧ ∀ n ∈ z, InR n := by
   intro i hi
   obtain ⟨cs', h1, h2⟩ := hx i (by omega)
   rw [hce] at h1
   obtain ⟨_, hlen, hcell⟩ := World.cells?_some h1
   obtain ⟨z, hz, rfl, hr⟩ := hfl W spare n cs' _ h2
   refine ⟨z, hz, fun j v hj => ?_, hr⟩
   have hjk : j < k := by have := (List.getElem?_eq_some_iff.1 hj).1; simp [ints, hz] at this; exact this
   have := hcell j hjk
   rw [addr_add_add] at this
   rw [this, hj]
  have hch : ∃ f : Nat → List Int, ∀ i, i < len → (f i).length = k ∧ (∀ j v, (ints (f i))[j]? = some v → W.cell? (a.add (i * k + j)) = some v) ∧ ∀ n ∈ f i, InR n :=
   ⟨fun i => if h : i < len then (each i h).choose else [], fun i hi => by simp only [hi, dif_pos]; exact (each i hi).choose_spec⟩
  obtain ⟨f, hf'⟩ := hch
  have hlen : ((List.range len).map f).length = len := by simp
  refine ⟨some a, cap, (List.range len).map f, by rw [hlen], by rw [hlen]; exact hl, fun z hz => ?_, ?_, fun z hz => ?_⟩
  ·obtain ⟨i, hi, rfl⟩ := List.mem_map.1 hz
   exact (hf' i (by simpa using hi)).1
  ·refine rsl_of hk (fun z hz => ?_) (by rw [hlen]; simp only [maxLen] at hm; omega) (fun i z hi => ?_)
   ·obtain ⟨i, hi, rfl⟩ := List.mem_map.1 hz
    exact (hf' i (by simpa using hi)).1
   ·have hil : i < len := by have := (List.getElem?_eq_some_iff.1 hi).1; simpa using this
    have : z = f i := by simp [List.getElem?_map, hil] at hi; exact hi.symm
    subst this
    exact (hf' i hil).2.1
  ·obtain ⟨i, hi, rfl⟩ := List.mem_map.1 hz
   exact (hf' i (by simpa using hi)).2.2

/-- typed -/
theorem RS.ofFlat {α : Type} {_i : Inhabited α} {R : Ro} {k : Nat} {en : α → List Value} {dec : List Int → α} {a : Option Addr} {zss : List (List Int)} (h : RSl R k a (zss.map ints)) (hl : ∀ z ∈ zss, z.length = k) (hd : ∀ z : List Int, z.length = k → en (dec z) = ints z) :
  RS (_i := _i) R k en a (zss.map dec) := by
 unfold RS
 have : (zss.map dec).map en = zss.map ints := by
  rw [List.map_map]
  exact List.map_congr_left fun z hz => hd z (hl z hz)
 rw [this]; exact h

theorem carryAll (hl : laidOutB P = true) {W W' : World} : ∀ {ts : List TypeId} {vs : List Value} {ds : List (DataW H)} {ps : List MemPlace}, ts.all (fun t => P.readableRec t && decide (t < P.types.size)) = true → DataW.TrodAll enc P W 0 (fun _ => true) true ts vs ds ps → Below W.heap.size W W' → (∀ x ∈ ps, x.block < W.heap.size) →
  DataW.TrodAll enc P W' 0 (fun b => decide (b < W.heap.size)) true ts vs ds ps
 | [], vs, ds, ps, _, h, _, _ => by
  obtain ⟨rfl, rfl, rfl⟩ := trodAll_nil h
  exact trodAll_mk0
 | t :: ts, vs, ds, ps, hr, h, hb, hlt => by
  obtain ⟨v, vs', d, ds', p, q, rfl, rfl, rfl, h1, h2⟩ := trodAll_cons h
  simp only [List.all_cons, Bool.and_eq_true, decide_eq_true_eq] at hr
  exact ⟨p, q, Below.trod hl hr.1.1 hr.1.2 h1 hb (fun x hx => hlt x (by simp [hx])), carryAll hl (by simpa using hr.2) h2 hb (fun x hx => hlt x (by simp [hx])), rfl⟩
end
/-- a contract, seen from outside -/
theorem lift_calls {P : Program} {f : FuncId} {args : List Value} {W : World} (h : Fn P f args W (roOf W) [] (fun v _ _ => v = .bool true)) : Calls P f args.toArray W fun e W' => e = .returned (.bool true) ∧ Below W.heap.size W W' := by
 refine (h W (memAll W)).mono ?_
 rintro e w' ⟨v, R', E', rfl, _, hm, rfl⟩
 exact ⟨rfl, hm.below⟩
def decI (z : List Int) : Int := z.headD 0
theorem decI_enc : ∀ z : List Int, z.length = 1 → encI (decI z) = ints z
 | [x], _ => rfl
 | [], h => by simp at h
 | _ :: _ :: _, h => by simp at h
def decP : List Int → M.Pkt
  | [a, b, c] => ⟨a, b, c⟩
  | _ => ⟨0, 0, 0⟩
end Go.Proofs.YtmidibkljoaoiaaGreatDoor.K

/- Any flat data: a law whose road reads package-level variables: all that exists when the call begins is read only; the builder that hands on the list of the variables and the shape of the world. No condition. -/
namespace Go.Proofs.YtmidibkljoaoiaaGreatDoor.K
open Go Go.RowKit

theorem ro_cell {W : World} {b : Nat} {v : Value} (h : W.cell? ⟨b, 0, none⟩ = some v) : ∃ rest, roOf W b = some (v :: rest) := by
 unfold World.cell? at h
 unfold roOf
 cases hh : W.heap[b]? with
 | none => simp [hh] at h
 | some o =>
  cases o with
  | cells arr T fz =>
   simp only [hh] at h ⊢
   obtain ⟨l⟩ := arr
   cases l with
   | nil => simp at h
   | cons x l => simp at h; subst h; exact ⟨l, rfl⟩
  | _ => simp [hh] at h
theorem ro_var {P : Program} {W : World} {name : String} {g : Nat} {cs : Array Value} (hg : P.globalNamed name = some g) (h : W.var? P name = some cs) : roOf W g = some cs.toList := by
 unfold World.var? at h
 simp only [hg, Option.bind_some] at h
 unfold roOf
 split at h
 ·simp only [Option.some.injEq] at h; subst h; simp [*]
 ·cases h

theorem returnsInHanded_laidB {H : Type} {enc : TypeId × Value → H} {a : Assume} {C : Checked} {os : Os} {f : FuncId} {fn : Func} {s : ChangeSpec} {conds : List PathCond} {apart fresh handsOn again : Bool} {X : World → Array Value → Prop}
  (hX : ∀ (w w' : World) (args : Array Value), w.heap = w'.heap → X w args → X w' args)
  (own : ownKnob C.prog.godebug = none) (started : os.Started) (noInit : C.prog.inits.idxOf? f = none) (hfn : C.prog.funcs[f]? = some fn)
  (witness : ∃ (w : World) (tape : Tape) (i : Input), w.os = os ∧ (w.forCall tape i).Shaped C.prog ∧ i.vars = [] ∧ Input.okWide C.prog (w.forCall tape i) .any w.heap.size f i ∧
   ((s.pre enc C.prog fn conds apart (w.forCall tape i).memory i.args ∧ X (w.forCall tape i).memory i.args) ∧ sizedMet enc C.prog fn (OpenSpec.ofChange s) apart (w.forCall tape i).memory i.args) ∧ a.holds C.prog (lone (Frame.enter C.prog f i.args .normal) [] (w.forCall tape i)))
  (contract : ∀ (W : World) (base : Nat) (args : Array Value) (ds gs : List (DataW H)) (before : List MemPlace),
   (∀ (j : Nat) t v, fn.params[j]? = some t → args[j]? = some v → Value.okWide C.prog W .any base t v) →
   DataW.Whole enc C.prog fn.params.toList s.vars apart W args.toList ds gs before →
   conds.all (PathCond.test C.prog ⟨fn.params.toList, ds, s.plain.varTypes C.prog, gs⟩) = true →
   X W args → W.ShapedOpen C.prog →
   Calls C.prog f args W fun e W' => ∃ v, e = .returned v ∧ s.post enc C.prog fn apart fresh handsOn again W args v W') :
  ReturnsInHanded a C os f .any (fun w args => (s.pre enc C.prog fn conds apart w args ∧ X w args) ∧ sizedMet enc C.prog fn (OpenSpec.ofChange s) apart w args) (s.post enc C.prog fn apart fresh handsOn again) := by
 refine returnsInHanded_of_calls own started noInit witness ?_
 intro w tape i _ hsh _ hok hpre hholds
 obtain ⟨_, _, _, fn', hfn', _, _, _, _, hval⟩ := hok
 have e : fn' = fn := Option.some.inj (hfn'.symm.trans hfn)
 subst e
 obtain ⟨⟨⟨ds, gs, before, hw, hc⟩, hx⟩, hz⟩ := hpre
 have hw' := DataW.Whole.of_heap (w' := w.forCall tape i) (by rfl) hw
 refine (contract (w.forCall tape i) w.heap.size i.args ds gs before hval hw' hc (hX _ _ _ (by rfl) hx) hsh).mono fun e W' ⟨v, he, hp⟩ => ?_
 subst he
 exact ChangeSpec.post_blind hp
end Go.Proofs.YtmidibkljoaoiaaGreatDoor.K

/- From the list of the variables to what the walks know of them. No condition. -/
namespace Go.Proofs.YtmidibkljoaoiaaGreatDoor
open Go Go.RowKit Go.Proofs.YtmidibkljoaoiaaGreatDoor.K
theorem starE : "*" ++ "errors.errorString" = "*errors.errorString" := by decide
def laidJ : List (String × DataW Unit) := Rows.nettextKindsRow.laid
theorem glob_ofJ {W : World} (hsh : W.ShapedOpen Tryz.prog) (hL : laidMetH Tryz.prog laidJ W) : GlobE (roOf W) := by
 unfold laidJ Rows.nettextKindsRow at hL
 dsimp only at hL
 rw [MakeChecks.laidMetH_plain _ _ _ (by kernel_rfl)] at hL
 have h3 := hL.tail.tail
 have ht : (Rows.laid_internal_strconv_uint64pow10 : DataW Unit) = Lib.tabData .u64 Lib.pow10Tab := by kernel_rfl
 have h3b := h3
 rw [ht] at h3b
 have h4 := Lib.tabIs_of_head (g := 1) (t := 168) (e := 150) (n := 20) (by kernel_rfl) (by kernel_rfl) Tryz.underlying168 Tryz.underlying150 (by kernel_rfl) (by kernel_rfl) h3b
 have h5 := ro_var (P := Tryz.prog) (g := 1) (by kernel_rfl) h4
 have h6 := h3.tail.tail
 have h7 := h6.tail
 have hrow : ∀ u, Tryz.prog.typeName? 3 u = some "*errors.errorString" → u = 193 := fun u hu => typeName_ptr_named (P := Tryz.prog) (nm := "errors.errorString") (by rw [starE]; kernel_rfl) (by kernel_rfl) (by decide) u (by rw [starE]; exact hu)
 obtain ⟨a1, s1, e1, _, _, _⟩ := laid_sentinel (g := 7) (ti := 77) (tp := 193) (te := 195) (ts := 9) h6 (by kernel_rfl) (by kernel_rfl) Tryz.underlying77 hrow Tryz.underlying193 Tryz.underlying195 rfl rfl Tryz.underlying9 (by kernel_rfl) (by kernel_rfl)
 obtain ⟨a2, s2, e2, _, _, _⟩ := laid_sentinel (g := 6) (ti := 77) (tp := 193) (te := 195) (ts := 9) h7 (by kernel_rfl) (by kernel_rfl) Tryz.underlying77 hrow Tryz.underlying193 Tryz.underlying195 rfl rfl Tryz.underlying9 (by kernel_rfl) (by kernel_rfl)
 obtain ⟨m, hm⟩ := Go.Proofs.cell_of_shapedOpen_int (g := 0) (zero := #[.int .i64 0]) (t := 3) hsh (of_decide_eq_true (by kernel_rfl)) (by kernel_rfl) rfl (by kernel_rfl) (by kernel_rfl) Tryz.underlying3
 obtain ⟨rest, hr⟩ := ro_cell hm
 refine ⟨⟨m, rest, hr⟩, ?_, ?_, ?_⟩
 ·rw [h5]
 ·exact ⟨_, _, ro_var (P := Tryz.prog) (g := 6) (by kernel_rfl) e2⟩
 ·exact ⟨_, _, ro_var (P := Tryz.prog) (g := 7) (by kernel_rfl) e1⟩
end Go.Proofs.YtmidibkljoaoiaaGreatDoor

/- NettextKinds: for every input the law returns true, and the input reads afterwards as it read before; the listed variables of the library start as its text lays them. -/
namespace Go.Proofs.YtmidibkljoaoiaaGreatDoor
open Go Go.RowKit Go.ChangeShapes Go.WideShapes Go.ChangeAt Go.WideElems Go.Maps Go.Proofs.YtmidibkljoaoiaaGreatDoor.K Go.Proofs.YtmidibkljoaoiaaGreatDoor.M
open Go.ChangeMaps (open_string shut_string)
namespace nettextKinds
theorem own : ownKnob Tryz.prog.godebug = none := by kernel_rfl
theorem laidOut : laidOutB Tryz.prog = true := by kernel_rfl
theorem readable : (Tryz.f6.params.toList).all (fun t => Tryz.prog.readableRec t && decide (t < Tryz.prog.types.size)) = true := by kernel_rfl
section
variable {H : Type} {enc : TypeId × Value → H}
theorem flat_ints : Flat enc Tryz.prog 3 1 := flat_int Tryz.underlying3
theorem cells_ints : Tryz.prog.cellsOf 3 = 1 := by kernel_rfl
end
set_option maxRecDepth 100000 in
theorem lifted (os : Os) (started : os.Started) (H : Type) (enc : TypeId × Value → H) :
  ReturnsInHanded {} Tryz.checked os 6 .any (fun w args => (Rows.nettextKindsSpec.pre enc Tryz.prog Tryz.f6 [] false w args ∧ laidMetH Tryz.prog laidJ w) ∧ sizedMet enc Tryz.prog Tryz.f6 (OpenSpec.ofChange Rows.nettextKindsSpec) false w args)
   (Rows.nettextKindsSpec.post enc Tryz.prog Tryz.f6 false true false false) := by
 refine returnsInHanded_laidB (C := Tryz.checked) (X := fun w _ => laidMetH Tryz.prog laidJ w) (fun _ _ _ hh h => h.of_heap hh) own started (by kernel_rfl) Tryz.func6
  (ChangeSpec.witness_shaped (enc := enc) (C := Tryz.checked) (os := os) (X := fun w _ => laidMetH Tryz.prog laidJ w) false (World.laidAll Tryz.prog os laidJ) #[.slice none 0 0, .int .i8 0] 8 (World.laidAll_os _ _ _)
   (World.shaped_of_ZipB (by kernel_rfl) (by kernel_rfl)) (by kernel_rfl) (by kernel_rfl) (by kernel_rfl)
   (by rw [MakeChecks.laidMetH_plain _ _ _ (by kernel_rfl)]; exact laidMet_laidAll _ (by kernel_rfl) (by kernel_rfl))) ?_
 intro W base args ds gs before hval0 hW _ hL hsh
 have hG := glob_ofJ hsh hL
 have hval : ∀ (j : Nat) t v, Tryz.f6.params[j]? = some t → args[j]? = some v → Value.okWide Tryz.prog W .any base t v := hval0
 have hW' := hW
 obtain ⟨p, q, hA0, hV, rfl, _, _⟩ := hW
 have hA : DataW.TrodAll enc Tryz.prog W 0 (fun _ => true) true Tryz.f6.params.toList args.toList ds p := hA0
 have hA1 := hA
 obtain ⟨rfl, rfl⟩ := trodVars_none hV
 simp only [List.append_nil] at hW'
 have hlt : ∀ x ∈ p, x.block < W.heap.size := fun x hx => by simpa using hW'.lt x hx
 have hcarry : ∀ W', Below W.heap.size W W' → DataW.TrodAll enc Tryz.prog W' 0 (fun b => decide (b < W.heap.size)) true Tryz.f6.params.toList args.toList ds p := fun W' hb => carryAll laidOut readable hA1 hb hlt
 clear hA0 hval0 hA1
 rw [Tryz.params6] at hA
 obtain ⟨v0, vs0, d0, ds0, p0, q0, e0, rfl, e20, h0, t0⟩ := trodAll_cons hA
 obtain ⟨v1, vs1, d1, ds1, p1, q1, rfl, rfl, e21, h1, t1⟩ := trodAll_cons t0
 obtain ⟨rfl, rfl, _⟩ := trodAll_nil t1
 have hargs : args = #[v0, v1] := by rw [← Array.toArray_toList (xs := args), e0]
 subst hargs
 obtain ⟨a0, cp0, zs0, rfl, c0, l0, m0, r0⟩ := open_flat Tryz.underlying22 (by decide) cells_ints flat_ints (hval 0 22 _ rfl rfl) h0
 have g0 : RS (roOf W) 1 encI a0 (zs0.map decI) := RS.ofFlat m0 l0 decI_enc
 have n0 : (zs0.map decI).length = zs0.length := by simp
 rw [← n0] at c0
 obtain ⟨z1, rfl, _, _, w1⟩ := open_int Tryz.underlying58 (hval 1 58 _ rfl rfl) h1
 have r1 := bounds_i8 w1
 have hcall := lift_calls (P := Tryz.prog) (f := 6) (args := [.slice a0 (zs0.map decI).length cp0, .int .i8 z1]) (W := W) (NettextKinds_F g0 r1 hG c0 W)
 try simp only [List.length_map] at hcall
 refine hcall.mono fun e W' ⟨he, hb⟩ => ?_
 subst he
 exact ⟨_, rfl, ⟨_, _, _, [], _, [], hW', trodAll_mk1 (shut_bool Tryz.underlying4 _), hcarry W' hb, rfl, hb.frame _, fun h => by cases h⟩⟩
end nettextKinds
theorem nettextKinds_holds : Rows.NettextKindsSaid :=
 OpenClaim.holds_of_wide 6 Tryz.f6 rfl rfl rfl rfl rfl rfl rfl ⟨rfl, rfl, rfl, rfl, rfl⟩ rfl rfl rfl rfl rfl (by kernel_rfl) Tryz.func6 (by kernel_rfl)
  (of_decide_eq_true (by kernel_rfl)) (by unfold Func.isWrapper; first | (rw [if_pos (by decide +kernel)]; kernel_rfl) | (rw [if_neg (by decide +kernel)]; exact ⟨rfl, rfl⟩))
  (fun os started H enc _ => nettextKinds.lifted os started H enc)
theorem nettextKinds_card : Rows.NettextKindsCardSaid :=
 Claim7.holds_tied_plain_at .later [] [.data, .data, .data, .data, .sentinel, .sentinel, .pinned] true (true, "a8ab417d27d32975a5500058816fde3c7ee168de5f4d2e0157cc9cb094bec51d") true
  nettextKinds_holds (fun _ h => by cases h) (by kernel_rfl) (fun _ h => by cases h) nettextKinds_row_tie rfl ⟨rfl, rfl⟩ (by kernel_rfl) rfl
  (fun f fn hf hfn => by
   obtain rfl : f = 6 := Option.some.inj ((show Tryz.prog.funcNamed Tryz.f6.name = some 6 by kernel_rfl).symm.trans hf) |>.symm
   obtain rfl : fn = Tryz.f6 := (Option.some.inj (Tryz.func6.symm.trans hfn)).symm
   exact ⟨by kernel_rfl, fun j t ht => by
    rw [Tryz.params6] at ht
    have hm : t ∈ [22, 58] := by simpa using Array.mem_of_getElem? ht
    have hall : ([22, 58].all fun u => !Tryz.prog.wantsStandIn u) = true := by kernel_rfl
    exact (show Tryz.prog.wantsStandIn t = false by simpa using List.all_eq_true.1 hall t hm)⟩)
  (by kernel_rfl)
end Go.Proofs.YtmidibkljoaoiaaGreatDoor
