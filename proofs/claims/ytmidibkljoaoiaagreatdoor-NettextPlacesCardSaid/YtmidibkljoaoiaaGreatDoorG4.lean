/- Rules and walks, joined from 42 texts: the first of them says: Chapter 24: the text of a line. No condition. -/
import Derived.Test.YtmidibkljoaoiaaGreatDoorG3
/- Chapter 24: the text of a line. No condition. -/
set_option maxRecDepth 4000
set_option linter.unusedSimpArgs false
set_option linter.unusedVariables false
namespace Go.Proofs.YtmidibkljoaoiaaGreatDoor
open Go Go.RowKit Go.Proofs.YtmidibkljoaoiaaGreatDoor.K Go.Proofs.YtmidibkljoaoiaaGreatDoor.M

set_option maxHeartbeats 4000000 in
theorem FmtL_V {R : Ro} {aw at_ : Option Addr} {cw ct : Nat} {L : Ln} (hw : RS R 1 encI aw L.w) (ht : RS R 1 encI at_ L.tb) {name : List UInt8} (hn : name.length ≤ 1000000) : FnV Tryz.prog 15 [.string (str name), .agg #[.int .i64 L.kind, .int .i64 L.cap, .int .i64 L.n, .slice aw L.w.length cw, .slice at_ L.tb.length ct]] R (.tuple #[.string (str (fmtL name L)), .int .i64 (fmtE name L)]) := by
 refine FnV.ofOwn (fun w0 hb0 => ?_)
 have hwll := hw.len
 have htll := ht.len
 refine fE 105 Tryz.func15 ?_
 refine zQ (zG ?_)
 refine zO fun b3 => ?_
 refine zR 2 rfl (zN (zU (zQ (zQ (zG (zR 1 rfl ?_))))))
 refine WG.callV en41 rfl rfl qD (CallOp.mk' rfl rfl rfl rfl) (fun _ => rfl) (fun hg => Word_V (s := name) qO) ?_
 refine zR 1 rfl (zN (zU ?_))
 refine W.cond rfl (fun hc0 => ?_) (fun hc0 => ?_)
 ·try simp only [zk] at hc0
  have hno : wordB name = false := by simpa using hc0
  have hfe : fmtE name L = 4 := if_pos hno
  refine zQ (zG (zR 2 rfl (zN (zU (zT (wt ?_))))))
  refine WE.subE (E' := []) qS ?_
  refine WE.retF tab_ok [_, _] rfl ⟨rfl, rfl, trivial⟩ (by first | assumption | exact RLe.refl _) ?_
  show Value.tuple #[_, _] = _
  unfold fmtL; rw [hfe]; rfl
 ·try simp only [zk] at hc0
  have hyes : wordB name = true := by simpa using hc0
  have hnl : name.length ≤ 12 := (of_decide_eq_true hyes).2.1
  refine zK (zU (zQ (zQ (zG ?_))))
  refine yL (Rd.blk 0 rfl) ?_
  refine WG.callV en42 rfl rfl qD (CallOp.mk' rfl rfl rfl rfl) (fun _ => rfl) (fun hg => ChkSrv_V hw rfl ht rfl) ?_
  refine zR 1 rfl (zN (zU (zQ (zG (zR 2 rfl (zN (zU ?_)))))))
  refine W.condN rfl (fun hc1 => ?_) (fun hc1 => ?_)
  ·try dsimp only at hc1
   have hfe : fmtE name L = chkL L := by unfold fmtE; rw [if_neg (by rw [hyes]; decide), if_pos hc1]
   refine zQ (zG (zR 3 rfl (zN (zU (zT (wt ?_))))))
   refine WE.subE (E' := []) qS ?_
   refine WE.retF tab_ok [_, _] rfl ⟨rfl, rfl, trivial⟩ (by first | assumption | exact RLe.refl _) ?_
   show Value.tuple #[_, _] = _
   unfold fmtL; rw [hfe, if_neg hc1]; rfl
  ·try dsimp only at hc1
   have hck : chkL L = 0 := by first | exact hc1 | exact Classical.not_not.1 hc1
   have hfe : fmtE name L = if L.kind = 1 ∧ L.n ≠ 1 then 6 else 0 := by unfold fmtE; rw [if_neg (by rw [hyes]; decide), if_neg (fun h => h hck)]
   obtain ⟨hkk, hcp1, hcp2, hn1, hn6, _⟩ := chk_facts hck
   refine zK (zU (zQ ?_))
   refine W.regionH _ (ES := [.blk b3 [.int .i64 L.kind, .int .i64 L.cap, .int .i64 L.n, .slice aw L.w.length cw, .slice at_ L.tb.length ct]]) mixed ?_
   refine tP 0 ?_
   refine tP 1 ?_
   refine tL 2 (Rd.add (Rd.blk 0 rfl) _) ?_
   refine tP 4 ?_
   refine tL 5 (Rd.add (Rd.blk 0 rfl) _) ?_
   refine WA.callV 3 rfl qK en43 rfl rfl qD (CallOp.mk' rfl rfl rfl rfl) (fun _ => rfl) (fun hg => Keyw_V) qS qR ?_
   refine WA.callV 6 rfl qK en38 rfl rfl qD (CallOp.mk' rfl rfl rfl rfl) (fun _ => rfl) (fun hg => Dec24z_V qO qO) qS qR ?_
   refine WA.eff 7 rfl qK rfl rfl qD (Ef.buildSliceD (enc := encT) (parts := [.const (.string ⟨#[108, 105, 110, 101]⟩), .tmp 17, .tmp 20, .tmp 23]) [wLine, name, kwS L.kind, Lib.decDigits L.cap.toNat] tab_ok rfl rfl rfl rfl rfl rfl rfl rfl qD qD (fun a24 => ?_))
   refine ⟨qR, qS, ?_⟩
   refine tP 8 ?_
   refine WA.done qK ?_
   refine zU (zQ (zG (zR 1 rfl ?_)))
   refine yL (Rd.add (Rd.blk 1 rfl) _) ?_
   refine zR 3 rfl ?_
   refine yP ?_
   refine yG (Rd.addC (Rd.blkC 1 rfl) _) ?_
   refine yP ?_
   refine yP ?_
   refine yN ?_
   refine zR 1 rfl (zN (zU ?_))
   refine W.seqCut (β := List (List UInt8) × Option Addr × Nat × Bool) (fun (ws, a7, c7, rt) => rt = decide (fmtE name L = 0) ∧ (rt = true → ws = fmtWords name L) ∧ ws ≠ [] ∧ ws.length ≤ 10) (fun (ws, a7, c7, rt) => [(7, true, .slice a7 ws.length c7), (8, true, .bool rt)]) (fun _ => R) (fun (ws, a7, c7, rt) => [.sl 9 1 a7 c7 (ws.map encT)]) ?_ ?_
   ·
    intro zz hst
    obtain ⟨ws, a7, c7, rt⟩ := zz
    obtain ⟨hrt, hwv, hwn, hwl⟩ := hst
    dsimp only at hrt hwv hwn hwl ⊢
    refine zQ (zQ (zG (zR 2 rfl (zN (zU ?_)))))
    refine W.cond rfl (fun hc2 => ?_) (fun hc2 => ?_)
    ·try simp only [zk] at hc2
     have hrf : rt = false := by simpa using hc2
     refine zQ (zG (zR 2 rfl (zN (zU (zT (wt ?_))))))
     refine WE.subE (E' := []) qS ?_
     refine WE.retF tab_ok [_, _] rfl ⟨rfl, rfl, trivial⟩ (by first | assumption | exact RLe.refl _) ?_
     have hfe6 : fmtE name L = 6 := by
      rw [hfe]
      rw [hfe, hrf] at hrt
      split
      ·rfl
      ·rename_i h; rw [if_neg h] at hrt; exact absurd hrt (by decide)
     show Value.tuple #[_, _] = _
     unfold fmtL; rw [hfe6]; rfl
    ·try simp only [zk] at hc2
     have hrt1 : rt = true := by simpa using hc2
     have hfe0 : fmtE name L = 0 := by rw [hrt1] at hrt; exact of_decide_eq_true hrt.symm
     refine zK (zU ?_)
     refine W.cap 0 rfl ?_
     intro hcl
     refine W.freeze (enc := encT) (xs := ws) 0 rfl ?_
     intro R2 hR2 hws
     refine zQ (zG (zR 1 rfl ?_))
     refine WG.callV en37 rfl rfl (by decide) (CallOp.mk' rfl rfl rfl rfl) (fun _ => rfl) (fun hg => Join_V hws hwn (by simpa using hcl) (by omega) (by rw [hwv hrt1]; exact fmt_le hyes hck)) ?_
     refine zR 2 rfl (zN (zU (zT ?_)))
     refine WE.subE (E' := []) qS ?_
     refine WE.retF tab_ok [_, _] rfl ⟨rfl, rfl, trivial⟩ (by first | assumption | exact RLe.refl _) ?_
     show Value.tuple #[_, _] = _
     unfold fmtL; rw [hfe0, if_pos rfl, hwv hrt1]
   ·
    refine zQ (zG (zR 1 rfl ?_))
    refine yL (Rd.add (Rd.blk 1 rfl) _) ?_
    refine zN (zU (zB (zQ (zG (zR 2 rfl (zN (zU ?_)))))))
    refine W.condE rfl (fun hc3 => ?_) (fun hc3 => ?_)
    ·try dsimp only at hc3
     have hk1 : L.kind = 1 := by omega
     obtain ⟨hw0, ht0⟩ := chk_flat hck (.inl hk1)
     refine zG (zR 2 rfl ?_)
     refine yP ?_
     refine yG (Rd.addC (Rd.blkC 1 rfl) _) ?_
     refine yP ?_
     refine yN ?_
     refine zR 1 rfl (zN (zL ?_))
     refine WE.cut ([wLine, name, kwS L.kind, Lib.decDigits L.cap.toNat], (some ⟨a24, 0, none⟩), 4, _) ⟨by show _ = _; rw [hfe, hw0, ht0]; by_cases h1 : L.n = 1 <;> simp [h1, hk1], by intro _; unfold fmtWords fmtRest; rw [if_pos hk1]; rfl, List.cons_ne_nil _ _, by first | decide | exact Nat.le_of_ble_eq_true rfl⟩ ⟨rfl, rfl, rfl⟩ (RLe.refl _) qS
    ·try dsimp only at hc3
     refine zQ (zG (zR 2 rfl (zN (zU ?_))))
     refine W.condE rfl (fun hc4 => ?_) (fun hc4 => ?_)
     ·try dsimp only at hc4
      have hk2 : L.kind = 2 := by omega
      obtain ⟨hw0, ht0⟩ := chk_flat hck (.inr hk2)
      refine zG (zR 2 rfl ?_)
      refine yL (Rd.add (Rd.blk 1 rfl) _) ?_
      refine WG.callV en38 rfl rfl qD (CallOp.mk' rfl rfl rfl rfl) (fun _ => rfl) (fun hg => Dec24z_V qO qO) ?_
      refine WL.ef rfl rfl qD (Ef.buildSliceD (enc := encT) (parts := [.tmp 50]) [_] tab_ok rfl rfl rfl rfl rfl rfl rfl rfl qD qD (fun a51 => ?_))
      refine WL.ef rfl rfl (by decide) (Ef.appendD 1 0 tab_ok rfl rfl rfl rfl rfl rfl rfl rfl rfl rfl rfl (fun _ _ => rfl) (by simp only [List.length_cons, List.length_nil]; omega) (by simp only [List.length_cons, List.length_nil]; omega) (fun a52 c52 ha52 => ?_))
      refine zR 1 rfl (zN (zL ?_))
      refine WE.cut ([wLine, name, kwS L.kind, Lib.decDigits L.cap.toNat] ++ [Lib.decDigits L.n.toNat], a52, c52, _) ⟨by show _ = _; rw [hfe, hw0, ht0]; simp [hk2], by intro _; unfold fmtWords fmtRest; rw [if_neg (by omega), if_pos hk2], List.cons_ne_nil _ _, by first | decide | exact Nat.le_of_ble_eq_true rfl⟩ ⟨rfl, rfl, rfl⟩ (RLe.refl _) qS
     ·try dsimp only at hc4
      refine zQ (zQ (zG (zR 2 rfl (zN (zU ?_)))))
      refine W.condE rfl (fun hc5 => ?_) (fun hc5 => ?_)
      ·try dsimp only at hc5
       have hk3 : L.kind = 3 := by omega
       obtain ⟨hr1, hr2, hr3⟩ := chk_rob hck hk3
       refine zK (zU ?_)
       refine W.condE rfl (fun hc6 => ?_) (fun hc6 => ?_)
       ·try dsimp only at hc6
        refine zQ (zG (zR 1 rfl ?_))
        refine yL (Rd.add (Rd.blk 1 rfl) _) ?_
        refine zR 2 rfl ?_
        refine yL (Rd.add (Rd.blk 1 rfl) _) ?_
        refine zR 2 rfl ?_
        refine yP ?_
        refine yG (Rd.addC (Rd.blkC 1 rfl) _) ?_
        refine yP ?_
        refine yP ?_
        refine yN ?_
        refine zR 1 rfl ?_
        refine yP ?_
        refine yG (Rd.addC (Rd.blkC 1 rfl) _) ?_
        refine yP ?_
        refine yP ?_
        refine yN ?_
        refine zR 1 rfl (zN (zU (zG (zR 2 rfl ?_))))
        refine yL (Rd.add (Rd.blk 1 rfl) _) ?_
        refine WG.callV en44 rfl rfl (by decide) (CallOp.mk' rfl rfl rfl rfl) (fun _ => rfl) (fun hg => ListN_V hw (by intro h; rw [h] at hr1; simp at hr1; omega) (by omega) (fun x hx => by have := within_mem hr2 x hx; omega) (by have := lstS_le (fun x hx => by have := within_mem hr2 x hx; omega); omega)) ?_
        refine WL.ef rfl rfl qD (Ef.buildSliceD (enc := encT) (parts := [.tmp 77]) [_] tab_ok rfl rfl rfl rfl rfl rfl rfl rfl qD qD (fun a78 => ?_))
        refine WL.ef rfl rfl (by decide) (Ef.appendD 1 0 tab_ok rfl rfl rfl rfl rfl rfl rfl rfl rfl rfl rfl (fun _ _ => rfl) (by simp only [List.length_cons, List.length_nil]; omega) (by simp only [List.length_cons, List.length_nil]; omega) (fun a79 c79 ha79 => ?_))
        refine zR 1 rfl (zN (zL ?_))
        refine WE.cut ([wLine, name, kwS L.kind, Lib.decDigits L.cap.toNat] ++ [lstS L.w], a79, c79, _) ⟨by show _ = _; rw [hfe, hr3]; simp [hk3]; omega, by intro _; unfold fmtWords fmtRest; rw [if_neg (by omega), if_neg (by omega), if_pos (.inl hk3)], List.cons_ne_nil _ _, by first | decide | exact Nat.le_of_ble_eq_true rfl⟩ ⟨rfl, rfl, rfl⟩ (RLe.refl _) qS
       ·try dsimp only at hc6
        exact absurd hc5 hc6
      ·try dsimp only at hc5
       refine zG (zR 2 rfl (zN (zU ?_)))
       refine W.condE rfl (fun hc7 => ?_) (fun hc7 => ?_)
       ·try dsimp only at hc7
        have hk4 : L.kind = 4 := by omega
        obtain ⟨hr1, hr2, hr3⟩ := chk_def hck hk4
        refine zQ (zG (zR 1 rfl ?_))
        refine yL (Rd.add (Rd.blk 1 rfl) _) ?_
        refine zR 2 rfl ?_
        refine yL (Rd.add (Rd.blk 1 rfl) _) ?_
        refine zR 2 rfl ?_
        refine yP ?_
        refine yG (Rd.addC (Rd.blkC 1 rfl) _) ?_
        refine yP ?_
        refine yP ?_
        refine yN ?_
        refine zR 1 rfl ?_
        refine yP ?_
        refine yG (Rd.addC (Rd.blkC 1 rfl) _) ?_
        refine yP ?_
        refine yP ?_
        refine yN ?_
        refine zR 1 rfl (zN (zU (zG (zR 2 rfl ?_))))
        refine yL (Rd.add (Rd.blk 1 rfl) _) ?_
        refine WG.callV en44 rfl rfl (by decide) (CallOp.mk' rfl rfl rfl rfl) (fun _ => rfl) (fun hg => ListN_V hw (by intro h; rw [h] at hr1; simp at hr1; omega) (by omega) (fun x hx => by have := within_mem hr2 x hx; omega) (by have := lstS_le (fun x hx => by have := within_mem hr2 x hx; omega); omega)) ?_
        refine WL.ef rfl rfl qD (Ef.buildSliceD (enc := encT) (parts := [.tmp 77]) [_] tab_ok rfl rfl rfl rfl rfl rfl rfl rfl qD qD (fun a78 => ?_))
        refine WL.ef rfl rfl (by decide) (Ef.appendD 1 0 tab_ok rfl rfl rfl rfl rfl rfl rfl rfl rfl rfl rfl (fun _ _ => rfl) (by simp only [List.length_cons, List.length_nil]; omega) (by simp only [List.length_cons, List.length_nil]; omega) (fun a79 c79 ha79 => ?_))
        refine zR 1 rfl (zN (zL ?_))
        refine WE.cut ([wLine, name, kwS L.kind, Lib.decDigits L.cap.toNat] ++ [lstS L.w], a79, c79, _) ⟨by show _ = _; rw [hfe, hr3]; simp [hk4]; omega, by intro _; unfold fmtWords fmtRest; rw [if_neg (by omega), if_neg (by omega), if_pos (.inr hk4)], List.cons_ne_nil _ _, by first | decide | exact Nat.le_of_ble_eq_true rfl⟩ ⟨rfl, rfl, rfl⟩ (RLe.refl _) qS
       ·try dsimp only at hc7
        refine zQ (zG (zR 2 rfl (zN (zU ?_))))
        refine W.condE rfl (fun hc8 => ?_) (fun hc8 => ?_)
        ·try dsimp only at hc8
         have hk5 : L.kind = 5 := by omega
         obtain ⟨hs1, hs2, hs3⟩ := chk_times hck hk5
         refine zQ (zG (zR 1 rfl ?_))
         refine yL (Rd.add (Rd.blk 1 rfl) _) ?_
         refine zR 3 rfl ?_
         refine yP ?_
         refine yG (Rd.addC (Rd.blkC 1 rfl) _) ?_
         refine yP ?_
         refine yP ?_
         refine yN ?_
         refine zR 1 rfl (zN (zU ?_))
         refine W.regionH _ (ES := [.blk b3 [.int .i64 L.kind, .int .i64 L.cap, .int .i64 L.n, .slice aw L.w.length cw, .slice at_ L.tb.length ct]]) mixed ?_
         refine tP 0 ?_
         refine tP 1 ?_
         refine tL 2 (Rd.add (Rd.blk 0 rfl) _) ?_
         refine tP 4 ?_
         refine tL 5 (Rd.add (Rd.blk 0 rfl) _) ?_
         refine WA.callV 3 rfl qK en38 rfl rfl qD (CallOp.mk' rfl rfl rfl rfl) (fun _ => rfl) (fun hg => Dec24z_V qO qO) qS qR ?_
         refine WA.callV 6 rfl (by kernel_rfl) en44 rfl rfl (by decide) (CallOp.mk' rfl rfl rfl rfl) (fun _ => rfl) (fun hg => ListN_V ht (by intro h; rw [h] at hs1; simp at hs1) (by omega) (fun x hx => by have := within_mem hs2 x hx; omega) (by have := lstS_le (fun x hx => by have := within_mem hs2 x hx; omega); omega)) qS (by first | exact RLe.refl _ | assumption) ?_
         refine WA.eff 7 rfl qK rfl rfl qD (Ef.buildSliceD (enc := encT) (parts := [.tmp 95, .tmp 98]) [_, _] tab_ok rfl rfl rfl rfl rfl rfl rfl rfl qD qD (fun a99 => ?_))
         refine ⟨qR, qS, ?_⟩
         refine WA.eff 8 rfl (by kernel_rfl) rfl rfl (by decide) (Ef.appendD 1 0 tab_ok rfl rfl rfl rfl rfl rfl rfl rfl rfl rfl rfl (fun _ _ => rfl) (by simp only [List.length_cons, List.length_nil]; omega) (by simp only [List.length_cons, List.length_nil]; omega) (fun a100 c100 ha100 => ?_))
         refine ⟨qR, qS, ?_⟩
         refine tP 9 ?_
         refine WA.done qK ?_
         refine zL ?_
         refine WE.cut ([wLine, name, kwS L.kind, Lib.decDigits L.cap.toNat] ++ [Lib.decDigits L.n.toNat, lstS L.tb], a100, c100, _) ⟨by show _ = _; rw [hfe, hs3]; simp [hk5]; omega, by intro _; unfold fmtWords fmtRest; rw [if_neg (by omega), if_neg (by omega), if_neg (by omega)], List.cons_ne_nil _ _, by first | decide | exact Nat.le_of_ble_eq_true rfl⟩ ⟨rfl, rfl, rfl⟩ (RLe.refl _) qS
        ·try dsimp only at hc8
         exact absurd hkk qO

end Go.Proofs.YtmidibkljoaoiaaGreatDoor

/- Rules: maps whose keys are strings. No condition. -/
namespace Go.Proofs.YtmidibkljoaoiaaGreatDoor.K
open Go Go.RowKit Go.Proofs.YtmidibkljoaoiaaGreatDoor.M
section
variable {P : Program} {T : Tab} {n : Nat} {env : Env} {w0 : World} {R : Ro} {E : List Ent} {o : Oper} {pc p q : Bool}
/-- the entries of a set of names, in the order in which they came -/
def entS : Nat → List (List UInt8) → List MapEntry
  | _, [] => []
  | k, x :: l => { key := .string (str x), val := .bool true, born := k } :: entS (k + 1) l
def setO (l : List (List UInt8)) : Obj := .map (entS 0 l).toArray l.length
theorem entS_snoc : ∀ (l : List (List UInt8)) (k : Nat) (x : List UInt8), entS k (l ++ [x]) = entS k l ++ [{ key := .string (str x), val := .bool true, born := k + l.length }]
 | [], k, x => by simp [entS]
 | y :: l, k, x => by
  rw [List.cons_append, entS, entS_snoc l (k + 1) x, entS, List.length_cons, show k + 1 + l.length = k + (l.length + 1) by omega]
  rfl
theorem setO_snoc (l : List (List UInt8)) (x : List UInt8) : Obj.map ((entS 0 l).toArray.push { key := .string (str x), val := .bool true, born := l.length }) (l.length + 1) = setO (l ++ [x]) := by
 unfold setO
 rw [entS_snoc, List.length_append, Nat.zero_add]
 simp
theorem same_str (x y : List UInt8) : Instr.sameNow .string (.string (str x)) (.string (str y)) = some (decide (x = y)) := by
 have h : (str x == str y) = decide (x = y) := by
  show ((str x).data == (str y).data) = _
  by_cases e : x = y
  ·subst e; rw [decide_eq_true rfl]; exact beq_iff_eq.2 rfl
  ·rw [decide_eq_false e]; exact beq_eq_false_iff_ne.2 (fun h => e (str_inj (ByteArray.ext h)))
 show some (str x == str y) = _
 rw [h]
theorem find_no : ∀ (l : List (List UInt8)) (k i : Nat) (x : List UInt8), x ∉ l → Instr.findNow .string (.string (str x)) (entS k l) i = some none
 | [], _, _, _, _ => rfl
 | y :: l, k, i, x, h => by
  have h1 : x ≠ y := fun e => h (by rw [e]; simp)
  have h2 := find_no l (k + 1) (i + 1) x (fun hx => h (by simp [hx]))
  unfold entS Instr.findNow
  simp [same_str, h1, h2]
theorem find_yes : ∀ (l : List (List UInt8)) (k i : Nat) (x : List UInt8), x ∈ l → ∃ j, Instr.findNow .string (.string (str x)) (entS k l) i = some (some (j, .bool true))
 | [], _, _, _, h => by simp at h
 | y :: l, k, i, x, h => by
  unfold entS Instr.findNow
  by_cases h1 : x = y
  ·subst h1
   exact ⟨i, by simp [same_str]⟩
  ·obtain ⟨j, h2⟩ := find_yes l (k + 1) (i + 1) x (by rcases List.mem_cons.1 h with h | h; exact absurd h h1; exact h)
   exact ⟨j, by simp [same_str, h1, h2]⟩
theorem Ef.setAdd {K : Value → Ro → List Ent → Prop} {t kt et : TypeId} {x y z : Operand} {b : Nat} {l : List (List UInt8)} {s : List UInt8} {d d2 : TD} (hT : TabOk P T) (ho : o.op = .mapUpdate t x y z) (hd : T.at t = some d) (hkd : d.k = .map kt et) (hd2 : T.at kt = some d2) (hk2 : d2.k = .str)
  (hx : ev env x = some (true, .map (some b))) (hy : ev env y = some (true, .string (str s))) (hz : ev env z = some (true, .bool true)) (hf : s ∉ l)
  (hK : K undef R (.obj b (setO (l ++ [s])) :: E)) : Ef P n env w0 R (.obj b (setO l) :: E) o K := by
 intro a w hk hm
 have hb := hm.getObj
 have hm1 := under_map hT hd hkd
 have hu2 := hT.str hd2 hk2
 have hc : (Instr.checkKey false 10000 kt (.string (str s))).run P w = .ok () w := MapKept.run_checkKey (k := .string (str s)) hu2 (by simp [MapKept.IsKey]) false 9999
 rw [← setO_snoc] at hK
 have hf' : Instr.findNow .string (.string (str s)) (entS 0 l).toArray.toList 0 = some none := find_no l 0 0 s hf
 refine ⟨undef, w.putObj b _, R, _, .inr ⟨?_, rfl⟩, hm.putObj _, hK⟩
 unfold execOp
 unfold setO at hb
 simp [ho, hk.ev hx rfl, hk.ev hy rfl, hk.ev hz rfl, Instr.mapUpdate, run_underlying hm1, MapKept.run_getObj_map hb, hc, MapKept.run_findKey hu2 hf', MapKept.run_setObj_map _ hb, Result.andThen, World.putObj]
theorem Yl.setHas {t kt et : TypeId} {x y : Operand} {b : Nat} {l : List (List UInt8)} {s : List UInt8} {d d2 : TD} (hT : TabOk P T) (ho : o.op = .lookup t x y false) (hd : T.at t = some d) (hkd : d.k = .map kt et) (hd2 : T.at kt = some d2) (hk2 : d2.k = .str) (hz : (P.info? et).bind (·.zero) = some (.bool false))
  (hx : ev env x = some (p, .map (some b))) (hy : ev env y = some (q, .string (str s))) (hpq : pc = true → (p && q) = true) : Yl P n env w0 R (.obj b (setO l) :: E) o pc (.bool (decide (s ∈ l))) := by
 intro a w hk hm hpc
 obtain ⟨h1, h2⟩ := and_both (hpq hpc)
 have hb := hm.getObj
 have hm1 := under_map hT hd hkd
 have hu2 := hT.str hd2 hk2
 have hc : ∀ e, (Instr.checkKey e 10000 kt (.string (str s))).run P w = .ok () w := fun e => MapKept.run_checkKey (k := .string (str s)) hu2 (by simp [MapKept.IsKey]) e 9999
 have hz' : (zeroValue et).run P w = .ok (.bool false) w := by
  cases hi : P.info? et with
  | none => rw [hi] at hz; cases hz
  | some inf =>
   rw [hi] at hz
   have : inf.zero = some (.bool false) := hz
   simp [zeroValue, typeInfo, hi, this]
 unfold setO at hb
 unfold execOp
 by_cases hs : s ∈ l
 ·obtain ⟨j, hf⟩ := find_yes l 0 0 s hs
  have hf' : Instr.findNow .string (.string (str s)) (entS 0 l).toArray.toList 0 = some (some (j, .bool true)) := hf
  simp [ho, hk.ev hx h1, hk.ev hy h2, Instr.lookup, run_underlying hm1, MapKept.run_getObj_map hb, hc, MapKept.run_findKey hu2 hf', Result.andThen, hs]
 ·have hf' : Instr.findNow .string (.string (str s)) (entS 0 l).toArray.toList 0 = some none := find_no l 0 0 s hs
  simp [ho, hk.ev hx h1, hk.ev hy h2, Instr.lookup, run_underlying hm1, MapKept.run_getObj_map hb, hc, MapKept.run_findKey hu2 hf', hz', Result.andThen, hs]
end
end Go.Proofs.YtmidibkljoaoiaaGreatDoor.K

/- Chapter 24: a set of names. No condition. -/
set_option maxRecDepth 4000
set_option linter.unusedSimpArgs false
set_option linter.unusedVariables false
namespace Go.Proofs.YtmidibkljoaoiaaGreatDoor
open Go Go.RowKit Go.Proofs.YtmidibkljoaoiaaGreatDoor.K Go.Proofs.YtmidibkljoaoiaaGreatDoor.M

theorem Fresh_C {R : Ro} {b : Nat} {met : List (List UInt8)} {n : List UInt8} (hn : n.length ≤ 9223372036854775807) (w0 : World) : FnAt Tryz.prog 62 [.map (some b), .string (str n)] w0 R (.obj b (setO met)) (fun v R' e' N => v = .int .i64 (frE met n) ∧ R = R' ∧ e' = .obj b (setO (if frE met n = 0 then met ++ [n] else met)) ∧ N = []) := by
 intro F
 refine fE 13 Tryz.func62 ?_
 refine zQ (zG (zR 1 rfl (zN (zU (zQ (zQ (zG (zR 1 rfl ?_))))))))
 refine WG.callV en41 rfl rfl qD (CallOp.mk' rfl rfl rfl rfl) (fun _ => rfl) (fun hg => Word_V (s := n) hn) ?_
 refine zR 1 rfl (zN (zU ?_))
 refine W.cond rfl (fun hc0 => ?_) (fun hc0 => ?_)
 ·try simp only [zk] at hc0
  have hw : wordB n = false := by simpa using hc0
  have hf : frE met n = 4 := if_pos hw
  refine zQ (zG (zR 1 rfl (zN (zU (zT (wt ?_))))))
  refine WE.retF tab_ok [_] rfl ⟨rfl, trivial⟩ (RLe.refl _) ?_
  exact ⟨_, [], rfl, by rw [hf]; rfl, rfl, by rw [hf]; rfl, rfl⟩
 ·try simp only [zk] at hc0
  have hw : wordB n = true := by simpa using hc0
  refine zK (zU (zQ (zQ (zG (zR 2 rfl ?_)))))
  refine WG.y rfl rfl qD (Yl.setHas tab_ok rfl rfl rfl rfl rfl rfl rfl rfl (fun _ => rfl)) ?_
  refine zN (zU ?_)
  refine W.cond rfl (fun hc1 => ?_) (fun hc1 => ?_)
  ·try simp only [zk] at hc1
   have hi : n ∈ met := by simpa using hc1
   have hf : frE met n = 60 := by unfold frE; rw [if_neg (by rw [hw]; decide), if_pos hi]
   refine zQ (zG (zR 1 rfl (zN (zU (zT (wt ?_))))))
   refine WE.retF tab_ok [_] rfl ⟨rfl, trivial⟩ (RLe.refl _) ?_
   exact ⟨_, [], rfl, by rw [hf]; rfl, rfl, by rw [hf]; rfl, rfl⟩
  ·try simp only [zk] at hc1
   have hi : n ∉ met := by simpa using hc1
   have hf : frE met n = 0 := by unfold frE; rw [if_neg (by rw [hw]; decide), if_neg hi]
   refine zK (zU (zQ (zG (zR 2 rfl ?_))))
   refine WL.efN rfl rfl (Ef.setAdd tab_ok rfl rfl rfl rfl rfl rfl rfl rfl (by simpa using hc1) ?_)
   refine zN (zU (zQ (zG (zR 1 rfl (zN (zU (zT ?_)))))))
   refine WE.retF tab_ok [_] rfl ⟨rfl, trivial⟩ (RLe.refl _) ?_
   exact ⟨_, [], rfl, by rw [hf]; rfl, rfl, by rw [hf, if_pos rfl], rfl⟩

end Go.Proofs.YtmidibkljoaoiaaGreatDoor

/- Rules: sets of numbers (maps whose keys are numbers). No condition. -/
namespace Go.Proofs.YtmidibkljoaoiaaGreatDoor.K
open Go Go.RowKit Go.Proofs.YtmidibkljoaoiaaGreatDoor.M
section
variable {P : Program} {T : Tab} {n : Nat} {env : Env} {w0 : World} {R : Ro} {E : List Ent} {o : Oper} {pc p q : Bool}
/-- the entries of a set of numbers, in the order in which they came -/
def entZ : Nat → List Int → List MapEntry
  | _, [] => []
  | k, x :: l => { key := .int .i64 x, val := .bool true, born := k } :: entZ (k + 1) l
def setZ (l : List Int) : Obj := .map (entZ 0 l).toArray l.length
theorem entZ_snoc : ∀ (l : List Int) (k : Nat) (x : Int), entZ k (l ++ [x]) = entZ k l ++ [{ key := .int .i64 x, val := .bool true, born := k + l.length }]
 | [], k, x => by simp [entZ]
 | y :: l, k, x => by
  rw [List.cons_append, entZ, entZ_snoc l (k + 1) x, entZ, List.length_cons, show k + 1 + l.length = k + (l.length + 1) by omega]
  rfl
theorem setZ_snoc (l : List Int) (x : Int) : Obj.map ((entZ 0 l).toArray.push { key := .int .i64 x, val := .bool true, born := l.length }) (l.length + 1) = setZ (l ++ [x]) := by
 unfold setZ
 rw [entZ_snoc, List.length_append, Nat.zero_add]
 simp
theorem same_int (x y : Int) : Instr.sameNow (.int .i64) (.int .i64 x) (.int .i64 y) = some (decide (x = y)) := by
 show some (x == y) = _
 rw [show (x == y) = decide (x = y) by by_cases e : x = y <;> simp [e]]
theorem findZ_no : ∀ (l : List Int) (k i : Nat) (x : Int), x ∉ l → Instr.findNow (.int .i64) (.int .i64 x) (entZ k l) i = some none
 | [], _, _, _, _ => rfl
 | y :: l, k, i, x, h => by
  have h1 : x ≠ y := fun e => h (by rw [e]; simp)
  have h2 := findZ_no l (k + 1) (i + 1) x (fun hx => h (by simp [hx]))
  unfold entZ Instr.findNow
  simp [same_int, h1, h2]
theorem findZ_yes : ∀ (l : List Int) (k i : Nat) (x : Int), x ∈ l → ∃ j, Instr.findNow (.int .i64) (.int .i64 x) (entZ k l) i = some (some (j, .bool true))
 | [], _, _, _, h => by simp at h
 | y :: l, k, i, x, h => by
  unfold entZ Instr.findNow
  by_cases h1 : x = y
  ·subst h1
   exact ⟨i, by simp [same_int]⟩
  ·obtain ⟨j, h2⟩ := findZ_yes l (k + 1) (i + 1) x (by rcases List.mem_cons.1 h with h | h; exact absurd h h1; exact h)
   exact ⟨j, by simp [same_int, h1, h2]⟩
theorem Ef.setAddI {K : Value → Ro → List Ent → Prop} {t kt et : TypeId} {x y z : Operand} {b : Nat} {l : List Int} {s : Int} {d d2 : TD} (hT : TabOk P T) (ho : o.op = .mapUpdate t x y z) (hd : T.at t = some d) (hkd : d.k = .map kt et) (hd2 : T.at kt = some d2) (hk2 : d2.k = .int .i64)
  (hx : ev env x = some (true, .map (some b))) (hy : ev env y = some (true, .int .i64 s)) (hz : ev env z = some (true, .bool true)) (hf : s ∉ l)
  (hK : K undef R (.obj b (setZ (l ++ [s])) :: E)) : Ef P n env w0 R (.obj b (setZ l) :: E) o K := by
 intro a w hk hm
 have hb := hm.getObj
 have hm1 := under_map hT hd hkd
 have hu2 := under_int hT hd2 hk2
 have hc : (Instr.checkKey false 10000 kt (.int .i64 s)).run P w = .ok () w := MapKept.run_checkKey (k := .int .i64 s) hu2 (by simp [MapKept.IsKey]) false 9999
 rw [← setZ_snoc] at hK
 have hf' : Instr.findNow (.int .i64) (.int .i64 s) (entZ 0 l).toArray.toList 0 = some none := findZ_no l 0 0 s hf
 refine ⟨undef, w.putObj b _, R, _, .inr ⟨?_, rfl⟩, hm.putObj _, hK⟩
 unfold execOp
 unfold setZ at hb
 simp [ho, hk.ev hx rfl, hk.ev hy rfl, hk.ev hz rfl, Instr.mapUpdate, run_underlying hm1, MapKept.run_getObj_map hb, hc, MapKept.run_findKey hu2 hf', MapKept.run_setObj_map _ hb, Result.andThen, World.putObj]
theorem Yl.setHasI {t kt et : TypeId} {x y : Operand} {b : Nat} {l : List Int} {s : Int} {d d2 : TD} (hT : TabOk P T) (ho : o.op = .lookup t x y false) (hd : T.at t = some d) (hkd : d.k = .map kt et) (hd2 : T.at kt = some d2) (hk2 : d2.k = .int .i64) (hz : (P.info? et).bind (·.zero) = some (.bool false))
  (hx : ev env x = some (p, .map (some b))) (hy : ev env y = some (q, .int .i64 s)) (hpq : pc = true → (p && q) = true) : Yl P n env w0 R (.obj b (setZ l) :: E) o pc (.bool (decide (s ∈ l))) := by
 intro a w hk hm hpc
 obtain ⟨h1, h2⟩ := and_both (hpq hpc)
 have hb := hm.getObj
 have hm1 := under_map hT hd hkd
 have hu2 := under_int hT hd2 hk2
 have hc : ∀ e, (Instr.checkKey e 10000 kt (.int .i64 s)).run P w = .ok () w := fun e => MapKept.run_checkKey (k := .int .i64 s) hu2 (by simp [MapKept.IsKey]) e 9999
 have hz' : (zeroValue et).run P w = .ok (.bool false) w := by
  cases hi : P.info? et with
  | none => rw [hi] at hz; cases hz
  | some inf =>
   rw [hi] at hz
   have : inf.zero = some (.bool false) := hz
   simp [zeroValue, typeInfo, hi, this]
 unfold setZ at hb
 unfold execOp
 by_cases hs : s ∈ l
 ·obtain ⟨j, hf⟩ := findZ_yes l 0 0 s hs
  have hf' : Instr.findNow (.int .i64) (.int .i64 s) (entZ 0 l).toArray.toList 0 = some (some (j, .bool true)) := hf
  simp [ho, hk.ev hx h1, hk.ev hy h2, Instr.lookup, run_underlying hm1, MapKept.run_getObj_map hb, hc, MapKept.run_findKey hu2 hf', Result.andThen, hs]
 ·have hf' : Instr.findNow (.int .i64) (.int .i64 s) (entZ 0 l).toArray.toList 0 = some none := findZ_no l 0 0 s hs
  simp [ho, hk.ev hx h1, hk.ev hy h2, Instr.lookup, run_underlying hm1, MapKept.run_getObj_map hb, hc, MapKept.run_findKey hu2 hf', hz', Result.andThen, hs]
end
end Go.Proofs.YtmidibkljoaoiaaGreatDoor.K

/- Curves of schedulers: rounds, the first enough, the least period, values checked. No condition. -/
set_option maxRecDepth 4000
set_option linter.unusedSimpArgs false
set_option linter.unusedVariables false
namespace Go.Proofs.YtmidibkljoaoiaaGreatDoor
open Go Go.RowKit Go.Proofs.YtmidibkljoaoiaaGreatDoor.K Go.Proofs.YtmidibkljoaoiaaGreatDoor.M





theorem tmod_gt (x : Int) {n : Int} (h : 0 < n) : -n < x.tmod n := by
 rcases Int.le_total 0 x with h0 | h0
 ·have := Int.tmod_nonneg n h0; omega
 ·have h1 := Int.neg_tmod (a := x) (b := n)
  have h2 := Int.tmod_lt_of_pos (-x) h
  omega
theorem mod_pos {x n : Int} (h : 1 ≤ n) (hc : ¬ x.tmod n < 0) : x.tmod n = x % n := by
 rw [Int.tmod_eq_emod] at hc ⊢
 split at hc
 ·rename_i h1; rw [if_pos h1]; omega
 ·rename_i h1
  rw [if_neg h1]
  have := Int.emod_lt_of_pos x (show 0 < n by omega)
  have h2 : (n.natAbs : Int) = n := by omega
  omega
theorem mod_neg {x n : Int} (h : 1 ≤ n) (hc : x.tmod n < 0) : x.tmod n + n = x % n := by
 rw [Int.tmod_eq_emod] at hc ⊢
 split at hc
 ·rename_i h1
  have := Int.emod_nonneg x (show n ≠ 0 by omega)
  omega
 ·rename_i h1; rw [if_neg h1]
  have h2 : (n.natAbs : Int) = n := by omega
  omega
theorem src_end {b : Nat} {a : Option Addr} {cp : Nat} {xs : List Int} {c : Nat} (h : xs.length ≤ c) : srcE b a cp xs c = srcE b a cp xs (c + 1) := by
 unfold srcE
 rw [show min c xs.length = min (c + 1) xs.length by omega]
theorem src_next {b : Nat} {a : Option Addr} {cp : Nat} {xs : List Int} {c : Nat} (h : c < xs.length) : Ent.blk b [.slice a xs.length cp, .int .i64 (((min c xs.length : Nat) : Int) + 1)] = srcE b a cp xs (c + 1) := by
 unfold srcE
 rw [show ((min c xs.length : Nat) : Int) + 1 = ((min (c + 1) xs.length : Nat) : Int) by omega]

theorem Mod_V {R : Ro} {x n : Int} (hn : InR n) : FnV Tryz.prog 49 [.int .i64 x, .int .i64 n] R (.int .i64 (mod x n)) := by
 refine Fn.toV (fun w0 E => ?_)
 refine fE 16 Tryz.func49 ?_
 refine zQ (zG (zR 1 rfl (zN (zU (zQ (zQ (zG (zR 2 rfl (zN (zU ?_))))))))))
 refine W.condD rfl (fun hc0 => ?_) (fun hc0 => ?_)
 ·try dsimp only at hc0
  refine zQ (zG (zR 1 rfl (zN (zU (zT (wt ?_))))))
  refine WE.retF tab_ok [_] rfl ⟨rfl, trivial⟩ (RLe.refl _) ?_
  exact ⟨by unfold mod; rw [if_pos hc0]; rfl, rfl⟩
 ·try dsimp only at hc0
  refine zK (zU (zQ (zG (zR 2 rfl ?_))))
  refine WG.y rfl rfl qD (Yl.tmod rfl rfl rfl (fun _ => rfl) (by intro _; omega)) ?_
  refine zR 1 rfl (zN (zU (zQ (zQ (zG (zR 2 rfl (zN (zU ?_))))))))
  refine W.condD rfl (fun hc1 => ?_) (fun hc1 => ?_)
  ·try dsimp only at hc1
   refine zG (zR 2 rfl ?_)
   refine WG.y rfl rfl qD (Yl.add rfl rfl rfl (fun _ => rfl) (by intro _; have h9 := tmod_gt x (show (0 : Int) < n by omega); constructor <;> omega)) ?_
   refine zR 1 rfl (zN (zU (zQ (zG (zR 2 rfl (zN (zU (zT ?_))))))))
   refine WE.retF tab_ok [_] rfl ⟨rfl, trivial⟩ (RLe.refl _) ?_
   refine ⟨congrArg (Value.int .i64) ?_, rfl⟩
   unfold mod; rw [if_neg hc0]; exact mod_neg (by omega) hc1
  ·try dsimp only at hc1
   refine zK (zU (zQ (zG (zR 2 rfl (zN (zU (zT ?_)))))))
   refine WE.retF tab_ok [_] rfl ⟨rfl, trivial⟩ (RLe.refl _) ?_
   refine ⟨congrArg (Value.int .i64) ?_, rfl⟩
   unfold mod; rw [if_neg hc0]; exact mod_pos (by omega) hc1

theorem Raw_C {R : Ro} {b : Nat} {a : Option Addr} {cp : Nat} {xs : List Int} {c : Nat} (w0 : World) (ha : RS R 1 encI a xs) : FnAt Tryz.prog 50 [.pointer (some ⟨b, 0, none⟩)] w0 R (srcE b a cp xs c) (RdPost (.int .i64 (nth xs c)) R (srcE b a cp xs (c + 1))) := by
 intro F
 have hla := ha.len
 refine fE 31 Tryz.func50 ?_
 refine zQ (zG (zR 1 rfl (zN (zU (zQ (zQ ?_))))))
 refine W.regionQ _ mixed qK ?_
 refine zR 3 rfl ?_
 refine yL (Rd.add (Rd.blk 0 rfl) _) ?_
 refine zR 3 rfl ?_
 refine yL (Rd.add (Rd.blk 0 rfl) _) ?_
 refine zR 2 rfl (zN (zU ?_))
 refine W.condD rfl (fun hc0 => ?_) (fun hc0 => ?_)
 ·try dsimp only at hc0
  refine zQ (zG (zR 1 rfl (zN (zU (zT (wt ?_))))))
  refine WE.retF tab_ok [_] rfl ⟨rfl, trivial⟩ (RLe.refl _) ?_
  exact ⟨_, [], rfl, by rw [nth_out (by omega)]; rfl, rfl, src_end (by omega), rfl⟩
 ·try dsimp only at hc0
  refine zK (zU (zQ (zG (zR 3 rfl ?_))))
  refine yL (Rd.add (Rd.blk 0 rfl) _) ?_
  refine yA ?_
  refine zR 2 rfl ?_
  refine zF 0 ?_
  refine zN (zU (zQ ?_))
  refine W.regionQ _ mixed qK ?_
  refine zR 3 rfl ?_
  refine yL (Rd.add (Rd.blk 0 rfl) _) ?_
  refine zR 3 rfl ?_
  refine yL (Rd.add (Rd.blk 0 rfl) _) ?_
  refine yS ?_
  refine WG.y rfl rfl qD (Yl.index tab_ok rfl rfl rfl rfl rfl rfl (fun _ => rfl) qA qH) ?_
  refine yR ?_
  refine zR 1 rfl (zN (zU (zT ?_)))
  refine WE.retF tab_ok [_] rfl ⟨rfl, trivial⟩ (RLe.refl _) ?_
  exact ⟨_, [], rfl, congrArg (fun i => Value.int .i64 (nth xs i)) (show _ = c by omega), rfl, src_next qO, rfl⟩

theorem N_C {R : Ro} {b : Nat} {a : Option Addr} {cp : Nat} {xs : List Int} {c : Nat} (w0 : World) {n : Int} (ha : RS R 1 encI a xs) (hn : InR n) : FnAt Tryz.prog 17 [.pointer (some ⟨b, 0, none⟩), .int .i64 n] w0 R (srcE b a cp xs c) (RdPost (.int .i64 (mod (nth xs c) n)) R (srcE b a cp xs (c + 1))) := by
 intro F
 refine fE 9 Tryz.func17 ?_
 refine zQ (zG (zR 1 rfl (zN (zU (zQ (zG (zR 1 rfl ?_)))))))
 refine WL.callAt 0 en50 rfl rfl qD (CallOp.mkT rfl rfl rfl rfl) rfl (Raw_C w0 ha _) ?_
 rintro _ _ _ _ - ⟨rfl, rfl, rfl, rfl⟩
 refine zR 1 rfl ?_
 refine WG.callV en49 rfl rfl qD (CallOp.mk' rfl rfl rfl rfl) (fun _ => rfl) (fun hg => Mod_V hn) ?_
 refine zR 1 rfl (zN (zU (zT ?_)))
 refine WE.retF tab_ok [_] rfl ⟨rfl, trivial⟩ (RLe.refl _) ?_
 exact ⟨_, [], rfl, rfl, rfl, rfl, rfl⟩

theorem Pick_C {R : Ro} {b : Nat} {a : Option Addr} {cp : Nat} {xs : List Int} {c : Nat} (w0 : World) {a2 : Option Addr} {c2 : Nat} {ys : List Int} {j : Nat} {F : List Ent} (ha : RS R 1 encI a xs) (hy : F[j]? = some (.sl 3 1 a2 c2 (ys.map encI))) (hne : 0 < ys.length) (hl : ys.length ≤ 1000000) :
  K.Fn Tryz.prog 29 [.pointer (some ⟨b, 0, none⟩), .slice a2 ys.length c2] w0 R (srcE b a cp xs c :: F) (fun v R' E' => ∃ e' N, E' = N ++ e' :: F ∧ RdPost (.int .i64 (nth ys (mod (nth xs c) ys.length).toNat)) R (srcE b a cp xs (c + 1)) v R' e' N) := by
 have hr := mod_range (nth xs c) (show (1 : Int) ≤ ys.length by omega)
 refine fE 12 Tryz.func29 ?_
 refine zQ (zG (zR 1 rfl (zN (zU (zQ (zG (zR 4 rfl ?_)))))))
 refine WL.callAt 0 en17 rfl rfl qD (CallOp.mkT rfl rfl rfl rfl) rfl (N_C w0 ha (by constructor <;> omega) _) ?_
 rintro _ _ _ _ - ⟨rfl, rfl, rfl, rfl⟩
 refine WG.y rfl rfl qD (Yl.index tab_ok rfl rfl rfl rfl rfl rfl (fun _ => rfl) qA (by intro _; first | exact HasMem.ownD (j + 1) hy | exact qI)) ?_
 refine' WG.y rfl rfl qD (Yl.load1 tab_ok rfl rfl rfl (fun _ => rfl) ?r1 rfl ?h1) ?_
 case r1 => (exact Rd.slD (j + 1) hy qO)
 case h1 => rfl
 refine zR 1 rfl (zN (zU (zT ?_)))
 refine WE.retF tab_ok [_] rfl ⟨rfl, trivial⟩ (RLe.refl _) ?_
 exact ⟨_, [], rfl, rfl, rfl, rfl, rfl⟩

theorem New_C {R : Ro} {a : Option Addr} {cp : Nat} {l : List Int} (w0 : World) (E : List Ent) (hc : l.length ≤ cp) :
  K.Fn Tryz.prog 8 [.slice a l.length cp] w0 R E (fun v R' E' => ∃ b, v = .pointer (some ⟨b, 0, none⟩) ∧ R = R' ∧ E' = srcE b a cp (l.take 2000) 0 :: E) := by
 refine fE 10 Tryz.func8 ?_
 refine zQ (zG (zR 1 rfl (zN (zU (zQ (zG (zR 4 rfl ?_)))))))
 refine WG.y rfl rfl qD (Yl.sliceH tab_ok rfl rfl rfl rfl rfl (fun _ => rfl) (by intro _; split <;> constructor <;> omega) rfl) ?_
 -- build
 refine WG.y rfl rfl qD (Yl.build (parts := [(0, .tmp 7)]) tab_ok rfl rfl rfl rfl (fun _ => rfl) rfl rfl) ?_
 refine zO fun b9 => ?_
 refine zR 1 rfl (zN (zU (zT ?_)))
 refine WE.retF tab_ok [_] rfl ⟨rfl, trivial⟩ (RLe.refl _) ?_
 refine ⟨_, rfl, rfl, ?_⟩
 unfold srcE
 rw [List.length_take, Nat.min_comm 0, Nat.min_zero]
 have e1 : ((if (2000 : Int) < (l.length : Int) then 2000 else (l.length : Int))).toNat = min 2000 l.length := by split <;> omega
 exact congrArg (fun n => Ent.blk _ [Value.slice a n cp, .int .i64 0] :: E) e1



























theorem WFiniteG_V {R : Ro} {fa : Option Addr} {fc : Nat} {c : Cv} (hv : validB c = true) (ha : RS R 1 encI fa c.vals) : FnV Tryz.prog 94 [.agg #[.slice fa c.vals.length fc, .int .i64 c.per, .int .i64 c.inc]] R (.bool (finB c)) := by
 refine Fn.toV (fun w0 E => ?_)
 obtain ⟨hr1, hr2, hr3, hr4, hr5, hr6, hr7, hr8⟩ := valid_range hv
 have hl : ((c.vals.length : Int) - 1).toNat = c.vals.length - 1 := by omega
 refine fE 12 Tryz.func94 ?_
 refine zQ (zG ?_)
 refine zO fun b1 => ?_
 refine zR 1 rfl (zN (zU (zQ (zG (zR 1 rfl ?_)))))
 refine yL (Rd.add (Rd.blk 0 rfl) _) ?_
 refine zR 1 rfl ?_
 refine yL (Rd.add (Rd.blk 0 rfl) _) ?_
 refine zR 1 rfl ?_
 refine yS ?_
 refine WG.y rfl rfl qD (Yl.index tab_ok rfl rfl rfl rfl rfl rfl (fun _ => rfl) qA qH) ?_
 refine yR ?_
 refine zR 2 rfl (zN (zU (zT ?_)))
 refine sE (E := E) ?_
 refine WE.retF tab_ok [_] rfl ⟨rfl, trivial⟩ (RLe.refl _) ?_
 exact ⟨by rw [hl]; rfl, rfl⟩

theorem CValidG_V {R : Ro} {fa : Option Addr} {fc : Nat} {c : Cv} (ha : RS R 1 encI fa c.vals) (hl : c.vals.length ≤ 100000) : FnV Tryz.prog 66 [.agg #[.slice fa c.vals.length fc, .int .i64 c.per, .int .i64 c.inc]] R (.bool (validB c)) := by
 refine Fn.toV (fun w0 E => ?_)
 refine fE 85 Tryz.func66 ?_
 refine zQ (zG ?_)
 refine zO fun b1 => ?_
 refine zR 1 rfl (zN (zU (zQ (zG (zR 1 rfl ?_)))))
 refine yL (Rd.add (Rd.blk 0 rfl) _) ?_
 refine zR 2 rfl (zN (zU (zQ (zQ (zG (zR 3 rfl ?_))))))
 refine yP ?_
 refine yP ?_
 refine yO ?_
 refine zR 1 rfl ?_
 refine yP ?_
 refine yG (Rd.addC (Rd.blkC 0 rfl) _) ?_
 refine yP ?_
 refine yO ?_
 refine zR 1 rfl ?_
 refine yP ?_
 refine yG (Rd.addC (Rd.blkC 0 rfl) _) ?_
 refine yP ?_
 refine yO ?_
 refine zR 1 rfl ?_
 refine yP ?_
 refine yG (Rd.addC (Rd.blkC 0 rfl) _) ?_
 refine yP ?_
 refine yP ?_
 refine yO ?_
 refine zR 1 rfl ?_
 refine yP ?_
 refine yG (Rd.addC (Rd.blkC 0 rfl) _) ?_
 refine yP ?_
 refine yO ?_
 refine zR 1 rfl ?_
 refine yP ?_
 refine yG (Rd.addC (Rd.blkC 0 rfl) _) ?_
 refine yP ?_
 refine yO ?_
 refine zN (zU ?_)
 refine W.cond rfl (fun hc0 => ?_) (fun hc0 => ?_)
 ·try simp only [zk] at hc0
  have hno : validB c = false := validB_false (fun h => by obtain ⟨⟨a1, a2, a3, a4, a5, a6, a7⟩, _⟩ := h; unfold MAXV at a7; omega)
  refine zQ (zG (zR 1 rfl (zN (zU (zT (wt ?_))))))
  refine sE (E := E) ?_
  refine WE.retF tab_ok [_] rfl ⟨rfl, trivial⟩ (RLe.refl _) ?_
  exact ⟨by rw [hno]; rfl, rfl⟩
 ·try simp only [zk] at hc0
  have hall : 1 ≤ c.vals.length ∧ c.vals.length ≤ 400 ∧ 1 ≤ c.per ∧ c.per ≤ 120 ∧ c.per ≤ c.vals.length ∧ 0 ≤ c.inc ∧ c.inc ≤ MAXV := by unfold MAXV; omega
  refine zK (zU (zQ (zG (zR 1 rfl (zN (zU (zQ (zQ (zG (zR 1 rfl ?_))))))))))
  refine yL (Rd.add (Rd.blk 0 rfl) _) ?_
  refine zR 2 rfl (zN (zU (zB ?_)))
  refine W.loopK (β := Nat) (fun t => t ≤ c.vals.length ∧ ∀ i, i < t → (nth c.vals i = INF ∨ (0 ≤ nth c.vals i ∧ nth c.vals i ≤ MAXV)) ∧ (i = 0 ∨ nth c.vals (i - 1) ≤ nth c.vals i)) (fun t => [(4, true, .int .i64 (lastV c.vals t)), (45, true, .int .i64 (t : Int))]) [1, 3, 43, 44] [_, _, _, _] [] _ rfl (fun t => []) (fun t => c.vals.length - t) (0) (⟨Nat.zero_le _, fun i hi => by omega⟩) ⟨rfl, rfl, rfl, rfl, rfl, rfl, rfl⟩ qS ?_
  intro t hst
  dsimp only [zipE, setAll, List.cons_append, List.nil_append, List.set_cons_zero, List.set_cons_succ] at hst ⊢
  have hlast : 0 ≤ lastV c.vals t ∧ (lastV c.vals t = INF ∨ lastV c.vals t ≤ MAXV) := by
   unfold lastV
   by_cases h : t = 0
   ·rw [if_pos h]; exact ⟨Int.le_refl _, .inr (by decide)⟩
   ·rw [if_neg h]
    have := (hst.2 (t - 1) (by omega)).1
    unfold INF MAXV at this ⊢
    omega
  refine zQ (zG (zR 1 rfl (zN (zU (zQ ?_)))))
  refine W.condD rfl (fun hc1 => ?_) (fun hc1 => ?_)
  ·try dsimp only at hc1
   have htl : t < c.vals.length := by omega
   refine zK (zU (zQ (zB (zQ (zG ?_)))))
   refine WG.y rfl rfl qD (Yl.indexN tab_ok rfl rfl rfl rfl rfl rfl (fun _ => rfl) qN qH) ?_
   refine yR ?_
   refine zR 1 rfl (zN (zU (zQ (zQ (zG (zR 4 rfl ?_))))))
   refine yP ?_
   refine yP ?_
   refine yP ?_
   refine yP ?_
   refine yP ?_
   refine yN ?_
   refine yO ?_
   refine zN (zU ?_)
   refine W.cond rfl (fun hc2 => ?_) (fun hc2 => ?_)
   ·try simp only [zk] at hc2
    have hno : validB c = false := validB_false (fun h => by
     have h2 := h.2.1 t htl
     unfold lastV at hc2
     unfold INF MAXV at h2
     rcases hc2 with x | x
     ·split at x
      ·omega
      ·have := h2.2.resolve_left (by omega)
       omega
     ·omega)
    refine zQ (zG (zR 1 rfl (zN (zU (zT (wt (wb (wt (wt (wb (wt ?_)))))))))))
    refine sE (E := E) ?_
    refine WE.retF tab_ok [_] rfl ⟨rfl, trivial⟩ (RLe.refl _) ?_
    exact ⟨by rw [hno]; rfl, rfl⟩
   ·try simp only [zk] at hc2
    have hy : (nth c.vals t = INF ∨ (0 ≤ nth c.vals t ∧ nth c.vals t ≤ MAXV)) ∧ (t = 0 ∨ nth c.vals (t - 1) ≤ nth c.vals t) := by
     unfold INF MAXV
     have hle : lastV c.vals t ≤ nth c.vals t := by omega
     refine ⟨by omega, ?_⟩
     unfold lastV at hle
     by_cases h : t = 0
     ·exact .inl h
     ·rw [if_neg h] at hle; exact .inr hle
    refine zK (zU (zG (zR 2 rfl (zN (zL (zU (zG ?_)))))))
    refine yA ?_
    refine zR 1 rfl (zN ?_)
    refine WE.again (t + 1) (⟨by omega, fun i hi => by
     by_cases e : i = t
     ·subst e; exact hy
     ·exact hst.2 i (by omega)⟩) (by (try dsimp only); omega) ⟨vint (lastV_succ _ _), rfl, rfl, rfl, rfl, rfl, rfl⟩ (RLe.refl _) qS
  ·try dsimp only at hc1
   obtain rfl : t = c.vals.length := by omega
   obtain ⟨P, hP⟩ := Int.eq_ofNat_of_zero_le (show 0 ≤ c.per by omega)
   have hlv : lastV c.vals c.vals.length = nth c.vals (c.vals.length - 1) := if_neg (by omega)
   have e3 : ((c.vals.length : Int) - c.per).toNat = c.vals.length - c.per.toNat := by omega
   refine zX ?_
   refine wx (wx (zY (zU (zQ (zQ (zG (zR 2 rfl (zN (zU ?_)))))))))
   refine W.condE rfl (fun hc3 => ?_) (fun hc3 => ?_)
   ·try dsimp only at hc3
    have hif : (if nth c.vals (c.vals.length - 1) = INF then c.per = 1 ∧ c.inc = 0 else nth c.vals (c.vals.length - 1) ≤ nth c.vals (c.vals.length - c.per.toNat) + c.inc) ↔ (c.per = 1 ∧ c.inc = 0) := by rw [if_pos (by rw [← hlv]; exact hc3)]
    refine zQ (zG (zR 1 rfl ?_))
    refine yL (Rd.add (Rd.blk 0 rfl) _) ?_
    refine zR 2 rfl ?_
    refine yP ?_
    refine yG (Rd.addC (Rd.blkC 0 rfl) _) ?_
    refine yP ?_
    refine yN ?_
    refine zR 1 rfl (zN (zU (zT (wt ?_))))
    refine sE (E := E) ?_
    refine WE.retF tab_ok [_] rfl ⟨rfl, trivial⟩ (RLe.refl _) ?_
    refine ⟨congrArg Value.bool ?_, rfl⟩
    rw [Bool.eq_iff_iff, validB_iff, hif]
    simp only [Bool.and_eq_true, beq_iff_eq]
    exact ⟨fun h => ⟨hall, fun j hj => hst.2 j hj, h⟩, fun h => h.2.2⟩
   ·try dsimp only at hc3
    have hif : (if nth c.vals (c.vals.length - 1) = INF then c.per = 1 ∧ c.inc = 0 else nth c.vals (c.vals.length - 1) ≤ nth c.vals (c.vals.length - c.per.toNat) + c.inc) ↔ (nth c.vals (c.vals.length - 1) ≤ nth c.vals (c.vals.length - c.per.toNat) + c.inc) := by rw [if_neg (by rw [← hlv]; exact hc3)]
    have hx2 := (hst.2 (c.vals.length - c.per.toNat) (by omega)).1
    rw [← e3] at hx2
    unfold INF MAXV at hx2 hall
    refine zK (zU (zQ ?_))
    refine W.regionQ _ mixed qK ?_
    refine zR 1 rfl ?_
    refine yL (Rd.add (Rd.blk 0 rfl) _) ?_
    refine zR 2 rfl ?_
    refine yL (Rd.add (Rd.blk 0 rfl) _) ?_
    refine yS ?_
    refine WG.y rfl rfl qD (Yl.index tab_ok rfl rfl rfl rfl rfl rfl (fun _ => rfl) qA qH) ?_
    refine yR ?_
    refine zR 1 rfl ?_
    refine yL (Rd.add (Rd.blk 0 rfl) _) ?_
    refine yA ?_
    refine zR 3 rfl (zN (zU (zT ?_)))
    refine sE (E := E) ?_
    refine WE.retF tab_ok [_] rfl ⟨rfl, trivial⟩ (RLe.refl _) ?_
    refine ⟨congrArg Value.bool ?_, rfl⟩
    rw [Bool.eq_iff_iff, validB_iff, hif, e3, hlv]
    simp only [decide_eq_true_eq]
    exact ⟨fun h => ⟨by unfold MAXV; omega, fun j hj => hst.2 j hj, by omega⟩, fun h => by have := h.2.2; omega⟩



theorem CFiniteG_V {R : Ro} {fa : Option Addr} {fc : Nat} {c : Cv} (ha : RS R 1 encI fa c.vals) (hl : c.vals.length ≤ 100000) : FnV Tryz.prog 83 [.agg #[.slice fa c.vals.length fc, .int .i64 c.per, .int .i64 c.inc]] R (.bool (validB c && finB c)) := by
 refine FnV.ofOwn (fun w0 hb0 => ?_)
 refine fE 9 Tryz.func83 ?_
 refine zQ (zG ?_)
 refine zO fun b1 => ?_
 refine zR 1 rfl (zN (zU (zQ (zG ?_))))
 refine' WG.y rfl rfl qD (Yl.load1 tab_ok rfl rfl rfl (fun _ => rfl) ?r1 rfl ?h1) ?_
 case r1 => (first | exact Rd.blk 0 rfl)
 case h1 => rfl
 refine WG.callV en66 rfl rfl qD (CallOp.mk' rfl rfl rfl rfl) (fun _ => rfl) (fun hg => CValidG_V ha hl) ?_
 refine zR 1 rfl ?_
 refine' WG.y rfl rfl qD (Yl.loadG tab_ok rfl rfl rfl qE ?r2 rfl ?h2 ?g2) ?_
 case r2 => (first | exact Rd.blkC 0 rfl)
 case h2 => rfl
 case g2 => exact fun _ => trivial
 refine WG.callV en94 rfl rfl (by decide) (CallOp.mk' rfl rfl rfl rfl) qE (fun hg => WFiniteG_V (by simpa using hg) ha) ?_
 refine yN ?_
 refine zR 1 rfl (zN (zU (zT ?_)))
 refine WE.subE (E' := []) qS ?_
 refine WE.retF tab_ok [_] rfl ⟨rfl, trivial⟩ (RLe.refl _) ?_
 exact rfl

set_option maxHeartbeats 1000000 in
theorem Route_V {R : Ro} {na la fa : Option Addr} {nc lc fc : Nat} {names : List (List UInt8)} {ms : List LnM} {fs : List FlM} {x1 x2 : Option Addr} {xc1 xc2 : Nat} {f : Fl} (hla : K.RS R 5 encLn la ms) (hxr : K.RS R 1 encI x1 f.route) : FnV Tryz.prog 63 [.agg #[.slice na names.length nc, .slice la ms.length lc, .slice fa fs.length fc], .agg #[.string (str f.name), .slice x1 f.route.length xc1, .int .i64 f.cls, .int .i64 f.lo, .int .i64 f.hi, .slice x2 f.cv.vals.length xc2, .int .i64 f.cv.per, .int .i64 f.cv.inc]] R (.int .i64 (routeE (ms.map (·.L)) f)) := by
 refine FnV.ofOwn (fun w0 hb0 => ?_)
 have hll := hla.len
 have hrl := hxr.len
 have hml : (ms.map (·.L)).length = ms.length := List.length_map ..
 refine fE 53 Tryz.func63 ?_
 refine zQ (zG ?_)
 refine zO fun b2 => ?_
 refine zO fun b3 => ?_
 refine zR 1 rfl (zN (zU (zQ (zQ (zG (zR 1 rfl ?_))))))
 refine yL (Rd.add (Rd.blk 0 rfl) _) ?_
 refine zR 2 rfl (zN (zU ?_))
 refine W.condE rfl (fun hc0 => ?_) (fun hc0 => ?_)
 ·try dsimp only at hc0
  have hE : routeE (ms.map (·.L)) f = 5 := if_pos (by omega)
  refine zQ (zG (zR 1 rfl (zN (zU (zT (wt ?_))))))
  refine WE.subE (E' := []) qS ?_
  refine WE.retF tab_ok [_] rfl ⟨rfl, trivial⟩ (RLe.refl _) ?_
  show Value.int .i64 _ = _
  rw [hE]
 ·try dsimp only at hc0
  refine zK (zU (zQ (zQ (zG (zR 1 rfl ?_)))))
  refine yL (Rd.add (Rd.blk 0 rfl) _) ?_
  refine zR 2 rfl (zN (zU ?_))
  refine W.condD rfl (fun hc1 => ?_) (fun hc1 => ?_)
  ·try dsimp only at hc1
   have hE : routeE (ms.map (·.L)) f = 3 := by unfold routeE; rw [if_neg (by omega), if_pos (by omega)]
   refine zQ (zG (zR 1 rfl (zN (zU (zT (wt ?_))))))
   refine WE.subE (E' := []) qS ?_
   refine WE.retF tab_ok [_] rfl ⟨rfl, trivial⟩ (RLe.refl _) ?_
   show Value.int .i64 _ = _
   rw [hE]
  ·try dsimp only at hc1
   have hE : routeE (ms.map (·.L)) f = routeGo (ms.map (·.L)) f.cls [] f.route := by unfold routeE; rw [if_neg (by omega), if_neg (by omega)]
   refine zK (zU (zQ (zG ?_)))
   refine WL.ef rfl rfl qD (Ef.makeMap rfl (fun b16 => ?_))
   refine zR 1 rfl (zN (zU (zQ (zQ (zG (zR 1 rfl ?_))))))
   refine yL (Rd.add (Rd.blk 1 rfl) _) ?_
   refine zR 2 rfl (zN (zU (zB ?_)))
   refine W.loopK (β := Nat) (fun i => i ≤ f.route.length ∧ routeGo (ms.map (·.L)) f.cls (f.route.take i) (f.route.drop i) = routeGo (ms.map (·.L)) f.cls [] f.route) (fun i => [(20, true, .int .i64 (i : Int))]) [2, 3, 5, 18, 19] [_, _, _, _, _] [] _ rfl (fun i => [(0, .obj b16 (setZ (f.route.take i)))]) (fun i => f.route.length - i) (0) (⟨Nat.zero_le _, rfl⟩) ⟨rfl, rfl, rfl, rfl, rfl, rfl, rfl⟩ qS ?_
   intro i hst
   dsimp only [zipE, setAll, List.cons_append, List.nil_append, List.set_cons_zero, List.set_cons_succ] at hst ⊢
   obtain ⟨hi, hch⟩ := hst
   refine zQ (zG (zR 1 rfl (zN (zU (zQ ?_)))))
   refine W.condD rfl (fun hc2 => ?_) (fun hc2 => ?_)
   ·try dsimp only at hc2
    have hil : i < f.route.length := by omega
    rw [show f.route.drop i = nth f.route i :: f.route.drop (i + 1) by rw [nth_eq hil]; exact List.drop_eq_getElem_cons hil, routeGo, hml] at hch
    refine zK (zU (zQ (zB (zQ (zG ?_)))))
    refine WG.y rfl rfl qD (Yl.indexN tab_ok rfl rfl rfl rfl rfl rfl (fun _ => rfl) qN qH) ?_
    refine' WG.y rfl rfl qD (Yl.load1 tab_ok rfl rfl rfl (fun _ => rfl) ?r4 rfl ?h4) ?_
    case r4 => exact RS.rdD hxr hil
    case h4 => rfl
    refine zR 1 rfl (zN (zU (zQ (zQ (zG (zR 3 rfl ?_))))))
    refine yP ?_
    refine yP ?_
    refine yG (Rd.addC (Rd.blkC 2 rfl) _) ?_
    refine yP ?_
    refine yP ?_
    refine yO ?_
    refine zN (zU ?_)
    refine W.cond rfl (fun hc3 => ?_) (fun hc3 => ?_)
    ·try simp only [zk] at hc3
     rw [if_pos (by omega)] at hch
     refine zQ (zG (zR 1 rfl (zN (zU (zT (wt (wb (wt (wt (wb (wt ?_)))))))))))
     refine WE.subE (E' := []) qS ?_
     refine WE.retF tab_ok [_] rfl ⟨rfl, trivial⟩ (RLe.refl _) ?_
     show Value.int .i64 _ = _
     rw [hE, ← hch]
    ·try simp only [zk] at hc3
     have hr0 : 0 ≤ nth f.route i ∧ nth f.route i < ms.length := by omega
     rw [if_neg (by omega)] at hch
     refine zK (zU (zQ (zQ (zG (zR 2 rfl ?_)))))
     refine WG.y rfl rfl qD (Yl.setHasI tab_ok rfl rfl rfl rfl rfl rfl rfl rfl (fun _ => rfl)) ?_
     refine zN (zU ?_)
     refine W.cond rfl (fun hc4 => ?_) (fun hc4 => ?_)
     ·try simp only [zk] at hc4
      have hin : nth f.route i ∈ f.route.take i := by simpa using hc4
      rw [if_pos hin] at hch
      refine zQ (zG (zR 1 rfl (zN (zU (zT (wt (wb (wt (wt (wb (wt ?_)))))))))))
      refine WE.subE (E' := []) qS ?_
      refine WE.retF tab_ok [_] rfl ⟨rfl, trivial⟩ (RLe.refl _) ?_
      show Value.int .i64 _ = _
      rw [hE, ← hch]
     ·try simp only [zk] at hc4
      have hin : nth f.route i ∉ f.route.take i := by simpa using hc4
      rw [if_neg hin] at hch
      obtain ⟨j, hj⟩ := Int.eq_ofNat_of_zero_le hr0.1
      have hjm : j < ms.length := by omega
      have hjn : nth (ms.map (·.L)) (nth f.route i).toNat = (nth ms j).L := by
       rw [hj, show ((j : Int)).toNat = j from rfl, nth_eq (by rw [hml]; exact hjm), List.getElem_map, nth_eq hjm]
      rw [hjn] at hch
      rw [hj]
      refine zK (zU (zQ (zG (zR 2 rfl ?_))))
      refine WL.efN rfl rfl (Ef.setAddI tab_ok rfl rfl rfl rfl rfl rfl rfl rfl (by rw [← hj]; exact hin) ?_)
      refine zN (zU (zQ ?_))
      refine W.regionQ _ mixed qK ?_
      refine zR 1 rfl ?_
      refine yL (Rd.add (Rd.blk 1 rfl) _) ?_
      refine zR 2 rfl ?_
      refine yP ?_
      refine yG (Rd.addC (Rd.blkC 1 rfl) _) ?_
      refine yP ?_
      refine yG (Rd.addC (Rd.blkC 2 rfl) _) ?_
      refine yP ?_
      refine WG.y rfl rfl (by decide) (Yl.indexN tab_ok rfl rfl rfl rfl rfl rfl qE (by intro hg; (try simp only [zk] at hg); (try dsimp only) <;> omega) (by intro hg; (try simp only [zk] at hg); first | exact qI)) ?_
      refine yP ?_
      refine' WG.y rfl rfl qD (Yl.loadG tab_ok rfl rfl rfl qE ?r9 rfl ?h9 ?g9) ?_
      case r9 => apply Rd.addC; ((apply RS.rdC; assumption))
      case h9 => rfl
      case g9 => (intro hg; (try simp only [zk] at hg); (try dsimp only); omega)
      refine yP ?_
      refine yO ?_
      refine zN (zU ?_)
      refine W.cond rfl (fun hc5 => ?_) (fun hc5 => ?_)
      ·try simp only [zk] at hc5
       rw [if_pos (by omega)] at hch
       refine zQ (zG (zR 1 rfl (zN (zU (zT (wb (wt (wt (wb (wt ?_))))))))))
       refine WE.subE (E' := []) qS ?_
       refine WE.retF tab_ok [_] rfl ⟨rfl, trivial⟩ (RLe.refl _) ?_
       show Value.int .i64 _ = _
       rw [hE, ← hch]
      ·try simp only [zk] at hc5
       rw [if_neg (by omega), ← take_nth hil] at hch
       rw [← hj, ← take_nth hil]
       refine zK (zL (zU (zG ?_)))
       refine yA ?_
       refine zR 1 rfl (zN ?_)
       refine WE.again (i + 1) (⟨by omega, hch⟩) (by (try dsimp only); omega) ⟨rfl, rfl, rfl, rfl, rfl, rfl, rfl⟩ (RLe.refl _) qS
   ·try dsimp only at hc2
    obtain rfl : i = f.route.length := by omega
    rw [List.drop_length] at hch
    refine zX ?_
    refine wx (wx (zY (zU (zQ (zG (zR 1 rfl (zN (zU (zT ?_)))))))))
    refine WE.subE (E' := []) qS ?_
    refine WE.retF tab_ok [_] rfl ⟨rfl, trivial⟩ (RLe.refl _) ?_
    show Value.int .i64 _ = _
    rw [hE, ← hch]; rfl

set_option maxHeartbeats 1000000 in
theorem Traf24_V {R : Ro} {x1 x2 : Option Addr} {xc1 xc2 : Nat} {f : Fl} (hxv : K.RS R 1 encI x2 f.cv.vals) (hxl : f.cv.vals.length ≤ 100000) : FnV Tryz.prog 64 [.agg #[.string (str f.name), .slice x1 f.route.length xc1, .int .i64 f.cls, .int .i64 f.lo, .int .i64 f.hi, .slice x2 f.cv.vals.length xc2, .int .i64 f.cv.per, .int .i64 f.cv.inc]] R (.int .i64 (trafE f)) := by
 refine FnV.ofOwn (fun w0 hb0 => ?_)
 have hvl := hxv.len
 refine fE 36 Tryz.func64 ?_
 refine zQ (zG ?_)
 refine zO fun b1 => ?_
 refine zR 1 rfl (zN (zU (zQ (zQ (zG (zR 2 rfl ?_))))))
 refine yL (Rd.add (Rd.add (Rd.blk 0 rfl) _) _) ?_
 refine zR 2 rfl ?_
 refine yP ?_
 refine yP ?_
 refine yG (Rd.addC (Rd.addC (Rd.blkC 0 rfl) _) _) ?_
 refine yP ?_
 refine yP ?_
 refine yG (Rd.addC (Rd.addC (Rd.blkC 0 rfl) _) _) ?_
 refine yP ?_
 refine yO ?_
 refine zR 1 rfl ?_
 refine yP ?_
 refine yP ?_
 refine yG (Rd.addC (Rd.addC (Rd.blkC 0 rfl) _) _) ?_
 refine yP ?_
 refine yO ?_
 refine zN (zU ?_)
 refine W.cond rfl (fun hc0 => ?_) (fun hc0 => ?_)
 ·try simp only [zk] at hc0
  have hE : trafE f = 2 := if_pos (by omega)
  refine zQ (zG (zR 1 rfl (zN (zU (zT (wt ?_))))))
  refine WE.subE (E' := []) qS ?_
  refine WE.retF tab_ok [_] rfl ⟨rfl, trivial⟩ (RLe.refl _) ?_
  show Value.int .i64 _ = _
  rw [hE]
 ·try simp only [zk] at hc0
  have h0 : ¬ (f.lo < 1 ∨ f.hi < f.lo ∨ 1500 < f.hi) := by omega
  refine zK (zU (zQ (zQ (zG (zR 1 rfl ?_)))))
  refine yL (Rd.add (Rd.blk 0 rfl) _) ?_
  refine WG.callV en66 rfl rfl qD (CallOp.mk' rfl rfl rfl rfl) (fun _ => rfl) (fun hg => CValidG_V hxv hxl) ?_
  refine zR 1 rfl (zN (zU ?_))
  refine W.cond rfl (fun hc1 => ?_) (fun hc1 => ?_)
  ·try simp only [zk] at hc1
   have hv : validB f.cv = false := by simpa using hc1
   have hE : trafE f = 1 := by unfold trafE; rw [if_neg h0, if_pos hv]
   refine zQ (zG (zR 1 rfl (zN (zU (zT (wt ?_))))))
   refine WE.subE (E' := []) qS ?_
   refine WE.retF tab_ok [_] rfl ⟨rfl, trivial⟩ (RLe.refl _) ?_
   show Value.int .i64 _ = _
   rw [hE]
  ·try simp only [zk] at hc1
   have hv : validB f.cv = true := by simpa using hc1
   have hv1 := (validB_iff.1 hv).1.1
   refine zK (zU (zQ (zQ (zG (zR 2 rfl ?_)))))
   refine yL (Rd.add (Rd.add (Rd.blk 0 rfl) _) _) ?_
   refine WG.y rfl rfl qD (Yl.indexN tab_ok rfl rfl rfl rfl rfl rfl (fun _ => rfl) qN qH) ?_
   refine' WG.y rfl rfl qD (Yl.load1 tab_ok rfl rfl rfl (fun _ => rfl) ?r7 rfl ?h7) ?_
   case r7 => exact RS.rdD hxv hv1
   case h7 => rfl
   refine zR 1 rfl (zN (zU ?_))
   refine W.condN rfl (fun hc2 => ?_) (fun hc2 => ?_)
   ·try dsimp only at hc2
    have hE : trafE f = 6 := by unfold trafE; rw [if_neg h0, if_neg (by rw [hv]; decide), if_pos (by omega)]
    refine zQ (zG (zR 1 rfl (zN (zU (zT (wt ?_))))))
    refine WE.subE (E' := []) qS ?_
    refine WE.retF tab_ok [_] rfl ⟨rfl, trivial⟩ (RLe.refl _) ?_
    show Value.int .i64 _ = _
    rw [hE]
   ·try dsimp only at hc2
    refine zK (zU (zQ (zQ (zG (zR 1 rfl ?_)))))
    refine yL (Rd.add (Rd.blk 0 rfl) _) ?_
    refine WG.callV en83 rfl rfl qD (CallOp.mk' rfl rfl rfl rfl) (fun _ => rfl) (fun hg => CFiniteG_V hxv hxl) ?_
    refine zR 1 rfl (zN (zU ?_))
    refine W.cond rfl (fun hc3 => ?_) (fun hc3 => ?_)
    ·try simp only [zk] at hc3
     have hfn : finB f.cv = false := by rw [hv] at hc3; simpa using hc3
     have hE : trafE f = 2 := by unfold trafE; rw [if_neg h0, if_neg (by rw [hv]; decide), if_neg (by omega), if_pos hfn]
     refine zQ (zG (zR 1 rfl (zN (zU (zT (wt ?_))))))
     refine WE.subE (E' := []) qS ?_
     refine WE.retF tab_ok [_] rfl ⟨rfl, trivial⟩ (RLe.refl _) ?_
     show Value.int .i64 _ = _
     rw [hE]
    ·try simp only [zk] at hc3
     have hfn : finB f.cv = true := by rw [hv] at hc3; simpa using hc3
     have hE : trafE f = 0 := by unfold trafE; rw [if_neg h0, if_neg (by rw [hv]; decide), if_neg (by omega), if_neg (by rw [hfn]; decide)]
     refine zK (zU (zQ (zG (zR 1 rfl (zN (zU (zT ?_)))))))
     refine WE.subE (E' := []) qS ?_
     refine WE.retF tab_ok [_] rfl ⟨rfl, trivial⟩ (RLe.refl _) ?_
     show Value.int .i64 _ = _
     rw [hE]



set_option maxHeartbeats 1000000 in
theorem NCheck_E {R : Ro} {E : List Ent} {na la fa : Option Addr} {nc lc fc : Nat} {names : List (List UInt8)} {ms : List LnM} {fs : List FlM} (hna : K.RS R 1 encT na names) (hla : K.RS R 5 encLn la ms) (hfa : LsF R E fa fs) (hok : ∀ m ∈ ms, OkLn R m) (hof : ∀ m ∈ fs, OkFl R m) (hnl : ∀ x ∈ names, x.length ≤ 9223372036854775807) (w0 : World) : FnE Tryz.prog 32 [.agg #[.slice na names.length nc, .slice la ms.length lc, .slice fa fs.length fc]] w0 R E (.int .i64 (chkNet names (ms.map (·.L)) (fs.map (·.f)))) := by
 refine Fn.toE ?_
 have hll := hla.len
 have hfl := hfa.len
 have hml : (ms.map (·.L)).length = ms.length := List.length_map ..
 have hfml : (fs.map (·.f)).length = fs.length := List.length_map ..
 refine fE 89 Tryz.func32 ?_
 refine zQ (zG ?_)
 refine zO fun b1 => ?_
 refine zR 1 rfl (zN (zU (zQ (zQ (zG (zR 1 rfl ?_))))))
 refine yL (Rd.add (Rd.blk 0 rfl) _) ?_
 refine zR 3 rfl ?_
 refine yP ?_
 refine yG (Rd.addC (Rd.blkC 0 rfl) _) ?_
 refine yP ?_
 refine yP ?_
 refine yO ?_
 refine zR 1 rfl ?_
 refine yP ?_
 refine yG (Rd.addC (Rd.blkC 0 rfl) _) ?_
 refine yP ?_
 refine yP ?_
 refine yO ?_
 refine zN (zU ?_)
 refine W.cond rfl (fun hc0 => ?_) (fun hc0 => ?_)
 ·try simp only [zk] at hc0
  refine zQ (zG (zR 1 rfl (zN (zU (zT (wt ?_))))))
  refine sE (E := E) ?_
  refine WE.retF tab_ok [_] rfl ⟨rfl, trivial⟩ (RLe.refl _) ?_
  refine ⟨?_, rfl⟩
  show Value.int .i64 _ = Value.int .i64 _
  unfold chkNet; rw [hml, hfml, if_pos (by omega)]
 ·try simp only [zk] at hc0
  refine zK (zU (zQ (zQ (zG (zR 1 rfl ?_)))))
  refine yL (Rd.add (Rd.blk 0 rfl) _) ?_
  refine zR 2 rfl ?_
  refine yL (Rd.add (Rd.blk 0 rfl) _) ?_
  refine zR 2 rfl (zN (zU ?_))
  refine W.condN rfl (fun hc1 => ?_) (fun hc1 => ?_)
  ·try dsimp only at hc1
   refine zQ (zG (zR 1 rfl (zN (zU (zT (wt ?_))))))
   refine sE (E := E) ?_
   refine WE.retF tab_ok [_] rfl ⟨rfl, trivial⟩ (RLe.refl _) ?_
   refine ⟨?_, rfl⟩
   show Value.int .i64 _ = Value.int .i64 _
   unfold chkNet; rw [hml, hfml, if_neg (by omega), if_pos (by omega)]
  ·try dsimp only at hc1
   have hcn : chkNet names (ms.map (·.L)) (fs.map (·.f)) = if chkLs [] (names.zip (ms.map (·.L))) ≠ 0 then chkLs [] (names.zip (ms.map (·.L))) else chkFs (ms.map (·.L)) [] (fs.map (·.f)) := by unfold chkNet; rw [hml, hfml, if_neg (by omega), if_neg (by omega)]
   refine zK (zU (zQ (zG ?_)))
   refine WL.ef rfl rfl qD (Ef.makeMap rfl (fun b37 => ?_))
   refine zR 1 rfl (zN (zU (zQ (zQ (zG (zR 1 rfl ?_))))))
   refine yL (Rd.add (Rd.blk 1 rfl) _) ?_
   refine zR 2 rfl (zN (zU (zB ?_)))
   refine W.loopK (β := Nat) (fun i => i ≤ ms.length ∧ chkLs (names.take i) ((names.zip (ms.map (·.L))).drop i) = chkLs [] (names.zip (ms.map (·.L)))) (fun i => [(41, true, .int .i64 (i : Int))]) [1, 3, 39, 40] [_, _, _, _] [] _ rfl (fun i => [(0, .obj b37 (setO (names.take i)))]) (fun i => ms.length - i) (0) (⟨Nat.zero_le _, rfl⟩) ⟨rfl, rfl, rfl, rfl, rfl, rfl⟩ qS ?_
   intro i hst
   dsimp only [zipE, setAll, List.cons_append, List.nil_append, List.set_cons_zero, List.set_cons_succ] at hst ⊢
   obtain ⟨hi, hch⟩ := hst
   refine zQ (zG (zR 1 rfl (zN (zU (zQ ?_)))))
   refine W.condD rfl (fun hc2 => ?_) (fun hc2 => ?_)
   ·try dsimp only at hc2
    have him : i < ms.length := by omega
    have hin : i < names.length := by omega
    have hnL : ∃ q : Ln, q = (nth ms i).L ∧ (ms.map (·.L)).length = ms.length ∧ (names.zip (ms.map (·.L))).drop i = (nth names i, q) :: (names.zip (ms.map (·.L))).drop (i + 1) := by
     have hl : i < (names.zip (ms.map (·.L))).length := by rw [List.length_zip, hml]; omega
     refine ⟨_, rfl, hml, ?_⟩
     rw [List.drop_eq_getElem_cons hl, List.getElem_zip, nth_eq hin, nth_eq him, List.getElem_map]
    obtain ⟨q, hq, _, hdr⟩ := hnL
    rw [hdr, chkLs] at hch
    dsimp only at hch
    subst hq
    refine zK (zU (zQ (zB (zQ (zG (zR 1 rfl ?_))))))
    refine WG.y rfl rfl qD (Yl.indexN tab_ok rfl rfl rfl rfl rfl rfl (fun _ => rfl) qN (by intro _; first | exact (hfa.sub (RLe.refl _) qS).has | exact qI)) ?_
    refine' WG.y rfl rfl qD (Yl.load1 tab_ok rfl rfl rfl (fun _ => rfl) ?r7 rfl ?h7) ?_
    case r7 => exact RS.rdD hla him
    case h7 => rfl
    refine zA fun b5 => ?_
    refine zR 1 rfl ?_
    refine zE 0 ?_
    refine zN (zU (zQ (zQ (zG (zR 2 rfl ?_)))))
    refine yL (Rd.add (Rd.blk 2 rfl) _) ?_
    refine zR 1 rfl ?_
    refine WG.y rfl rfl qD (Yl.indexN tab_ok rfl rfl rfl rfl rfl rfl (fun _ => rfl) qN (by intro _; first | exact (hfa.sub (RLe.refl _) qS).has | exact qI)) ?_
    refine' WG.y rfl rfl qD (Yl.load1 tab_ok rfl rfl rfl (fun _ => rfl) ?r9 rfl ?h9) ?_
    case r9 => exact RS.rdD hna hin
    case h9 => rfl
    refine WL.callAt 1 en62 rfl rfl qD (CallOp.mkT rfl rfl rfl rfl) rfl (Fresh_C (met := names.take i) (n := nth names i) (hnl _ (nth_mem hin)) w0 _) ?_
    rintro _ _ _ _ - ⟨rfl, rfl, rfl, rfl⟩
    refine zR 1 rfl (zN (zU (zQ (zG (zR 2 rfl (zN (zU ?_)))))))
    refine W.condN rfl (fun hc3 => ?_) (fun hc3 => ?_)
    ·try dsimp only at hc3
     rw [if_pos hc3] at hch
     have hq := hcn.trans (if_pos (by rw [← hch]; exact hc3))
     refine zQ (zG (zR 2 rfl (zN (zU (zT (wt (wb (wt (wt (wb (wt ?_)))))))))))
     refine sE (E := E) ?_
     refine WE.retF tab_ok [_] rfl ⟨rfl, trivial⟩ (RLe.refl _) ?_
     refine ⟨?_, rfl⟩
     show Value.int .i64 _ = Value.int .i64 _
     rw [hq, ← hch]
    ·try dsimp only at hc3
     have hf0 : frE (names.take i) (nth names i) = 0 := by first | exact hc3 | exact Classical.not_not.1 hc3
     rw [if_neg (fun h => h hf0)] at hch
     rw [if_pos hf0, ← take_nth hin]
     refine zK (zU (zQ (zG ?_)))
     refine yL (Rd.blk 0 rfl) ?_
     refine WG.callV en42 rfl rfl qD (CallOp.mk' rfl rfl rfl rfl) (fun _ => rfl) (fun hg => ChkSrv_V (L := (nth ms i).L) (hok _ (nth_mem him)).1 rfl (hok _ (nth_mem him)).2 rfl) ?_
     refine zR 1 rfl (zN (zU (zQ (zG (zR 2 rfl (zN (zU ?_)))))))
     refine W.condN rfl (fun hc4 => ?_) (fun hc4 => ?_)
     ·try dsimp only at hc4
      rw [if_pos hc4] at hch
      have hq := hcn.trans (if_pos (by rw [← hch]; exact hc4))
      refine zQ (zG (zR 2 rfl (zN (zU (zT (wb (wt (wt (wb (wt ?_))))))))))
      refine sE (E := E) ?_
      refine WE.retF tab_ok [_] rfl ⟨rfl, trivial⟩ (RLe.refl _) ?_
      refine ⟨?_, rfl⟩
      show Value.int .i64 _ = Value.int .i64 _
      rw [hq, ← hch]
     ·try dsimp only at hc4
      have hf1 : chkL (nth ms i).L = 0 := by first | exact hc4 | exact Classical.not_not.1 hc4
      rw [if_neg (fun h => h hf1), ← take_nth hin] at hch
      refine zK (zL (zU (zG ?_)))
      refine yA ?_
      refine zR 1 rfl (zN ?_)
      refine WE.again (i + 1) (⟨by omega, hch⟩) (by (try dsimp only); omega) ⟨rfl, rfl, rfl, rfl, rfl, rfl⟩ (RLe.refl _) qS
   ·try dsimp only at hc2
    obtain rfl : i = ms.length := by omega
    rw [List.drop_of_length_le (by rw [List.length_zip, hml]; omega)] at hch
    have hcl : chkLs [] (names.zip (ms.map (·.L))) = 0 := hch.symm
    rw [if_neg (fun h => h hcl)] at hcn
    refine zX ?_
    refine wx (wx (zY (zU (zQ (zG ?_)))))
    refine WL.ef rfl rfl qD (Ef.makeMap rfl (fun b62 => ?_))
    refine zR 1 rfl (zN (zU (zQ (zQ (zG (zR 1 rfl ?_))))))
    refine yL (Rd.add (Rd.blk 2 rfl) _) ?_
    refine zR 2 rfl (zN (zU (zB ?_)))
    refine W.loopK (β := Nat) (fun i => i ≤ fs.length ∧ chkFs (ms.map (·.L)) ((fs.map FlM.nm).take i) ((fs.map (·.f)).drop i) = chkFs (ms.map (·.L)) [] (fs.map (·.f))) (fun i => [(66, true, .int .i64 (i : Int))]) [1, 8, 64, 65] [_, _, _, _] [] _ rfl (fun i => [(0, .obj b62 (setO ((fs.map FlM.nm).take i)))]) (fun i => fs.length - i) (0) (⟨Nat.zero_le _, rfl⟩) ⟨rfl, rfl, rfl, rfl, rfl, rfl⟩ qS ?_
    intro i hst
    dsimp only [zipE, setAll, List.cons_append, List.nil_append, List.set_cons_zero, List.set_cons_succ] at hst ⊢
    obtain ⟨hi, hch⟩ := hst
    refine zQ (zG (zR 1 rfl (zN (zU (zQ ?_)))))
    refine W.condD rfl (fun hc5 => ?_) (fun hc5 => ?_)
    ·try dsimp only at hc5
     have hif : i < fs.length := by omega
     have hnmi : nth (fs.map FlM.nm) i = (nth fs i).f.name := by rw [nth_eq (by rw [List.length_map]; exact hif), List.getElem_map, nth_eq hif]; rfl
     have hnml : i < (fs.map FlM.nm).length := by rw [List.length_map]; exact hif
     rw [show (fs.map (·.f)).drop i = (nth fs i).f :: (fs.map (·.f)).drop (i + 1) by
      have hl : i < (fs.map (·.f)).length := by omega
      rw [List.drop_eq_getElem_cons hl, List.getElem_map, nth_eq hif], chkFs] at hch
     refine zK (zU (zQ (zB (zQ (zG ?_)))))
     refine WG.y rfl rfl qD (Yl.indexN tab_ok rfl rfl rfl rfl rfl rfl (fun _ => rfl) qN (by intro _; first | exact (hfa.sub (RLe.refl _) qS).has | exact qI)) ?_
     refine' WG.y rfl rfl qD (Yl.load1 tab_ok rfl rfl rfl (fun _ => rfl) ?r12 rfl ?h12) ?_
     case r12 => exact (hfa.sub (RLe.refl _) qS).rd _ hif
     case h12 => rfl
     refine zA fun b10 => ?_
     refine zE 0 ?_
     refine zN (zU (zQ (zQ (zG (zR 2 rfl ?_)))))
     refine yL (Rd.add (Rd.blk 0 rfl) _) ?_
     refine WL.callAt 1 en62 rfl rfl qD (CallOp.mkT rfl rfl rfl rfl) rfl (Fresh_C (met := (fs.map FlM.nm).take i) (n := (nth fs i).f.name) (hof _ (nth_mem hif)).name w0 _) ?_
     rintro _ _ _ _ - ⟨rfl, rfl, rfl, rfl⟩
     refine zR 1 rfl (zN (zU (zQ (zG (zR 2 rfl (zN (zU ?_)))))))
     refine W.condN rfl (fun hc6 => ?_) (fun hc6 => ?_)
     ·try dsimp only at hc6
      have hfe : flE ((fs.map FlM.nm).take i) (ms.map (·.L)) (nth fs i).f = frE ((fs.map FlM.nm).take i) (nth fs i).f.name := if_pos hc6
      rw [hfe, if_pos hc6] at hch
      refine zQ (zG (zR 2 rfl (zN (zU (zT (wt (wb (wt (wt (wb (wt ?_)))))))))))
      refine sE (E := E) ?_
      refine WE.retF tab_ok [_] rfl ⟨rfl, trivial⟩ (RLe.refl _) ?_
      refine ⟨?_, rfl⟩
      show Value.int .i64 _ = Value.int .i64 _
      rw [hcn, ← hch]
     ·try dsimp only at hc6
      have hf0 : frE ((fs.map FlM.nm).take i) (nth fs i).f.name = 0 := by first | exact hc6 | exact Classical.not_not.1 hc6
      have hfe : flE ((fs.map FlM.nm).take i) (ms.map (·.L)) (nth fs i).f = if routeE (ms.map (·.L)) (nth fs i).f ≠ 0 then routeE (ms.map (·.L)) (nth fs i).f else trafE (nth fs i).f := if_neg (fun h => h hf0)
      rw [if_pos hf0, ← hnmi, ← take_nth hnml]
      refine zK (zU (zQ (zQ (zG ?_))))
      refine yL (Rd.blk 3 rfl) ?_
      refine yL (Rd.blk 0 rfl) ?_
      refine WG.callV en63 rfl rfl qD (CallOp.mk' rfl rfl rfl rfl) (fun _ => rfl) (fun hg => Route_V (f := (nth fs i).f) hla (hof _ (nth_mem hif)).route) ?_
      refine zR 1 rfl (zN (zU (zQ (zG (zR 2 rfl (zN (zU ?_)))))))
      refine W.condN rfl (fun hc7 => ?_) (fun hc7 => ?_)
      ·try dsimp only at hc7
       rw [if_pos hc7] at hfe
       rw [hfe, if_pos hc7] at hch
       refine zQ (zG (zR 2 rfl (zN (zU (zT (wt (wb (wt (wt (wb (wt ?_)))))))))))
       refine sE (E := E) ?_
       refine WE.retF tab_ok [_] rfl ⟨rfl, trivial⟩ (RLe.refl _) ?_
       refine ⟨?_, rfl⟩
       show Value.int .i64 _ = Value.int .i64 _
       rw [hcn, ← hch]
      ·try dsimp only at hc7
       have hr0 : routeE (ms.map (·.L)) (nth fs i).f = 0 := by first | exact hc7 | exact Classical.not_not.1 hc7
       rw [if_neg (fun h => h hr0)] at hfe
       refine zK (zU (zQ (zG ?_)))
       refine yL (Rd.blk 0 rfl) ?_
       refine WG.callV en64 rfl rfl qD (CallOp.mk' rfl rfl rfl rfl) (fun _ => rfl) (fun hg => Traf24_V (f := (nth fs i).f) (hof _ (nth_mem hif)).vals (hof _ (nth_mem hif)).len) ?_
       refine zR 1 rfl (zN (zU (zQ (zG (zR 2 rfl (zN (zU ?_)))))))
       refine W.condN rfl (fun hc8 => ?_) (fun hc8 => ?_)
       ·try dsimp only at hc8
        rw [hfe, if_pos hc8] at hch
        refine zQ (zG (zR 2 rfl (zN (zU (zT (wb (wt (wt (wb (wt ?_))))))))))
        refine sE (E := E) ?_
        refine WE.retF tab_ok [_] rfl ⟨rfl, trivial⟩ (RLe.refl _) ?_
        refine ⟨?_, rfl⟩
        show Value.int .i64 _ = Value.int .i64 _
        rw [hcn, ← hch]
       ·try dsimp only at hc8
        have ht0 : trafE (nth fs i).f = 0 := by first | exact hc8 | exact Classical.not_not.1 hc8
        rw [hfe, if_neg (fun h => h ht0), ← hnmi, ← take_nth hnml] at hch
        refine zK (zL (zU (zG ?_)))
        refine yA ?_
        refine zR 1 rfl (zN ?_)
        refine WE.again (i + 1) (⟨by omega, hch⟩) (by (try dsimp only); omega) ⟨rfl, rfl, rfl, rfl, rfl, rfl⟩ (RLe.refl _) qS
    ·try dsimp only at hc5
     obtain rfl : i = fs.length := by omega
     rw [List.drop_of_length_le (by omega)] at hch
     refine zX ?_
     refine wx (wx (zY (zU (zQ (zG (zR 1 rfl (zN (zU (zT ?_)))))))))
     refine sE (E := E) ?_
     refine WE.retF tab_ok [_] rfl ⟨rfl, trivial⟩ (RLe.refl _) ?_
     refine ⟨?_, rfl⟩
     show Value.int .i64 _ = Value.int .i64 _
     rw [hcn, ← hch]; rfl

theorem NCheck_V {R : Ro} {na la fa : Option Addr} {nc lc fc : Nat} {names : List (List UInt8)} {ms : List LnM} {fs : List FlM} (hna : K.RS R 1 encT na names) (hla : K.RS R 5 encLn la ms) (hfa : K.RS R 8 encFl fa fs) (hok : ∀ m ∈ ms, OkLn R m) (hof : ∀ m ∈ fs, OkFl R m) (hnl : ∀ x ∈ names, x.length ≤ 9223372036854775807) : FnV Tryz.prog 32 [.agg #[.slice na names.length nc, .slice la ms.length lc, .slice fa fs.length fc]] R (.int .i64 (chkNet names (ms.map (·.L)) (fs.map (·.f)))) := by
 refine FnV.ofOwn (fun w0 hb0 => ?_)
 intro w hm
 refine (NCheck_E (E := []) hna hla (LsF.ro hfa) hok hof hnl w0 w hm).mono ?_
 rintro e w' ⟨rfl, hm'⟩
 exact ⟨_, R, [], rfl, RLe.refl R, hm', rfl⟩

end Go.Proofs.YtmidibkljoaoiaaGreatDoor

/- A walk begins anew where nothing is owned: all that exists is read only and lies below; string(b) of bytes of one's own. No condition. -/
namespace Go.Proofs.YtmidibkljoaoiaaGreatDoor.K
open Go Go.RowKit
section
variable {P : Program} {n : Nat} {env : Env} {w0 w1 : World} {R R1 : Ro} {E : List Ent} {c : Code} {Q : Exit → Act → World → Prop} {e : Exit}
theorem W.rebase (h : ∀ w1, Mem w0 w1 R [] → RBelow w1 R → W P c Q n env w1 R []) : W P c Q n env w0 R [] := fun a w hk hm =>
 h w hm (fun _ _ hb => hm.ro_lt hb) a w hk ⟨Below.refl _ w, hm.ro, fun e he => (by cases he), fun e he => (by cases he), List.Pairwise.nil⟩
theorem WE.rebase (hb : Mem w0 w1 R1 []) (h : WE Q e n env w0 R1 []) : WE Q e n env w1 R E := fun a w hk hm => h a w hk (hb.belowAll hm.below)
end
end Go.Proofs.YtmidibkljoaoiaaGreatDoor.K

/- What is written: numbers. No condition. -/
set_option maxRecDepth 4000
set_option linter.unusedSimpArgs false
set_option linter.unusedVariables false
namespace Go.Proofs.YtmidibkljoaoiaaGreatDoor
open Go Go.RowKit Go.Proofs.YtmidibkljoaoiaaGreatDoor.K Go.Proofs.YtmidibkljoaoiaaGreatDoor.M

theorem tab_below {w0 w : World} {R : Ro} {E : List Ent} (h : Mem w0 w R E) (hb : RBelow w0 R) {b : Nat} {name : String} {k : IntKind} {zs : List Int} (hg : Tryz.prog.globalNamed name = some b) (hr : R b = some (zs.map fun z => Value.int k z)) : Lib.TabBelow Tryz.prog w0.heap.size w name k zs := by
 intro w' hw
 obtain ⟨T, fz, h1⟩ := h.ro b _ hr
 have h2 := hw.block b (hb _ _ hr)
 rw [h1] at h2
 unfold Lib.TabIs World.var?
 simp [hg, h2]
theorem AppInt_C {R : Ro} {a : Option Addr} {cap : Nat} {l : List UInt8} {i : Int} (hG : GlobE R) (w0 : World) (hb : RBelow w0 R) (hi : InR i) (hl : l.length ≤ 1000000) :
  K.Fn Tryz.prog 85 [.slice a l.length cap, .int .i64 i, .int .i64 10] w0 R [.sl 5 1 a cap ((l).map encY)] (fun r R' E' => ∃ (a' : Option Addr) (cap' : Nat), r = .slice a' (l ++ Lib.itoa i).length cap' ∧ R = R' ∧ E' = [.sl 5 1 a' cap' ((l ++ Lib.itoa i).map encY)]) := by
 intro w hm
 obtain ⟨_, _, h2⟩ := hm.own _ (List.mem_singleton.2 rfl)
 rw [List.length_map, encY_flat] at h2
 refine (sh_strconv_AppendInt_10 w0.heap.size l.length i hi.1 hi.2 _ _ w h2 hm.below.size qO (tab_below hm hb qK hG.pow)).mono ?_
 rintro e w' ⟨v', rfl, ho, hbl, _⟩
 have hll : (l ++ Lib.itoa i).length = l.length + (Lib.itoa i).length := List.length_append
 have hcells : (l.map fun c => Value.int .u8 c.toNat) ++ Lib.byteCells (Lib.itoa i) = ((l ++ Lib.itoa i).map encY).flatten := by
  rw [encY_flat, List.map_append]; rfl
 rw [hcells, ← hll] at ho
 have hmem : ∀ (a' : Option Addr) (cap' : Nat), v' = .slice a' (l ++ Lib.itoa i).length cap' → (∀ x, a' = some x → w0.heap.size ≤ x.block) → Mem w0 w' R [.sl 5 1 a' cap' ((l ++ Lib.itoa i).map encY)] := fun a' cap' hv hge => by
  refine ⟨hm.below.trans hbl, fun b cs hr => ?_, fun e he => ?_, fun e he b hbk => ?_, List.pairwise_singleton _ _⟩
  ·obtain ⟨T, fz, h1⟩ := hm.ro b cs hr
   exact ⟨T, fz, by rw [hbl.block b (hb _ _ hr)]; exact h1⟩
  ·obtain rfl := List.mem_singleton.1 he
   refine ⟨fun r hr => by obtain ⟨c, _, rfl⟩ := List.mem_map.1 hr; rfl, Nat.one_pos, ?_⟩
   rw [List.length_map, ← hv]
   exact ho
  ·obtain rfl := List.mem_singleton.1 he
   cases a' with
   | none => cases hbk
   | some x =>
    have hx := hge x rfl
    have : x.block = b := by simpa [Ent.block] using hbk
    cases hr : R b with
    | none => rfl
    | some cs => have := hb _ _ hr; omega
 have ho2 := ho.2
 rcases ho2 with ⟨rfl, hn⟩ | ⟨g, c2, cur, rfl, hg, _⟩
 ·refine ⟨_, R, _, rfl, RLe.refl _, hmem none 0 (by rw [hn]) (fun x h => by cases h), none, 0, by rw [hn], rfl, rfl⟩
 ·refine ⟨_, R, _, rfl, RLe.refl _, hmem (some ⟨g, 0, none⟩) c2 rfl (fun x h => by cases h; exact hg), some ⟨g, 0, none⟩, c2, rfl, rfl, rfl⟩

theorem Num03_C {R : Ro} {a : Option Addr} {cap : Nat} {l : List UInt8} {v : Int} (hG : GlobE R) (w0 : World) (hb : RBelow w0 R) (hv : InR v) (hl : l.length ≤ 1000000) : K.Fn Tryz.prog 67 [.slice a l.length cap, .int .i64 v] w0 R [.sl 5 1 a cap ((l).map encY)] (fun r R' E' => ∃ (a' : Option Addr) (cap' : Nat), r = .slice a' (l ++ wordV v).length cap' ∧ R = R' ∧ E' = [.sl 5 1 a' cap' ((l ++ wordV v).map encY)]) := by
 refine fE 12 Tryz.func67 ?_
 refine zQ (zG (zR 1 rfl (zN (zU (zQ (zQ (zG (zR 2 rfl (zN (zU ?_))))))))))
 refine W.condE rfl (fun hc0 => ?_) (fun hc0 => ?_)
 ·try dsimp only at hc0
  have e : wordV v = wInf := if_pos hc0
  refine zQ (zG (zR 1 rfl ?_))
  refine WL.ef rfl rfl qD (Ef.appendStr (l := wInf) 0 tab_ok rfl rfl rfl rfl rfl rfl qK rfl rfl rfl rfl rfl rfl (by show _ + 3 ≤ _; omega) (fun a8 c8 => ?_))
  refine zR 1 rfl (zN (zU (zT (wt ?_))))
  refine WE.retF tab_ok [_] rfl ⟨rfl, trivial⟩ (RLe.refl _) ?_
  exact ⟨a8, c8, by rw [e] <;> rfl, rfl, by rw [e] <;> rfl⟩
 ·try dsimp only at hc0
  have e : wordV v = Lib.itoa v := if_neg hc0
  refine zK (zU (zQ (zG (zR 2 rfl ?_))))
  refine WL.call en85 rfl rfl qD (CallOp.mkT rfl rfl rfl rfl) (AppInt_C hG w0 hb hv hl) ?_
  rintro _ _ _ - ⟨a8, c8, rfl, rfl, rfl⟩
  refine zR 1 rfl (zN (zU (zT ?_)))
  refine WE.retF tab_ok [_] rfl ⟨rfl, trivial⟩ (RLe.refl _) ?_
  exact ⟨a8, c8, by rw [e] <;> rfl, rfl, by rw [e] <;> rfl⟩



theorem fmtVals_snoc : ∀ (xs : List Int) (v : Int), fmtVals (xs ++ [v]) = (fmtVals xs ++ wordV v) ++ [32]
 | [], v => by simp [fmtVals]
 | x :: xs, v => by rw [List.cons_append, fmtVals, fmtVals, fmtVals_snoc xs v]; simp
theorem wordV_len {v : Int} (h : v = INF ∨ (0 ≤ v ∧ v ≤ 1073741824)) : (wordV v).length ≤ 11 := by
 unfold wordV
 split
 ·decide
 ·rename_i e; have := h.resolve_left e; exact itoa_len (by omega)
theorem fmtVals_len : ∀ (xs : List Int), (∀ v ∈ xs, v = INF ∨ (0 ≤ v ∧ v ≤ 1073741824)) → (fmtVals xs).length ≤ 12 * xs.length
 | [], _ => Nat.le_refl 0
 | x :: xs, h => by
  have h1 := wordV_len (h x (by simp))
  have h2 := fmtVals_len xs (fun v hv => h v (by simp [hv]))
  rw [fmtVals, List.length_append, List.length_cons, List.length_cons]
  omega
theorem valid_vals {c : Cv} (hv : validB c = true) : ∀ v ∈ c.vals, v = INF ∨ (0 ≤ v ∧ v ≤ 1073741824) := fun v hv' => by
 obtain ⟨i, hi, rfl⟩ := List.getElem_of_mem hv'
 have := valid_each hv i hi
 rw [nth_eq hi] at this
 exact this
theorem fmtC_len {c : Cv} (hv : validB c = true) : 0 < (fmtC c).length ∧ (fmtC c).length ≤ 5000 := by
 obtain ⟨_, _, h3, h4, h5, h6, h7, h8⟩ := valid_range hv
 have h1 := fmtVals_len _ (valid_vals hv)
 have h2 := itoa_len (n := c.per) (by omega)
 have h9 := itoa_len (n := c.inc) (by omega)
 unfold fmtC
 simp only [List.length_append, List.length_cons, show wPer.length = 3 from rfl, show wInc.length = 3 from rfl]
 omega

set_option maxHeartbeats 1000000 in
theorem Fmt03_V {R : Ro} {fa : Option Addr} {fc : Nat} {c : Cv} (hG : GlobE R) (ha : RS R 1 encI fa c.vals) (hl : c.vals.length ≤ 100000) : FnV Tryz.prog 36 [.agg #[.slice fa c.vals.length fc, .int .i64 c.per, .int .i64 c.inc]] R (.tuple #[.string (str (formatR c).1), .int .i64 (formatR c).2]) := by
 refine FnV.ofOwn (fun w0 hb => ?_)
 refine fE 38 Tryz.func36 ?_
 refine zQ (zG ?_)
 refine zO fun b1 => ?_
 refine zR 2 rfl (zN (zU (zQ (zQ (zG ?_)))))
 refine yL (Rd.blk 0 rfl) ?_
 refine WG.callV en66 rfl rfl qD (CallOp.mk' rfl rfl rfl rfl) (fun _ => rfl) (fun hg => CValidG_V ha hl) ?_
 refine zR 1 rfl (zN (zU ?_))
 refine W.cond rfl (fun hc0 => ?_) (fun hc0 => ?_)
 ·try simp only [zk] at hc0
  have hf : formatR c = ([], 1) := if_pos (by simpa using hc0)
  refine zQ (zG (zR 2 rfl (zN (zU (zT (wt ?_))))))
  refine WE.retF tab_ok [_, _] rfl ⟨rfl, rfl, trivial⟩ (by first | exact RLe.refl _ | exact hR1) ?_
  rw [hf]; rfl
 ·try simp only [zk] at hc0
  have hv : validB c = true := by simpa using hc0
  refine zK (zU ?_)
  refine W.freezeBlk 0 rfl ?_
  intro R1 hR1 hb1
  refine W.rebase (fun w1 hm1 hb2 => ?_)
  refine W.nil 5 1 qD ?_
  have hG := hG.mono hR1
  have ha := ha.mono hR1
  have hvrg := valid_range hv
  have hfcl := fmtC_len hv
  refine zQ (zG (zR 1 rfl (zN (zU (zQ (zQ (zG (zR 1 rfl ?_))))))))
  refine' WG.y rfl rfl qD (Yl.load1 tab_ok rfl rfl rfl (fun _ => rfl) ?r2 rfl ?h2) ?_
  case r2 => apply Rd.add; (exact Rd.ro qU)
  case h2 => rfl
  refine zR 2 rfl (zN (zU (zB ?_)))
  refine W.loopK (β := Nat × Option Addr × Nat) (fun (j, a, cp) => j ≤ c.vals.length) (fun (j, a, cp) => [(4, true, .slice a (fmtVals (c.vals.take j)).length cp), (13, true, .int .i64 (j : Int))]) [1, 11, 12] [_, _, _] [] _ rfl (fun (j, a, cp) => [(0, .sl 5 1 a cp ((fmtVals (c.vals.take j)).map encY))]) (fun (j, a, cp) => c.vals.length - j) ((0, none, 0)) (Nat.zero_le _) ⟨rfl, rfl, rfl, rfl, rfl, rfl⟩ qS ?_
  intro zz hst
  obtain ⟨j, a, cp⟩ := zz
  dsimp only [zipE, setAll, List.cons_append, List.nil_append, List.set_cons_zero, List.set_cons_succ] at hst ⊢
  
  refine zQ (zG (zR 1 rfl (zN (zU (zQ ?_)))))
  refine W.condD rfl (fun hc1 => ?_) (fun hc1 => ?_)
  ·try dsimp only at hc1
   have hjl : j < c.vals.length := by omega
   have hwl := wordV_len (valid_vals hv _ (nth_mem hjl))
   have hfl := fmtVals_len (c.vals.take j) (fun v h => valid_vals hv v (List.mem_of_mem_take h))
   rw [List.length_take] at hfl
   have hvr : InR (nth c.vals j) := by
    have := hvrg.1 _ (nth_mem hjl)
    constructor <;> omega
   have hsn : fmtVals (c.vals.take (j + 1)) = (fmtVals (c.vals.take j) ++ wordV (nth c.vals j)) ++ [32] := by
    rw [← fmtVals_snoc, nth_eq hjl, List.take_succ_eq_append_getElem hjl]
   refine zK (zU (zQ (zB (zQ (zG ?_)))))
   refine WG.y rfl rfl qD (Yl.indexN tab_ok rfl rfl rfl rfl rfl rfl (fun _ => rfl) qN qH) ?_
   refine yR ?_
   refine zR 1 rfl (zN (zU (zG (zR 2 rfl ?_))))
   refine WL.call en67 rfl rfl qD (CallOp.mkT rfl rfl rfl rfl) (Num03_C hG w1 hb2 hvr qO) ?_
   rintro _ _ _ - ⟨a8, c8, rfl, rfl, rfl⟩
   refine WL.ef rfl rfl qD (Ef.buildSliceD (enc := encY) (parts := [.const (.int .u8 32)]) [(32 : UInt8)] tab_ok rfl rfl rfl rfl rfl rfl rfl rfl qD qD (fun a20 => ?_))
   refine WL.ef rfl rfl (by decide) (Ef.appendD (enc := encY) 1 0 tab_ok rfl rfl rfl rfl rfl rfl rfl rfl rfl rfl rfl (fun _ _ => rfl) (by simp only [List.length_append, List.length_cons, List.length_nil]; omega) (by simp only [List.length_append, List.length_cons, List.length_nil]; omega) (fun a21 c21 ha21 => ?_))
   refine zR 1 rfl ?_
   rw [← hsn]
   refine zN (zL (zU (zG ?_)))
   refine yA ?_
   refine zR 1 rfl (zN ?_)
   refine WE.again ((j + 1, a21, c21)) (by (try dsimp only); omega) (by (try dsimp only); omega) ⟨rfl, rfl, rfl, rfl, rfl, rfl⟩ (RLe.refl _) qS
  ·try dsimp only at hc1
   obtain rfl : j = c.vals.length := by omega
   rw [List.take_length]
   have hfl := fmtVals_len c.vals (valid_vals hv)
   have hwp := wordV_len (v := c.per) (.inr (by omega))
   refine zX ?_
   refine wx (wx (zY (zU (zQ ?_))))
   refine W.regionH _ (ES := []) mixed ?_
   refine tP 0 ?_
   refine tP 2 ?_
   refine' WA.take 3 rfl qK qK qK rfl rfl qD (Yl.load1 tab_ok rfl rfl rfl (fun _ => rfl) ?r4 rfl ?h4) qS qR ?_
   case r4 => apply Rd.add; (exact Rd.ro qU)
   case h4 => rfl
   refine WA.eff 1 rfl qK rfl rfl qD (Ef.appendStr (l := [112, 101, 114, 32]) 0 tab_ok rfl rfl rfl rfl rfl rfl qK rfl rfl rfl rfl rfl rfl (by show _ + 4 ≤ _; omega) (fun a8 c8 => ?_))
   refine ⟨qR, qS, ?_⟩
   refine WA.callG 4 rfl (by kernel_rfl) en67 rfl (by first | rfl | decide) rfl (by decide) (CallOp.mkT rfl rfl rfl rfl) (Num03_C hG w1 hb2 (by constructor <;> omega) (by (try simp only [List.length_append, List.length_cons, List.length_nil]); omega)) ?_
   rintro _ _ _ - ⟨a8, c8, rfl, rfl, rfl⟩
   refine ⟨RLe.refl _, List.nil_sublist _, ?_⟩
   refine WA.eff 5 rfl (by kernel_rfl) rfl rfl (by decide) (Ef.appendStr (l := [32, 105, 110, 99, 32]) 0 tab_ok rfl rfl rfl rfl rfl rfl (by kernel_rfl) rfl rfl rfl rfl rfl rfl (by (try simp only [List.length_append, List.length_cons, List.length_nil]); omega) (fun a9 c9 => ?_))
   refine ⟨qR, qS, ?_⟩
   refine tP 6 ?_
   refine WA.done qK ?_
   refine zU (zQ (zG (zR 2 rfl ?_)))
   refine' WG.y rfl rfl qD (Yl.load1 tab_ok rfl rfl rfl (fun _ => rfl) ?r5 rfl ?h5) ?_
   case r5 => apply Rd.add; (exact Rd.ro qU)
   case h5 => rfl
   refine WL.call en67 rfl rfl (by decide) (CallOp.mkT rfl rfl rfl rfl) (Num03_C hG w1 hb2 (by constructor <;> omega) (by (try simp only [List.length_append, List.length_cons, List.length_nil]); omega)) ?_
   rintro _ _ _ - ⟨a8, c8, rfl, rfl, rfl⟩
   refine zR 1 rfl (zN (zU (zQ ?_)))
   have efc : (((fmtVals c.vals ++ [112, 101, 114, 32]) ++ wordV c.per) ++ [32, 105, 110, 99, 32]) ++ wordV c.inc = fmtC c := by
    unfold fmtC wordV
    rw [if_neg (by unfold INF; omega), if_neg (by unfold INF; omega)]
    simp [wPer, wInc]
   rw [efc]
   refine zQ (zG (zR 3 rfl (zN (zU ?_))))
   refine W.condD rfl (fun hc2 => ?_) (fun hc2 => ?_)
   ·try dsimp only at hc2
    have hf : formatR c = ([], 3) := by unfold formatR; rw [if_neg (by rw [hv]; decide), if_pos (by omega)]
    refine zQ (zG (zR 2 rfl (zN (zU (zT (wt ?_))))))
    refine WE.rebase hm1 ?_
    refine WE.retF tab_ok [_, _] rfl ⟨rfl, rfl, trivial⟩ (by first | exact RLe.refl _ | exact hR1) ?_
    rw [hf]; rfl
   ·try dsimp only at hc2
    have hf : formatR c = (fmtC c, 0) := by unfold formatR; rw [if_neg (by rw [hv]; decide), if_neg (by omega)]
    refine zK (zU (zQ (zG (zR 1 rfl ?_))))
    refine WG.y rfl rfl qD (Yl.bytesStr (l := fmtC c) 0 tab_ok rfl rfl rfl rfl rfl rfl rfl rfl rfl rfl qO (fun _ => rfl)) ?_
    refine zR 2 rfl (zN (zU (zT ?_)))
    refine WE.rebase hm1 ?_
    refine WE.retF tab_ok [_, _] rfl ⟨rfl, rfl, trivial⟩ (by first | exact RLe.refl _ | exact hR1) ?_
    rw [hf]; rfl



set_option maxHeartbeats 4000000 in
theorem FmtFl_V {R : Ro} (hG : GlobE R) {na la fa : Option Addr} {nc lc fc fl : Nat} {names : List (List UInt8)} {ms : List LnM} {x1 x2 : Option Addr} {xc1 xc2 : Nat} {f : Fl} (hna : K.RS R 1 encT na names) (hla : K.RS R 5 encLn la ms) (hok : ∀ m ∈ ms, OkLn R m) (hof : OkFl R (⟨x1, xc1, x2, xc2, f⟩ : FlM)) (hnl : ∀ x ∈ names, x.length ≤ 9223372036854775807) : FnV Tryz.prog 13 [.agg #[.slice na names.length nc, .slice la ms.length lc, .slice fa fl fc], .agg #[.string (str f.name), .slice x1 f.route.length xc1, .int .i64 f.cls, .int .i64 f.lo, .int .i64 f.hi, .slice x2 f.cv.vals.length xc2, .int .i64 f.cv.per, .int .i64 f.cv.inc]] R (.tuple #[.string (str (fmtF names (ms.map (·.L)) f)), .int .i64 (fmtFE names (ms.map (·.L)) f)]) := by
 refine FnV.ofOwn (fun w0 hb0 => ?_)
 have hll := hla.len
 have hml : (ms.map (·.L)).length = ms.length := List.length_map ..
 refine fE 68 Tryz.func13 ?_
 refine zQ (zG ?_)
 refine zO fun b2 => ?_
 refine zO fun b3 => ?_
 refine zR 2 rfl (zN (zU (zQ (zG (zR 1 rfl ?_)))))
 refine yL (Rd.add (Rd.blk 1 rfl) _) ?_
 refine zR 1 rfl ?_
 refine yL (Rd.add (Rd.blk 1 rfl) _) ?_
 refine yL (Rd.blk 0 rfl) ?_
 refine WL.ef rfl rfl qD (Ef.buildSliceD (enc := encFl) (parts := [.tmp 17]) [(⟨x1, xc1, x2, xc2, f⟩ : FlM)] tab_ok rfl rfl rfl rfl rfl rfl rfl rfl qD qD (fun a18 => ?_))
 refine WL.freeze (enc := encFl) (xs := [(⟨x1, xc1, x2, xc2, f⟩ : FlM)]) 0 rfl ?_
 intro R1 hR1 hfa
 have hG := hG.mono hR1
 have hna := hna.mono hR1
 have hla := hla.mono hR1
 have hok := fun m hm => (hok m hm).mono hR1
 have hof := hof.mono hR1
 have hxr : K.RS R1 1 encI x1 f.route := hof.route
 -- build
 refine WG.y rfl rfl qD (Yl.build (parts := [(0, .tmp 14), (1, .tmp 16), (2, .tmp 18)]) tab_ok rfl rfl rfl rfl (fun _ => rfl) rfl rfl) ?_
 refine zA fun b6 => ?_
 refine zE 0 ?_
 refine zN (zU (zQ (zQ (zG ?_))))
 refine yL (Rd.blk 0 rfl) ?_
 refine WG.callV en32 rfl rfl (by decide) (CallOp.mk' rfl rfl rfl rfl) (fun _ => rfl) (fun hg => NCheck_V (fs := [(⟨x1, xc1, x2, xc2, f⟩ : FlM)]) hna hla hfa hok (fun m hm => by rw [List.mem_singleton.1 hm]; exact hof) hnl) ?_
 refine zR 1 rfl (zN (zU (zQ (zG (zR 2 rfl (zN (zU ?_)))))))
 refine W.condN rfl (fun hc0 => ?_) (fun hc0 => ?_)
 ·try dsimp only at hc0
  have hcz : chkNet names (ms.map (·.L)) [f] ≠ 0 := hc0
  have hE : fmtFE names (ms.map (·.L)) f = chkNet names (ms.map (·.L)) [f] := if_pos hc0
  refine zQ (zG (zR 3 rfl (zN (zU (zT (wt ?_))))))
  refine WE.subE (E' := []) qS ?_
  refine WE.retF tab_ok [_, _] rfl ⟨rfl, rfl, trivial⟩ (by first | assumption | exact RLe.refl _ | exact hR1.trans (hR2.trans hR3)) ?_
  show Value.tuple #[_, Value.int .i64 (chkNet names (ms.map (·.L)) [f])] = _
  unfold fmtF; rw [hE, if_neg hcz]; rfl
 ·try dsimp only at hc0
  have hck : chkNet names (ms.map (·.L)) [f] = 0 := by first | exact hc0 | exact Classical.not_not.1 hc0
  have hE : fmtFE names (ms.map (·.L)) f = (formatR f.cv).2 := if_neg (fun h => h hck)
  obtain ⟨hl8, _, hnlm, hcl, hcf⟩ := chkNet_zero hck
  have hfr := (chkFs_zero _ _ hcf f (by simp)).1
  have hn12 := names_le hcl hnlm
  rw [hml] at hl8 hnlm
  have hrt := hfr.route
  have hrl := hfr.len
  have hsz := hfr.sizes
  have hcls := hfr.cls
  have hn6 : ∀ m ∈ ms.map (·.L), m.n ≤ 9999 := fun m hm => by
   obtain ⟨i, hi, rfl⟩ := List.getElem_of_mem hm
   have hz : i < (names.zip (ms.map (·.L))).length := by rw [List.length_zip]; omega
   have h5 := (chkLs_zero _ _ hcl _ (List.getElem_mem hz)).2
   rw [List.getElem_zip] at h5
   have h6 := (chk_facts h5).2.2.2.2.1
   dsimp only at h6
   omega
  have hcl6 : f.cls ≤ 9999 := by
   have h1 := hrt _ (nth_mem (show 0 < f.route.length by omega))
   have h0 : (nth f.route 0).toNat < (ms.map (·.L)).length := by omega
   have := hn6 _ (nth_mem h0)
   omega
  refine zK (zU (zQ (zG (zR 1 rfl ?_))))
  refine yL (Rd.add (Rd.blk 1 rfl) _) ?_
  refine WG.callV en36 rfl rfl qD (CallOp.mk' rfl rfl rfl rfl) (fun _ => rfl) (fun hg => Fmt03_V hG hof.vals hof.len) ?_
  refine zR 5 rfl (zN (zU (zQ (zQ (zG (zR 2 rfl (zN (zU ?_))))))))
  refine W.condN rfl (fun hc1 => ?_) (fun hc1 => ?_)
  ·try dsimp only at hc1
   refine zQ (zG (zR 3 rfl (zN (zU (zT (wt ?_))))))
   refine WE.subE (E' := []) qS ?_
   refine WE.retF tab_ok [_, _] rfl ⟨rfl, rfl, trivial⟩ (by first | assumption | exact RLe.refl _ | exact hR1.trans (hR2.trans hR3)) ?_
   show Value.tuple #[_, _] = _
   unfold fmtF; rw [hE, if_neg hc1]; rfl
  ·try dsimp only at hc1
   have hf0 : (formatR f.cv).2 = 0 := by first | exact hc1 | exact Classical.not_not.1 hc1
   have hfe0 := hE.trans hf0
   refine zK (zU (zQ (zG (zR 1 rfl (zN (zU (zQ ?_)))))))
   refine W.nil 9 1 qD ?_
   refine zQ (zG (zR 1 rfl ?_))
   refine yL (Rd.add (Rd.blk 2 rfl) _) ?_
   refine zR 2 rfl (zN (zU (zB ?_)))
   refine W.loopK (β := Nat × List (List UInt8) × Option Addr × Nat) (fun (i, ws, a10, c10) => i ≤ f.route.length ∧ ws = ((f.route.take i).map fun l => nth names l.toNat)) (fun (i, ws, a10, c10) => [(10, true, .slice a10 ws.length c10), (37, true, .int .i64 (i : Int))]) [2, 3, 8, 35, 36] [_, _, _, _, _] [] _ rfl (fun (i, ws, a10, c10) => [(0, .sl 9 1 a10 c10 (ws.map encT))]) (fun (i, ws, a10, c10) => f.route.length - i) ((0, [], none, 0)) (⟨Nat.zero_le _, rfl⟩) ⟨rfl, rfl, rfl, rfl, rfl, rfl, rfl, rfl⟩ qS ?_
   intro zz hst
   obtain ⟨i, ws, a10, c10⟩ := zz
   dsimp only [zipE, setAll, List.cons_append, List.nil_append, List.set_cons_zero, List.set_cons_succ] at hst ⊢
   obtain ⟨hi, hws⟩ := hst
   have hwl : ws.length = i := by rw [hws, List.length_map, List.length_take]; omega
   refine zQ (zG (zR 1 rfl (zN (zU (zQ ?_)))))
   refine W.condD rfl (fun hc2 => ?_) (fun hc2 => ?_)
   ·try dsimp only at hc2
    have hil : i < f.route.length := by omega
    obtain ⟨j, hj⟩ := Int.eq_ofNat_of_zero_le (hrt _ (nth_mem hil)).1.1
    have hjn : j < names.length := by have := (hrt _ (nth_mem hil)).1.2; omega
    refine zK (zU (zQ (zB (zQ (zG ?_)))))
    refine WG.y rfl rfl qD (Yl.indexN tab_ok rfl rfl rfl rfl rfl rfl (fun _ => rfl) qN qH) ?_
    refine' WG.y rfl rfl qD (Yl.load1 tab_ok rfl rfl rfl (fun _ => rfl) ?r7 rfl ?h7) ?_
    case r7 => exact RS.rdD hof.route hil
    case h7 => rfl
    rw [hj]
    refine zR 1 rfl (zN (zU (zG (zR 2 rfl ?_))))
    refine yL (Rd.add (Rd.blk 3 rfl) _) ?_
    refine zR 1 rfl ?_
    refine WG.y rfl rfl qD (Yl.indexN tab_ok rfl rfl rfl rfl rfl rfl (fun _ => rfl) qN qH) ?_
    refine' WG.y rfl rfl qD (Yl.load1 tab_ok rfl rfl rfl (fun _ => rfl) ?r9 rfl ?h9) ?_
    case r9 => exact RS.rdD hna hjn
    case h9 => rfl
    refine WL.ef rfl rfl qD (Ef.buildSliceD (enc := encT) (parts := [.tmp 46]) [_] tab_ok rfl rfl rfl rfl rfl rfl rfl rfl qD qD (fun a47 => ?_))
    refine WL.ef rfl rfl (by decide) (Ef.appendD 1 0 tab_ok rfl rfl rfl rfl rfl rfl rfl rfl rfl rfl rfl (fun _ _ => rfl) (by simp only [List.length_cons, List.length_nil]; omega) (by simp only [List.length_cons, List.length_nil]; omega) (fun a48 c48 ha48 => ?_))
    refine zR 1 rfl (zN (zL (zU (zG ?_))))
    refine yA ?_
    refine zR 1 rfl (zN ?_)
    refine WE.again ((i + 1, ws ++ [nth names j], a48, c48)) (⟨by omega, by rw [take_nth hil, List.map_append, List.map_singleton, ← hws, hj]; rfl⟩) (by (try dsimp only); omega) ⟨rfl, rfl, rfl, rfl, rfl, rfl, rfl, rfl⟩ (RLe.refl _) qS
   ·try dsimp only at hc2
    obtain rfl : i = f.route.length := by omega
    rw [List.take_length] at hws
    have hwl2 : ws = wayL names f.route := hws
    refine zX ?_
    refine wx (wx (zY (zU ?_)))
    refine W.cap 0 rfl ?_
    intro hcap
    refine W.freeze (enc := encT) (xs := ws) 0 rfl ?_
    intro R2 hR2 hwr
    have hwy := way_le hn12 hfr
    have hfle := fl_le hn12 hfr hn6 (by omega)
    refine zQ ?_
    refine W.regionH _ (ES := [.blk b3 [.string (str f.name), .slice x1 f.route.length xc1, .int .i64 f.cls, .int .i64 f.lo, .int .i64 f.hi, .slice x2 f.cv.vals.length xc2, .int .i64 f.cv.per, .int .i64 f.cv.inc]]) mixed ?_
    refine tP 0 ?_
    refine tL 1 (Rd.add (Rd.blk 0 rfl) _) ?_
    refine tP 2 ?_
    refine tL 3 (Rd.add (Rd.blk 0 rfl) _) ?_
    refine tP 5 ?_
    refine tP 6 ?_
    refine tL 7 (Rd.add (Rd.add (Rd.blk 0 rfl) _) _) ?_
    refine tP 9 ?_
    refine tP 10 ?_
    refine tL 11 (Rd.add (Rd.add (Rd.blk 0 rfl) _) _) ?_
    refine tP 13 ?_
    refine tP 15 ?_
    refine WA.callV 4 rfl qK en38 rfl rfl qD (CallOp.mk' rfl rfl rfl rfl) (fun _ => rfl) (fun hg => Dec24z_V qO qO) qS qR ?_
    refine WA.callV 8 rfl qK en38 rfl rfl qD (CallOp.mk' rfl rfl rfl rfl) (fun _ => rfl) (fun hg => Dec24z_V qO qO) qS qR ?_
    refine WA.callV 12 rfl qK en38 rfl rfl qD (CallOp.mk' rfl rfl rfl rfl) (fun _ => rfl) (fun hg => Dec24z_V qO qO) qS qR ?_
    refine WA.callV 14 (v := .string (str (Lib.join (wayL names f.route) [62]))) rfl (by kernel_rfl) en37 rfl rfl (by decide) (CallOp.mk' rfl rfl rfl rfl) (fun _ => rfl) (fun hg => (by rw [← hwl2]; exact Join_V hwr (fun h => by rw [h] at hwl; simp at hwl; omega) (by simpa using hcap) (by omega) (by rw [hwl2]; omega))) qS (by first | exact RLe.refl _ | assumption) ?_
    refine WA.eff 16 rfl qK rfl rfl qD (Ef.buildSliceD (enc := encT) (parts := [.const (.string ⟨#[102, 108, 111, 119]⟩), .tmp 51, .tmp 54, .tmp 58, .tmp 62, .tmp 64, .tmp 65]) (flWords names f) tab_ok rfl rfl rfl rfl rfl rfl rfl rfl qD qD (fun a66 => ?_))
    refine ⟨qR, qS, ?_⟩
    refine WA.freeze (enc := encT) (xs := flWords names f) 0 rfl ?_
    intro R3 hR3 hfw
    refine WA.callV 17 (v := .string (str (Lib.join (flWords names f) [32]))) rfl qK en37 rfl rfl qD (CallOp.mk' rfl rfl rfl rfl) (fun _ => rfl) (fun hg => Join_V hfw (by unfold flWords; exact List.cons_ne_nil _ _) (Nat.le_refl _) (by show 7 ≤ _; decide) qO) qS qR ?_
    refine tP 18 ?_
    refine tP 19 ?_
    refine WA.done qK ?_
    refine zU (zT ?_)
    refine WE.subE (E' := []) qS ?_
    refine WE.retF tab_ok [_, _] rfl ⟨rfl, rfl, trivial⟩ (by first | assumption | exact RLe.refl _ | exact hR1.trans (hR2.trans hR3)) ?_
    show Value.tuple #[_, _] = _
    unfold fmtF; rw [hfe0, if_pos rfl]



theorem CopyF_C {R : Ro} {b n cap : Nat} {a : Option Addr} {S : Ent} {F : List Ent} (w0 : World) : K.Fn Tryz.prog 65 [.pointer (some ⟨b, 0, none⟩)] w0 R (S :: .obj b (.cells #[.pointer none, .slice a n cap] 75 (0, 0)) :: F) (fun v R' E' => v = .tuple #[] ∧ R = R' ∧ E' = S :: .obj b (.cells #[.pointer (some ⟨b, 0, none⟩), .slice a n cap] 75 (0, 0)) :: F) := by
 refine fE 20 Tryz.func65 ?_
 refine zQ (zG (zR 3 rfl ?_))
 refine' WG.y rfl rfl qD (Yl.load1 tab_ok rfl rfl rfl (fun _ => rfl) ?r1 rfl ?h1) ?_
 case r1 => apply Rd.add; exact Rd.obj 1 rfl
 case h1 => rfl
 refine WG.y rfl rfl qD (Yl.ptrNil tab_ok rfl rfl rfl rfl rfl (fun _ => rfl)) ?_
 refine zN (zU ?_)
 refine W.cond rfl (fun hc0 => ?_) (fun hc0 => ?_)
 ·try simp only [zk] at hc0
  refine zG (zR 2 rfl ?_)
  refine WG.y rfl rfl qD (Yl.toUnsafe 1 tab_ok rfl rfl rfl rfl rfl Tryz.underlying125 rfl rfl rfl (fun _ => rfl)) ?_
  refine WG.y rfl rfl qD (Yl.noEscape rfl Tryz.func84 qK qK qK qK rfl (fun _ => rfl)) ?_
  refine WG.y rfl rfl qD (Yl.fromUnsafe 1 tab_ok rfl rfl rfl rfl Tryz.underlying125 rfl qK rfl (fun _ => rfl)) ?_
  refine zR 2 rfl ?_
  refine WL.efN rfl rfl (Ef.storeObj (off := 0) 1 tab_ok rfl rfl rfl rfl rfl rfl rfl rfl ?_)
  refine zN ?_
  refine WE.endF tab_ok [] rfl trivial (RLe.refl _) ?_
  exact ⟨rfl, rfl, rfl⟩
 ·try simp only [zk] at hc0
  (simp at hc0; done)

theorem CopyU_C {R : Ro} {b n cap : Nat} {a : Option Addr} {S : Ent} {F : List Ent} (w0 : World) : K.Fn Tryz.prog 65 [.pointer (some ⟨b, 0, none⟩)] w0 R (S :: .obj b (.cells #[.pointer (some ⟨b, 0, none⟩), .slice a n cap] 75 (0, 0)) :: F) (fun v R' E' => v = .tuple #[] ∧ R = R' ∧ E' = S :: .obj b (.cells #[.pointer (some ⟨b, 0, none⟩), .slice a n cap] 75 (0, 0)) :: F) := by
 refine fE 20 Tryz.func65 ?_
 refine zQ (zG (zR 3 rfl ?_))
 refine' WG.y rfl rfl qD (Yl.load1 tab_ok rfl rfl rfl (fun _ => rfl) ?r1 rfl ?h1) ?_
 case r1 => apply Rd.add; exact Rd.obj 1 rfl
 case h1 => rfl
 refine WG.y rfl rfl qD (Yl.ptrNil tab_ok rfl rfl rfl rfl rfl (fun _ => rfl)) ?_
 refine zN (zU ?_)
 refine W.cond rfl (fun hc0 => ?_) (fun hc0 => ?_)
 ·try simp only [zk] at hc0
  (simp at hc0; done)
 ·try simp only [zk] at hc0
  refine zQ (zG (zR 3 rfl ?_))
  refine' WG.y rfl rfl qD (Yl.load1 tab_ok rfl rfl rfl (fun _ => rfl) ?r2 rfl ?h2) ?_
  case r2 => apply Rd.add; exact Rd.obj 1 rfl
  case h2 => rfl
  refine zR 1 rfl ?_
  refine WG.y rfl rfl qD (Yl.ptrSame tab_ok rfl rfl rfl rfl rfl rfl (fun _ => rfl)) ?_
  refine zN (zU ?_)
  refine W.cond rfl (fun hc1 => ?_) (fun hc1 => ?_)
  ·try simp only [zk] at hc1
   (simp at hc1; done)
  ·try simp only [zk] at hc1
   refine zK ?_
   refine WE.endF tab_ok [] rfl trivial (RLe.refl _) ?_
   exact ⟨rfl, rfl, rfl⟩

theorem Copy_C {R : Ro} {b n cap : Nat} {a p : Option Addr} {S : Ent} {F : List Ent} (hp : p = none ∨ p = some ⟨b, 0, none⟩) (w0 : World) : K.Fn Tryz.prog 65 [.pointer (some ⟨b, 0, none⟩)] w0 R (S :: .obj b (.cells #[.pointer p, .slice a n cap] 75 (0, 0)) :: F) (fun v R' E' => v = .tuple #[] ∧ R = R' ∧ E' = S :: .obj b (.cells #[.pointer (some ⟨b, 0, none⟩), .slice a n cap] 75 (0, 0)) :: F) := by
 rcases hp with rfl | rfl
 ·exact CopyF_C w0
 ·exact CopyU_C w0

theorem WriteString_C {R : Ro} {b cap : Nat} {a p : Option Addr} {l : List UInt8} {F : List Ent} (hp : p = none ∨ p = some ⟨b, 0, none⟩) (hl : l.length ≤ 1000000) (x : List UInt8) (hx : x.length ≤ 1000000) (w0 : World) : K.Fn Tryz.prog 33 [.pointer (some ⟨b, 0, none⟩), .string (str x)] w0 R (.sl 5 1 a cap (l.map encY) :: .obj b (.cells #[.pointer p, .slice a l.length cap] 75 (0, 0)) :: F) (fun v R' E' => ∃ (a' : Option Addr) (cap' : Nat), v = .tuple #[.int .i64 ((str x).size : Int), .nilIface] ∧ R = R' ∧ E' = .sl 5 1 a' cap' ((l ++ x).map encY) :: .obj b (.cells #[.pointer (some ⟨b, 0, none⟩), .slice a' (l ++ x).length cap'] 75 (0, 0)) :: F) := by
 refine fE 19 Tryz.func33 ?_
 refine zQ (zG (zR 2 rfl (zN (zU (zQ (zG (zR 1 rfl ?_)))))))
 refine WL.call en65 rfl rfl qD (CallOp.mkT rfl rfl rfl rfl) (Copy_C hp w0) ?_
 rintro _ _ _ - ⟨rfl, rfl, rfl⟩
 refine zN (zU (zQ (zG (zR 4 rfl ?_))))
 refine' WG.y rfl rfl qD (Yl.load1 tab_ok rfl rfl rfl (fun _ => rfl) ?r1 rfl ?h1) ?_
 case r1 => apply Rd.add; exact Rd.obj 1 rfl
 case h1 => rfl
 refine zR 1 rfl ?_
 refine WL.ef rfl rfl qD (Ef.appendStr 0 tab_ok rfl rfl rfl rfl rfl rfl qK rfl rfl rfl rfl rfl rfl qO (fun a14 c14 => ?_))
 refine zR 2 rfl ?_
 refine WL.efN rfl rfl (Ef.storeObj (off := 1) 1 tab_ok rfl rfl rfl rfl rfl rfl rfl rfl ?_)
 refine zN (zU (zQ (zG (zR 4 rfl (zN (zU (zT ?_)))))))
 refine WE.retF tab_ok [_, _] rfl ⟨rfl, rfl, trivial⟩ (RLe.refl _) ?_
 exact ⟨a14, c14, rfl, rfl, rfl⟩



theorem BString_C {R : Ro} {b cap : Nat} {a p : Option Addr} {l : List UInt8} (hp : p = none ∨ p = some ⟨b, 0, none⟩) (w0 : World) (hR : RBelow w0 R) : K.Fn Tryz.prog 35 [.pointer (some ⟨b, 0, none⟩)] w0 R [.sl 5 1 a cap (l.map encY), .obj b (.cells #[.pointer p, .slice a l.length cap] 75 (0, 0))] (fun v R' E' => v = .string (str l) ∧ R = R' ∧ E' = []) := by
 intro w hm
 obtain ⟨hb0, hb1⟩ := hm.own _ (show .obj b (.cells #[.pointer p, .slice a l.length cap] 75 (0, 0)) ∈ _ by simp)
 obtain ⟨_, _, hs2⟩ := hm.own _ (show .sl 5 1 a cap (l.map encY) ∈ _ by simp)
 rw [encY_flat, List.length_map] at hs2
 have hne : (Value.slice a l.length cap).ownBlock ≠ some b := fun h => by
  have hnd := hm.nodup
  rw [List.pairwise_cons] at hnd
  have := hnd.1 _ (List.mem_singleton.2 rfl) b (by cases a with
   | none => simp [Value.ownBlock] at h
   | some ad => simpa [Value.ownBlock, Ent.block] using h)
  exact this rfl
 have hB : Lib.BuilderAt 75 5 w0.heap.size b (.pointer p) (Lib.byteCells l) w := ⟨hb0, _, hb1, by rw [Lib.byteCells_length]; exact hs2, hne⟩
 have hIs : Lib.IsBuilder 75 5 w0.heap.size b (Lib.byteCells l) w := by
  rcases hp with rfl | rfl
  ·exact .inl hB
  ·exact .inr hB
 refine (sh_Builder_String_any w0.heap.size b l w hIs hm.below.size).mono ?_
 rintro e w' ⟨rfl, hbl⟩
 refine ⟨_, R, [], rfl, RLe.refl _, ⟨hm.below.trans hbl, fun b' cs hr => ?_, fun e he => (by cases he), fun e he => (by cases he), List.Pairwise.nil⟩, rfl, rfl, rfl⟩
 obtain ⟨T, fz, h1⟩ := hm.ro b' cs hr
 exact ⟨T, fz, by rw [hbl.block b' (hR b' cs hr)]; exact h1⟩

theorem BLen_C {R : Ro} {b cap : Nat} {a p : Option Addr} {l : List UInt8} {F : List Ent} (w0 : World) : K.Fn Tryz.prog 34 [.pointer (some ⟨b, 0, none⟩)] w0 R (.sl 5 1 a cap (l.map encY) :: .obj b (.cells #[.pointer p, .slice a l.length cap] 75 (0, 0)) :: F) (fun v R' E' => v = .int .i64 (l.length : Int) ∧ R = R' ∧ E' = .sl 5 1 a cap (l.map encY) :: .obj b (.cells #[.pointer p, .slice a l.length cap] 75 (0, 0)) :: F) := by
 refine fE 8 Tryz.func34 ?_
 refine zQ (zG (zR 1 rfl (zN (zU (zQ (zG (zR 3 rfl ?_)))))))
 refine' WG.y rfl rfl qD (Yl.load1 tab_ok rfl rfl rfl (fun _ => rfl) ?r1 rfl ?h1) ?_
 case r1 => apply Rd.add; exact Rd.obj 1 rfl
 case h1 => rfl
 refine zR 2 rfl (zN (zU (zT ?_)))
 refine WE.retF tab_ok [_] rfl ⟨rfl, trivial⟩ (RLe.refl _) ?_
 exact ⟨rfl, rfl, rfl⟩



set_option maxHeartbeats 4000000 in
theorem FmtN_V {R : Ro} (hG : GlobE R) {na la fa : Option Addr} {nc lc fc : Nat} {names : List (List UInt8)} {ms : List LnM} {fs : List FlM} (hna : K.RS R 1 encT na names) (hla : K.RS R 5 encLn la ms) (hfa : K.RS R 8 encFl fa fs) (hok : ∀ m ∈ ms, OkLn R m) (hof : ∀ m ∈ fs, OkFl R m) (hnl : ∀ x ∈ names, x.length ≤ 9223372036854775807) : FnV Tryz.prog 12 [.agg #[.slice na names.length nc, .slice la ms.length lc, .slice fa fs.length fc]] R (.tuple #[.string (str (fmtN names (ms.map (·.L)) (fs.map (·.f))).1), .int .i64 (fmtN names (ms.map (·.L)) (fs.map (·.f))).2]) := by
 refine FnV.ofOwn (fun w0 hb0 => ?_)
 have hll := hla.len
 have hfll := hfa.len
 have hml : (ms.map (·.L)).length = ms.length := List.length_map ..
 have hfml : (fs.map (·.f)).length = fs.length := List.length_map ..
 refine fE 67 Tryz.func12 ?_
 refine zQ (zG ?_)
 refine zO fun b1 => ?_
 refine zR 2 rfl (zN (zU (zQ (zQ (zG ?_)))))
 refine yL (Rd.blk 0 rfl) ?_
 refine WG.callV en32 rfl rfl qD (CallOp.mk' rfl rfl rfl rfl) (fun _ => rfl) (fun hg => NCheck_V hna hla hfa hok hof hnl) ?_
 refine zR 1 rfl (zN (zU (zQ (zG (zR 2 rfl (zN (zU ?_)))))))
 refine W.condN rfl (fun hc0 => ?_) (fun hc0 => ?_)
 ·try dsimp only at hc0
  have hc : chkNet names (ms.map (·.L)) (fs.map (·.f)) ≠ 0 := hc0
  refine zQ (zG (zR 3 rfl (zN (zU (zT (wt ?_))))))
  refine WE.subE (E' := []) qS ?_
  refine WE.retF tab_ok [_, _] rfl ⟨rfl, rfl, trivial⟩ (by first | assumption | exact RLe.refl _) ?_
  show Value.tuple #[_, _] = _
  unfold fmtN; rw [if_pos hc]; rfl
 ·try dsimp only at hc0
  have hck : chkNet names (ms.map (·.L)) (fs.map (·.f)) = 0 := by first | exact hc0 | exact Classical.not_not.1 hc0
  obtain ⟨hlr, hfl10, hnlm, hcl, hcf⟩ := chkNet_zero hck
  have hall := chkLs_zero _ _ hcl
  rw [hml] at hlr hnlm
  rw [hfml] at hfl10
  refine zK (zU (zQ (zG ?_)))
  refine WL.ef rfl rfl qD (Ef.allocObj tab_ok rfl rfl (fun b5 => ?_))
  refine WL.nilE 5 1 qD ?_
  refine zN (zU (zQ (zQ (zG (zR 1 rfl ?_)))))
  refine yL (Rd.add (Rd.blk 2 rfl) _) ?_
  refine zR 2 rfl (zN (zU (zB ?_)))
  refine W.loopK (β := Nat × List UInt8 × Option Addr × Nat × Option Addr) (fun (i, m, a, k, p) => i ≤ ms.length ∧ m = rowsT (((names.zip (ms.map (·.L))).take i).map rowX) ∧ fmtErr ((names.zip (ms.map (·.L))).drop i) = fmtErr (names.zip (ms.map (·.L))) ∧ m.length ≤ 6007 * i ∧ (p = none ∨ p = some ⟨b5, 0, none⟩)) (fun (i, m, a, k, p) => [(22, true, .int .i64 (i : Int))]) [1, 5, 20, 21] [_, _, _, _] [] _ rfl (fun (i, m, a, k, p) => [(0, .sl 5 1 a k (m.map encY)), (1, .obj b5 (.cells #[.pointer p, .slice a m.length k] 75 (0, 0)))]) (fun (i, m, a, k, p) => ms.length - i) ((0, [], none, 0, none)) (⟨Nat.zero_le _, rfl, rfl, Nat.le_refl _, .inl rfl⟩) ⟨rfl, rfl, rfl, rfl, rfl, rfl⟩ qS ?_
  intro zz hst
  obtain ⟨i, m, a, k, p⟩ := zz
  dsimp only [zipE, setAll, List.cons_append, List.nil_append, List.set_cons_zero, List.set_cons_succ] at hst ⊢
  obtain ⟨hi, hm, hfe, hmb, hp⟩ := hst
  refine zQ (zG (zR 1 rfl (zN (zU (zQ ?_)))))
  refine W.condD rfl (fun hc1 => ?_) (fun hc1 => ?_)
  ·try dsimp only at hc1
   have him : i < ms.length := by omega
   have hin : i < names.length := by omega
   have hzl : (names.zip (ms.map (·.L))).length = ms.length := by rw [List.length_zip, hml]; omega
   have hdr : (names.zip (ms.map (·.L))).drop i = (nth names i, (nth ms i).L) :: (names.zip (ms.map (·.L))).drop (i + 1) := by
    have hl : i < (names.zip (ms.map (·.L))).length := by omega
    rw [List.drop_eq_getElem_cons hl, List.getElem_zip, nth_eq hin, nth_eq him, List.getElem_map]
   have hzi : nth (names.zip (ms.map (·.L))) i = (nth names i, (nth ms i).L) := by
    rw [nth_eq (by omega), List.getElem_zip, nth_eq hin, nth_eq him, List.getElem_map]
   have hwn : wordB (nth names i) = true ∧ chkL (nth ms i).L = 0 := by
    have := hall (nth (names.zip (ms.map (·.L))) i) (nth_mem (by omega))
    rw [hzi] at this; exact this
   have hw12 : (nth names i).length ≤ 12 := (of_decide_eq_true hwn.1).2.1
   have hfl := fmtL_le (nth names i) (nth ms i).L
   rw [hdr, fmtErr] at hfe
   dsimp only at hfe
   refine zK (zU (zQ (zB (zQ (zG (zR 1 rfl ?_))))))
   refine WG.y rfl rfl qD (Yl.indexN tab_ok rfl rfl rfl rfl rfl rfl (fun _ => rfl) qN qH) ?_
   refine' WG.y rfl rfl qD (Yl.load1 tab_ok rfl rfl rfl (fun _ => rfl) ?r3 rfl ?h3) ?_
   case r3 => exact RS.rdD hla him
   case h3 => rfl
   refine zA fun b7 => ?_
   refine zR 1 rfl ?_
   refine zE 0 ?_
   refine zN (zU (zQ ?_))
   refine W.regionQ _ mixed qK ?_
   refine zR 1 rfl ?_
   refine yL (Rd.add (Rd.blk 3 rfl) _) ?_
   refine zR 1 rfl ?_
   refine WG.y rfl rfl qD (Yl.indexN tab_ok rfl rfl rfl rfl rfl rfl (fun _ => rfl) qN qH) ?_
   refine' WG.y rfl rfl qD (Yl.load1 tab_ok rfl rfl rfl (fun _ => rfl) ?r5 rfl ?h5) ?_
   case r5 => exact RS.rdD hna hin
   case h5 => rfl
   refine yL (Rd.blk 0 rfl) ?_
   refine WG.callV en15 rfl rfl qD (CallOp.mk' rfl rfl rfl rfl) (fun _ => rfl) (fun hg => FmtL_V (L := (nth ms i).L) (name := nth names i) (hok _ (nth_mem him)).1 (hok _ (nth_mem him)).2 qO) ?_
   refine zR 5 rfl (zN (zU (zQ (zQ (zG (zR 2 rfl (zN (zU ?_))))))))
   refine W.condN rfl (fun hc2 => ?_) (fun hc2 => ?_)
   ·try dsimp only at hc2
    rw [if_pos hc2] at hfe
    refine zQ (zG (zR 3 rfl (zN (zU (zT (wt (wb (wt (wt (wb (wt ?_)))))))))))
    refine WE.subE (E' := []) qS ?_
    refine WE.retF tab_ok [_, _] rfl ⟨rfl, rfl, trivial⟩ (by first | assumption | exact RLe.refl _) ?_
    show Value.tuple #[_, _] = _
    unfold fmtN; rw [if_neg (fun h => h hck), ← hfe, if_pos hc2]; rfl
   ·try dsimp only at hc2
    have he0 : fmtE (nth names i) (nth ms i).L = 0 := by first | exact hc2 | exact Classical.not_not.1 hc2
    rw [if_neg (fun h => h he0)] at hfe
    refine W.dropE (E' := [.sl 5 1 a k (m.map encY), .obj b5 (.cells #[.pointer p, .slice a m.length k] 75 (0, 0)), .blk b1 [.slice na names.length nc, .slice la ms.length lc, .slice fa fs.length fc]]) qS ?_
    refine zK (zU (zG (zR 1 rfl ?_)))
    refine WG.y rfl rfl (by decide) (Yl.catS rfl rfl rfl (fun _ => rfl) (by intro _; (simp only [List.length_cons, List.length_nil]; omega))) ?_
    refine WL.call en33 rfl rfl (by decide) (CallOp.mkT rfl rfl rfl rfl) (WriteString_C (l := m) (b := b5) hp (by omega) (fmtL (nth names i) (nth ms i).L ++ [10]) (by rw [List.length_append]; show _ + 1 ≤ _; omega) w0) ?_
    rintro _ _ _ - ⟨a9, k9, rfl, rfl, rfl⟩
    refine zN (zL (zU (zG ?_)))
    refine yA ?_
    refine zR 1 rfl (zN ?_)
    refine WE.again ((i + 1, m ++ (fmtL (nth names i) (nth ms i).L ++ [10]), a9, k9, some ⟨b5, 0, none⟩)) (⟨by omega, by rw [take_nth (by omega), List.map_append, List.map_singleton, rowsT_snoc, ← hm, hzi]; rfl, hfe, by simp only [List.length_append, List.length_cons, List.length_nil]; omega, .inr rfl⟩) (by (try dsimp only); omega) ⟨rfl, rfl, rfl, rfl, rfl, rfl⟩ (RLe.refl _) qS
  ·try dsimp only at hc1
   obtain rfl : i = ms.length := by omega
   have hzl : (names.zip (ms.map (·.L))).length = ms.length := by rw [List.length_zip, hml]; omega
   rw [List.drop_of_length_le (by omega)] at hfe
   rw [List.take_of_length_le (by omega)] at hm
   have hfz : fmtErr (names.zip (ms.map (·.L))) = 0 := hfe.symm
   have hmm : m = rowsT ((names.zip (ms.map (·.L))).map rowX) := hm
   refine zX ?_
   refine wx (wx (zY (zU (zQ (zQ (zG (zR 1 rfl ?_)))))))
   refine yL (Rd.add (Rd.blk 2 rfl) _) ?_
   refine zR 2 rfl (zN (zU (zB ?_)))
   refine W.loopK (β := Nat × List UInt8 × Option Addr × Nat × Option Addr) (fun (i, m, a, k, p) => i ≤ fs.length ∧ m = rowsT ((names.zip (ms.map (·.L))).map rowX) ++ rowsT (((fs.map (·.f)).take i).map (fmtF names (ms.map (·.L)))) ∧ flErr names (ms.map (·.L)) ((fs.map (·.f)).drop i) = flErr names (ms.map (·.L)) (fs.map (·.f)) ∧ m.length ≤ 6007 * ms.length + 28008 * i ∧ (p = none ∨ p = some ⟨b5, 0, none⟩)) (fun (i, m, a, k, p) => [(47, true, .int .i64 (i : Int))]) [1, 5, 45, 46] [_, _, _, _] [] _ rfl (fun (i, m, a, k, p) => [(0, .sl 5 1 a k (m.map encY)), (1, .obj b5 (.cells #[.pointer p, .slice a m.length k] 75 (0, 0)))]) (fun (i, m, a, k, p) => fs.length - i) ((0, m, a, k, p)) (⟨Nat.zero_le _, by rw [List.take_zero]; show m = _ ++ []; rw [List.append_nil]; exact hmm, rfl, by omega, hp⟩) ⟨rfl, rfl, rfl, rfl, rfl, rfl⟩ qS ?_
   intro zz hst
   obtain ⟨i, m, a, k, p⟩ := zz
   dsimp only [zipE, setAll, List.cons_append, List.nil_append, List.set_cons_zero, List.set_cons_succ] at hst ⊢
   obtain ⟨hi, hm, hle, hmb, hp⟩ := hst
   refine zQ (zG (zR 1 rfl (zN (zU (zQ ?_)))))
   refine W.condD rfl (fun hc3 => ?_) (fun hc3 => ?_)
   ·try dsimp only at hc3
    have hif : i < fs.length := by omega
    have hdr : (fs.map (·.f)).drop i = (nth fs i).f :: (fs.map (·.f)).drop (i + 1) := by
     have hl : i < (fs.map (·.f)).length := by omega
     rw [List.drop_eq_getElem_cons hl, List.getElem_map, nth_eq hif]
    have hfi : nth (fs.map (·.f)) i = (nth fs i).f := by
     rw [nth_eq (by omega), List.getElem_map, nth_eq hif]
    have hfle := fmtF_le names (ms.map (·.L)) (nth fs i).f
    rw [hdr, flErr] at hle
    refine zK (zU (zQ (zB (zQ (zG ?_)))))
    refine WG.y rfl rfl qD (Yl.indexN tab_ok rfl rfl rfl rfl rfl rfl (fun _ => rfl) qN qH) ?_
    refine' WG.y rfl rfl qD (Yl.load1 tab_ok rfl rfl rfl (fun _ => rfl) ?r8 rfl ?h8) ?_
    case r8 => exact RS.rdD hfa hif
    case h8 => rfl
    refine zA fun b11 => ?_
    refine zE 0 ?_
    refine zN (zU (zQ (zG ?_)))
    refine yL (Rd.blk 3 rfl) ?_
    refine yL (Rd.blk 0 rfl) ?_
    refine WG.callV en13 rfl rfl qD (CallOp.mk' rfl rfl rfl rfl) (fun _ => rfl) (fun hg => FmtFl_V (f := (nth fs i).f) hG hna hla hok (hof _ (nth_mem hif)) hnl) ?_
    refine zR 5 rfl (zN (zU (zQ (zQ (zG (zR 2 rfl (zN (zU ?_))))))))
    refine W.condN rfl (fun hc4 => ?_) (fun hc4 => ?_)
    ·try dsimp only at hc4
     rw [if_pos hc4] at hle
     refine zQ (zG (zR 3 rfl (zN (zU (zT (wt (wb (wt (wt (wb (wt ?_)))))))))))
     refine WE.subE (E' := []) qS ?_
     refine WE.retF tab_ok [_, _] rfl ⟨rfl, rfl, trivial⟩ (by first | assumption | exact RLe.refl _) ?_
     show Value.tuple #[_, _] = _
     unfold fmtN; rw [if_neg (fun h => h hck), if_neg (fun h => h hfz), ← hle, if_pos hc4]; rfl
    ·try dsimp only at hc4
     have hg0 : fmtFE names (ms.map (·.L)) (nth fs i).f = 0 := by first | exact hc4 | exact Classical.not_not.1 hc4
     rw [if_neg (fun h => h hg0)] at hle
     refine W.dropE (E' := [.sl 5 1 a k (m.map encY), .obj b5 (.cells #[.pointer p, .slice a m.length k] 75 (0, 0)), .blk b1 [.slice na names.length nc, .slice la ms.length lc, .slice fa fs.length fc]]) qS ?_
     refine zK (zU (zG (zR 1 rfl ?_)))
     refine WG.y rfl rfl (by decide) (Yl.catS rfl rfl rfl (fun _ => rfl) (by intro _; (simp only [List.length_cons, List.length_nil]; omega))) ?_
     refine WL.call en33 rfl rfl (by decide) (CallOp.mkT rfl rfl rfl rfl) (WriteString_C (l := m) (b := b5) hp (by omega) (fmtF names (ms.map (·.L)) (nth fs i).f ++ [10]) (by rw [List.length_append]; show _ + 1 ≤ _; omega) w0) ?_
     rintro _ _ _ - ⟨a9, k9, rfl, rfl, rfl⟩
     refine zN (zL (zU (zG ?_)))
     refine yA ?_
     refine zR 1 rfl (zN ?_)
     refine WE.again ((i + 1, m ++ (fmtF names (ms.map (·.L)) (nth fs i).f ++ [10]), a9, k9, some ⟨b5, 0, none⟩)) (⟨by omega, by show m ++ _ = _; rw [take_nth (by omega), List.map_append, List.map_singleton, rowsT_snoc, hfi, hm, List.append_assoc], hle, by simp only [List.length_append, List.length_cons, List.length_nil]; omega, .inr rfl⟩) (by (try dsimp only); omega) ⟨rfl, rfl, rfl, rfl, rfl, rfl⟩ (RLe.refl _) qS
   ·try dsimp only at hc3
    obtain rfl : i = fs.length := by omega
    rw [List.drop_of_length_le (by omega)] at hle
    rw [List.take_of_length_le (by omega)] at hm
    have hlz : flErr names (ms.map (·.L)) (fs.map (·.f)) = 0 := hle.symm
    have hmt : m = textN names (ms.map (·.L)) (fs.map (·.f)) := hm
    refine zX ?_
    refine wx (wx (zY (zU (zQ ?_))))
    refine W.dropE (E' := [.sl 5 1 a k (m.map encY), .obj b5 (.cells #[.pointer p, .slice a m.length k] 75 (0, 0))]) qS ?_
    refine zQ (zG ?_)
    refine WL.call en34 rfl rfl qD (CallOp.mkT rfl rfl rfl rfl) (BLen_C (l := m) (b := b5) w0) ?_
    rintro _ _ _ - ⟨rfl, rfl, rfl⟩
    refine zR 1 rfl (zN (zU ?_))
    refine W.condD rfl (fun hc5 => ?_) (fun hc5 => ?_)
    ·try dsimp only at hc5
     refine zQ (zG (zR 2 rfl (zN (zU (zT (wt ?_))))))
     refine WE.subE (E' := []) qS ?_
     refine WE.retF tab_ok [_, _] rfl ⟨rfl, rfl, trivial⟩ (by first | assumption | exact RLe.refl _) ?_
     show Value.tuple #[_, _] = _
     unfold fmtN; rw [if_neg (fun h => h hck), if_neg (fun h => h hfz), if_neg (fun h => h hlz), ← hmt, if_pos (by omega)]; rfl
    ·try dsimp only at hc5
     refine zK (zU (zQ (zG ?_)))
     refine WL.call en35 rfl rfl qD (CallOp.mkT rfl rfl rfl rfl) (BString_C (l := m) (b := b5) hp w0 hb0) ?_
     rintro _ _ _ - ⟨rfl, rfl, rfl⟩
     refine zR 2 rfl (zN (zU (zT ?_)))
     refine WE.subE (E' := []) qS ?_
     refine WE.retF tab_ok [_, _] rfl ⟨rfl, rfl, trivial⟩ (by first | assumption | exact RLe.refl _) ?_
     show Value.tuple #[_, _] = _
     unfold fmtN; rw [if_neg (fun h => h hck), if_neg (fun h => h hfz), if_neg (fun h => h hlz), ← hmt, if_neg (by omega)]



theorem Split_C {R : Ro} (hG : GlobE R) {s : List UInt8} {d : UInt8} (hs : s.length ≤ 4000000000) (w0 : World) (E : List Ent) : K.Fn Tryz.prog 88 [.string (str s), .string (str [d])] w0 R E (fun v R' E' => ∃ a : Addr, v = .slice (some a) (splC d s).length (splC d s).length ∧ RS R' 1 encT (some a) (splC d s) ∧ E = E') := by
 obtain ⟨m, rest, hm0⟩ := hG.m
 intro w hm
 have hsz := str_size s
 obtain ⟨g1, g2⟩ := split_splC d s.length s (Nat.le_refl _)
 have hls : (str s).data.toList = s := by simp [str]
 have hld : (str [d]).data.toList = [d] := by simp [str]
 have hcb : Lib.countB (str s) (str [d]) + 1 = (splC d s).length := by
  show Lib.count _ _ + 1 = _
  rw [hls, hld]; exact g2
 have hsp : (Lib.splitB (str [d]) 0 (Lib.countB (str s) (str [d])) (str s)).map Value.string = ((splC d s).map encT).flatten := by
  have h1 := Lib.splitB_data (str [d]) 0 (Lib.countB (str s) (str [d])) (str s)
  have h2 : Lib.splitB (str [d]) 0 (Lib.countB (str s) (str [d])) (str s) = (splC d s).map str := by
   have h3 : (Lib.splitB (str [d]) 0 (Lib.countB (str s) (str [d])) (str s)) = ((Lib.splitB (str [d]) 0 (Lib.countB (str s) (str [d])) (str s)).map (·.data.toList)).map str := by
    rw [List.map_map]
    refine (List.map_id'' (fun x => ?_) _).symm
    exact (str_of x).symm
   rw [h3, h1]
   show (Lib.splitK _ _ (Lib.count _ _) _).map str = _
   rw [hls, hld, g1]
  rw [h2, List.map_map]
  generalize splC d s = l
  induction l with
  | nil => rfl
  | cons x l ih => simp only [List.map_cons, List.flatten_cons, ih]; rfl
 refine (sh_strings_Split (str s) (str [d]) m w (by omega) (hm.cell hm0) (by rw [str_size]; exact Nat.le_refl 1)).mono ?_
 rintro e w' ⟨rfl, rfl⟩
 rw [hcb, hsp]
 have hlen := splC_len d s
 have hfl : ((splC d s).map encT).flatten.length = (splC d s).length := by
  generalize splC d s = l
  induction l with
  | nil => rfl
  | cons x l ih => simp only [List.map_cons, List.flatten_cons, List.length_append, ih, List.length_cons]; show 1 + _ = _; omega
 have hmn : Mem w0 (w.alloc (.cells ((splC d s).map encT).flatten.toArray 9)) R (.sl 9 1 (some ⟨w.heap.size, 0, none⟩) (splC d s).length ((splC d s).map encT) :: E) := by
  refine hm.new (e' := .sl 9 1 (some ⟨w.heap.size, 0, none⟩) (splC d s).length ((splC d s).map encT)) ⟨rfl, rfl, rfl, by simp, fun j hj _ => heap_alloc_old w _ hj⟩ ?_ (fun b hb => by simp [Ent.block] at hb; omega)
  refine ⟨fun r hr => by obtain ⟨c, _, rfl⟩ := List.mem_map.1 hr; rfl, Nat.one_pos, ?_, ?_⟩
  ·rw [hfl, List.length_map]; omega
  ·right
   refine ⟨w.heap.size, _, _, by rw [List.length_map], hm.below.size, heap_alloc_new w _, by rw [List.length_map]; exact Nat.le_refl _, by unfold maxLen; omega, by simp only [List.size_toArray]; rw [hfl]; omega, ?_⟩
   rw [List.length_map]; exact List.take_of_length_le (by show ((splC d s).map encT).flatten.length ≤ _; rw [hfl]; omega)
 obtain ⟨R2, k1, k2, k3⟩ := hmn.freeze (i := 0) (enc := encT) (xs := splC d s) rfl
 exact ⟨_, R2, E, rfl, k1, k3, ⟨w.heap.size, 0, none⟩, rfl, k2, rfl⟩



set_option maxHeartbeats 1000000 in
theorem NumsG_C {R : Ro} (hG : GlobE R) {s : List UInt8} {fr : Bool} (hs : s.length ≤ 1000000) (w0 : World) (E : List Ent) : K.Fn Tryz.prog 90 [.string (str s), .bool fr] w0 R E (fun v R' E' => ∃ (a : Option Addr) (c : Nat), v = .tuple #[.slice a (numsL fr s).length c, .bool (numsO fr s)] ∧ RS R' 1 encI a (numsL fr s) ∧ (numsL fr s).length ≤ c ∧ E' = E) := by
 
 refine fE 36 Tryz.func90 ?_
 refine zQ (zG (zR 2 rfl (zN (zU (zQ (zG (zR 1 rfl (zN (zU (zQ ?_))))))))))
 refine W.nil 3 1 qD ?_
 refine zQ (zG (zR 1 rfl ?_))
 refine WL.call en88 rfl rfl qD (CallOp.mkT rfl rfl rfl rfl) (Split_C hG (s := s) (d := 44) qO w0 _) ?_
 rintro _ R1 _ hR1 ⟨a12, rfl, hws, rfl⟩
 have hRR := hR1
 have hG := hG.mono hR1
 have hwl := splC_len 44 s
 have hwm := splC_mem 44 s
 generalize hwg : splC 44 s = ws at hws hwl hwm ⊢
 refine zR 2 rfl (zN (zU (zB ?_)))
 refine W.loopK (β := Nat × List Int × Option Addr × Nat) (fun (i, xs, a6, c6) => i ≤ ws.length ∧ xs.length = i ∧ (ws.take i).all (okN9 fr) = true ∧ xs = (ws.take i).map (valN9 fr)) (fun (i, xs, a6, c6) => [(6, true, .slice a6 xs.length c6), (14, true, .int .i64 (i : Int))]) [1, 12, 13] [_, _, _] [] _ rfl (fun (i, xs, a6, c6) => [(0, .sl 3 1 a6 c6 (xs.map encI))]) (fun (i, xs, a6, c6) => ws.length - i) ((0, [], none, 0)) (⟨Nat.zero_le _, rfl, rfl, rfl⟩) ⟨rfl, rfl, rfl, rfl, rfl, rfl⟩ qS ?_
 intro zz hst
 obtain ⟨i, xs, a6, c6⟩ := zz
 dsimp only [zipE, setAll, List.cons_append, List.nil_append, List.set_cons_zero, List.set_cons_succ] at hst ⊢
 obtain ⟨hi, hxl, hal, hxv⟩ := hst
 refine zQ (zG (zR 1 rfl (zN (zU (zQ ?_)))))
 refine W.condD rfl (fun hc0 => ?_) (fun hc0 => ?_)
 ·try dsimp only at hc0
  have hil : i < ws.length := by omega
  have hwi := hwm _ (nth_mem hil)
  refine zK (zU (zQ (zB (zQ (zG ?_)))))
  refine WG.y rfl rfl qD (Yl.indexN tab_ok rfl rfl rfl rfl rfl rfl (fun _ => rfl) qN qH) ?_
  refine yR ?_
  refine zR 1 rfl (zN (zU (zQ (zG (zR 1 rfl ?_)))))
  refine WG.callV en89 rfl rfl qD (CallOp.mk' rfl rfl rfl rfl) (fun _ => rfl) (fun hg => Number9_V (w := nth ws i) qO) ?_
  refine zR 5 rfl (zN (zU (zQ (zQ (zG (zR 2 rfl ?_))))))
  refine yP ?_
  refine WG.y rfl rfl qD (Yl.eqS rfl rfl rfl qE) ?_
  refine yN ?_
  refine zN (zU ?_)
  refine W.cond rfl (fun hc1 => ?_) (fun hc1 => ?_)
  ·try simp only [zk] at hc1
   have h45 : (fr && decide (nth ws i = [45])) = true := by rw [Bool.and_eq_true, decide_eq_true_eq]; exact ⟨hc1.1, str_inj (b := [45]) hc1.2⟩
   refine zG (zR 2 rfl (zN (zU (zQ (zQ (zG (zR 2 rfl (zN (zU ?_)))))))))
   refine W.cond rfl (fun hc2 => ?_) (fun hc2 => ?_)
   ·try simp only [zk] at hc2
    refine zQ (zG (zR 2 rfl (zN (zU (zT (wt (wb (wt (wt (wb (wt ?_)))))))))))
    refine sE (E := E) ?_
    refine WE.retF tab_ok [_, _] rfl ⟨rfl, rfl, trivial⟩ (hRR) ?_
    exact absurd hc2 (by simp)
   ·try simp only [zk] at hc2
    refine zK (zU (zG (zR 2 rfl ?_)))
    refine WL.ef rfl rfl qD (Ef.buildSliceD (enc := encI) (parts := [.tmp 31]) [_] tab_ok rfl rfl rfl rfl rfl rfl rfl rfl qD qD (fun a32 => ?_))
    refine WL.ef rfl rfl (by decide) (Ef.appendD 1 0 tab_ok rfl rfl rfl rfl rfl rfl rfl rfl rfl rfl rfl (fun _ _ => rfl) (by simp only [List.length_cons, List.length_nil]; omega) (by simp only [List.length_cons, List.length_nil]; omega) (fun a33 c33 ha33 => ?_))
    refine zR 1 rfl (zN (zL (zU (zG ?_))))
    refine yA ?_
    refine zR 1 rfl (zN ?_)
    refine WE.again ((i + 1, xs ++ [-1], a33, c33)) (⟨by omega, by rw [List.length_append, hxl]; rfl, by
     show (ws.take (i + 1)).all _ = true
     rw [take_nth hil, List.all_append, hal, List.all_cons, List.all_nil]
     unfold okN9
     rw [h45]; rfl, by
     show _ = (ws.take (i + 1)).map _
     rw [take_nth hil, List.map_append, List.map_singleton, ← hxv, show valN9 fr (nth ws i) = -1 from if_pos h45]⟩) (by (try dsimp only); omega) ⟨rfl, rfl, rfl, rfl, rfl, rfl⟩ (RLe.refl _) qS
  ·try simp only [zk] at hc1
   have h45 : (fr && decide (nth ws i = [45])) = false := by
    rw [Bool.and_eq_false_iff, decide_eq_false_iff_not]
    cases hf : fr with
    | false => left; rfl
    | true => right; intro h; rw [h] at hc1; first | exact hc1 ⟨hf, rfl⟩ | exact hc1 hf rfl
   refine zK (zU (zQ (zQ (zG (zR 2 rfl (zN (zU ?_)))))))
   refine W.cond rfl (fun hc3 => ?_) (fun hc3 => ?_)
   ·try simp only [zk] at hc3
    have h9 : num9 (nth ws i) = false := by simpa using hc3
    have hno : numsO fr s = false := by
     unfold numsO
     rw [hwg, List.all_eq_false]
     exact ⟨_, nth_mem hil, by unfold okN9; rw [h45, h9]; decide⟩
    refine zQ (zG (zR 2 rfl (zN (zU (zT (wt (wb (wt (wt (wb (wt ?_)))))))))))
    refine sE (E := E) ?_
    refine WE.retF tab_ok [_, _] rfl ⟨rfl, rfl, trivial⟩ (hRR) ?_
    have hL : numsL fr s = [] := if_neg (by rw [hno]; decide)
    exact ⟨none, 0, by rw [hno, hL]; rfl, by rw [hL]; exact ⟨by simp, .inl rfl, by simp⟩, by rw [hL]; exact Nat.le_refl _, rfl⟩
   ·try simp only [zk] at hc3
    have h9 : num9 (nth ws i) = true := by simpa using hc3
    refine zK (zU (zG (zR 2 rfl ?_)))
    refine WL.ef rfl rfl qD (Ef.buildSliceD (enc := encI) (parts := [.tmp 31]) [_] tab_ok rfl rfl rfl rfl rfl rfl rfl rfl qD qD (fun a32 => ?_))
    refine WL.ef rfl rfl (by decide) (Ef.appendD 1 0 tab_ok rfl rfl rfl rfl rfl rfl rfl rfl rfl rfl rfl (fun _ _ => rfl) (by simp only [List.length_cons, List.length_nil]; omega) (by simp only [List.length_cons, List.length_nil]; omega) (fun a33 c33 ha33 => ?_))
    refine zR 1 rfl (zN (zL (zU (zG ?_))))
    refine yA ?_
    refine zR 1 rfl (zN ?_)
    refine WE.again ((i + 1, xs ++ [(num9V (nth ws i) : Int)], a33, c33)) (⟨by omega, by rw [List.length_append, hxl]; rfl, by
     show (ws.take (i + 1)).all _ = true
     rw [take_nth hil, List.all_append, hal, List.all_cons, List.all_nil]
     unfold okN9
     rw [h45, h9]; rfl, by
     show _ = (ws.take (i + 1)).map _
     rw [take_nth hil, List.map_append, List.map_singleton, ← hxv, show valN9 fr (nth ws i) = (num9V (nth ws i) : Int) from if_neg (by rw [h45]; decide)]⟩) (by (try dsimp only); omega) ⟨rfl, rfl, rfl, rfl, rfl, rfl⟩ (RLe.refl _) qS
 ·try dsimp only at hc0
  obtain rfl : i = ws.length := by omega
  refine zX ?_
  refine wx (wx (zY (zU ?_)))
  refine W.cap 0 rfl ?_
  intro hcl
  refine W.freeze (enc := encI) (xs := xs) 0 rfl ?_
  intro R2 hR2 hxs
  have hRR := hR1.trans hR2
  refine zQ (zG (zR 3 rfl (zN (zU (zT ?_)))))
  refine sE (E := E) ?_
  refine WE.retF tab_ok [_, _] rfl ⟨rfl, rfl, trivial⟩ (hRR) ?_
  rw [List.take_length] at hal hxv
  have hyes : numsO fr s = true := by unfold numsO; rw [hwg]; exact hal
  have hL : numsL fr s = xs := by unfold numsL; rw [if_pos hyes, hwg, hxv]
  exact ⟨a6, c6, by rw [hyes, hL]; rfl, by rw [hL]; exact hxs, by rw [hL]; simpa using hcl, rfl⟩

end Go.Proofs.YtmidibkljoaoiaaGreatDoor

/- An operation without a value, one of several that may come up. No condition. -/
namespace Go.Proofs.YtmidibkljoaoiaaGreatDoor.K
open Go Go.RowKit
variable {P : Program} {T : Tab} {n : Nat} {env : Env} {w0 : World} {R : Ro} {E : List Ent} {Q : Exit → Act → World → Prop}
variable {ops : List Oper} {o : Oper} {ES : List Ent} {R0 : Ro} {fuel : Nat} {listed : Array Bool}
theorem WS.effN {i : Nat} (hi : ops.toArray[i]? = some o) (hg : o.guard = none) (hd : o.dst = none)
  (h : Ef P n env w0 R E o fun _ R' E' => RLe R0 R' ∧ ES.Sublist E' ∧ WA P ops Q ES R0 w0 fuel (listed.setIfInBounds i true) n env R' E') : WS P ops Q ES R0 w0 fuel listed n env R E i := by
 intro a w hk hm
 unfold wpOp
 rw [hi]
 simp only [Region.wanted, hg, if_true]
 left
 obtain ⟨v, w', R', E', hrun, hm', hR', hsub', hn⟩ := h a w hk hm
 unfold Oper.wp
 rcases hrun with hrun | ⟨hrun, rfl⟩
 ·rw [hrun]; simp only [Oper.upon, hd]; exact ⟨hm'.sub hR' hsub', hn _ _ hk hm'⟩
 ·rw [hrun]; simp only [Oper.upon, hd]; exact ⟨hm'.sub hR' hsub', hn _ _ hk hm'⟩
end Go.Proofs.YtmidibkljoaoiaaGreatDoor.K

/- Four operations of which any may come first. No condition. -/
namespace Go.Proofs.YtmidibkljoaoiaaGreatDoor.K
open Go Go.RowKit
variable {P : Program} {T : Tab} {n : Nat} {env : Env} {w0 : World} {R : Ro} {E : List Ent} {Q : Exit → Act → World → Prop}
variable {ops : List Oper} {ES : List Ent} {R0 : Ro} {fuel : Nat} {listed : Array Bool}
theorem WE.retFS {E' : List Ent} (hE : E'.Sublist E) (hT : TabOk P T) {fn : Func} {Post : Value → Ro → List Ent → Prop} {R0 : Ro} {rs : List ResultVar} (vs : List Value) (hr : fn.results = rs.toArray) (h : ResAll T env R E rs vs) (hR : RLe R0 R) (hp : Post (resVal vs) R E') (hds : markOf env = none := by rfl) :
  WE (bodyPost P fn (FnR w0 R0 Post)) .ret n env w0 R E := fun _ _ hk hm => ⟨by rw [hk.defers]; unfold dsOf; rw [hds], resVal vs, results_ok hT hr hk hm h, resVal vs, R, E', rfl, hR, hm.sub (RLe.refl R) hE, hp⟩
end Go.Proofs.YtmidibkljoaoiaaGreatDoor.K

/- Chapter 24: a line. No condition. -/
set_option maxRecDepth 4000
set_option linter.unusedSimpArgs false
set_option linter.unusedVariables false
namespace Go.Proofs.YtmidibkljoaoiaaGreatDoor
open Go Go.RowKit Go.Proofs.YtmidibkljoaoiaaGreatDoor.K Go.Proofs.YtmidibkljoaoiaaGreatDoor.M

set_option maxHeartbeats 4000000 in
theorem LineP_C {R : Ro} (hG : GlobE R) {s : List UInt8} (hs : s.length ≤ 1000000) (w0 : World) (E : List Ent) : K.Fn Tryz.prog 75 [.string (str s)] w0 R E (fun v R' E' => ∃ (nm : List UInt8) (L : Ln) (a1 a2 : Option Addr) (c1 c2 : Nat), v = .tuple #[.string (str nm), .agg #[.int .i64 L.kind, .int .i64 L.cap, .int .i64 L.n, .slice a1 L.w.length c1, .slice a2 L.tb.length c2], .bool (lineO s)] ∧ RS R' 1 encI a1 L.w ∧ RS R' 1 encI a2 L.tb ∧ L.w.length ≤ c1 ∧ L.tb.length ≤ c2 ∧ (lineO s = true → nm = nth (splC 32 s) 1 ∧ L = lnVal (splC 32 s)) ∧ E' = E) := by
 
 refine fE 125 Tryz.func75 ?_
 refine zQ (zG (zR 1 rfl ?_))
 refine zA fun b3 => ?_
 refine zR 1 rfl (zN (zU (zQ (zG (zR 1 rfl ?_)))))
 refine WL.call en88 rfl rfl qD (CallOp.mkT rfl rfl rfl rfl) (Split_C hG (s := s) (d := 32) qO w0 _) ?_
 rintro _ R1 _ hR1 ⟨a12, rfl, hws, rfl⟩
 have hRR := hR1
 have hG := hG.mono hR1
 have hwl := splC_len 32 s
 have hwm := splC_mem 32 s
 generalize hwg : splC 32 s = ws at hws hwl hwm ⊢
 have hwa : ∀ i, (nth ws i).length ≤ s.length := fun i => by
  by_cases h : i < ws.length
  ·exact hwm _ (nth_mem h)
  ·rw [nth_out (by omega)]; exact Nat.zero_le _
 refine zR 1 rfl (zN (zU (zQ (zQ (zG (zR 4 rfl ?_))))))
 refine yP ?_
 refine WG.y rfl rfl (by decide) (Yl.indexN tab_ok rfl rfl rfl rfl rfl rfl qE (by intro hg; (try simp only [zk] at hg); (try dsimp only) <;> omega) (by intro hg; (try simp only [zk] at hg); first | exact qI)) ?_
 refine' WG.y rfl rfl qD (Yl.loadG tab_ok rfl rfl rfl qE ?r1 rfl ?h1 ?g1) ?_
 case r1 => ((apply RS.rdC; assumption))
 case h1 => rfl
 case g1 => (intro hg; (try simp only [zk] at hg); (try dsimp only); omega)
 refine WG.y rfl rfl qD (Yl.neS rfl rfl rfl qE) ?_
 refine yO ?_
 refine zR 1 rfl ?_
 refine yP ?_
 refine WG.y rfl rfl (by decide) (Yl.indexN tab_ok rfl rfl rfl rfl rfl rfl qE (by intro hg; (try simp only [zk] at hg); (try dsimp only) <;> omega) (by intro hg; (try simp only [zk] at hg); first | exact qI)) ?_
 refine' WG.y rfl rfl qD (Yl.loadG tab_ok rfl rfl rfl qE ?r2 rfl ?h2 ?g2) ?_
 case r2 => ((apply RS.rdC; assumption))
 case h2 => rfl
 case g2 => (intro hg; (try simp only [zk] at hg); (try dsimp only); omega)
 refine WG.callV en41 rfl rfl qD (CallOp.mk' rfl rfl rfl rfl) qE (fun hg => Word_V (s := nth ws 1) (by have := hwa 1; omega)) ?_
 refine yP ?_
 refine yO ?_
 refine zN (zU ?_)
 refine W.cond rfl (fun hc0 => ?_) (fun hc0 => ?_)
 ·try simp only [zk] at hc0
  have hhd : lnHead ws = false := by
   unfold lnHead
   rw [Bool.and_eq_false_iff, Bool.and_eq_false_iff, decide_eq_false_iff_not, decide_eq_false_iff_not]
   rcases hc0 with (h | h) | h
   ·left; omega
   ·right; left; intro e; exact h (by rw [e]; rfl)
   ·right; right; simpa using h
  refine zQ (zG ?_)
  -- build
  refine WG.y rfl rfl qD (Yl.build (parts := []) tab_ok rfl rfl rfl rfl (fun _ => rfl) rfl rfl) ?_
  refine zR 1 rfl ?_
  refine zE 0 ?_
  refine zR 1 rfl (zN (zU (zT (wt ?_))))
  refine WE.retFS (E' := E) qS tab_ok [_, _, _] rfl ⟨rfl, ⟨_, _, _, rfl, rfl, rfl, qB, rfl⟩, rfl, trivial⟩ (hRR) ?_
  have hO : lineO s = false := by unfold lineO; rw [hwg, hhd]; rfl
  exact ⟨[], ⟨0, 0, 0, [], []⟩, none, none, 0, 0, by rw [hO]; rfl, ⟨by simp, .inl rfl, by simp⟩, ⟨by simp, .inl rfl, by simp⟩, Nat.le_refl _, Nat.le_refl _, (fun h => by rw [hO] at h; cases h), rfl⟩
 ·try simp only [zk] at hc0
  obtain ⟨⟨h4, hl0⟩, hw1⟩ := hc0
  have h4n : 4 ≤ ws.length := by omega
  have hhd : lnHead ws = true := by unfold lnHead; rw [decide_eq_true h4n, decide_eq_true (str_inj (b := wLine) hl0), hw1]; rfl
  refine zK (zU (zQ (zG ?_)))
  -- build
  refine WG.y rfl rfl qD (Yl.build (parts := []) tab_ok rfl rfl rfl rfl (fun _ => rfl) rfl rfl) ?_
  refine zA fun b6 => ?_
  refine zE 0 ?_
  refine zN (zU (zQ (zG (zR 2 rfl (zN (zU (zQ (zG (zR 1 rfl ?_)))))))))
  refine WG.y rfl rfl qD (Yl.indexN tab_ok rfl rfl rfl rfl rfl rfl (fun _ => rfl) qN qH) ?_
  refine yR ?_
  refine WG.callV en89 rfl rfl qD (CallOp.mk' rfl rfl rfl rfl) (fun _ => rfl) (fun hg => Number9_V (w := nth ws 3) (by have := hwa 3; omega)) ?_
  refine zR 4 rfl ?_
  refine zF 0 ?_
  refine zR 1 rfl (zN (zU ?_))
  refine W.seqCut (β := Ln × Option Addr × Option Addr × Nat × Nat × Bool × Ro) (fun (L, a1, a2, c1, c2, mo, Rk) => RS Rk 1 encI a1 L.w ∧ RS Rk 1 encI a2 L.tb ∧ L.w.length ≤ c1 ∧ L.tb.length ≤ c2 ∧ RLe R1 Rk ∧ mo = lnMore ws ∧ (mo = true → L = lnVal ws)) (fun (L, a1, a2, c1, c2, mo, Rk) => [(3, true, .pointer (some ⟨b3, 0, none⟩)), (5, true, .slice (some a12) ws.length ws.length), (6, true, .pointer (some ⟨b6, 0, none⟩)), (7, true, .bool (num9 (nth ws 3))), (8, true, .bool mo)]) (fun (L, a1, a2, c1, c2, mo, Rk) => Rk) (fun (L, a1, a2, c1, c2, mo, Rk) => .blk b6 [.int .i64 L.kind, .int .i64 L.cap, .int .i64 L.n, .slice a1 L.w.length c1, .slice a2 L.tb.length c2] :: .blk b3 [.int .i64 0, .int .i64 0, .int .i64 0, .slice none 0 0, .slice none 0 0] :: E) ?_ ?_
  ·
   intro zz hst
   obtain ⟨L, a1, a2, c1, c2, mo, Rk⟩ := zz
   obtain ⟨hf1, hf2, hg1, hg2, hRk, hmo, hLv⟩ := hst
   dsimp only at hf1 hf2 hg1 hg2 hRk hmo hLv ⊢
   have hws := hws.mono hRk
   have hRR := hRR.trans hRk
   refine zQ (zQ (zG (zR 3 rfl ?_)))
   refine yP ?_
   refine yP ?_
   refine yO ?_
   refine zN (zU ?_)
   refine W.cond rfl (fun hc1 => ?_) (fun hc1 => ?_)
   ·try simp only [zk] at hc1
    have hO : lineO s = false := by
     unfold lineO
     rw [hwg, hhd, ← hmo, Bool.true_and, Bool.and_eq_false_iff]
     simpa using hc1
    refine zQ (zG ?_)
    -- build
    refine WG.y rfl rfl qD (Yl.build (parts := []) tab_ok rfl rfl rfl rfl (fun _ => rfl) rfl rfl) ?_
    refine zR 1 rfl ?_
    refine zE 1 ?_
    refine zR 1 rfl (zN (zU (zT (wt ?_))))
    refine WE.retFS (E' := E) qS tab_ok [_, _, _] rfl ⟨rfl, ⟨_, _, _, rfl, rfl, rfl, qB, rfl⟩, rfl, trivial⟩ (hRR) ?_
    exact ⟨[], ⟨0, 0, 0, [], []⟩, none, none, 0, 0, by rw [hO]; rfl, ⟨by simp, .inl rfl, by simp⟩, ⟨by simp, .inl rfl, by simp⟩, Nat.le_refl _, Nat.le_refl _, (fun h => by rw [hO] at h; cases h), rfl⟩
   ·try simp only [zk] at hc1
    have hO : lineO s = true := by unfold lineO; rw [hwg, hhd, ← hmo, hc1.1, hc1.2]; rfl
    refine zK (zU (zQ ?_))
    refine W.regionH _ (ES := [.blk b6 [.int .i64 L.kind, .int .i64 L.cap, .int .i64 L.n, .slice a1 L.w.length c1, .slice a2 L.tb.length c2]]) mixed ?_
    refine tP 0 ?_
    refine WA.take 1 rfl qK qK qK rfl rfl qD (Yl.indexN tab_ok rfl rfl rfl rfl rfl rfl (fun _ => rfl) qN qH) qS qR ?_
    refine' WA.take 2 rfl qK qK qK rfl rfl qD (Yl.load1 tab_ok rfl rfl rfl (fun _ => rfl) ?r4 rfl ?h4) qS qR ?_
    case r4 => ((apply RS.rdD; assumption; ((try dsimp only) <;> omega)))
    case h4 => rfl
    refine tL 3 (Rd.blk 0 rfl) ?_
    refine tP 4 ?_
    refine zCE 5 1 ?_
    refine tP 6 ?_
    refine WA.done qK ?_
    refine zU (zT ?_)
    refine WE.retFS (E' := E) qS tab_ok [_, _, _] rfl ⟨rfl, ⟨_, _, _, rfl, rfl, rfl, qB, rfl⟩, rfl, trivial⟩ (hRR) ?_
    exact ⟨nth ws 1, L, a1, a2, c1, c2, by rw [hO]; rfl, hf1, hf2, hg1, hg2, fun _ => ⟨rfl, hLv hc1.2⟩, rfl⟩
  ·
   refine zQ (zG (zR 1 rfl ?_))
   refine WG.y rfl rfl qD (Yl.indexN tab_ok rfl rfl rfl rfl rfl rfl (fun _ => rfl) qN qH) ?_
   refine yR ?_
   refine zN (zU (zB (zQ (zG ?_))))
   refine WG.y rfl rfl qD (Yl.eqS rfl rfl rfl (fun _ => rfl)) ?_
   refine zR 1 rfl (zN (zU ?_))
   refine W.cond rfl (fun hc2 => ?_) (fun hc2 => ?_)
   ·try simp only [zk] at hc2
    have hkF : nth ws 2 = wFifo := str_inj (b := wFifo) hc2
    refine zQ (zG (zR 1 rfl ?_))
    refine zF 0 ?_
    refine zR 1 rfl ?_
    refine zF 0 ?_
    refine zN (zU (zG (zR 4 rfl (zN (zL ?_)))))
    refine WE.cut (⟨1, (num9V (nth ws 3) : Int), 1, [], []⟩, none, none, 0, 0, decide ((ws.length : Int) = 4), R1) ⟨⟨by simp, .inl rfl, by simp⟩, ⟨by simp, .inl rfl, by simp⟩, Nat.le_refl _, Nat.le_refl _, RLe.refl _, by unfold lnMore; rw [if_pos hkF]; exact decide_eq_decide.2 (by omega), fun _ => by unfold lnVal; rw [if_pos hkF]⟩ ⟨rfl, rfl, rfl, rfl, rfl, rfl⟩ (RLe.refl _) qS
   ·try simp only [zk] at hc2
    have hnF : ¬ nth ws 2 = wFifo := fun h => hc2 (by rw [h]; rfl)
    refine zQ (zG ?_)
    refine WG.y rfl rfl qD (Yl.eqS rfl rfl rfl (fun _ => rfl)) ?_
    refine zR 1 rfl (zN (zU ?_))
    refine W.cond rfl (fun hc3 => ?_) (fun hc3 => ?_)
    ·try simp only [zk] at hc3
     have hkP : nth ws 2 = wPrio := str_inj (b := wPrio) hc3
     refine zQ (zG (zR 1 rfl ?_))
     refine zF 0 ?_
     refine zN (zU (zQ (zG (zR 3 rfl (zN (zU ?_))))))
     refine W.condE rfl (fun hc4 => ?_) (fun hc4 => ?_)
     ·try dsimp only at hc4
      refine zG (zR 1 rfl ?_)
      refine WG.y rfl rfl qD (Yl.indexN tab_ok rfl rfl rfl rfl rfl rfl (fun _ => rfl) qN qH) ?_
      refine yR ?_
      refine WG.callV en89 rfl rfl qD (CallOp.mk' rfl rfl rfl rfl) (fun _ => rfl) (fun hg => Number9_V (w := nth ws 4) (by have := hwa 4; omega)) ?_
      refine zR 4 rfl ?_
      refine zF 0 ?_
      refine zR 1 rfl (zN (zL ?_))
      refine WE.cut (⟨2, (num9V (nth ws 3) : Int), (num9V (nth ws 4) : Int), [], []⟩, none, none, 0, 0, num9 (nth ws 4), R1) ⟨⟨by simp, .inl rfl, by simp⟩, ⟨by simp, .inl rfl, by simp⟩, Nat.le_refl _, Nat.le_refl _, RLe.refl _, by unfold lnMore; rw [if_neg hnF, if_pos hkP, decide_eq_true (show ws.length = 5 by omega), Bool.true_and], fun _ => by unfold lnVal; rw [if_neg hnF, if_pos hkP]⟩ ⟨rfl, rfl, rfl, rfl, rfl, rfl⟩ (RLe.refl _) qS
     ·try dsimp only at hc4
      refine zK (zL ?_)
      refine WE.cut (⟨2, (num9V (nth ws 3) : Int), 0, [], []⟩, none, none, 0, 0, false, R1) ⟨⟨by simp, .inl rfl, by simp⟩, ⟨by simp, .inl rfl, by simp⟩, Nat.le_refl _, Nat.le_refl _, RLe.refl _, by unfold lnMore; rw [if_neg hnF, if_pos hkP, decide_eq_false (show ¬ ws.length = 5 by omega), Bool.false_and], fun h => by cases h⟩ ⟨rfl, rfl, rfl, rfl, rfl, rfl⟩ (RLe.refl _) qS
    ·try simp only [zk] at hc3
     have hnP : ¬ nth ws 2 = wPrio := fun h => hc3 (by rw [h]; rfl)
     refine zQ (zQ (zG ?_))
     refine WG.y rfl rfl qD (Yl.eqS rfl rfl rfl (fun _ => rfl)) ?_
     refine zR 1 rfl (zN (zU ?_))
     refine W.cond rfl (fun hc5 => ?_) (fun hc5 => ?_)
     ·try simp only [zk] at hc5
      have hkR : nth ws 2 = wRob := str_inj (b := wRob) hc5
      refine zK (zU ?_)
      refine W.cond rfl (fun hc6 => ?_) (fun hc6 => ?_)
      ·try simp only [zk] at hc6
       refine zQ (zG (zR 1 rfl ?_))
       refine zF 0 ?_
       refine zN (zU (zQ (zQ (zG (zR 1 rfl ?_)))))
       refine WG.y rfl rfl qD (Yl.indexN tab_ok rfl rfl rfl rfl rfl rfl (fun _ => rfl) qN qH) ?_
       refine yR ?_
       refine WG.y rfl rfl qD (Yl.eqS rfl rfl rfl (fun _ => rfl)) ?_
       refine zN (zU ?_)
       refine W.cond rfl (fun hc7 => ?_) (fun hc7 => ?_)
       ·try simp only [zk] at hc7
        exact absurd (hkR.symm.trans (str_inj (b := wDef) hc7)) qD
       ·try simp only [zk] at hc7
        refine zK (zU (zQ (zG (zR 3 rfl (zN (zU ?_))))))
        refine W.condE rfl (fun hc8 => ?_) (fun hc8 => ?_)
        ·try dsimp only at hc8
         refine zQ (zG (zR 1 rfl ?_))
         refine WG.y rfl rfl qD (Yl.indexN tab_ok rfl rfl rfl rfl rfl rfl (fun _ => rfl) qN qH) ?_
         refine yR ?_
         refine WL.call en90 rfl rfl qD (CallOp.mkT rfl rfl rfl rfl) (NumsG_C hG (s := nth ws 4) (fr := false) (by have := hwa 4; omega) w0 _) ?_
         rintro _ R2 _ hR2 ⟨a80, c80, rfl, hl80, hc80, rfl⟩
         have hws := hws.mono hR2
         refine zR 4 rfl ?_
         refine zF 0 ?_
         refine zR 1 rfl (zN (zU (zG (zR 1 rfl ?_))))
         refine yL (Rd.add (Rd.blk 0 rfl) _) ?_
         refine zR 2 rfl ?_
         refine zF 0 ?_
         refine zN (zL ?_)
         refine WE.cut (⟨3, (num9V (nth ws 3) : Int), ((numsL false (nth ws 4)).length : Int), numsL false (nth ws 4), []⟩, a80, none, c80, 0, numsO false (nth ws 4), R2) ⟨hl80, ⟨by simp, .inl rfl, by simp⟩, hc80, Nat.le_refl _, hR2, by unfold lnMore; rw [if_neg hnF, if_neg hnP, if_pos (.inl hkR), decide_eq_true (show ws.length = 5 by omega), Bool.true_and], fun _ => by unfold lnVal; rw [if_neg hnF, if_neg hnP, if_pos hkR]⟩ ⟨rfl, rfl, rfl, rfl, rfl, rfl⟩ (RLe.refl _) qS
        ·try dsimp only at hc8
         refine zK (zL ?_)
         refine WE.cut (⟨3, (num9V (nth ws 3) : Int), 0, [], []⟩, none, none, 0, 0, false, R1) ⟨⟨by simp, .inl rfl, by simp⟩, ⟨by simp, .inl rfl, by simp⟩, Nat.le_refl _, Nat.le_refl _, RLe.refl _, by unfold lnMore; rw [if_neg hnF, if_neg hnP, if_pos (.inl hkR), decide_eq_false (show ¬ ws.length = 5 by omega), Bool.false_and], fun h => by cases h⟩ ⟨rfl, rfl, rfl, rfl, rfl, rfl⟩ (RLe.refl _) qS
      ·try simp only [zk] at hc6
       exact absurd hc5 hc6
     ·try simp only [zk] at hc5
      have hnR : ¬ nth ws 2 = wRob := fun h => hc5 (by rw [h]; rfl)
      refine zG ?_
      refine WG.y rfl rfl qD (Yl.eqS rfl rfl rfl (fun _ => rfl)) ?_
      refine zR 1 rfl (zN (zU ?_))
      refine W.cond rfl (fun hc9 => ?_) (fun hc9 => ?_)
      ·try simp only [zk] at hc9
       have hkD : nth ws 2 = wDef := str_inj (b := wDef) hc9
       refine zQ (zG (zR 1 rfl ?_))
       refine zF 0 ?_
       refine zN (zU (zQ (zQ (zG (zR 1 rfl ?_)))))
       refine WG.y rfl rfl qD (Yl.indexN tab_ok rfl rfl rfl rfl rfl rfl (fun _ => rfl) qN qH) ?_
       refine yR ?_
       refine WG.y rfl rfl qD (Yl.eqS rfl rfl rfl (fun _ => rfl)) ?_
       refine zN (zU ?_)
       refine W.cond rfl (fun hc10 => ?_) (fun hc10 => ?_)
       ·try simp only [zk] at hc10
        refine zG (zR 1 rfl ?_)
        refine zF 0 ?_
        refine zN (zU (zQ (zG (zR 3 rfl (zN (zU ?_))))))
        refine W.condE rfl (fun hc11 => ?_) (fun hc11 => ?_)
        ·try dsimp only at hc11
         refine zQ (zG (zR 1 rfl ?_))
         refine WG.y rfl rfl qD (Yl.indexN tab_ok rfl rfl rfl rfl rfl rfl (fun _ => rfl) qN qH) ?_
         refine yR ?_
         refine WL.call en90 rfl rfl qD (CallOp.mkT rfl rfl rfl rfl) (NumsG_C hG (s := nth ws 4) (fr := false) (by have := hwa 4; omega) w0 _) ?_
         rintro _ R2 _ hR2 ⟨a80, c80, rfl, hl80, hc80, rfl⟩
         have hws := hws.mono hR2
         refine zR 4 rfl ?_
         refine zF 0 ?_
         refine zR 1 rfl (zN (zU (zG (zR 1 rfl ?_))))
         refine yL (Rd.add (Rd.blk 0 rfl) _) ?_
         refine zR 2 rfl ?_
         refine zF 0 ?_
         refine zN (zL ?_)
         refine WE.cut (⟨4, (num9V (nth ws 3) : Int), ((numsL false (nth ws 4)).length : Int), numsL false (nth ws 4), []⟩, a80, none, c80, 0, numsO false (nth ws 4), R2) ⟨hl80, ⟨by simp, .inl rfl, by simp⟩, hc80, Nat.le_refl _, hR2, by unfold lnMore; rw [if_neg hnF, if_neg hnP, if_pos (.inr hkD), decide_eq_true (show ws.length = 5 by omega), Bool.true_and], fun _ => by unfold lnVal; rw [if_neg hnF, if_neg hnP, if_neg hnR, if_pos hkD]⟩ ⟨rfl, rfl, rfl, rfl, rfl, rfl⟩ (RLe.refl _) qS
        ·try dsimp only at hc11
         refine zK (zL ?_)
         refine WE.cut (⟨4, (num9V (nth ws 3) : Int), 0, [], []⟩, none, none, 0, 0, false, R1) ⟨⟨by simp, .inl rfl, by simp⟩, ⟨by simp, .inl rfl, by simp⟩, Nat.le_refl _, Nat.le_refl _, RLe.refl _, by unfold lnMore; rw [if_neg hnF, if_neg hnP, if_pos (.inr hkD), decide_eq_false (show ¬ ws.length = 5 by omega), Bool.false_and], fun h => by cases h⟩ ⟨rfl, rfl, rfl, rfl, rfl, rfl⟩ (RLe.refl _) qS
       ·try simp only [zk] at hc10
        exact absurd hc9 hc10
      ·try simp only [zk] at hc9
       have hnD : ¬ nth ws 2 = wDef := fun h => hc9 (by rw [h]; rfl)
       refine zQ (zG ?_)
       refine WG.y rfl rfl qD (Yl.eqS rfl rfl rfl (fun _ => rfl)) ?_
       refine zR 1 rfl (zN (zU ?_))
       refine W.cond rfl (fun hc12 => ?_) (fun hc12 => ?_)
       ·try simp only [zk] at hc12
        have hkS : nth ws 2 = wSlots := str_inj (b := wSlots) hc12
        refine zQ (zG (zR 1 rfl ?_))
        refine zF 0 ?_
        refine zN (zU (zQ (zG (zR 3 rfl (zN (zU ?_))))))
        refine W.condE rfl (fun hc13 => ?_) (fun hc13 => ?_)
        ·try dsimp only at hc13
         refine zQ (zG (zR 1 rfl ?_))
         refine WG.y rfl rfl qD (Yl.indexN tab_ok rfl rfl rfl rfl rfl rfl (fun _ => rfl) qN qH) ?_
         refine yR ?_
         refine WG.callV en89 rfl rfl qD (CallOp.mk' rfl rfl rfl rfl) (fun _ => rfl) (fun hg => Number9_V (w := nth ws 4) (by have := hwa 4; omega)) ?_
         refine zR 4 rfl ?_
         refine zF 0 ?_
         refine zR 1 rfl (zN (zU (zQ (zG (zR 1 rfl ?_)))))
         refine WG.y rfl rfl qD (Yl.indexN tab_ok rfl rfl rfl rfl rfl rfl (fun _ => rfl) qN qH) ?_
         refine yR ?_
         refine WL.call en90 rfl rfl qD (CallOp.mkT rfl rfl rfl rfl) (NumsG_C hG (s := nth ws 5) (fr := true) (by have := hwa 5; omega) w0 _) ?_
         rintro _ R2 _ hR2 ⟨a80, c80, rfl, hl80, hc80, rfl⟩
         have hws := hws.mono hR2
         refine zR 5 rfl (zN (zU (zG (zR 3 rfl ?_))))
         refine yP ?_
         refine yN ?_
         refine zR 1 rfl ?_
         refine zF 0 ?_
         refine zR 1 rfl (zN (zL ?_))
         refine WE.cut (⟨5, (num9V (nth ws 3) : Int), (num9V (nth ws 4) : Int), [], numsL true (nth ws 5)⟩, none, a80, 0, c80, (num9 (nth ws 4) && numsO true (nth ws 5)), R2) ⟨⟨by simp, .inl rfl, by simp⟩, hl80, Nat.le_refl _, hc80, hR2, by unfold lnMore; rw [if_neg hnF, if_neg hnP, if_neg (fun h => h.elim hnR hnD), if_pos hkS, decide_eq_true (show ws.length = 6 by omega), Bool.true_and], fun _ => by unfold lnVal; rw [if_neg hnF, if_neg hnP, if_neg hnR, if_neg hnD]⟩ ⟨rfl, rfl, rfl, rfl, rfl, rfl⟩ (RLe.refl _) qS
        ·try dsimp only at hc13
         refine zK (zL ?_)
         refine WE.cut (⟨5, (num9V (nth ws 3) : Int), 0, [], []⟩, none, none, 0, 0, false, R1) ⟨⟨by simp, .inl rfl, by simp⟩, ⟨by simp, .inl rfl, by simp⟩, Nat.le_refl _, Nat.le_refl _, RLe.refl _, by unfold lnMore; rw [if_neg hnF, if_neg hnP, if_neg (fun h => h.elim hnR hnD), if_pos hkS, decide_eq_false (show ¬ ws.length = 6 by omega), Bool.false_and], fun h => by cases h⟩ ⟨rfl, rfl, rfl, rfl, rfl, rfl⟩ (RLe.refl _) qS
       ·try simp only [zk] at hc12
        have hnS : ¬ nth ws 2 = wSlots := fun h => hc12 (by rw [h]; rfl)
        refine zK (zL ?_)
        refine WE.cut (⟨0, (num9V (nth ws 3) : Int), 0, [], []⟩, none, none, 0, 0, false, R1) ⟨⟨by simp, .inl rfl, by simp⟩, ⟨by simp, .inl rfl, by simp⟩, Nat.le_refl _, Nat.le_refl _, RLe.refl _, by unfold lnMore; rw [if_neg hnF, if_neg hnP, if_neg (fun h => h.elim hnR hnD), if_neg hnS], fun h => by cases h⟩ ⟨rfl, rfl, rfl, rfl, rfl, rfl⟩ (RLe.refl _) qS

end Go.Proofs.YtmidibkljoaoiaaGreatDoor

/- A function that defers a closure which recovers: its contract, and the closure's. No condition. -/
namespace Go.Proofs.YtmidibkljoaoiaaGreatDoor.K
open Go Go.RowKit
section
variable {P : Program} {T : Tab} {n : Nat} {env : Env} {w0 : World} {R : Ro} {E : List Ent} {Q : Exit → Act → World → Prop} {o : Oper} {ops rest : List Oper}
/-- a closure is laid among the deferred calls -/
theorem WL.defer {c : Call} {x : Operand} {fv : Go.Fn} {ca : Array Value} (hg : o.guard = none) (hd : o.dst = none) (ho : o.op = .defer c) (hc : c.callee = .value x) (hca : c.args = #[]) (hx : ev env x = some (true, .func fv #[] ca)) (hmk : markOf env = none)
  (h : WG false P ops Q rest n ((99999, true, .func fv #[] ca) :: env) w0 R E) : WG false P ops Q (o :: rest) n env w0 R E := by
 intro a w hk hm
 refine wpList_plain hg fun K hK => ?_
 have e : (execOp a.eval o).run P w = .ok (.defer { target := .fn fv ca, args := #[] }) w := by
  unfold execOp
  rw [ho]
  have hev := hk.ev hx rfl
  simp [resolve, hc, hca, hev, Deferred.ofValue]
 unfold Oper.wp
 rw [e]
 simp only [Oper.upon, hd]
 refine hK _ _ (h _ _ ⟨by simpa [Act.put] using hk.size, hk.small, ?_, fun t p v ht => ?_⟩ hm)
 ·simp only [Act.put, hk.defers]
  unfold dsOf
  rw [hmk]
  rfl
 ·have h9 : Nat.beq 99999 t = false := by
   cases h9 : Nat.beq 99999 t with
   | false => rfl
   | true => simp [look, ← beq_true h9] at ht
  simp only [look, h9, cond_false] at ht
  simpa [Act.put] using hk.val t p v ht
theorem Fn.enterD {f : FuncId} {fn : Func} {c : Code} {args : List Value} {Post : Value → Ro → List Ent → Prop} {n : Nat}
  (hf : P.funcs[f]? = some fn) (hb : fn.body = some c) (hn : fn.ntmps = n) (ha : args.length ≤ n) (hs : Nat.ble n 99999 = true)
  (h : W P c (bodyPostD P fn (FnR w0 R Post)) n (argEnv 0 args) w0 R E) : Fn P f args w0 R E Post := by
 intro w hm
 have hs := Nat.le_of_ble_eq_true hs
 refine calls_of_wp_defers hf hb (h _ w ⟨?_, hs, (argEnv_mark 0 args (by omega)).symm, fun t p v ht => ?_⟩ hm)
 ·simp [hn]; omega
 ·obtain ⟨hp, _, hv⟩ := argEnv_look 0 args t p v ht
  simp only [Nat.sub_zero] at hv
  subst hp
  have hlt : t < args.length := (List.getElem?_eq_some_iff.1 hv).1
  rw [Array.getElem?_append_left (by simpa using hlt)]
  simpa using hv
/-- a deferred closure's contract: it returns; what it makes of its caller's mode -/
def FnDR (P : Program) (f : FuncId) (args : List Value) (w0 : World) (R : Ro) (E : List Ent) (u : FrameMode) (Post : Ro → List Ent → FrameMode → Prop) : Prop :=
  ∀ w, Mem w0 w R E → CallsD P f args.toArray u w fun e u' w' => ∃ v R' E', e = .returned v ∧ RLe R R' ∧ Mem w0 w' R' E' ∧ Post R' E' u'
theorem leavesD (hT : TabOk P T) {fn : Func} {Post : Value → Ro → List Ent → Prop} {R0 : Ro} {rs : List ResultVar} {f : FuncId} {ca : List Value} {u : FrameMode} (hr : fn.results = rs.toArray) (hds : markOf env = some (.func (.func f) #[] ca.toArray)) (hf : Enters P f) (hu : u ≠ .run)
  (hc : FnDR P f ca w0 R E u (fun R' E' u' => settle u' = .returning ∧ RLe R0 R' ∧ ∃ vs, ResAll T env R' E' rs vs ∧ Post (resVal vs) R' E'))
  {a : Act} {w : World} (hk : Kn n env a) (hm : Mem w0 w R E) : Leaves P fn a.tmps (FnR w0 R0 Post) a.defers u w := by
 have hd : a.defers = [{ target := .fn (.func f) ca.toArray, args := #[] }] := by rw [hk.defers]; unfold dsOf; rw [hds]
 rw [hd]
 refine ⟨hu, .func f, ca.toArray, f, ca.toArray, rfl, ?_, ?_⟩
 ·have := hf ca.toArray w
  simpa [invoke] using this
 ·intro c cs hcu
  obtain ⟨e, u', w', fr, ⟨v, R', E', rfl, hR, hm', hs, hR0, vs, hv, hp⟩, h2, h3, h4⟩ := hc w hm c cs hcu
  refine ⟨_, u', w', fr, ?_, h2, h3, h4⟩
  show Leaves P fn a.tmps (FnR w0 R0 Post) [] (settle u') w'
  rw [hs]
  exact ⟨_, results_ok hT hr hk hm' hv, resVal vs, R', E', rfl, hR0, hm', hp⟩
theorem WE.retD (hT : TabOk P T) {fn : Func} {Post : Value → Ro → List Ent → Prop} {R0 : Ro} {rs : List ResultVar} {f : FuncId} {ca : List Value} (hr : fn.results = rs.toArray) (hds : markOf env = some (.func (.func f) #[] ca.toArray)) (hf : Enters P f)
  (hc : FnDR P f ca w0 R E .returning (fun R' E' u' => settle u' = .returning ∧ RLe R0 R' ∧ ∃ vs, ResAll T env R' E' rs vs ∧ Post (resVal vs) R' E')) :
  WE (bodyPostD P fn (FnR w0 R0 Post)) .ret n env w0 R E := fun _ _ hk hm => leavesD hT hr hds hf (by simp) hc hk hm
theorem WE.panicD (hT : TabOk P T) {fn : Func} {Post : Value → Ro → List Ent → Prop} {R0 : Ro} {rs : List ResultVar} {f : FuncId} {ca : List Value} {ch : List PanicEntry} (hr : fn.results = rs.toArray) (hds : markOf env = some (.func (.func f) #[] ca.toArray)) (hf : Enters P f)
  (hc : FnDR P f ca w0 R E (.panicking ch) (fun R' E' u' => settle u' = .returning ∧ RLe R0 R' ∧ ∃ vs, ResAll T env R' E' rs vs ∧ Post (resVal vs) R' E')) :
  WE (bodyPostD P fn (FnR w0 R0 Post)) (.panic ch) n env w0 R E := fun _ _ hk hm => leavesD hT hr hds hf (by simp) hc hk hm
/-- where nothing is deferred yet -/
theorem WE.retD0 (hT : TabOk P T) {fn : Func} {Post : Value → Ro → List Ent → Prop} {R0 : Ro} {rs : List ResultVar} (vs : List Value) (hr : fn.results = rs.toArray) (h : ResAll T env R E rs vs) (hR : RLe R0 R) (hp : Post (resVal vs) R E) (hds : markOf env = none := by rfl) :
  WE (bodyPostD P fn (FnR w0 R0 Post)) .ret n env w0 R E := fun a w hk hm => by
 show Leaves P fn a.tmps (FnR w0 R0 Post) a.defers .returning w
 rw [hk.defers]
 unfold dsOf
 rw [hds]
 exact ⟨resVal vs, results_ok hT hr hk hm h, resVal vs, R, E, rfl, hR, hm, hp⟩

/-! ### the closure -/
def WD (P : Program) (c : Code) (Q : Exit → Act → List Frame → World → Prop) (n : Nat) (env : Env) (w0 : World) (R : Ro) (E : List Ent) (cs : List Frame) : Prop :=
  ∀ a w, Kn n env a → Mem w0 w R E → c.wpS P Q a cs w
def WDG (P : Program) (ops : Array Oper) (Q : Exit → Act → List Frame → World → Prop) (l : List Nat) (n : Nat) (env : Env) (w0 : World) (R : Ro) (E : List Ent) (cs : List Frame) : Prop :=
  ∀ a w, Kn n env a → Mem w0 w R E → wpOpsS P ops Q l a cs w
variable {QS : Exit → Act → List Frame → World → Prop} {cs : List Frame} {x y : Code} {aops : Array Oper} {il : List Nat}
theorem WD.seq (h : WD P x (Exit.thenS (y.wpS P QS) QS) n env w0 R E cs) : WD P (.seq x y) QS n env w0 R E cs := fun a w hk hm => wpS_seq (h a w hk hm)
theorem WD.region {id : Nat} (h : WDG P aops QS (List.range aops.size) n env w0 R E cs) : WD P (.region id aops false) QS n env w0 R E cs := fun a w hk hm => wpS_region (h a w hk hm)
theorem WD.plain (h : W P x (fun e a w => QS e a cs w) n env w0 R E) : WD P x QS n env w0 R E cs := fun a w hk hm => wpS_of_wp (h a w hk hm)
theorem WDG.nil (h : WD P y QS n env w0 R E cs) : WDG P aops (Exit.thenS (y.wpS P QS) QS) [] n env w0 R E cs := fun a w hk hm => h a w hk hm
theorem WDG.yl {i d : Nat} {v : Value} (hi : aops[i]? = some o) (hg : o.guard = none) (hd : o.dst = some d) (hdn : d < n) (hy : Yl P n env w0 R E o true v)
  (h : WDG P aops QS il n ((d, true, v) :: env) w0 R E cs) : WDG P aops QS (i :: il) n env w0 R E cs := by
 intro a w hk hm
 have e := hy a w hk hm rfl
 have h2 := h _ _ (hk.putT hdn v) hm
 unfold wpOpsS
 rw [hi]
 simp only [Region.wanted, hg, if_true, e, Oper.upon, hd]
 exact h2
/-- recover, in a deferred closure -/
theorem WDG.recover {i d : Nat} {c : Call} {v : Value} {cs' : List Frame} (hi : aops[i]? = some o) (hg : o.guard = none) (hd : o.dst = some d) (hdn : d < n) (ho : o.op = .call c) (hc : c.callee = .builtin .recover)
  (hr : (recoverD cs).getD (.nilIface, cs) = (v, cs'))
  (h : WDG P aops QS il n ((d, true, v) :: env) w0 R E cs') : WDG P aops QS (i :: il) n env w0 R E cs := by
 intro a w hk hm
 have h2 := h _ _ (hk.putT hdn v) hm
 have e : (execOp a.eval o).run P w = .ok .recover w := by
  unfold execOp
  rw [ho]
  simp [resolve, hc, invoke, builtin]
 unfold wpOpsS
 rw [hi]
 simp only [Region.wanted, hg, if_true, e, hd]
 cases hrd : recoverD cs with
 | none => rw [hrd] at hr; simp at hr; obtain ⟨rfl, rfl⟩ := hr; exact h2
 | some q => rw [hrd] at hr; simp at hr; subst hr; exact h2
theorem FnDR.enter {f : FuncId} {fn : Func} {c : Code} {args : List Value} {u : FrameMode} {Post : Ro → List Ent → FrameMode → Prop} {n : Nat}
  (hf : P.funcs[f]? = some fn) (hb : fn.body = some c) (hn : fn.ntmps = n) (ha : args.length ≤ n) (hs : Nat.ble n 99999 = true)
  (h : ∀ (c0 : Frame) (cs : List Frame), c0.mode = u → WD P c (bodyPostS P fn c0 cs (fun e u' w' => ∃ v R' E', e = .returned v ∧ RLe R R' ∧ Mem w0 w' R' E' ∧ Post R' E' u')) n (argEnv 0 args) w0 R E (c0 :: cs)) : FnDR P f args w0 R E u Post := by
 intro w hm
 have hs := Nat.le_of_ble_eq_true hs
 refine callsD_of_wpS hf hb (fun c0 cs hc => h c0 cs hc _ w ⟨?_, hs, (argEnv_mark 0 args (by omega)).symm, fun t p v ht => ?_⟩ hm)
 ·simp [hn]; omega
 ·obtain ⟨hp, _, hv⟩ := argEnv_look 0 args t p v ht
  simp only [Nat.sub_zero] at hv
  subst hp
  have hlt : t < args.length := (List.getElem?_eq_some_iff.1 hv).1
  rw [Array.getElem?_append_left (by simpa using hlt)]
  simpa using hv
/-- the closure's end: it has no result -/
theorem WE.retDR {fn : Func} {c0 : Frame} {cs : List Frame} {u' : FrameMode} {R0 : Ro} {Post : Ro → List Ent → FrameMode → Prop} (hr : fn.results = #[]) (hR : RLe R0 R) (hp : Post R E u') (hds : markOf env = none := by rfl) :
  WE (fun e a w => bodyPostS P fn c0 cs (fun e u' w' => ∃ v R' E', e = .returned v ∧ RLe R0 R' ∧ Mem w0 w' R' E' ∧ Post R' E' u') e a ({ c0 with mode := u' } :: cs) w) .ret n env w0 R E := fun a w hk hm =>
 ⟨by rw [hk.defers]; unfold dsOf; rw [hds], u', rfl, .tuple #[], by unfold results; simp [hr], .tuple #[], R, E, rfl, hR, hm, hp⟩
theorem WE.endDR {fn : Func} {c0 : Frame} {cs : List Frame} {u' : FrameMode} {R0 : Ro} {Post : Ro → List Ent → FrameMode → Prop} (hr : fn.results = #[]) (hR : RLe R0 R) (hp : Post R E u') (hds : markOf env = none := by rfl) :
  WE (fun e a w => bodyPostS P fn c0 cs (fun e u' w' => ∃ v R' E', e = .returned v ∧ RLe R0 R' ∧ Mem w0 w' R' E' ∧ Post R' E' u') e a ({ c0 with mode := u' } :: cs) w) .normal n env w0 R E := fun a w hk hm =>
 ⟨by rw [hk.defers]; unfold dsOf; rw [hds], u', rfl, .tuple #[], by unfold results; simp [hr], .tuple #[], R, E, rfl, hR, hm, hp⟩
end
end Go.Proofs.YtmidibkljoaoiaaGreatDoor.K

/- A deferred closure's contract made weaker; an interface against nil; a value out of an interface. No condition. -/
namespace Go.Proofs.YtmidibkljoaoiaaGreatDoor.K
open Go Go.RowKit
section
variable {P : Program} {T : Tab} {n : Nat} {env : Env} {w0 : World} {R : Ro} {E : List Ent} {o : Oper} {pc p : Bool}
theorem FnDR.mono {f : FuncId} {args : List Value} {u : FrameMode} {Post Post' : Ro → List Ent → FrameMode → Prop} (h : FnDR P f args w0 R E u Post) (hp : ∀ R' E' u', RLe R R' → Post R' E' u' → Post' R' E' u') : FnDR P f args w0 R E u Post' := by
 intro w hm c cs hc
 obtain ⟨e, u', w', fr, ⟨v, R', E', he, hR, hm', hq⟩, h2, h3, h4⟩ := h w hm c cs hc
 exact ⟨e, u', w', fr, ⟨v, R', E', he, hR, hm', hp _ _ _ hR hq⟩, h2, h3, h4⟩
theorem Yl.eqNilI {t t' x y} {v : Value} {r : Bool} (hu : P.underlying t = some (.interface (P.methodsAt t))) (ho : o.op = .binOp .eql t x y t') (hc : y = .const .nilIface) (hx : ev env x = some (p, v))
  (hpq : pc = true → p = true) (hv : (v = .nilIface ∧ r = true) ∨ ((∃ u z, v = .iface u z) ∧ r = false)) : Yl P n env w0 R E o pc (.bool r) := by
 intro ac w hkn hm hp
 subst hc
 have hy : ac.eval (.const .nilIface) = .nilIface := rfl
 unfold execOp
 rcases hv with ⟨rfl, rfl⟩ | ⟨⟨u, z, rfl⟩, rfl⟩
 ·have e := run_equal_nil_nil w t hu
  simp [ho, hkn.ev hx (hpq hp), hy, eqGuard, binOp, e]
 ·have e := run_equal_held_nil w t u z hu
  simp [ho, hkn.ev hx (hpq hp), hy, eqGuard, binOp, e]
theorem Yl.assert {t xt : TypeId} {x : Operand} {u v : Value} (ho : o.op = .typeAssert x xt t true) (hx : ev env x = some (p, u)) (hr : ∀ w, (Instr.typeAssert u xt t true).run P w = .ok v w) (hpq : pc = true → p = true) : Yl P n env w0 R E o pc v := by
 intro ac w hkn hm hp
 unfold execOp
 simp [ho, hkn.ev hx (hpq hp), hr w]
end
end Go.Proofs.YtmidibkljoaoiaaGreatDoor.K

/- Regions of which an order is drawn and in which a call may panic. No condition. -/
namespace Go.Proofs.YtmidibkljoaoiaaGreatDoor.K
open Go Go.RowKit
section
variable {P : Program} {n : Nat} {env : Env} {w0 : World} {R : Ro} {E : List Ent} {Q : Exit → Act → World → Prop} {o : Oper} {ops : List Oper} {ES : List Ent} {R0 : Ro} {fuel : Nat} {listed : Array Bool}
/-- at a panic: nothing is deferred, and Q whatever the frame's places hold -/
def OnP (n : Nat) (Q : Exit → Act → World → Prop) : Exit → Act → World → Prop
  | .panic c, a, w => a.defers = [] ∧ a.tmps.size = n ∧ ∀ a' : Act, a'.defers = [] → a'.tmps.size = n → Q (.panic c) a' w
  | e, a, w => Q e a w
theorem OnP.imp : ∀ (e : Exit) (a : Act) (w : World), OnP n Q e a w → Q e a w := fun e a w h => by
 cases e <;> first | exact h | exact h.2.2 a h.1 h.2.1
theorem OnP.of : ∀ (e : Exit) (a : Act) (w : World), NoPanic Q e a w → OnP n Q e a w := fun e a w h => by
 cases e <;> first | exact h | exact (h : False).elim
theorem wp_monoQ {Q' : Exit → Act → World → Prop} (h : ∀ e a w, Q e a w → Q' e a w) {a : Act} {w : World} {K : Act → World → Prop} (hh : o.wp P a w K Q) : o.wp P a w K Q' := by
 unfold Oper.wp at *
 generalize (execOp a.eval o).run P w = r at *
 have hl : LetsOut Q → LetsOut Q' := fun ⟨a, w, hq⟩ => ⟨a, w, h _ _ _ hq⟩
 cases r with
 | ok n w' =>
  cases n <;> simp only [Oper.upon] at hh ⊢ <;>
   first
    | exact hh
    | exact Calls.mono hh (fun e w'' he => by cases e <;> first | exact he | exact h _ _ _ he | exact hl he)
 | halt x w' => cases x <;> simp only [Oper.upon] at hh ⊢ <;> first | exact hh | exact h _ _ _ hh
theorem wpOp_monoQ {Q' : Exit → Act → World → Prop} (h : ∀ e a w, Q e a w → Q' e a w) {l : Array Oper} {i : Nat} {a : Act} {w : World} {K : Act → World → Prop} (hh : wpOp P l Q i K a w) : wpOp P l Q' i K a w := by
 have hl : LetsOut Q → LetsOut Q' := fun ⟨a, w, hq⟩ => ⟨a, w, h _ _ _ hq⟩
 unfold wpOp at *
 split
 ·rename_i ho; simp only [ho] at hh; exact hh
 ·rename_i o ho
  simp only [ho] at hh
  split
  ·rename_i hw; simp only [hw, if_true] at hh; exact hh.imp (wp_monoQ h) (fun ⟨x, y⟩ => ⟨x, hl y⟩)
  ·rename_i hw; simp only [hw] at hh; exact hh
theorem wpAnyH_monoQ {Q' : Exit → Act → World → Prop} (h : ∀ e a w, Q e a w → Q' e a w) {l : Array Oper} {S : World → Prop} : ∀ (fuel : Nat) (listed : Array Bool) (a : Act) (w : World), wpAnyH P .any l Q S fuel listed a w → wpAnyH P .any l Q' S fuel listed a w
 | 0, _, _, _, hh => ⟨hh.1, h _ _ _ hh.2⟩
 | fuel + 1, _, _, _, hh => ⟨fun hr => h _ _ _ (hh.1 hr), fun i hi => wpOp_monoQ h (wpOp_mono (fun a' w' h' => ⟨h'.1, wpAnyH_monoQ h fuel _ a' w' h'.2⟩) (hh.2 i hi))⟩
def WAX (P : Program) (ops : List Oper) (Q : Exit → Act → World → Prop) (ES : List Ent) (R0 : Ro) (w0 : World) (fuel : Nat) (listed : Array Bool) (n : Nat) (env : Env) (R : Ro) (E : List Ent) : Prop :=
  ∀ a w, Kn n env a → Mem w0 w R E → wpAnyH P .any ops.toArray (OnP n Q) (fun w => Mem w0 w R0 ES) fuel listed a w
def WSX (P : Program) (ops : List Oper) (Q : Exit → Act → World → Prop) (ES : List Ent) (R0 : Ro) (w0 : World) (fuel : Nat) (listed : Array Bool) (n : Nat) (env : Env) (R : Ro) (E : List Ent) (i : Nat) : Prop :=
  ∀ a w, Kn n env a → Mem w0 w R E → wpOp P ops.toArray (OnP n Q) i (fun a' w' => Mem w0 w' R0 ES ∧ wpAnyH P .any ops.toArray (OnP n Q) (fun w => Mem w0 w R0 ES) fuel (listed.setIfInBounds i true) a' w') a w
theorem W.regionX (id : Nat) {l : List Oper} {ES : List Ent} (hm : P.follows .mixedOrders = true)
  (h : WAX P l Q ES R w0 l.toArray.size (Array.replicate l.toArray.size false) n env R E) : W P (.region id l.toArray true) Q n env w0 R E := by
 intro a w hk hw
 refine Code.wp_mono (Q := OnP n Q) OnP.imp (wp_region_held (S := fun w => Mem w0 w R ES) hm ?_)
 exact h a _ hk hw.drew
theorem WAX.of (h : WA P ops Q ES R0 w0 fuel listed n env R E) : WAX P ops Q ES R0 w0 fuel listed n env R E := fun a w hk hm => wpAnyH_monoQ OnP.of _ _ _ _ (h a w hk hm)
theorem WAX.take {v : Value} {d : Nat} {pc : Bool} (i : Nat) (hi : ops.toArray[i]? = some o) (hs : Region.noSelect ops.toArray = true) (hf : Region.free .any ops.toArray listed i = true) (hr : (Region.ready .any ops.toArray listed).contains i = true)
  (hg : gpc ops env o = some pc) (hd : o.dst = some d) (hdn : d < n) (hy : Yl P n env w0 R0 ES o pc v) (hsub : ES.Sublist E) (hR : RLe R0 R)
  (h : WAX P ops Q ES R0 w0 fuel (listed.setIfInBounds i true) n ((d, pc, v) :: env) R E) : WAX P ops Q ES R0 w0 (fuel + 1) listed n env R E := by
 intro a w hk hm
 have hput := hk.put hdn pc v
 refine wpAnyH_take (v := if pc then v else undef) hi hs hf hr (fun c a' w' h' => ?_) ?_ (hm.sub hR hsub) ?_
 ·obtain ⟨h1, h2, h3⟩ := h'
  refine ⟨?_, ?_, h3⟩
  ·unfold Act.put at h1; cases hdd : o.dst <;> simp only [hdd] at h1 <;> exact h1
  ·unfold Act.put at h2; cases hdd : o.dst <;> simp only [hdd] at h2 <;> simpa using h2
 ·cases pc with
  | true => exact .inl ⟨hk.wanted hg, fun w hm => by simpa using hy a w hk hm rfl⟩
  | false => exact .inr ⟨hk.wanted hg, rfl⟩
 ·rw [hd]
  exact h _ _ hput hm
theorem WAX.br2 {i j : Nat} (hr : Region.ready .any ops.toArray listed = [i, j]) (h1 : WSX P ops Q ES R0 w0 fuel listed n env R E i) (h2 : WSX P ops Q ES R0 w0 fuel listed n env R E j) : WAX P ops Q ES R0 w0 (fuel + 1) listed n env R E := by
 intro a w hk hm
 refine wpAnyH_all hr (by simp) fun m hm' => ?_
 rcases List.mem_cons.1 hm' with rfl | hm'
 ·exact h1 a w hk hm
 ·obtain rfl : m = j := by simpa using hm'
  exact h2 a w hk hm
theorem WAX.one {i : Nat} (hr : Region.ready .any ops.toArray listed = [i]) (h1 : WSX P ops Q ES R0 w0 fuel listed n env R E i) : WAX P ops Q ES R0 w0 (fuel + 1) listed n env R E := by
 intro a w hk hm
 refine wpAnyH_all hr (by simp) fun m hm' => ?_
 obtain rfl : m = i := by simpa using hm'
 exact h1 a w hk hm
theorem WSX.yl {v : Value} {d : Nat} {i : Nat} (hi : ops.toArray[i]? = some o) (hg : o.guard = none) (hd : o.dst = some d) (hdn : d < n) (hy : Yl P n env w0 R E o true v) (hsub : ES.Sublist E) (hR : RLe R0 R)
  (h : WAX P ops Q ES R0 w0 fuel (listed.setIfInBounds i true) n ((d, true, v) :: env) R E) : WSX P ops Q ES R0 w0 fuel listed n env R E i := by
 intro a w hk hm
 unfold wpOp
 rw [hi]
 simp only [Region.wanted, hg, if_true]
 left
 unfold Oper.wp
 rw [hy a w hk hm rfl]
 simp only [Oper.upon, hd]
 exact ⟨hm.sub hR hsub, h _ _ (hk.putT hdn v) hm⟩
theorem WSX.callXAt {d : Nat} {f : FuncId} {vs : List Value} {e : Ent} {Post : Value → Ro → Ent → List Ent → Prop} {PX : Value → Ro → Ent → Prop} (k : Nat) {i : Nat} (hi : ops.toArray[i]? = some o) (hf : Enters P f) (hg : o.guard = none) (hd : o.dst = some d) (hdn : d < n)
  (hc : CallOp env o.op true f vs) (hE : E[k]? = some e)
  (hv : FnX P f vs w0 R (e :: E.eraseIdx k) (fun v R' E' => ∃ e' N, E' = N ++ e' :: E.eraseIdx k ∧ Post v R' e' N) (fun v R' E' => ∃ e', E' = e' :: E.eraseIdx k ∧ PX v R' e'))
  (hx : ∀ v R' e', RLe R R' → PX v R' e' → WE Q (.panic [{ v := v, recovered := false }]) n [] w0 R' (E.set k e'))
  (h : ∀ v R' e' N, RLe R R' → Post v R' e' N → RLe R0 R' ∧ ES.Sublist (N ++ E.set k e') ∧ WA P ops Q ES R0 w0 fuel (listed.setIfInBounds i true) n ((d, true, v) :: env) R' (N ++ E.set k e')) (hds : markOf env = none := by rfl) : WSX P ops Q ES R0 w0 fuel listed n env R E i := by
 intro a w hk hm
 unfold wpOp
 rw [hi]
 simp only [Region.wanted, hg, if_true]
 left
 unfold Oper.wp
 rw [run_call hk hc rfl hf]
 refine (hv w (hm.perm (perm_get hE))).mono ?_
 rintro e0 w' (⟨v, R', E', rfl, hR, hm', e', N, rfl, hp⟩ | ⟨v, R', E', rfl, hR, hm', e', rfl, hp⟩)
 ·obtain ⟨g1, g2, g3⟩ := h v R' e' N hR hp
  have hm2 := hm'.perm ((perm_set e' hE).append_left N)
  simp only [hd]
  exact ⟨hm2.sub g1 g2, wpAnyH_monoQ OnP.of _ _ _ _ (g3 _ _ (hk.putT hdn v) hm2)⟩
 ·refine ⟨by rw [hk.defers]; unfold dsOf; rw [hds], hk.size, fun a' h1 h2 => hx v R' e' hR hp a' w' ⟨h2, hk.small, by rw [h1]; rfl, fun t p v ht => by cases ht⟩ (hm'.perm (perm_set e' hE))⟩
end
end Go.Proofs.YtmidibkljoaoiaaGreatDoor.K

/- The reader of words beside the plain reading of a text. Plain. No condition. -/
namespace Go.Proofs.YtmidibkljoaoiaaGreatDoor.M
open Go Go.Proofs.YtmidibkljoaoiaaGreatDoor.K
/-- how many bytes the words that are left take -/
def remL : List (List UInt8) → Nat
  | [] => 0
  | w :: ws => w.length + 1 + remL ws
theorem remL_spl : ∀ s : List UInt8, remL (spl s) = s.length + 1
 | [] => rfl
 | c :: s => by
  have ih := remL_spl s
  unfold spl
  split
  ·show 0 + 1 + remL (spl s) = _; rw [ih, List.length_cons]; omega
  ·cases h : spl s with
   | nil => exact absurd h (spl_ne s)
   | cons w ws =>
    rw [h] at ih
    show w.length + 1 + 1 + remL ws = _
    have : w.length + 1 + remL ws = s.length + 1 := ih
    rw [List.length_cons]; omega
theorem remL_len : ∀ ws : List (List UInt8), ws.length ≤ remL ws
 | [] => Nat.le_refl 0
 | w :: ws => by have := remL_len ws; show ws.length + 1 ≤ w.length + 1 + remL ws; omega
theorem remL_mem {w : List UInt8} : ∀ {ws : List (List UInt8)}, w ∈ ws → w.length ≤ remL ws
 | [], h => by cases h
 | v :: ws, h => by
  show _ ≤ v.length + 1 + remL ws
  rcases List.mem_cons.1 h with rfl | h
  ·omega
  ·have := remL_mem h; omega
/-- where reading stands: what is left -/
structure Rdr (size : Nat) (ws : List (List UInt8)) (wh : Nat) (vals : List Int) (per inc : Int) (at' k : Nat) : Prop where
  go : parseGo size 0 [] 0 0 0 ws = parseGo size wh vals per inc at' (ws.drop k)
  le : k ≤ ws.length
  rem : at' + remL (ws.drop k) ≤ 10000
  len : vals.length ≤ k
theorem Rdr.start {size : Nat} {ws : List (List UInt8)} (h : remL ws ≤ 10000) : Rdr size ws 0 [] 0 0 0 0 := ⟨rfl, Nat.zero_le _, by rw [List.drop_zero]; omega, Nat.le_refl _⟩
section
variable {size : Nat} {ws : List (List UInt8)} {wh : Nat} {vals : List Int} {per inc : Int} {at' k : Nat}
theorem Rdr.eof (h : Rdr size ws wh vals per inc at' k) (hk : ¬ k < ws.length) (hw : wh ≠ 5) : parseGo size 0 [] 0 0 0 ws = (zcv, size, 4) := by
 rw [h.go, List.drop_eq_nil_of_le (by omega), parseGo, if_neg hw]
theorem Rdr.fin (h : Rdr size ws 5 vals per inc at' k) (hk : ¬ k < ws.length) : parseGo size 0 [] 0 0 0 ws = (⟨vals, per, inc⟩, 0, 0) := by
 rw [h.go, List.drop_eq_nil_of_le (by omega), parseGo, if_pos rfl]
theorem Rdr.cons (h : Rdr size ws wh vals per inc at' k) (hk : k < ws.length) : parseGo size 0 [] 0 0 0 ws = parseGo size wh vals per inc at' (nth ws k :: ws.drop (k + 1)) ∧ at' + (nth ws k).length + 1 + remL (ws.drop (k + 1)) ≤ 10000 := by
 have e : ws.drop k = nth ws k :: ws.drop (k + 1) := by rw [nth_eq hk]; exact List.drop_eq_getElem_cons hk
 have h1 := h.go
 have h2 := h.rem
 rw [e] at h1 h2
 exact ⟨h1, by have : remL (nth ws k :: ws.drop (k + 1)) = (nth ws k).length + 1 + remL (ws.drop (k + 1)) := rfl; omega⟩
theorem Rdr.at_le (h : Rdr size ws wh vals per inc at' k) : k < ws.length → at' + (nth ws k).length ≤ 2000000 := fun hk => by have := (h.cons hk).2; omega
theorem Rdr.infS (h : Rdr size ws wh vals per inc at' k) (hk : k < ws.length) (hw : wh ≤ 1) (e : nth ws k = wInf) : Rdr size ws 1 (vals ++ [INF]) per inc (at' + (nth ws k).length + 1) (k + 1) := by
 obtain ⟨h1, h2⟩ := h.cons hk
 have h3 := h.len
 refine ⟨?_, by omega, h2, by rw [List.length_append]; show _ + 1 ≤ _; omega⟩
 rw [h1, parseGo, if_pos ⟨hw, e⟩]
theorem Rdr.perS (h : Rdr size ws 1 vals per inc at' k) (hk : k < ws.length) (e : nth ws k = wPer) : Rdr size ws 2 vals per inc (at' + (nth ws k).length + 1) (k + 1) := by
 obtain ⟨h1, h2⟩ := h.cons hk
 have h3 := h.len
 refine ⟨?_, by omega, h2, by omega⟩
 rw [h1, parseGo, if_neg (fun hh => by rw [e] at hh; exact absurd hh.2 (by decide)), if_pos ⟨rfl, e⟩]
theorem Rdr.incS (h : Rdr size ws 3 vals per inc at' k) (hk : k < ws.length) (e : nth ws k = wInc) : Rdr size ws 4 vals per inc (at' + (nth ws k).length + 1) (k + 1) := by
 obtain ⟨h1, h2⟩ := h.cons hk
 have h3 := h.len
 refine ⟨?_, by omega, h2, by omega⟩
 rw [h1, parseGo, if_neg (fun hh => absurd hh.1 (by decide)), if_neg (fun hh => absurd hh.1 (by decide)), if_pos ⟨rfl, e⟩]
theorem Rdr.incErr (h : Rdr size ws 3 vals per inc at' k) (hn : (wordE ws wInc k at' size).2 ≠ 0) : parseGo size 0 [] 0 0 0 ws = (zcv, wordE ws wInc k at' size) := by
 unfold wordE at hn ⊢
 by_cases hk : k < ws.length
 ·rw [if_pos hk] at hn ⊢
  by_cases e : nth ws k = wInc
  ·rw [if_pos e] at hn; exact absurd rfl hn
  ·rw [if_neg e]
   rw [(h.cons hk).1, parseGo, if_neg (fun hh => absurd hh.1 (by decide)), if_neg (fun hh => absurd hh.1 (by decide)), if_neg (fun hh => e hh.2), if_neg (fun hh => hh.2.1 rfl)]
 ·rw [if_neg hk, h.eof hk (by decide)]
/-- a number is read -/
theorem Rdr.numOk (h : Rdr size ws wh vals per inc at' k) (hk : k < ws.length) (hn : numE ws k at' size = (0, 0)) : digs (nth ws k) = true ∧ ¬ 1073741824 < numV (nth ws k) := by
 unfold numE at hn
 rw [if_pos hk] at hn
 by_cases hd : digs (nth ws k) = true
 ·rw [if_pos hd] at hn
  by_cases hb : 1073741824 < numV (nth ws k)
  ·rw [if_pos hb] at hn; cases hn
  ·exact ⟨hd, hb⟩
 ·rw [if_neg hd] at hn; cases hn
theorem digs_ne {w : List UInt8} (h : digs w = true) : w ≠ wInf ∧ w ≠ wPer ∧ w ≠ wInc :=
 ⟨fun e => (by rw [e, wInf_no] at h; cases h), fun e => (by rw [e, wPer_no] at h; cases h), fun e => (by rw [e, wInc_no] at h; cases h)⟩
theorem Rdr.step (h : Rdr size ws wh vals per inc at' k) (hk : k < ws.length) (hd : digs (nth ws k) = true) (hb : ¬ 1073741824 < numV (nth ws k)) (hw : wh ≠ 3 ∧ wh ≠ 5) :
  parseGo size 0 [] 0 0 0 ws = if wh = 2 then parseGo size 3 vals (numV (nth ws k)) inc (at' + (nth ws k).length + 1) (ws.drop (k + 1))
   else if wh = 4 then parseGo size 5 vals per (numV (nth ws k)) (at' + (nth ws k).length + 1) (ws.drop (k + 1))
   else parseGo size 1 (vals ++ [(numV (nth ws k) : Int)]) per inc (at' + (nth ws k).length + 1) (ws.drop (k + 1)) := by
 obtain ⟨n1, n2, n3⟩ := digs_ne hd
 rw [(h.cons hk).1, parseGo, if_neg (fun hh => n1 hh.2), if_neg (fun hh => n2 hh.2), if_neg (fun hh => n3 hh.2), if_pos ⟨hd, hw⟩, if_neg hb]
theorem Rdr.val (h : Rdr size ws wh vals per inc at' k) (hk : k < ws.length) (hw : wh ≤ 1) (hn : numE ws k at' size = (0, 0)) : Rdr size ws 1 (vals ++ [(numV (nth ws k) : Int)]) per inc (at' + (nth ws k).length + 1) (k + 1) := by
 obtain ⟨hd, hb⟩ := h.numOk hk hn
 have h3 := h.len
 exact ⟨by rw [h.step hk hd hb (by omega), if_neg (by omega), if_neg (by omega)], by omega, (h.cons hk).2, by rw [List.length_append]; show _ + 1 ≤ _; omega⟩
theorem Rdr.num2 (h : Rdr size ws 2 vals per inc at' k) (hk : k < ws.length) (hn : numE ws k at' size = (0, 0)) : Rdr size ws 3 vals (numV (nth ws k)) inc (at' + (nth ws k).length + 1) (k + 1) := by
 obtain ⟨hd, hb⟩ := h.numOk hk hn
 have h3 := h.len
 exact ⟨by rw [h.step hk hd hb (by omega), if_pos rfl], by omega, (h.cons hk).2, by omega⟩
theorem Rdr.num4 (h : Rdr size ws 4 vals per inc at' k) (hk : k < ws.length) (hn : numE ws k at' size = (0, 0)) : Rdr size ws 5 vals per (numV (nth ws k)) (at' + (nth ws k).length + 1) (k + 1) := by
 obtain ⟨hd, hb⟩ := h.numOk hk hn
 have h3 := h.len
 exact ⟨by rw [h.step hk hd hb (by omega), if_neg (by omega), if_pos rfl], by omega, (h.cons hk).2, by omega⟩
/-- a number that is not read -/
theorem Rdr.numErr (h : Rdr size ws wh vals per inc at' k) (hw : wh ≠ 3 ∧ wh ≠ 5) (h1 : k < ws.length → wh ≤ 1 → nth ws k ≠ wInf) (h2 : k < ws.length → wh = 1 → nth ws k ≠ wPer) (hn : (numE ws k at' size).2 ≠ 0) : parseGo size 0 [] 0 0 0 ws = (zcv, numE ws k at' size) := by
 unfold numE at hn ⊢
 by_cases hk : k < ws.length
 ·rw [if_pos hk] at hn ⊢
  by_cases hd : digs (nth ws k) = true
  ·rw [if_pos hd] at hn ⊢
   by_cases hb : 1073741824 < numV (nth ws k)
   ·rw [if_pos hb]
    obtain ⟨n1, n2, n3⟩ := digs_ne hd
    rw [(h.cons hk).1, parseGo, if_neg (fun hh => n1 hh.2), if_neg (fun hh => n2 hh.2), if_neg (fun hh => n3 hh.2), if_pos ⟨hd, hw⟩, if_pos hb]
   ·rw [if_neg hb] at hn; exact absurd rfl hn
  ·rw [if_neg hd]
   rw [(h.cons hk).1, parseGo, if_neg (fun hh => h1 hk hh.1 hh.2), if_neg (fun hh => h2 hk hh.1 hh.2), if_neg (fun hh => hw.1 hh.1), if_neg (fun hh => hd hh.1)]
 ·rw [if_neg hk, h.eof hk hw.2]
/-- a word too much -/
theorem Rdr.more (h : Rdr size ws 5 vals per inc at' k) (hk : k < ws.length) : parseGo size 0 [] 0 0 0 ws = (zcv, at', 4) := by
 rw [(h.cons hk).1, parseGo, if_neg (fun hh => absurd hh.1 (by decide)), if_neg (fun hh => absurd hh.1 (by decide)), if_neg (fun hh => absurd hh.1 (by decide)), if_neg (fun hh => hh.2.2 rfl)]
end
def whV (vs : List Int) : Nat := if vs = [] then 0 else 1
theorem whV_le (vs : List Int) : whV vs ≤ 1 := by unfold whV; split <;> omega
theorem whV_snoc (vs : List Int) (v : Int) : whV (vs ++ [v]) = 1 := if_neg (by simp)
end Go.Proofs.YtmidibkljoaoiaaGreatDoor.M

/- The reader of words: a curve. No condition. -/
set_option maxRecDepth 4000
set_option linter.unusedSimpArgs false
set_option linter.unusedVariables false
namespace Go.Proofs.YtmidibkljoaoiaaGreatDoor
open Go Go.RowKit Go.Proofs.YtmidibkljoaoiaaGreatDoor.K Go.Proofs.YtmidibkljoaoiaaGreatDoor.M

set_option maxHeartbeats 2000000 in
theorem CurveR_C {R : Ro} {b : Nat} {a : Option Addr} {cp : Nat} {ws : List (List UInt8)} {size : Nat} (w0 : World) (hws : RS R 1 encT a ws) (hsz : size ≤ 1000000) (hG : GlobE R) (hrm : remL ws ≤ 10000) (F : List Ent) : FnX Tryz.prog 103 [.pointer (some ⟨b, 0, none⟩)] w0 R (rdE b a cp ws 0 0 size :: F) (fun v R' E' => ∃ (c : Cv) (f : Option Addr) (fc : Nat), v = .agg #[.slice f c.vals.length fc, .int .i64 c.per, .int .i64 c.inc] ∧ RS R' 1 encI f c.vals ∧ c.vals.length ≤ fc ∧ c.vals.length ≤ 10000 ∧ parseGo size 0 [] 0 0 0 ws = (c, 0, 0) ∧ F.Sublist E') (fun v R' E' => ∃ (p : Nat) (e : Int), v = failV p e ∧ parseGo size 0 [] 0 0 0 ws = (zcv, p, e) ∧ e ≠ 0 ∧ F.Sublist E') := by
 have hwl := hws.len
 have hlw : ∀ w ∈ ws, w.length ≤ 1000000 := fun w hw => by have := remL_mem hw; omega
 have hwn := remL_len ws
 refine FnX.enter (n := 55) Tryz.func103 rfl rfl (Nat.le_of_ble_eq_true rfl) rfl ?_
 refine zQ (zG ?_)
 refine zA fun b2 => ?_
 refine zN (zU ?_)
 refine W.nil 3 1 qD ?_
 refine zQ (zG ?_)
 refine zA fun b3 => ?_
 refine zN (zU (zQ (zB ?_)))
 refine W.loopK (β := List Int × Option Addr × Nat × Nat × Nat) (fun (vs, a9, c9, k, p) => Rdr size ws (whV vs) vs 0 0 p k) (fun (vs, a9, c9, k, p) => []) [0, 2, 3] [_, _, _] [] _ rfl (fun (vs, a9, c9, k, p) => [(0, .blk b3 [.slice a9 (vs).length c9, .int .i64 0, .int .i64 0]), (1, .sl 3 1 a9 c9 ((vs).map encI)), (3, rdE b a cp ws k p size)]) (fun (vs, a9, c9, k, p) => ws.length - k) (([], none, 0, 0, 0)) (Rdr.start hrm) ⟨rfl, rfl, rfl, rfl⟩ qS ?_
 intro zz hst
 obtain ⟨vs, a9, c9, k, p⟩ := zz
 dsimp only [zipE, setAll, List.cons_append, List.nil_append, List.set_cons_zero, List.set_cons_succ] at hst ⊢
 have hr := hst
 have hw1 := whV_le vs
 have hvl := hr.len
 have hkl := hr.le
 refine zQ (zQ (zG (zR 1 rfl ?_)))
 refine WL.callXAt 3 en110 rfl rfl qD (CallOp.mkT rfl rfl rfl rfl) rfl (Need_C w0 hws hsz _) ?_ ?_
 ·
  rintro _ _ _ - ⟨rfl, hk, rfl, rfl⟩
  refine WE.then_panic ?_
  refine WE.then_panic ?_
  refine WE.then_panic ?_
  refine WE.blk_panic ?_
  refine WE.then_panic ?_
  refine WE.panicX (by first | exact RLe.refl _ | exact hR1) ?_
  exact ⟨_, _, rfl, hr.eof hk qO, by decide, qS⟩
 rintro _ _ _ _ - ⟨rfl, hk, rfl, rfl, rfl⟩
 refine WG.y rfl rfl qD (Yl.neS rfl rfl rfl (fun _ => rfl)) ?_
 refine zR 1 rfl ?_
 refine yP ?_
 refine yG (Rd.addC (Rd.blkC 0 rfl) _) ?_
 refine yP ?_
 refine yP ?_
 refine yO ?_
 refine zN (zU ?_)
 refine W.cond rfl (fun hc0 => ?_) (fun hc0 => ?_)
 ·try simp only [zk] at hc0
  have hnp : whV vs = 1 → nth ws k ≠ wPer := fun h e => by
   rcases hc0 with h0 | h0
   ·exact h0 (by rw [e]; rfl)
   ·have : vs = [] := List.eq_nil_of_length_eq_zero (by omega)
    rw [this] at h; cases h
  refine zK (zU (zB (zQ (zQ (zG (zR 1 rfl ?_))))))
  refine WL.callXAt 3 en110 rfl rfl qD (CallOp.mkT rfl rfl rfl rfl) rfl (Need_C w0 hws hsz _) ?_ ?_
  ·
   rintro _ _ _ - ⟨rfl, hk, rfl, rfl⟩
   refine WE.then_panic ?_
   refine WE.then_panic ?_
   refine WE.blk_panic ?_
   refine WE.then_panic ?_
   refine WE.blk_panic ?_
   refine WE.then_panic ?_
   refine WE.panicX (by first | exact RLe.refl _ | exact hR1) ?_
   exact ⟨_, _, rfl, hr.eof hk qO, by decide, qS⟩
  rintro _ _ _ _ - ⟨rfl, hk, rfl, rfl, rfl⟩
  refine WG.y rfl rfl qD (Yl.eqS rfl rfl rfl (fun _ => rfl)) ?_
  refine zN (zU ?_)
  refine W.cond rfl (fun hc1 => ?_) (fun hc1 => ?_)
  ·try simp only [zk] at hc1
   have hinf : nth ws k = wInf := str_inj (b := wInf) hc1
   refine zQ (zG (zR 1 rfl ?_))
   refine yL (Rd.add (Rd.blk 0 rfl) _) ?_
   refine WL.ef rfl rfl qD (Ef.buildSliceD (enc := encI) (parts := [.const (.int .i64 4611686018427387904)]) [_] tab_ok rfl rfl rfl rfl rfl rfl rfl rfl qD qD (fun a20 => ?_))
   refine WL.ef rfl rfl (by decide) (Ef.appendD 2 0 tab_ok rfl rfl rfl rfl rfl rfl rfl rfl rfl rfl rfl (fun _ _ => rfl) (by simp only [List.length_cons, List.length_nil]; omega) (by simp only [List.length_cons, List.length_nil]; omega) (fun a21 c21 ha21 => ?_))
   refine zR 1 rfl ?_
   refine zF 1 ?_
   refine zN (zU (zQ (zG (zR 1 rfl ?_))))
   refine WL.callAt 4 en111 rfl rfl qD (CallOp.mkT rfl rfl rfl rfl) rfl (Skip_C w0 hws hsz hk (hr.at_le hk) _) ?_
   rintro _ _ _ _ - ⟨rfl, rfl, rfl, rfl⟩
   refine zN (zU ?_)
   refine zX ?_
   refine wx (zY ?_)
   refine WE.again ((vs ++ [INF], a21, c21, k + 1, p + (nth ws k).length + 1)) (by (try dsimp only); rw [whV_snoc]; exact hr.infS hk hw1 hinf) (by (try dsimp only); omega) ⟨rfl, rfl, rfl, rfl⟩ (RLe.refl _) qS
  ·try simp only [zk] at hc1
   have hinf : nth ws k ≠ wInf := fun e => hc1 (by rw [e]; rfl)
   refine zK (zU ?_)
   refine W.regionX _ (ES := []) mixed ?_
   refine WAX.take 0 rfl qK qK qK rfl rfl qD (pureV_ok tab_ok rfl (fun _ => rfl)) qS qR ?_
   refine WAX.take 2 rfl qK qK qK rfl rfl qD (pureV_ok tab_ok rfl (fun _ => rfl)) qS qR ?_
   refine WAX.br2 (i := 1) (j := 3) qK ?_ ?_
   ·
    refine' WSX.yl rfl rfl rfl qD (Yl.load1 tab_ok rfl rfl rfl (fun _ => rfl) ?r3 rfl ?h3) qS qR ?_
    case r3 => apply Rd.add; (exact Rd.blk 0 rfl)
    case h3 => rfl
    refine WAX.one (i := 3) qK ?_
    first | refine WSX.callXAt 3 rfl en112 rfl rfl qD (CallOp.mkT rfl rfl rfl rfl) rfl (Number_C w0 hws hsz hG hlw hr.at_le _) ?_ ?_
    ·
     rintro _ _ _ - ⟨rfl, hn, rfl, rfl⟩
     refine WE.blk_panic ?_
     refine WE.then_panic ?_
     refine WE.blk_panic ?_
     refine WE.then_panic ?_
     refine WE.panicX (by first | exact RLe.refl _ | exact hR1) ?_
     exact ⟨_, _, rfl, hr.numErr qO (fun _ _ => hinf) (fun _ h => hnp h) hn, hn, qS⟩
    rintro _ _ _ _ - ⟨rfl, hk2, hn2, rfl, rfl, rfl⟩
    refine ⟨RLe.refl _, List.nil_sublist _, ?_⟩
    refine WA.eff 4 rfl qK rfl rfl qD (Ef.buildSliceD (enc := encI) (parts := [.tmp 28]) [_] tab_ok rfl rfl rfl rfl rfl rfl rfl rfl qD qD (fun a29 => ?_))
    refine ⟨qR, qS, ?_⟩
    refine WA.eff 5 rfl (by kernel_rfl) rfl rfl (by decide) (Ef.appendD 2 0 tab_ok rfl rfl rfl rfl rfl rfl rfl rfl rfl rfl rfl (fun _ _ => rfl) (by simp only [List.length_cons, List.length_nil]; omega) (by simp only [List.length_cons, List.length_nil]; omega) (fun a30 c30 ha30 => ?_))
    refine ⟨qR, qS, ?_⟩
    refine tP 6 ?_
    refine zCF 7 1 ?_
    refine WA.done qK ?_
    refine zL ?_
    refine WE.again ((vs ++ [(numV (nth ws k) : Int)], a30, c30, k + 1, p + (nth ws k).length + 1)) (by (try dsimp only); rw [whV_snoc]; exact hr.val hk hw1 hn2) (by (try dsimp only); omega) ⟨rfl, rfl, rfl, rfl⟩ (RLe.refl _) qS
   ·
    first | refine WSX.callXAt 3 rfl en112 rfl rfl qD (CallOp.mkT rfl rfl rfl rfl) rfl (Number_C w0 hws hsz hG hlw hr.at_le _) ?_ ?_
    ·
     rintro _ _ _ - ⟨rfl, hn, rfl, rfl⟩
     refine WE.blk_panic ?_
     refine WE.then_panic ?_
     refine WE.blk_panic ?_
     refine WE.then_panic ?_
     refine WE.panicX (by first | exact RLe.refl _ | exact hR1) ?_
     exact ⟨_, _, rfl, hr.numErr qO (fun _ _ => hinf) (fun _ h => hnp h) hn, hn, qS⟩
    rintro _ _ _ _ - ⟨rfl, hk2, hn2, rfl, rfl, rfl⟩
    refine ⟨RLe.refl _, List.nil_sublist _, ?_⟩
    refine WA.br2 (i := 1) (j := 4) qK ?_ ?_
    ·
     refine sL (Rd.add (Rd.blk 0 rfl) _) ?_
     refine WA.eff 4 rfl qK rfl rfl qD (Ef.buildSliceD (enc := encI) (parts := [.tmp 28]) [_] tab_ok rfl rfl rfl rfl rfl rfl rfl rfl qD qD (fun a29 => ?_))
     refine ⟨qR, qS, ?_⟩
     refine WA.eff 5 rfl (by kernel_rfl) rfl rfl (by decide) (Ef.appendD 2 0 tab_ok rfl rfl rfl rfl rfl rfl rfl rfl rfl rfl rfl (fun _ _ => rfl) (by simp only [List.length_cons, List.length_nil]; omega) (by simp only [List.length_cons, List.length_nil]; omega) (fun a30 c30 ha30 => ?_))
     refine ⟨qR, qS, ?_⟩
     refine tP 6 ?_
     refine zCF 7 1 ?_
     refine WA.done qK ?_
     refine zL ?_
     refine WE.again ((vs ++ [(numV (nth ws k) : Int)], a30, c30, k + 1, p + (nth ws k).length + 1)) (by (try dsimp only); rw [whV_snoc]; exact hr.val hk hw1 hn2) (by (try dsimp only); omega) ⟨rfl, rfl, rfl, rfl⟩ (RLe.refl _) qS
    ·
     refine WS.eff rfl rfl rfl qD (Ef.buildSliceD (enc := encI) (parts := [.tmp 28]) [_] tab_ok rfl rfl rfl rfl rfl rfl rfl rfl qD qD (fun a29 => ?_))
     refine ⟨qR, qS, ?_⟩
     refine lL 1 (Rd.add (Rd.blk 1 rfl) _) ?_
     refine WA.eff 5 rfl (by kernel_rfl) rfl rfl (by decide) (Ef.appendD 2 0 tab_ok rfl rfl rfl rfl rfl rfl rfl rfl rfl rfl rfl (fun _ _ => rfl) (by simp only [List.length_cons, List.length_nil]; omega) (by simp only [List.length_cons, List.length_nil]; omega) (fun a30 c30 ha30 => ?_))
     refine ⟨qR, qS, ?_⟩
     refine tP 6 ?_
     refine zCF 7 1 ?_
     refine WA.done qK ?_
     refine zL ?_
     refine WE.again ((vs ++ [(numV (nth ws k) : Int)], a30, c30, k + 1, p + (nth ws k).length + 1)) (by (try dsimp only); rw [whV_snoc]; exact hr.val hk hw1 hn2) (by (try dsimp only); omega) ⟨rfl, rfl, rfl, rfl⟩ (RLe.refl _) qS
 ·try simp only [zk] at hc0
  have hper : nth ws k = wPer := str_inj (b := wPer) hc0.1
  have hw : whV vs = 1 := if_neg (fun e => by rw [e] at hc0; exact hc0.2 rfl)
  rw [hw] at hr
  have h2 := hr.perS hk hper
  refine zX ?_
  refine wx (wx (zY (zU (zQ (zG (zR 1 rfl ?_))))))
  refine WL.callAt 3 en111 rfl rfl qD (CallOp.mkT rfl rfl rfl rfl) rfl (Skip_C w0 hws hsz hk (hr.at_le hk) _) ?_
  rintro _ _ _ _ - ⟨rfl, rfl, rfl, rfl⟩
  refine zN (zU (zQ (zG (zR 1 rfl ?_))))
  refine WL.callXAt 3 en112 rfl rfl qD (CallOp.mkT rfl rfl rfl rfl) rfl (Number_C w0 hws hsz hG hlw h2.at_le _) ?_ ?_
  ·
   rintro _ _ _ - ⟨rfl, hn, rfl, rfl⟩
   refine WE.then_panic ?_
   refine WE.panicX (by first | exact RLe.refl _ | exact hR1) ?_
   exact ⟨_, _, rfl, h2.numErr qD (fun _ h => absurd h qD) (fun _ h => absurd h qD) hn, hn, qS⟩
  rintro _ _ _ _ - ⟨rfl, hk2, hn2, rfl, rfl, rfl⟩
  have h3 := h2.num2 hk2 hn2
  refine zR 1 rfl ?_
  refine zF 0 ?_
  refine zN (zU (zQ (zG (zR 1 rfl ?_))))
  refine WL.callXAt 3 en113 rfl rfl qD (CallOp.mkT rfl rfl rfl rfl) rfl (Word_C (want := wInc) w0 hws hsz h3.at_le _) ?_ ?_
  ·
   rintro _ _ _ - ⟨rfl, hn, rfl, rfl⟩
   refine WE.then_panic ?_
   refine WE.panicX (by first | exact RLe.refl _ | exact hR1) ?_
   exact ⟨_, _, rfl, h3.incErr hn, hn, qS⟩
  rintro _ _ _ _ - ⟨rfl, hk3, hwd, rfl, rfl, rfl⟩
  have h4 := h3.incS hk3 hwd
  refine zN (zU (zQ (zG (zR 1 rfl ?_))))
  refine WL.callXAt 3 en112 rfl rfl qD (CallOp.mkT rfl rfl rfl rfl) rfl (Number_C w0 hws hsz hG hlw h4.at_le _) ?_ ?_
  ·
   rintro _ _ _ - ⟨rfl, hn, rfl, rfl⟩
   refine WE.then_panic ?_
   refine WE.panicX (by first | exact RLe.refl _ | exact hR1) ?_
   exact ⟨_, _, rfl, h4.numErr qD (fun _ h => absurd h qD) (fun _ h => absurd h qD) hn, hn, qS⟩
  rintro _ _ _ _ - ⟨rfl, hk4, hn4, rfl, rfl, rfl⟩
  have h5 := h4.num4 hk4 hn4
  refine zR 1 rfl ?_
  refine zF 0 ?_
  refine zN (zU (zQ (zQ (zG (zR 1 rfl ?_)))))
  refine WL.callAt 3 en114 rfl rfl qD (CallOp.mkT rfl rfl rfl rfl) rfl (Peek_C w0 hws hsz _) ?_
  rintro _ _ _ _ - ⟨rfl, rfl, rfl, rfl⟩
  refine zR 5 rfl (zN (zU (zQ (zG (zR 1 rfl (zN (zU ?_)))))))
  refine W.cond rfl (fun hc2 => ?_) (fun hc2 => ?_)
  ·try simp only [zk] at hc2
   have hk5 := hc2
   refine zG (zR 3 rfl ?_)
   refine yL (Rd.add (Rd.blk 3 rfl) _) ?_
   -- build
   refine WG.y rfl rfl qD (Yl.build (parts := [(0, .tmp 51), (1, .const (.int .i64 4))]) tab_ok rfl rfl rfl rfl (fun _ => rfl) rfl rfl) ?_
   refine WG.y rfl rfl qD (Yl.toIface tab_ok rfl rfl rfl rfl (fun _ => rfl)) ?_
   refine WL.panic rfl rfl rfl ?_
   refine WE.then_panic ?_
   refine WE.panicX (by first | exact RLe.refl _ | exact hR1) ?_
   exact ⟨_, _, rfl, h5.more hk5, by decide, qS⟩
  ·try simp only [zk] at hc2
   have hk5 := hc2
   refine zK (zU ?_)
   refine W.cap 1 rfl ?_
   intro hcp
   rw [List.length_map] at hcp
   refine W.freeze (enc := encI) (xs := vs) 1 rfl ?_
   intro R1 hR1 hvs
   refine zQ (zG ?_)
   refine yL (Rd.blk 0 rfl) ?_
   refine zE 1 ?_
   refine zN (zU (zT ?_))
   refine WE.retX tab_ok [_] rfl ⟨⟨_, _, _, rfl, rfl, rfl, qB, rfl⟩, trivial⟩ (by first | exact RLe.refl _ | exact hR1) ?_
   exact ⟨⟨vs, _, _⟩, a9, c9, rfl, hvs, hcp, by dsimp only; omega, h5.fin hk5, qS⟩



theorem nilI20 : Tryz.prog.underlying 20 = some (.interface (Tryz.prog.methodsAt 20)) := by kernel_rfl

theorem ParseD_ret {R : Ro} {x2 x3 x4 : Nat} (w0 : World) (E : List Ent) : FnDR Tryz.prog 102 [.pointer (some ⟨x2, 0, none⟩), .pointer (some ⟨x3, 0, none⟩), .pointer (some ⟨x4, 0, none⟩)] w0 R E .returning (fun R' E' u' => settle u' = .returning ∧ R = R' ∧ E = E') := by
 refine FnDR.enter (n := 22) Tryz.func102 rfl rfl (Nat.le_of_ble_eq_true rfl) rfl ?_
 intro c0 cs hc
 refine WD.seq ?_
 refine WD.region ?_
 refine WDG.recover (v := .nilIface) (cs' := { c0 with mode := .returning } :: cs) rfl rfl rfl qD rfl rfl (by cases c0; cases hc; rfl) ?_
 refine WDG.yl rfl rfl rfl qD (pureV_ok tab_ok rfl (fun _ => rfl)) ?_
 refine WDG.nil ?_
 refine WD.plain ?_
 refine zQ (zQ (zG (zR 1 rfl ?_)))
 refine WG.y rfl rfl qD (Yl.eqNilI nilI20 rfl rfl rfl (fun _ => rfl) (by first | exact .inl ⟨rfl, rfl⟩ | exact .inr ⟨⟨_, _, rfl⟩, rfl⟩)) ?_
 refine zN (zU ?_)
 refine W.cond rfl (fun hc0 => ?_) (fun hc0 => ?_)
 ·try simp only [zk] at hc0
  refine zT (wt ?_)
  refine WE.retDR rfl (RLe.refl _) ?_
  exact ⟨rfl, rfl, rfl⟩
 ·try simp only [zk] at hc0
  (simp at hc0; done)

set_option maxHeartbeats 1000000 in
theorem ParseD_panic {R : Ro} {x2 x3 x4 : Nat} {q0 q1 q2 : Value} {q3 q4 : Int} {p : Nat} {e : Int} (w0 : World) (E : List Ent) : FnDR Tryz.prog 102 [.pointer (some ⟨x2, 0, none⟩), .pointer (some ⟨x3, 0, none⟩), .pointer (some ⟨x4, 0, none⟩)] w0 R (.blk x4 [.int .i64 q4] :: .blk x3 [.int .i64 q3] :: .blk x2 [q0, q1, q2] :: E) (.panicking [{ v := failV p e, recovered := false }]) (fun R' E' u' => settle u' = .returning ∧ R = R' ∧ E' = .blk x4 [.int .i64 e] :: .blk x3 [.int .i64 (p : Int)] :: .blk x2 [.slice none 0 0, .int .i64 0, .int .i64 0] :: E) := by
 refine FnDR.enter (n := 22) Tryz.func102 rfl rfl (Nat.le_of_ble_eq_true rfl) rfl ?_
 intro c0 cs hc
 refine WD.seq ?_
 refine WD.region ?_
 refine WDG.recover (v := failV p e) (cs' := { c0 with mode := .panicking [{ v := failV p e, recovered := true }] } :: cs) rfl rfl rfl qD rfl rfl (by cases c0; cases hc; rfl) ?_
 refine WDG.yl rfl rfl rfl qD (pureV_ok tab_ok rfl (fun _ => rfl)) ?_
 refine WDG.nil ?_
 refine WD.plain ?_
 refine zQ (zQ (zG (zR 1 rfl ?_)))
 refine WG.y rfl rfl qD (Yl.eqNilI nilI20 rfl rfl rfl (fun _ => rfl) (by first | exact .inl ⟨rfl, rfl⟩ | exact .inr ⟨⟨_, _, rfl⟩, rfl⟩)) ?_
 refine zN (zU ?_)
 refine W.cond rfl (fun hc0 => ?_) (fun hc0 => ?_)
 ·try simp only [zk] at hc0
  (simp at hc0; done)
 ·try simp only [zk] at hc0
  refine zK (zU (zQ (zG (zR 1 rfl ?_))))
  refine WG.y rfl rfl qD (Yl.assert (v := .tuple #[.agg #[.int .i64 (p : Int), .int .i64 e], .bool true]) rfl rfl (fun w => by kernel_rfl) (fun _ => rfl)) ?_
  refine zR 3 rfl ?_
  refine zA fun b4 => ?_
  refine zE 0 ?_
  refine zR 1 rfl (zN (zU (zQ (zQ (zG (zR 2 rfl (zN (zU ?_))))))))
  refine W.cond rfl (fun hc1 => ?_) (fun hc1 => ?_)
  ·try simp only [zk] at hc1
   (simp at hc1; done)
  ·try simp only [zk] at hc1
   refine zK (zU ?_)
   refine W.regionH _ (ES := [.blk b4 [.int .i64 (p : Int), .int .i64 e]]) mixed ?_
   -- build
   refine WA.take 0 rfl qK qK qK rfl rfl qD (Yl.build (parts := []) tab_ok rfl rfl rfl rfl (fun _ => rfl) rfl rfl) qS qR ?_
   refine tP 1 ?_
   refine tL 2 (Rd.add (Rd.blk 0 rfl) _) ?_
   refine tP 3 ?_
   refine tL 4 (Rd.add (Rd.blk 0 rfl) _) ?_
   refine zCE 5 3 ?_
   refine zCE 6 2 ?_
   refine zCE 7 1 ?_
   refine WA.done qK ?_
   refine WE.subE (E' := .blk x4 [.int .i64 e] :: .blk x3 [.int .i64 (p : Int)] :: .blk x2 [.slice none 0 0, .int .i64 0, .int .i64 0] :: E) qS ?_
   refine WE.endDR rfl (RLe.refl _) ?_
   exact ⟨rfl, rfl, rfl⟩

set_option maxHeartbeats 1000000 in
theorem Parse03_C {R : Ro} {s : List UInt8} (hG : GlobE R) (hs : s.length ≤ 1000000) (w0 : World) (E : List Ent) : K.Fn Tryz.prog 92 [.string (str s)] w0 R E (fun v R' E' => ∃ (f : Option Addr) (fc : Nat), v = .tuple #[.agg #[.slice f (parseR s).1.vals.length fc, .int .i64 (parseR s).1.per, .int .i64 (parseR s).1.inc], .int .i64 ((parseR s).2.1 : Int), .int .i64 (parseR s).2.2] ∧ RS R' 1 encI f (parseR s).1.vals ∧ (parseR s).1.vals.length ≤ fc ∧ E.Sublist E') := by
 have hss := str_size s
 refine Fn.enterD (n := 24) Tryz.func92 rfl rfl (Nat.le_of_ble_eq_true rfl) rfl ?_
 refine zQ (zG ?_)
 refine zA fun b2 => ?_
 refine zA fun b3 => ?_
 refine zA fun b4 => ?_
 refine zN (zU (zQ (zQ (zG (zR 3 rfl (zN (zU ?_)))))))
 refine W.condD rfl (fun hc0 => ?_) (fun hc0 => ?_)
 ·try dsimp only at hc0
  have hp : parseR s = (zcv, 0, 3) := if_pos (by omega)
  refine zQ (zG ?_)
  -- build
  refine WG.y rfl rfl qD (Yl.build (parts := []) tab_ok rfl rfl rfl rfl (fun _ => rfl) rfl rfl) ?_
  refine zE 2 ?_
  refine zE 1 ?_
  refine zE 0 ?_
  refine zN (zU (zT (wt ?_)))
  refine WE.retD0 tab_ok [_, _, _] rfl ⟨⟨_, _, _, rfl, rfl, rfl, Rd.blk 2 rfl, rfl⟩, ⟨_, _, _, rfl, rfl, rfl, Rd.blk 1 rfl, rfl⟩, ⟨_, _, _, rfl, rfl, rfl, Rd.blk 0 rfl, rfl⟩, trivial⟩ (RLe.refl _) ?_
  exact ⟨none, 0, by rw [hp]; rfl, by rw [hp]; exact rs_nil, by rw [hp]; exact Nat.le_refl 0, qS⟩
 ·try dsimp only at hc0
  refine zK (zU (zQ (zG (zR 1 rfl ?_))))
  refine WL.defer rfl rfl rfl rfl rfl rfl rfl ?_
  refine zN (zU (zQ (zG (zR 1 rfl ?_))))
  refine WL.call en88 rfl rfl qD (CallOp.mkT rfl rfl rfl rfl) (Split_C hG (s := s) (d := 32) qO w0 _) ?_
  rintro _ R1 _ hR1 ⟨a12, rfl, hws, rfl⟩
  rw [← spl_eq] at hws ⊢
  refine zR 2 rfl ?_
  -- build
  refine WG.y rfl rfl qD (Yl.build (parts := [(0, .tmp 12), (3, .tmp 14)]) tab_ok rfl rfl rfl rfl (fun _ => rfl) rfl rfl) ?_
  refine zO fun b16 => ?_
  refine zR 1 rfl (zN (zU (zQ (zG (zR 1 rfl ?_)))))
  refine WL.callX en103 rfl rfl (by decide) (CallOp.mkT rfl rfl rfl rfl) (CurveR_C w0 hws (by omega) (hG.mono hR1) (by rw [remL_spl]; omega) _) ?_ ?_
  ·
   rintro _ R2 E2 hR2 ⟨p, e, rfl, hpg, hne, hsub⟩
   rw [hss] at hpg
   have hp : parseR s = (zcv, p, e) := by unfold parseR; rw [if_neg (by omega), hpg, if_pos hne]
   refine WE.then_panic ?_
   refine WE.subE (E' := .blk b4 [.int .i64 0] :: .blk b3 [.int .i64 0] :: .blk b2 [.slice none 0 0, .int .i64 0, .int .i64 0] :: E) hsub ?_
   refine WE.panicD tab_ok rfl rfl en102 ?_
   refine FnDR.mono (ParseD_panic w0 _) ?_
   rintro _ _ _ - ⟨hse, rfl, rfl⟩
   refine ⟨hse, hR1.trans hR2, [_, _, _], ⟨⟨_, _, _, rfl, rfl, rfl, Rd.blk 2 rfl, rfl⟩, ⟨_, _, _, rfl, rfl, rfl, Rd.blk 1 rfl, rfl⟩, ⟨_, _, _, rfl, rfl, rfl, Rd.blk 0 rfl, rfl⟩, trivial⟩, ⟨none, 0, by rw [hp]; rfl, by rw [hp]; exact rs_nil, by rw [hp]; exact Nat.le_refl 0, qS⟩⟩
  rintro _ R2 E2 hR2 ⟨c, f, fc, rfl, hf, hfc, hcl, hpg, hsub⟩
  rw [hss] at hpg
  refine WL.subE hsub ?_
  refine zE 2 ?_
  refine zN (zU (zQ (zQ (zG ?_))))
  refine yL (Rd.blk 2 rfl) ?_
  refine WG.callV en66 rfl rfl qD (CallOp.mk' rfl rfl rfl rfl) (fun _ => rfl) (fun hg => CValidG_V (fc := fc) (c := c) hf qO) ?_
  refine zR 1 rfl (zN (zU ?_))
  refine W.cond rfl (fun hc1 => ?_) (fun hc1 => ?_)
  ·try simp only [zk] at hc1
   have hv : validB c = false := by simpa using hc1
   have hp : parseR s = (zcv, 0, 1) := by unfold parseR; rw [if_neg (by omega), hpg, if_neg (fun h => h rfl), if_neg (by rw [hv]; decide)]
   refine zQ (zG ?_)
   -- build
   refine WG.y rfl rfl qD (Yl.build (parts := []) tab_ok rfl rfl rfl rfl (fun _ => rfl) rfl rfl) ?_
   refine zE 2 ?_
   refine zE 1 ?_
   refine zE 0 ?_
   refine zN (zU (zT (wt ?_)))
   refine WE.retD tab_ok rfl rfl en102 ?_
   refine FnDR.mono (ParseD_ret w0 _) ?_
   rintro _ _ _ - ⟨hse, rfl, rfl⟩
   refine ⟨hse, hR1.trans hR2, [_, _, _], ⟨⟨_, _, _, rfl, rfl, rfl, Rd.blk 2 rfl, rfl⟩, ⟨_, _, _, rfl, rfl, rfl, Rd.blk 1 rfl, rfl⟩, ⟨_, _, _, rfl, rfl, rfl, Rd.blk 0 rfl, rfl⟩, trivial⟩, ⟨none, 0, by rw [hp]; rfl, by rw [hp]; exact rs_nil, by rw [hp]; exact Nat.le_refl 0, qS⟩⟩
  ·try simp only [zk] at hc1
   have hv : validB c = true := by simpa using hc1
   have hp : parseR s = (c, 0, 0) := by unfold parseR; rw [if_neg (by omega), hpg, if_neg (fun h => h rfl), if_pos hv]
   refine zK (zU (zQ (zG ?_)))
   refine yL (Rd.blk 2 rfl) ?_
   refine zE 2 ?_
   refine zE 1 ?_
   refine zE 0 ?_
   refine zN (zU (zT ?_))
   refine WE.retD tab_ok rfl rfl en102 ?_
   refine FnDR.mono (ParseD_ret w0 _) ?_
   rintro _ _ _ - ⟨hse, rfl, rfl⟩
   refine ⟨hse, hR1.trans hR2, [_, _, _], ⟨⟨_, _, _, rfl, rfl, rfl, Rd.blk 2 rfl, rfl⟩, ⟨_, _, _, rfl, rfl, rfl, Rd.blk 1 rfl, rfl⟩, ⟨_, _, _, rfl, rfl, rfl, Rd.blk 0 rfl, rfl⟩, trivial⟩, ⟨f, fc, by rw [hp]; rfl, by rw [hp]; exact hf, by rw [hp]; exact hfc, qS⟩⟩



theorem SplitN7_C {R : Ro} (hG : GlobE R) {s : List UInt8} (hs : s.length ≤ 1000000) (w0 : World) (E : List Ent) : K.Fn Tryz.prog 91 [.string (str s), .string (str [32]), .int .i64 7] w0 R E (fun v R' E' => ∃ (a : Addr) (c : Nat), v = .slice (some a) (w7 s).length c ∧ RS R' 1 encT (some a) (w7 s) ∧ E = E') := by
 obtain ⟨m, rest, hm0⟩ := hG.m
 intro w hm
 have hsz := str_size s
 have hls : (str s).data.toList = s := by simp [str]
 have hld : (str [32]).data.toList = [32] := by simp [str]
 have h2 : Lib.splitB (str [32]) 0 (min 7 ((str s).size + 1) - 1) (str s) = (w7 s).map str := by
  have h1 := Lib.splitB_data (str [32]) 0 (min 7 ((str s).size + 1) - 1) (str s)
  have h3 : (Lib.splitB (str [32]) 0 (min 7 ((str s).size + 1) - 1) (str s)) = ((Lib.splitB (str [32]) 0 (min 7 ((str s).size + 1) - 1) (str s)).map (·.data.toList)).map str := by
   rw [List.map_map]
   refine (List.map_id'' (fun x => ?_) _).symm
   exact (str_of x).symm
  rw [h3, h1, hls, hld, hsz, splitK_w7]
 have hw7 := (w7_len s).1
 have hwl : (w7 s).length ≤ min 7 ((str s).size + 1) := by
  have h4 := Lib.splitB_length_le (str [32]) 0 (min 7 ((str s).size + 1) - 1) (str s)
  rw [h2, List.length_map] at h4
  omega
 have hfl : ∀ l : List (List UInt8), (l.map encT).flatten.length = l.length ∧ (l.map str).map Value.string = (l.map encT).flatten := by
  intro l
  induction l with
  | nil => exact ⟨rfl, rfl⟩
  | cons x l ih => exact ⟨by simp only [List.map_cons, List.flatten_cons, List.length_append, ih.1, List.length_cons]; show 1 + _ = _; omega, by simp only [List.map_cons, List.flatten_cons, ih.2]; rfl⟩
 refine (sh_strings_SplitN (str s) (str [32]) 7 m w (by omega) (hm.cell hm0) (by rw [str_size]; exact Nat.le_refl 1) (by decide) (by decide)).mono ?_
 rintro e w' ⟨rfl, rfl⟩
 rw [h2, List.length_map]
 have hcs := Lib.cellsOf_size (done := (w7 s).map str) (N := min 7 ((str s).size + 1)) (by rw [List.length_map]; exact hwl)
 have hct : (Lib.cellsOf ((w7 s).map str) (min 7 ((str s).size + 1))).toList.take (w7 s).length = ((w7 s).map encT).flatten := by
  unfold Lib.cellsOf
  rw [(hfl (w7 s)).2]
  exact List.take_left' (hfl (w7 s)).1
 generalize Lib.cellsOf ((w7 s).map str) (min 7 ((str s).size + 1)) = cs at hcs hct ⊢
 have hmn : Mem w0 (w.alloc (.cells cs 9)) R (.sl 9 1 (some ⟨w.heap.size, 0, none⟩) (min 7 ((str s).size + 1)) ((w7 s).map encT) :: E) := by
  refine hm.new (e' := .sl 9 1 (some ⟨w.heap.size, 0, none⟩) (min 7 ((str s).size + 1)) ((w7 s).map encT)) ⟨rfl, rfl, rfl, by simp, fun j hj _ => heap_alloc_old w _ hj⟩ ?_ (fun b hb => by simp [Ent.block] at hb; omega)
  refine ⟨fun r hr => by obtain ⟨c, _, rfl⟩ := List.mem_map.1 hr; rfl, Nat.one_pos, ?_, ?_⟩
  ·rw [(hfl _).1, List.length_map]; omega
  ·right
   refine ⟨w.heap.size, _, _, by rw [List.length_map], hm.below.size, heap_alloc_new w _, by rw [List.length_map]; exact hwl, by unfold maxLen; omega, by rw [hcs]; omega, ?_⟩
   rw [List.length_map, Nat.mul_one]; exact hct
 obtain ⟨R2, k1, k2, k3⟩ := hmn.freeze (i := 0) (enc := encT) (xs := w7 s) rfl
 exact ⟨_, R2, E, rfl, k1, k3, ⟨w.heap.size, 0, none⟩, _, rfl, k2, rfl⟩



set_option maxHeartbeats 4000000 in
theorem Flow_C {R : Ro} (hG : GlobE R) {s : List UInt8} (hs : s.length ≤ 1000000) {na : Option Addr} {nc m : Nat} {ns : List (List UInt8)} {E : List Ent} (hN : LsT R E na ns) (hm : ns.length = m) (hnl : ∀ x ∈ ns, x.length ≤ 9223372036854775807) (w0 : World) : K.Fn Tryz.prog 76 [.slice na m nc, .string (str s)] w0 R E (fun v R' E' => ∃ x : FlM, v = .tuple #[.agg #[.string (str x.f.name), .slice x.a1 x.f.route.length x.c1, .int .i64 x.f.cls, .int .i64 x.f.lo, .int .i64 x.f.hi, .slice x.a2 x.f.cv.vals.length x.c2, .int .i64 x.f.cv.per, .int .i64 x.f.cv.inc], .bool (flO ns s)] ∧ OkFl R' x ∧ x.f.route.length ≤ x.c1 ∧ x.f.cv.vals.length ≤ x.c2 ∧ (flO ns s = true → x.f = flV ns s) ∧ E' = E) := by
 subst hm
 have hnlen := hN.len
 refine fE 117 Tryz.func76 ?_
 refine zQ (zG ?_)
 refine zA fun b4 => ?_
 refine zR 1 rfl (zN (zU (zQ (zG (zR 1 rfl ?_)))))
 refine WL.call en91 rfl rfl qD (CallOp.mkT rfl rfl rfl rfl) (SplitN7_C hG hs w0 _) ?_
 rintro _ R1 _ hRR ⟨a9, c9, rfl, hws, rfl⟩
 have hG := hG.mono hRR
 have hwl := (w7_len s).1
 have hwm := w7_mem s
 have hflO : flO ns s = (decide ((w7 s).length = 7) && (decide (nth (w7 s) 0 = wFlow) && (wordB (nth (w7 s) 1) && ((num9 (nth (w7 s) 2) && (num9 (nth (w7 s) 3) && num9 (nth (w7 s) 4))) && (wayO ns (nth (w7 s) 5) && decide ((parseR (nth (w7 s) 6)).2.2 = 0)))))) := rfl
 have hflV : flV ns s = ⟨nth (w7 s) 1, wayV ns (nth (w7 s) 5), num9V (nth (w7 s) 2), num9V (nth (w7 s) 3), num9V (nth (w7 s) 4), (parseR (nth (w7 s) 6)).1⟩ := rfl
 generalize w7 s = ws at hws hwl hwm hflO hflV ⊢
 have hwa : ∀ i, (nth ws i).length ≤ s.length := fun i => by
  by_cases h : i < ws.length
  ·exact hwm _ (nth_mem h)
  ·rw [nth_out (by omega)]; exact Nat.zero_le _
 refine zR 1 rfl (zN (zU (zQ (zQ (zG (zR 4 rfl ?_))))))
 refine yP ?_
 refine WG.y rfl rfl (by decide) (Yl.indexN tab_ok rfl rfl rfl rfl rfl rfl qE (by intro hg; (try simp only [zk] at hg); (try dsimp only) <;> omega) (by intro hg; (try simp only [zk] at hg); first | exact (hN.sub hRR qS).has | exact qI)) ?_
 refine' WG.y rfl rfl qD (Yl.loadG tab_ok rfl rfl rfl qE ?r1 rfl ?h1 ?g1) ?_
 case r1 => ((apply RS.rdC; assumption))
 case h1 => rfl
 case g1 => (intro hg; (try simp only [zk] at hg); (try dsimp only); omega)
 refine WG.y rfl rfl qD (Yl.neS rfl rfl rfl qE) ?_
 refine yO ?_
 refine zR 1 rfl ?_
 refine yP ?_
 refine WG.y rfl rfl (by decide) (Yl.indexN tab_ok rfl rfl rfl rfl rfl rfl qE (by intro hg; (try simp only [zk] at hg); (try dsimp only) <;> omega) (by intro hg; (try simp only [zk] at hg); first | exact (hN.sub hRR qS).has | exact qI)) ?_
 refine' WG.y rfl rfl qD (Yl.loadG tab_ok rfl rfl rfl qE ?r2 rfl ?h2 ?g2) ?_
 case r2 => ((apply RS.rdC; assumption))
 case h2 => rfl
 case g2 => (intro hg; (try simp only [zk] at hg); (try dsimp only); omega)
 refine WG.callV en41 rfl rfl qD (CallOp.mk' rfl rfl rfl rfl) qE (fun hg => Word_V (s := nth ws 1) (by have := hwa 1; omega)) ?_
 refine yP ?_
 refine yO ?_
 refine zN (zU ?_)
 refine W.cond rfl (fun hc0 => ?_) (fun hc0 => ?_)
 ·try simp only [zk] at hc0
  have hno : flO ns s = false := by
   rw [hflO, Bool.and_eq_false_iff, Bool.and_eq_false_iff, Bool.and_eq_false_iff, decide_eq_false_iff_not, decide_eq_false_iff_not]
   rcases hc0 with (h | h) | h
   ·left; omega
   ·right; left; intro e; exact h (by rw [e]; rfl)
   ·right; right; left; simpa using h
  refine zQ (zG ?_)
  -- build
  refine WG.y rfl rfl qD (Yl.build (parts := []) tab_ok rfl rfl rfl rfl (fun _ => rfl) rfl rfl) ?_
  refine zE 0 ?_
  refine zR 1 rfl (zN (zU (zT (wt ?_))))
  refine WE.retFS (E' := E) qS tab_ok [_, _] rfl ⟨⟨_, _, _, rfl, rfl, rfl, qB, rfl⟩, rfl, trivial⟩ (by first | exact RLe.refl _ | assumption | exact hRR | exact hRR.trans hR5) ?_
  exact ⟨(⟨none, 0, none, 0, ⟨[], [], 0, 0, 0, zcv⟩⟩ : FlM), by rw [hno]; rfl, ⟨rs_nil, rs_nil, by decide, by decide⟩, Nat.le_refl 0, Nat.le_refl 0, (fun h => by rw [hno] at h; cases h), rfl⟩
 ·try simp only [zk] at hc0
  obtain ⟨⟨h7, hw0⟩, hw1⟩ := hc0
  have h7n : ws.length = 7 := by omega
  rw [decide_eq_true h7n, decide_eq_true (str_inj (b := wFlow) hw0), hw1, Bool.true_and, Bool.true_and, Bool.true_and] at hflO
  refine zK (zU (zQ (zG (zR 1 rfl ?_))))
  refine WG.y rfl rfl qD (Yl.indexN tab_ok rfl rfl rfl rfl rfl rfl (fun _ => rfl) qN (by intro _; first | exact (hN.sub hRR qS).has | exact qI)) ?_
  refine yR ?_
  -- build
  refine WG.y rfl rfl qD (Yl.build (parts := [(0, .tmp 39)]) tab_ok rfl rfl rfl rfl (fun _ => rfl) rfl rfl) ?_
  refine zA fun b7 => ?_
  refine zE 0 ?_
  refine zN (zU (zQ (zQ (zG (zR 5 rfl ?_)))))
  refine WL.ef rfl rfl qD (Ef.buildSliceD (enc := encPtr) (parts := [.tmp 41, .tmp 43, .tmp 45]) [some ⟨b7, 2, none⟩, some ⟨b7, 3, none⟩, some ⟨b7, 4, none⟩] tab_ok rfl rfl rfl rfl rfl rfl rfl rfl qD qD (fun a46 => ?_))
  refine WL.freeze (enc := encPtr) (xs := [some ⟨b7, 2, none⟩, some ⟨b7, 3, none⟩, some ⟨b7, 4, none⟩]) 0 rfl ?_
  intro R3 hR3 hpt
  have hG := hG.mono hR3
  have hws := hws.mono hR3
  have hRR := hRR.trans hR3
  refine zR 2 rfl (zN (zU (zB ?_)))
  refine W.loopK (β := Nat × Int × Int × Int) (fun (i, A, B, C) => i ≤ 3 ∧ (0 < i → num9 (nth ws 2) = true ∧ A = (num9V (nth ws 2) : Int)) ∧ (1 < i → num9 (nth ws 3) = true ∧ B = (num9V (nth ws 3) : Int)) ∧ (2 < i → num9 (nth ws 4) = true ∧ C = (num9V (nth ws 4) : Int))) (fun (i, A, B, C) => [(48, true, .int .i64 (i : Int))]) [0, 4, 6, 7, 46, 47] [_, _, _, _, _, _] [] _ rfl (fun (i, A, B, C) => [(0, .blk b7 [.string (str (nth ws 1)), .slice none 0 0, .int .i64 A, .int .i64 B, .int .i64 C, .slice none 0 0, .int .i64 0, .int .i64 0])]) (fun (i, A, B, C) => 3 - i) ((0, 0, 0, 0)) (⟨Nat.zero_le _, fun h => absurd h qD, fun h => absurd h qD, fun h => absurd h qD⟩) ⟨rfl, rfl, rfl, rfl, rfl, rfl, rfl, rfl⟩ qS ?_
  intro zz hst
  obtain ⟨i, A, B, C⟩ := zz
  dsimp only [zipE, setAll, List.cons_append, List.nil_append, List.set_cons_zero, List.set_cons_succ] at hst ⊢
  obtain ⟨hi, hcA, hcB, hcC⟩ := hst
  refine zQ (zG (zR 1 rfl (zN (zU (zQ ?_)))))
  refine W.condD rfl (fun hc1 => ?_) (fun hc1 => ?_)
  ·try dsimp only at hc1
   have hi3 : i < 3 := by omega
   refine zK (zU (zQ (zB (zQ (zG (zR 1 rfl ?_))))))
   refine WG.y rfl rfl qD (Yl.indexN tab_ok rfl rfl rfl rfl rfl rfl (fun _ => rfl) qN (by intro _; first | exact (hN.sub hRR qS).has | exact qI)) ?_
   refine' WG.y rfl rfl qD (Yl.load1 tab_ok rfl rfl rfl (fun _ => rfl) ?r4 rfl ?h4) ?_
   case r4 => exact RS.rdD hpt hi3
   case h4 => rfl
   refine zR 2 rfl (zN (zU (zQ (zG (zR 2 rfl ?_)))))
   refine yA ?_
   rw [show (2 : Int) + (i : Int) = ((2 + i : Nat) : Int) by omega]
   refine WG.y rfl rfl qD (Yl.indexN tab_ok rfl rfl rfl rfl rfl rfl (fun _ => rfl) qN (by intro _; first | exact (hN.sub hRR qS).has | exact qI)) ?_
   refine yR ?_
   refine WG.callV en89 rfl rfl qD (CallOp.mk' rfl rfl rfl rfl) (fun _ => rfl) (fun hg => Number9_V (w := nth ws (2 + i)) (by have := hwa (2 + i); omega)) ?_
   refine zR 5 rfl (zN (zU (zQ (zQ (zG (zR 2 rfl (zN (zU ?_))))))))
   refine W.cond rfl (fun hc2 => ?_) (fun hc2 => ?_)
   ·try simp only [zk] at hc2
    have hn9 : num9 (nth ws (2 + i)) = false := by simpa using hc2
    have hno : flO ns s = false := by
     rw [hflO]
     rcases (show i = 0 ∨ i = 1 ∨ i = 2 by omega) with rfl | rfl | rfl
     ·rw [hn9]; rfl
     ·rw [hn9, Bool.false_and, Bool.and_false]; rfl
     ·rw [hn9, Bool.and_false, Bool.and_false]; rfl
    refine zQ (zG ?_)
    -- build
    refine WG.y rfl rfl qD (Yl.build (parts := []) tab_ok rfl rfl rfl rfl (fun _ => rfl) rfl rfl) ?_
    refine zE 1 ?_
    refine zR 1 rfl (zN (zU (zT (wt (wb (wt (wt (wb (wt ?_)))))))))
    refine WE.retFS (E' := E) qS tab_ok [_, _] rfl ⟨⟨_, _, _, rfl, rfl, rfl, qB, rfl⟩, rfl, trivial⟩ (by first | exact RLe.refl _ | assumption | exact hRR | exact hRR.trans hR5) ?_
    exact ⟨(⟨none, 0, none, 0, ⟨[], [], 0, 0, 0, zcv⟩⟩ : FlM), by rw [hno]; rfl, ⟨rs_nil, rs_nil, by decide, by decide⟩, Nat.le_refl 0, Nat.le_refl 0, (fun h => by rw [hno] at h; cases h), rfl⟩
   ·try simp only [zk] at hc2
    have hn9 : num9 (nth ws (2 + i)) = true := by simpa using hc2
    refine zK (zU ?_)
    rcases (show i = 0 ∨ i = 1 ∨ i = 2 by omega) with rfl | rfl | rfl
    ·
     
     refine zG (zR 3 rfl ?_)
     refine WL.efN rfl rfl (Ef.store (off := 2) 0 tab_ok rfl rfl rfl rfl rfl rfl rfl rfl ?_)
     refine zN (zL (zU (zG ?_)))
     refine yA ?_
     refine zR 1 rfl (zN ?_)
     refine WE.again ((1, (num9V (nth ws 2) : Int), B, C)) (⟨by dsimp only; omega, fun _ => ⟨hn9, rfl⟩, fun h => absurd h (by dsimp only; omega), fun h => absurd h (by dsimp only; omega)⟩) (by (try dsimp only); omega) ⟨rfl, rfl, rfl, rfl, rfl, rfl, rfl, rfl⟩ (RLe.refl _) qS
    ·
     
     refine zG (zR 3 rfl ?_)
     refine WL.efN rfl rfl (Ef.store (off := 3) 0 tab_ok rfl rfl rfl rfl rfl rfl rfl rfl ?_)
     refine zN (zL (zU (zG ?_)))
     refine yA ?_
     refine zR 1 rfl (zN ?_)
     refine WE.again ((2, A, (num9V (nth ws 3) : Int), C)) (⟨by dsimp only; omega, fun _ => hcA qD, fun _ => ⟨hn9, rfl⟩, fun h => absurd h (by dsimp only; omega)⟩) (by (try dsimp only); omega) ⟨rfl, rfl, rfl, rfl, rfl, rfl, rfl, rfl⟩ (RLe.refl _) qS
    ·
     
     refine zG (zR 3 rfl ?_)
     refine WL.efN rfl rfl (Ef.store (off := 4) 0 tab_ok rfl rfl rfl rfl rfl rfl rfl rfl ?_)
     refine zN (zL (zU (zG ?_)))
     refine yA ?_
     refine zR 1 rfl (zN ?_)
     refine WE.again ((3, A, B, (num9V (nth ws 4) : Int))) (⟨by dsimp only; omega, fun _ => hcA qD, fun _ => hcB qD, fun _ => ⟨hn9, rfl⟩⟩) (by (try dsimp only); omega) ⟨rfl, rfl, rfl, rfl, rfl, rfl, rfl, rfl⟩ (RLe.refl _) qS
  ·try dsimp only at hc1
   obtain rfl : i = 3 := by omega
   obtain ⟨h2, hA⟩ := hcA (by decide)
   obtain ⟨h3, hB⟩ := hcB (by decide)
   obtain ⟨h4, hC⟩ := hcC (by decide)
   rw [h2, h3, h4, Bool.true_and, Bool.true_and, Bool.true_and] at hflO
   refine zX ?_
   refine wx (wx (zY (zU (zQ ?_))))
   refine W.nil 3 1 qD ?_
   refine zQ (zG (zR 1 rfl ?_))
   refine WG.y rfl rfl qD (Yl.indexN tab_ok rfl rfl rfl rfl rfl rfl (fun _ => rfl) qN (by intro _; first | exact (hN.sub hRR qS).has | exact qI)) ?_
   refine yR ?_
   refine WL.call en88 rfl rfl qD (CallOp.mkT rfl rfl rfl rfl) (Split_C hG (s := nth ws 5) (d := 62) (by have := hwa 5; omega) w0 _) ?_
   rintro _ R2 _ hR2 ⟨a72, rfl, hpz, rfl⟩
   have hRR := hRR.trans hR2
   have hws := hws.mono hR2
   have hpt := hpt.mono hR2
   have hG := hG.mono hR2
   have hpl := splC_len 62 (nth ws 5)
   have hpm := splC_mem 62 (nth ws 5)
   have hwo : wayO ns (nth ws 5) = (splC 62 (nth ws 5)).all (fun x => decide (x ∈ ns)) := rfl
   have hwv : wayV ns (nth ws 5) = (splC 62 (nth ws 5)).map (fun x => (idxN ns x : Int)) := rfl
   generalize splC 62 (nth ws 5) = pz at hpz hpl hpm hwo hwv ⊢
   refine zR 2 rfl (zN (zU (zB ?_)))
   refine W.loopK (β := Nat × List Int × Option Addr × Nat) (fun (k, rt, a1, c1) => k ≤ pz.length ∧ (pz.take k).all (fun x => decide (x ∈ ns)) = true ∧ rt = (pz.take k).map (fun x => (idxN ns x : Int))) (fun (k, rt, a1, c1) => [(74, true, .int .i64 (k : Int))]) [0, 4, 6, 7, 72, 73] [_, _, _, _, _, _] [] _ rfl (fun (k, rt, a1, c1) => [(0, .sl 3 1 a1 c1 (rt.map encI)), (1, .blk b7 [.string (str (nth ws 1)), .slice a1 rt.length c1, .int .i64 A, .int .i64 B, .int .i64 C, .slice none 0 0, .int .i64 0, .int .i64 0])]) (fun (k, rt, a1, c1) => pz.length - k) ((0, [], none, 0)) (⟨Nat.zero_le _, rfl, rfl⟩) ⟨rfl, rfl, rfl, rfl, rfl, rfl, rfl, rfl⟩ qS ?_
   intro zz hst
   obtain ⟨k, rt, a1, c1⟩ := zz
   dsimp only [zipE, setAll, List.cons_append, List.nil_append, List.set_cons_zero, List.set_cons_succ] at hst ⊢
   obtain ⟨hk, hka, hrt⟩ := hst
   have hrl : rt.length = k := by rw [hrt, List.length_map, List.length_take]; omega
   refine zQ (zG (zR 1 rfl (zN (zU (zQ ?_)))))
   refine W.condD rfl (fun hc3 => ?_) (fun hc3 => ?_)
   ·try dsimp only at hc3
    have h5w := hwa 5
    have hkl : k < pz.length := by omega
    have hpk := hpm _ (nth_mem hkl)
    refine zK (zU (zQ (zB (zQ (zG ?_)))))
    refine WG.y rfl rfl qD (Yl.indexN tab_ok rfl rfl rfl rfl rfl rfl (fun _ => rfl) qN (by intro _; first | exact (hN.sub hRR qS).has | exact qI)) ?_
    refine' WG.y rfl rfl qD (Yl.load1 tab_ok rfl rfl rfl (fun _ => rfl) ?r7 rfl ?h7) ?_
    case r7 => exact RS.rdD hpz hkl
    case h7 => rfl
    refine zR 1 rfl (zN (zU (zQ (zG (zR 1 rfl (zN (zU (zQ (zB ?_)))))))))
    refine W.loopK (β := Nat) (fun j => j ≤ ns.length ∧ ∀ q, q < j → nth ns q ≠ nth pz k) (fun j => [(14, true, .int .i64 (j : Int))]) [0, 4, 6, 7, 13, 72, 73, 74] [_, _, _, _, _, _, _, _] [] _ rfl (fun j => []) (fun j => ns.length - j) (0) (⟨Nat.zero_le _, fun q hq => by omega⟩) ⟨rfl, rfl, rfl, rfl, rfl, rfl, rfl, rfl, rfl, rfl⟩ qS ?_
    intro j hst
    dsimp only [zipE, setAll, List.cons_append, List.nil_append, List.set_cons_zero, List.set_cons_succ] at hst ⊢
    obtain ⟨hj, hjn⟩ := hst
    refine zQ (zQ (zG (zR 5 rfl ?_)))
    refine yP ?_
    refine yP ?_
    refine WG.y rfl rfl (by decide) (Yl.indexN tab_ok rfl rfl rfl rfl rfl rfl qE (by intro hg; (try simp only [zk] at hg); (try dsimp only) <;> omega) (by intro hg; (try simp only [zk] at hg); first | exact (hN.sub hRR qS).has | exact qI)) ?_
    refine' WG.y rfl rfl qD (Yl.loadG tab_ok rfl rfl rfl qE ?r8 rfl ?h8 ?g8) ?_
    case r8 => exact fun hg => (hN.sub hRR qS).rd j (by (try simp only [decide_eq_true_eq, Bool.and_eq_true] at hg); omega)
    case h8 => rfl
    case g8 => (intro hg; (try simp only [zk] at hg); (try dsimp only); omega)
    refine yP ?_
    refine WG.y rfl rfl qD (Yl.neS rfl rfl rfl qE) ?_
    refine yN ?_
    refine zN (zU ?_)
    refine W.cond rfl (fun hc4 => ?_) (fun hc4 => ?_)
    ·try simp only [zk] at hc4
     obtain ⟨hc41, hc42⟩ := hc4
     have hjl : j < ns.length := by omega
     have hne : nth ns j ≠ nth pz k := fun e => by first | exact hc42 (by rw [e]) | (rw [e] at hc42; simp at hc42)
     refine zK (zU (zB (zG (zR 1 rfl ?_))))
     refine yA ?_
     refine zR 1 rfl (zN (zL ?_))
     refine WE.again (j + 1) (⟨by omega, fun q hq => by
      by_cases e : q = j
      ·subst e; exact hne
      ·exact hjn q (by omega)⟩) (by (try dsimp only); omega) ⟨rfl, rfl, rfl, rfl, rfl, rfl, rfl, rfl, rfl, rfl⟩ (RLe.refl _) qS
    ·try simp only [zk] at hc4
     refine zX ?_
     refine wx (wx (zY (zU (zQ (zQ (zG (zR 4 rfl (zN (zU ?_)))))))))
     refine W.condE rfl (fun hc5 => ?_) (fun hc5 => ?_)
     ·try dsimp only at hc5
      have hno : flO ns s = false := by
       obtain rfl : j = ns.length := by omega
       rw [hflO, hwo, show pz.all (fun x => decide (x ∈ ns)) = false from List.all_eq_false.2 ⟨_, nth_mem hkl, by rw [decide_eq_false (idx_no hjn)]; decide⟩, Bool.false_and]
      refine zQ (zG ?_)
      -- build
      refine WG.y rfl rfl qD (Yl.build (parts := []) tab_ok rfl rfl rfl rfl (fun _ => rfl) rfl rfl) ?_
      refine zE 2 ?_
      refine zR 1 rfl (zN (zU (zT (wt (wb (wt (wt (wb (wt ?_)))))))))
      refine WE.retFS (E' := E) qS tab_ok [_, _] rfl ⟨⟨_, _, _, rfl, rfl, rfl, qB, rfl⟩, rfl, trivial⟩ (by first | exact RLe.refl _ | assumption | exact hRR | exact hRR.trans hR5) ?_
      exact ⟨(⟨none, 0, none, 0, ⟨[], [], 0, 0, 0, zcv⟩⟩ : FlM), by rw [hno]; rfl, ⟨rs_nil, rs_nil, by decide, by decide⟩, Nat.le_refl 0, Nat.le_refl 0, (fun h => by rw [hno] at h; cases h), rfl⟩
     ·try dsimp only at hc5
      have hjl : j < ns.length := by omega
      have hje : nth ns j = nth pz k := str_inj (hc4 (by omega))
      obtain ⟨hix, him⟩ := idx_at hjn hjl hje
      refine zK (zU (zG (zR 1 rfl ?_)))
      refine yL (Rd.add (Rd.blk 1 rfl) _) ?_
      refine zR 1 rfl ?_
      refine WL.ef rfl rfl qD (Ef.buildSliceD (enc := encI) (parts := [.tmp 99]) [_] tab_ok rfl rfl rfl rfl rfl rfl rfl rfl qD qD (fun a100 => ?_))
      refine WL.ef rfl rfl (by decide) (Ef.appendD 1 0 tab_ok rfl rfl rfl rfl rfl rfl rfl rfl rfl rfl rfl (fun _ _ => rfl) (by simp only [List.length_cons, List.length_nil]; omega) (by simp only [List.length_cons, List.length_nil]; omega) (fun a101 c101 ha101 => ?_))
      refine zR 1 rfl ?_
      refine zF 2 ?_
      refine zN (zL (zU (zG ?_)))
      refine yA ?_
      refine zR 1 rfl (zN ?_)
      refine WE.again ((k + 1, rt ++ [(j : Int)], a101, c101)) (⟨by omega, by rw [take_nth hkl, List.all_append, hka, List.all_cons, List.all_nil, decide_eq_true him]; rfl, by rw [take_nth hkl, List.map_append, List.map_singleton, ← hrt, hix]⟩) (by (try dsimp only); omega) ⟨rfl, rfl, rfl, rfl, rfl, rfl, rfl, rfl⟩ (RLe.refl _) qS
   ·try dsimp only at hc3
    obtain rfl : k = pz.length := by omega
    rw [List.take_length] at hka hrt
    rw [← hwo] at hka
    rw [← hwv] at hrt
    rw [hka, Bool.true_and] at hflO
    refine zX ?_
    refine wx (wx (zY (zU ?_)))
    refine W.cap 0 rfl ?_
    intro hcz
    refine W.freeze (enc := encI) (xs := rt) 0 rfl ?_
    intro Rz hRz hrz
    have hG := hG.mono hRz
    have hws := hws.mono hRz
    have hRR := hRR.trans hRz
    refine zQ (zG (zR 1 rfl ?_))
    refine WG.y rfl rfl qD (Yl.indexN tab_ok rfl rfl rfl rfl rfl rfl (fun _ => rfl) qN (by intro _; first | exact (hN.sub hRR qS).has | exact qI)) ?_
    refine yR ?_
    refine WL.call en92 rfl rfl qD (CallOp.mkT rfl rfl rfl rfl) (Parse03_C (s := nth ws 6) hG (by have := hwa 6; omega) w0 _) ?_
    rintro _ R5 E5 hR5 ⟨f5, k5, rfl, hf5, hk5, hsub5⟩
    refine WL.subE hsub5 ?_
    have hrz := hrz.mono hR5
    refine zR 4 rfl ?_
    refine zA fun b15 => ?_
    refine zE 0 ?_
    refine zR 2 rfl (zN (zU (zQ (zG ?_))))
    refine yL (Rd.blk 0 rfl) ?_
    refine zR 1 rfl ?_
    refine zF 1 ?_
    refine zN (zU (zQ (zG ?_)))
    refine yL (Rd.blk 1 rfl) ?_
    refine zR 2 rfl ?_
    refine zE 2 ?_
    refine zR 1 rfl (zN (zU (zT ?_)))
    refine WE.retFS (E' := E) qS tab_ok [_, _] rfl ⟨⟨_, _, _, rfl, rfl, rfl, qB, rfl⟩, rfl, trivial⟩ (by first | exact RLe.refl _ | assumption | exact hRR | exact hRR.trans hR5) ?_
    have hdd : ((parseR (nth ws 6)).2.2 == 0) = decide ((parseR (nth ws 6)).2.2 = 0) := by by_cases h : (parseR (nth ws 6)).2.2 = 0 <;> simp [h]
    refine ⟨⟨a1, c1, f5, k5, ⟨nth ws 1, rt, A, B, C, (parseR (nth ws 6)).1⟩⟩, by rw [hflO, ← hdd]; rfl, ⟨hrz, hf5, Nat.le_trans (parseR_len _) (by decide), ?_⟩, by simpa using hcz, hk5, fun _ => by rw [hflV, hrt, hA, hB, hC], rfl⟩
    show (nth ws 1).length ≤ _
    have := hwa 1; omega

end Go.Proofs.YtmidibkljoaoiaaGreatDoor
