/- Rules and walks, joined from 18 texts: the first of them says: Chapter 22: Check and Same of the reference. No condition. -/
import Derived.Test.YtmidibkljoaoiaaGreatDoorG5
/- Chapter 22: Check and Same of the reference. No condition. -/
set_option maxRecDepth 4000
set_option linter.unusedSimpArgs false
set_option linter.unusedVariables false
namespace Go.Proofs.YtmidibkljoaoiaaGreatDoor
open Go Go.RowKit Go.Proofs.YtmidibkljoaoiaaGreatDoor.K Go.Proofs.YtmidibkljoaoiaaGreatDoor.M

theorem Within22_V {R : Ro} {a : Option Addr} {c l : Nat} {xs : List Int} {lo hi : Int} (ha : RS R 1 encI a xs) (hl : xs.length = l) :
  FnV Tryz.prog 71 [.slice a l c, .int .i64 lo, .int .i64 hi] R (.bool (withinB xs lo hi)) := by
 subst hl
 have hla := ha.len
 refine Fn.toV (fun w0 E => ?_)
 refine fE 28 Tryz.func71 ?_
 refine zQ (zG (zR 1 rfl (zN (zU (zQ (zQ (zG (zR 1 rfl (zN (zU (zB ?_)))))))))))
 refine W.loopK (β := Nat) (fun k => k ≤ xs.length ∧ ∀ i, i < k → lo ≤ nth xs i ∧ nth xs i ≤ hi) (fun k => [(7, true, .int .i64 (k : Int))]) [0, 1, 2] [_, _, _] [] _ rfl (fun k => []) (fun k => xs.length - k) (0) (⟨Nat.zero_le _, fun i hi => absurd hi (Nat.not_lt_zero i)⟩) ⟨rfl, rfl, rfl, rfl, rfl⟩ qS ?_
 intro st hst
 dsimp only [zipE, setAll, List.cons_append, List.nil_append, List.set_cons_zero, List.set_cons_succ] at hst ⊢
 obtain ⟨hk, hpre⟩ := hst
 refine zQ (zQ (zG (zR 4 rfl (zN (zU ?_)))))
 refine W.condD rfl (fun hc0 => ?_) (fun hc0 => ?_)
 ·try dsimp only at hc0
  refine zK (zU (zQ (zB (zQ (zG (zR 2 rfl ?_))))))
  refine WG.y rfl rfl qD (Yl.indexN tab_ok rfl rfl rfl rfl rfl rfl (fun _ => rfl) qN qH) ?_
  refine yR ?_
  refine zR 3 rfl ?_
  refine yP ?_
  refine yP ?_
  refine WG.y rfl rfl (by decide) (Yl.indexN tab_ok rfl rfl rfl rfl rfl rfl qE (by intro hg; (try simp only [zk] at hg); (try dsimp only) <;> omega) (by intro hg; (try simp only [zk] at hg); first | exact qI)) ?_
  refine' WG.y rfl rfl qD (Yl.loadG tab_ok rfl rfl rfl qE ?r2 rfl ?h2 ?g2) ?_
  case r2 => ((apply RS.rdC; assumption))
  case h2 => rfl
  case g2 => (intro hg; (try simp only [zk] at hg); (try dsimp only); omega)
  refine yP ?_
  refine yP ?_
  refine yO ?_
  refine zN (zU ?_)
  refine W.cond rfl (fun hc1 => ?_) (fun hc1 => ?_)
  ·try simp only [zk] at hc1
   refine zQ (zG (zR 1 rfl (zN (zU (zT (wb (wt (wt (wb (wt ?_))))))))))
   refine sE (E := E) ?_
   refine WE.retF tab_ok [_] rfl ⟨rfl, trivial⟩ (RLe.refl _) ?_
   exact ⟨congrArg Value.bool (within_no (k := st) qO qO).symm, rfl⟩
  ·try simp only [zk] at hc1
   refine zK (zL (zU (zG (zR 1 rfl ?_))))
   refine yA ?_
   refine zR 1 rfl (zN ?_)
   refine WE.again (st + 1) (⟨by omega, fun i hi => by
    rcases Nat.lt_or_ge i st with h | h
    ·exact hpre i h
    ·obtain rfl : i = st := by omega
     omega⟩) (by (try dsimp only); omega) ⟨rfl, rfl, rfl, rfl, rfl⟩ (RLe.refl _) qS
 ·try dsimp only at hc0
  refine zX ?_
  refine wx (wx (zY (zU (zQ (zG (zR 1 rfl (zN (zU (zT ?_)))))))))
  refine sE (E := E) ?_
  refine WE.retF tab_ok [_] rfl ⟨rfl, trivial⟩ (RLe.refl _) ?_
  exact ⟨congrArg Value.bool (within_yes (fun i hi => hpre i qO)).symm, rfl⟩

theorem Chk22_V {R : Ro} {aw at_ : Option Addr} {lw cw lt ct : Nat} {L : Ln} (hw : RS R 1 encI aw L.w) (hlw : L.w.length = lw) (ht : RS R 1 encI at_ L.tb) (hlt : L.tb.length = lt) : FnV Tryz.prog 46 [.agg #[.int .i64 L.kind, .int .i64 L.cap, .int .i64 L.n, .slice aw lw cw, .slice at_ lt ct]] R (.int .i64 (chkL L)) := by
 refine Fn.toV (fun w0 E => ?_)
 refine fE 101 Tryz.func46 ?_
 refine zQ (zG ?_)
 refine zO fun b1 => ?_
 refine zR 1 rfl (zN (zU (zQ (zQ (zG (zR 1 rfl ?_))))))
 refine yL (Rd.add (Rd.blk 0 rfl) _) ?_
 refine zR 2 rfl ?_
 refine yP ?_
 refine yG (Rd.addC (Rd.blkC 0 rfl) _) ?_
 refine yP ?_
 refine yO ?_
 refine zN (zU ?_)
 refine W.cond rfl (fun hc0 => ?_) (fun hc0 => ?_)
 ·try simp only [zk] at hc0
  refine zQ (zG (zR 1 rfl (zN (zU (zT (wt ?_))))))
  refine sE (E := E) ?_
  refine WE.retF tab_ok [_] rfl ⟨rfl, trivial⟩ (RLe.refl _) ?_
  exact ⟨congrArg (Value.int IntKind.i64) (if_pos hc0).symm, rfl⟩
 ·try simp only [zk] at hc0
  refine zK (zU (zQ (zQ (zG (zR 1 rfl ?_)))))
  refine yL (Rd.add (Rd.blk 0 rfl) _) ?_
  refine zR 2 rfl ?_
  refine yP ?_
  refine yG (Rd.addC (Rd.blkC 0 rfl) _) ?_
  refine yP ?_
  refine yO ?_
  refine zR 1 rfl ?_
  refine yP ?_
  refine yG (Rd.addC (Rd.blkC 0 rfl) _) ?_
  refine yP ?_
  refine yO ?_
  refine zR 1 rfl ?_
  refine yP ?_
  refine yG (Rd.addC (Rd.blkC 0 rfl) _) ?_
  refine yP ?_
  refine yO ?_
  refine zN (zU ?_)
  refine W.cond rfl (fun hc1 => ?_) (fun hc1 => ?_)
  ·try simp only [zk] at hc1
   refine zQ (zG (zR 1 rfl (zN (zU (zT (wt ?_))))))
   refine sE (E := E) ?_
   refine WE.retF tab_ok [_] rfl ⟨rfl, trivial⟩ (RLe.refl _) ?_
   exact ⟨congrArg (Value.int IntKind.i64) (by unfold chkL; rw [if_neg (by omega), if_pos (by omega)]), rfl⟩
  ·try simp only [zk] at hc1
   refine zK (zU (zQ (zG (zR 1 rfl ?_))))
   refine yL (Rd.add (Rd.blk 0 rfl) _) ?_
   refine zR 2 rfl ?_
   refine yP ?_
   refine yG (Rd.addC (Rd.blkC 0 rfl) _) ?_
   refine yP ?_
   refine yO ?_
   refine zR 1 rfl (zN (zU (zQ (zG (zR 1 rfl (zN (zU (zQ (zQ (zG (zR 1 rfl ?_)))))))))))
   refine yL (Rd.add (Rd.blk 0 rfl) _) ?_
   refine zR 1 rfl (zN (zU ?_))
   refine W.condE rfl (fun hc2 => ?_) (fun hc2 => ?_)
   ·try dsimp only at hc2
    refine zG (zR 1 rfl (zN (zU (zQ (zQ (zG (zR 2 rfl ?_)))))))
    refine yP ?_
    refine yG (Rd.addC (Rd.blkC 0 rfl) _) ?_
    refine yP ?_
    refine yP ?_
    refine yG (Rd.addC (Rd.blkC 0 rfl) _) ?_
    refine yP ?_
    refine yP ?_
    refine yP ?_
    refine yG (Rd.addC (Rd.blkC 0 rfl) _) ?_
    refine yP ?_
    refine WG.callV en71 rfl rfl qD (CallOp.mk' rfl rfl rfl rfl) qE (fun hg => Within22_V hw hlw) ?_
    refine yP ?_
    refine yO ?_
    refine yN ?_
    refine zN (zU ?_)
    refine W.cond rfl (fun hc3 => ?_) (fun hc3 => ?_)
    ·try simp only [zk] at hc3
     refine zQ (zG (zR 1 rfl (zN (zU (zT (wt ?_))))))
     refine sE (E := E) ?_
     refine WE.retF tab_ok [_] rfl ⟨rfl, trivial⟩ (RLe.refl _) ?_
     exact ⟨congrArg (Value.int IntKind.i64) (by rw [chk_spec (m := 6000) (by omega) hc0 hc1, hlw, hlt]; rw [if_pos hc3]), rfl⟩
    ·try simp only [zk] at hc3
     refine zK (zU (zQ (zQ (zG (zR 1 rfl ?_)))))
     refine yL (Rd.add (Rd.blk 0 rfl) _) ?_
     refine zR 2 rfl ?_
     refine yP ?_
     refine yG (Rd.addC (Rd.blkC 0 rfl) _) ?_
     refine yP ?_
     refine yP ?_
     refine yP ?_
     refine yP ?_
     refine yG (Rd.addC (Rd.blkC 0 rfl) _) ?_
     refine yP ?_
     refine yP ?_
     refine yO ?_
     refine yP ?_
     refine yP ?_
     refine yG (Rd.addC (Rd.blkC 0 rfl) _) ?_
     refine yP ?_
     refine yG (Rd.addC (Rd.blkC 0 rfl) _) ?_
     refine WG.y rfl rfl (by decide) (Yl.sub rfl rfl rfl qE (by intro hg; (try simp only [zk] at hg); constructor <;> (try dsimp only) <;> omega)) ?_
     refine WG.callV en71 rfl rfl qD (CallOp.mk' rfl rfl rfl rfl) qE (fun hg => Within22_V ht hlt) ?_
     refine yP ?_
     refine yO ?_
     refine yN ?_
     refine zN (zU ?_)
     refine W.cond rfl (fun hc4 => ?_) (fun hc4 => ?_)
     ·try simp only [zk] at hc4
      refine zQ (zG (zR 1 rfl (zN (zU (zT (wt ?_))))))
      refine sE (E := E) ?_
      refine WE.retF tab_ok [_] rfl ⟨rfl, trivial⟩ (RLe.refl _) ?_
      exact ⟨congrArg (Value.int IntKind.i64) (by rw [chk_spec (m := 6000) (by omega) hc0 hc1, hlw, hlt]; rw [if_neg (no_a hc3), if_pos hc4]), rfl⟩
     ·try simp only [zk] at hc4
      refine zK (zU (zQ (zQ (zG (zR 3 rfl ?_)))))
      refine yP ?_
      refine yG (Rd.addC (Rd.blkC 0 rfl) _) ?_
      refine yP ?_
      refine yP ?_
      refine yN ?_
      refine zR 1 rfl ?_
      refine yP ?_
      refine yG (Rd.addC (Rd.blkC 0 rfl) _) ?_
      refine yP ?_
      refine yP ?_
      refine yP ?_
      refine yG (Rd.addC (Rd.blkC 0 rfl) _) ?_
      refine yP ?_
      refine yP ?_
      refine yN ?_
      refine yO ?_
      refine zN (zU ?_)
      refine W.cond rfl (fun hc5 => ?_) (fun hc5 => ?_)
      ·try simp only [zk] at hc5
       refine zQ (zG (zR 1 rfl (zN (zU (zT (wt ?_))))))
       refine sE (E := E) ?_
       refine WE.retF tab_ok [_] rfl ⟨rfl, trivial⟩ (RLe.refl _) ?_
       exact ⟨congrArg (Value.int IntKind.i64) (by rw [chk_spec (m := 6000) (by omega) hc0 hc1, hlw, hlt]; rw [if_neg (no_a hc3), if_neg (no_b hc4), if_pos hc5]), rfl⟩
      ·try simp only [zk] at hc5
       refine zK (zU (zQ (zG (zR 1 rfl (zN (zU (zT ?_)))))))
       refine sE (E := E) ?_
       refine WE.retF tab_ok [_] rfl ⟨rfl, trivial⟩ (RLe.refl _) ?_
       exact ⟨congrArg (Value.int IntKind.i64) (by rw [chk_spec (m := 6000) (by omega) hc0 hc1, hlw, hlt]; rw [if_neg (no_a hc3), if_neg (no_b hc4), if_neg (no_c hc5)]), rfl⟩
   ·try dsimp only at hc2
    refine zK (zU (zQ (zQ (zG (zR 2 rfl ?_)))))
    refine yP ?_
    refine yG (Rd.addC (Rd.blkC 0 rfl) _) ?_
    refine yP ?_
    refine yP ?_
    refine yG (Rd.addC (Rd.blkC 0 rfl) _) ?_
    refine yP ?_
    refine yP ?_
    refine yP ?_
    refine yG (Rd.addC (Rd.blkC 0 rfl) _) ?_
    refine yP ?_
    refine WG.callV en71 rfl rfl qD (CallOp.mk' rfl rfl rfl rfl) qE (fun hg => Within22_V hw hlw) ?_
    refine yP ?_
    refine yO ?_
    refine yN ?_
    refine zN (zU ?_)
    refine W.cond rfl (fun hc6 => ?_) (fun hc6 => ?_)
    ·try simp only [zk] at hc6
     refine zQ (zG (zR 1 rfl (zN (zU (zT (wt ?_))))))
     refine sE (E := E) ?_
     refine WE.retF tab_ok [_] rfl ⟨rfl, trivial⟩ (RLe.refl _) ?_
     exact ⟨congrArg (Value.int IntKind.i64) (by rw [chk_spec (m := 20) (by omega) hc0 hc1, hlw, hlt]; rw [if_pos hc6]), rfl⟩
    ·try simp only [zk] at hc6
     refine zK (zU (zQ (zQ (zG (zR 1 rfl ?_)))))
     refine yL (Rd.add (Rd.blk 0 rfl) _) ?_
     refine zR 2 rfl ?_
     refine yP ?_
     refine yG (Rd.addC (Rd.blkC 0 rfl) _) ?_
     refine yP ?_
     refine yP ?_
     refine yP ?_
     refine yP ?_
     refine yG (Rd.addC (Rd.blkC 0 rfl) _) ?_
     refine yP ?_
     refine yP ?_
     refine yO ?_
     refine yP ?_
     refine yP ?_
     refine yG (Rd.addC (Rd.blkC 0 rfl) _) ?_
     refine yP ?_
     refine yG (Rd.addC (Rd.blkC 0 rfl) _) ?_
     refine WG.y rfl rfl (by decide) (Yl.sub rfl rfl rfl qE (by intro hg; (try simp only [zk] at hg); constructor <;> (try dsimp only) <;> omega)) ?_
     refine WG.callV en71 rfl rfl qD (CallOp.mk' rfl rfl rfl rfl) qE (fun hg => Within22_V ht hlt) ?_
     refine yP ?_
     refine yO ?_
     refine yN ?_
     refine zN (zU ?_)
     refine W.cond rfl (fun hc7 => ?_) (fun hc7 => ?_)
     ·try simp only [zk] at hc7
      refine zQ (zG (zR 1 rfl (zN (zU (zT (wt ?_))))))
      refine sE (E := E) ?_
      refine WE.retF tab_ok [_] rfl ⟨rfl, trivial⟩ (RLe.refl _) ?_
      exact ⟨congrArg (Value.int IntKind.i64) (by rw [chk_spec (m := 20) (by omega) hc0 hc1, hlw, hlt]; rw [if_neg (no_a hc6), if_pos hc7]), rfl⟩
     ·try simp only [zk] at hc7
      refine zK (zU (zQ (zQ (zG (zR 3 rfl ?_)))))
      refine yP ?_
      refine yG (Rd.addC (Rd.blkC 0 rfl) _) ?_
      refine yP ?_
      refine yP ?_
      refine yN ?_
      refine zR 1 rfl ?_
      refine yP ?_
      refine yG (Rd.addC (Rd.blkC 0 rfl) _) ?_
      refine yP ?_
      refine yP ?_
      refine yP ?_
      refine yG (Rd.addC (Rd.blkC 0 rfl) _) ?_
      refine yP ?_
      refine yP ?_
      refine yN ?_
      refine yO ?_
      refine zN (zU ?_)
      refine W.cond rfl (fun hc8 => ?_) (fun hc8 => ?_)
      ·try simp only [zk] at hc8
       refine zQ (zG (zR 1 rfl (zN (zU (zT (wt ?_))))))
       refine sE (E := E) ?_
       refine WE.retF tab_ok [_] rfl ⟨rfl, trivial⟩ (RLe.refl _) ?_
       exact ⟨congrArg (Value.int IntKind.i64) (by rw [chk_spec (m := 20) (by omega) hc0 hc1, hlw, hlt]; rw [if_neg (no_a hc6), if_neg (no_b hc7), if_pos hc8]), rfl⟩
      ·try simp only [zk] at hc8
       refine zK (zU (zQ (zG (zR 1 rfl (zN (zU (zT ?_)))))))
       refine sE (E := E) ?_
       refine WE.retF tab_ok [_] rfl ⟨rfl, trivial⟩ (RLe.refl _) ?_
       exact ⟨congrArg (Value.int IntKind.i64) (by rw [chk_spec (m := 20) (by omega) hc0 hc1, hlw, hlt]; rw [if_neg (no_a hc6), if_neg (no_b hc7), if_neg (no_c hc8)]), rfl⟩



theorem nod_word {s : List UInt8} {d : UInt8} {a i : Nat} (hi : i ≤ s.length) (h : ∀ j, a ≤ j → j < i → byteAt s j ≠ (d.toNat : Int)) : ∀ c ∈ (s.take i).drop a, c ≠ d := fun c hc => by
 obtain ⟨q, hq, rfl⟩ := List.getElem_of_mem hc
 rw [List.length_drop, List.length_take] at hq
 have hqs : a + q < s.length := by omega
 rw [List.getElem_drop, List.getElem_take]
 intro e
 refine h (a + q) qO qO ?_
 unfold byteAt
 rw [List.getD_eq_getElem?_getD, List.getElem?_eq_getElem hqs, Option.getD_some, e]
theorem spl_at {s : List UInt8} {d : UInt8} {a i : Nat} (ha : a ≤ i) (hi : i < s.length) (hd : byteAt s i = (d.toNat : Int)) (h : ∀ j, a ≤ j → j < i → byteAt s j ≠ (d.toNat : Int)) : splC d (s.drop a) = (s.take i).drop a :: splC d (s.drop (i + 1)) := by
 have hdi : s[i] = d := by
  unfold byteAt at hd
  rw [List.getD_eq_getElem?_getD, List.getElem?_eq_getElem hi, Option.getD_some] at hd
  exact UInt8.toNat_inj.1 qO
 have e : s.drop a = (s.take i).drop a ++ d :: s.drop (i + 1) := by
  have e1 : s = s.take i ++ (s[i] :: s.drop (i + 1)) := by rw [← List.drop_eq_getElem_cons hi, List.take_append_drop]
  have e2 := congrArg (List.drop a) e1
  rw [List.drop_append_of_le_length (by rw [List.length_take]; omega), hdi] at e2
  exact e2
 rw [e]
 exact (splC_word _ _ (nod_word qO h)).1
theorem spl_end {s : List UInt8} {d : UInt8} {a : Nat} (ha : a ≤ s.length) (h : ∀ j, a ≤ j → j < s.length → byteAt s j ≠ (d.toNat : Int)) : splC d (s.drop a) = [(s.take s.length).drop a] := by
 have h2 := nod_word (a := a) (Nat.le_refl _) h
 rw [List.take_length] at h2 ⊢
 exact (splC_word _ [] h2).2

set_option maxHeartbeats 1000000 in
theorem Split24_C {R : Ro} {s : List UInt8} {d : UInt8} (hs : s.length ≤ 1000000) (w0 : World) (E : List Ent) : K.Fn Tryz.prog 23 [.string (str s), .int .u8 (d.toNat : Int)] w0 R E (fun v R' E' => ∃ (a : Option Addr) (c : Nat), v = .slice a (splC d s).length c ∧ RS R' 1 encT a (splC d s) ∧ (splC d s).length ≤ c ∧ E' = E) := by
 have hss := str_size s
 refine fE 35 Tryz.func23 ?_
 refine zQ (zG (zR 1 rfl (zN (zU ?_))))
 refine W.nil 9 1 qD ?_
 refine zQ (zG (zR 1 rfl (zN (zU (zQ (zG (zR 1 rfl (zN (zU (zQ (zQ (zG (zR 1 rfl (zN (zU (zB ?_))))))))))))))))
 refine W.loopK (β := Nat × Nat × List (List UInt8) × Option Addr × Nat) (fun (i, fr, ws, a5, c5) => ws.length ≤ i ∧ ((i ≤ s.length ∧ fr ≤ i ∧ ws ++ splC d (s.drop fr) = splC d s ∧ (∀ j, fr ≤ j → j < i → byteAt s j ≠ (d.toNat : Int))) ∨ (i = s.length + 1 ∧ ws = splC d s))) (fun (i, fr, ws, a5, c5) => [(5, true, .slice a5 ws.length c5), (6, true, .int .i64 (fr : Int)), (7, true, .int .i64 (i : Int))]) [0, 1] [_, _] [] _ rfl (fun (i, fr, ws, a5, c5) => [(0, .sl 9 1 a5 c5 (ws.map encT))]) (fun (i, fr, ws, a5, c5) => s.length + 1 - i) ((0, 0, [], none, 0)) (⟨Nat.le_refl _, .inl ⟨Nat.zero_le _, Nat.le_refl _, rfl, fun j h1 h2 => absurd h2 qO⟩⟩) ⟨rfl, rfl, rfl, rfl, rfl, rfl⟩ qS ?_
 intro zz hst
 obtain ⟨i, fr, ws, a5, c5⟩ := zz
 dsimp only [zipE, setAll, List.cons_append, List.nil_append, List.set_cons_zero, List.set_cons_succ] at hst ⊢
 obtain ⟨hwl, hiv⟩ := hst
 refine zQ (zQ (zG (zR 4 rfl (zN (zU ?_)))))
 refine W.condD rfl (fun hc0 => ?_) (fun hc0 => ?_)
 ·try dsimp only at hc0
  rcases hiv with ⟨hi, hfi, hwe, hno⟩ | ⟨hi, _⟩
  rotate_left
  ·omega
  refine zK (zU (zQ (zB (zQ (zG (zR 5 rfl ?_))))))
  refine yP ?_
  refine yP ?_
  refine WG.y rfl rfl (by decide) (Yl.sidx tab_ok rfl rfl rfl rfl rfl qE (by intro hg; (try simp only [zk] at hg); (constructor <;> omega))) ?_
  refine yP ?_
  refine yP ?_
  refine yO ?_
  refine zN (zU ?_)
  refine W.cond rfl (fun hc1 => ?_) (fun hc1 => ?_)
  ·try simp only [zk] at hc1
   refine zQ (zG (zR 4 rfl ?_))
   refine WG.y rfl rfl qD (Yl.sliceSLH tab_ok rfl rfl rfl rfl rfl rfl (fun _ => rfl) (by intro _; (refine ⟨?_, ?_, ?_⟩ <;> omega))) ?_
   refine WL.ef rfl rfl qD (Ef.buildSliceD (enc := encT) (parts := [.tmp 29]) [_] tab_ok rfl rfl rfl rfl rfl rfl rfl rfl qD qD (fun a30 => ?_))
   refine WL.ef rfl rfl (by decide) (Ef.appendD 1 0 tab_ok rfl rfl rfl rfl rfl rfl rfl rfl rfl rfl rfl (fun _ _ => rfl) (by simp only [List.length_cons, List.length_nil]; omega) (by simp only [List.length_cons, List.length_nil]; omega) (fun a31 c31 ha31 => ?_))
   refine zR 1 rfl (zN (zU (zG (zR 1 rfl ?_))))
   refine yA ?_
   refine zR 1 rfl (zN (zL (zU (zG (zR 1 rfl ?_)))))
   refine yA ?_
   refine zR 1 rfl (zN ?_)
   refine WE.again ((i + 1, i + 1, (ws ++ [(s.take i).drop fr]), a31, c31)) (⟨by rw [List.length_append]; show ws.length + 1 ≤ i + 1; omega, by
    show (i + 1 ≤ s.length ∧ i + 1 ≤ i + 1 ∧ (ws ++ [(s.take i).drop fr]) ++ splC d (s.drop (i + 1)) = splC d s ∧ _) ∨ (i + 1 = s.length + 1 ∧ (ws ++ [(s.take i).drop fr]) = splC d s)
    rcases Nat.lt_or_ge i s.length with hil | hil
    ·left
     have hbd : byteAt s i = (d.toNat : Int) := by
      have hbt : byteAt s ((i : Int)).toNat = byteAt s i := rfl
      rw [← hbt]
      rcases hc1 with h | h
      ·omega
      ·exact h
     refine ⟨by omega, Nat.le_refl _, ?_, fun j h1 h2 => absurd h2 (by dsimp only at h1 ⊢; omega)⟩
     rw [List.append_assoc, ← hwe, spl_at hfi hil hbd hno]; rfl
    ·right
     obtain rfl : i = s.length := by omega
     refine ⟨rfl, ?_⟩
     rw [← hwe, spl_end hfi hno]⟩) (by (try dsimp only); omega) ⟨rfl, rfl, rfl, rfl, rfl, rfl⟩ (RLe.refl _) qS
  ·try simp only [zk] at hc1
   have hil : i < s.length := by omega
   have hbi : byteAt s i ≠ (d.toNat : Int) := by
    have hbt : byteAt s ((i : Int)).toNat = byteAt s i := rfl
    rw [← hbt]; first | exact hc1.2 | exact hc1 (by omega) | omega
   refine zK (zL (zU (zG (zR 1 rfl ?_))))
   refine yA ?_
   refine zR 1 rfl (zN ?_)
   refine WE.again ((i + 1, fr, ws, a5, c5)) (⟨by dsimp only; omega, .inl ⟨by dsimp only; omega, by dsimp only; omega, hwe, fun j h1 h2 => by
    by_cases e : j = i
    ·subst e; exact hbi
    ·exact hno j h1 (by dsimp only at h2; omega)⟩⟩) (by (try dsimp only); omega) ⟨rfl, rfl, rfl, rfl, rfl, rfl⟩ (RLe.refl _) qS
 ·try dsimp only at hc0
  rcases hiv with ⟨hi, _⟩ | ⟨hi, hwe⟩
  ·omega
  subst hwe
  refine zX ?_
  refine wx (wx (zY (zU ?_)))
  refine W.cap 0 rfl ?_
  intro hcl
  refine W.freeze (enc := encT) (xs := splC d s) 0 rfl ?_
  intro R1 hR1 hwr
  refine zQ (zG (zR 2 rfl (zN (zU (zT ?_)))))
  refine sE (E := E) ?_
  refine WE.retF tab_ok [_] rfl ⟨rfl, trivial⟩ qR ?_
  exact ⟨a5, c5, rfl, hwr, by simpa using hcl, rfl⟩



set_option maxHeartbeats 1000000 in
theorem Word23_V {R : Ro} {s : List UInt8} (hs : s.length ≤ 9223372036854775807) : FnV Tryz.prog 45 [.string (str s)] R (.bool (wordB s)) := by
 refine Fn.toV (fun w0 E => ?_)
 have hss := str_size s
 have hse : str s = ⟨#[]⟩ ↔ s = [] := ⟨fun h => str_inj (b := []) h, fun h => by rw [h]; rfl⟩
 have h0l : s ≠ [] → 0 < s.length := List.length_pos_iff.2
 refine fE 57 Tryz.func45 ?_
 refine zQ (zG (zR 1 rfl (zN (zU (zQ (zQ (zG (zR 4 rfl ?_))))))))
 refine yP ?_
 refine yP ?_
 refine yP ?_
 refine yO ?_
 refine zR 1 rfl ?_
 refine yP ?_
 refine WG.y rfl rfl (by decide) (Yl.sidx tab_ok rfl rfl rfl rfl rfl qE (by intro hg; (try simp only [zk] at hg); (have h1 := hg; constructor <;> omega))) ?_
 refine yP ?_
 refine yO ?_
 refine zR 1 rfl ?_
 refine yP ?_
 refine WG.y rfl rfl (by decide) (Yl.sidx tab_ok rfl rfl rfl rfl rfl qE (by intro hg; (try simp only [zk] at hg); (have h1 := hg; constructor <;> omega))) ?_
 refine yP ?_
 refine yO ?_
 refine zN (zU ?_)
 refine W.cond rfl (fun hc0 => ?_) (fun hc0 => ?_)
 ·try simp only [zk] at hc0
  have h00 : byteAt s ((0 : Int)).toNat = byteAt s 0 := rfl
  try rw [h00] at hc0
  have hno : wordB s = false := by
   unfold wordB
   rw [decide_eq_false_iff_not]
   rintro ⟨h1, h2, h3, h4⟩
   rcases hc0 with ((h | h) | h) | h
   all_goals omega
  refine zQ (zG (zR 1 rfl (zN (zU (zT (wt ?_))))))
  refine sE (E := E) ?_
  refine WE.retF tab_ok [_] rfl ⟨rfl, trivial⟩ (RLe.refl _) ?_
  exact ⟨by rw [hno]; rfl, rfl⟩
 ·try simp only [zk] at hc0
  have h00 : byteAt s ((0 : Int)).toNat = byteAt s 0 := rfl
  try rw [h00] at hc0
  have hok : 1 ≤ s.length ∧ s.length ≤ 12 ∧ 97 ≤ byteAt s 0 ∧ byteAt s 0 ≤ 122 := by omega
  refine zK (zU (zQ (zQ (zG (zR 1 rfl (zN (zU (zB ?_))))))))
  refine W.loopK (β := Nat) (fun i => i ≤ s.length ∧ ∀ j, j < i → wordOk s j) (fun i => [(3, true, .int .i64 (i : Int))]) [0] [_] [] _ rfl (fun i => []) (fun i => s.length - i) (0) (⟨Nat.zero_le _, fun j hj => by omega⟩) ⟨rfl, rfl, rfl⟩ qS ?_
  intro i hst
  dsimp only [zipE, setAll, List.cons_append, List.nil_append, List.set_cons_zero, List.set_cons_succ] at hst ⊢
  
  refine zQ (zQ (zG (zR 4 rfl (zN (zU ?_)))))
  refine W.condD rfl (fun hc1 => ?_) (fun hc1 => ?_)
  ·try dsimp only at hc1
   have hil : i < s.length := by omega
   have hbt : byteAt s ((i : Int)).toNat = byteAt s i := rfl
   refine zK (zU (zQ (zB (zQ (zG (zR 2 rfl ?_))))))
   refine WG.y rfl rfl qD (Yl.sidx tab_ok rfl rfl rfl rfl rfl (fun _ => rfl) qA) ?_
   refine zR 2 rfl ?_
   refine yP ?_
   refine yP ?_
   refine WG.y rfl rfl (by decide) (Yl.sidx tab_ok rfl rfl rfl rfl rfl qE (by intro hg; (try simp only [zk] at hg); constructor <;> (try dsimp only) <;> omega)) ?_
   refine yP ?_
   refine yN ?_
   refine zR 1 rfl ?_
   refine yP ?_
   refine yP ?_
   refine WG.y rfl rfl (by decide) (Yl.sidx tab_ok rfl rfl rfl rfl rfl qE (by intro hg; (try simp only [zk] at hg); constructor <;> (try dsimp only) <;> omega)) ?_
   refine yP ?_
   refine yP ?_
   refine yP ?_
   refine yP ?_
   refine WG.y rfl rfl (by decide) (Yl.sidx tab_ok rfl rfl rfl rfl rfl qE (by intro hg; (try simp only [zk] at hg); constructor <;> (try dsimp only) <;> omega)) ?_
   refine yP ?_
   refine yN ?_
   refine yO ?_
   refine zR 1 rfl ?_
   refine yP ?_
   refine yP ?_
   refine WG.y rfl rfl (by decide) (Yl.sidx tab_ok rfl rfl rfl rfl rfl qE (by intro hg; (try simp only [zk] at hg); constructor <;> (try dsimp only) <;> omega)) ?_
   refine yP ?_
   refine yO ?_
   refine zR 1 rfl (zN (zU ?_))
   refine W.cond rfl (fun hc2 => ?_) (fun hc2 => ?_)
   ·try simp only [zk] at hc2
    have hno : wordB s = false := by
     unfold wordB
     rw [decide_eq_false_iff_not]
     rintro ⟨h1, h2, h3, h4⟩
     have := h4 i hil
     unfold wordOk at this
     rw [hbt] at hc2
     omega
    refine zQ (zG (zR 1 rfl (zN (zU (zT (wb (wt (wt (wb (wt ?_))))))))))
    refine sE (E := E) ?_
    refine WE.retF tab_ok [_] rfl ⟨rfl, trivial⟩ (RLe.refl _) ?_
    exact ⟨by rw [hno]; rfl, rfl⟩
   ·try simp only [zk] at hc2
    rw [hbt] at hc2
    have hy : wordOk s i := by unfold wordOk; omega
    refine zK (zL (zU (zG (zR 1 rfl ?_))))
    refine yA ?_
    refine zR 1 rfl (zN ?_)
    refine WE.again (i + 1) (⟨by omega, fun j hj => by
     by_cases e : j = i
     ·subst e; exact hy
     ·exact hst.2 j (by omega)⟩) (by (try dsimp only); omega) ⟨rfl, rfl, rfl⟩ (RLe.refl _) qS
  ·try dsimp only at hc1
   obtain rfl : i = s.length := by omega
   refine zX ?_
   refine wx (wx (zY (zU (zQ (zG (zR 1 rfl (zN (zU (zT ?_)))))))))
   refine sE (E := E) ?_
   refine WE.retF tab_ok [_] rfl ⟨rfl, trivial⟩ (RLe.refl _) ?_
   exact ⟨by rw [show wordB s = true from decide_eq_true ⟨hok.1, hok.2.1, hok.2.2, hst.2⟩]; rfl, rfl⟩

set_option maxHeartbeats 1000000 in
theorem RNum24_V {R : Ro} {w : List UInt8} (hw : w.length ≤ 9223372036854775807) : FnV Tryz.prog 72 [.string (str w)] R (.tuple #[.int .i64 (num9V w : Int), .bool (num9 w)]) := by
 refine Fn.toV (fun w0 E => ?_)
 have hss := str_size w
 have hse : str w = ⟨#[]⟩ ↔ w = [] := ⟨fun h => str_inj (b := []) h, fun h => by rw [h]; rfl⟩
 have h0l : w ≠ [] → 0 < w.length := List.length_pos_iff.2
 refine fE 49 Tryz.func72 ?_
 refine zQ (zG (zR 2 rfl (zN (zU (zQ (zQ (zG (zR 4 rfl ?_))))))))
 refine yP ?_
 refine yP ?_
 refine yP ?_
 refine yO ?_
 refine zR 1 rfl ?_
 refine yP ?_
 refine WG.y rfl rfl (by decide) (Yl.sidx tab_ok rfl rfl rfl rfl rfl qE (by intro hg; (try simp only [zk] at hg); (have h1 := hg; constructor <;> omega))) ?_
 refine yP ?_
 refine yP ?_
 refine yP ?_
 refine yP ?_
 refine yP ?_
 refine yN ?_
 refine yO ?_
 refine zN (zU ?_)
 refine W.cond rfl (fun hc0 => ?_) (fun hc0 => ?_)
 ·try simp only [zk] at hc0
  have h00 : byteAt w ((0 : Int)).toNat = byteAt w 0 := rfl
  try rw [h00] at hc0
  have hno : num9 w = false := by
   unfold num9
   rw [Bool.and_eq_false_iff, decide_eq_false_iff_not]
   rcases hc0 with (h | h) | h
   ·left
    unfold digs
    rw [decide_eq_false_iff_not]
    rintro ⟨h1, _⟩
    exact h1 (List.length_eq_zero_iff.1 qO)
   ·right; omega
   ·left
    unfold digs
    rw [decide_eq_false_iff_not]
    rintro ⟨_, h2, _⟩
    exact h2 ⟨by omega, h.1⟩
  refine zQ (zG (zR 2 rfl (zN (zU (zT (wt ?_))))))
  refine sE (E := E) ?_
  refine WE.retF tab_ok [_, _] rfl ⟨rfl, rfl, trivial⟩ (RLe.refl _) ?_
  exact ⟨by unfold num9V; rw [hno]; rfl, rfl⟩
 ·try simp only [zk] at hc0
  have h00 : byteAt w ((0 : Int)).toNat = byteAt w 0 := rfl
  try rw [h00] at hc0
  have hy : w ≠ [] ∧ ¬ (1 < w.length ∧ byteAt w 0 = 48) ∧ w.length ≤ 9 := by
   refine ⟨fun h => ?_, fun h => ?_, ?_⟩
   ·have := congrArg List.length h; simp only [List.length_nil] at this; omega
   ·omega
   ·omega
  refine zK (zU (zQ (zG (zR 1 rfl (zN (zU (zQ (zQ (zG (zR 1 rfl (zN (zU (zB ?_)))))))))))))
  refine W.loopK (β := Nat) (fun i => i ≤ w.length ∧ ∀ j, j < i → 48 ≤ byteAt w j ∧ byteAt w j ≤ 57) (fun i => [(4, true, .int .i64 (numV (w.take i) : Int)), (5, true, .int .i64 (i : Int))]) [0] [_] [] _ rfl (fun i => []) (fun i => w.length - i) (0) (⟨Nat.zero_le _, fun j hj => by omega⟩) ⟨rfl, rfl, rfl, rfl⟩ qS ?_
  intro i hst
  dsimp only [zipE, setAll, List.cons_append, List.nil_append, List.set_cons_zero, List.set_cons_succ] at hst ⊢
  
  refine zQ (zQ (zG (zR 4 rfl (zN (zU ?_)))))
  refine W.condD rfl (fun hc1 => ?_) (fun hc1 => ?_)
  ·try dsimp only at hc1
   have hil : i < w.length := by omega
   have hbt : byteAt w ((i : Int)).toNat = byteAt w i := rfl
   have hnl := numV_lt (by omega) hst.2
   have hp9 := pow9 (show i ≤ 9 by omega)
   refine zK (zU (zQ (zB (zQ (zQ (zG (zR 2 rfl ?_)))))))
   refine WG.y rfl rfl qD (Yl.sidx tab_ok rfl rfl rfl rfl rfl (fun _ => rfl) qA) ?_
   refine zR 2 rfl ?_
   refine yP ?_
   refine yP ?_
   refine WG.y rfl rfl (by decide) (Yl.sidx tab_ok rfl rfl rfl rfl rfl qE (by intro hg; (try simp only [zk] at hg); constructor <;> (try dsimp only) <;> omega)) ?_
   refine yP ?_
   refine yO ?_
   refine zN (zU ?_)
   refine W.cond rfl (fun hc2 => ?_) (fun hc2 => ?_)
   ·try simp only [zk] at hc2
    have hno : num9 w = false := by
     unfold num9
     rw [Bool.and_eq_false_iff, decide_eq_false_iff_not]
     left
     unfold digs
     rw [decide_eq_false_iff_not]
     rintro ⟨_, _, h3⟩
     have := h3 i hil
     rw [hbt] at hc2
     omega
    refine zQ (zG (zR 2 rfl (zN (zU (zT (wt (wb (wt (wt (wb (wt ?_)))))))))))
    refine sE (E := E) ?_
    refine WE.retF tab_ok [_, _] rfl ⟨rfl, rfl, trivial⟩ (RLe.refl _) ?_
    exact ⟨by unfold num9V; rw [hno]; rfl, rfl⟩
   ·try simp only [zk] at hc2
    rw [hbt] at hc2
    have hyd : 48 ≤ byteAt w i ∧ byteAt w i ≤ 57 := by omega
    refine zK (zU (zG (zR 1 rfl ?_)))
    refine WG.y rfl rfl qD (Yl.mul rfl rfl rfl (fun _ => rfl) qA) ?_
    refine zR 2 rfl ?_
    refine WG.y rfl rfl qD (Yl.sidx tab_ok rfl rfl rfl rfl rfl (fun _ => rfl) qA) ?_
    refine WG.y rfl rfl qD (Yl.subB rfl rfl rfl (fun _ => rfl) qA) ?_
    refine WG.y rfl rfl qD (Yl.convId tab_ok rfl rfl rfl rfl rfl rfl (fun _ => rfl) (by intro _; (try dsimp only); first | exact u64_id ⟨by omega, by omega⟩ | exact i64_wrap ⟨by omega, by omega⟩ | exact u8_id ⟨by omega, by omega⟩)) ?_
    refine yA ?_
    refine zR 1 rfl (zN (zL (zU (zG (zR 1 rfl ?_)))))
    refine yA ?_
    refine zR 1 rfl (zN ?_)
    refine WE.again (i + 1) (⟨by omega, fun j hj => by
     by_cases e : j = i
     ·subst e; exact hyd
     ·exact hst.2 j (by omega)⟩) (by (try dsimp only); omega) ⟨vint (by rw [numV_next hil hyd]; rw [hbt]), rfl, rfl, rfl⟩ (RLe.refl _) qS
  ·try dsimp only at hc1
   obtain rfl : i = w.length := by omega
   refine zX ?_
   refine wx (wx (zY (zU (zQ (zG (zR 3 rfl (zN (zU (zT ?_)))))))))
   refine sE (E := E) ?_
   refine WE.retF tab_ok [_, _] rfl ⟨rfl, rfl, trivial⟩ (RLe.refl _) ?_
   have hyes : num9 w = true := by unfold num9; rw [show digs w = true from decide_eq_true ⟨hy.1, hy.2.1, hst.2⟩, decide_eq_true hy.2.2]; rfl
   exact ⟨by unfold num9V; rw [hyes, if_pos rfl, List.take_length]; rfl, rfl⟩



theorem RDec_pre (u : Nat) : ((UInt8.ofNat (48 + u % 10)).toNat : Int) = 48 + ((u % 10 : Nat) : Int) := by rw [UInt8.toNat_ofNat']; omega

theorem RDec24_V {R : Ro} (u : Nat) : u ≤ 1000000000 → FnV Tryz.prog 40 [.int .i64 (u : Int)] R (.string (str (Lib.decDigits u))) := by
 refine Nat.strongRecOn (motive := fun u => u ≤ 1000000000 → FnV Tryz.prog 40 [.int .i64 (u : Int)] R (.string (str (Lib.decDigits u)))) u (fun u ih hu => ?_)
 refine Fn.toVS (fun w0 E => ?_)
 have hby := RDec_pre u
 have hcv : (48 + (u : Int) % 10) = ((UInt8.ofNat (48 + u % 10)).toNat : Int) := by rw [hby]; omega
 have hdl := decDigits_le (u / 10)
 refine fE 26 Tryz.func40 ?_
 refine zQ (zG (zR 1 rfl (zN (zU (zQ (zQ (zG (zR 2 rfl (zN (zU ?_))))))))))
 refine W.condD rfl (fun hc0 => ?_) (fun hc0 => ?_)
 ·try dsimp only at hc0
  omega
 ·try dsimp only at hc0
  refine zK (zU (zQ (zQ (zG (zR 2 rfl (zN (zU ?_)))))))
  refine W.condD rfl (fun hc1 => ?_) (fun hc1 => ?_)
  ·try dsimp only at hc1
   have hcv2 : 48 + (u : Int) = ((UInt8.ofNat (48 + u % 10)).toNat : Int) := by rw [hby]; omega
   have hdd : Lib.decDigits u = [UInt8.ofNat (48 + u % 10)] := by rw [Lib.decDigits, dif_pos (by omega), show u % 10 = u by omega]
   refine zQ (zG (zR 1 rfl ?_))
   refine yA ?_
   refine WG.y rfl rfl (by decide) (Yl.conv (b := ((UInt8.ofNat (48 + u % 10)).toNat : Int)) tab_ok rfl rfl rfl rfl rfl rfl (fun _ => rfl) (by intro _; rw [hcv2]; exact u8_id ⟨by omega, by omega⟩)) ?_
   refine WL.ef rfl rfl qD (Ef.buildSliceD (enc := encY) (parts := [.tmp 13]) [UInt8.ofNat (48 + u % 10)] tab_ok rfl rfl rfl rfl rfl rfl rfl rfl qD qD (fun a14 => ?_))
   refine WG.y rfl rfl (by decide) (Yl.bytesStr (l := [UInt8.ofNat (48 + u % 10)]) 0 tab_ok rfl rfl rfl rfl rfl rfl rfl rfl rfl rfl (by simp) (fun _ => rfl)) ?_
   refine zR 1 rfl (zN (zU (zT (wt ?_))))
   refine WE.retF tab_ok [_] rfl ⟨rfl, trivial⟩ (RLe.refl _) ?_
   exact ⟨by rw [hdd]; rfl, qS⟩
  ·try dsimp only at hc1
   have hdd : Lib.decDigits u = Lib.decDigits (u / 10) ++ [UInt8.ofNat (48 + u % 10)] := by rw [Lib.decDigits, dif_neg (by omega)]
   refine zK (zU (zQ ?_))
   refine W.regionH _ (ES := []) mixed ?_
   refine tP 0 ?_
   refine WA.take 1 rfl qK qK qK rfl rfl qD (Yl.quo rfl rfl rfl (fun _ => rfl) qA (by intro _; omega)) qS qR ?_
   refine tP 3 ?_
   refine WA.take 4 rfl qK qK qK rfl rfl qD (Yl.rem rfl rfl rfl (fun _ => rfl) qN qN) qS qR ?_
   refine tA 5 ?_
   refine WA.take 6 rfl (by kernel_rfl) (by kernel_rfl) (by kernel_rfl) rfl rfl (by decide) (Yl.conv (b := ((UInt8.ofNat (48 + u % 10)).toNat : Int)) tab_ok rfl rfl rfl rfl rfl rfl (fun _ => rfl) (by intro _; rw [hcv]; exact u8_id ⟨by omega, by omega⟩)) qS (by first | exact RLe.refl _ | assumption) ?_
   refine WA.br2 (i := 2) (j := 7) qK ?_ ?_
   ·
    refine WS.callG rfl en40 rfl (by first | rfl | decide) rfl qD (CallOp.mkT rfl rfl rfl rfl) ((FnV.toFn (by have h := ih (u / 10) qO qO; exact h) : K.Fn _ _ _ w0 R _ (fun v' R' E' => v' = .string (str (Lib.decDigits (u / 10))) ∧ R' = R ∧ E' = _))) ?_
    rintro _ _ _ - ⟨rfl, rfl, rfl⟩
    refine ⟨RLe.refl _, qS, ?_⟩
    refine WA.eff 7 rfl qK rfl rfl qD (Ef.buildSliceD (enc := encY) (parts := [.tmp 22]) [UInt8.ofNat (48 + u % 10)] tab_ok rfl rfl rfl rfl rfl rfl rfl rfl qD qD (fun a23 => ?_))
    refine ⟨qR, qS, ?_⟩
    refine WA.yl 8 rfl (by kernel_rfl) rfl rfl (by decide) (Yl.bytesStr (l := [UInt8.ofNat (48 + u % 10)]) 0 tab_ok rfl rfl rfl rfl rfl rfl rfl rfl rfl rfl (by simp) (fun _ => rfl)) qS (by first | exact RLe.refl _ | assumption) ?_
    refine WA.take 9 rfl (by kernel_rfl) (by kernel_rfl) (by kernel_rfl) rfl rfl (by decide) (Yl.catS rfl rfl rfl (fun _ => rfl) (by intro _; (simp only [List.length_cons, List.length_nil]; omega))) qS (by first | exact RLe.refl _ | assumption) ?_
    refine tP 10 ?_
    refine WA.done qK ?_
    refine zU (zT ?_)
    refine WE.retF tab_ok [_] rfl ⟨rfl, trivial⟩ (RLe.refl _) ?_
    exact ⟨by rw [hdd]; rfl, qS⟩
   ·
    refine WS.eff rfl rfl rfl qD (Ef.buildSliceD (enc := encY) (parts := [.tmp 22]) [UInt8.ofNat (48 + u % 10)] tab_ok rfl rfl rfl rfl rfl rfl rfl rfl qD qD (fun a23 => ?_))
    refine ⟨qR, qS, ?_⟩
    refine WA.br2 (i := 2) (j := 8) qK ?_ ?_
    ·
     refine WS.callG rfl en40 rfl (by first | rfl | decide) rfl qD (CallOp.mkT rfl rfl rfl rfl) ((FnV.toFn (by have h := ih (u / 10) qO qO; exact h) : K.Fn _ _ _ w0 R _ (fun v' R' E' => v' = .string (str (Lib.decDigits (u / 10))) ∧ R' = R ∧ E' = _))) ?_
     rintro _ _ _ - ⟨rfl, rfl, rfl⟩
     refine ⟨RLe.refl _, qS, ?_⟩
     refine WA.yl 8 rfl (by kernel_rfl) rfl rfl (by decide) (Yl.bytesStr (l := [UInt8.ofNat (48 + u % 10)]) 0 tab_ok rfl rfl rfl rfl rfl rfl rfl rfl rfl rfl (by simp) (fun _ => rfl)) qS (by first | exact RLe.refl _ | assumption) ?_
     refine WA.take 9 rfl (by kernel_rfl) (by kernel_rfl) (by kernel_rfl) rfl rfl (by decide) (Yl.catS rfl rfl rfl (fun _ => rfl) (by intro _; (simp only [List.length_cons, List.length_nil]; omega))) qS (by first | exact RLe.refl _ | assumption) ?_
     refine tP 10 ?_
     refine WA.done qK ?_
     refine zU (zT ?_)
     refine WE.retF tab_ok [_] rfl ⟨rfl, trivial⟩ (RLe.refl _) ?_
     exact ⟨by rw [hdd]; rfl, qS⟩
    ·
     refine WS.yl rfl rfl rfl (by decide) (Yl.bytesStr (l := [UInt8.ofNat (48 + u % 10)]) 0 tab_ok rfl rfl rfl rfl rfl rfl rfl rfl rfl rfl (by simp) (fun _ => rfl)) qS (by first | exact RLe.refl _ | assumption) ?_
     refine WA.callG 2 rfl qK en40 rfl (by first | rfl | decide) rfl qD (CallOp.mkT rfl rfl rfl rfl) ((FnV.toFn (by have h := ih (u / 10) qO qO; exact h) : K.Fn _ _ _ w0 R _ (fun v' R' E' => v' = .string (str (Lib.decDigits (u / 10))) ∧ R' = R ∧ E' = _))) ?_
     rintro _ _ _ - ⟨rfl, rfl, rfl⟩
     refine ⟨RLe.refl _, qS, ?_⟩
     refine WA.take 9 rfl (by kernel_rfl) (by kernel_rfl) (by kernel_rfl) rfl rfl (by decide) (Yl.catS rfl rfl rfl (fun _ => rfl) (by intro _; (simp only [List.length_cons, List.length_nil]; omega))) qS (by first | exact RLe.refl _ | assumption) ?_
     refine tP 10 ?_
     refine WA.done qK ?_
     refine zU (zT ?_)
     refine WE.retF tab_ok [_] rfl ⟨rfl, trivial⟩ (RLe.refl _) ?_
     exact ⟨by rw [hdd]; rfl, qS⟩



theorem RDec24z_V {R : Ro} {z : Int} (h0 : 0 ≤ z) (h1 : z ≤ 1000000000) : FnV Tryz.prog 40 [.int .i64 z] R (.string (str (Lib.decDigits z.toNat))) := by
 have h := RDec24_V (R := R) z.toNat (by omega)
 rw [Int.toNat_of_nonneg h0] at h
 exact h
theorem join_snoc {d : UInt8} : ∀ {xs : List (List UInt8)} {y : List UInt8}, xs ≠ [] → Lib.join (xs ++ [y]) [d] = Lib.join xs [d] ++ [d] ++ y
 | [], _, h => absurd rfl h
 | [x], y, _ => by
  rw [show ([x] ++ [y] : List (List UInt8)) = x :: y :: [] from rfl, join_cons, show Lib.join [y] [d] = y by simp [Lib.join, List.intercalate], show Lib.join [x] [d] = x by simp [Lib.join, List.intercalate]]
 | x :: z :: r, y, _ => by
  have ih := join_snoc (d := d) (xs := z :: r) (y := y) (by simp)
  rw [show (x :: z :: r) ++ [y] = x :: z :: (r ++ [y]) from rfl, join_cons, show z :: (r ++ [y]) = (z :: r) ++ [y] from rfl, ih, join_cons]
  simp only [List.append_assoc]

set_option maxHeartbeats 1000000 in
theorem RList24_V {R : Ro} {a : Option Addr} {c : Nat} {l : List Int} (hl : K.RS R 1 encI a l) (hn : l.length ≤ 100000) (hz : ∀ x ∈ l, x ≤ 999999) : FnV Tryz.prog 47 [.slice a l.length c] R (.string (str (lstS l))) := by
 refine Fn.toV (fun w0 E => ?_)
 have hll := hl.len
 refine fE 30 Tryz.func47 ?_
 refine zQ (zG (zR 1 rfl (zN (zU (zQ (zG (zR 1 rfl (zN (zU (zQ (zQ (zG (zR 1 rfl (zN (zU (zB ?_))))))))))))))))
 refine W.loopK (β := Nat) (fun i => i ≤ l.length) (fun i => [(3, true, .string (str (Lib.join ((l.take i).map lstW) [44]))), (4, true, .int .i64 (i : Int))]) [0] [_] [] _ rfl (fun i => []) (fun i => l.length - i) (0) (Nat.zero_le _) ⟨rfl, rfl, rfl, rfl⟩ qS ?_
 intro i hst
 dsimp only [zipE, setAll, List.cons_append, List.nil_append, List.set_cons_zero, List.set_cons_succ] at hst ⊢
 have hi := hst
 have hjl := join_le (k := 7) ((l.take i).map lstW) 44 (fun w hw => by
  obtain ⟨x, hx, rfl⟩ := List.mem_map.1 hw
  unfold lstW
  split
  ·exact Nat.le_trans (decD_le 6 _ (by decide) (by have := hz x (List.mem_of_mem_take hx); omega)) (by decide)
  ·decide)
 rw [List.length_map, List.length_take] at hjl
 refine zQ (zQ (zG (zR 4 rfl (zN (zU ?_)))))
 refine W.condD rfl (fun hc0 => ?_) (fun hc0 => ?_)
 ·try dsimp only at hc0
  have hil : i < l.length := by omega
  have hzi := hz _ (nth_mem hil)
  refine zK (zU (zQ (zB (zQ (zQ (zG (zR 2 rfl (zN (zU ?_)))))))))
  refine W.condD rfl (fun hc1 => ?_) (fun hc1 => ?_)
  ·try dsimp only at hc1
   have hne : (l.take i).map lstW ≠ [] := fun h => by have := congrArg List.length h; rw [List.length_map, List.length_take] at this; simp only [List.length_nil] at this; omega
   refine zG (zR 1 rfl ?_)
   refine WG.y rfl rfl (by decide) (Yl.catS rfl rfl rfl (fun _ => rfl) (by intro _; (simp only [List.length_cons, List.length_nil]; omega))) ?_
   refine zR 1 rfl (zN (zU (zQ (zG (zR 2 rfl ?_)))))
   refine WG.y rfl rfl qD (Yl.indexN tab_ok rfl rfl rfl rfl rfl rfl (fun _ => rfl) qN qH) ?_
   refine' WG.y rfl rfl qD (Yl.load1 tab_ok rfl rfl rfl (fun _ => rfl) ?r1 rfl ?h1) ?_
   case r1 => exact RS.rdD hl hil
   case h1 => rfl
   refine zR 1 rfl (zN (zU ?_))
   refine W.condD rfl (fun hc2 => ?_) (fun hc2 => ?_)
   ·try dsimp only at hc2
    have hW : lstW (nth l i) = [45] := if_neg (by omega)
    refine zG (zR 1 rfl ?_)
    refine WG.y rfl rfl (by decide) (Yl.catS rfl rfl rfl (fun _ => rfl) (by intro _; ((try simp only [List.length_append, List.length_cons, List.length_nil]); omega))) ?_
    refine zR 1 rfl (zN (zL (zU (zG (zR 1 rfl ?_)))))
    refine yA ?_
    refine zR 1 rfl (zN ?_)
    rw [show (Lib.join ((l.take i).map lstW) [44]) ++ [44] ++ [45] = Lib.join ((l.take (i + 1)).map lstW) [44] from by rw [take_nth hil, List.map_append, List.map_singleton, join_snoc hne, hW]]
    refine WE.again (i + 1) (by show i + 1 ≤ _; omega) (by (try dsimp only); omega) ⟨rfl, rfl, rfl, rfl⟩ (RLe.refl _) qS
   ·try dsimp only at hc2
    have hW : lstW (nth l i) = Lib.decDigits (nth l i).toNat := if_pos (by omega)
    refine zG (zR 3 rfl ?_)
    refine WG.y rfl rfl qD (Yl.indexN tab_ok rfl rfl rfl rfl rfl rfl (fun _ => rfl) qN qH) ?_
    refine' WG.y rfl rfl qD (Yl.load1 tab_ok rfl rfl rfl (fun _ => rfl) ?r2 rfl ?h2) ?_
    case r2 => exact RS.rdD hl hil
    case h2 => rfl
    refine WG.callV en40 rfl rfl qD (CallOp.mk' rfl rfl rfl rfl) (fun _ => rfl) (fun hg => RDec24z_V (z := nth l i) qO qO) ?_
    refine WG.y rfl rfl (by decide) (Yl.catS rfl rfl rfl (fun _ => rfl) (by intro _; (have := decD_le 6 (nth l i).toNat (by decide) (by omega); (try simp only [List.length_append, List.length_cons, List.length_nil]); omega))) ?_
    refine zR 1 rfl (zN (zL (zU (zG (zR 1 rfl ?_)))))
    refine yA ?_
    refine zR 1 rfl (zN ?_)
    rw [show (Lib.join ((l.take i).map lstW) [44]) ++ [44] ++ Lib.decDigits (nth l i).toNat = Lib.join ((l.take (i + 1)).map lstW) [44] from by rw [take_nth hil, List.map_append, List.map_singleton, join_snoc hne, hW]]
    refine WE.again (i + 1) (by show i + 1 ≤ _; omega) (by (try dsimp only); omega) ⟨rfl, rfl, rfl, rfl⟩ (RLe.refl _) qS
  ·try dsimp only at hc1
   have hi0 : i = 0 := by omega
   have ht0 : (l.take i).map lstW = [] := by rw [hi0]; rfl
   refine zK (zU (zQ (zG (zR 2 rfl ?_))))
   refine WG.y rfl rfl qD (Yl.indexN tab_ok rfl rfl rfl rfl rfl rfl (fun _ => rfl) qN qH) ?_
   refine' WG.y rfl rfl qD (Yl.load1 tab_ok rfl rfl rfl (fun _ => rfl) ?r3 rfl ?h3) ?_
   case r3 => exact RS.rdD hl hil
   case h3 => rfl
   refine zR 1 rfl (zN (zU ?_))
   refine W.condD rfl (fun hc3 => ?_) (fun hc3 => ?_)
   ·try dsimp only at hc3
    have hW : lstW (nth l i) = [45] := if_neg (by omega)
    refine zG (zR 1 rfl ?_)
    refine WG.y rfl rfl (by decide) (Yl.catS rfl rfl rfl (fun _ => rfl) (by intro _; ((try simp only [List.length_append, List.length_cons, List.length_nil]); omega))) ?_
    refine zR 1 rfl (zN (zL (zU (zG (zR 1 rfl ?_)))))
    refine yA ?_
    refine zR 1 rfl (zN ?_)
    rw [show (Lib.join ((l.take i).map lstW) [44]) ++ [45] = Lib.join ((l.take (i + 1)).map lstW) [44] from by rw [take_nth hil, List.map_append, List.map_singleton, ht0, hW]; simp [Lib.join, List.intercalate]]
    refine WE.again (i + 1) (by show i + 1 ≤ _; omega) (by (try dsimp only); omega) ⟨rfl, rfl, rfl, rfl⟩ (RLe.refl _) qS
   ·try dsimp only at hc3
    have hW : lstW (nth l i) = Lib.decDigits (nth l i).toNat := if_pos (by omega)
    refine zG (zR 3 rfl ?_)
    refine WG.y rfl rfl qD (Yl.indexN tab_ok rfl rfl rfl rfl rfl rfl (fun _ => rfl) qN qH) ?_
    refine' WG.y rfl rfl qD (Yl.load1 tab_ok rfl rfl rfl (fun _ => rfl) ?r4 rfl ?h4) ?_
    case r4 => exact RS.rdD hl hil
    case h4 => rfl
    refine WG.callV en40 rfl rfl qD (CallOp.mk' rfl rfl rfl rfl) (fun _ => rfl) (fun hg => RDec24z_V (z := nth l i) qO qO) ?_
    refine WG.y rfl rfl (by decide) (Yl.catS rfl rfl rfl (fun _ => rfl) (by intro _; (have := decD_le 6 (nth l i).toNat (by decide) (by omega); (try simp only [List.length_append, List.length_cons, List.length_nil]); omega))) ?_
    refine zR 1 rfl (zN (zL (zU (zG (zR 1 rfl ?_)))))
    refine yA ?_
    refine zR 1 rfl (zN ?_)
    rw [show (Lib.join ((l.take i).map lstW) [44]) ++ Lib.decDigits (nth l i).toNat = Lib.join ((l.take (i + 1)).map lstW) [44] from by rw [take_nth hil, List.map_append, List.map_singleton, ht0, hW]; simp [Lib.join, List.intercalate]]
    refine WE.again (i + 1) (by show i + 1 ≤ _; omega) (by (try dsimp only); omega) ⟨rfl, rfl, rfl, rfl⟩ (RLe.refl _) qS
 ·try dsimp only at hc0
  obtain rfl : i = l.length := by omega
  refine zX ?_
  refine wx (wx (zY (zU (zQ (zG (zR 2 rfl (zN (zU (zT ?_)))))))))
  refine sE (E := E) ?_
  refine WE.retF tab_ok [_] rfl ⟨rfl, trivial⟩ (RLe.refl _) ?_
  exact ⟨by rw [List.take_length]; rfl, rfl⟩



set_option maxHeartbeats 1000000 in
theorem RNums24_C {R : Ro} {s : List UInt8} {fr : Bool} (hs : s.length ≤ 1000000) (w0 : World) (E : List Ent) : K.Fn Tryz.prog 73 [.string (str s), .bool fr] w0 R E (fun v R' E' => ∃ (a : Option Addr) (c : Nat), v = .tuple #[.slice a (numsL fr s).length c, .bool (numsO fr s)] ∧ RS R' 1 encI a (numsL fr s) ∧ (numsL fr s).length ≤ c ∧ E' = E) := by
 
 refine fE 45 Tryz.func73 ?_
 refine zQ (zG (zR 2 rfl (zN (zU (zQ (zG (zR 1 rfl (zN (zU ?_)))))))))
 refine W.nil 3 1 qD ?_
 refine zQ (zG (zR 1 rfl ?_))
 refine WL.call en23 rfl rfl qD (CallOp.mkT rfl rfl rfl rfl) (Split24_C (s := s) (d := 44) qO w0 _) ?_
 rintro _ R1 _ hR1 ⟨a12, c12, rfl, hws, _, rfl⟩
 have hRR := hR1
 have hwl := splC_len 44 s
 have hwm := splC_mem 44 s
 generalize hwg : splC 44 s = ws at hws hwl hwm ⊢
 refine zR 1 rfl (zN (zU (zQ (zQ (zG (zR 1 rfl (zN (zU (zB ?_)))))))))
 refine W.loopK (β := Nat × List Int × Option Addr × Nat) (fun (i, xs, a6, c6) => i ≤ ws.length ∧ xs.length = i ∧ (ws.take i).all (okN9 fr) = true ∧ xs = (ws.take i).map (valN9 fr)) (fun (i, xs, a6, c6) => [(6, true, .slice a6 xs.length c6), (8, true, .int .i64 (i : Int))]) [1, 7] [_, _] [] _ rfl (fun (i, xs, a6, c6) => [(0, .sl 3 1 a6 c6 (xs.map encI))]) (fun (i, xs, a6, c6) => ws.length - i) ((0, [], none, 0)) (⟨Nat.zero_le _, rfl, rfl, rfl⟩) ⟨rfl, rfl, rfl, rfl, rfl⟩ qS ?_
 intro zz hst
 obtain ⟨i, xs, a6, c6⟩ := zz
 dsimp only [zipE, setAll, List.cons_append, List.nil_append, List.set_cons_zero, List.set_cons_succ] at hst ⊢
 obtain ⟨hi, hxl, hal, hxv⟩ := hst
 refine zQ (zQ (zG (zR 4 rfl (zN (zU ?_)))))
 refine W.condD rfl (fun hc0 => ?_) (fun hc0 => ?_)
 ·try dsimp only at hc0
  have hil : i < ws.length := by omega
  have hwi := hwm _ (nth_mem hil)
  refine zK (zU (zQ (zB (zQ (zQ (zG (zR 2 rfl ?_)))))))
  refine yP ?_
  refine yP ?_
  refine WG.y rfl rfl (by decide) (Yl.indexN tab_ok rfl rfl rfl rfl rfl rfl qE (by intro hg; (try simp only [zk] at hg); (try dsimp only) <;> omega) (by intro hg; (try simp only [zk] at hg); first | exact qI)) ?_
  refine' WG.y rfl rfl qD (Yl.loadG tab_ok rfl rfl rfl qE ?r1 rfl ?h1 ?g1) ?_
  case r1 => exact fun _ => RS.rdD hws hil
  case h1 => rfl
  case g1 => exact fun _ => trivial
  refine WG.y rfl rfl qD (Yl.eqS rfl rfl rfl qE) ?_
  refine yN ?_
  refine zN (zU ?_)
  refine W.cond rfl (fun hc1 => ?_) (fun hc1 => ?_)
  ·try simp only [zk] at hc1
   have h45 : (fr && decide (nth ws i = [45])) = true := by rw [Bool.and_eq_true, decide_eq_true_eq]; exact ⟨hc1.1, str_inj (b := [45]) hc1.2⟩
   refine zQ (zG (zR 1 rfl ?_))
   refine WL.ef rfl rfl qD (Ef.buildSliceD (enc := encI) (parts := [.const (.int .i64 (-1))]) [_] tab_ok rfl rfl rfl rfl rfl rfl rfl rfl qD qD (fun a28 => ?_))
   refine WL.ef rfl rfl (by decide) (Ef.appendD 1 0 tab_ok rfl rfl rfl rfl rfl rfl rfl rfl rfl rfl rfl (fun _ _ => rfl) (by simp only [List.length_cons, List.length_nil]; omega) (by simp only [List.length_cons, List.length_nil]; omega) (fun a29 c29 ha29 => ?_))
   refine zR 1 rfl (zN (zU ?_))
   refine zX ?_
   refine wx (zY (zU (zG (zR 1 rfl ?_))))
   refine yA ?_
   refine zR 1 rfl (zN ?_)
   refine WE.again ((i + 1, xs ++ [-1], a29, c29)) (⟨by omega, by rw [List.length_append, hxl]; rfl, by
    show (ws.take (i + 1)).all _ = true
    rw [take_nth hil, List.all_append, hal, List.all_cons, List.all_nil]
    unfold okN9
    rw [h45]; rfl, by
    show _ = (ws.take (i + 1)).map _
    rw [take_nth hil, List.map_append, List.map_singleton, ← hxv, show valN9 fr (nth ws i) = -1 from if_pos h45]⟩) (by (try dsimp only); omega) ⟨rfl, rfl, rfl, rfl, rfl⟩ (RLe.refl _) qS
  ·try simp only [zk] at hc1
   have h45 : (fr && decide (nth ws i = [45])) = false := by
    rw [Bool.and_eq_false_iff, decide_eq_false_iff_not]
    cases hf : fr with
    | false => left; rfl
    | true => right; intro h; rw [h] at hc1; first | exact hc1 ⟨hf, rfl⟩ | exact hc1 hf rfl
   refine zK (zU (zQ (zG (zR 2 rfl ?_))))
   refine WG.y rfl rfl qD (Yl.indexN tab_ok rfl rfl rfl rfl rfl rfl (fun _ => rfl) qN qH) ?_
   refine' WG.y rfl rfl qD (Yl.load1 tab_ok rfl rfl rfl (fun _ => rfl) ?r2 rfl ?h2) ?_
   case r2 => exact RS.rdD hws hil
   case h2 => rfl
   refine WG.callV en72 rfl rfl qD (CallOp.mk' rfl rfl rfl rfl) (fun _ => rfl) (fun hg => RNum24_V (w := nth ws i) qO) ?_
   refine zR 5 rfl (zN (zU (zQ (zQ (zG (zR 2 rfl (zN (zU ?_))))))))
   refine W.cond rfl (fun hc2 => ?_) (fun hc2 => ?_)
   ·try simp only [zk] at hc2
    have h9 : num9 (nth ws i) = false := by simpa using hc2
    have hno : numsO fr s = false := by
     unfold numsO
     rw [hwg, List.all_eq_false]
     exact ⟨_, nth_mem hil, by unfold okN9; rw [h45, h9]; decide⟩
    refine zQ (zG (zR 2 rfl (zN (zU (zT (wt (wb (wt (wt (wb (wt ?_)))))))))))
    refine sE (E := E) ?_
    refine WE.retF tab_ok [_, _] rfl ⟨rfl, rfl, trivial⟩ (hRR) ?_
    have hL : numsL fr s = [] := if_neg (by rw [hno]; decide)
    exact ⟨none, 0, by rw [hno, hL]; rfl, by rw [hL]; exact ⟨by simp, .inl rfl, by simp⟩, by rw [hL]; exact Nat.le_refl _, rfl⟩
   ·try simp only [zk] at hc2
    have h9 : num9 (nth ws i) = true := by simpa using hc2
    refine zK (zU (zG (zR 2 rfl ?_)))
    refine WL.ef rfl rfl qD (Ef.buildSliceD (enc := encI) (parts := [.tmp 41]) [_] tab_ok rfl rfl rfl rfl rfl rfl rfl rfl qD qD (fun a42 => ?_))
    refine WL.ef rfl rfl (by decide) (Ef.appendD 1 0 tab_ok rfl rfl rfl rfl rfl rfl rfl rfl rfl rfl rfl (fun _ _ => rfl) (by simp only [List.length_cons, List.length_nil]; omega) (by simp only [List.length_cons, List.length_nil]; omega) (fun a43 c43 ha43 => ?_))
    refine zR 1 rfl (zN (zL (zU (zG (zR 1 rfl ?_)))))
    refine yA ?_
    refine zR 1 rfl (zN ?_)
    refine WE.again ((i + 1, xs ++ [(num9V (nth ws i) : Int)], a43, c43)) (⟨by omega, by rw [List.length_append, hxl]; rfl, by
     show (ws.take (i + 1)).all _ = true
     rw [take_nth hil, List.all_append, hal, List.all_cons, List.all_nil]
     unfold okN9
     rw [h45, h9]; rfl, by
     show _ = (ws.take (i + 1)).map _
     rw [take_nth hil, List.map_append, List.map_singleton, ← hxv, show valN9 fr (nth ws i) = (num9V (nth ws i) : Int) from if_neg (by rw [h45]; decide)]⟩) (by (try dsimp only); omega) ⟨rfl, rfl, rfl, rfl, rfl⟩ (RLe.refl _) qS
 ·try dsimp only at hc0
  obtain rfl : i = ws.length := by omega
  refine zX ?_
  refine wx (wx (zY (zU ?_)))
  refine W.cap 0 rfl ?_
  intro hcl
  refine W.freeze (enc := encI) (xs := xs) 0 rfl ?_
  intro R2 hR2 hxs
  have hRR := hR1.trans hR2
  refine zQ (zG (zR 3 rfl (zN (zU (zT ?_)))))
  refine sE (E := E) ?_
  refine WE.retF tab_ok [_, _] rfl ⟨rfl, rfl, trivial⟩ (hRR) ?_
  rw [List.take_length] at hal hxv
  have hyes : numsO fr s = true := by unfold numsO; rw [hwg]; exact hal
  have hL : numsL fr s = xs := by unfold numsL; rw [if_pos hyes, hwg, hxv]
  exact ⟨a6, c6, by rw [hyes, hL]; rfl, by rw [hL]; exact hxs, by rw [hL]; simpa using hcl, rfl⟩



/-- the words behind the word line are a line -/
def rlO (ws : List (List UInt8)) : Bool := decide (3 ≤ ws.length) && (wordB (nth ws 0) && (num9 (nth ws 2) && lnMore (wLine :: ws)))
theorem rlO_line {s : List UInt8} {ws : List (List UInt8)} (h : splC 32 s = wLine :: ws) : lineO s = rlO ws := by
 unfold lineO rlO lnHead
 rw [h]
 have e1 : nth (wLine :: ws) 0 = wLine := rfl
 have e2 : nth (wLine :: ws) 1 = nth ws 0 := rfl
 have e3 : nth (wLine :: ws) 3 = nth ws 2 := rfl
 rw [e1, e2, e3, decide_eq_true (rfl : wLine = wLine), Bool.true_and, Bool.and_assoc]
 congr 1
 exact decide_eq_decide.2 (by rw [List.length_cons]; omega)

set_option maxHeartbeats 4000000 in
theorem RLine24_C {R : Ro} {a : Option Addr} {c : Nat} {ws : List (List UInt8)} (hws : K.RS R 1 encT a ws) (hwb : ∀ x ∈ ws, x.length ≤ 1000000) (w0 : World) (E : List Ent) : K.Fn Tryz.prog 48 [.slice a ws.length c] w0 R E (fun v R' E' => ∃ (nm : List UInt8) (L : Ln) (a1 a2 : Option Addr) (c1 c2 : Nat), v = .tuple #[.string (str nm), .agg #[.int .i64 L.kind, .int .i64 L.cap, .int .i64 L.n, .slice a1 L.w.length c1, .slice a2 L.tb.length c2], .bool (rlO ws)] ∧ RS R' 1 encI a1 L.w ∧ RS R' 1 encI a2 L.tb ∧ L.w.length ≤ c1 ∧ L.tb.length ≤ c2 ∧ (rlO ws = true → nm = nth ws 0 ∧ L = lnVal (wLine :: ws)) ∧ E' = E) := by
 have hwll := hws.len
 have hwa : ∀ i, (nth ws i).length ≤ 1000000 := fun i => by
  by_cases h : i < ws.length
  ·exact hwb _ (nth_mem h)
  ·rw [nth_out (by omega)]; exact Nat.zero_le _
 refine fE 143 Tryz.func48 ?_
 refine zQ (zG (zR 1 rfl ?_))
 refine zA fun b3 => ?_
 refine zR 1 rfl (zN (zU (zQ (zQ (zG (zR 4 rfl ?_))))))
 refine yP ?_
 refine WG.y rfl rfl (by decide) (Yl.indexN tab_ok rfl rfl rfl rfl rfl rfl qE (by intro hg; (try simp only [zk] at hg); (try dsimp only) <;> omega) (by intro hg; (try simp only [zk] at hg); first | exact qI)) ?_
 refine' WG.y rfl rfl qD (Yl.loadG tab_ok rfl rfl rfl qE ?r1 rfl ?h1 ?g1) ?_
 case r1 => ((apply RS.rdC; assumption))
 case h1 => rfl
 case g1 => (intro hg; (try simp only [zk] at hg); (try dsimp only); omega)
 refine WG.callV en45 rfl rfl qD (CallOp.mk' rfl rfl rfl rfl) qE (fun hg => Word23_V (s := nth ws 0) (by have := hwa 0; omega)) ?_
 refine yP ?_
 refine yO ?_
 refine zN (zU ?_)
 refine W.cond rfl (fun hc0 => ?_) (fun hc0 => ?_)
 ·try simp only [zk] at hc0
  have hO : rlO ws = false := by
   unfold rlO
   rw [Bool.and_eq_false_iff, Bool.and_eq_false_iff, decide_eq_false_iff_not]
   rcases hc0 with h | h
   ·left; omega
   ·right; left; simpa using h
  refine zQ (zG ?_)
  -- build
  refine WG.y rfl rfl qD (Yl.build (parts := []) tab_ok rfl rfl rfl rfl (fun _ => rfl) rfl rfl) ?_
  refine zR 1 rfl ?_
  refine zE 0 ?_
  refine zR 1 rfl (zN (zU (zT (wt ?_))))
  refine WE.retFS (E' := E) qS tab_ok [_, _, _] rfl ⟨rfl, ⟨_, _, _, rfl, rfl, rfl, qB, rfl⟩, rfl, trivial⟩ qR ?_
  exact ⟨[], ⟨0, 0, 0, [], []⟩, none, none, 0, 0, by rw [hO]; rfl, ⟨by simp, .inl rfl, by simp⟩, ⟨by simp, .inl rfl, by simp⟩, Nat.le_refl _, Nat.le_refl _, (fun h => by rw [hO] at h; cases h), rfl⟩
 ·try simp only [zk] at hc0
  obtain ⟨h3, hw1⟩ := hc0
  have h3n : 3 ≤ ws.length := by omega
  have hO3 : rlO ws = (num9 (nth ws 2) && lnMore (wLine :: ws)) := by unfold rlO; rw [decide_eq_true h3n, hw1, Bool.true_and, Bool.true_and]
  refine zK (zU (zQ (zG ?_)))
  refine zA fun b5 => ?_
  refine zN (zU (zQ (zG (zR 1 rfl ?_))))
  refine WG.y rfl rfl qD (Yl.indexN tab_ok rfl rfl rfl rfl rfl rfl (fun _ => rfl) qN qH) ?_
  refine yR ?_
  refine WG.callV en72 rfl rfl qD (CallOp.mk' rfl rfl rfl rfl) (fun _ => rfl) (fun hg => RNum24_V (w := nth ws 2) (by have := hwa 2; omega)) ?_
  refine zR 5 rfl (zN (zU (zQ (zQ (zG (zR 2 rfl (zN (zU ?_))))))))
  refine W.cond rfl (fun hc1 => ?_) (fun hc1 => ?_)
  ·try simp only [zk] at hc1
   have hO : rlO ws = false := by
    have h9 : num9 (nth ws 2) = false := by simpa using hc1
    rw [hO3, h9]; rfl
   refine zQ ?_
   refine W.regionH _ (ES := [.blk b5 [.int .i64 0, .int .i64 0, .int .i64 0, .slice none 0 0, .slice none 0 0]]) mixed ?_
   refine tL 0 (Rd.blk 0 rfl) ?_
   refine tP 1 ?_
   refine zCE 2 1 ?_
   refine tP 3 ?_
   refine WA.done qK ?_
   refine zU (zT (wt ?_))
   refine WE.retFS (E' := E) qS tab_ok [_, _, _] rfl ⟨rfl, ⟨_, _, _, rfl, rfl, rfl, qB, rfl⟩, rfl, trivial⟩ qR ?_
   exact ⟨[], ⟨0, 0, 0, [], []⟩, none, none, 0, 0, by rw [hO]; rfl, ⟨by simp, .inl rfl, by simp⟩, ⟨by simp, .inl rfl, by simp⟩, Nat.le_refl _, Nat.le_refl _, (fun h => by rw [hO] at h; cases h), rfl⟩
  ·try simp only [zk] at hc1
   have h9 : num9 (nth ws 2) = true := by simpa using hc1
   rw [h9, Bool.true_and] at hO3
   refine zK (zU (zQ (zG (zR 2 rfl ?_))))
   refine zF 0 ?_
   refine zN (zU ?_)
   refine W.seqCut (β := Ln × Option Addr × Option Addr × Nat × Nat × Bool × Ro) (fun (L, a1, a2, c1, c2, mo, Rk) => RS Rk 1 encI a1 L.w ∧ RS Rk 1 encI a2 L.tb ∧ L.w.length ≤ c1 ∧ L.tb.length ≤ c2 ∧ RLe R Rk ∧ mo = lnMore (wLine :: ws) ∧ (mo = true → L = lnVal (wLine :: ws))) (fun (L, a1, a2, c1, c2, mo, Rk) => [(0, true, .slice a ws.length c), (3, true, .pointer (some ⟨b3, 0, none⟩)), (5, true, .pointer (some ⟨b5, 0, none⟩)), (7, true, .bool mo)]) (fun (L, a1, a2, c1, c2, mo, Rk) => Rk) (fun (L, a1, a2, c1, c2, mo, Rk) => .blk b5 [.int .i64 L.kind, .int .i64 L.cap, .int .i64 L.n, .slice a1 L.w.length c1, .slice a2 L.tb.length c2] :: .blk b3 [.int .i64 0, .int .i64 0, .int .i64 0, .slice none 0 0, .slice none 0 0] :: E) ?_ ?_
   ·
    intro zz hst
    obtain ⟨L, a1, a2, c1, c2, mo, Rk⟩ := zz
    obtain ⟨hf1, hf2, hg1, hg2, hRk, hmo, hLv⟩ := hst
    dsimp only at hf1 hf2 hg1 hg2 hRk hmo hLv ⊢
    have hws := hws.mono hRk
    refine zQ (zQ (zG (zR 2 rfl (zN (zU ?_)))))
    refine W.cond rfl (fun hc2 => ?_) (fun hc2 => ?_)
    ·try simp only [zk] at hc2
     have hmf : mo = false := by simpa using hc2
     have hO : rlO ws = false := by rw [hO3, ← hmo, hmf]
     refine zQ (zG ?_)
     -- build
     refine WG.y rfl rfl qD (Yl.build (parts := []) tab_ok rfl rfl rfl rfl (fun _ => rfl) rfl rfl) ?_
     refine zR 1 rfl ?_
     refine zE 1 ?_
     refine zR 1 rfl (zN (zU (zT (wt ?_))))
     refine WE.retFS (E' := E) qS tab_ok [_, _, _] rfl ⟨rfl, ⟨_, _, _, rfl, rfl, rfl, qB, rfl⟩, rfl, trivial⟩ qR ?_
     exact ⟨[], ⟨0, 0, 0, [], []⟩, none, none, 0, 0, by rw [hO]; rfl, ⟨by simp, .inl rfl, by simp⟩, ⟨by simp, .inl rfl, by simp⟩, Nat.le_refl _, Nat.le_refl _, (fun h => by rw [hO] at h; cases h), rfl⟩
    ·try simp only [zk] at hc2
     have hmf : mo = true := by simpa using hc2
     have hO : rlO ws = true := by rw [hO3, ← hmo, hmf]
     refine zK (zU (zQ ?_))
     refine W.regionH _ (ES := [.blk b5 [.int .i64 L.kind, .int .i64 L.cap, .int .i64 L.n, .slice a1 L.w.length c1, .slice a2 L.tb.length c2]]) mixed ?_
     refine tP 0 ?_
     refine WA.take 1 rfl qK qK qK rfl rfl qD (Yl.indexN tab_ok rfl rfl rfl rfl rfl rfl (fun _ => rfl) qN qH) qS qR ?_
     refine' WA.take 2 rfl qK qK qK rfl rfl qD (Yl.load1 tab_ok rfl rfl rfl (fun _ => rfl) ?r4 rfl ?h4) qS qR ?_
     case r4 => ((apply RS.rdD; assumption; ((try dsimp only) <;> omega)))
     case h4 => rfl
     refine tL 3 (Rd.blk 0 rfl) ?_
     refine tP 4 ?_
     refine zCE 5 1 ?_
     refine tP 6 ?_
     refine WA.done qK ?_
     refine zU (zT ?_)
     refine WE.retFS (E' := E) qS tab_ok [_, _, _] rfl ⟨rfl, ⟨_, _, _, rfl, rfl, rfl, qB, rfl⟩, rfl, trivial⟩ qR ?_
     exact ⟨nth ws 0, L, a1, a2, c1, c2, by rw [hO]; rfl, hf1, hf2, hg1, hg2, fun _ => ⟨rfl, hLv hmf⟩, rfl⟩
   ·
    refine zB (zQ (zG (zR 1 rfl ?_)))
    refine WG.y rfl rfl qD (Yl.indexN tab_ok rfl rfl rfl rfl rfl rfl (fun _ => rfl) qN qH) ?_
    refine yR ?_
    refine WG.y rfl rfl qD (Yl.eqS rfl rfl rfl (fun _ => rfl)) ?_
    refine zR 1 rfl ?_
    refine yP ?_
    refine yP ?_
    refine yP ?_
    refine yN ?_
    refine zR 1 rfl (zN (zU ?_))
    refine W.cond rfl (fun hc3 => ?_) (fun hc3 => ?_)
    ·try simp only [zk] at hc3
     have hkF : nth (wLine :: ws) 2 = wFifo := str_inj (b := wFifo) hc3.1
     have hlF : ws.length = 3 := by have := hc3.2; omega
     refine zG (zR 1 rfl ?_)
     refine zF 0 ?_
     refine zR 1 rfl ?_
     refine zF 0 ?_
     refine zN (zL ?_)
     refine WE.cut (⟨1, (num9V (nth ws 2) : Int), 1, [], []⟩, none, none, 0, 0, num9 (nth ws 2), R) ⟨⟨by simp, .inl rfl, by simp⟩, ⟨by simp, .inl rfl, by simp⟩, Nat.le_refl _, Nat.le_refl _, RLe.refl _, by unfold lnMore; rw [if_pos hkF, decide_eq_true (show (wLine :: ws).length = 4 by rw [List.length_cons]; omega), h9], fun _ => by unfold lnVal; rw [if_pos hkF]; rfl⟩ ⟨rfl, rfl, rfl, rfl, rfl⟩ (RLe.refl _) qS
    ·try simp only [zk] at hc3
     have hnF : ¬ (nth (wLine :: ws) 2 = wFifo ∧ ws.length = 3) := fun h => by
      have h1 : nth ws 1 = wFifo := h.1
      exact hc3 (by rw [h1]; rfl) (by omega)
     refine zQ (zG (zR 1 rfl ?_))
     refine WG.y rfl rfl qD (Yl.indexN tab_ok rfl rfl rfl rfl rfl rfl (fun _ => rfl) qN qH) ?_
     refine yR ?_
     refine WG.y rfl rfl qD (Yl.eqS rfl rfl rfl (fun _ => rfl)) ?_
     refine zR 1 rfl ?_
     refine yP ?_
     refine yP ?_
     refine yP ?_
     refine yN ?_
     refine zR 1 rfl (zN (zU ?_))
     refine W.cond rfl (fun hc4 => ?_) (fun hc4 => ?_)
     ·try simp only [zk] at hc4
      have hkP : nth (wLine :: ws) 2 = wPrio := str_inj (b := wPrio) hc4.1
      have hlP : ws.length = 4 := by have := hc4.2; omega
      refine zQ (zG (zR 1 rfl ?_))
      refine zF 0 ?_
      refine zN (zU (zG (zR 1 rfl ?_)))
      refine WG.y rfl rfl qD (Yl.indexN tab_ok rfl rfl rfl rfl rfl rfl (fun _ => rfl) qN qH) ?_
      refine yR ?_
      refine WG.callV en72 rfl rfl qD (CallOp.mk' rfl rfl rfl rfl) (fun _ => rfl) (fun hg => RNum24_V (w := nth ws 3) (by have := hwa 3; omega)) ?_
      refine zR 4 rfl ?_
      refine zF 0 ?_
      refine zR 1 rfl (zN (zL ?_))
      refine WE.cut (⟨2, (num9V (nth ws 2) : Int), (num9V (nth ws 3) : Int), [], []⟩, none, none, 0, 0, num9 (nth ws 3), R) ⟨⟨by simp, .inl rfl, by simp⟩, ⟨by simp, .inl rfl, by simp⟩, Nat.le_refl _, Nat.le_refl _, RLe.refl _, by unfold lnMore; rw [if_neg (fun h => absurd (hkP.symm.trans h) (by decide)), if_pos hkP, decide_eq_true (show (wLine :: ws).length = 5 by rw [List.length_cons]; omega), Bool.true_and]; rfl, fun _ => by unfold lnVal; rw [if_neg (fun h => absurd (hkP.symm.trans h) (by decide)), if_pos hkP]; rfl⟩ ⟨rfl, rfl, rfl, rfl, rfl⟩ (RLe.refl _) qS
     ·try simp only [zk] at hc4
      have hnP : ¬ (nth (wLine :: ws) 2 = wPrio ∧ ws.length = 4) := fun h => by
       have h1 : nth ws 1 = wPrio := h.1
       exact hc4 (by rw [h1]; rfl) (by omega)
      refine zQ (zG (zR 1 rfl ?_))
      refine WG.y rfl rfl qD (Yl.indexN tab_ok rfl rfl rfl rfl rfl rfl (fun _ => rfl) qN qH) ?_
      refine yR ?_
      refine WG.y rfl rfl qD (Yl.eqS rfl rfl rfl (fun _ => rfl)) ?_
      refine zR 1 rfl ?_
      refine yP ?_
      refine yP ?_
      refine yP ?_
      refine yN ?_
      refine zR 1 rfl (zN (zU ?_))
      refine W.cond rfl (fun hc5 => ?_) (fun hc5 => ?_)
      ·try simp only [zk] at hc5
       have hkR : nth (wLine :: ws) 2 = wRob := str_inj (b := wRob) hc5.1
       have hlR : ws.length = 4 := by have := hc5.2; omega
       refine zQ (zG (zR 1 rfl ?_))
       refine zF 0 ?_
       refine zN (zU (zQ (zG (zR 1 rfl ?_))))
       refine WG.y rfl rfl qD (Yl.indexN tab_ok rfl rfl rfl rfl rfl rfl (fun _ => rfl) qN qH) ?_
       refine yR ?_
       refine WL.call en73 rfl rfl qD (CallOp.mkT rfl rfl rfl rfl) (RNums24_C (s := nth ws 3) (fr := false) (by have := hwa 3; omega) w0 _) ?_
       rintro _ R2 _ hR2 ⟨a80, c80, rfl, hl80, hc80, rfl⟩
       have hws := hws.mono hR2
       refine zR 4 rfl ?_
       refine zF 0 ?_
       refine zR 1 rfl (zN (zU (zG (zR 1 rfl ?_))))
       refine yL (Rd.add (Rd.blk 0 rfl) _) ?_
       refine zR 2 rfl ?_
       refine zF 0 ?_
       refine zN (zL ?_)
       refine WE.cut (⟨3, (num9V (nth ws 2) : Int), ((numsL false (nth ws 3)).length : Int), numsL false (nth ws 3), []⟩, a80, none, c80, 0, numsO false (nth ws 3), R2) ⟨hl80, ⟨by simp, .inl rfl, by simp⟩, hc80, Nat.le_refl _, hR2, by unfold lnMore; rw [if_neg (fun h => absurd (hkR.symm.trans h) (by decide)), if_neg (fun h => absurd (hkR.symm.trans h) (by decide)), if_pos (.inl hkR), decide_eq_true (show (wLine :: ws).length = 5 by rw [List.length_cons]; omega), Bool.true_and]; rfl, fun _ => by unfold lnVal; rw [if_neg (fun h => absurd (hkR.symm.trans h) (by decide)), if_neg (fun h => absurd (hkR.symm.trans h) (by decide)), if_pos hkR]; rfl⟩ ⟨rfl, rfl, rfl, rfl, rfl⟩ (RLe.refl _) qS
      ·try simp only [zk] at hc5
       have hnR : ¬ (nth (wLine :: ws) 2 = wRob ∧ ws.length = 4) := fun h => by
        have h1 : nth ws 1 = wRob := h.1
        exact hc5 (by rw [h1]; rfl) (by omega)
       refine zQ (zG (zR 1 rfl ?_))
       refine WG.y rfl rfl qD (Yl.indexN tab_ok rfl rfl rfl rfl rfl rfl (fun _ => rfl) qN qH) ?_
       refine yR ?_
       refine WG.y rfl rfl qD (Yl.eqS rfl rfl rfl (fun _ => rfl)) ?_
       refine zR 1 rfl ?_
       refine yP ?_
       refine yP ?_
       refine yP ?_
       refine yN ?_
       refine zR 1 rfl (zN (zU ?_))
       refine W.cond rfl (fun hc6 => ?_) (fun hc6 => ?_)
       ·try simp only [zk] at hc6
        have hkD : nth (wLine :: ws) 2 = wDef := str_inj (b := wDef) hc6.1
        have hlD : ws.length = 4 := by have := hc6.2; omega
        refine zQ (zG (zR 1 rfl ?_))
        refine zF 0 ?_
        refine zN (zU (zQ (zG (zR 1 rfl ?_))))
        refine WG.y rfl rfl qD (Yl.indexN tab_ok rfl rfl rfl rfl rfl rfl (fun _ => rfl) qN qH) ?_
        refine yR ?_
        refine WL.call en73 rfl rfl qD (CallOp.mkT rfl rfl rfl rfl) (RNums24_C (s := nth ws 3) (fr := false) (by have := hwa 3; omega) w0 _) ?_
        rintro _ R2 _ hR2 ⟨a80, c80, rfl, hl80, hc80, rfl⟩
        have hws := hws.mono hR2
        refine zR 4 rfl ?_
        refine zF 0 ?_
        refine zR 1 rfl (zN (zU (zG (zR 1 rfl ?_))))
        refine yL (Rd.add (Rd.blk 0 rfl) _) ?_
        refine zR 2 rfl ?_
        refine zF 0 ?_
        refine zN (zL ?_)
        refine WE.cut (⟨4, (num9V (nth ws 2) : Int), ((numsL false (nth ws 3)).length : Int), numsL false (nth ws 3), []⟩, a80, none, c80, 0, numsO false (nth ws 3), R2) ⟨hl80, ⟨by simp, .inl rfl, by simp⟩, hc80, Nat.le_refl _, hR2, by unfold lnMore; rw [if_neg (fun h => absurd (hkD.symm.trans h) (by decide)), if_neg (fun h => absurd (hkD.symm.trans h) (by decide)), if_pos (.inr hkD), decide_eq_true (show (wLine :: ws).length = 5 by rw [List.length_cons]; omega), Bool.true_and]; rfl, fun _ => by unfold lnVal; rw [if_neg (fun h => absurd (hkD.symm.trans h) (by decide)), if_neg (fun h => absurd (hkD.symm.trans h) (by decide)), if_neg (fun h => absurd (hkD.symm.trans h) (by decide)), if_pos hkD]; rfl⟩ ⟨rfl, rfl, rfl, rfl, rfl⟩ (RLe.refl _) qS
       ·try simp only [zk] at hc6
        have hnD : ¬ (nth (wLine :: ws) 2 = wDef ∧ ws.length = 4) := fun h => by
         have h1 : nth ws 1 = wDef := h.1
         exact hc6 (by rw [h1]; rfl) (by omega)
        refine zQ (zG (zR 1 rfl ?_))
        refine WG.y rfl rfl qD (Yl.indexN tab_ok rfl rfl rfl rfl rfl rfl (fun _ => rfl) qN qH) ?_
        refine yR ?_
        refine WG.y rfl rfl qD (Yl.eqS rfl rfl rfl (fun _ => rfl)) ?_
        refine zR 1 rfl ?_
        refine yP ?_
        refine yP ?_
        refine yP ?_
        refine yN ?_
        refine zR 1 rfl (zN (zU ?_))
        refine W.cond rfl (fun hc7 => ?_) (fun hc7 => ?_)
        ·try simp only [zk] at hc7
         have hkS : nth (wLine :: ws) 2 = wSlots := str_inj (b := wSlots) hc7.1
         have hlS : ws.length = 5 := by have := hc7.2; omega
         refine zQ (zG (zR 1 rfl ?_))
         refine zF 0 ?_
         refine zN (zU (zQ (zG (zR 1 rfl ?_))))
         refine WG.y rfl rfl qD (Yl.indexN tab_ok rfl rfl rfl rfl rfl rfl (fun _ => rfl) qN qH) ?_
         refine yR ?_
         refine WG.callV en72 rfl rfl qD (CallOp.mk' rfl rfl rfl rfl) (fun _ => rfl) (fun hg => RNum24_V (w := nth ws 3) (by have := hwa 3; omega)) ?_
         refine zR 4 rfl ?_
         refine zF 0 ?_
         refine zR 1 rfl (zN (zU (zQ (zG (zR 1 rfl (zN (zU ?_)))))))
         refine W.cond rfl (fun hc8 => ?_) (fun hc8 => ?_)
         ·try simp only [zk] at hc8
          have hn3 : num9 (nth ws 3) = true := by simpa using hc8
          refine zG (zR 1 rfl ?_)
          refine WG.y rfl rfl qD (Yl.indexN tab_ok rfl rfl rfl rfl rfl rfl (fun _ => rfl) qN qH) ?_
          refine yR ?_
          refine WL.call en73 rfl rfl qD (CallOp.mkT rfl rfl rfl rfl) (RNums24_C (s := nth ws 4) (fr := true) (by have := hwa 4; omega) w0 _) ?_
          rintro _ R2 _ hR2 ⟨a80, c80, rfl, hl80, hc80, rfl⟩
          have hws := hws.mono hR2
          refine zR 4 rfl ?_
          refine zF 0 ?_
          refine zR 1 rfl (zN (zL ?_))
          refine WE.cut (⟨5, (num9V (nth ws 2) : Int), (num9V (nth ws 3) : Int), [], numsL true (nth ws 4)⟩, none, a80, 0, c80, numsO true (nth ws 4), R2) ⟨⟨by simp, .inl rfl, by simp⟩, hl80, Nat.le_refl _, hc80, hR2, by unfold lnMore; rw [if_neg (fun h => absurd (hkS.symm.trans h) (by decide)), if_neg (fun h => absurd (hkS.symm.trans h) (by decide)), if_neg (fun h => h.elim (fun h => absurd (hkS.symm.trans h) (by decide)) (fun h => absurd (hkS.symm.trans h) (by decide))), if_pos hkS, decide_eq_true (show (wLine :: ws).length = 6 by rw [List.length_cons]; omega), Bool.true_and, show num9 (nth (wLine :: ws) 4) = true from hn3, Bool.true_and]; rfl, fun _ => by unfold lnVal; rw [if_neg (fun h => absurd (hkS.symm.trans h) (by decide)), if_neg (fun h => absurd (hkS.symm.trans h) (by decide)), if_neg (fun h => absurd (hkS.symm.trans h) (by decide)), if_neg (fun h => absurd (hkS.symm.trans h) (by decide))]; rfl⟩ ⟨rfl, rfl, rfl, rfl, rfl⟩ (RLe.refl _) qS
         ·try simp only [zk] at hc8
          have hn3 : num9 (nth ws 3) = false := by simpa using hc8
          refine zK (zL ?_)
          refine WE.cut (⟨5, (num9V (nth ws 2) : Int), (num9V (nth ws 3) : Int), [], []⟩, none, none, 0, 0, num9 (nth ws 3), R) ⟨⟨by simp, .inl rfl, by simp⟩, ⟨by simp, .inl rfl, by simp⟩, Nat.le_refl _, Nat.le_refl _, RLe.refl _, by unfold lnMore; rw [if_neg (fun h => absurd (hkS.symm.trans h) (by decide)), if_neg (fun h => absurd (hkS.symm.trans h) (by decide)), if_neg (fun h => h.elim (fun h => absurd (hkS.symm.trans h) (by decide)) (fun h => absurd (hkS.symm.trans h) (by decide))), if_pos hkS, decide_eq_true (show (wLine :: ws).length = 6 by rw [List.length_cons]; omega), Bool.true_and, show num9 (nth (wLine :: ws) 4) = false from hn3, hn3]; rfl, fun h => by rw [hn3] at h; cases h⟩ ⟨rfl, rfl, rfl, rfl, rfl⟩ (RLe.refl _) qS
        ·try simp only [zk] at hc7
         have hnS : ¬ (nth (wLine :: ws) 2 = wSlots ∧ ws.length = 5) := fun h => by
          have h1 : nth ws 1 = wSlots := h.1
          exact hc7 (by rw [h1]; rfl) (by omega)
         have hln : (wLine :: ws).length = ws.length + 1 := List.length_cons
         have hdef : lnMore (wLine :: ws) = false := by
          unfold lnMore
          by_cases e1 : nth (wLine :: ws) 2 = wFifo
          ·rw [if_pos e1]; exact decide_eq_false (fun h => hnF ⟨e1, by omega⟩)
          ·rw [if_neg e1]
           by_cases e2 : nth (wLine :: ws) 2 = wPrio
           ·rw [if_pos e2, decide_eq_false (fun h => hnP ⟨e2, by omega⟩)]; rfl
           ·rw [if_neg e2]
            by_cases e3 : nth (wLine :: ws) 2 = wRob ∨ nth (wLine :: ws) 2 = wDef
            ·rw [if_pos e3, decide_eq_false (fun h => e3.elim (fun e => hnR ⟨e, by omega⟩) (fun e => hnD ⟨e, by omega⟩))]; rfl
            ·rw [if_neg e3]
             by_cases e4 : nth (wLine :: ws) 2 = wSlots
             ·rw [if_pos e4, decide_eq_false (fun h => hnS ⟨e4, by omega⟩)]; rfl
             ·rw [if_neg e4]
         refine zG (zR 1 rfl (zN (zL ?_)))
         refine WE.cut (⟨0, (num9V (nth ws 2) : Int), 0, [], []⟩, none, none, 0, 0, false, R) ⟨⟨by simp, .inl rfl, by simp⟩, ⟨by simp, .inl rfl, by simp⟩, Nat.le_refl _, Nat.le_refl _, RLe.refl _, hdef.symm, fun h => by cases h⟩ ⟨rfl, rfl, rfl, rfl, rfl⟩ (RLe.refl _) qS



def fmtW1 (name : List UInt8) (L : Ln) : List (List UInt8) := [name, kwS L.kind, Lib.decDigits L.cap.toNat] ++ fmtRest L
theorem fmtE_chk {name : List UInt8} {L : Ln} (hn : wordB name = true) (hc : chkL L = 0) : fmtE name L = if L.kind = 1 ∧ L.n ≠ 1 then 6 else 0 := by
 unfold fmtE
 rw [if_neg (by rw [hn]; decide), if_neg (fun h => h hc)]
theorem fmtW_split {name : List UInt8} {L : Ln} (hn : wordB name = true) : splC 32 (Lib.join (fmtWords name L) [32]) = fmtWords name L :=
 splC_join 32 _ (by unfold fmtWords; exact List.cons_ne_nil _ _) (fun x hx c hc => (words_no hn x hx c hc).1)
theorem fmt_back {name : List UInt8} {L : Ln} (hn : wordB name = true) (hc : chkL L = 0) (h : ¬ (L.kind = 1 ∧ L.n ≠ 1)) : fmtE name L = 0 ∧ rlO (fmtW1 name L) = true ∧ lnVal (wLine :: fmtW1 name L) = L := by
 have h1 : L.kind = 1 → L.n = 1 := fun hk => by
  by_cases e : L.n = 1
  ·exact e
  ·exact absurd ⟨hk, e⟩ h
 have he := fmtE_zero hn hc h1
 obtain ⟨g1, g2, _⟩ := line_read hn hc h1
 have hs := fmt_words hn he
 rw [rlO_line (ws := fmtW1 name L) hs] at g1
 unfold vlR at g2
 rw [hs] at g2
 exact ⟨he, g1, g2⟩
theorem fmt_six {name : List UInt8} {L : Ln} (h : L.kind = 1 ∧ L.n ≠ 1) : lnVal (wLine :: fmtW1 name L) ≠ L := fun e => by
 have h1 : nth (wLine :: fmtW1 name L) 2 = wFifo := by
  show kwS L.kind = _
  unfold kwS; rw [if_pos h.1]
 unfold lnVal at e
 rw [if_pos h1] at e
 have := congrArg Ln.n e
 exact h.2 this.symm

set_option maxHeartbeats 4000000 in
theorem RFmtL24_V {R : Ro} {aw at_ : Option Addr} {cw ct : Nat} {L : Ln} (hw : RS R 1 encI aw L.w) (ht : RS R 1 encI at_ L.tb) {name : List UInt8} (hn : name.length ≤ 1000000) : FnV Tryz.prog 16 [.string (str name), .agg #[.int .i64 L.kind, .int .i64 L.cap, .int .i64 L.n, .slice aw L.w.length cw, .slice at_ L.tb.length ct]] R (.tuple #[.string (str (fmtL name L)), .int .i64 (fmtE name L)]) := by
 refine FnV.ofOwn (fun w0 hb0 => ?_)
 have hwll := hw.len
 have htll := ht.len
 refine fE 101 Tryz.func16 ?_
 refine zQ (zG ?_)
 refine zO fun b3 => ?_
 refine zR 2 rfl (zN (zU (zQ (zQ (zG (zR 1 rfl ?_))))))
 refine WG.callV en45 rfl rfl qD (CallOp.mk' rfl rfl rfl rfl) (fun _ => rfl) (fun hg => Word23_V (s := name) qO) ?_
 refine zR 1 rfl (zN (zU ?_))
 refine W.cond rfl (fun hc0 => ?_) (fun hc0 => ?_)
 ·try simp only [zk] at hc0
  have hno : wordB name = false := by simpa using hc0
  have hfe : fmtE name L = 4 := if_pos hno
  refine zQ (zG (zR 2 rfl (zN (zU (zT (wt ?_))))))
  refine WE.subE (E' := []) qS ?_
  refine WE.retF tab_ok [_, _] rfl ⟨rfl, rfl, trivial⟩ (by first | assumption | exact RLe.refl _ | exact hR1.trans hR2) ?_
  show Value.tuple #[_, _] = _
  unfold fmtL; rw [hfe]; rfl
 ·try simp only [zk] at hc0
  have hyes : wordB name = true := by simpa using hc0
  have hnl : name.length ≤ 12 := (of_decide_eq_true hyes).2.1
  refine zK (zU (zQ (zQ (zG ?_))))
  refine yL (Rd.blk 0 rfl) ?_
  refine WG.callV en46 rfl rfl qD (CallOp.mk' rfl rfl rfl rfl) (fun _ => rfl) (fun hg => Chk22_V hw rfl ht rfl) ?_
  refine zR 1 rfl (zN (zU (zQ (zG (zR 2 rfl (zN (zU ?_)))))))
  refine W.condN rfl (fun hc1 => ?_) (fun hc1 => ?_)
  ·try dsimp only at hc1
   have hfe : fmtE name L = chkL L := by unfold fmtE; rw [if_neg (by rw [hyes]; decide), if_pos hc1]
   refine zQ (zG (zR 3 rfl (zN (zU (zT (wt ?_))))))
   refine WE.subE (E' := []) qS ?_
   refine WE.retF tab_ok [_, _] rfl ⟨rfl, rfl, trivial⟩ (by first | assumption | exact RLe.refl _ | exact hR1.trans hR2) ?_
   show Value.tuple #[_, _] = _
   unfold fmtL; rw [hfe, if_neg hc1]; rfl
  ·try dsimp only at hc1
   have hck : chkL L = 0 := by first | exact hc1 | exact Classical.not_not.1 hc1
   have hfe := fmtE_chk hyes hck
   obtain ⟨hkk, hcp1, hcp2, hn1, hn6, _⟩ := chk_facts hck
   have hd1 := decD_le 4 L.cap.toNat (by decide) (by omega)
   have hd2 := decD_le 4 L.n.toNat (by decide) (by omega)
   refine zK (zU (zQ (zG (zR 1 rfl ?_))))
   refine WG.y rfl rfl (by decide) (Yl.catS rfl rfl rfl (fun _ => rfl) (by intro _; (simp only [List.length_append, List.length_cons, List.length_nil]; omega))) ?_
   refine WG.y rfl rfl (by decide) (Yl.catS rfl rfl rfl (fun _ => rfl) (by intro _; (simp only [List.length_append, List.length_cons, List.length_nil]; omega))) ?_
   refine zR 1 rfl (zN (zU (zQ (zG (zR 1 rfl ?_)))))
   refine yL (Rd.add (Rd.blk 0 rfl) _) ?_
   refine WG.callV en40 rfl rfl qD (CallOp.mk' rfl rfl rfl rfl) (fun _ => rfl) (fun hg => RDec24z_V qO qO) ?_
   refine WG.y rfl rfl (by decide) (Yl.catS rfl rfl rfl (fun _ => rfl) (by intro _; (simp only [List.length_append, List.length_cons, List.length_nil]; omega))) ?_
   refine zR 1 rfl (zN (zU ?_))
   refine W.seqCut (β := Unit) (fun _u => True) (fun _u => [(3, true, .pointer (some ⟨b3, 0, none⟩)), (7, true, .string (str (Lib.join (fmtWords name L) [32])))]) (fun _ => R) (fun _ => [.blk b3 [.int .i64 L.kind, .int .i64 L.cap, .int .i64 L.n, .slice aw L.w.length cw, .slice at_ L.tb.length ct]]) ?_ ?_
   ·
    intro _u hst
    have htl := fmt_le6 hyes hck
    have hw1 : ∀ x ∈ fmtW1 name L, x.length ≤ 1000000 := fun x hx => by
     have h1 := splC_mem 32 (Lib.join (fmtWords name L) [32]) x (by rw [fmtW_split hyes]; exact List.mem_cons_of_mem wLine hx)
     omega
    refine zQ (zG (zR 1 rfl ?_))
    have hp3 := Split24_C (R := R) (s := (Lib.join (fmtWords name L) [32])) (d := 32) (by omega) w0
    refine WL.call en23 rfl rfl qD (CallOp.mkT rfl rfl rfl rfl) (hp3 _) ?_
    rintro _ R1 _ hR1 ⟨a86, c86, rfl, hsr, hsc, rfl⟩
    rw [fmtW_split hyes] at hsr hsc ⊢
    refine WG.y rfl rfl (by decide) (Yl.sliceL tab_ok rfl rfl rfl rfl rfl rfl (fun _ => rfl) (by intro _; (show (0 : Int) ≤ 1 ∧ (1 : Int) ≤ ((wLine :: fmtW1 name L).length : Int); rw [List.length_cons]; omega))) ?_
    rw [show (fmtWords name L).length - (1 : Int).toNat = (fmtW1 name L).length from rfl]
    have hp4 := RLine24_C (c := c86 - 1) (ws := fmtW1 name L) (hsr.subL (l := 1) (cap := c86) (by show 1 ≤ (wLine :: fmtW1 name L).length; rw [List.length_cons]; omega) hsc) hw1 w0
    refine WL.call en48 rfl rfl qD (CallOp.mkT rfl rfl rfl rfl) (hp4 _) ?_
    rintro _ R2 _ hR2 ⟨nm, M, b1, b2, d1, d2, rfl, hm1, hm2, _, _, hMv, rfl⟩
    refine zR 4 rfl ?_
    refine zA fun b10 => ?_
    refine zR 1 rfl ?_
    refine zE 0 ?_
    refine zR 1 rfl (zN (zU (zQ (zQ (zG (zR 3 rfl ?_))))))
    refine yG (Rd.blkC 0 rfl) ?_
    refine yG (Rd.blkC 1 rfl) ?_
    refine WG.callV en24 rfl rfl qD (CallOp.mk' rfl rfl rfl rfl) qE (fun hg => SameLn_V (L := M) (M := L) hm1 hm2 (hw.mono (hR1.trans hR2)) (ht.mono (hR1.trans hR2))) ?_
    refine yP ?_
    refine yO ?_
    refine zN (zU ?_)
    refine W.cond rfl (fun hc2 => ?_) (fun hc2 => ?_)
    ·try simp only [zk] at hc2
     have he6 : fmtE name L = 6 := by
      by_cases h6 : L.kind = 1 ∧ L.n ≠ 1
      ·rw [hfe, if_pos h6]
      ·exfalso
       obtain ⟨_, g2, g3⟩ := fmt_back hyes hck h6
       have hM : Ln.same M L = true := Ln.same_iff.2 ((hMv g2).2.trans g3)
       rcases hc2 with h | h
       ·rw [g2] at h; cases h
       ·rw [hM] at h; cases h
     refine zQ (zG (zR 2 rfl (zN (zU (zT (wt ?_))))))
     refine WE.subE (E' := []) qS ?_
     refine WE.retF tab_ok [_, _] rfl ⟨rfl, rfl, trivial⟩ (by first | assumption | exact RLe.refl _ | exact hR1.trans hR2) ?_
     show Value.tuple #[_, _] = _
     unfold fmtL; rw [he6]; rfl
    ·try simp only [zk] at hc2
     have he0 : fmtE name L = 0 := by
      by_cases h6 : L.kind = 1 ∧ L.n ≠ 1
      ·exfalso
       obtain ⟨g1, g2⟩ := hc2
       have g1 : rlO (fmtW1 name L) = true := by simpa using g1
       have g2 : Ln.same M L = true := by simpa using g2
       exact fmt_six h6 ((hMv g1).2.symm.trans (Ln.same_iff.1 g2))
      ·rw [hfe, if_neg h6]
     refine zK (zU (zQ (zG (zR 3 rfl (zN (zU (zT ?_)))))))
     refine WE.subE (E' := []) qS ?_
     refine WE.retF tab_ok [_, _] rfl ⟨rfl, rfl, trivial⟩ (by first | assumption | exact RLe.refl _ | exact hR1.trans hR2) ?_
     show Value.tuple #[_, _] = _
     unfold fmtL; rw [he0, if_pos rfl]
   ·
    refine zQ (zG (zR 1 rfl ?_))
    refine yL (Rd.add (Rd.blk 0 rfl) _) ?_
    refine zN (zU (zB (zQ (zG (zR 2 rfl (zN (zU ?_)))))))
    refine W.condE rfl (fun hc3 => ?_) (fun hc3 => ?_)
    ·try dsimp only at hc3
     have hk : L.kind = 1 := by omega
     have hfw : fmtWords name L = [wLine, name, wFifo, Lib.decDigits L.cap.toNat] := by unfold fmtWords fmtRest kwS; rw [if_pos hk, if_pos hk]; rfl
     refine zG (zR 2 rfl ?_)
     refine WG.y rfl rfl (by decide) (Yl.catS rfl rfl rfl (fun _ => rfl) (by intro _; (simp only [List.length_append, List.length_cons, List.length_nil]; omega))) ?_
     refine WG.y rfl rfl (by decide) (Yl.catS rfl rfl rfl (fun _ => rfl) (by intro _; (simp only [List.length_append, List.length_cons, List.length_nil]; omega))) ?_
     refine zR 1 rfl (zN (zL ?_))
     refine WE.cut () trivial ⟨rfl, congrArg (fun x => some (true, Value.string (str x))) (by rw [show fmtWords name L = [wLine, name, wFifo, Lib.decDigits L.cap.toNat] from hfw, join_cons, join_cons, join_cons, show ∀ y : List UInt8, Lib.join [y] [32] = y from fun y => by simp [Lib.join, List.intercalate]]; simp only [List.append_assoc]; rfl), rfl⟩ (RLe.refl _) qS
    ·try dsimp only at hc3
     refine zQ (zG (zR 2 rfl (zN (zU ?_))))
     refine W.condE rfl (fun hc4 => ?_) (fun hc4 => ?_)
     ·try dsimp only at hc4
      have hk : L.kind = 2 := by omega
      have hfw : fmtWords name L = [wLine, name, wPrio, Lib.decDigits L.cap.toNat, Lib.decDigits L.n.toNat] := by unfold fmtWords fmtRest kwS; rw [if_neg (by omega), if_pos hk, if_neg (by omega), if_pos hk]; rfl
      refine zG (zR 2 rfl ?_)
      refine WG.y rfl rfl (by decide) (Yl.catS rfl rfl rfl (fun _ => rfl) (by intro _; (simp only [List.length_append, List.length_cons, List.length_nil]; omega))) ?_
      refine WG.y rfl rfl (by decide) (Yl.catS rfl rfl rfl (fun _ => rfl) (by intro _; (simp only [List.length_append, List.length_cons, List.length_nil]; omega))) ?_
      refine zR 1 rfl ?_
      refine yL (Rd.add (Rd.blk 0 rfl) _) ?_
      refine WG.callV en40 rfl rfl qD (CallOp.mk' rfl rfl rfl rfl) (fun _ => rfl) (fun hg => RDec24z_V qO qO) ?_
      refine WG.y rfl rfl (by decide) (Yl.catS rfl rfl rfl (fun _ => rfl) (by intro _; (simp only [List.length_append, List.length_cons, List.length_nil]; omega))) ?_
      refine WG.y rfl rfl (by decide) (Yl.catS rfl rfl rfl (fun _ => rfl) (by intro _; (simp only [List.length_append, List.length_cons, List.length_nil]; omega))) ?_
      refine zR 1 rfl (zN (zL ?_))
      refine WE.cut () trivial ⟨rfl, congrArg (fun x => some (true, Value.string (str x))) (by rw [show fmtWords name L = [wLine, name, wPrio, Lib.decDigits L.cap.toNat, Lib.decDigits L.n.toNat] from hfw, join_cons, join_cons, join_cons, join_cons, show ∀ y : List UInt8, Lib.join [y] [32] = y from fun y => by simp [Lib.join, List.intercalate]]; simp only [List.append_assoc]; rfl), rfl⟩ (RLe.refl _) qS
     ·try dsimp only at hc4
      refine zQ (zG (zR 2 rfl (zN (zU ?_))))
      refine W.condE rfl (fun hc5 => ?_) (fun hc5 => ?_)
      ·try dsimp only at hc5
       have hk : L.kind = 3 := by omega
       obtain ⟨hr1, hr2, hr3⟩ := chk_rob hck hk
       have hwm : ∀ x ∈ L.w, x ≤ 999999 := fun x hx => by have := within_mem hr2 x hx; omega
       have hls := lstS_le hwm
       have hfw : fmtWords name L = [wLine, name, wRob, Lib.decDigits L.cap.toNat, lstS L.w] := by unfold fmtWords fmtRest kwS; rw [if_neg (by omega), if_neg (by omega), if_pos hk, if_neg (by omega), if_neg (by omega), if_pos (.inl hk)]; rfl
       refine zG (zR 2 rfl ?_)
       refine WG.y rfl rfl (by decide) (Yl.catS rfl rfl rfl (fun _ => rfl) (by intro _; (simp only [List.length_append, List.length_cons, List.length_nil]; omega))) ?_
       refine WG.y rfl rfl (by decide) (Yl.catS rfl rfl rfl (fun _ => rfl) (by intro _; (simp only [List.length_append, List.length_cons, List.length_nil]; omega))) ?_
       refine zR 1 rfl ?_
       refine yL (Rd.add (Rd.blk 0 rfl) _) ?_
       refine WG.callV en47 rfl rfl qD (CallOp.mk' rfl rfl rfl rfl) (fun _ => rfl) (fun hg => RList24_V hw qO hwm) ?_
       refine WG.y rfl rfl (by decide) (Yl.catS rfl rfl rfl (fun _ => rfl) (by intro _; (simp only [List.length_append, List.length_cons, List.length_nil]; omega))) ?_
       refine WG.y rfl rfl (by decide) (Yl.catS rfl rfl rfl (fun _ => rfl) (by intro _; (simp only [List.length_append, List.length_cons, List.length_nil]; omega))) ?_
       refine zR 1 rfl (zN (zL ?_))
       refine WE.cut () trivial ⟨rfl, congrArg (fun x => some (true, Value.string (str x))) (by rw [show fmtWords name L = [wLine, name, wRob, Lib.decDigits L.cap.toNat, lstS L.w] from hfw, join_cons, join_cons, join_cons, join_cons, show ∀ y : List UInt8, Lib.join [y] [32] = y from fun y => by simp [Lib.join, List.intercalate]]; simp only [List.append_assoc]; rfl), rfl⟩ (RLe.refl _) qS
      ·try dsimp only at hc5
       refine zQ (zG (zR 2 rfl (zN (zU ?_))))
       refine W.condE rfl (fun hc6 => ?_) (fun hc6 => ?_)
       ·try dsimp only at hc6
        have hk : L.kind = 4 := by omega
        obtain ⟨hr1, hr2, hr3⟩ := chk_def hck hk
        have hwm : ∀ x ∈ L.w, x ≤ 999999 := fun x hx => by have := within_mem hr2 x hx; omega
        have hls := lstS_le hwm
        have hfw : fmtWords name L = [wLine, name, wDef, Lib.decDigits L.cap.toNat, lstS L.w] := by unfold fmtWords fmtRest kwS; rw [if_neg (by omega), if_neg (by omega), if_neg (by omega), if_pos hk, if_neg (by omega), if_neg (by omega), if_pos (.inr hk)]; rfl
        refine zG (zR 2 rfl ?_)
        refine WG.y rfl rfl (by decide) (Yl.catS rfl rfl rfl (fun _ => rfl) (by intro _; (simp only [List.length_append, List.length_cons, List.length_nil]; omega))) ?_
        refine WG.y rfl rfl (by decide) (Yl.catS rfl rfl rfl (fun _ => rfl) (by intro _; (simp only [List.length_append, List.length_cons, List.length_nil]; omega))) ?_
        refine zR 1 rfl ?_
        refine yL (Rd.add (Rd.blk 0 rfl) _) ?_
        refine WG.callV en47 rfl rfl qD (CallOp.mk' rfl rfl rfl rfl) (fun _ => rfl) (fun hg => RList24_V hw qO hwm) ?_
        refine WG.y rfl rfl (by decide) (Yl.catS rfl rfl rfl (fun _ => rfl) (by intro _; (simp only [List.length_append, List.length_cons, List.length_nil]; omega))) ?_
        refine WG.y rfl rfl (by decide) (Yl.catS rfl rfl rfl (fun _ => rfl) (by intro _; (simp only [List.length_append, List.length_cons, List.length_nil]; omega))) ?_
        refine zR 1 rfl (zN (zL ?_))
        refine WE.cut () trivial ⟨rfl, congrArg (fun x => some (true, Value.string (str x))) (by rw [show fmtWords name L = [wLine, name, wDef, Lib.decDigits L.cap.toNat, lstS L.w] from hfw, join_cons, join_cons, join_cons, join_cons, show ∀ y : List UInt8, Lib.join [y] [32] = y from fun y => by simp [Lib.join, List.intercalate]]; simp only [List.append_assoc]; rfl), rfl⟩ (RLe.refl _) qS
       ·try dsimp only at hc6
        refine zQ (zG (zR 2 rfl (zN (zU ?_))))
        refine W.condE rfl (fun hc7 => ?_) (fun hc7 => ?_)
        ·try dsimp only at hc7
         have hk : L.kind = 5 := by omega
         obtain ⟨hs1, hs2, hs3⟩ := chk_times hck hk
         have hwm : ∀ x ∈ L.tb, x ≤ 999999 := fun x hx => by have := within_mem hs2 x hx; omega
         have hls := lstS_le hwm
         have hfw : fmtWords name L = [wLine, name, wSlots, Lib.decDigits L.cap.toNat, Lib.decDigits L.n.toNat, lstS L.tb] := by unfold fmtWords fmtRest kwS; rw [if_neg (by omega), if_neg (by omega), if_neg (by omega), if_neg (by omega), if_pos hk, if_neg (by omega), if_neg (by omega), if_neg (by omega)]; rfl
         refine W.regionQ _ mixed qK ?_
         refine zR 2 rfl ?_
         refine WG.y rfl rfl (by decide) (Yl.catS rfl rfl rfl (fun _ => rfl) (by intro _; (simp only [List.length_append, List.length_cons, List.length_nil]; omega))) ?_
         refine WG.y rfl rfl (by decide) (Yl.catS rfl rfl rfl (fun _ => rfl) (by intro _; (simp only [List.length_append, List.length_cons, List.length_nil]; omega))) ?_
         refine zR 1 rfl ?_
         refine yL (Rd.add (Rd.blk 0 rfl) _) ?_
         refine WG.callV en40 rfl rfl qD (CallOp.mk' rfl rfl rfl rfl) (fun _ => rfl) (fun hg => RDec24z_V qO qO) ?_
         refine WG.y rfl rfl (by decide) (Yl.catS rfl rfl rfl (fun _ => rfl) (by intro _; (simp only [List.length_append, List.length_cons, List.length_nil]; omega))) ?_
         refine WG.y rfl rfl (by decide) (Yl.catS rfl rfl rfl (fun _ => rfl) (by intro _; (simp only [List.length_append, List.length_cons, List.length_nil]; omega))) ?_
         refine zR 1 rfl ?_
         refine yL (Rd.add (Rd.blk 0 rfl) _) ?_
         refine WG.callV en47 rfl rfl qD (CallOp.mk' rfl rfl rfl rfl) (fun _ => rfl) (fun hg => RList24_V ht qO hwm) ?_
         refine WG.y rfl rfl (by decide) (Yl.catS rfl rfl rfl (fun _ => rfl) (by intro _; (simp only [List.length_append, List.length_cons, List.length_nil]; omega))) ?_
         refine WG.y rfl rfl (by decide) (Yl.catS rfl rfl rfl (fun _ => rfl) (by intro _; (simp only [List.length_append, List.length_cons, List.length_nil]; omega))) ?_
         refine zR 1 rfl (zN (zL ?_))
         refine WE.cut () trivial ⟨rfl, congrArg (fun x => some (true, Value.string (str x))) (by rw [show fmtWords name L = [wLine, name, wSlots, Lib.decDigits L.cap.toNat, Lib.decDigits L.n.toNat, lstS L.tb] from hfw, join_cons, join_cons, join_cons, join_cons, join_cons, show ∀ y : List UInt8, Lib.join [y] [32] = y from fun y => by simp [Lib.join, List.intercalate]]; simp only [List.append_assoc]; rfl), rfl⟩ (RLe.refl _) qS
        ·try dsimp only at hc7
         exact absurd hkk qO



theorem ValidG_V {R : Ro} {fa : Option Addr} {fc : Nat} {c : Cv} (hv : validB c = true) (ha : RS R 1 encI fa c.vals) : FnV Tryz.prog 56 [.agg #[.slice fa c.vals.length fc, .int .i64 c.per, .int .i64 c.inc]] R (.bool true) := by
 obtain ⟨h1, h2, h3, h4, h5, h6, h7, h8⟩ := valid_range hv
 have h := Valid_V (c := fc) (per := c.per) (inc := c.inc) ha (by constructor <;> omega) (by constructor <;> omega) h1
 rw [show validB ⟨c.vals, c.per, c.inc⟩ = true from hv] at h
 exact h

theorem FiniteG_V {R : Ro} {fa : Option Addr} {fc : Nat} {c : Cv} (hv : validB c = true) (ha : RS R 1 encI fa c.vals) : FnV Tryz.prog 82 [.agg #[.slice fa c.vals.length fc, .int .i64 c.per, .int .i64 c.inc]] R (.bool (finB c)) := by
 refine Fn.toV (fun w0 E => ?_)
 obtain ⟨h1, h2, h3, h4, h5, h6, h7, h8⟩ := valid_range hv
 have hl : ((c.vals.length : Int) - 1).toNat = c.vals.length - 1 := by omega
 refine fE 16 Tryz.func82 ?_
 refine zQ (zG ?_)
 refine zO fun b1 => ?_
 refine zR 1 rfl (zN (zU (zQ (zG ?_))))
 refine yL (Rd.blk 0 rfl) ?_
 refine WG.callV (v := .bool true) en56 rfl rfl qD (CallOp.mk' rfl rfl rfl rfl) (fun _ => rfl) (fun hg => ValidG_V hv ha) ?_
 refine zR 1 rfl ?_
 refine WL.guardT rfl (by rfl) ?_
 refine yP ?_
 refine WL.guardT rfl (by rfl) ?_
 refine yL (Rd.add (Rd.blk 0 rfl) _) ?_
 refine WL.guardT rfl (by rfl) ?_
 refine yP ?_
 refine WL.guardT rfl (by rfl) ?_
 refine yL (Rd.add (Rd.blk 0 rfl) _) ?_
 refine WL.guardT rfl (by rfl) ?_
 refine yP ?_
 refine WL.guardT rfl (by rfl) ?_
 refine yS ?_
 refine WL.guardT rfl (by rfl) ?_
 refine WG.y rfl rfl qD (Yl.index tab_ok rfl rfl rfl rfl rfl rfl (fun _ => rfl) qA qH) ?_
 refine WL.guardT rfl (by rfl) ?_
 refine yR ?_
 refine WL.guardT rfl (by rfl) ?_
 refine yP ?_
 refine yN ?_
 refine zR 1 rfl (zN (zU (zT ?_)))
 refine sE (E := E) ?_
 refine WE.retF tab_ok [_] rfl ⟨rfl, trivial⟩ (RLe.refl _) ?_
 exact ⟨by rw [hl]; rfl, rfl⟩

set_option maxHeartbeats 2000000 in
theorem RFlow23_V {R : Ro} {na la fa : Option Addr} {nc lc fc : Nat} {names : List (List UInt8)} {ms : List LnM} {fs : List FlM} {i : Nat} (hif : i < fs.length) (hla : K.RS R 5 encLn la ms) (hfa : K.RS R 8 encFl fa fs) (hof : ∀ m ∈ fs, OkFl R m) : FnV Tryz.prog 61 [.agg #[.slice na names.length nc, .slice la ms.length lc, .slice fa fs.length fc], .int .i64 (i : Int)] R (.int .i64 (flE ((fs.map FlM.nm).take i) (ms.map (·.L)) (nth fs i).f)) := by
 refine FnV.ofOwn (fun w0 hb0 => ?_)
 have hll := hla.len
 have hfl := hfa.len
 have hml : (ms.map (·.L)).length = ms.length := List.length_map ..
 have hnml : (fs.map FlM.nm).length = fs.length := List.length_map ..
 have hox := hof _ (nth_mem hif)
 have hxr : K.RS R 1 encI (nth fs i).a1 (nth fs i).f.route := hox.route
 have hxv : K.RS R 1 encI (nth fs i).a2 (nth fs i).f.cv.vals := hox.vals
 have hrl := hxr.len
 have hvl := hxv.len
 have hnmj : ∀ j, j < fs.length → nth (fs.map FlM.nm) j = (nth fs j).f.name := fun j hj => by rw [nth_eq (by omega), List.getElem_map, nth_eq hj]; rfl
 refine fE 121 Tryz.func61 ?_
 refine zQ (zG ?_)
 refine zO fun b2 => ?_
 refine zR 1 rfl (zN (zU (zQ (zG (zR 1 rfl ?_)))))
 refine yL (Rd.add (Rd.blk 0 rfl) _) ?_
 refine zR 1 rfl ?_
 refine WG.y rfl rfl qD (Yl.indexN tab_ok rfl rfl rfl rfl rfl rfl (fun _ => rfl) qN qH) ?_
 refine' WG.y rfl rfl qD (Yl.load1 tab_ok rfl rfl rfl (fun _ => rfl) ?r2 rfl ?h2) ?_
 case r2 => exact RS.rdD hfa hif
 case h2 => rfl
 refine zA fun b5 => ?_
 refine zE 0 ?_
 refine zN (zU (zQ (zQ (zG (zR 1 rfl ?_)))))
 refine yL (Rd.add (Rd.blk 0 rfl) _) ?_
 refine WG.callV en45 rfl rfl qD (CallOp.mk' rfl rfl rfl rfl) (fun _ => rfl) (fun hg => Word23_V (s := (nth fs i).f.name) hox.name) ?_
 refine zR 1 rfl (zN (zU ?_))
 refine W.cond rfl (fun hc0 => ?_) (fun hc0 => ?_)
 ·try simp only [zk] at hc0
  have hw : wordB (nth fs i).f.name = false := by simpa using hc0
  have hE : flE ((fs.map FlM.nm).take i) (ms.map (·.L)) (nth fs i).f = 4 := by unfold flE; rw [show frE ((fs.map FlM.nm).take i) (nth fs i).f.name = 4 from if_pos hw]; rfl
  refine zQ (zG (zR 1 rfl (zN (zU (zT (wt ?_))))))
  refine WE.subE (E' := []) qS ?_
  refine WE.retF tab_ok [_] rfl ⟨rfl, trivial⟩ (RLe.refl _) ?_
  show Value.int .i64 _ = _
  rw [hE]
 ·try simp only [zk] at hc0
  have hw : wordB (nth fs i).f.name = true := by simpa using hc0
  refine zK (zU (zQ (zQ (zG (zR 1 rfl (zN (zU (zB ?_))))))))
  refine W.loopK (β := Nat) (fun j => j ≤ i ∧ ∀ q, q < j → nth (fs.map FlM.nm) q ≠ (nth fs i).f.name) (fun j => [(6, true, .int .i64 (j : Int))]) [1, 2, 5] [_, _, _] [] _ rfl (fun j => []) (fun j => i - j) (0) (⟨Nat.zero_le _, fun q hq => by omega⟩) ⟨rfl, rfl, rfl, rfl, rfl⟩ qS ?_
  intro j hst
  dsimp only [zipE, setAll, List.cons_append, List.nil_append, List.set_cons_zero, List.set_cons_succ] at hst ⊢
  
  refine zQ (zQ (zG (zR 3 rfl (zN (zU ?_)))))
  refine W.condD rfl (fun hc1 => ?_) (fun hc1 => ?_)
  ·try dsimp only at hc1
   have hji : j < i := by omega
   have hjf : j < fs.length := by omega
   refine zK (zU (zQ (zB (zQ ?_))))
   refine W.regionQ _ mixed qK ?_
   refine zR 1 rfl ?_
   refine yL (Rd.add (Rd.blk 1 rfl) _) ?_
   refine zR 1 rfl ?_
   refine WG.y rfl rfl qD (Yl.indexN tab_ok rfl rfl rfl rfl rfl rfl (fun _ => rfl) qN qH) ?_
   refine zR 1 rfl ?_
   refine' WG.y rfl rfl qD (Yl.load1 tab_ok rfl rfl rfl (fun _ => rfl) ?r5 rfl ?h5) ?_
   case r5 => exact RS.rdD hfa hjf
   case h5 => rfl
   refine zR 1 rfl ?_
   refine yL (Rd.add (Rd.blk 0 rfl) _) ?_
   refine WG.y rfl rfl qD (Yl.eqS rfl rfl rfl (fun _ => rfl)) ?_
   refine zN (zU ?_)
   refine W.cond rfl (fun hc2 => ?_) (fun hc2 => ?_)
   ·try simp only [zk] at hc2
    have hnm : nth (fs.map FlM.nm) j = (nth fs i).f.name := by rw [hnmj j hjf]; exact str_inj (by first | exact hc2 | exact Classical.not_not.1 hc2)
    have hin : (nth fs i).f.name ∈ ((fs.map FlM.nm).take i) := by
     rw [← hnm, nth_eq (by omega)]
     exact List.mem_take_iff_getElem.2 ⟨j, by omega, rfl⟩
    have hE : flE ((fs.map FlM.nm).take i) (ms.map (·.L)) (nth fs i).f = 60 := by unfold flE; rw [show frE ((fs.map FlM.nm).take i) (nth fs i).f.name = 60 from by unfold frE; rw [if_neg (by rw [hw]; decide), if_pos hin]]; rfl
    refine zQ (zG (zR 1 rfl (zN (zU (zT (wb (wt (wt (wb (wt ?_))))))))))
    refine WE.subE (E' := []) qS ?_
    refine WE.retF tab_ok [_] rfl ⟨rfl, trivial⟩ (RLe.refl _) ?_
    show Value.int .i64 _ = _
    rw [hE]
   ·try simp only [zk] at hc2
    have hne : nth (fs.map FlM.nm) j ≠ (nth fs i).f.name := fun e => by rw [hnmj j hjf] at e; exact hc2 (by rw [e])
    refine zK (zL (zU (zG (zR 1 rfl ?_))))
    refine yA ?_
    refine zR 1 rfl (zN ?_)
    refine WE.again (j + 1) (⟨by omega, fun q hq => by
     by_cases e : q = j
     ·subst e; exact hne
     ·exact hst.2 q (by omega)⟩) (by (try dsimp only); omega) ⟨rfl, rfl, rfl, rfl, rfl⟩ (RLe.refl _) qS
  ·try dsimp only at hc1
   obtain rfl : i = j := by omega
   have hnin : (nth fs i).f.name ∉ ((fs.map FlM.nm).take i) := fun hm => by
    obtain ⟨q, hq, e⟩ := List.getElem_of_mem hm
    rw [List.length_take] at hq
    refine hst.2 q qO ?_
    rw [nth_eq (by omega)]; rw [List.getElem_take] at e; exact e
   have hf0 : frE ((fs.map FlM.nm).take i) (nth fs i).f.name = 0 := by unfold frE; rw [if_neg (by rw [hw]; decide), if_neg hnin]
   have hE : flE ((fs.map FlM.nm).take i) (ms.map (·.L)) (nth fs i).f = if routeE (ms.map (·.L)) (nth fs i).f ≠ 0 then routeE (ms.map (·.L)) (nth fs i).f else trafE (nth fs i).f := if_neg (fun h => h hf0)
   refine zX ?_
   refine wx (wx (zY (zU (zQ (zQ (zG (zR 1 rfl ?_)))))))
   refine yL (Rd.add (Rd.blk 0 rfl) _) ?_
   refine zR 2 rfl (zN (zU ?_))
   refine W.condE rfl (fun hc3 => ?_) (fun hc3 => ?_)
   ·try dsimp only at hc3
    have hr : routeE (ms.map (·.L)) (nth fs i).f = 5 := if_pos (by omega)
    have hE := hE.trans (by rw [hr]; rfl : _ = (5 : Int))
    refine zQ (zG (zR 1 rfl (zN (zU (zT (wt ?_))))))
    refine WE.subE (E' := []) qS ?_
    refine WE.retF tab_ok [_] rfl ⟨rfl, trivial⟩ (RLe.refl _) ?_
    show Value.int .i64 _ = _
    rw [hE]
   ·try dsimp only at hc3
    refine zK (zU (zQ (zQ (zG (zR 1 rfl ?_)))))
    refine yL (Rd.add (Rd.blk 0 rfl) _) ?_
    refine zR 2 rfl (zN (zU ?_))
    refine W.condD rfl (fun hc4 => ?_) (fun hc4 => ?_)
    ·try dsimp only at hc4
     have hr : routeE (ms.map (·.L)) (nth fs i).f = 3 := by unfold routeE; rw [if_neg (by omega), if_pos (by omega)]
     have hE := hE.trans (by rw [hr]; rfl : _ = (3 : Int))
     refine zQ (zG (zR 1 rfl (zN (zU (zT (wt ?_))))))
     refine WE.subE (E' := []) qS ?_
     refine WE.retF tab_ok [_] rfl ⟨rfl, trivial⟩ (RLe.refl _) ?_
     show Value.int .i64 _ = _
     rw [hE]
    ·try dsimp only at hc4
     have hr : routeE (ms.map (·.L)) (nth fs i).f = routeGo (ms.map (·.L)) (nth fs i).f.cls [] (nth fs i).f.route := by unfold routeE; rw [if_neg (by omega), if_neg (by omega)]
     refine zK (zU (zQ (zQ (zG (zR 1 rfl (zN (zU (zB ?_))))))))
     refine W.loopK (β := Nat) (fun k => k ≤ (nth fs i).f.route.length ∧ routeGo (ms.map (·.L)) (nth fs i).f.cls ((nth fs i).f.route.take k) ((nth fs i).f.route.drop k) = routeGo (ms.map (·.L)) (nth fs i).f.cls [] (nth fs i).f.route) (fun k => [(7, true, .int .i64 (k : Int))]) [2, 5] [_, _] [] _ rfl (fun k => []) (fun k => (nth fs i).f.route.length - k) (0) (⟨Nat.zero_le _, rfl⟩) ⟨rfl, rfl, rfl, rfl⟩ qS ?_
     intro k hst
     dsimp only [zipE, setAll, List.cons_append, List.nil_append, List.set_cons_zero, List.set_cons_succ] at hst ⊢
     obtain ⟨hk, hch⟩ := hst
     refine zQ (zQ (zG (zR 2 rfl ?_)))
     refine yL (Rd.add (Rd.blk 0 rfl) _) ?_
     refine zR 2 rfl (zN (zU ?_))
     refine W.condD rfl (fun hc5 => ?_) (fun hc5 => ?_)
     ·try dsimp only at hc5
      have hkl : k < (nth fs i).f.route.length := by omega
      rw [show (nth fs i).f.route.drop k = nth (nth fs i).f.route k :: (nth fs i).f.route.drop (k + 1) by rw [nth_eq hkl]; exact List.drop_eq_getElem_cons hkl, routeGo, hml] at hch
      refine zK (zU (zQ (zB (zQ (zG (zR 1 rfl ?_))))))
      refine yL (Rd.add (Rd.blk 0 rfl) _) ?_
      refine zR 1 rfl ?_
      refine WG.y rfl rfl qD (Yl.indexN tab_ok rfl rfl rfl rfl rfl rfl (fun _ => rfl) qN qH) ?_
      refine' WG.y rfl rfl qD (Yl.load1 tab_ok rfl rfl rfl (fun _ => rfl) ?r11 rfl ?h11) ?_
      case r11 => exact RS.rdD hxr hkl
      case h11 => rfl
      refine zR 1 rfl (zN (zU (zQ (zQ (zG (zR 3 rfl ?_))))))
      refine yP ?_
      refine yP ?_
      refine yG (Rd.addC (Rd.blkC 1 rfl) _) ?_
      refine yP ?_
      refine yP ?_
      refine yO ?_
      refine zN (zU ?_)
      refine W.cond rfl (fun hc6 => ?_) (fun hc6 => ?_)
      ·try simp only [zk] at hc6
       rw [if_pos (by omega)] at hch
       have hE := hE.trans (by rw [hr, ← hch]; rfl : _ = (2 : Int))
       refine zQ (zG (zR 1 rfl (zN (zU (zT (wt (wb (wt (wt (wb (wt ?_)))))))))))
       refine WE.subE (E' := []) qS ?_
       refine WE.retF tab_ok [_] rfl ⟨rfl, trivial⟩ (RLe.refl _) ?_
       show Value.int .i64 _ = _
       rw [hE]
      ·try simp only [zk] at hc6
       have hlr : 0 ≤ nth (nth fs i).f.route k ∧ nth (nth fs i).f.route k < ms.length := by omega
       rw [if_neg (by omega)] at hch
       refine zK (zU (zQ (zQ (zG (zR 1 rfl (zN (zU (zB ?_))))))))
       refine W.loopK (β := Nat) (fun j => j ≤ k ∧ ∀ q, q < j → nth (nth fs i).f.route q ≠ nth (nth fs i).f.route k) (fun j => [(9, true, .int .i64 (j : Int))]) [2, 5, 7, 8] [_, _, _, _] [] _ rfl (fun j => []) (fun j => k - j) (0) (⟨Nat.zero_le _, fun q hq => by omega⟩) ⟨rfl, rfl, rfl, rfl, rfl, rfl⟩ qS ?_
       intro j hst
       dsimp only [zipE, setAll, List.cons_append, List.nil_append, List.set_cons_zero, List.set_cons_succ] at hst ⊢
       
       refine zQ (zQ (zG (zR 3 rfl (zN (zU ?_)))))
       refine W.condD rfl (fun hc7 => ?_) (fun hc7 => ?_)
       ·try dsimp only at hc7
        have hjk : j < k := by omega
        have hjr : j < (nth fs i).f.route.length := by omega
        refine zK (zU (zQ (zB (zQ (zG (zR 1 rfl ?_))))))
        refine yL (Rd.add (Rd.blk 0 rfl) _) ?_
        refine zR 1 rfl ?_
        refine WG.y rfl rfl qD (Yl.indexN tab_ok rfl rfl rfl rfl rfl rfl (fun _ => rfl) qN qH) ?_
        refine' WG.y rfl rfl qD (Yl.load1 tab_ok rfl rfl rfl (fun _ => rfl) ?r14 rfl ?h14) ?_
        case r14 => exact RS.rdD hxr hjr
        case h14 => rfl
        refine zR 2 rfl (zN (zU ?_))
        refine W.condE rfl (fun hc8 => ?_) (fun hc8 => ?_)
        ·try dsimp only at hc8
         have hin2 : nth (nth fs i).f.route k ∈ (nth fs i).f.route.take k := by
          have e : nth (nth fs i).f.route j = nth (nth fs i).f.route k := by omega
          rw [← e, nth_eq hjr]
          exact List.mem_take_iff_getElem.2 ⟨j, by omega, rfl⟩
         rw [if_pos hin2] at hch
         have hE := hE.trans (by rw [hr, ← hch]; rfl : _ = (60 : Int))
         refine zQ (zG (zR 1 rfl (zN (zU (zT (wb (wt (wt (wb (wt (wb (wt (wt (wb (wt ?_)))))))))))))))
         refine WE.subE (E' := []) qS ?_
         refine WE.retF tab_ok [_] rfl ⟨rfl, trivial⟩ (RLe.refl _) ?_
         show Value.int .i64 _ = _
         rw [hE]
        ·try dsimp only at hc8
         have hne2 : nth (nth fs i).f.route j ≠ nth (nth fs i).f.route k := by omega
         refine zK (zL (zU (zG (zR 1 rfl ?_))))
         refine yA ?_
         refine zR 1 rfl (zN ?_)
         refine WE.again (j + 1) (⟨by omega, fun q hq => by
          by_cases e : q = j
          ·subst e; exact hne2
          ·exact hst.2 q (by omega)⟩) (by (try dsimp only); omega) ⟨rfl, rfl, rfl, rfl, rfl, rfl⟩ (RLe.refl _) qS
       ·try dsimp only at hc7
        obtain rfl : k = j := by omega
        have hnin2 : nth (nth fs i).f.route k ∉ (nth fs i).f.route.take k := fun hm => by
         obtain ⟨q, hq, e⟩ := List.getElem_of_mem hm
         rw [List.length_take] at hq
         refine hst.2 q qO ?_
         rw [nth_eq (by omega)]; rw [List.getElem_take] at e; exact e
        rw [if_neg hnin2] at hch
        obtain ⟨g, hg⟩ := Int.eq_ofNat_of_zero_le hlr.1
        have hgm : g < ms.length := by omega
        have hgn : nth (ms.map (·.L)) (nth (nth fs i).f.route k).toNat = (nth ms g).L := by
         rw [hg, show ((g : Int)).toNat = g from rfl, nth_eq (by rw [hml]; exact hgm), List.getElem_map, nth_eq hgm]
        rw [hgn] at hch
        rw [hg]
        refine zX ?_
        refine wx (wx (zY (zU (zQ ?_))))
        refine W.regionQ _ mixed qK ?_
        refine zR 1 rfl ?_
        refine yL (Rd.add (Rd.blk 0 rfl) _) ?_
        refine zR 2 rfl ?_
        refine yP ?_
        refine yG (Rd.addC (Rd.blkC 0 rfl) _) ?_
        refine yP ?_
        refine yG (Rd.addC (Rd.blkC 1 rfl) _) ?_
        refine yP ?_
        refine WG.y rfl rfl (by decide) (Yl.indexN tab_ok rfl rfl rfl rfl rfl rfl qE (by intro hg; (try simp only [zk] at hg); (try dsimp only) <;> omega) (by intro hg; (try simp only [zk] at hg); first | exact qI)) ?_
        refine yP ?_
        refine' WG.y rfl rfl qD (Yl.loadG tab_ok rfl rfl rfl qE ?r18 rfl ?h18 ?g18) ?_
        case r18 => apply Rd.addC; ((apply RS.rdC; assumption))
        case h18 => rfl
        case g18 => (intro hg; (try simp only [zk] at hg); (try dsimp only); omega)
        refine yP ?_
        refine yO ?_
        refine zN (zU ?_)
        refine W.cond rfl (fun hc9 => ?_) (fun hc9 => ?_)
        ·try simp only [zk] at hc9
         rw [if_pos (by omega)] at hch
         have hE := hE.trans (by rw [hr, ← hch]; rfl : _ = (2 : Int))
         refine zQ (zG (zR 1 rfl (zN (zU (zT (wb (wt (wt (wb (wt ?_))))))))))
         refine WE.subE (E' := []) qS ?_
         refine WE.retF tab_ok [_] rfl ⟨rfl, trivial⟩ (RLe.refl _) ?_
         show Value.int .i64 _ = _
         rw [hE]
        ·try simp only [zk] at hc9
         rw [if_neg (by omega), ← take_nth hkl] at hch
         refine zK (zL (zU (zG (zR 1 rfl ?_))))
         refine yA ?_
         refine zR 1 rfl (zN ?_)
         refine WE.again (k + 1) (⟨by omega, hch⟩) (by (try dsimp only); omega) ⟨rfl, rfl, rfl, rfl⟩ (RLe.refl _) qS
     ·try dsimp only at hc5
      obtain rfl : k = (nth fs i).f.route.length := by omega
      rw [List.drop_length] at hch
      have hr0 : routeE (ms.map (·.L)) (nth fs i).f = 0 := by rw [hr, ← hch]; rfl
      rw [if_neg (fun h => h hr0)] at hE
      refine zX ?_
      refine wx (wx (zY (zU (zQ (zQ (zG (zR 2 rfl ?_)))))))
      refine yL (Rd.add (Rd.add (Rd.blk 0 rfl) _) _) ?_
      refine zR 2 rfl ?_
      refine yP ?_
      refine yP ?_
      refine yG (Rd.addC (Rd.addC (Rd.blkC 0 rfl) _) _) ?_
      refine yP ?_
      refine yP ?_
      refine yG (Rd.addC (Rd.addC (Rd.blkC 0 rfl) _) _) ?_
      refine yP ?_
      refine yO ?_
      refine zR 1 rfl ?_
      refine yP ?_
      refine yP ?_
      refine yG (Rd.addC (Rd.addC (Rd.blkC 0 rfl) _) _) ?_
      refine yP ?_
      refine yO ?_
      refine zN (zU ?_)
      refine W.cond rfl (fun hc10 => ?_) (fun hc10 => ?_)
      ·try simp only [zk] at hc10
       have hE := hE.trans (if_pos (by omega) : trafE (nth fs i).f = 2)
       refine zQ (zG (zR 1 rfl (zN (zU (zT (wt ?_))))))
       refine WE.subE (E' := []) qS ?_
       refine WE.retF tab_ok [_] rfl ⟨rfl, trivial⟩ (RLe.refl _) ?_
       show Value.int .i64 _ = _
       rw [hE]
      ·try simp only [zk] at hc10
       have h0 : ¬ ((nth fs i).f.lo < 1 ∨ (nth fs i).f.hi < (nth fs i).f.lo ∨ 1500 < (nth fs i).f.hi) := by omega
       refine zK (zU (zQ (zQ (zG (zR 1 rfl ?_)))))
       refine yL (Rd.add (Rd.blk 0 rfl) _) ?_
       refine WG.callV en56 rfl rfl qD (CallOp.mk' rfl rfl rfl rfl) (fun _ => rfl) (fun hg => ValidA_V (per := (nth fs i).f.cv.per) (inc := (nth fs i).f.cv.inc) hxv) ?_
       refine zR 1 rfl (zN (zU ?_))
       refine W.cond rfl (fun hc11 => ?_) (fun hc11 => ?_)
       ·try simp only [zk] at hc11
        have hv : validB (nth fs i).f.cv = false := by simpa using hc11
        have hE := hE.trans (by unfold trafE; rw [if_neg h0, if_pos hv] : trafE (nth fs i).f = 1)
        refine zQ (zG (zR 1 rfl (zN (zU (zT (wt ?_))))))
        refine WE.subE (E' := []) qS ?_
        refine WE.retF tab_ok [_] rfl ⟨rfl, trivial⟩ (RLe.refl _) ?_
        show Value.int .i64 _ = _
        rw [hE]
       ·try simp only [zk] at hc11
        have hvv : validB (nth fs i).f.cv = true := by simpa using hc11
        have hv1 := (validB_iff.1 hvv).1.1
        refine zK (zU (zQ (zQ (zG (zR 2 rfl ?_)))))
        refine yL (Rd.add (Rd.add (Rd.blk 0 rfl) _) _) ?_
        refine WG.y rfl rfl qD (Yl.indexN tab_ok rfl rfl rfl rfl rfl rfl (fun _ => rfl) qN qH) ?_
        refine' WG.y rfl rfl qD (Yl.load1 tab_ok rfl rfl rfl (fun _ => rfl) ?r25 rfl ?h25) ?_
        case r25 => exact RS.rdD hxv hv1
        case h25 => rfl
        refine zR 1 rfl (zN (zU ?_))
        refine W.condN rfl (fun hc12 => ?_) (fun hc12 => ?_)
        ·try dsimp only at hc12
         have hE := hE.trans (by unfold trafE; rw [if_neg h0, if_neg (by rw [hvv]; decide), if_pos (by omega)] : trafE (nth fs i).f = 6)
         refine zQ (zG (zR 1 rfl (zN (zU (zT (wt ?_))))))
         refine WE.subE (E' := []) qS ?_
         refine WE.retF tab_ok [_] rfl ⟨rfl, trivial⟩ (RLe.refl _) ?_
         show Value.int .i64 _ = _
         rw [hE]
        ·try dsimp only at hc12
         refine zK (zU (zQ (zQ (zG (zR 1 rfl ?_)))))
         refine yL (Rd.add (Rd.blk 0 rfl) _) ?_
         refine WG.callV en82 rfl rfl qD (CallOp.mk' rfl rfl rfl rfl) (fun _ => rfl) (fun hg => (FiniteG_V hvv hxv)) ?_
         refine zR 1 rfl (zN (zU ?_))
         refine W.cond rfl (fun hc13 => ?_) (fun hc13 => ?_)
         ·try simp only [zk] at hc13
          have hfn : finB (nth fs i).f.cv = false := by simpa using hc13
          have hE := hE.trans (by unfold trafE; rw [if_neg h0, if_neg (by rw [hvv]; decide), if_neg (by omega), if_pos hfn] : trafE (nth fs i).f = 2)
          refine zQ (zG (zR 1 rfl (zN (zU (zT (wt ?_))))))
          refine WE.subE (E' := []) qS ?_
          refine WE.retF tab_ok [_] rfl ⟨rfl, trivial⟩ (RLe.refl _) ?_
          show Value.int .i64 _ = _
          rw [hE]
         ·try simp only [zk] at hc13
          have hfn : finB (nth fs i).f.cv = true := by simpa using hc13
          have hE := hE.trans (by unfold trafE; rw [if_neg h0, if_neg (by rw [hvv]; decide), if_neg (by omega), if_neg (by rw [hfn]; decide)] : trafE (nth fs i).f = 0)
          refine zK (zU (zQ (zG (zR 1 rfl (zN (zU (zT ?_)))))))
          refine WE.subE (E' := []) qS ?_
          refine WE.retF tab_ok [_] rfl ⟨rfl, trivial⟩ (RLe.refl _) ?_
          show Value.int .i64 _ = _
          rw [hE]



set_option maxHeartbeats 2000000 in
theorem RCheck23_V {R : Ro} {na la fa : Option Addr} {nc lc fc : Nat} {names : List (List UInt8)} {ms : List LnM} {fs : List FlM} (hna : K.RS R 1 encT na names) (hla : K.RS R 5 encLn la ms) (hfa : K.RS R 8 encFl fa fs) (hok : ∀ m ∈ ms, OkLn R m) (hof : ∀ m ∈ fs, OkFl R m) (hnl : ∀ x ∈ names, x.length ≤ 9223372036854775807) : FnV Tryz.prog 28 [.agg #[.slice na names.length nc, .slice la ms.length lc, .slice fa fs.length fc]] R (.int .i64 (chkNet names (ms.map (·.L)) (fs.map (·.f)))) := by
 refine FnV.ofOwn (fun w0 hb0 => ?_)
 have hll := hla.len
 have hfl := hfa.len
 have hnal := hna.len
 have hml : (ms.map (·.L)).length = ms.length := List.length_map ..
 have hfml : (fs.map (·.f)).length = fs.length := List.length_map ..
 refine fE 83 Tryz.func28 ?_
 refine zQ (zG ?_)
 refine zO fun b1 => ?_
 refine zR 1 rfl (zN (zU (zQ (zQ (zG (zR 1 rfl ?_))))))
 refine yL (Rd.add (Rd.blk 0 rfl) _) ?_
 refine zR 3 rfl ?_
 refine yP ?_
 refine yG (Rd.addC (Rd.blkC 0 rfl) _) ?_
 refine yP ?_
 refine yP ?_
 refine yO ?_
 refine zR 1 rfl ?_
 refine yP ?_
 refine yG (Rd.addC (Rd.blkC 0 rfl) _) ?_
 refine yP ?_
 refine yP ?_
 refine yO ?_
 refine zN (zU ?_)
 refine W.cond rfl (fun hc0 => ?_) (fun hc0 => ?_)
 ·try simp only [zk] at hc0
  refine zQ (zG (zR 1 rfl (zN (zU (zT (wt ?_))))))
  refine WE.subE (E' := []) qS ?_
  refine WE.retF tab_ok [_] rfl ⟨rfl, trivial⟩ (RLe.refl _) ?_
  show Value.int .i64 _ = Value.int .i64 _
  unfold chkNet; rw [hml, hfml, if_pos (by omega)]
 ·try simp only [zk] at hc0
  refine zK (zU (zQ (zQ (zG (zR 1 rfl ?_)))))
  refine yL (Rd.add (Rd.blk 0 rfl) _) ?_
  refine zR 2 rfl ?_
  refine yL (Rd.add (Rd.blk 0 rfl) _) ?_
  refine zR 2 rfl (zN (zU ?_))
  refine W.condN rfl (fun hc1 => ?_) (fun hc1 => ?_)
  ·try dsimp only at hc1
   refine zQ (zG (zR 1 rfl (zN (zU (zT (wt ?_))))))
   refine WE.subE (E' := []) qS ?_
   refine WE.retF tab_ok [_] rfl ⟨rfl, trivial⟩ (RLe.refl _) ?_
   show Value.int .i64 _ = Value.int .i64 _
   unfold chkNet; rw [hml, hfml, if_neg (by omega), if_pos (by omega)]
  ·try dsimp only at hc1
   have hcn : chkNet names (ms.map (·.L)) (fs.map (·.f)) = if chkLs [] (names.zip (ms.map (·.L))) ≠ 0 then chkLs [] (names.zip (ms.map (·.L))) else chkFs (ms.map (·.L)) [] (fs.map (·.f)) := by unfold chkNet; rw [hml, hfml, if_neg (by omega), if_neg (by omega)]
   refine zK (zU (zQ (zQ (zG (zR 1 rfl (zN (zU (zB ?_))))))))
   refine W.loopK (β := Nat) (fun i => i ≤ ms.length ∧ chkLs (names.take i) ((names.zip (ms.map (·.L))).drop i) = chkLs [] (names.zip (ms.map (·.L)))) (fun i => [(3, true, .int .i64 (i : Int))]) [1] [_] [] _ rfl (fun i => []) (fun i => ms.length - i) (0) (⟨Nat.zero_le _, rfl⟩) ⟨rfl, rfl, rfl⟩ qS ?_
   intro i hst
   dsimp only [zipE, setAll, List.cons_append, List.nil_append, List.set_cons_zero, List.set_cons_succ] at hst ⊢
   obtain ⟨hi, hch⟩ := hst
   refine zQ (zQ (zG (zR 2 rfl ?_)))
   refine yL (Rd.add (Rd.blk 0 rfl) _) ?_
   refine zR 2 rfl (zN (zU ?_))
   refine W.condD rfl (fun hc2 => ?_) (fun hc2 => ?_)
   ·try dsimp only at hc2
    have him : i < ms.length := by omega
    have hin : i < names.length := by omega
    have hnL : ∃ q : Ln, q = (nth ms i).L ∧ (ms.map (·.L)).length = ms.length ∧ (names.zip (ms.map (·.L))).drop i = (nth names i, q) :: (names.zip (ms.map (·.L))).drop (i + 1) := by
     have hl : i < (names.zip (ms.map (·.L))).length := by rw [List.length_zip, hml]; omega
     refine ⟨_, rfl, hml, ?_⟩
     rw [List.drop_eq_getElem_cons hl, List.getElem_zip, nth_eq hin, nth_eq him, List.getElem_map]
    obtain ⟨q, hq, _, hdr⟩ := hnL
    rw [hdr, chkLs] at hch
    dsimp only at hch
    subst hq
    refine zK (zU (zQ (zB (zQ (zQ (zG (zR 1 rfl ?_)))))))
    refine yL (Rd.add (Rd.blk 0 rfl) _) ?_
    refine zR 1 rfl ?_
    refine WG.y rfl rfl qD (Yl.indexN tab_ok rfl rfl rfl rfl rfl rfl (fun _ => rfl) qN qH) ?_
    refine' WG.y rfl rfl qD (Yl.load1 tab_ok rfl rfl rfl (fun _ => rfl) ?r8 rfl ?h8) ?_
    case r8 => exact RS.rdD hna hin
    case h8 => rfl
    refine WG.callV en45 rfl rfl qD (CallOp.mk' rfl rfl rfl rfl) (fun _ => rfl) (fun hg => Word23_V (s := nth names i) (hnl _ (nth_mem hin))) ?_
    refine zR 1 rfl (zN (zU ?_))
    refine W.cond rfl (fun hc3 => ?_) (fun hc3 => ?_)
    ·try simp only [zk] at hc3
     have hw : wordB (nth names i) = false := by simpa using hc3
     have hfv : frE (names.take i) (nth names i) = 4 := if_pos hw
     have hf1 : frE (names.take i) (nth names i) ≠ 0 := by rw [hfv]; decide
     rw [if_pos hf1, hfv] at hch
     have hq := hcn.trans (if_pos (by rw [← hch]; decide))
     refine zQ (zG (zR 1 rfl (zN (zU (zT (wt (wb (wt (wt (wb (wt ?_)))))))))))
     refine WE.subE (E' := []) qS ?_
     refine WE.retF tab_ok [_] rfl ⟨rfl, trivial⟩ (RLe.refl _) ?_
     show Value.int .i64 _ = Value.int .i64 _
     rw [hq, ← hch]
    ·try simp only [zk] at hc3
     have hw : wordB (nth names i) = true := by simpa using hc3
     refine zK (zU (zQ (zQ (zG (zR 1 rfl (zN (zU (zB ?_))))))))
     refine W.loopK (β := Nat) (fun j => j ≤ i ∧ ∀ q, q < j → nth names q ≠ nth names i) (fun j => [(4, true, .int .i64 (j : Int))]) [1, 3] [_, _] [] _ rfl (fun j => []) (fun j => i - j) (0) (⟨Nat.zero_le _, fun q hq => by omega⟩) ⟨rfl, rfl, rfl, rfl⟩ qS ?_
     intro j hst
     dsimp only [zipE, setAll, List.cons_append, List.nil_append, List.set_cons_zero, List.set_cons_succ] at hst ⊢
     
     refine zQ (zQ (zG (zR 3 rfl (zN (zU ?_)))))
     refine W.condD rfl (fun hc4 => ?_) (fun hc4 => ?_)
     ·try dsimp only at hc4
      have hji : j < i := by omega
      have hjn : j < names.length := by omega
      refine zK (zU (zQ (zB (zQ ?_))))
      refine W.regionQ _ mixed qK ?_
      refine zR 1 rfl ?_
      refine yL (Rd.add (Rd.blk 0 rfl) _) ?_
      refine zR 1 rfl ?_
      refine WG.y rfl rfl qD (Yl.indexN tab_ok rfl rfl rfl rfl rfl rfl (fun _ => rfl) qN qH) ?_
      refine' WG.y rfl rfl qD (Yl.load1 tab_ok rfl rfl rfl (fun _ => rfl) ?r10 rfl ?h10) ?_
      case r10 => exact RS.rdD hna hjn
      case h10 => rfl
      refine zR 1 rfl ?_
      refine yL (Rd.add (Rd.blk 0 rfl) _) ?_
      refine zR 1 rfl ?_
      refine WG.y rfl rfl qD (Yl.indexN tab_ok rfl rfl rfl rfl rfl rfl (fun _ => rfl) qN qH) ?_
      refine' WG.y rfl rfl qD (Yl.load1 tab_ok rfl rfl rfl (fun _ => rfl) ?r12 rfl ?h12) ?_
      case r12 => exact RS.rdD hna hin
      case h12 => rfl
      refine WG.y rfl rfl qD (Yl.eqS rfl rfl rfl (fun _ => rfl)) ?_
      refine zN (zU ?_)
      refine W.cond rfl (fun hc5 => ?_) (fun hc5 => ?_)
      ·try simp only [zk] at hc5
       have hnm : nth names j = nth names i := str_inj (by first | exact hc5 | exact Classical.not_not.1 hc5)
       have hin2 : nth names i ∈ names.take i := by
        rw [← hnm, nth_eq hjn]
        exact List.mem_take_iff_getElem.2 ⟨j, by omega, rfl⟩
       have hfv : frE (names.take i) (nth names i) = 60 := by unfold frE; rw [if_neg (by rw [hw]; decide), if_pos hin2]
       have hf1 : frE (names.take i) (nth names i) ≠ 0 := by rw [hfv]; decide
       rw [if_pos hf1, hfv] at hch
       have hq := hcn.trans (if_pos (by rw [← hch]; decide))
       refine zQ (zG (zR 1 rfl (zN (zU (zT (wb (wt (wt (wb (wt (wb (wt (wt (wb (wt ?_)))))))))))))))
       refine WE.subE (E' := []) qS ?_
       refine WE.retF tab_ok [_] rfl ⟨rfl, trivial⟩ (RLe.refl _) ?_
       show Value.int .i64 _ = Value.int .i64 _
       rw [hq, ← hch]
      ·try simp only [zk] at hc5
       have hne : nth names j ≠ nth names i := fun e => hc5 (by rw [e])
       refine zK (zL (zU (zG (zR 1 rfl ?_))))
       refine yA ?_
       refine zR 1 rfl (zN ?_)
       refine WE.again (j + 1) (⟨by omega, fun q hq => by
        by_cases e : q = j
        ·subst e; exact hne
        ·exact hst.2 q (by omega)⟩) (by (try dsimp only); omega) ⟨rfl, rfl, rfl, rfl⟩ (RLe.refl _) qS
     ·try dsimp only at hc4
      obtain rfl : i = j := by omega
      have hnin : nth names i ∉ names.take i := fun hm => by
       obtain ⟨q, hq, e⟩ := List.getElem_of_mem hm
       rw [List.length_take] at hq
       refine hst.2 q qO ?_
       rw [nth_eq (by omega)]; rw [List.getElem_take] at e; exact e
      have hf0 : frE (names.take i) (nth names i) = 0 := by unfold frE; rw [if_neg (by rw [hw]; decide), if_neg hnin]
      rw [if_neg (fun h => h hf0)] at hch
      refine zX ?_
      refine wx (wx (zY (zU (zQ (zG (zR 1 rfl ?_))))))
      refine yL (Rd.add (Rd.blk 0 rfl) _) ?_
      refine zR 1 rfl ?_
      refine WG.y rfl rfl qD (Yl.indexN tab_ok rfl rfl rfl rfl rfl rfl (fun _ => rfl) qN qH) ?_
      refine' WG.y rfl rfl qD (Yl.load1 tab_ok rfl rfl rfl (fun _ => rfl) ?r14 rfl ?h14) ?_
      case r14 => exact RS.rdD hla him
      case h14 => rfl
      refine WG.callV en46 rfl rfl qD (CallOp.mk' rfl rfl rfl rfl) (fun _ => rfl) (fun hg => Chk22_V (L := (nth ms i).L) (hok _ (nth_mem him)).1 rfl (hok _ (nth_mem him)).2 rfl) ?_
      refine zR 1 rfl (zN (zU (zQ (zG (zR 2 rfl (zN (zU ?_)))))))
      refine W.condN rfl (fun hc6 => ?_) (fun hc6 => ?_)
      ·try dsimp only at hc6
       rw [if_pos hc6] at hch
       have hq := hcn.trans (if_pos (by rw [← hch]; exact hc6))
       refine zQ (zG (zR 2 rfl (zN (zU (zT (wb (wt (wt (wb (wt ?_))))))))))
       refine WE.subE (E' := []) qS ?_
       refine WE.retF tab_ok [_] rfl ⟨rfl, trivial⟩ (RLe.refl _) ?_
       show Value.int .i64 _ = Value.int .i64 _
       rw [hq, ← hch]
      ·try dsimp only at hc6
       have hf1 : chkL (nth ms i).L = 0 := by first | exact hc6 | exact Classical.not_not.1 hc6
       rw [if_neg (fun h => h hf1), ← take_nth hin] at hch
       refine zK (zL (zU (zG (zR 1 rfl ?_))))
       refine yA ?_
       refine zR 1 rfl (zN ?_)
       refine WE.again (i + 1) (⟨by omega, hch⟩) (by (try dsimp only); omega) ⟨rfl, rfl, rfl⟩ (RLe.refl _) qS
   ·try dsimp only at hc2
    obtain rfl : i = ms.length := by omega
    rw [List.drop_of_length_le (by rw [List.length_zip, hml]; omega)] at hch
    have hcl : chkLs [] (names.zip (ms.map (·.L))) = 0 := hch.symm
    rw [if_neg (fun h => h hcl)] at hcn
    refine zX ?_
    refine wx (wx (zY (zU (zQ (zQ (zG (zR 1 rfl (zN (zU (zB ?_))))))))))
    refine W.loopK (β := Nat) (fun i => i ≤ fs.length ∧ chkFs (ms.map (·.L)) ((fs.map FlM.nm).take i) ((fs.map (·.f)).drop i) = chkFs (ms.map (·.L)) [] (fs.map (·.f))) (fun i => [(6, true, .int .i64 (i : Int))]) [1] [_] [] _ rfl (fun i => []) (fun i => fs.length - i) (0) (⟨Nat.zero_le _, rfl⟩) ⟨rfl, rfl, rfl⟩ qS ?_
    intro i hst
    dsimp only [zipE, setAll, List.cons_append, List.nil_append, List.set_cons_zero, List.set_cons_succ] at hst ⊢
    obtain ⟨hi, hch⟩ := hst
    refine zQ (zQ (zG (zR 2 rfl ?_)))
    refine yL (Rd.add (Rd.blk 0 rfl) _) ?_
    refine zR 2 rfl (zN (zU ?_))
    refine W.condD rfl (fun hc7 => ?_) (fun hc7 => ?_)
    ·try dsimp only at hc7
     have hif : i < fs.length := by omega
     have hnmi : nth (fs.map FlM.nm) i = (nth fs i).f.name := by rw [nth_eq (by rw [List.length_map]; exact hif), List.getElem_map, nth_eq hif]; rfl
     have hnml : i < (fs.map FlM.nm).length := by rw [List.length_map]; exact hif
     rw [show (fs.map (·.f)).drop i = (nth fs i).f :: (fs.map (·.f)).drop (i + 1) by
      have hl : i < (fs.map (·.f)).length := by omega
      rw [List.drop_eq_getElem_cons hl, List.getElem_map, nth_eq hif], chkFs] at hch
     refine zK (zU (zQ (zB (zQ (zG ?_)))))
     refine yL (Rd.blk 0 rfl) ?_
     refine zR 1 rfl ?_
     refine WG.callV en61 rfl rfl qD (CallOp.mk' rfl rfl rfl rfl) (fun _ => rfl) (fun hg => RFlow23_V (na := na) (nc := nc) (lc := lc) (fc := fc) (names := names) hif hla hfa hof) ?_
     refine zR 1 rfl (zN (zU (zQ (zG (zR 2 rfl (zN (zU ?_)))))))
     refine W.condN rfl (fun hc8 => ?_) (fun hc8 => ?_)
     ·try dsimp only at hc8
      rw [if_pos hc8] at hch
      refine zQ (zG (zR 2 rfl (zN (zU (zT (wb (wt (wt (wb (wt ?_))))))))))
      refine WE.subE (E' := []) qS ?_
      refine WE.retF tab_ok [_] rfl ⟨rfl, trivial⟩ (RLe.refl _) ?_
      show Value.int .i64 _ = Value.int .i64 _
      rw [hcn, ← hch]
     ·try dsimp only at hc8
      have ht0 : flE ((fs.map FlM.nm).take i) (ms.map (·.L)) (nth fs i).f = 0 := by first | exact hc8 | exact Classical.not_not.1 hc8
      rw [if_neg (fun h => h ht0), ← hnmi, ← take_nth hnml] at hch
      refine zK (zL (zU (zG (zR 1 rfl ?_))))
      refine yA ?_
      refine zR 1 rfl (zN ?_)
      refine WE.again (i + 1) (⟨by omega, hch⟩) (by (try dsimp only); omega) ⟨rfl, rfl, rfl⟩ (RLe.refl _) qS
    ·try dsimp only at hc7
     obtain rfl : i = fs.length := by omega
     rw [List.drop_of_length_le (by omega)] at hch
     refine zX ?_
     refine wx (wx (zY (zU (zQ (zG (zR 1 rfl (zN (zU (zT ?_)))))))))
     refine WE.subE (E' := []) qS ?_
     refine WE.retF tab_ok [_] rfl ⟨rfl, trivial⟩ (RLe.refl _) ?_
     show Value.int .i64 _ = Value.int .i64 _
     rw [hcn, ← hch]; rfl



theorem Decimal_V {R : Ro} (u : Nat) : u ≤ 1073741824 → FnV Tryz.prog 69 [.int .i64 (u : Int)] R (.string (str (Lib.decDigits u))) := by
 refine Nat.strongRecOn (motive := fun u => u ≤ 1073741824 → FnV Tryz.prog 69 [.int .i64 (u : Int)] R (.string (str (Lib.decDigits u)))) u (fun u ih hu => ?_)
 refine Fn.toV (fun w0 E => ?_)
 refine fE 25 Tryz.func69 ?_
 refine zQ (zG (zR 1 rfl (zN (zU (zQ (zQ (zG (zR 2 rfl (zN (zU ?_))))))))))
 refine W.condD rfl (fun hc0 => ?_) (fun hc0 => ?_)
 ·try dsimp only at hc0
  omega
 ·try dsimp only at hc0
  refine zK (zU (zQ (zQ (zG (zR 2 rfl (zN (zU ?_)))))))
  refine W.condD rfl (fun hc1 => ?_) (fun hc1 => ?_)
  ·try dsimp only at hc1
   refine zQ (zG (zR 2 rfl ?_))
   refine yA ?_
   refine WG.y rfl rfl (by decide) (Yl.sliceSLH tab_ok rfl rfl rfl rfl rfl rfl (fun _ => rfl) (by intro _; (simp only [List.length_cons, List.length_nil]; omega))) ?_
   refine zR 1 rfl (zN (zU (zT (wt ?_))))
   refine sE (E := E) ?_
   refine WE.retF tab_ok [_] rfl ⟨rfl, trivial⟩ (RLe.refl _) ?_
   have e : str ((([48, 49, 50, 51, 52, 53, 54, 55, 56, 57] : List UInt8).take ((u : Int) + 1).toNat).drop (u : Int).toNat) = str (Lib.decDigits u) := by
    rw [show ((u : Int) + 1).toNat = u + 1 by omega, show (u : Int).toNat = u by omega, dig_slice (by omega), Lib.decDigits, dif_pos (by omega)]
   exact ⟨congrArg Value.string e, rfl⟩
  ·try dsimp only at hc1
   refine zK (zU (zQ ?_))
   refine W.regionQ _ mixed qK ?_
   refine zR 1 rfl ?_
   refine WG.y rfl rfl qD (Yl.quo rfl rfl rfl (fun _ => rfl) qA (by intro _; omega)) ?_
   refine WG.callV (v := .string (str (Lib.decDigits (u / 10)))) en69 rfl rfl qD (CallOp.mk' rfl rfl rfl rfl) (fun _ => rfl) (fun hg => by
    have h := ih (u / 10) (by omega) (by omega)
    exact h) ?_
   refine zR 1 rfl ?_
   refine WG.y rfl rfl qD (Yl.rem rfl rfl rfl (fun _ => rfl) qN qN) ?_
   refine zR 1 rfl ?_
   refine WG.y rfl rfl qD (Yl.rem rfl rfl rfl (fun _ => rfl) qN qN) ?_
   refine yA ?_
   refine WG.y rfl rfl (by decide) (Yl.sliceSLH tab_ok rfl rfl rfl rfl rfl rfl (fun _ => rfl) (by intro _; (simp only [List.length_cons, List.length_nil]; omega))) ?_
   refine WG.y rfl rfl (by decide) (Yl.cat rfl rfl rfl (fun _ => rfl) (by intro _; (rw [str_size, str_size]; have h1 := decDigits_le (u / 10); simp only [List.length_drop, List.length_take, List.length_cons, List.length_nil]; omega))) ?_
   refine zR 1 rfl (zN (zU (zT ?_)))
   refine sE (E := E) ?_
   refine WE.retF tab_ok [_] rfl ⟨rfl, trivial⟩ (RLe.refl _) ?_
   have e : str (Lib.decDigits (u / 10)) ++ str ((([48, 49, 50, 51, 52, 53, 54, 55, 56, 57] : List UInt8).take ((u : Int) % 10 + 1).toNat).drop ((u : Int) % 10).toNat) = str (Lib.decDigits u) := by
    rw [show ((u : Int) % 10 + 1).toNat = u % 10 + 1 by omega, show ((u : Int) % 10).toNat = u % 10 by omega, dig_slice (by omega), str_append]
    conv => rhs; rw [Lib.decDigits, dif_neg (by omega)]
   exact ⟨congrArg Value.string e, rfl⟩

theorem DecimalZ_V {R : Ro} {n : Int} (hn : -1073741824 ≤ n ∧ n ≤ 1073741824) : FnV Tryz.prog 69 [.int .i64 n] R (.string (str (Lib.itoa n))) := by
 by_cases hneg : 0 ≤ n
 ·have h := Decimal_V (R := R) n.toNat (by omega)
  rw [show ((n.toNat : Nat) : Int) = n by omega] at h
  have e : Lib.itoa n = Lib.decDigits n.toNat := by unfold Lib.itoa; rw [if_neg (by omega)]
  rw [e]; exact h
 refine Fn.toV (fun w0 E => ?_)
 have e : Lib.itoa n = 45 :: Lib.decDigits n.natAbs := by unfold Lib.itoa; rw [if_pos (by omega)]
 have hsz := str_size (Lib.decDigits n.natAbs)
 have hdl := decDigits_le n.natAbs
 refine fE 25 Tryz.func69 ?_
 refine zQ (zG (zR 1 rfl (zN (zU (zQ (zQ (zG (zR 2 rfl (zN (zU ?_))))))))))
 refine W.condD rfl (fun hc0 => ?_) (fun hc0 => ?_)
 ·try dsimp only at hc0
  refine zQ (zG (zR 1 rfl ?_))
  refine WG.y rfl rfl qD (Yl.neg rfl rfl (fun _ => rfl) qA) ?_
  refine WG.callV (v := .string (str (Lib.decDigits n.natAbs))) en69 rfl rfl qD (CallOp.mk' rfl rfl rfl rfl) (fun _ => rfl) (fun hg => by
   have h := Decimal_V (R := R) n.natAbs (by omega)
   rw [show ((n.natAbs : Nat) : Int) = -n by omega] at h
   exact h) ?_
  refine WG.y rfl rfl (by decide) (Yl.cat rfl rfl rfl (fun _ => rfl) (by intro _; (show (str [45]).size + _ ≤ _; rw [str_size]; simp only [List.length_cons, List.length_nil]; omega))) ?_
  refine zR 1 rfl (zN (zU (zT (wt ?_))))
  refine sE (E := E) ?_
  refine WE.retF tab_ok [_] rfl ⟨rfl, trivial⟩ (RLe.refl _) ?_
  exact ⟨by show Value.string (str [45] ++ str (Lib.decDigits n.natAbs)) = _; rw [str_append, e]; rfl, rfl⟩
 ·try dsimp only at hc0
  omega

set_option maxHeartbeats 1000000 in
theorem RFmt03_V {R : Ro} {fa : Option Addr} {fc : Nat} {c : Cv} (ha : RS R 1 encI fa c.vals) : FnV Tryz.prog 39 [.agg #[.slice fa c.vals.length fc, .int .i64 c.per, .int .i64 c.inc]] R (.tuple #[.string (str (formatR c).1), .int .i64 (formatR c).2]) := by
 refine Fn.toV (fun w0 E => ?_)
 refine fE 48 Tryz.func39 ?_
 refine zQ (zG ?_)
 refine zO fun b1 => ?_
 refine zR 2 rfl (zN (zU (zQ (zQ (zG ?_)))))
 refine yL (Rd.blk 0 rfl) ?_
 refine WG.callV (v := .bool (validB c)) en56 rfl rfl qD (CallOp.mk' rfl rfl rfl rfl) (fun _ => rfl) (fun hg => ValidA_V (c := fc) ha) ?_
 refine zR 1 rfl (zN (zU ?_))
 refine W.cond rfl (fun hc0 => ?_) (fun hc0 => ?_)
 ·try simp only [zk] at hc0
  have hf : formatR c = ([], 1) := if_pos (by simpa using hc0)
  refine zQ (zG (zR 2 rfl (zN (zU (zT (wt ?_))))))
  refine sE (E := E) ?_
  refine WE.retF tab_ok [_, _] rfl ⟨rfl, rfl, trivial⟩ (RLe.refl _) ?_
  exact ⟨by rw [hf]; rfl, rfl⟩
 ·try simp only [zk] at hc0
  have hv : validB c = true := by simpa using hc0
  have hvrg := valid_range hv
  have hfcl := fmtC_len hv
  refine zK (zU (zQ (zG (zR 1 rfl (zN (zU (zQ (zQ (zG (zR 1 rfl (zN (zU (zB ?_)))))))))))))
  refine W.loopK (β := Nat) (fun i => i ≤ c.vals.length) (fun i => [(4, true, .string (str (fmtVals (c.vals.take i)))), (5, true, .int .i64 (i : Int))]) [1] [_] [] _ rfl (fun i => []) (fun i => c.vals.length - i) (0) (Nat.zero_le _) ⟨rfl, rfl, rfl, rfl⟩ qS ?_
  intro i hst
  dsimp only [zipE, setAll, List.cons_append, List.nil_append, List.set_cons_zero, List.set_cons_succ] at hst ⊢
  
  refine zQ (zQ (zG (zR 2 rfl ?_)))
  refine yL (Rd.add (Rd.blk 0 rfl) _) ?_
  refine zR 2 rfl (zN (zU ?_))
  refine W.condD rfl (fun hc1 => ?_) (fun hc1 => ?_)
  ·try dsimp only at hc1
   have hjl : i < c.vals.length := by omega
   have hvv := valid_vals hv _ (nth_mem hjl)
   have hwl := wordV_len hvv
   have hfl := fmtVals_len (c.vals.take i) (fun v h => valid_vals hv v (List.mem_of_mem_take h))
   rw [List.length_take] at hfl
   have hsn : fmtVals (c.vals.take (i + 1)) = (fmtVals (c.vals.take i) ++ wordV (nth c.vals i)) ++ [32] := by
    rw [← fmtVals_snoc, nth_eq hjl, List.take_succ_eq_append_getElem hjl]
   have hss := str_size (fmtVals (c.vals.take i))
   refine zK (zU (zQ (zB (zQ (zG (zR 1 rfl ?_))))))
   refine yL (Rd.add (Rd.blk 0 rfl) _) ?_
   refine zR 1 rfl ?_
   refine WG.y rfl rfl qD (Yl.indexN tab_ok rfl rfl rfl rfl rfl rfl (fun _ => rfl) qN qH) ?_
   refine yR ?_
   refine zR 1 rfl (zN (zU ?_))
   refine W.condE rfl (fun hc2 => ?_) (fun hc2 => ?_)
   ·try dsimp only at hc2
    have ew : wordV (nth c.vals i) = wInf := if_pos hc2
    rw [ew, List.append_assoc] at hsn
    refine zG (zR 1 rfl ?_)
    refine WG.y rfl rfl qD (Yl.catS rfl rfl rfl (fun _ => rfl) (by intro _; (show _ + 4 ≤ _; omega))) ?_
    rw [show fmtVals (c.vals.take i) ++ [105, 110, 102, 32] = fmtVals (c.vals.take (i + 1)) from hsn.symm]
    refine zR 1 rfl (zN (zL (zU (zG (zR 1 rfl ?_)))))
    refine yA ?_
    refine zR 1 rfl (zN ?_)
    refine WE.again (i + 1) (by (try dsimp only); omega) (by (try dsimp only); omega) ⟨rfl, rfl, rfl, rfl⟩ (RLe.refl _) qS
   ·try dsimp only at hc2
    unfold INF at hvv
    have ew : wordV (nth c.vals i) = Lib.itoa (nth c.vals i) := if_neg hc2
    rw [ew] at hsn hwl
    have hvv2 := hvv.resolve_left hc2
    refine zG (zR 2 rfl ?_)
    refine yL (Rd.add (Rd.blk 0 rfl) _) ?_
    refine zR 1 rfl ?_
    refine WG.y rfl rfl qD (Yl.indexN tab_ok rfl rfl rfl rfl rfl rfl (fun _ => rfl) qN qH) ?_
    refine yR ?_
    refine WG.callV en69 rfl rfl qD (CallOp.mk' rfl rfl rfl rfl) (fun _ => rfl) (fun hg => DecimalZ_V qO) ?_
    refine WG.y rfl rfl qD (Yl.catS rfl rfl rfl (fun _ => rfl) (by intro _; omega)) ?_
    refine WG.y rfl rfl (by decide) (Yl.catS rfl rfl rfl (fun _ => rfl) (by intro _; (simp only [List.length_append, List.length_cons, List.length_nil]; omega))) ?_
    rw [← hsn]
    refine zR 1 rfl (zN (zL (zU (zG (zR 1 rfl ?_)))))
    refine yA ?_
    refine zR 1 rfl (zN ?_)
    refine WE.again (i + 1) (by (try dsimp only); omega) (by (try dsimp only); omega) ⟨rfl, rfl, rfl, rfl⟩ (RLe.refl _) qS
  ·try dsimp only at hc1
   obtain rfl : i = c.vals.length := by omega
   rw [List.take_length]
   have hfl := fmtVals_len c.vals (valid_vals hv)
   have hwp := wordV_len (v := c.per) (.inr (by omega))
   have hwi := wordV_len (v := c.inc) (.inr (by omega))
   have ep : wordV c.per = Lib.itoa c.per := if_neg (by unfold INF; omega)
   have ei : wordV c.inc = Lib.itoa c.inc := if_neg (by unfold INF; omega)
   rw [ep] at hwp
   rw [ei] at hwi
   refine zX ?_
   refine wx (wx (zY (zU (zQ ?_))))
   refine W.regionQ _ mixed qK ?_
   refine zR 1 rfl ?_
   refine WG.y rfl rfl qD (Yl.catS rfl rfl rfl (fun _ => rfl) (by intro _; (show _ + 4 ≤ _; omega))) ?_
   refine zR 1 rfl ?_
   refine yL (Rd.add (Rd.blk 0 rfl) _) ?_
   refine WG.callV en69 rfl rfl qD (CallOp.mk' rfl rfl rfl rfl) (fun _ => rfl) (fun hg => DecimalZ_V qO) ?_
   refine WG.y rfl rfl (by decide) (Yl.catS rfl rfl rfl (fun _ => rfl) (by intro _; (simp only [List.length_append, List.length_cons, List.length_nil]; omega))) ?_
   refine WG.y rfl rfl (by decide) (Yl.catS rfl rfl rfl (fun _ => rfl) (by intro _; (simp only [List.length_append, List.length_cons, List.length_nil]; omega))) ?_
   refine zR 1 rfl ?_
   refine yL (Rd.add (Rd.blk 0 rfl) _) ?_
   refine WG.callV en69 rfl rfl qD (CallOp.mk' rfl rfl rfl rfl) (fun _ => rfl) (fun hg => DecimalZ_V qO) ?_
   refine WG.y rfl rfl (by decide) (Yl.catS rfl rfl rfl (fun _ => rfl) (by intro _; (simp only [List.length_append, List.length_cons, List.length_nil]; omega))) ?_
   refine zR 1 rfl (zN (zU (zQ ?_)))
   have efc : ((((fmtVals c.vals ++ [112, 101, 114, 32]) ++ Lib.itoa c.per) ++ [32, 105, 110, 99, 32]) ++ Lib.itoa c.inc) = fmtC c := by
    unfold fmtC
    simp [wPer, wInc]
   rw [efc]
   have hss := str_size (fmtC c)
   refine zQ (zG (zR 3 rfl (zN (zU ?_))))
   refine W.condD rfl (fun hc3 => ?_) (fun hc3 => ?_)
   ·try dsimp only at hc3
    have hf : formatR c = ([], 3) := by unfold formatR; rw [if_neg (by rw [hv]; decide), if_pos (by omega)]
    refine zQ (zG (zR 2 rfl (zN (zU (zT (wt ?_))))))
    refine sE (E := E) ?_
    refine WE.retF tab_ok [_, _] rfl ⟨rfl, rfl, trivial⟩ (RLe.refl _) ?_
    exact ⟨by rw [hf]; rfl, rfl⟩
   ·try dsimp only at hc3
    have hf : formatR c = (fmtC c, 0) := by unfold formatR; rw [if_neg (by rw [hv]; decide), if_neg (by omega)]
    refine zK (zU (zQ (zG (zR 3 rfl (zN (zU (zT ?_)))))))
    refine sE (E := E) ?_
    refine WE.retF tab_ok [_, _] rfl ⟨rfl, rfl, trivial⟩ (RLe.refl _) ?_
    exact ⟨by rw [hf]; rfl, rfl⟩



set_option maxHeartbeats 4000000 in
theorem RFmtFl24_V {R : Ro} {na la fa : Option Addr} {nc lc fc fl : Nat} {names : List (List UInt8)} {ms : List LnM} {x1 x2 : Option Addr} {xc1 xc2 : Nat} {f : Fl} (hna : K.RS R 1 encT na names) (hla : K.RS R 5 encLn la ms) (hok : ∀ m ∈ ms, OkLn R m) (hof : OkFl R (⟨x1, xc1, x2, xc2, f⟩ : FlM)) (hnl : ∀ x ∈ names, x.length ≤ 9223372036854775807) : FnV Tryz.prog 14 [.agg #[.slice na names.length nc, .slice la ms.length lc, .slice fa fl fc], .agg #[.string (str f.name), .slice x1 f.route.length xc1, .int .i64 f.cls, .int .i64 f.lo, .int .i64 f.hi, .slice x2 f.cv.vals.length xc2, .int .i64 f.cv.per, .int .i64 f.cv.inc]] R (.tuple #[.string (str (fmtF names (ms.map (·.L)) f)), .int .i64 (fmtFE names (ms.map (·.L)) f)]) := by
 refine FnV.ofOwn (fun w0 hb0 => ?_)
 have hll := hla.len
 have hml : (ms.map (·.L)).length = ms.length := List.length_map ..
 refine fE 76 Tryz.func14 ?_
 refine zQ (zG ?_)
 refine zO fun b2 => ?_
 refine zO fun b3 => ?_
 refine zR 2 rfl (zN (zU (zQ (zG ?_))))
 refine yL (Rd.blk 0 rfl) ?_
 refine WL.ef rfl rfl qD (Ef.buildSliceD (enc := encFl) (parts := [.tmp 11]) [(⟨x1, xc1, x2, xc2, f⟩ : FlM)] tab_ok rfl rfl rfl rfl rfl rfl rfl rfl qD qD (fun a12 => ?_))
 refine WL.freeze (enc := encFl) (xs := [(⟨x1, xc1, x2, xc2, f⟩ : FlM)]) 0 rfl ?_
 intro R1 hR1 hfa
 have hna := hna.mono hR1
 have hla := hla.mono hR1
 have hok := fun m hm => (hok m hm).mono hR1
 have hof := hof.mono hR1
 have hxr : K.RS R1 1 encI x1 f.route := hof.route
 refine zR 1 rfl ?_
 refine zF 1 ?_
 refine zN (zU (zQ (zQ (zG ?_))))
 refine yL (Rd.blk 1 rfl) ?_
 refine WG.callV en28 rfl rfl (by decide) (CallOp.mk' rfl rfl rfl rfl) (fun _ => rfl) (fun hg => RCheck23_V (fs := [(⟨x1, xc1, x2, xc2, f⟩ : FlM)]) hna hla hfa hok (fun m hm => by rw [List.mem_singleton.1 hm]; exact hof) hnl) ?_
 refine zR 1 rfl (zN (zU (zQ (zG (zR 2 rfl (zN (zU ?_)))))))
 refine W.condN rfl (fun hc0 => ?_) (fun hc0 => ?_)
 ·try dsimp only at hc0
  have hcz : chkNet names (ms.map (·.L)) [f] ≠ 0 := hc0
  have hE : fmtFE names (ms.map (·.L)) f = chkNet names (ms.map (·.L)) [f] := if_pos hc0
  refine zQ (zG (zR 3 rfl (zN (zU (zT (wt ?_))))))
  refine WE.subE (E' := []) qS ?_
  refine WE.retF tab_ok [_, _] rfl ⟨rfl, rfl, trivial⟩ (by first | assumption | exact RLe.refl _) ?_
  show Value.tuple #[_, Value.int .i64 (chkNet names (ms.map (·.L)) [f])] = _
  unfold fmtF; rw [hE, if_neg hcz]; rfl
 ·try dsimp only at hc0
  have hck : chkNet names (ms.map (·.L)) [f] = 0 := by first | exact hc0 | exact Classical.not_not.1 hc0
  have hE : fmtFE names (ms.map (·.L)) f = (formatR f.cv).2 := if_neg (fun h => h hck)
  obtain ⟨hl8, _, hnlm, hcl, hcf⟩ := chkNet_zero hck
  have hfr := (chkFs_zero _ _ hcf f (by simp)).1
  have hn12 := names_le hcl hnlm
  rw [hml] at hl8 hnlm
  have hrt := hfr.route
  have hrl := hfr.len
  have hsz := hfr.sizes
  have hcls := hfr.cls
  have hn6 : ∀ m ∈ ms.map (·.L), m.n ≤ 9999 := fun m hm => by
   obtain ⟨i, hi, rfl⟩ := List.getElem_of_mem hm
   have hz : i < (names.zip (ms.map (·.L))).length := by rw [List.length_zip]; omega
   have h5 := (chkLs_zero _ _ hcl _ (List.getElem_mem hz)).2
   rw [List.getElem_zip] at h5
   have h6 := (chk_facts h5).2.2.2.2.1
   dsimp only at h6
   omega
  have hcl6 : f.cls ≤ 9999 := by
   have h1 := hrt _ (nth_mem (show 0 < f.route.length by omega))
   have h0 : (nth f.route 0).toNat < (ms.map (·.L)).length := by omega
   have := hn6 _ (nth_mem h0)
   omega
  refine zK (zU (zQ (zG (zR 1 rfl ?_))))
  refine yL (Rd.add (Rd.blk 0 rfl) _) ?_
  refine WG.callV en39 rfl rfl qD (CallOp.mk' rfl rfl rfl rfl) (fun _ => rfl) (fun hg => RFmt03_V hof.vals) ?_
  refine zR 5 rfl (zN (zU (zQ (zQ (zG (zR 2 rfl (zN (zU ?_))))))))
  refine W.condN rfl (fun hc1 => ?_) (fun hc1 => ?_)
  ·try dsimp only at hc1
   refine zQ (zG (zR 3 rfl (zN (zU (zT (wt ?_))))))
   refine WE.subE (E' := []) qS ?_
   refine WE.retF tab_ok [_, _] rfl ⟨rfl, rfl, trivial⟩ (by first | assumption | exact RLe.refl _) ?_
   show Value.tuple #[_, _] = _
   unfold fmtF; rw [hE, if_neg hc1]; rfl
  ·try dsimp only at hc1
   have hf0 : (formatR f.cv).2 = 0 := by first | exact hc1 | exact Classical.not_not.1 hc1
   have hfe0 := hE.trans hf0
   refine zK (zU (zQ (zG (zR 1 rfl (zN (zU (zQ (zQ (zG (zR 1 rfl (zN (zU (zB ?_)))))))))))))
   refine W.loopK (β := Nat) (fun i => i ≤ f.route.length) (fun i => [(9, true, .string (str (Lib.join ((f.route.take i).map fun l => nth names l.toNat) [62]))), (10, true, .int .i64 (i : Int))]) [2, 3, 7] [_, _, _] [] _ rfl (fun i => []) (fun i => f.route.length - i) (0) (Nat.zero_le _) ⟨rfl, rfl, rfl, rfl, rfl, rfl⟩ qS ?_
   intro i hst
   dsimp only [zipE, setAll, List.cons_append, List.nil_append, List.set_cons_zero, List.set_cons_succ] at hst ⊢
   have hi := hst
   have hjl := join_le (k := 12) ((f.route.take i).map fun l => nth names l.toNat) 62 (fun w hw => by
    obtain ⟨l, hl, rfl⟩ := List.mem_map.1 hw
    by_cases h : l.toNat < names.length
    ·exact (hn12 _ (nth_mem h)).1
    ·rw [nth_out (by omega)]; exact Nat.zero_le _)
   rw [List.length_map, List.length_take] at hjl
   refine zQ (zQ (zG (zR 2 rfl ?_)))
   refine yL (Rd.add (Rd.blk 0 rfl) _) ?_
   refine zR 2 rfl (zN (zU ?_))
   refine W.condD rfl (fun hc2 => ?_) (fun hc2 => ?_)
   ·try dsimp only at hc2
    have hil : i < f.route.length := by omega
    obtain ⟨j, hj⟩ := Int.eq_ofNat_of_zero_le (hrt _ (nth_mem hil)).1.1
    have hjn : j < names.length := by have := (hrt _ (nth_mem hil)).1.2; omega
    have hn12j := (hn12 _ (nth_mem hjn)).1
    refine zK (zU (zQ (zB (zQ (zQ (zG (zR 2 rfl (zN (zU ?_)))))))))
    refine W.condD rfl (fun hc3 => ?_) (fun hc3 => ?_)
    ·try dsimp only at hc3
     have hne : ((f.route.take i).map fun l => nth names l.toNat) ≠ [] := fun h => by have := congrArg List.length h; rw [List.length_map, List.length_take] at this; simp only [List.length_nil] at this; omega
     refine zG (zR 1 rfl ?_)
     refine WG.y rfl rfl (by decide) (Yl.catS rfl rfl rfl (fun _ => rfl) (by intro _; (simp only [List.length_cons, List.length_nil]; omega))) ?_
     refine zR 1 rfl (zN (zU ?_))
     refine W.regionQ _ mixed qK ?_
     refine zR 2 rfl ?_
     refine yL (Rd.add (Rd.blk 1 rfl) _) ?_
     refine zR 1 rfl ?_
     refine yL (Rd.add (Rd.blk 0 rfl) _) ?_
     refine zR 1 rfl ?_
     refine WG.y rfl rfl qD (Yl.indexN tab_ok rfl rfl rfl rfl rfl rfl (fun _ => rfl) qN qH) ?_
     refine' WG.y rfl rfl qD (Yl.load1 tab_ok rfl rfl rfl (fun _ => rfl) ?r7 rfl ?h7) ?_
     case r7 => exact RS.rdD hxr hil
     case h7 => rfl
     rw [hj]
     refine WG.y rfl rfl qD (Yl.indexN tab_ok rfl rfl rfl rfl rfl rfl (fun _ => rfl) qN qH) ?_
     refine' WG.y rfl rfl qD (Yl.load1 tab_ok rfl rfl rfl (fun _ => rfl) ?r8 rfl ?h8) ?_
     case r8 => exact RS.rdD hna hjn
     case h8 => rfl
     refine WG.y rfl rfl (by decide) (Yl.catS rfl rfl rfl (fun _ => rfl) (by intro _; ((try simp only [List.length_append, List.length_cons, List.length_nil]); omega))) ?_
     refine zR 1 rfl (zN (zL (zU (zG (zR 1 rfl ?_)))))
     refine yA ?_
     refine zR 1 rfl (zN ?_)
     rw [show (Lib.join ((f.route.take i).map fun l => nth names l.toNat) [62]) ++ [62] ++ nth names j = Lib.join ((f.route.take (i + 1)).map fun l => nth names l.toNat) [62] from by rw [take_nth hil, List.map_append, List.map_singleton, join_snoc hne, hj, show ((j : Int)).toNat = j from rfl]]
     refine WE.again (i + 1) (by show i + 1 ≤ _; omega) (by (try dsimp only); omega) ⟨rfl, rfl, rfl, rfl, rfl, rfl⟩ (RLe.refl _) qS
    ·try dsimp only at hc3
     have hi0 : i = 0 := by omega
     have ht0 : ((f.route.take i).map fun l => nth names l.toNat) = [] := by rw [hi0]; rfl
     refine zK (zU ?_)
     refine W.regionQ _ mixed qK ?_
     refine zR 2 rfl ?_
     refine yL (Rd.add (Rd.blk 1 rfl) _) ?_
     refine zR 1 rfl ?_
     refine yL (Rd.add (Rd.blk 0 rfl) _) ?_
     refine zR 1 rfl ?_
     refine WG.y rfl rfl qD (Yl.indexN tab_ok rfl rfl rfl rfl rfl rfl (fun _ => rfl) qN qH) ?_
     refine' WG.y rfl rfl qD (Yl.load1 tab_ok rfl rfl rfl (fun _ => rfl) ?r11 rfl ?h11) ?_
     case r11 => exact RS.rdD hxr hil
     case h11 => rfl
     rw [hj]
     refine WG.y rfl rfl qD (Yl.indexN tab_ok rfl rfl rfl rfl rfl rfl (fun _ => rfl) qN qH) ?_
     refine' WG.y rfl rfl qD (Yl.load1 tab_ok rfl rfl rfl (fun _ => rfl) ?r12 rfl ?h12) ?_
     case r12 => exact RS.rdD hna hjn
     case h12 => rfl
     refine WG.y rfl rfl (by decide) (Yl.catS rfl rfl rfl (fun _ => rfl) (by intro _; ((try simp only [List.length_append, List.length_cons, List.length_nil]); omega))) ?_
     refine zR 1 rfl (zN (zL (zU (zG (zR 1 rfl ?_)))))
     refine yA ?_
     refine zR 1 rfl (zN ?_)
     rw [show (Lib.join ((f.route.take i).map fun l => nth names l.toNat) [62]) ++ nth names j = Lib.join ((f.route.take (i + 1)).map fun l => nth names l.toNat) [62] from by rw [take_nth hil, List.map_append, List.map_singleton, ht0, hj, show ((j : Int)).toNat = j from rfl]; simp [Lib.join, List.intercalate]]
     refine WE.again (i + 1) (by show i + 1 ≤ _; omega) (by (try dsimp only); omega) ⟨rfl, rfl, rfl, rfl, rfl, rfl⟩ (RLe.refl _) qS
   ·try dsimp only at hc2
    obtain rfl : i = f.route.length := by omega
    rw [List.take_length]
    have hwy := way_le hn12 hfr
    have hd1 := decD_le 4 f.cls.toNat (by decide) (by omega)
    have hd2 := decD_le 4 f.lo.toNat (by decide) (by omega)
    have hd3 := decD_le 4 f.hi.toNat (by decide) (by omega)
    have hnl12 : f.name.length ≤ 12 := (of_decide_eq_true hfr.word).2.1
    have hfl4 := fmtR_le f.cv
    rw [show (f.route.map fun l => nth names l.toNat) = wayL names f.route from rfl]
    refine zX ?_
    refine wx (wx (zY (zU (zQ ?_))))
    refine W.regionQ _ mixed qK ?_
    refine zR 1 rfl ?_
    refine yL (Rd.add (Rd.blk 0 rfl) _) ?_
    refine WG.y rfl rfl (by decide) (Yl.catS rfl rfl rfl (fun _ => rfl) (by intro _; ((try simp only [List.length_append, List.length_cons, List.length_nil]); omega))) ?_
    refine WG.y rfl rfl (by decide) (Yl.catS rfl rfl rfl (fun _ => rfl) (by intro _; ((try simp only [List.length_append, List.length_cons, List.length_nil]); omega))) ?_
    refine zR 1 rfl ?_
    refine yL (Rd.add (Rd.blk 0 rfl) _) ?_
    refine WG.callV en40 rfl rfl qD (CallOp.mk' rfl rfl rfl rfl) (fun _ => rfl) (fun hg => RDec24z_V qO qO) ?_
    refine WG.y rfl rfl (by decide) (Yl.catS rfl rfl rfl (fun _ => rfl) (by intro _; ((try simp only [List.length_append, List.length_cons, List.length_nil]); omega))) ?_
    refine WG.y rfl rfl (by decide) (Yl.catS rfl rfl rfl (fun _ => rfl) (by intro _; ((try simp only [List.length_append, List.length_cons, List.length_nil]); omega))) ?_
    refine zR 2 rfl ?_
    refine yL (Rd.add (Rd.add (Rd.blk 0 rfl) _) _) ?_
    refine WG.callV en40 rfl rfl qD (CallOp.mk' rfl rfl rfl rfl) (fun _ => rfl) (fun hg => RDec24z_V qO qO) ?_
    refine WG.y rfl rfl (by decide) (Yl.catS rfl rfl rfl (fun _ => rfl) (by intro _; ((try simp only [List.length_append, List.length_cons, List.length_nil]); omega))) ?_
    refine WG.y rfl rfl (by decide) (Yl.catS rfl rfl rfl (fun _ => rfl) (by intro _; ((try simp only [List.length_append, List.length_cons, List.length_nil]); omega))) ?_
    refine zR 2 rfl ?_
    refine yL (Rd.add (Rd.add (Rd.blk 0 rfl) _) _) ?_
    refine WG.callV en40 rfl rfl qD (CallOp.mk' rfl rfl rfl rfl) (fun _ => rfl) (fun hg => RDec24z_V qO qO) ?_
    refine WG.y rfl rfl (by decide) (Yl.catS rfl rfl rfl (fun _ => rfl) (by intro _; ((try simp only [List.length_append, List.length_cons, List.length_nil]); omega))) ?_
    refine WG.y rfl rfl (by decide) (Yl.catS rfl rfl rfl (fun _ => rfl) (by intro _; ((try simp only [List.length_append, List.length_cons, List.length_nil]); omega))) ?_
    refine zR 1 rfl ?_
    refine WG.y rfl rfl (by decide) (Yl.catS rfl rfl rfl (fun _ => rfl) (by intro _; ((try simp only [List.length_append, List.length_cons, List.length_nil]); omega))) ?_
    refine WG.y rfl rfl (by decide) (Yl.catS rfl rfl rfl (fun _ => rfl) (by intro _; ((try simp only [List.length_append, List.length_cons, List.length_nil]); omega))) ?_
    refine zR 1 rfl ?_
    refine WG.y rfl rfl (by decide) (Yl.catS rfl rfl rfl (fun _ => rfl) (by intro _; ((try simp only [List.length_append, List.length_cons, List.length_nil]); omega))) ?_
    refine zR 2 rfl (zN (zU (zT ?_)))
    refine WE.subE (E' := []) qS ?_
    refine WE.retF tab_ok [_, _] rfl ⟨rfl, rfl, trivial⟩ (by first | assumption | exact RLe.refl _) ?_
    have e : fmtF names (ms.map (·.L)) f = ((((((((((([102, 108, 111, 119, 32] ++ f.name) ++ [32]) ++ Lib.decDigits f.cls.toNat) ++ [32]) ++ Lib.decDigits f.lo.toNat) ++ [32]) ++ Lib.decDigits f.hi.toNat) ++ [32]) ++ Lib.join (wayL names f.route) [62]) ++ [32]) ++ (formatR f.cv).1) := by
     unfold fmtF
     rw [hfe0, if_pos rfl]
     unfold flWords
     rw [join_cons, join_cons, join_cons, join_cons, join_cons, join_cons, show ∀ y : List UInt8, Lib.join [y] [32] = y from fun y => by simp [Lib.join, List.intercalate]]
     simp only [List.append_assoc]
     rfl
    rw [hfe0, e]; rfl



set_option maxHeartbeats 4000000 in
theorem RFmtN24_V {R : Ro} {na la fa : Option Addr} {nc lc fc : Nat} {names : List (List UInt8)} {ms : List LnM} {fs : List FlM} (hna : K.RS R 1 encT na names) (hla : K.RS R 5 encLn la ms) (hfa : K.RS R 8 encFl fa fs) (hok : ∀ m ∈ ms, OkLn R m) (hof : ∀ m ∈ fs, OkFl R m) (hnl : ∀ x ∈ names, x.length ≤ 9223372036854775807) : FnV Tryz.prog 10 [.agg #[.slice na names.length nc, .slice la ms.length lc, .slice fa fs.length fc]] R (.tuple #[.string (str (fmtN names (ms.map (·.L)) (fs.map (·.f))).1), .int .i64 (fmtN names (ms.map (·.L)) (fs.map (·.f))).2]) := by
 refine FnV.ofOwn (fun w0 hb0 => ?_)
 have hll := hla.len
 have hfll := hfa.len
 have hml : (ms.map (·.L)).length = ms.length := List.length_map ..
 have hfml : (fs.map (·.f)).length = fs.length := List.length_map ..
 refine fE 73 Tryz.func10 ?_
 refine zQ (zG ?_)
 refine zO fun b1 => ?_
 refine zR 2 rfl (zN (zU (zQ (zQ (zG ?_)))))
 refine yL (Rd.blk 0 rfl) ?_
 refine WG.callV en28 rfl rfl qD (CallOp.mk' rfl rfl rfl rfl) (fun _ => rfl) (fun hg => RCheck23_V hna hla hfa hok hof hnl) ?_
 refine zR 1 rfl (zN (zU (zQ (zG (zR 2 rfl (zN (zU ?_)))))))
 refine W.condN rfl (fun hc0 => ?_) (fun hc0 => ?_)
 ·try dsimp only at hc0
  have hc : chkNet names (ms.map (·.L)) (fs.map (·.f)) ≠ 0 := hc0
  refine zQ (zG (zR 3 rfl (zN (zU (zT (wt ?_))))))
  refine WE.subE (E' := []) qS ?_
  refine WE.retF tab_ok [_, _] rfl ⟨rfl, rfl, trivial⟩ (by first | assumption | exact RLe.refl _) ?_
  show Value.tuple #[_, _] = _
  unfold fmtN; rw [if_pos hc]; rfl
 ·try dsimp only at hc0
  have hck : chkNet names (ms.map (·.L)) (fs.map (·.f)) = 0 := by first | exact hc0 | exact Classical.not_not.1 hc0
  obtain ⟨hlr, hfl10, hnlm, hcl, hcf⟩ := chkNet_zero hck
  have hall := chkLs_zero _ _ hcl
  rw [hml] at hlr hnlm
  rw [hfml] at hfl10
  refine zK (zU (zQ (zG (zR 1 rfl (zN (zU (zQ (zQ (zG (zR 1 rfl (zN (zU (zB ?_)))))))))))))
  refine W.loopK (β := Nat) (fun i => i ≤ ms.length ∧ fmtErr ((names.zip (ms.map (·.L))).drop i) = fmtErr (names.zip (ms.map (·.L))) ∧ (rowsT (((names.zip (ms.map (·.L))).take i).map rowX)).length ≤ 6007 * i) (fun i => [(5, true, .string (str (rowsT (((names.zip (ms.map (·.L))).take i).map rowX)))), (6, true, .int .i64 (i : Int))]) [1] [_] [] _ rfl (fun i => []) (fun i => ms.length - i) (0) (⟨Nat.zero_le _, rfl, Nat.zero_le _⟩) ⟨rfl, rfl, rfl, rfl⟩ qS ?_
  intro i hst
  dsimp only [zipE, setAll, List.cons_append, List.nil_append, List.set_cons_zero, List.set_cons_succ] at hst ⊢
  obtain ⟨hi, hfe, hmb⟩ := hst
  refine zQ (zQ (zG (zR 2 rfl ?_)))
  refine yL (Rd.add (Rd.blk 0 rfl) _) ?_
  refine zR 2 rfl (zN (zU ?_))
  refine W.condD rfl (fun hc1 => ?_) (fun hc1 => ?_)
  ·try dsimp only at hc1
   have him : i < ms.length := by omega
   have hin : i < names.length := by omega
   have hzl : (names.zip (ms.map (·.L))).length = ms.length := by rw [List.length_zip, hml]; omega
   have hdr : (names.zip (ms.map (·.L))).drop i = (nth names i, (nth ms i).L) :: (names.zip (ms.map (·.L))).drop (i + 1) := by
    have hl : i < (names.zip (ms.map (·.L))).length := by omega
    rw [List.drop_eq_getElem_cons hl, List.getElem_zip, nth_eq hin, nth_eq him, List.getElem_map]
   have hzi : nth (names.zip (ms.map (·.L))) i = (nth names i, (nth ms i).L) := by
    rw [nth_eq (by omega), List.getElem_zip, nth_eq hin, nth_eq him, List.getElem_map]
   have hwn : wordB (nth names i) = true ∧ chkL (nth ms i).L = 0 := by
    have := hall (nth (names.zip (ms.map (·.L))) i) (nth_mem (by omega))
    rw [hzi] at this; exact this
   have hw12 : (nth names i).length ≤ 12 := (of_decide_eq_true hwn.1).2.1
   have hfl := fmtL_le (nth names i) (nth ms i).L
   rw [hdr, fmtErr] at hfe
   dsimp only at hfe
   have htx : rowsT (((names.zip (ms.map (·.L))).take (i + 1)).map rowX) = (rowsT (((names.zip (ms.map (·.L))).take i).map rowX)) ++ (fmtL (nth names i) (nth ms i).L ++ [10]) := by
    rw [take_nth (by omega), List.map_append, List.map_singleton, rowsT_snoc, hzi]; rfl
   refine zK (zU (zQ (zB (zQ ?_))))
   refine W.regionQ _ mixed qK ?_
   refine zR 1 rfl ?_
   refine yL (Rd.add (Rd.blk 0 rfl) _) ?_
   refine zR 1 rfl ?_
   refine WG.y rfl rfl qD (Yl.indexN tab_ok rfl rfl rfl rfl rfl rfl (fun _ => rfl) qN qH) ?_
   refine' WG.y rfl rfl qD (Yl.load1 tab_ok rfl rfl rfl (fun _ => rfl) ?r4 rfl ?h4) ?_
   case r4 => exact RS.rdD hna hin
   case h4 => rfl
   refine zR 1 rfl ?_
   refine yL (Rd.add (Rd.blk 0 rfl) _) ?_
   refine zR 1 rfl ?_
   refine WG.y rfl rfl qD (Yl.indexN tab_ok rfl rfl rfl rfl rfl rfl (fun _ => rfl) qN qH) ?_
   refine' WG.y rfl rfl qD (Yl.load1 tab_ok rfl rfl rfl (fun _ => rfl) ?r6 rfl ?h6) ?_
   case r6 => exact RS.rdD hla him
   case h6 => rfl
   refine WG.callV en16 rfl rfl qD (CallOp.mk' rfl rfl rfl rfl) (fun _ => rfl) (fun hg => RFmtL24_V (L := (nth ms i).L) (name := nth names i) (hok _ (nth_mem him)).1 (hok _ (nth_mem him)).2 qO) ?_
   refine zR 5 rfl (zN (zU (zQ (zQ (zG (zR 2 rfl (zN (zU ?_))))))))
   refine W.condN rfl (fun hc2 => ?_) (fun hc2 => ?_)
   ·try dsimp only at hc2
    rw [if_pos hc2] at hfe
    refine zQ (zG (zR 3 rfl (zN (zU (zT (wt (wb (wt (wt (wb (wt ?_)))))))))))
    refine WE.subE (E' := []) qS ?_
    refine WE.retF tab_ok [_, _] rfl ⟨rfl, rfl, trivial⟩ (by first | assumption | exact RLe.refl _) ?_
    show Value.tuple #[_, _] = _
    unfold fmtN; rw [if_neg (fun h => h hck), ← hfe, if_pos hc2]; rfl
   ·try dsimp only at hc2
    have he0 : fmtE (nth names i) (nth ms i).L = 0 := by first | exact hc2 | exact Classical.not_not.1 hc2
    rw [if_neg (fun h => h he0)] at hfe
    refine zK (zU (zG (zR 2 rfl ?_)))
    refine WG.y rfl rfl (by decide) (Yl.catS rfl rfl rfl (fun _ => rfl) (by intro _; (simp only [List.length_cons, List.length_nil]; omega))) ?_
    refine WG.y rfl rfl (by decide) (Yl.catS rfl rfl rfl (fun _ => rfl) (by intro _; (rw [List.length_append (bs := [10])]; simp only [List.length_cons, List.length_nil]; omega))) ?_
    refine zR 1 rfl (zN (zL (zU (zG (zR 1 rfl ?_)))))
    refine yA ?_
    refine zR 1 rfl (zN ?_)
    rw [← htx]
    refine WE.again (i + 1) (⟨by show i + 1 ≤ _; omega, hfe, by rw [htx, List.length_append, List.length_append]; show _ + (_ + 1) ≤ _; omega⟩) (by (try dsimp only); omega) ⟨rfl, rfl, rfl, rfl⟩ (RLe.refl _) qS
  ·try dsimp only at hc1
   obtain rfl : i = ms.length := by omega
   have hzl : (names.zip (ms.map (·.L))).length = ms.length := by rw [List.length_zip, hml]; omega
   rw [List.drop_of_length_le (by omega)] at hfe
   have htk : (names.zip (ms.map (·.L))).take ms.length = (names.zip (ms.map (·.L))) := List.take_of_length_le (by omega)
   rw [htk] at hmb ⊢
   have hfz : fmtErr (names.zip (ms.map (·.L))) = 0 := hfe.symm
   refine zX ?_
   refine wx (wx (zY (zU (zQ (zQ (zG (zR 1 rfl (zN (zU (zB ?_))))))))))
   refine W.loopK (β := Nat) (fun i => i ≤ fs.length ∧ flErr names (ms.map (·.L)) ((fs.map (·.f)).drop i) = flErr names (ms.map (·.L)) (fs.map (·.f)) ∧ (rowsT ((names.zip (ms.map (·.L))).map rowX) ++ rowsT (((fs.map (·.f)).take i).map (fmtF names (ms.map (·.L))))).length ≤ 6007 * ms.length + 28008 * i) (fun i => [(5, true, .string (str (rowsT ((names.zip (ms.map (·.L))).map rowX) ++ rowsT (((fs.map (·.f)).take i).map (fmtF names (ms.map (·.L))))))), (9, true, .int .i64 (i : Int))]) [1] [_] [] _ rfl (fun i => []) (fun i => fs.length - i) (0) (⟨Nat.zero_le _, rfl, by rw [List.take_zero]; show (_ ++ []).length ≤ _; rw [List.append_nil]; omega⟩) ⟨congrArg (fun x => some (true, Value.string (str x))) (by rw [List.take_zero]; exact (List.append_nil _).symm), rfl, rfl, rfl⟩ qS ?_
   intro i hst
   dsimp only [zipE, setAll, List.cons_append, List.nil_append, List.set_cons_zero, List.set_cons_succ] at hst ⊢
   obtain ⟨hi, hle, hmb⟩ := hst
   refine zQ (zQ (zG (zR 2 rfl ?_)))
   refine yL (Rd.add (Rd.blk 0 rfl) _) ?_
   refine zR 2 rfl (zN (zU ?_))
   refine W.condD rfl (fun hc3 => ?_) (fun hc3 => ?_)
   ·try dsimp only at hc3
    have hif : i < fs.length := by omega
    have hdr : (fs.map (·.f)).drop i = (nth fs i).f :: (fs.map (·.f)).drop (i + 1) := by
     have hl : i < (fs.map (·.f)).length := by omega
     rw [List.drop_eq_getElem_cons hl, List.getElem_map, nth_eq hif]
    have hfi : nth (fs.map (·.f)) i = (nth fs i).f := by
     rw [nth_eq (by omega), List.getElem_map, nth_eq hif]
    have hfle := fmtF_le names (ms.map (·.L)) (nth fs i).f
    rw [hdr, flErr] at hle
    have htx : rowsT ((names.zip (ms.map (·.L))).map rowX) ++ rowsT (((fs.map (·.f)).take (i + 1)).map (fmtF names (ms.map (·.L)))) = (rowsT ((names.zip (ms.map (·.L))).map rowX) ++ rowsT (((fs.map (·.f)).take i).map (fmtF names (ms.map (·.L))))) ++ (fmtF names (ms.map (·.L)) (nth fs i).f ++ [10]) := by
     rw [take_nth (by omega), List.map_append, List.map_singleton, rowsT_snoc, hfi, List.append_assoc]
    refine zK (zU (zQ (zB (zQ ?_))))
    refine W.regionQ _ mixed qK ?_
    refine yL (Rd.blk 0 rfl) ?_
    refine zR 1 rfl ?_
    refine yL (Rd.add (Rd.blk 0 rfl) _) ?_
    refine zR 1 rfl ?_
    refine WG.y rfl rfl qD (Yl.indexN tab_ok rfl rfl rfl rfl rfl rfl (fun _ => rfl) qN qH) ?_
    refine' WG.y rfl rfl qD (Yl.load1 tab_ok rfl rfl rfl (fun _ => rfl) ?r10 rfl ?h10) ?_
    case r10 => exact RS.rdD hfa hif
    case h10 => rfl
    refine WG.callV en14 rfl rfl qD (CallOp.mk' rfl rfl rfl rfl) (fun _ => rfl) (fun hg => RFmtFl24_V (f := (nth fs i).f) hna hla hok (hof _ (nth_mem hif)) hnl) ?_
    refine zR 5 rfl (zN (zU (zQ (zQ (zG (zR 2 rfl (zN (zU ?_))))))))
    refine W.condN rfl (fun hc4 => ?_) (fun hc4 => ?_)
    ·try dsimp only at hc4
     rw [if_pos hc4] at hle
     refine zQ (zG (zR 3 rfl (zN (zU (zT (wt (wb (wt (wt (wb (wt ?_)))))))))))
     refine WE.subE (E' := []) qS ?_
     refine WE.retF tab_ok [_, _] rfl ⟨rfl, rfl, trivial⟩ (by first | assumption | exact RLe.refl _) ?_
     show Value.tuple #[_, _] = _
     unfold fmtN; rw [if_neg (fun h => h hck), if_neg (fun h => h hfz), ← hle, if_pos hc4]; rfl
    ·try dsimp only at hc4
     have hg0 : fmtFE names (ms.map (·.L)) (nth fs i).f = 0 := by first | exact hc4 | exact Classical.not_not.1 hc4
     rw [if_neg (fun h => h hg0)] at hle
     refine zK (zU (zG (zR 2 rfl ?_)))
     refine WG.y rfl rfl (by decide) (Yl.catS rfl rfl rfl (fun _ => rfl) (by intro _; (simp only [List.length_cons, List.length_nil]; omega))) ?_
     refine WG.y rfl rfl (by decide) (Yl.catS rfl rfl rfl (fun _ => rfl) (by intro _; (rw [List.length_append (bs := [10])]; simp only [List.length_cons, List.length_nil]; omega))) ?_
     refine zR 1 rfl (zN (zL (zU (zG (zR 1 rfl ?_)))))
     refine yA ?_
     refine zR 1 rfl (zN ?_)
     rw [← htx]
     refine WE.again (i + 1) (⟨by show i + 1 ≤ _; omega, hle, by rw [htx]; simp only [List.length_append, List.length_cons, List.length_nil] at hmb ⊢; omega⟩) (by (try dsimp only); omega) ⟨rfl, rfl, rfl, rfl⟩ (RLe.refl _) qS
   ·try dsimp only at hc3
    obtain rfl : i = fs.length := by omega
    rw [List.drop_of_length_le (by omega)] at hle
    have htk : (fs.map (·.f)).take fs.length = (fs.map (·.f)) := List.take_of_length_le (by omega)
    rw [htk] at hmb ⊢
    have hlz : flErr names (ms.map (·.L)) (fs.map (·.f)) = 0 := hle.symm
    rw [show rowsT ((names.zip (ms.map (·.L))).map rowX) ++ rowsT ((fs.map (·.f)).map (fmtF names (ms.map (·.L)))) = textN names (ms.map (·.L)) (fs.map (·.f)) from rfl] at hmb ⊢
    have hst5 := str_size (textN names (ms.map (·.L)) (fs.map (·.f)))
    refine zX ?_
    refine wx (wx (zY (zU (zQ (zQ (zG (zR 3 rfl (zN (zU ?_)))))))))
    refine W.condD rfl (fun hc5 => ?_) (fun hc5 => ?_)
    ·try dsimp only at hc5
     refine zQ (zG (zR 2 rfl (zN (zU (zT (wt ?_))))))
     refine WE.subE (E' := []) qS ?_
     refine WE.retF tab_ok [_, _] rfl ⟨rfl, rfl, trivial⟩ (by first | assumption | exact RLe.refl _) ?_
     show Value.tuple #[_, _] = _
     unfold fmtN; rw [if_neg (fun h => h hck), if_neg (fun h => h hfz), if_neg (fun h => h hlz), if_pos (by omega)]; rfl
    ·try dsimp only at hc5
     refine zK (zU (zQ (zG (zR 3 rfl (zN (zU (zT ?_)))))))
     refine WE.subE (E' := []) qS ?_
     refine WE.retF tab_ok [_, _] rfl ⟨rfl, rfl, trivial⟩ (by first | assumption | exact RLe.refl _) ?_
     show Value.tuple #[_, _] = _
     unfold fmtN; rw [if_neg (fun h => h hck), if_neg (fun h => h hfz), if_neg (fun h => h hlz), if_neg (by omega)]

end Go.Proofs.YtmidibkljoaoiaaGreatDoor

/- The reference's reading of a flow: the words and where the contract begins. Plain. No condition. -/
namespace Go.Proofs.YtmidibkljoaoiaaGreatDoor.M
open Go Go.Proofs.YtmidibkljoaoiaaGreatDoor.K
/-- how many bytes the first k words take with the byte behind each -/
def lenK (ws : List (List UInt8)) : Nat → Nat
  | 0 => 0
  | k + 1 => lenK ws k + ((nth ws k).length + 1)
theorem lenK_cons (x : List UInt8) (r : List (List UInt8)) : ∀ k, lenK (x :: r) (k + 1) = (x.length + 1) + lenK r k
 | 0 => by simp only [lenK]; rw [show nth (x :: r) 0 = x from rfl]; omega
 | k + 1 => by
  rw [lenK, lenK_cons x r k, lenK, show nth (x :: r) (k + 1) = nth r k from rfl]; omega
theorem lenK_le (ws : List (List UInt8)) {i k : Nat} (h : i ≤ k) : lenK ws i ≤ lenK ws k := by
 induction k with
 | zero => rw [Nat.le_zero.1 h]; exact Nat.le_refl _
 | succ k ih =>
  by_cases e : i = k + 1
  ·rw [e]; exact Nat.le_refl _
  ·have := ih (by omega)
   show _ ≤ lenK ws k + _
   omega
theorem drop_lenK (d : UInt8) : ∀ (k : Nat) (ws : List (List UInt8)), k + 1 ≤ ws.length → (Lib.join ws [d]).drop (lenK ws k) = Lib.join (ws.drop k) [d] ∧ lenK ws k ≤ (Lib.join ws [d]).length
 | 0, ws, _ => ⟨rfl, Nat.zero_le _⟩
 | k + 1, [], h => by simp at h
 | k + 1, [x], h => by simp at h
 | k + 1, x :: y :: r, h => by
  obtain ⟨h1, h2⟩ := drop_lenK d k (y :: r) (by simp only [List.length_cons] at h ⊢; omega)
  rw [lenK_cons, join_cons]
  refine ⟨?_, ?_⟩
  ·rw [← List.drop_drop, List.drop_left' (by rw [List.length_append]; rfl), h1]; rfl
  ·rw [List.length_append, List.length_append]
   simp only [List.length_cons, List.length_nil]
   omega
theorem w7_no {s : List UInt8} (h : (splC 32 s).length < 7) (names : List (List UInt8)) : flO names s = false := by
 unfold flO
 rw [decide_eq_false (by have := w7_len s; omega), Bool.false_and]
theorem w7_ws {s : List UInt8} (h : 7 ≤ (splC 32 s).length) : (w7 s).length = 7 ∧ (∀ i, i < 6 → nth (w7 s) i = nth (splC 32 s) i) ∧ nth (w7 s) 6 = s.drop (lenK (splC 32 s) 6) ∧ lenK (splC 32 s) 6 ≤ s.length := by
 have hj := join_splC 32 s.length s (Nat.le_refl _)
 obtain ⟨h1, h2⟩ := drop_lenK 32 6 (splC 32 s) (by omega)
 rw [hj] at h1 h2
 have hl6 : ((splC 32 s).take 6).length = 6 := by rw [List.length_take]; omega
 have e : w7 s = (splC 32 s).take 6 ++ [s.drop (lenK (splC 32 s) 6)] := by
  unfold w7 spN
  rw [if_pos (by omega), h1]
 refine ⟨(w7_len s).2.2 h, fun i hi => ?_, ?_, h2⟩
 ·rw [e, nth_eq (by rw [List.length_append]; omega), List.getElem_append_left (by omega), List.getElem_take, nth_eq (by omega)]
 ·rw [e]
  have : nth ((splC 32 s).take 6 ++ [s.drop (lenK (splC 32 s) 6)]) ((splC 32 s).take 6).length = s.drop (lenK (splC 32 s) 6) := by
   rw [nth_eq (by simp), List.getElem_append_right (Nat.le_refl _)]; simp
  rwa [hl6] at this
/-- where a name stands first among those from j on; -1 for none -/
def atI (ns : List (List UInt8)) (x : List UInt8) (j : Nat) : Int := if x ∈ ns.drop j then ((j + idxN (ns.drop j) x : Nat) : Int) else -1
theorem atI_end (ns : List (List UInt8)) (x : List UInt8) : atI ns x ns.length = -1 := by
 unfold atI
 rw [List.drop_length, if_neg (by simp)]
theorem atI_yes {ns : List (List UInt8)} {x : List UInt8} {j : Nat} (hj : j < ns.length) (h : nth ns j = x) : atI ns x j = (j : Int) := by
 have e : ns.drop j = nth ns j :: ns.drop (j + 1) := by rw [List.drop_eq_getElem_cons hj, nth_eq hj]
 unfold atI
 rw [e, h, if_pos (by simp)]
 unfold idxN
 rw [List.findIdx_cons, decide_eq_true rfl]
 rfl
theorem atI_no {ns : List (List UInt8)} {x : List UInt8} {j : Nat} (hj : j < ns.length) (h : nth ns j ≠ x) : atI ns x j = atI ns x (j + 1) := by
 have e : ns.drop j = nth ns j :: ns.drop (j + 1) := by rw [List.drop_eq_getElem_cons hj, nth_eq hj]
 unfold atI
 rw [e]
 by_cases hm : x ∈ ns.drop (j + 1)
 ·rw [if_pos (List.mem_cons_of_mem _ hm), if_pos hm]
  unfold idxN
  rw [List.findIdx_cons, decide_eq_false h, cond_false]
  omega
 ·rw [if_neg (fun hx => (List.mem_cons.1 hx).elim (fun e => h e.symm) hm), if_neg hm]
theorem atI_0 (ns : List (List UInt8)) (x : List UInt8) : atI ns x 0 = if x ∈ ns then (idxN ns x : Int) else -1 := by
 unfold atI
 rw [List.drop_zero, Nat.zero_add]
theorem drop_cons {rr : List (List UInt8)} {k : Nat} (h : k < rr.length) : rr.drop k = nth rr k :: rr.drop (k + 1) := by rw [List.drop_eq_getElem_cons h, nth_eq h]
theorem par_end {n : Nt} {k : Nat} {rr : List (List UInt8)} (h : rr.length ≤ k) : parGo n k (rr.drop k) = (n, 0, 0) := by
 rw [List.drop_of_length_le h]; rfl
theorem par_lastE {n : Nt} {k : Nat} {rr : List (List UInt8)} (h : k + 1 = rr.length) (he : nth rr k = []) : parGo n k (rr.drop k) = (n, 0, 0) := by
 rw [drop_cons (by omega), List.drop_of_length_le (by omega), parGo, if_pos he]
theorem par_lastN {n : Nt} {k : Nat} {rr : List (List UInt8)} (h : k + 1 = rr.length) (he : nth rr k ≠ []) : parGo n k (rr.drop k) = (zNt, (k : Int) + 1, 4) := by
 rw [drop_cons (by omega), List.drop_of_length_le (by omega), parGo, if_neg he]
theorem par_step {n n' : Nt} {k : Nat} {rr : List (List UInt8)} (h : k + 1 < rr.length) (ht : takeS n (nth rr k) = some n') : parGo n k (rr.drop k) = parGo n' (k + 1) (rr.drop (k + 1)) := by
 rw [drop_cons (by omega), drop_cons h, parGo, ht]
theorem par_stop {n : Nt} {k : Nat} {rr : List (List UInt8)} (h : k + 1 < rr.length) (ht : takeS n (nth rr k) = none) : parGo n k (rr.drop k) = (zNt, (k : Int) + 1, 4) := by
 rw [drop_cons (by omega), drop_cons h, parGo, ht]
end Go.Proofs.YtmidibkljoaoiaaGreatDoor.M

/- The references of chapter 24: a line of a text. No condition. -/
set_option maxRecDepth 4000
set_option linter.unusedSimpArgs false
set_option linter.unusedVariables false
namespace Go.Proofs.YtmidibkljoaoiaaGreatDoor
open Go Go.RowKit Go.Proofs.YtmidibkljoaoiaaGreatDoor.K Go.Proofs.YtmidibkljoaoiaaGreatDoor.M

set_option maxHeartbeats 1000000 in
theorem RPLine24_C {R : Ro} {s : List UInt8} (hs : s.length ≤ 1000000) (w0 : World) (E : List Ent) : K.Fn Tryz.prog 53 [.string (str s)] w0 R E (fun v R' E' => ∃ (nm : List UInt8) (L : Ln) (a1 a2 : Option Addr) (c1 c2 : Nat), v = .tuple #[.string (str nm), .agg #[.int .i64 L.kind, .int .i64 L.cap, .int .i64 L.n, .slice a1 L.w.length c1, .slice a2 L.tb.length c2], .bool (lineO s)] ∧ RS R' 1 encI a1 L.w ∧ RS R' 1 encI a2 L.tb ∧ L.w.length ≤ c1 ∧ L.tb.length ≤ c2 ∧ (lineO s = true → nm = nmR s ∧ L = vlR s) ∧ E' = E) := by
 refine fE 19 Tryz.func53 ?_
 refine zQ (zG (zR 1 rfl ?_))
 refine zA fun b3 => ?_
 refine zR 1 rfl (zN (zU (zQ (zG (zR 1 rfl ?_)))))
 refine WL.call en23 rfl rfl qD (CallOp.mkT rfl rfl rfl rfl) (Split24_C (s := s) (d := 32) qO w0 _) ?_
 rintro _ R1 _ hR1 ⟨a5, c5, rfl, hws, hcw, rfl⟩
 have hwm := splC_mem 32 s
 obtain ⟨x, r, hxr⟩ : ∃ x r, splC 32 s = x :: r := by
  cases h : splC 32 s with
  | nil => exact absurd h (splC_ne 32 s)
  | cons x r => exact ⟨x, r, rfl⟩
 have hO' : lineO s = lineO s := rfl
 have hnm : nmR s = nth (splC 32 s) 1 := rfl
 have hvl : vlR s = lnVal (splC 32 s) := rfl
 rw [hxr] at hws hcw hwm hnm hvl ⊢
 refine zR 1 rfl (zN (zU (zQ (zQ (zG (zR 1 rfl ?_))))))
 refine WG.y rfl rfl qD (Yl.indexN tab_ok rfl rfl rfl rfl rfl rfl (fun _ => rfl) (by intro _; (show 0 < (x :: r).length; exact Nat.succ_pos _)) qH) ?_
 refine' WG.y rfl rfl qD (Yl.load1 tab_ok rfl rfl rfl (fun _ => rfl) ?r1 rfl ?h1) ?_
 case r1 => exact RS.rdD hws (show 0 < (x :: r).length by rw [List.length_cons]; omega)
 case h1 => rfl
 refine WG.y rfl rfl qD (Yl.neS rfl rfl rfl (fun _ => rfl)) ?_
 refine zN (zU ?_)
 refine W.cond rfl (fun hc0 => ?_) (fun hc0 => ?_)
 ·try simp only [zk] at hc0
  have hO : lineO s = false := by
   unfold lineO lnHead
   rw [hxr, show decide (nth (x :: r) 0 = wLine) = false from decide_eq_false (fun h => hc0 (by have h2 : x = wLine := h; rw [show nth (x :: r) 0 = x from rfl, h2]; rfl)), Bool.false_and, Bool.and_false]; rfl
  refine zQ (zG ?_)
  -- build
  refine WG.y rfl rfl qD (Yl.build (parts := []) tab_ok rfl rfl rfl rfl (fun _ => rfl) rfl rfl) ?_
  refine zR 1 rfl ?_
  refine zE 0 ?_
  refine zR 1 rfl (zN (zU (zT (wt ?_))))
  refine WE.retFS (E' := E) qS tab_ok [_, _, _] rfl ⟨rfl, ⟨_, _, _, rfl, rfl, rfl, qB, rfl⟩, rfl, trivial⟩ (by first | exact RLe.refl _ | assumption | exact hR1.trans hR2) ?_
  exact ⟨[], ⟨0, 0, 0, [], []⟩, none, none, 0, 0, by rw [hO]; rfl, ⟨by simp, .inl rfl, by simp⟩, ⟨by simp, .inl rfl, by simp⟩, Nat.le_refl _, Nat.le_refl _, (fun h => by rw [hO] at h; cases h), rfl⟩
 ·try simp only [zk] at hc0
  obtain rfl : x = wLine := str_inj (b := wLine) (by first | exact hc0 | exact Classical.not_not.1 hc0)
  have hO := rlO_line hxr
  refine zK (zU (zQ (zG (zR 1 rfl ?_))))
  refine WG.y rfl rfl (by decide) (Yl.sliceL tab_ok rfl rfl rfl rfl rfl rfl (fun _ => rfl) (by intro _; (show (0 : Int) ≤ 1 ∧ (1 : Int) ≤ (((wLine :: r).length : Nat) : Int); rw [List.length_cons]; omega))) ?_
  rw [show (wLine :: r).length - (1 : Int).toNat = r.length from by rw [List.length_cons]; rfl]
  have hp1 := RLine24_C (R := R1) (c := c5 - 1) (ws := r) (hws.subL (l := 1) (cap := c5) (by rw [List.length_cons]; omega) hcw) (fun y hy => by have := hwm y (by simp [hy]); omega) w0
  refine WL.call en48 rfl rfl qD (CallOp.mkT rfl rfl rfl rfl) (hp1 _) ?_
  rintro _ R2 _ hR2 ⟨nm, L, x1, x2, y1, y2, rfl, hf1, hf2, hg1, hg2, hLv, rfl⟩
  refine zR 4 rfl ?_
  refine zE 0 ?_
  refine zR 1 rfl (zN (zU (zT ?_)))
  refine WE.retFS (E' := E) qS tab_ok [_, _, _] rfl ⟨rfl, ⟨_, _, _, rfl, rfl, rfl, qB, rfl⟩, rfl, trivial⟩ (by first | exact RLe.refl _ | assumption | exact hR1.trans hR2) ?_
  exact ⟨nm, L, x1, x2, y1, y2, by rw [hO]; rfl, hf1, hf2, hg1, hg2, fun h => by rw [hO] at h; rw [hnm, hvl]; exact hLv h, rfl⟩



def rnumV (w : List UInt8) : Int := if digs w = true then min (numV w : Int) 1073741825 else 0
theorem numV_take {w : List UInt8} {i : Nat} (h : i < w.length) : numV (w.take (i + 1)) = 10 * numV (w.take i) + (w[i].toNat - 48) := by
 rw [List.take_succ_eq_append_getElem h, numV_snoc]

theorem RNum03_V {R : Ro} {w : List UInt8} (hw : w.length ≤ 1000000) : FnV Tryz.prog 93 [.string (str w)] R (.tuple #[.int .i64 (rnumV w), .bool (digs w)]) := by
 refine Fn.toV (fun w0 E => ?_)
 have hss := str_size w
 refine fE 45 Tryz.func93 ?_
 refine zQ (zG (zR 2 rfl (zN (zU (zQ (zQ (zG (zR 4 rfl ?_))))))))
 refine yP ?_
 refine yP ?_
 refine yP ?_
 refine yP ?_
 refine yP ?_
 refine WG.y rfl rfl (by decide) (Yl.sidx tab_ok rfl rfl rfl rfl rfl qE (by intro hg; (try simp only [zk] at hg); constructor <;> (try dsimp only) <;> omega)) ?_
 refine yP ?_
 refine yN ?_
 refine yO ?_
 refine zN (zU ?_)
 refine W.cond rfl (fun hc0 => ?_) (fun hc0 => ?_)
 ·try simp only [zk] at hc0
  have hno : digs w = false := by
   unfold digs
   rw [decide_eq_false_iff_not]
   rintro ⟨h1, h2, _⟩
   rcases hc0 with h | h
   ·exact h1 (List.eq_nil_of_length_eq_zero (by omega))
   ·exact h2 ⟨by omega, h.2⟩
  refine zQ (zG (zR 2 rfl (zN (zU (zT (wt ?_))))))
  refine sE (E := E) ?_
  refine WE.retF tab_ok [_, _] rfl ⟨rfl, rfl, trivial⟩ (RLe.refl _) ?_
  exact ⟨by unfold rnumV; rw [hno]; rfl, rfl⟩
 ·try simp only [zk] at hc0
  have hy1 : w ≠ [] := fun h => hc0.1 (by rw [hss, h]; rfl)
  have hy2 : ¬ (1 < w.length ∧ byteAt w 0 = 48) := fun h => by
   obtain ⟨h1, h2⟩ := hc0
   exact h2 qO h.2
  refine zK (zU (zQ (zG (zR 1 rfl (zN (zU (zQ (zQ (zG (zR 1 rfl (zN (zU (zB ?_)))))))))))))
  refine W.loopK (β := Nat) (fun i => i ≤ w.length ∧ ∀ j, j < i → 48 ≤ byteAt w j ∧ byteAt w j ≤ 57) (fun i => [(4, true, .int .i64 (min (numV (w.take i) : Int) 1073741825)), (5, true, .int .i64 (i : Int))]) [0] [_] [] _ rfl (fun i => []) (fun i => w.length - i) (0) (⟨Nat.zero_le _, fun j hj => by omega⟩) ⟨rfl, rfl, rfl, rfl⟩ qS ?_
  intro i hst
  dsimp only [zipE, setAll, List.cons_append, List.nil_append, List.set_cons_zero, List.set_cons_succ] at hst ⊢
  
  refine zQ (zQ (zG (zR 4 rfl (zN (zU ?_)))))
  refine W.condD rfl (fun hc1 => ?_) (fun hc1 => ?_)
  ·try dsimp only at hc1
   have hil : i < w.length := by omega
   have hbt : byteAt w ((i : Int)).toNat = byteAt w i := rfl
   have hbr := byteAt_range w i
   refine zK (zU (zQ (zB (zQ (zQ (zG (zR 2 rfl ?_)))))))
   refine WG.y rfl rfl qD (Yl.sidx tab_ok rfl rfl rfl rfl rfl (fun _ => rfl) qA) ?_
   refine zR 2 rfl ?_
   refine yP ?_
   refine yP ?_
   refine WG.y rfl rfl (by decide) (Yl.sidx tab_ok rfl rfl rfl rfl rfl qE (by intro hg; (try simp only [zk] at hg); constructor <;> (try dsimp only) <;> omega)) ?_
   refine yP ?_
   refine yO ?_
   refine zN (zU ?_)
   refine W.cond rfl (fun hc2 => ?_) (fun hc2 => ?_)
   ·try simp only [zk] at hc2
    have hno : digs w = false := by
     unfold digs
     rw [decide_eq_false_iff_not]
     rintro ⟨_, _, h3⟩
     have := h3 i hil
     rw [hbt] at hc2
     omega
    refine zQ (zG (zR 2 rfl (zN (zU (zT (wt (wb (wt (wt (wb (wt ?_)))))))))))
    refine sE (E := E) ?_
    refine WE.retF tab_ok [_, _] rfl ⟨rfl, rfl, trivial⟩ (RLe.refl _) ?_
    exact ⟨by unfold rnumV; rw [hno]; rfl, rfl⟩
   ·try simp only [zk] at hc2
    rw [hbt] at hc2
    have hy : 48 ≤ byteAt w i ∧ byteAt w i ≤ 57 := by omega
    have hnt := numV_take hil
    have hbg := byte_get hil
    have hmn : min (10 * min (numV (w.take i) : Int) 1073741825 + (byteAt w i - 48)) 1073741825 = min (numV (w.take (i + 1)) : Int) 1073741825 := by rw [hnt]; omega
    refine zK (zU (zG (zR 1 rfl ?_)))
    refine WG.y rfl rfl qD (Yl.mul rfl rfl rfl (fun _ => rfl) qA) ?_
    refine zR 2 rfl ?_
    refine WG.y rfl rfl qD (Yl.sidx tab_ok rfl rfl rfl rfl rfl (fun _ => rfl) qA) ?_
    refine WG.y rfl rfl qD (Yl.subB rfl rfl rfl (fun _ => rfl) qA) ?_
    refine WG.y rfl rfl qD (Yl.convId tab_ok rfl rfl rfl rfl rfl rfl (fun _ => rfl) (by intro _; (try dsimp only); first | exact u64_id ⟨by omega, by omega⟩ | exact i64_wrap ⟨by omega, by omega⟩ | exact u8_id ⟨by omega, by omega⟩)) ?_
    refine yA ?_
    refine zR 1 rfl ?_
    rw [show (if 1073741825 < 10 * min (numV (w.take i) : Int) 1073741825 + (byteAt w ((i : Int)).toNat - 48) then (1073741825 : Int) else 10 * min (numV (w.take i) : Int) 1073741825 + (byteAt w ((i : Int)).toNat - 48)) = min (numV (w.take (i + 1)) : Int) 1073741825 from by rw [← hmn]; show (if _ < 10 * _ + (byteAt w i - 48) then _ else 10 * _ + (byteAt w i - 48)) = _; split <;> omega]
    refine zR 1 rfl (zN (zL (zU (zG (zR 1 rfl ?_)))))
    refine yA ?_
    refine zR 1 rfl (zN ?_)
    refine WE.again (i + 1) (⟨by omega, fun j hj => by
     by_cases e : j = i
     ·subst e; exact hy
     ·exact hst.2 j (by omega)⟩) (by (try dsimp only); omega) ⟨rfl, rfl, rfl, rfl⟩ (RLe.refl _) qS
  ·try dsimp only at hc1
   obtain rfl : i = w.length := by omega
   rw [List.take_length]
   refine zX ?_
   refine wx (wx (zY (zU (zQ (zG (zR 3 rfl (zN (zU (zT ?_)))))))))
   refine sE (E := E) ?_
   refine WE.retF tab_ok [_, _] rfl ⟨rfl, rfl, trivial⟩ (RLe.refl _) ?_
   have hyes : digs w = true := decide_eq_true ⟨hy1, hy2, hst.2⟩
   exact ⟨by unfold rnumV; rw [hyes]; rfl, rfl⟩



set_option maxHeartbeats 4000000 in
theorem RParse03_C {R : Ro} {s : List UInt8} (hs : s.length ≤ 1000000) (w0 : World) (E : List Ent) : K.Fn Tryz.prog 77 [.string (str s)] w0 R E (fun v R' E' => ∃ (f : Option Addr) (fc : Nat), v = .tuple #[.agg #[.slice f (parseR s).1.vals.length fc, .int .i64 (parseR s).1.per, .int .i64 (parseR s).1.inc], .int .i64 ((parseR s).2.1 : Int), .int .i64 (parseR s).2.2] ∧ RS R' 1 encI f (parseR s).1.vals ∧ (parseR s).1.vals.length ≤ fc ∧ E.Sublist E') := by
 have hss := str_size s
 refine fE 110 Tryz.func77 ?_
 refine zQ (zG ?_)
 refine zA fun b2 => ?_
 refine zR 2 rfl (zN (zU (zQ (zQ (zG (zR 3 rfl (zN (zU ?_))))))))
 refine W.condD rfl (fun hc0 => ?_) (fun hc0 => ?_)
 ·try dsimp only at hc0
  have hp : parseR s = (zcv, 0, 3) := if_pos (by omega)
  refine zQ (zG ?_)
  -- build
  refine WG.y rfl rfl qD (Yl.build (parts := []) tab_ok rfl rfl rfl rfl (fun _ => rfl) rfl rfl) ?_
  refine zE 0 ?_
  refine zR 2 rfl (zN (zU (zT (wt ?_))))
  refine WE.retF tab_ok [_, _, _] rfl ⟨⟨_, _, _, rfl, rfl, rfl, qB, rfl⟩, rfl, rfl, trivial⟩ (by first | exact RLe.refl _ | exact hR1) ?_
  exact ⟨none, 0, by rw [hp]; rfl, by rw [hp]; exact rs_nil, by rw [hp]; exact Nat.le_refl 0, qS⟩
 ·try dsimp only at hc0
  have hnl : ¬ 4000 < s.length := by omega
  refine zK (zU (zQ (zG ?_)))
  refine zA fun b5 => ?_
  refine zN (zU ?_)
  refine W.nil 3 1 qD ?_
  refine zQ (zG (zR 2 rfl (zN (zU (zQ (zQ (zG (zR 1 rfl (zN (zU (zB ?_)))))))))))
  refine W.loopK (β := Nat × List Int × Int × Int × Nat × Nat × Option Addr × Nat) (fun (wh, vals, per, inc, a, i, a9, c9) => Scan s wh vals per inc a i ∧ wh ≤ 5 ∧ vals.length ≤ i) (fun (wh, vals, per, inc, a, i, a9, c9) => [(6, true, .int .i64 (wh : Int)), (7, true, .int .i64 (a : Int)), (8, true, .int .i64 (i : Int))]) [0, 2, 5] [_, _, _] [] _ rfl (fun (wh, vals, per, inc, a, i, a9, c9) => [(0, .sl 3 1 a9 c9 ((vals).map encI)), (1, .blk b5 [.slice a9 vals.length c9, .int .i64 per, .int .i64 inc])]) (fun (wh, vals, per, inc, a, i, a9, c9) => s.length + 1 - i) ((0, [], 0, 0, 0, 0, none, 0)) (⟨Scan.start s, by decide, Nat.le_refl 0⟩) ⟨rfl, rfl, rfl, rfl, rfl, rfl, rfl⟩ qS ?_
  intro zz hst
  obtain ⟨wh, vals, per, inc, a, i, a9, c9⟩ := zz
  dsimp only [zipE, setAll, List.cons_append, List.nil_append, List.set_cons_zero, List.set_cons_succ] at hst ⊢
  obtain ⟨hsc, hw5, hvl⟩ := hst
  have hle := hsc.le
  refine zQ (zQ (zG (zR 4 rfl (zN (zU ?_)))))
  refine W.condD rfl (fun hc1 => ?_) (fun hc1 => ?_)
  ·try dsimp only at hc1
   have hil : i ≤ s.length := by omega
   refine zK (zU (zQ (zB (zQ (zQ (zG (zR 5 rfl ?_)))))))
   refine yP ?_
   refine yP ?_
   refine WG.y rfl rfl (by decide) (Yl.sidx tab_ok rfl rfl rfl rfl rfl qE (by intro hg; (try simp only [zk] at hg); constructor <;> (try dsimp only) <;> omega)) ?_
   refine yP ?_
   refine yN ?_
   refine zN (zU ?_)
   refine W.cond rfl (fun hc2 => ?_) (fun hc2 => ?_)
   ·try simp only [zk] at hc2
    have hib : i < s.length := by omega
    have hbt : byteAt s ((i : Int)).toNat = byteAt s i := rfl
    rw [hbt] at hc2
    refine zX ?_
    refine wx (zY (zU (zG (zR 1 rfl ?_))))
    refine yA ?_
    refine zR 1 rfl (zN ?_)
    refine WE.again ((wh, vals, per, inc, a, i + 1, a9, c9)) (⟨hsc.skip hib qO, hw5, by (try dsimp only); omega⟩) (by (try dsimp only); omega) ⟨rfl, rfl, rfl, rfl, rfl, rfl, rfl⟩ (RLe.refl _) qS
   ·try simp only [zk] at hc2
    have hbt : byteAt s ((i : Int)).toNat = byteAt s i := rfl
    rw [hbt] at hc2
    have hbd : i = s.length ∨ byteAt s i = 32 := by
     by_cases h : i = s.length
     ·exact .inl h
     ·right
      exact hc2 qO
    obtain ⟨ws, hgo, hnx⟩ := hsc.word hil hbd
    have hWl : ((s.take i).drop a).length ≤ 4000 := by rw [List.length_drop, List.length_take]; omega
    refine zK (zU (zQ (zG (zR 3 rfl ?_))))
    refine WG.y rfl rfl qD (Yl.sliceSLH tab_ok rfl rfl rfl rfl rfl rfl (fun _ => rfl) (by intro _; omega)) ?_
    simp only [Int.toNat_natCast]
    generalize (s.take i).drop a = wd at hgo hnx hWl ⊢
    refine zR 1 rfl (zN (zU (zQ (zG (zR 1 rfl ?_)))))
    refine WG.callV en93 rfl rfl qD (CallOp.mk' rfl rfl rfl rfl) (fun _ => rfl) (fun hg => RNum03_V (w := wd) qO) ?_
    refine zR 5 rfl (zN (zU (zQ (zB (zQ (zG (zR 3 rfl ?_)))))))
    refine yP ?_
    refine WG.y rfl rfl qD (Yl.eqS rfl rfl rfl qE) ?_
    refine yN ?_
    refine zR 1 rfl (zN (zU ?_))
    refine W.cond rfl (fun hc3 => ?_) (fun hc3 => ?_)
    ·try simp only [zk] at hc3
     have hW : wd = wInf := str_inj (b := wInf) hc3.2
     have hw1 : wh ≤ 1 := by omega
     have hgo2 := hgo
     rw [parseGo, if_pos ⟨hw1, hW⟩] at hgo2
     have hs2 := hnx _ _ _ _ hgo2
     refine zG (zR 1 rfl ?_)
     refine yL (Rd.add (Rd.blk 1 rfl) _) ?_
     refine WL.ef rfl rfl qD (Ef.buildSliceD (enc := encI) (parts := [.const (.int .i64 4611686018427387904)]) [_] tab_ok rfl rfl rfl rfl rfl rfl rfl rfl qD qD (fun a52 => ?_))
     refine WL.ef rfl rfl (by decide) (Ef.appendD 1 0 tab_ok rfl rfl rfl rfl rfl rfl rfl rfl rfl rfl rfl (fun _ _ => rfl) (by simp only [List.length_cons, List.length_nil]; omega) (by simp only [List.length_cons, List.length_nil]; omega) (fun a53 c53 ha53 => ?_))
     refine zR 1 rfl ?_
     refine zF 2 ?_
     refine zR 1 rfl (zN (zL (zU (zG (zR 1 rfl ?_)))))
     refine yA ?_
     refine zR 1 rfl (zN (zL (zU (zG (zR 1 rfl ?_)))))
     refine yA ?_
     refine zR 1 rfl (zN ?_)
     refine WE.again ((1, vals ++ [INF], per, inc, i + 1, i + 1, a53, c53)) (⟨hs2, by (try dsimp only); omega, by (try simp only [List.length_append, List.length_cons, List.length_nil]); omega⟩) (by (try dsimp only); omega) ⟨rfl, rfl, rfl, rfl, rfl, rfl, rfl⟩ (RLe.refl _) qS
    ·try simp only [zk] at hc3
     have n1 : ¬ (wh ≤ 1 ∧ wd = wInf) := fun h => by have := hc3 (by omega); exact this (by rw [h.2]; rfl)
     refine zQ (zG (zR 3 rfl ?_))
     refine yP ?_
     refine WG.y rfl rfl qD (Yl.eqS rfl rfl rfl qE) ?_
     refine yN ?_
     refine zR 1 rfl (zN (zU ?_))
     refine W.cond rfl (fun hc4 => ?_) (fun hc4 => ?_)
     ·try simp only [zk] at hc4
      have hW : wd = wPer := str_inj (b := wPer) hc4.2
      have hw1 : wh = 1 := by omega
      have hgo2 := hgo
      rw [parseGo, if_neg n1, if_pos ⟨hw1, hW⟩] at hgo2
      have hs2 := hnx _ _ _ _ hgo2
      refine zG (zR 1 rfl (zN (zL (zU (zG (zR 1 rfl ?_))))))
      refine yA ?_
      refine zR 1 rfl (zN (zL (zU (zG (zR 1 rfl ?_)))))
      refine yA ?_
      refine zR 1 rfl (zN ?_)
      refine WE.again ((2, vals, per, inc, i + 1, i + 1, a9, c9)) (⟨hs2, by (try dsimp only); omega, by (try simp only [List.length_append, List.length_cons, List.length_nil]); omega⟩) (by (try dsimp only); omega) ⟨rfl, rfl, rfl, rfl, rfl, rfl, rfl⟩ (RLe.refl _) qS
     ·try simp only [zk] at hc4
      have n2 : ¬ (wh = 1 ∧ wd = wPer) := fun h => by have := hc4 (by omega); exact this (by rw [h.2]; rfl)
      refine zQ (zG (zR 3 rfl ?_))
      refine yP ?_
      refine WG.y rfl rfl qD (Yl.eqS rfl rfl rfl qE) ?_
      refine yN ?_
      refine zR 1 rfl (zN (zU ?_))
      refine W.cond rfl (fun hc5 => ?_) (fun hc5 => ?_)
      ·try simp only [zk] at hc5
       have hW : wd = wInc := str_inj (b := wInc) hc5.2
       have hw1 : wh = 3 := by omega
       have hgo2 := hgo
       rw [parseGo, if_neg n1, if_neg n2, if_pos ⟨hw1, hW⟩] at hgo2
       have hs2 := hnx _ _ _ _ hgo2
       refine zG (zR 1 rfl (zN (zL (zU (zG (zR 1 rfl ?_))))))
       refine yA ?_
       refine zR 1 rfl (zN (zL (zU (zG (zR 1 rfl ?_)))))
       refine yA ?_
       refine zR 1 rfl (zN ?_)
       refine WE.again ((4, vals, per, inc, i + 1, i + 1, a9, c9)) (⟨hs2, by (try dsimp only); omega, by (try simp only [List.length_append, List.length_cons, List.length_nil]); omega⟩) (by (try dsimp only); omega) ⟨rfl, rfl, rfl, rfl, rfl, rfl, rfl⟩ (RLe.refl _) qS
      ·try simp only [zk] at hc5
       have n3 : ¬ (wh = 3 ∧ wd = wInc) := fun h => by have := hc5 (by omega); exact this (by rw [h.2]; rfl)
       refine zQ (zG (zR 2 rfl ?_))
       refine yP ?_
       refine yP ?_
       refine yN ?_
       refine zR 1 rfl ?_
       refine yP ?_
       refine yP ?_
       refine yN ?_
       refine zR 1 rfl (zN (zU ?_))
       refine W.cond rfl (fun hc6 => ?_) (fun hc6 => ?_)
       ·try simp only [zk] at hc6
        have hd : digs wd = true ∧ wh ≠ 3 ∧ wh ≠ 5 := by refine ⟨hc6.1.1, ?_, ?_⟩ <;> omega
        have hrn : rnumV wd = min (numV wd : Int) 1073741825 := if_pos hd.1
        have hgo2 := hgo
        rw [parseGo, if_neg n1, if_neg n2, if_neg n3, if_pos hd] at hgo2
        refine zQ (zQ (zG (zR 2 rfl (zN (zU ?_)))))
        refine W.condD rfl (fun hc7 => ?_) (fun hc7 => ?_)
        ·try dsimp only at hc7
         have hp : parseR s = (zcv, a, 2) := by
          have e : parseGo s.length 0 [] 0 0 0 (spl s) = (zcv, a, 2) := by rw [hgo2, if_pos (by omega)]
          unfold parseR
          rw [if_neg hnl, e]; exact if_pos (by show (2 : Int) ≠ 0; decide)
         refine zQ (zG ?_)
         -- build
         refine WG.y rfl rfl qD (Yl.build (parts := []) tab_ok rfl rfl rfl rfl (fun _ => rfl) rfl rfl) ?_
         refine zR 1 rfl ?_
         refine zE 2 ?_
         refine zR 2 rfl (zN (zU (zT (wt (wb (wt (wb (wt (wt (wb (wt ?_)))))))))))
         refine WE.retF tab_ok [_, _, _] rfl ⟨⟨_, _, _, rfl, rfl, rfl, qB, rfl⟩, rfl, rfl, trivial⟩ (by first | exact RLe.refl _ | exact hR1) ?_
         exact ⟨none, 0, by rw [hp]; rfl, by rw [hp]; exact rs_nil, by rw [hp]; exact Nat.le_refl 0, qS⟩
        ·try dsimp only at hc7
         rw [if_neg (by omega)] at hgo2
         have hrv : rnumV wd = (numV wd : Int) := by omega
         rw [hrv]
         refine zK (zU (zQ (zG (zR 1 rfl (zN (zU (zB (zQ (zG (zR 2 rfl (zN (zU ?_))))))))))))
         refine W.condE rfl (fun hc8 => ?_) (fun hc8 => ?_)
         ·try dsimp only at hc8
          rw [if_pos (by omega)] at hgo2
          have hs2 := hnx _ _ _ _ hgo2
          refine zG (zR 2 rfl ?_)
          refine zF 1 ?_
          refine zR 1 rfl (zN (zL (zL (zU (zG (zR 1 rfl ?_))))))
          refine yA ?_
          refine zR 1 rfl (zN (zL (zU (zG (zR 1 rfl ?_)))))
          refine yA ?_
          refine zR 1 rfl (zN ?_)
          refine WE.again ((3, vals, (numV wd : Int), inc, i + 1, i + 1, a9, c9)) (⟨hs2, by (try dsimp only); omega, by (try simp only [List.length_append, List.length_cons, List.length_nil]); omega⟩) (by (try dsimp only); omega) ⟨rfl, rfl, rfl, rfl, rfl, rfl, rfl⟩ (RLe.refl _) qS
         ·try dsimp only at hc8
          rw [if_neg (by omega)] at hgo2
          refine zQ (zG (zR 2 rfl (zN (zU ?_))))
          refine W.condE rfl (fun hc9 => ?_) (fun hc9 => ?_)
          ·try dsimp only at hc9
           rw [if_pos (by omega)] at hgo2
           have hs2 := hnx _ _ _ _ hgo2
           refine zG (zR 2 rfl ?_)
           refine zF 1 ?_
           refine zR 1 rfl (zN (zL (zL (zU (zG (zR 1 rfl ?_))))))
           refine yA ?_
           refine zR 1 rfl (zN (zL (zU (zG (zR 1 rfl ?_)))))
           refine yA ?_
           refine zR 1 rfl (zN ?_)
           refine WE.again ((5, vals, per, (numV wd : Int), i + 1, i + 1, a9, c9)) (⟨hs2, by (try dsimp only); omega, by (try simp only [List.length_append, List.length_cons, List.length_nil]); omega⟩) (by (try dsimp only); omega) ⟨rfl, rfl, rfl, rfl, rfl, rfl, rfl⟩ (RLe.refl _) qS
          ·try dsimp only at hc9
           rw [if_neg (by omega)] at hgo2
           have hs2 := hnx _ _ _ _ hgo2
           refine zG (zR 1 rfl ?_)
           refine yL (Rd.add (Rd.blk 1 rfl) _) ?_
           refine zR 1 rfl ?_
           refine WL.ef rfl rfl qD (Ef.buildSliceD (enc := encI) (parts := [.tmp 86]) [_] tab_ok rfl rfl rfl rfl rfl rfl rfl rfl qD qD (fun a87 => ?_))
           refine WL.ef rfl rfl (by decide) (Ef.appendD 1 0 tab_ok rfl rfl rfl rfl rfl rfl rfl rfl rfl rfl rfl (fun _ _ => rfl) (by simp only [List.length_cons, List.length_nil]; omega) (by simp only [List.length_cons, List.length_nil]; omega) (fun a88 c88 ha88 => ?_))
           refine zR 1 rfl ?_
           refine zF 2 ?_
           refine zR 1 rfl (zN (zL (zL (zU (zG (zR 1 rfl ?_))))))
           refine yA ?_
           refine zR 1 rfl (zN (zL (zU (zG (zR 1 rfl ?_)))))
           refine yA ?_
           refine zR 1 rfl (zN ?_)
           refine WE.again ((1, vals ++ [(numV wd : Int)], per, inc, i + 1, i + 1, a88, c88)) (⟨hs2, by (try dsimp only); omega, by (try simp only [List.length_append, List.length_cons, List.length_nil]); omega⟩) (by (try dsimp only); omega) ⟨rfl, rfl, rfl, rfl, rfl, rfl, rfl⟩ (RLe.refl _) qS
       ·try simp only [zk] at hc6
        have hd : ¬ (digs wd = true ∧ wh ≠ 3 ∧ wh ≠ 5) := fun h => by
         (have := hc6 ⟨h.1, by omega⟩; omega)
        have hp : parseR s = (zcv, a, 4) := by
         have e : parseGo s.length 0 [] 0 0 0 (spl s) = (zcv, a, 4) := by rw [hgo, parseGo, if_neg n1, if_neg n2, if_neg n3, if_neg hd]
         unfold parseR
         rw [if_neg hnl, e]; exact if_pos (by show (4 : Int) ≠ 0; decide)
        refine zQ (zG ?_)
        -- build
        refine WG.y rfl rfl qD (Yl.build (parts := []) tab_ok rfl rfl rfl rfl (fun _ => rfl) rfl rfl) ?_
        refine zR 1 rfl ?_
        refine zE 2 ?_
        refine zR 2 rfl (zN (zU (zT (wb (wt (wb (wt (wt (wb (wt ?_))))))))))
        refine WE.retF tab_ok [_, _, _] rfl ⟨⟨_, _, _, rfl, rfl, rfl, qB, rfl⟩, rfl, rfl, trivial⟩ (by first | exact RLe.refl _ | exact hR1) ?_
        exact ⟨none, 0, by rw [hp]; rfl, by rw [hp]; exact rs_nil, by rw [hp]; exact Nat.le_refl 0, qS⟩
  ·try dsimp only at hc1
   have hil : ¬ i ≤ s.length := by omega
   have hgo := hsc.stop hil
   refine zX ?_
   refine wx (wx (zY (zU (zQ (zQ (zG (zR 2 rfl (zN (zU ?_)))))))))
   refine W.condN rfl (fun hc10 => ?_) (fun hc10 => ?_)
   ·try dsimp only at hc10
    have hp : parseR s = (zcv, s.length, 4) := by
     have e : parseGo s.length 0 [] 0 0 0 (spl s) = (zcv, s.length, 4) := by rw [hgo, if_neg (by omega)]
     unfold parseR
     rw [if_neg hnl, e]; exact if_pos (by show (4 : Int) ≠ 0; decide)
    refine zQ (zG ?_)
    -- build
    refine WG.y rfl rfl qD (Yl.build (parts := []) tab_ok rfl rfl rfl rfl (fun _ => rfl) rfl rfl) ?_
    refine zR 2 rfl ?_
    refine zE 2 ?_
    refine zR 2 rfl (zN (zU (zT (wt ?_))))
    refine WE.retF tab_ok [_, _, _] rfl ⟨⟨_, _, _, rfl, rfl, rfl, qB, rfl⟩, rfl, rfl, trivial⟩ (by first | exact RLe.refl _ | exact hR1) ?_
    exact ⟨none, 0, by rw [hp]; rfl, by rw [hp]; exact rs_nil, by rw [hp]; exact Nat.le_refl 0, qS⟩
   ·try dsimp only at hc10
    have hgo2 : parseGo s.length 0 [] 0 0 0 (spl s) = (⟨vals, per, inc⟩, 0, 0) := by rw [hgo, if_pos (by omega)]
    refine zK (zU (zQ ?_))
    refine W.cap 0 rfl ?_
    intro hcp
    rw [List.length_map] at hcp
    refine W.freeze (enc := encI) (xs := vals) 0 rfl ?_
    intro R1 hR1 hvs
    refine zQ (zG ?_)
    refine yL (Rd.blk 0 rfl) ?_
    refine WG.callV (v := .bool (validB ⟨vals, per, inc⟩)) en56 rfl rfl qD (CallOp.mk' rfl rfl rfl rfl) (fun _ => rfl) (fun hg => ValidA_V (c := c9) (v := vals) hvs) ?_
    refine zR 1 rfl (zN (zU ?_))
    refine W.cond rfl (fun hc11 => ?_) (fun hc11 => ?_)
    ·try simp only [zk] at hc11
     have hv : validB ⟨vals, per, inc⟩ = false := by simpa using hc11
     have hp : parseR s = (zcv, 0, 1) := by unfold parseR; rw [if_neg hnl, hgo2, if_neg (fun h => h rfl), if_neg (by rw [hv]; decide)]
     refine zQ (zG ?_)
     -- build
     refine WG.y rfl rfl qD (Yl.build (parts := []) tab_ok rfl rfl rfl rfl (fun _ => rfl) rfl rfl) ?_
     refine zE 1 ?_
     refine zR 2 rfl (zN (zU (zT (wt ?_))))
     refine WE.retF tab_ok [_, _, _] rfl ⟨⟨_, _, _, rfl, rfl, rfl, qB, rfl⟩, rfl, rfl, trivial⟩ (by first | exact RLe.refl _ | exact hR1) ?_
     exact ⟨none, 0, by rw [hp]; rfl, by rw [hp]; exact rs_nil, by rw [hp]; exact Nat.le_refl 0, qS⟩
    ·try simp only [zk] at hc11
     have hv : validB ⟨vals, per, inc⟩ = true := by simpa using hc11
     have hp : parseR s = (⟨vals, per, inc⟩, 0, 0) := by unfold parseR; rw [if_neg hnl, hgo2, if_neg (fun h => h rfl), if_pos hv]
     refine zK (zU (zQ (zG ?_)))
     refine yL (Rd.blk 0 rfl) ?_
     refine zE 1 ?_
     refine zR 2 rfl (zN (zU (zT ?_)))
     refine WE.retF tab_ok [_, _, _] rfl ⟨⟨_, _, _, rfl, rfl, rfl, qB, rfl⟩, rfl, rfl, trivial⟩ (by first | exact RLe.refl _ | exact hR1) ?_
     exact ⟨a9, c9, by rw [hp]; rfl, by rw [hp]; exact hvs, by rw [hp]; exact hcp, qS⟩



set_option maxHeartbeats 4000000 in
theorem RPFlow24_C {R : Ro} {s : List UInt8} (hs : s.length ≤ 1000000) {na : Option Addr} {nc m : Nat} {ns : List (List UInt8)} {E : List Ent} (hN : LsT R E na ns) (hm : ns.length = m) (hnl : ∀ x ∈ ns, x.length ≤ 9223372036854775807) (w0 : World) : K.Fn Tryz.prog 54 [.slice na m nc, .string (str s)] w0 R E (fun v R' E' => ∃ x : FlM, v = .tuple #[.agg #[.string (str x.f.name), .slice x.a1 x.f.route.length x.c1, .int .i64 x.f.cls, .int .i64 x.f.lo, .int .i64 x.f.hi, .slice x.a2 x.f.cv.vals.length x.c2, .int .i64 x.f.cv.per, .int .i64 x.f.cv.inc], .bool (flO ns s)] ∧ OkFl R' x ∧ x.f.route.length ≤ x.c1 ∧ x.f.cv.vals.length ≤ x.c2 ∧ (flO ns s = true → x.f = flV ns s) ∧ E' = E) := by
 subst hm
 have hnlen := hN.len
 refine fE 146 Tryz.func54 ?_
 refine zQ (zG ?_)
 refine zA fun b4 => ?_
 refine zR 1 rfl (zN (zU (zQ (zG ?_))))
 refine zA fun b6 => ?_
 refine zN (zU (zQ (zG (zR 1 rfl ?_))))
 refine WL.call en23 rfl rfl qD (CallOp.mkT rfl rfl rfl rfl) (Split24_C (s := s) (d := 32) qO w0 _) ?_
 rintro _ R1 _ hRR ⟨a9, c9, rfl, hws, hcw, rfl⟩
 have hwm := splC_mem 32 s
 have hwl := splC_len 32 s
 have hw7 := fun h => w7_ws (s := s) h
 have hwn := fun h => w7_no (s := s) h ns
 have hflO : flO ns s = (decide ((w7 s).length = 7) && (decide (nth (w7 s) 0 = wFlow) && (wordB (nth (w7 s) 1) && ((num9 (nth (w7 s) 2) && (num9 (nth (w7 s) 3) && num9 (nth (w7 s) 4))) && (wayO ns (nth (w7 s) 5) && decide ((parseR (nth (w7 s) 6)).2.2 = 0)))))) := rfl
 have hflV : flV ns s = ⟨nth (w7 s) 1, wayV ns (nth (w7 s) 5), num9V (nth (w7 s) 2), num9V (nth (w7 s) 3), num9V (nth (w7 s) 4), (parseR (nth (w7 s) 6)).1⟩ := rfl
 generalize splC 32 s = ws at hws hcw hwm hwl hw7 hwn ⊢
 have hwa : ∀ i, (nth ws i).length ≤ s.length := fun i => by
  by_cases h : i < ws.length
  ·exact hwm _ (nth_mem h)
  ·rw [nth_out (by omega)]; exact Nat.zero_le _
 refine zR 1 rfl (zN (zU (zQ (zQ (zG (zR 4 rfl ?_))))))
 refine yP ?_
 refine WG.y rfl rfl (by decide) (Yl.indexN tab_ok rfl rfl rfl rfl rfl rfl qE (by intro hg; (try simp only [zk] at hg); (try dsimp only) <;> omega) (by intro hg; (try simp only [zk] at hg); first | exact (hN.sub hRR qS).has | exact qI)) ?_
 refine' WG.y rfl rfl qD (Yl.loadG tab_ok rfl rfl rfl qE ?r1 rfl ?h1 ?g1) ?_
 case r1 => ((apply RS.rdC; assumption))
 case h1 => rfl
 case g1 => (intro hg; (try simp only [zk] at hg); (try dsimp only); omega)
 refine WG.y rfl rfl qD (Yl.neS rfl rfl rfl qE) ?_
 refine yO ?_
 refine zR 1 rfl ?_
 refine yP ?_
 refine WG.y rfl rfl (by decide) (Yl.indexN tab_ok rfl rfl rfl rfl rfl rfl qE (by intro hg; (try simp only [zk] at hg); (try dsimp only) <;> omega) (by intro hg; (try simp only [zk] at hg); first | exact (hN.sub hRR qS).has | exact qI)) ?_
 refine' WG.y rfl rfl qD (Yl.loadG tab_ok rfl rfl rfl qE ?r2 rfl ?h2 ?g2) ?_
 case r2 => ((apply RS.rdC; assumption))
 case h2 => rfl
 case g2 => (intro hg; (try simp only [zk] at hg); (try dsimp only); omega)
 refine WG.callV en45 rfl rfl qD (CallOp.mk' rfl rfl rfl rfl) qE (fun hg => Word23_V (s := nth ws 1) (by have := hwa 1; omega)) ?_
 refine yP ?_
 refine yO ?_
 refine zN (zU ?_)
 refine W.cond rfl (fun hc0 => ?_) (fun hc0 => ?_)
 ·try simp only [zk] at hc0
  have hno : flO ns s = false := by
   by_cases h7 : ws.length < 7
   ·exact hwn h7
   obtain ⟨_, e, _⟩ := hw7 (by omega)
   rw [hflO, e 0 (by decide), e 1 (by decide), Bool.and_eq_false_iff, Bool.and_eq_false_iff, Bool.and_eq_false_iff, decide_eq_false_iff_not, decide_eq_false_iff_not]
   rcases hc0 with (h | h) | h
   ·exfalso; omega
   ·right; left; intro e; exact h (by rw [e]; rfl)
   ·right; right; left; simpa using h
  refine zQ (zG ?_)
  refine yL (Rd.blk 0 rfl) ?_
  refine zE 1 ?_
  refine zR 1 rfl (zN (zU (zT (wt ?_))))
  refine WE.retFS (E' := E) qS tab_ok [_, _] rfl ⟨⟨_, _, _, rfl, rfl, rfl, qB, rfl⟩, rfl, trivial⟩ (by first | exact RLe.refl _ | assumption | exact hRR | exact hRR.trans hRz | exact hRR.trans hR5) ?_
  exact ⟨(⟨none, 0, none, 0, ⟨[], [], 0, 0, 0, zcv⟩⟩ : FlM), by rw [hno]; rfl, ⟨rs_nil, rs_nil, by decide, by decide⟩, Nat.le_refl 0, Nat.le_refl 0, (fun h => by rw [hno] at h; cases h), rfl⟩
 ·try simp only [zk] at hc0
  obtain ⟨⟨h7, hw0⟩, hw1⟩ := hc0
  have h7n : 7 ≤ ws.length := by omega
  obtain ⟨e7, e6, e66, hk6⟩ := hw7 h7n
  rw [e7, e6 0 (by decide), e6 1 (by decide), e6 2 (by decide), e6 3 (by decide), e6 4 (by decide), e6 5 (by decide), e66, decide_eq_true (str_inj (b := wFlow) hw0), hw1, show decide (7 = 7) = true from rfl, Bool.true_and, Bool.true_and, Bool.true_and] at hflO
  rw [e6 1 (by decide), e6 2 (by decide), e6 3 (by decide), e6 4 (by decide), e6 5 (by decide), e66] at hflV
  refine zK (zU (zQ (zG (zR 1 rfl ?_))))
  refine WG.y rfl rfl qD (Yl.indexN tab_ok rfl rfl rfl rfl rfl rfl (fun _ => rfl) qN (by intro _; first | exact (hN.sub hRR qS).has | exact qI)) ?_
  refine yR ?_
  refine zR 1 rfl ?_
  refine zF 0 ?_
  refine zN (zU (zQ (zG (zR 1 rfl ?_))))
  refine WG.y rfl rfl qD (Yl.indexN tab_ok rfl rfl rfl rfl rfl rfl (fun _ => rfl) qN (by intro _; first | exact (hN.sub hRR qS).has | exact qI)) ?_
  refine yR ?_
  refine WG.callV en72 rfl rfl qD (CallOp.mk' rfl rfl rfl rfl) (fun _ => rfl) (fun hg => RNum24_V (w := nth ws 2) (by have := hwa 2; omega)) ?_
  refine zR 5 rfl (zN (zU (zQ (zG (zR 1 rfl ?_)))))
  refine WG.y rfl rfl qD (Yl.indexN tab_ok rfl rfl rfl rfl rfl rfl (fun _ => rfl) qN (by intro _; first | exact (hN.sub hRR qS).has | exact qI)) ?_
  refine yR ?_
  refine WG.callV en72 rfl rfl qD (CallOp.mk' rfl rfl rfl rfl) (fun _ => rfl) (fun hg => RNum24_V (w := nth ws 3) (by have := hwa 3; omega)) ?_
  refine zR 5 rfl (zN (zU (zQ (zG (zR 1 rfl ?_)))))
  refine WG.y rfl rfl qD (Yl.indexN tab_ok rfl rfl rfl rfl rfl rfl (fun _ => rfl) qN (by intro _; first | exact (hN.sub hRR qS).has | exact qI)) ?_
  refine yR ?_
  refine WG.callV en72 rfl rfl qD (CallOp.mk' rfl rfl rfl rfl) (fun _ => rfl) (fun hg => RNum24_V (w := nth ws 4) (by have := hwa 4; omega)) ?_
  refine zR 5 rfl (zN (zU (zQ (zQ (zG (zR 3 rfl ?_))))))
  refine yP ?_
  refine yP ?_
  refine yO ?_
  refine zR 1 rfl ?_
  refine yP ?_
  refine yP ?_
  refine yO ?_
  refine zN (zU ?_)
  refine W.cond rfl (fun hc1 => ?_) (fun hc1 => ?_)
  ·try simp only [zk] at hc1
   have hno : flO ns s = false := by
    rw [hflO]
    rcases hc1 with (h | h) | h
    ·rw [show num9 (nth ws 2) = false by simpa using h]; rfl
    ·rw [show num9 (nth ws 3) = false by simpa using h, Bool.false_and, Bool.and_false]; rfl
    ·rw [show num9 (nth ws 4) = false by simpa using h, Bool.and_false, Bool.and_false]; rfl
   refine zQ (zG ?_)
   -- build
   refine WG.y rfl rfl qD (Yl.build (parts := []) tab_ok rfl rfl rfl rfl (fun _ => rfl) rfl rfl) ?_
   refine zE 1 ?_
   refine zR 1 rfl (zN (zU (zT (wt ?_))))
   refine WE.retFS (E' := E) qS tab_ok [_, _] rfl ⟨⟨_, _, _, rfl, rfl, rfl, qB, rfl⟩, rfl, trivial⟩ (by first | exact RLe.refl _ | assumption | exact hRR | exact hRR.trans hRz | exact hRR.trans hR5) ?_
   exact ⟨(⟨none, 0, none, 0, ⟨[], [], 0, 0, 0, zcv⟩⟩ : FlM), by rw [hno]; rfl, ⟨rs_nil, rs_nil, by decide, by decide⟩, Nat.le_refl 0, Nat.le_refl 0, (fun h => by rw [hno] at h; cases h), rfl⟩
  ·try simp only [zk] at hc1
   obtain ⟨⟨h2, h3⟩, h4⟩ := hc1
   rw [show num9 (nth ws 2) = true by simpa using h2, show num9 (nth ws 3) = true by simpa using h3, show num9 (nth ws 4) = true by simpa using h4, Bool.true_and, Bool.true_and, Bool.true_and] at hflO
   refine zK (zU (zQ (zG (zR 3 rfl ?_))))
   -- build
   refine WG.y rfl rfl qD (Yl.build (parts := [(0, .tmp 79), (1, .tmp 80)]) tab_ok rfl rfl rfl rfl (fun _ => rfl) rfl rfl) ?_
   refine zR 1 rfl ?_
   refine zF 0 ?_
   refine zR 1 rfl ?_
   refine zF 0 ?_
   refine zN (zU (zQ (zG (zR 1 rfl ?_))))
   refine WG.y rfl rfl qD (Yl.indexN tab_ok rfl rfl rfl rfl rfl rfl (fun _ => rfl) qN (by intro _; first | exact (hN.sub hRR qS).has | exact qI)) ?_
   refine yR ?_
   refine WL.call en23 rfl rfl qD (CallOp.mkT rfl rfl rfl rfl) (Split24_C (s := nth ws 5) (d := 62) (by have := hwa 5; omega) w0 _) ?_
   rintro _ R2 _ hR2 ⟨a8, c8, rfl, hpz, hcz, rfl⟩
   have hRR := hRR.trans hR2
   have hws := hws.mono hR2
   have hpl := splC_len 62 (nth ws 5)
   have hpm := splC_mem 62 (nth ws 5)
   have hwo : wayO ns (nth ws 5) = (splC 62 (nth ws 5)).all (fun x => decide (x ∈ ns)) := rfl
   have hwv : wayV ns (nth ws 5) = (splC 62 (nth ws 5)).map (fun x => (idxN ns x : Int)) := rfl
   generalize splC 62 (nth ws 5) = pz at hpz hcz hpl hpm hwo hwv ⊢
   refine zR 1 rfl (zN (zU (zQ ?_)))
   refine W.nil 3 1 qD ?_
   refine zQ (zG (zR 1 rfl (zN (zU (zB ?_)))))
   refine W.loopK (β := Nat × List Int × Option Addr × Nat) (fun (k, rt, a1, c1) => k ≤ pz.length ∧ (pz.take k).all (fun x => decide (x ∈ ns)) = true ∧ rt = (pz.take k).map (fun x => (idxN ns x : Int))) (fun (k, rt, a1, c1) => [(15, true, .int .i64 (k : Int))]) [0, 1, 4, 6, 7, 14] [_, _, _, _, _, _] [] _ rfl (fun (k, rt, a1, c1) => [(0, .sl 3 1 a1 c1 (rt.map encI)), (1, .blk b6 [.string (str (nth ws 1)), .slice a1 rt.length c1, .int .i64 (num9V (nth ws 2) : Int), .int .i64 (num9V (nth ws 3) : Int), .int .i64 (num9V (nth ws 4) : Int), .slice none 0 0, .int .i64 0, .int .i64 0])]) (fun (k, rt, a1, c1) => pz.length - k) ((0, [], none, 0)) (⟨Nat.zero_le _, rfl, rfl⟩) ⟨rfl, rfl, rfl, rfl, rfl, rfl, rfl, rfl⟩ qS ?_
   intro zz hst
   obtain ⟨k, rt, a1, c1⟩ := zz
   dsimp only [zipE, setAll, List.cons_append, List.nil_append, List.set_cons_zero, List.set_cons_succ] at hst ⊢
   obtain ⟨hk, hka, hrt⟩ := hst
   have hrl : rt.length = k := by rw [hrt, List.length_map, List.length_take]; omega
   refine zQ (zQ (zG (zR 4 rfl (zN (zU ?_)))))
   refine W.condD rfl (fun hc2 => ?_) (fun hc2 => ?_)
   ·try dsimp only at hc2
    have h5w := hwa 5
    have hkl : k < pz.length := by omega
    have hpk := hpm _ (nth_mem hkl)
    refine zK (zU (zQ (zB (zQ (zG (zR 1 rfl (zN (zU (zQ (zQ (zG (zR 2 rfl ?_))))))))))))
    refine yS ?_
    refine zR 1 rfl (zN (zU (zB ?_)))
    refine W.loopK (β := Nat × Int) (fun (j, at0) => j ≤ ns.length ∧ at0 = atI ns (nth pz k) j) (fun (j, at0) => [(16, true, .int .i64 at0), (17, true, .int .i64 ((j : Int) - 1))]) [0, 1, 4, 6, 7, 14, 15] [_, _, _, _, _, _, _] [] _ rfl (fun (j, at0) => []) (fun (j, at0) => j) ((ns.length, -1)) (⟨Nat.le_refl _, (atI_end _ _).symm⟩) ⟨rfl, rfl, rfl, rfl, rfl, rfl, rfl, rfl, rfl, rfl⟩ qS ?_
    intro zz hst
    obtain ⟨j, at0⟩ := zz
    dsimp only [zipE, setAll, List.cons_append, List.nil_append, List.set_cons_zero, List.set_cons_succ] at hst ⊢
    obtain ⟨hj, hat⟩ := hst
    refine zQ (zQ (zG (zR 2 rfl (zN (zU ?_)))))
    refine W.condD rfl (fun hc3 => ?_) (fun hc3 => ?_)
    ·try dsimp only at hc3
     obtain ⟨j, rfl⟩ : ∃ q, j = q + 1 := ⟨j - 1, by omega⟩
     rw [show ((j + 1 : Nat) : Int) - 1 = (j : Int) by omega]
     have hjl : j < ns.length := by omega
     refine zK (zU (zQ (zB (zQ ?_))))
     refine W.regionQ _ mixed qK ?_
     refine zR 2 rfl ?_
     refine WG.y rfl rfl qD (Yl.indexN tab_ok rfl rfl rfl rfl rfl rfl (fun _ => rfl) qN (by intro _; first | exact (hN.sub hRR qS).has | exact qI)) ?_
     refine' WG.y rfl rfl qD (Yl.load1 tab_ok rfl rfl rfl (fun _ => rfl) ?r9 rfl ?h9) ?_
     case r9 => exact (hN.sub hRR qS).rd j hjl
     case h9 => rfl
     refine zR 2 rfl ?_
     refine WG.y rfl rfl qD (Yl.indexN tab_ok rfl rfl rfl rfl rfl rfl (fun _ => rfl) qN (by intro _; first | exact (hN.sub hRR qS).has | exact qI)) ?_
     refine yR ?_
     refine WG.y rfl rfl qD (Yl.eqS rfl rfl rfl (fun _ => rfl)) ?_
     refine zN (zU ?_)
     refine W.cond rfl (fun hc4 => ?_) (fun hc4 => ?_)
     ·try simp only [zk] at hc4
      have hje : nth ns j = nth pz k := str_inj hc4
      refine zG (zR 2 rfl (zN (zL (zU (zG (zR 1 rfl ?_))))))
      refine yS ?_
      refine zR 1 rfl (zN ?_)
      refine WE.again ((j, (j : Int))) (⟨by omega, (atI_yes hjl hje).symm⟩) (by (try dsimp only); omega) ⟨rfl, rfl, rfl, rfl, rfl, rfl, rfl, rfl, rfl, rfl⟩ (RLe.refl _) qS
     ·try simp only [zk] at hc4
      have hne : nth ns j ≠ nth pz k := fun e => by first | exact hc4 (by rw [e]) | (rw [e] at hc4; simp at hc4)
      refine zK (zL (zU (zG (zR 1 rfl ?_))))
      refine yS ?_
      refine zR 1 rfl (zN ?_)
      refine WE.again ((j, at0)) (⟨by omega, by rw [hat, atI_no hjl hne]⟩) (by (try dsimp only); omega) ⟨rfl, rfl, rfl, rfl, rfl, rfl, rfl, rfl, rfl, rfl⟩ (RLe.refl _) qS
    ·try dsimp only at hc3
     obtain rfl : j = 0 := by omega
     rw [atI_0] at hat
     refine zX ?_
     refine wx (wx (zY (zU (zQ (zQ (zG (zR 2 rfl (zN (zU ?_)))))))))
     refine W.condD rfl (fun hc5 => ?_) (fun hc5 => ?_)
     ·try dsimp only at hc5
      have hno : flO ns s = false := by
       have him : ¬ nth pz k ∈ ns := fun h => by rw [if_pos h] at hat; omega
       rw [hflO, hwo, show pz.all (fun x => decide (x ∈ ns)) = false from List.all_eq_false.2 ⟨_, nth_mem hkl, by rw [decide_eq_false him]; decide⟩, Bool.false_and]
      refine zQ (zG ?_)
      -- build
      refine WG.y rfl rfl qD (Yl.build (parts := []) tab_ok rfl rfl rfl rfl (fun _ => rfl) rfl rfl) ?_
      refine zE 2 ?_
      refine zR 1 rfl (zN (zU (zT (wt (wb (wt (wt (wb (wt ?_)))))))))
      refine WE.retFS (E' := E) qS tab_ok [_, _] rfl ⟨⟨_, _, _, rfl, rfl, rfl, qB, rfl⟩, rfl, trivial⟩ (by first | exact RLe.refl _ | assumption | exact hRR | exact hRR.trans hRz | exact hRR.trans hR5) ?_
      exact ⟨(⟨none, 0, none, 0, ⟨[], [], 0, 0, 0, zcv⟩⟩ : FlM), by rw [hno]; rfl, ⟨rs_nil, rs_nil, by decide, by decide⟩, Nat.le_refl 0, Nat.le_refl 0, (fun h => by rw [hno] at h; cases h), rfl⟩
     ·try dsimp only at hc5
      have him : nth pz k ∈ ns := Classical.byContradiction fun h => by rw [if_neg h] at hat; omega
      rw [if_pos him] at hat
      subst hat
      refine zK (zU (zG (zR 1 rfl ?_)))
      refine yL (Rd.add (Rd.blk 1 rfl) _) ?_
      refine zR 1 rfl ?_
      refine WL.ef rfl rfl qD (Ef.buildSliceD (enc := encI) (parts := [.tmp 116]) [_] tab_ok rfl rfl rfl rfl rfl rfl rfl rfl qD qD (fun a117 => ?_))
      refine WL.ef rfl rfl (by decide) (Ef.appendD 1 0 tab_ok rfl rfl rfl rfl rfl rfl rfl rfl rfl rfl rfl (fun _ _ => rfl) (by simp only [List.length_cons, List.length_nil]; omega) (by simp only [List.length_cons, List.length_nil]; omega) (fun a118 c118 ha118 => ?_))
      refine zR 1 rfl ?_
      refine zF 2 ?_
      refine zN (zL (zU (zG (zR 1 rfl ?_))))
      refine yA ?_
      refine zR 1 rfl (zN ?_)
      refine WE.again ((k + 1, rt ++ [(idxN ns (nth pz k) : Int)], a118, c118)) (⟨by omega, by rw [take_nth hkl, List.all_append, hka, List.all_cons, List.all_nil, decide_eq_true him]; rfl, by rw [take_nth hkl, List.map_append, List.map_singleton, ← hrt]⟩) (by (try dsimp only); omega) ⟨rfl, rfl, rfl, rfl, rfl, rfl, rfl, rfl⟩ (RLe.refl _) qS
   ·try dsimp only at hc2
    obtain rfl : k = pz.length := by omega
    rw [List.take_length] at hka hrt
    rw [← hwo] at hka
    rw [← hwv] at hrt
    rw [hka, Bool.true_and] at hflO
    refine zX ?_
    refine wx (wx (zY (zU ?_)))
    refine W.cap 0 rfl ?_
    intro hcz1
    refine W.freeze (enc := encI) (xs := rt) 0 rfl ?_
    intro Rz hRz hrz
    have hws := hws.mono hRz
    have hRR := hRR.trans hRz
    refine zQ (zG (zR 1 rfl (zN (zU (zQ (zQ (zG (zR 1 rfl (zN (zU (zB ?_)))))))))))
    refine W.loopK (β := Nat × Nat) (fun (i, fr) => i ≤ 6 ∧ fr = lenK ws i) (fun (i, fr) => [(18, true, .int .i64 (fr : Int)), (19, true, .int .i64 (i : Int))]) [1, 4, 6, 7] [_, _, _, _] [] _ rfl (fun (i, fr) => []) (fun (i, fr) => 6 - i) ((0, 0)) (⟨Nat.zero_le _, rfl⟩) ⟨rfl, rfl, rfl, rfl, rfl, rfl, rfl⟩ qS ?_
    intro zz hst
    obtain ⟨i, fr⟩ := zz
    dsimp only [zipE, setAll, List.cons_append, List.nil_append, List.set_cons_zero, List.set_cons_succ] at hst ⊢
    obtain ⟨hi, hfr⟩ := hst
    refine zQ (zQ (zG (zR 2 rfl (zN (zU ?_)))))
    refine W.condD rfl (fun hc6 => ?_) (fun hc6 => ?_)
    ·try dsimp only at hc6
     have hil : i < ws.length := by omega
     have hwi := hwa i
     have hsz := str_size (nth ws i)
     have hfm := lenK_le ws (show i + 1 ≤ 6 by omega)
     have hfs : lenK ws (i + 1) = lenK ws i + ((nth ws i).length + 1) := rfl
     refine zK (zU (zQ (zB (zG (zR 3 rfl ?_)))))
     refine WG.y rfl rfl qD (Yl.indexN tab_ok rfl rfl rfl rfl rfl rfl (fun _ => rfl) qN (by intro _; first | exact (hN.sub hRR qS).has | exact qI)) ?_
     refine yR ?_
     refine zR 1 rfl ?_
     refine yA ?_
     refine yA ?_
     refine zR 1 rfl (zN (zL (zU (zG (zR 1 rfl ?_)))))
     refine yA ?_
     refine zR 1 rfl (zN ?_)
     refine WE.again ((i + 1, fr + ((nth ws i).length + 1))) (⟨by omega, by rw [lenK, hfr]⟩) (by (try dsimp only); omega) ⟨rfl, rfl, rfl, rfl, rfl, rfl, rfl⟩ (RLe.refl _) qS
    ·try dsimp only at hc6
     obtain rfl : i = 6 := by omega
     subst hfr
     refine zX ?_
     refine wx (wx (zY (zU (zQ (zG (zR 2 rfl ?_))))))
     refine WG.y rfl rfl qD (Yl.sliceSL tab_ok rfl rfl rfl rfl rfl (fun _ => rfl) (by intro _; omega)) ?_
     refine WL.call en77 rfl rfl (by decide) (CallOp.mkT rfl rfl rfl rfl) (RParse03_C (s := s.drop (lenK ws 6)) (by rw [List.length_drop]; omega) w0 _) ?_
     rintro _ R5 E5 hR5 ⟨f5, k5, rfl, hf5, hk5, hsub5⟩
     refine WL.subE hsub5 ?_
     have hrz := hrz.mono hR5
     refine zR 4 rfl ?_
     refine zA fun b20 => ?_
     refine zE 0 ?_
     refine zR 2 rfl (zN (zU (zQ (zQ (zG (zR 2 rfl (zN (zU ?_))))))))
     refine W.condN rfl (fun hc7 => ?_) (fun hc7 => ?_)
     ·try dsimp only at hc7
      have hno : flO ns s = false := by
       rw [hflO]; exact decide_eq_false hc7
      refine zQ (zG ?_)
      -- build
      refine WG.y rfl rfl qD (Yl.build (parts := []) tab_ok rfl rfl rfl rfl (fun _ => rfl) rfl rfl) ?_
      refine zE 2 ?_
      refine zR 1 rfl (zN (zU (zT (wt ?_))))
      refine WE.retFS (E' := E) qS tab_ok [_, _] rfl ⟨⟨_, _, _, rfl, rfl, rfl, qB, rfl⟩, rfl, trivial⟩ (by first | exact RLe.refl _ | assumption | exact hRR | exact hRR.trans hRz | exact hRR.trans hR5) ?_
      exact ⟨(⟨none, 0, none, 0, ⟨[], [], 0, 0, 0, zcv⟩⟩ : FlM), by rw [hno]; rfl, ⟨rs_nil, rs_nil, by decide, by decide⟩, Nat.le_refl 0, Nat.le_refl 0, (fun h => by rw [hno] at h; cases h), rfl⟩
     ·try dsimp only at hc7
      refine zK (zU (zQ (zG ?_)))
      refine yL (Rd.blk 0 rfl) ?_
      refine zR 1 rfl ?_
      refine zF 1 ?_
      refine zN (zU (zQ (zG ?_)))
      refine yL (Rd.blk 1 rfl) ?_
      refine zE 2 ?_
      refine zR 1 rfl (zN (zU (zT ?_)))
      refine WE.retFS (E' := E) qS tab_ok [_, _] rfl ⟨⟨_, _, _, rfl, rfl, rfl, qB, rfl⟩, rfl, trivial⟩ (by first | exact RLe.refl _ | assumption | exact hRR | exact hRR.trans hRz | exact hRR.trans hR5) ?_
      have hdd : ((parseR (s.drop (lenK ws 6))).2.2 == 0) = decide ((parseR (s.drop (lenK ws 6))).2.2 = 0) := by by_cases h : (parseR (s.drop (lenK ws 6))).2.2 = 0 <;> simp [h]
      refine ⟨⟨a1, c1, f5, k5, ⟨nth ws 1, rt, num9V (nth ws 2), num9V (nth ws 3), num9V (nth ws 4), (parseR (s.drop (lenK ws 6))).1⟩⟩, by rw [hflO, decide_eq_true hc7]; rfl, ⟨hrz, hf5, Nat.le_trans (parseR_len _) (by decide), ?_⟩, by simpa using hcz1, hk5, fun _ => by rw [hflV, hrt], rfl⟩
      show (nth ws 1).length ≤ _
      have := hwa 1; omega

end Go.Proofs.YtmidibkljoaoiaaGreatDoor
