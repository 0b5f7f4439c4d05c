/- Rules and walks, joined from 37 texts: the first of them says: A trial. No condition. -/
import Derived.Test.YthpblaoehlgpfaaGreatG4
import Derived.WalkSpells
/- A trial. No condition. -/
set_option maxRecDepth 4000
set_option linter.unusedSimpArgs false
set_option linter.unusedVariables false
namespace Go.Proofs.YthpblaoehlgpfaaGreat
open Go Go.RowKit Go.Proofs.YthpblaoehlgpfaaGreat.K Go.Proofs.YthpblaoehlgpfaaGreat.M

theorem Check_V {R : Ro} {pa : Option Addr} {pc : Nat} {ps : List Pkt} (hp : RS R 3 encP pa ps) {cap classes ticks : Int} : FnV Tryz.prog 190 [.int .i64 cap, .int .i64 classes, .slice pa ps.length pc, .int .i64 ticks] R (.int .i64 (checkE cap classes ticks ps)) := by
 have hla := hp.len
 refine Fn.toV (fun w0 E => ?_)
 refine fE 44 Tryz.func190 ?_
 refine zQ (zG (zR 1 rfl (zN (zU (zQ (zQ (zG (zR 3 rfl ?_))))))))
 refine yP ?_
 refine yP ?_
 refine yO ?_
 refine zR 1 rfl ?_
 refine yP ?_
 refine yP ?_
 refine yO ?_
 refine zR 1 rfl ?_
 refine yP ?_
 refine yP ?_
 refine yO ?_
 refine zR 1 rfl ?_
 refine yP ?_
 refine yP ?_
 refine yO ?_
 refine zR 1 rfl ?_
 refine yP ?_
 refine yP ?_
 refine yO ?_
 refine zN (zU ?_)
 refine W.cond rfl (fun hc0 => ?_) (fun hc0 => ?_)
 ·try simp only [zk] at hc0
  refine zQ (zG (zR 1 rfl (zN (zU (zT (wt ?_))))))
  refine sE (E := E) ?_
  refine WE.retF tab_ok [_] rfl ⟨rfl, trivial⟩ (RLe.refl _) ?_
  exact ⟨by unfold checkE; rw [if_pos (show BadC cap classes ticks by unfold BadC; omega)]; rfl, rfl⟩
 ·try simp only [zk] at hc0
  have hck : checkE cap classes ticks ps = flowGo classes ps := by unfold checkE; rw [if_neg (by unfold BadC; omega)]
  refine zK (zU (zQ (zQ (zG (zR 3 rfl (zN (zU (zB ?_))))))))
  refine W.loop (β := Nat) (fun k => k ≤ ps.length ∧ flowGo classes (ps.drop k) = checkE cap classes ticks ps) (fun k => [(1, true, .int .i64 classes), (33, true, .slice pa ps.length pc), (34, true, .int .i64 ps.length), (35, true, .int .i64 (k : Int))]) (fun _ => R) (fun _ => E) (fun k => ps.length - k) (0) (⟨Nat.zero_le _, by rw [List.drop_zero, hck]⟩) ⟨rfl, rfl, rfl, rfl, rfl⟩ (RLe.refl _) qS ?_
  intro st hst
  obtain ⟨hk, hv⟩ := hst
  refine zQ (zG (zR 1 rfl (zN (zU (zQ ?_)))))
  refine W.condD rfl (fun hc1 => ?_) (fun hc1 => ?_)
  ·try dsimp only at hc1
   have hd := drop_nth (xs := ps) (k := st) (by omega)
   rw [hd, flowGo] at hv
   refine zK (zU (zQ (zB (zQ (zG ?_)))))
   refine WG.y rfl rfl qD (Yl.indexN tab_ok rfl rfl rfl rfl rfl rfl (fun _ => rfl) qN qH) ?_
   refine yR ?_
   refine zA fun b10 => ?_
   refine zE 0 ?_
   refine zN (zU (zQ (zG (zR 1 rfl ?_))))
   refine yL (Rd.add (Rd.blk 0 rfl) _) ?_
   refine zR 2 rfl (zN (zU ?_))
   refine W.condD rfl (fun hc2 => ?_) (fun hc2 => ?_)
   ·try dsimp only at hc2
    rw [if_pos (by omega)] at hv
    refine zQ (zG (zR 1 rfl (zN (zU (zT (wb (wt (wt (wb (wt ?_))))))))))
    refine sE (E := E) ?_
    refine WE.retF tab_ok [_] rfl ⟨rfl, trivial⟩ (RLe.refl _) ?_
    exact ⟨by rw [← hv]; rfl, rfl⟩
   ·try dsimp only at hc2
    rw [if_neg (by omega)] at hv
    refine zK (zL (zU (zG ?_)))
    refine yA ?_
    refine zR 1 rfl (zN ?_)
    refine WE.again (st + 1) (⟨by omega, hv⟩) (by (try dsimp only); omega) ⟨rfl, rfl, rfl, rfl, rfl⟩ (RLe.refl _) qS
  ·try dsimp only at hc1
   obtain rfl : st = ps.length := by omega
   rw [List.drop_length, flowGo] at hv
   refine zX ?_
   refine wx (wx (zY (zU (zQ (zG (zR 1 rfl (zN (zU (zT ?_)))))))))
   refine sE (E := E) ?_
   refine WE.retF tab_ok [_] rfl ⟨rfl, trivial⟩ (RLe.refl _) ?_
   exact ⟨by rw [← hv]; rfl, rfl⟩

theorem LRun_ok {R : Ro} {pa : Option Addr} {pc : Nat} {ps : List Pkt} (hp : RS R 3 encP pa ps) {cap : Int} {classes ticks : Nat} (w0 : World) (hv : Ok ps) (hc : checkE cap classes ticks ps = 0) (E : List Ent) :
  K.Fn Tryz.prog 189 [.int .i64 cap, .int .i64 classes, .slice pa ps.length pc, .int .i64 ticks] w0 R E
   (fun v R' E' => ∃ (rows : List Sl) (gd go : Nat) (s : M.RS Unit), s = mrun ps (fifo ps) cap classes ticks () ∧ v = .tuple #[.agg #[.slice (some ⟨gd, 0, none⟩) ps.length ps.length, .slice (some ⟨go, 0, none⟩) classes classes], .int .i64 0] ∧ R = R' ∧ rows.map Sl.xs = s.sent ∧ (∀ r ∈ rows, r.a.isSome = true) ∧ Inv ps classes (goodF ps) (ticks + 1) (ticks * cap) s ∧
    (.sl 3 1 (some ⟨gd, 0, none⟩) ps.length (s.done.map encI) :: .sl 22 1 (some ⟨go, 0, none⟩) classes (rows.map encS) :: (rows.map (rowE 3) ++ E)).Sublist E') := by
 have hla := hp.len
 have hvv := (validate_ok ps).2 hv
 obtain ⟨hb, hfl⟩ := checkE_ok hc
 unfold BadC at hb
 have hcap : 1 ≤ cap ∧ cap ≤ 1000000 := by omega
 have hcl : classes ≤ 1000 := by omega
 have htk : ticks ≤ 1000000 := by omega
 have hrun := fun F => MRun_C (pc := pc) (g := 192) (first := #[]) (capd := #[]) (ch := fifo ps) (X := fun _ => []) (sg := ()) w0 hp (goodF_good ps) (hv.fit hfl) (Nat.zero_le _) hcap hcl htk en192 (fun sb bg ms sg F hgd hbl _ _ _ _ => First_C w0 hp hbl hgd F) F
 refine fE 32 Tryz.func189 ?_
 refine zQ (zG ?_)
 refine zA fun b8 => ?_
 refine zR 1 rfl (zN (zU (zQ (zQ (zG (zR 1 rfl ?_))))))
 refine WG.callV en79 rfl rfl qD (CallOp.mk' rfl rfl rfl rfl) (fun _ => rfl) (fun hg => hvv ▸ Validate_V hp) ?_
 refine zR 1 rfl (zN (zU (zQ (zG (zR 2 rfl (zN (zU ?_)))))))
 refine W.condN rfl (fun hc0 => ?_) (fun hc0 => ?_)
 ·try dsimp only at hc0
  exact absurd rfl hc0
 ·try dsimp only at hc0
  refine zK (zU (zQ (zQ (zG (zR 4 rfl ?_)))))
  refine WG.callV en190 rfl rfl qD (CallOp.mk' rfl rfl rfl rfl) (fun _ => rfl) (fun hg => hc ▸ Check_V hp) ?_
  refine zR 1 rfl (zN (zU (zQ (zG (zR 2 rfl (zN (zU ?_)))))))
  refine W.condN rfl (fun hc1 => ?_) (fun hc1 => ?_)
  ·try dsimp only at hc1
   exact absurd rfl hc1
  ·try dsimp only at hc1
   refine zK (zU (zQ (zG (zR 4 rfl ?_))))
   refine WL.call en191 rfl rfl qD (CallOp.mkT rfl rfl rfl rfl) (hrun (.blk b8 [.slice none 0 0, .slice none 0 0] :: E)) ?_
   rintro _ _ E2 - ⟨rows, gd, go, s, hs, rfl, rfl, h1, h2, h3, hsub⟩
   refine WL.subE hsub ?_
   refine WL.perm (List.perm_middle (l₁ := _ :: _ :: rows.map (rowE 3))) ?_
   refine zE 0 ?_
   refine zR 1 rfl (zN (zU (zT ?_)))
   refine WE.retF tab_ok [_, _] rfl ⟨⟨_, _, _, rfl, rfl, rfl, (Rd.blk 0 rfl), rfl⟩, rfl, trivial⟩ (RLe.refl _) ?_
   exact ⟨rows, gd, go, s, hs, rfl, rfl, h1, h2, h3, List.Sublist.cons _ (List.Sublist.refl _)⟩

theorem CLine_C {R : Ro} {rate : Int} (w0 : World) (hr : 0 ≤ rate ∧ rate ≤ 1073741824) (E : List Ent) :
  K.Fn Tryz.prog 151 [.int .i64 rate] w0 R E (fun v R' E' => ∃ g : Nat, v = .tuple #[.agg #[.slice (some ⟨g, 0, none⟩) 1 1, .int .i64 1, .int .i64 rate], .int .i64 0] ∧ R = R' ∧ (.sl 3 1 (some ⟨g, 0, none⟩) 1 ([0].map encI) :: E).Sublist E') := by
 refine fE 13 Tryz.func151 ?_
 refine zQ (zG ?_)
 refine zA fun b2 => ?_
 refine zR 1 rfl (zN (zU (zQ (zQ (zG (zR 2 rfl (zN (zU ?_))))))))
 refine W.condD rfl (fun hc0 => ?_) (fun hc0 => ?_)
 ·try dsimp only at hc0
  omega
 ·try dsimp only at hc0
  refine zK (zU (zQ (zQ (zG (zR 2 rfl (zN (zU ?_)))))))
  refine W.condD rfl (fun hc1 => ?_) (fun hc1 => ?_)
  ·try dsimp only at hc1
   omega
  ·try dsimp only at hc1
   refine zK (zU (zQ (zG ?_)))
   refine WL.ef rfl rfl qD (Ef.buildSliceD (enc := encI) (parts := [.const (.int .i64 0)]) [_] tab_ok rfl rfl rfl rfl rfl rfl rfl rfl qD qD (fun a10 => ?_))
   refine zR 1 rfl ?_
   -- build
   refine WG.y rfl rfl qD (Yl.build (parts := [(0, .tmp 10), (1, .const (.int .i64 1)), (2, .tmp 11)]) tab_ok rfl rfl rfl rfl (fun _ => rfl) rfl rfl) ?_
   refine zE 1 ?_
   refine zR 1 rfl (zN (zU (zT ?_)))
   refine WE.retF tab_ok [_, _] rfl ⟨⟨_, _, _, rfl, rfl, rfl, (Rd.blk 1 rfl), rfl⟩, rfl, trivial⟩ (RLe.refl _) ?_
   exact ⟨a10, rfl, rfl, List.Sublist.cons_cons _ (List.Sublist.cons _ (List.Sublist.refl _))⟩

theorem Serve_ok {R : Ro} {cap : Int} (w0 : World) (hr : 1 ≤ cap ∧ cap ≤ 4000) (E : List Ent) :
  K.Fn Tryz.prog 92 [.int .i64 cap] w0 R E (fun v R' E' => ∃ g : Nat, v = .tuple #[.agg #[.slice (some ⟨g, 0, none⟩) 1 1, .int .i64 1, .int .i64 cap], .int .i64 0] ∧ R = R' ∧ (.sl 3 1 (some ⟨g, 0, none⟩) 1 ([0].map encI) :: E).Sublist E') := by
 refine fE 15 Tryz.func92 ?_
 refine zQ (zG ?_)
 refine zA fun b2 => ?_
 refine zR 1 rfl (zN (zU (zQ (zQ (zG (zR 3 rfl ?_))))))
 refine yP ?_
 refine yP ?_
 refine yO ?_
 refine zN (zU ?_)
 refine W.cond rfl (fun hc0 => ?_) (fun hc0 => ?_)
 ·try simp only [zk] at hc0
  omega
 ·try simp only [zk] at hc0
  refine zK (zU (zQ (zG (zR 1 rfl ?_))))
  refine WL.call en151 rfl rfl qD (CallOp.mkT rfl rfl rfl rfl) (CLine_C w0 qO _) ?_
  rintro _ _ E2 - ⟨g, rfl, rfl, hsub⟩
  refine WL.subE hsub ?_
  refine zR 2 rfl ?_
  refine zE 1 ?_
  refine zR 1 rfl (zN (zU (zT ?_)))
  refine WE.retF tab_ok [_, _] rfl ⟨⟨_, _, _, rfl, rfl, rfl, (Rd.blk 1 rfl), rfl⟩, rfl, trivial⟩ (RLe.refl _) ?_
  exact ⟨g, rfl, rfl, List.Sublist.cons_cons _ (List.Sublist.cons _ (List.Sublist.refl _))⟩

theorem Queue_V {R : Ro} {pa oa : Option Addr} {pc oc : Nat} {ps : List Pkt} {rows : List Sl} {cls t : Int} (hp : RS R 3 encP pa ps) (ho : RS R 1 encS oa rows) (hr : ∀ r ∈ rows, RS R 1 encI r.a r.xs) (hs : ∀ p ∈ ps, 0 ≤ p.size ∧ p.size ≤ 1000000) (hl : ps.length ≤ 1000000) (hb : ∀ r ∈ rows, ∀ x ∈ r.xs, -1000000000000 ≤ x ∧ x ≤ 1000000000000) (hrl : rows.length ≤ 1000) (ht : t ≤ 1000000000) {da : Option Addr} {dl dc : Nat} :
  FnV Tryz.prog 21 [.slice pa ps.length pc, .agg #[.slice da dl dc, .slice oa rows.length oc], .int .i64 cls, .int .i64 t] R (.tuple #[.int .i64 (queueR ps (rows.map Sl.xs) cls t).1, .int .i64 (queueR ps (rows.map Sl.xs) cls t).2]) := by
 have hlo := ho.len
 refine Fn.toV (fun w0 E => ?_)
 have hb1 := pbytes_bound cls t ps hs
 have hb2 := pbytes_bound cls (t + 1) ps hs
 refine fE 65 Tryz.func21 ?_
 refine zQ (zG ?_)
 refine zO fun b5 => ?_
 refine zR 2 rfl (zN (zU (zQ (zQ (zG (zR 3 rfl ?_))))))
 refine yP ?_
 refine yP ?_
 refine yG (Rd.addC (Rd.blkC 0 rfl) _) ?_
 refine yP ?_
 refine yP ?_
 refine yO ?_
 refine zR 1 rfl ?_
 refine yP ?_
 refine yP ?_
 refine yO ?_
 refine zN (zU ?_)
 refine W.cond rfl (fun hc0 => ?_) (fun hc0 => ?_)
 ·try simp only [zk] at hc0
  refine zQ (zG (zR 2 rfl (zN (zU (zT (wt ?_))))))
  refine sE (E := E) ?_
  refine WE.retF tab_ok [_, _] rfl ⟨rfl, rfl, trivial⟩ (RLe.refl _) ?_
  have hq : queueR ps (rows.map Sl.xs) cls t = (0, 0) := by unfold queueR; rw [if_pos (by rw [List.length_map]; omega)]
  exact ⟨by rw [hq]; rfl, rfl⟩
 ·try simp only [zk] at hc0
  have hne : ¬ (cls < -1 ∨ ((rows.map Sl.xs).length : Int) ≤ cls ∨ t < 0) := by rw [List.length_map]; omega
  have hq : queueR ps (rows.map Sl.xs) cls t = match qGo cls t 0 0 (rows.map Sl.xs) with | none => (0, 0) | some s => (pbytes cls t ps - s, pbytes cls (t + 1) ps - s) := by unfold queueR; rw [if_neg hne]; rfl
  refine zK (zU (zQ (zG (zR 1 rfl (zN (zU (zQ (zQ (zG (zR 1 rfl ?_))))))))))
  refine yL (Rd.add (Rd.blk 0 rfl) _) ?_
  refine zR 2 rfl (zN (zU (zB ?_)))
  refine W.loop (β := Nat × Int) (fun (k, acc) => k ≤ rows.length ∧ qGo cls t acc k ((rows.drop k).map Sl.xs) = qGo cls t 0 0 (rows.map Sl.xs) ∧ -1000000000000 * k ≤ acc ∧ acc ≤ 1000000000000 * k) (fun (k, acc) => [(0, true, .slice pa ps.length pc), (2, true, .int .i64 cls), (3, true, .int .i64 t), (10, true, .int .i64 acc), (27, true, .slice oa rows.length oc), (28, true, .int .i64 rows.length), (29, true, .int .i64 (k : Int))]) (fun _ => R) (fun _ => E) (fun (k, acc) => rows.length - k) ((0, 0)) (⟨Nat.zero_le _, rfl, by omega, by omega⟩) ⟨rfl, rfl, rfl, rfl, rfl, rfl, rfl, rfl⟩ (RLe.refl _) qS ?_
  intro st hst
  obtain ⟨k, acc⟩ := st
  obtain ⟨hk, hv, hlo1, hhi1⟩ := hst
  dsimp only at hk hv hlo1 hhi1 ⊢
  refine zQ (zG (zR 1 rfl (zN (zU (zQ ?_)))))
  refine W.condD rfl (fun hc1 => ?_) (fun hc1 => ?_)
  ·try dsimp only at hc1
   have hd := drop_nth (xs := rows) (k := k) (by omega)
   rw [hd, List.map_cons, qGo] at hv
   have hrk := hr _ (nth_mem (xs := rows) (k := k) (by omega))
   have hbk := hb _ (nth_mem (xs := rows) (k := k) (by omega))
   have hrkl := hrk.len
   refine zK (zU (zQ (zB (zQ (zG (zR 1 rfl ?_))))))
   refine WG.y rfl rfl qD (Yl.indexN tab_ok rfl rfl rfl rfl rfl rfl (fun _ => rfl) qN qH) ?_
   refine yR ?_
   refine zR 2 rfl (zN (zU (zQ (zQ (zG (zR 4 rfl ?_))))))
   refine yP ?_
   refine yP ?_
   refine yN ?_
   refine zN (zU ?_)
   refine W.cond rfl (fun hc2 => ?_) (fun hc2 => ?_)
   ·try simp only [zk] at hc2
    rw [if_pos hc2] at hv
    refine zX ?_
    refine wx (zY (zU (zG ?_)))
    refine yA ?_
    refine zR 1 rfl (zN ?_)
    refine WE.again ((k + 1, acc)) (⟨by dsimp only; omega, hv, by dsimp only; omega, by dsimp only; omega⟩) (by (try dsimp only); omega) ⟨rfl, rfl, rfl, rfl, rfl, rfl, rfl, rfl⟩ (RLe.refl _) qS
   ·try simp only [zk] at hc2
    rw [if_neg (show ¬ ((k : Int) ≠ cls ∧ cls ≠ -1) by omega)] at hv
    refine zK (zU (zQ (zQ (zG (zR 4 rfl (zN (zU ?_)))))))
    refine W.condD rfl (fun hc3 => ?_) (fun hc3 => ?_)
    ·try dsimp only at hc3
     rw [if_pos (by omega)] at hv
     refine zQ (zG (zR 2 rfl (zN (zU (zT (wt (wb (wt (wt (wb (wt ?_)))))))))))
     refine sE (E := E) ?_
     refine WE.retF tab_ok [_, _] rfl ⟨rfl, rfl, trivial⟩ (RLe.refl _) ?_
     exact ⟨by rw [hq, ← hv]; rfl, rfl⟩
    ·try dsimp only at hc3
     rw [if_neg (by omega)] at hv
     have hx := hbk _ (nth_mem (xs := (nth rows k).xs) (k := t.toNat) (by omega))
     refine zK (zU (zG (zR 3 rfl ?_)))
     refine WG.y rfl rfl qD (Yl.index tab_ok rfl rfl rfl rfl rfl rfl (fun _ => rfl) qA qH) ?_
     refine yR ?_
     refine yA ?_
     refine zR 1 rfl (zN (zL (zU (zG ?_))))
     refine yA ?_
     refine zR 1 rfl (zN ?_)
     refine WE.again ((k + 1, acc + nth (nth rows k).xs t.toNat)) (⟨by dsimp only; omega, hv, by dsimp only; omega, by dsimp only; omega⟩) (by (try dsimp only); omega) ⟨rfl, rfl, rfl, rfl, rfl, rfl, rfl, rfl⟩ (RLe.refl _) qS
  ·try dsimp only at hc1
   obtain rfl : k = rows.length := by omega
   rw [List.drop_length, List.map_nil, qGo] at hv
   refine zX ?_
   refine wx (wx (zY (zU (zQ (zG (zR 3 rfl ?_))))))
   refine WG.callV en54 rfl rfl qD (CallOp.mk' rfl rfl rfl rfl) (fun _ => rfl) (fun hg => Bytes_V hp hs hl) ?_
   refine zR 1 rfl ?_
   refine yS ?_
   refine zR 3 rfl ?_
   refine yA ?_
   refine WG.callV en54 rfl rfl qD (CallOp.mk' rfl rfl rfl rfl) (fun _ => rfl) (fun hg => Bytes_V hp hs hl) ?_
   refine zR 1 rfl ?_
   refine yS ?_
   refine zR 2 rfl (zN (zU (zT ?_)))
   refine sE (E := E) ?_
   refine WE.retF tab_ok [_, _] rfl ⟨rfl, rfl, trivial⟩ (RLe.refl _) ?_
   exact ⟨by rw [hq, ← hv]; rfl, rfl⟩

theorem Same02_V {R : Ro} {a b : Option Addr} {ca cb : Nat} {xs ys : List Int} {p1 i1 p2 i2 : Int} (ha : RS R 1 encI a xs) (hb : RS R 1 encI b ys) :
  FnV Tryz.prog 39 [.agg #[.slice a xs.length ca, .int .i64 p1, .int .i64 i1], .agg #[.slice b ys.length cb, .int .i64 p2, .int .i64 i2]] R (.bool (decide (xs = ys ∧ p1 = p2 ∧ i1 = i2))) := by
 have hla := ha.len
 have hlb := hb.len
 refine Fn.toV (fun w0 E => ?_)
 refine fE 45 Tryz.func39 ?_
 refine zQ (zG ?_)
 refine zO fun b2 => ?_
 refine zO fun b3 => ?_
 refine zR 1 rfl (zN (zU (zQ (zQ (zG (zR 1 rfl ?_))))))
 refine yL (Rd.add (Rd.blk 1 rfl) _) ?_
 refine zR 2 rfl ?_
 refine yL (Rd.add (Rd.blk 0 rfl) _) ?_
 refine zR 3 rfl ?_
 refine yP ?_
 refine yG (Rd.addC (Rd.blkC 1 rfl) _) ?_
 refine yP ?_
 refine yG (Rd.addC (Rd.blkC 0 rfl) _) ?_
 refine yP ?_
 refine yO ?_
 refine zR 1 rfl ?_
 refine yP ?_
 refine yG (Rd.addC (Rd.blkC 1 rfl) _) ?_
 refine yP ?_
 refine yG (Rd.addC (Rd.blkC 0 rfl) _) ?_
 refine yP ?_
 refine yO ?_
 refine zN (zU ?_)
 refine W.cond rfl (fun hc0 => ?_) (fun hc0 => ?_)
 ·try simp only [zk] at hc0
  refine zQ (zG (zR 1 rfl (zN (zU (zT (wt ?_))))))
  refine sE (E := E) ?_
  refine WE.retF tab_ok [_] rfl ⟨rfl, trivial⟩ (RLe.refl _) ?_
  exact ⟨congrArg Value.bool (decide_eq_false (by rintro ⟨rfl, rfl, rfl⟩; simp at hc0)).symm, rfl⟩
 ·try simp only [zk] at hc0
  refine zK (zU (zQ (zQ (zG (zR 1 rfl (zN (zU (zB ?_))))))))
  refine W.loop (β := Nat) (fun k => k ≤ xs.length ∧ ∀ j, j < k → nth xs j = nth ys j) (fun k => [(2, true, .pointer (some ⟨b2, 0, none⟩)), (3, true, .pointer (some ⟨b3, 0, none⟩)), (5, true, .int .i64 (k : Int))]) (fun _ => R) (fun _ => .blk b3 [.slice b ys.length cb, .int .i64 p2, .int .i64 i2] :: .blk b2 [.slice a xs.length ca, .int .i64 p1, .int .i64 i1] :: E) (fun k => xs.length - k) (0) (⟨Nat.zero_le _, fun j hj => by omega⟩) ⟨rfl, rfl, rfl, rfl⟩ (RLe.refl _) qS ?_
  intro st hst
  obtain ⟨hk, hpre⟩ := hst
  refine zQ (zQ (zG (zR 2 rfl ?_)))
  refine yL (Rd.add (Rd.blk 1 rfl) _) ?_
  refine zR 2 rfl (zN (zU ?_))
  refine W.condD rfl (fun hc1 => ?_) (fun hc1 => ?_)
  ·try dsimp only at hc1
   refine zK (zU (zQ (zB (zQ ?_))))
   refine W.regionQ _ mixed qK ?_
   refine zR 1 rfl ?_
   refine yL (Rd.add (Rd.blk 1 rfl) _) ?_
   refine zR 1 rfl ?_
   refine WG.y rfl rfl qD (Yl.indexN tab_ok rfl rfl rfl rfl rfl rfl (fun _ => rfl) qN qH) ?_
   refine yR ?_
   refine zR 1 rfl ?_
   refine yL (Rd.add (Rd.blk 0 rfl) _) ?_
   refine zR 1 rfl ?_
   refine WG.y rfl rfl qD (Yl.indexN tab_ok rfl rfl rfl rfl rfl rfl (fun _ => rfl) qN qH) ?_
   refine yR ?_
   refine zR 1 rfl (zN (zU ?_))
   refine W.condN rfl (fun hc2 => ?_) (fun hc2 => ?_)
   ·try dsimp only at hc2
    refine zQ (zG (zR 1 rfl (zN (zU (zT (wb (wt (wt (wb (wt ?_))))))))))
    refine sE (E := E) ?_
    refine WE.retF tab_ok [_] rfl ⟨rfl, trivial⟩ (RLe.refl _) ?_
    exact ⟨congrArg Value.bool (decide_eq_false (by rintro ⟨rfl, _⟩; exact hc2 rfl)).symm, rfl⟩
   ·try dsimp only at hc2
    refine zK (zL (zU (zG (zR 1 rfl ?_))))
    refine yA ?_
    refine zR 1 rfl (zN ?_)
    refine WE.again (st + 1) (⟨by omega, fun j hj => by
     by_cases h : j = st
     ·subst h; exact hc2
     ·exact hpre j (by omega)⟩) (by (try dsimp only); omega) ⟨rfl, rfl, rfl, rfl⟩ (RLe.refl _) qS
  ·try dsimp only at hc1
   refine zX ?_
   refine wx (wx (zY (zU (zQ (zG (zR 1 rfl (zN (zU (zT ?_)))))))))
   refine sE (E := E) ?_
   refine WE.retF tab_ok [_] rfl ⟨rfl, trivial⟩ (RLe.refl _) ?_
   exact ⟨congrArg Value.bool (decide_eq_true ⟨nth_ext qO (fun i hi => hpre i qO), by omega, by omega⟩).symm, rfl⟩











theorem LRun_err {R : Ro} {pa : Option Addr} {pc : Nat} {ps : List Pkt} (hp : RS R 3 encP pa ps) {cap classes ticks : Int} (w0 : World) (hbad : lrunE cap classes ticks ps ≠ 0) (E : List Ent) :
  K.Fn Tryz.prog 189 [.int .i64 cap, .int .i64 classes, .slice pa ps.length pc, .int .i64 ticks] w0 R E (fun v R' E' => v = .tuple #[.agg #[.slice none 0 0, .slice none 0 0], .int .i64 (lrunE cap classes ticks ps)] ∧ R = R' ∧ E.Sublist E') := by
 have hla := hp.len
 refine fE 32 Tryz.func189 ?_
 refine zQ (zG ?_)
 refine zA fun b8 => ?_
 refine zR 1 rfl (zN (zU (zQ (zQ (zG (zR 1 rfl ?_))))))
 refine WG.callV en79 rfl rfl qD (CallOp.mk' rfl rfl rfl rfl) (fun _ => rfl) (fun hg => Validate_V hp) ?_
 refine zR 1 rfl (zN (zU (zQ (zG (zR 2 rfl (zN (zU ?_)))))))
 refine W.condN rfl (fun hc0 => ?_) (fun hc0 => ?_)
 ·try dsimp only at hc0
  have e : lrunE cap classes ticks ps = validate ps := if_pos hc0
  refine zQ (zG ?_)
  -- build
  refine WG.y rfl rfl qD (Yl.build (parts := []) tab_ok rfl rfl rfl rfl (fun _ => rfl) rfl rfl) ?_
  refine zR 1 rfl ?_
  refine zE 0 ?_
  refine zR 1 rfl (zN (zU (zT (wt ?_))))
  refine WE.retF tab_ok [_, _] rfl ⟨⟨_, _, _, rfl, rfl, rfl, qB, rfl⟩, rfl, trivial⟩ (RLe.refl _) ?_
  exact ⟨by rw [e]; rfl, rfl, qS⟩
 ·try dsimp only at hc0
  have e : lrunE cap classes ticks ps = checkE cap classes ticks ps := if_neg (fun h => h hc0)
  refine zK (zU (zQ (zQ (zG (zR 4 rfl ?_)))))
  refine WG.callV en190 rfl rfl qD (CallOp.mk' rfl rfl rfl rfl) (fun _ => rfl) (fun hg => Check_V hp) ?_
  refine zR 1 rfl (zN (zU (zQ (zG (zR 2 rfl (zN (zU ?_)))))))
  refine W.condN rfl (fun hc1 => ?_) (fun hc1 => ?_)
  ·try dsimp only at hc1
   refine zQ (zG ?_)
   -- build
   refine WG.y rfl rfl qD (Yl.build (parts := []) tab_ok rfl rfl rfl rfl (fun _ => rfl) rfl rfl) ?_
   refine zR 1 rfl ?_
   refine zE 0 ?_
   refine zR 1 rfl (zN (zU (zT (wt ?_))))
   refine WE.retF tab_ok [_, _] rfl ⟨⟨_, _, _, rfl, rfl, rfl, qB, rfl⟩, rfl, trivial⟩ (RLe.refl _) ?_
   exact ⟨by rw [e]; rfl, rfl, qS⟩
  ·try dsimp only at hc1
   exact absurd (e.trans hc1) hbad









theorem Next_C {R : Ro} {sb : Nat} {pa : Option Addr} {pc bg : Nat} {ps : List Pkt} {ms : MS} (w0 : World) (hp : RS R 3 encP pa ps) (hb : ms.begun.length = ps.length) (hgd : goodB ps ms) (hsort : ps.Pairwise fun a b => a.time ≤ b.time) (cls : Int) (F : List Ent) :
  K.Fn Tryz.prog 201 [.pointer (some ⟨sb, 0, none⟩), .int .i64 cls] w0 R (stE sb pa ps.length pc bg ms :: .sl 4 1 (some ⟨bg, 0, none⟩) ps.length (ms.begun.map encB) :: F) (fun v R' E' => v = .int .i64 (nextW ps ms cls) ∧ R = R' ∧ E' = stE sb pa ps.length pc bg { ms with before := skipTo ms.begun ms.before } :: .sl 4 1 (some ⟨bg, 0, none⟩) ps.length (ms.begun.map encB) :: F) := by
 have hla := hp.len
 have hsk := hgd.skip hb
 have hfl := firstR_lt ps ms
 refine fE 54 Tryz.func201 ?_
 refine zQ (zG (zR 1 rfl (zN (zU (zQ (zQ (zG (zR 1 rfl ?_))))))))
 refine WL.call en192 rfl rfl qD (CallOp.mkT rfl rfl rfl rfl) (First_C w0 hp hb hgd.1 _) ?_
 rintro _ _ _ - ⟨rfl, rfl, rfl⟩
 refine zR 2 rfl (zN (zU (zB ?_)))
 refine W.loop (β := Nat) (fun i => i ≤ ps.length ∧ ∀ j, j < i → nextP ps ms cls j = false) (fun i => [(0, true, .pointer (some ⟨sb, 0, none⟩)), (1, true, .int .i64 cls), (5, true, .int .i64 (i : Int))]) (fun _ => R) (fun _ => stE sb pa ps.length pc bg { ms with before := skipTo ms.begun ms.before } :: .sl 4 1 (some ⟨bg, 0, none⟩) ps.length (ms.begun.map encB) :: F) (fun i => ps.length - i) ((if 0 < firstR ps ms then firstR ps ms else 0).toNat) (⟨by split <;> omega, fun j hj => by
  have h1 : 0 < firstR ps ms := by
   apply Classical.byContradiction
   intro h; rw [if_neg h] at hj; simp at hj
  rw [if_pos h1] at hj
  have h2 := (firstR_some hgd hb (by omega)).2.2.2 j hj
  unfold nextP; rw [h2]; simp⟩) ⟨rfl, rfl, vint (by split <;> omega), rfl⟩ (RLe.refl _) qS ?_
 intro i hst
 obtain ⟨hi, hno⟩ := hst
 refine zQ (zQ ?_)
 refine W.regionQ _ mixed qK ?_
 refine zR 4 rfl ?_
 refine yL (Rd.add (Rd.blk 0 rfl) _) ?_
 refine zR 3 rfl ?_
 refine yP ?_
 refine yP ?_
 refine yP ?_
 refine yG (Rd.addC (Rd.blkC 0 rfl) _) ?_
 refine yP ?_
 refine WG.y rfl rfl (by decide) (Yl.indexN tab_ok rfl rfl rfl rfl rfl rfl qE (by intro hg; (try simp only [zk] at hg); (try dsimp only) <;> omega) (by intro hg; (try simp only [zk] at hg); first | exact qI)) ?_
 refine yP ?_
 refine' WG.y rfl rfl qD (Yl.loadG tab_ok rfl rfl rfl qE ?r3 rfl ?h3 ?g3) ?_
 case r3 => apply Rd.addC; ((apply RS.rdC; assumption))
 case h3 => rfl
 case g3 => (intro hg; (try simp only [zk] at hg); (try dsimp only); omega)
 refine yP ?_
 refine yP ?_
 refine yP ?_
 refine yG (Rd.addC (Rd.blkC 0 rfl) _) ?_
 refine yP ?_
 refine yN ?_
 refine zN (zU ?_)
 refine W.cond rfl (fun hc0 => ?_) (fun hc0 => ?_)
 ·try simp only [zk] at hc0
  obtain ⟨hc1, hc2⟩ := hc0
  have hil : i < ps.length := by omega
  refine zK (zU (zQ (zB (zQ (zG (zR 3 rfl ?_))))))
  refine yL (Rd.add (Rd.blk 0 rfl) _) ?_
  refine zR 1 rfl ?_
  refine WG.y rfl rfl qD (Yl.indexN tab_ok rfl rfl rfl rfl rfl rfl (fun _ => rfl) qN qH) ?_
  refine' WG.y rfl rfl qD (Yl.load1 tab_ok rfl rfl rfl (fun _ => rfl) ?r6 rfl ?h6) ?_
  case r6 => (exact Rd.slD 1 rfl qX)
  case h6 => rfl
  refine zR 2 rfl ?_
  refine yP ?_
  refine yP ?_
  refine yP ?_
  refine yG (Rd.addC (Rd.blkC 0 rfl) _) ?_
  refine yP ?_
  refine WG.y rfl rfl (by decide) (Yl.indexN tab_ok rfl rfl rfl rfl rfl rfl qE (by intro hg; (try simp only [zk] at hg); (try dsimp only) <;> omega) (by intro hg; (try simp only [zk] at hg); first | exact qI)) ?_
  refine yP ?_
  refine' WG.y rfl rfl qD (Yl.loadG tab_ok rfl rfl rfl qE ?r8 rfl ?h8 ?g8) ?_
  case r8 => apply Rd.addC; ((apply RS.rdC; assumption))
  case h8 => rfl
  case g8 => (intro hg; (try simp only [zk] at hg); (try dsimp only); omega)
  refine yP ?_
  refine yP ?_
  refine yN ?_
  refine zN (zU ?_)
  refine W.cond rfl (fun hc1 => ?_) (fun hc1 => ?_)
  ·try simp only [zk] at hc1
   have hP : nextP ps ms cls i = true := nextP_iff.2 ⟨hc2, by simpa using hc1.1, hc1.2⟩
   refine zQ (zG (zR 2 rfl (zN (zU (zT (wb (wt (wt (wb (wt ?_))))))))))
   refine WE.retF tab_ok [_] rfl ⟨rfl, trivial⟩ (RLe.refl _) ?_
   exact ⟨by rw [show nextW ps ms cls = (i : Int) from findN_some hil hP hno]; rfl, rfl, rfl⟩
  ·try simp only [zk] at hc1
   have hP : nextP ps ms cls i = false := by
    rw [← Bool.not_eq_true]
    intro h
    obtain ⟨h1, h2, h3⟩ := nextP_iff.1 h
    simp [h2, h3] at hc1
   refine zK (zL (zU (zG (zR 1 rfl ?_))))
   refine yA ?_
   refine zR 1 rfl (zN ?_)
   refine WE.again (i + 1) (⟨by omega, fun j hj => by
    by_cases e : j = i
    ·subst e; exact hP
    ·exact hno j (by omega)⟩) (by (try dsimp only); omega) ⟨rfl, rfl, rfl, rfl⟩ (RLe.refl _) qS
 ·try simp only [zk] at hc0
  have hnone : nextW ps ms cls = -1 := findN_none (fun j hj => by
   by_cases hji : j < i
   ·exact hno j hji
   ·by_cases hil : i < ps.length
    ·have h1 := hc0 (by omega)
     have h2 : (nth ps i).time ≤ (nth ps j).time := by
      by_cases e : i = j
      ·subst e; exact Int.le_refl _
      ·have := List.pairwise_iff_getElem.1 hsort i j hil hj (by omega)
       rw [nth_eq hil, nth_eq hj]; exact this
     unfold nextP
     rw [decide_eq_false (by omega)]; simp
    ·omega)
  refine zX ?_
  refine wx (wx (zY (zU (zQ (zG (zR 1 rfl (zN (zU (zT ?_)))))))))
  refine WE.retF tab_ok [_] rfl ⟨rfl, trivial⟩ (RLe.refl _) ?_
  exact ⟨by rw [hnone]; rfl, rfl, rfl⟩

theorem Weighed19_V {R : Ro} {a : Option Addr} {c : Nat} {w : List Int} (ha : RS R 1 encI a w) : FnV Tryz.prog 221 [.slice a w.length c] R (.bool (okW 20 w)) := by
 have hla := ha.len
 refine Fn.toV (fun w0 E => ?_)
 refine fE 18 Tryz.func221 ?_
 refine zQ (zG (zR 1 rfl (zN (zU (zQ (zQ (zG (zR 3 rfl (zN (zU (zB ?_)))))))))))
 refine W.loopK (β := Nat) (fun k => k ≤ w.length ∧ ∀ j, j < k → 1 ≤ nth w j ∧ nth w j ≤ 20) (fun k => [(7, true, .int .i64 (k : Int))]) [5, 6] [_, _] [] _ rfl (fun k => []) (fun k => w.length - k) (0) (⟨Nat.zero_le _, fun j hj => by omega⟩) ⟨rfl, rfl, rfl, rfl⟩ qS ?_
 intro k hst
 dsimp only [zipE, setAll, List.cons_append, List.nil_append, List.set_cons_zero, List.set_cons_succ] at hst ⊢
 
 refine zQ (zG (zR 1 rfl (zN (zU (zQ ?_)))))
 refine W.condD rfl (fun hc0 => ?_) (fun hc0 => ?_)
 ·try dsimp only at hc0
  refine zK (zU (zQ (zB (zQ (zG ?_)))))
  refine WG.y rfl rfl qD (Yl.indexN tab_ok rfl rfl rfl rfl rfl rfl (fun _ => rfl) qN qH) ?_
  refine yR ?_
  refine zR 1 rfl (zN (zU (zQ (zG (zR 3 rfl ?_)))))
  refine yP ?_
  refine yP ?_
  refine yO ?_
  refine zN (zU ?_)
  refine W.cond rfl (fun hc1 => ?_) (fun hc1 => ?_)
  ·try simp only [zk] at hc1
   have hkl : k < w.length := by omega
   refine zQ (zG (zR 1 rfl (zN (zU (zT (wb (wt (wt (wb (wt ?_))))))))))
   refine sE (E := E) ?_
   refine WE.retF tab_ok [_] rfl ⟨rfl, trivial⟩ (RLe.refl _) ?_
   refine ⟨congrArg Value.bool ?_, rfl⟩
   symm
   rw [← Bool.not_eq_true]
   intro h
   have := okW_iff.1 h _ (nth_mem hkl)
   omega
  ·try simp only [zk] at hc1
   refine zK (zL (zU (zG ?_)))
   refine yA ?_
   refine zR 1 rfl (zN ?_)
   refine WE.again (k + 1) (⟨by omega, fun j hj => by
    by_cases e : j = k
    ·subst e; omega
    ·exact hst.2 j (by omega)⟩) (by (try dsimp only); omega) ⟨rfl, rfl, rfl, rfl⟩ (RLe.refl _) qS
 ·try dsimp only at hc0
  refine zX ?_
  refine wx (wx (zY (zU (zQ (zG (zR 1 rfl (zN (zU (zT ?_)))))))))
  refine sE (E := E) ?_
  refine WE.retF tab_ok [_] rfl ⟨rfl, trivial⟩ (RLe.refl _) ?_
  refine ⟨congrArg Value.bool ?_, rfl⟩
  symm
  exact okW_iff.2 (all_of_nth (fun j hj => hst.2 j qO))

theorem Rob1_C {b12 b13 b5 : Nat} {R : Ro} {sb : Nat} {pa : Option Addr} {pc bg : Nat} {ps : List Pkt} {ms : MS} (w0 : World) (hp : RS R 3 encP pa ps) (hb : ms.begun.length = ps.length) (hsort : ps.Pairwise fun a b => a.time ≤ b.time) {wa : Option Addr} {wc : Nat} {w : List Int} (hwr : RS R 1 encI wa w) (hw : ∀ x ∈ w, 1 ≤ x ∧ x ≤ 20) (hn : 0 < w.length) (hfl : ∀ p ∈ ps, 0 ≤ p.flow ∧ p.flow < w.length) {s : Nat × Int} (hg : goodRb ps w.length ms s) (F : List Ent) :
  K.Fn Tryz.prog 222 [.pointer (some ⟨sb, 0, none⟩), .pointer (some ⟨b12, 0, none⟩), .pointer (some ⟨b13, 0, none⟩), .pointer (some ⟨b5, 0, none⟩)] w0 R (stE sb pa ps.length pc bg ms :: .sl 4 1 (some ⟨bg, 0, none⟩) ps.length (ms.begun.map encB) :: ([.blk b12 [.int .i64 (s.1 : Int)], .blk b13 [.int .i64 s.2], .blk b5 [.slice wa w.length wc]] ++ F)) (fun v R' E' => v = .int .i64 (robinCh ps w ms s).1 ∧ R = R' ∧ E' = stE sb pa ps.length pc bg { ms with before := (robinCh ps w ms s).2.1 } :: .sl 4 1 (some ⟨bg, 0, none⟩) ps.length (ms.begun.map encB) :: ([.blk b12 [.int .i64 ((robinCh ps w ms s).2.2.1 : Int)], .blk b13 [.int .i64 (robinCh ps w ms s).2.2.2], .blk b5 [.slice wa w.length wc]] ++ F)) := by
 have hlw := hwr.len
 obtain ⟨hgd, hgc, hgl0, hgl1⟩ := hg
 have hg1 : goodB ps { ms with before := skipTo ms.begun ms.before } := goodB_skip hgd hb
 have hsk0 : skipTo ms.begun (skipTo ms.begun ms.before) = skipTo ms.begun ms.before := by
  by_cases h : skipTo ms.begun ms.before < ms.begun.length
  ·exact skipTo_false h (skipTo_stop' h)
  ·exact skipTo_end (by omega)
 refine fE 31 Tryz.func222 ?_
 refine zQ (zG (zR 1 rfl (zN (zU (zQ (zQ (zG (zR 1 rfl ?_))))))))
 refine WL.call en192 rfl rfl qD (CallOp.mkT rfl rfl rfl rfl) (First_C w0 hp hb hgd.1 _) ?_
 rintro _ _ _ - ⟨rfl, rfl, rfl⟩
 refine zR 1 rfl (zN (zU ?_))
 refine W.condD rfl (fun hc0 => ?_) (fun hc0 => ?_)
 ·try dsimp only at hc0
  have hch : robinCh ps w ms s = (-1, skipTo ms.begun ms.before, s) := by unfold robinCh; rw [if_pos hc0]
  refine zQ (zG (zR 1 rfl (zN (zU (zT (wt ?_))))))
  refine WE.retF tab_ok [_] rfl ⟨rfl, trivial⟩ (RLe.refl _) ?_
  exact ⟨by rw [hch]; rfl, rfl, by rw [hch]; try rfl⟩
 ·try dsimp only at hc0
  have hsoon := robin_soon hn hfl ⟨hgd, hgc, hgl0, hgl1⟩ hb hc0
  have hch : robinCh ps w ms s = ((robinGo (nextW ps ms) w (w.length + 1) s.1 s.2).1, skipTo ms.begun ms.before, (robinGo (nextW ps ms) w (w.length + 1) s.1 s.2).2) := by unfold robinCh; rw [if_neg hc0]
  refine zK (zU (zB ?_))
  refine W.loop (β := Nat × Nat × Int) (fun (k, c, l) => robinGo (nextW ps ms) w k c l = robinGo (nextW ps ms) w (w.length + 1) s.1 s.2 ∧ Soon (nextW ps ms) w.length k c l ∧ c < w.length ∧ 0 ≤ l ∧ l ≤ 20) (fun (k, c, l) => [(0, true, .pointer (some ⟨sb, 0, none⟩)), (1, true, .pointer (some ⟨b12, 0, none⟩)), (2, true, .pointer (some ⟨b13, 0, none⟩)), (3, true, .pointer (some ⟨b5, 0, none⟩))]) (fun _ => R) (fun (k, c, l) => stE sb pa ps.length pc bg { ms with before := skipTo ms.begun ms.before } :: .sl 4 1 (some ⟨bg, 0, none⟩) ps.length (ms.begun.map encB) :: .blk b12 [.int .i64 (c : Int)] :: .blk b13 [.int .i64 l] :: .blk b5 [.slice wa w.length wc] :: F) (fun (k, c, l) => k) ((w.length + 1, s.1, s.2)) (⟨rfl, hsoon, hgc, hgl0, hgl1⟩) ⟨rfl, rfl, rfl, rfl, rfl⟩ (RLe.refl _) qS ?_
  intro st hst
  obtain ⟨k, c, l⟩ := st
  obtain ⟨h1, h2, h3, h4, h5⟩ := hst
  dsimp only at h1 h2 h3 h4 h5 ⊢
  refine zB (zQ (zQ (zG (zR 1 rfl ?_))))
  refine yL (Rd.blk 2 rfl) ?_
  refine WL.call en201 rfl rfl qD (CallOp.mkT rfl rfl rfl rfl) (Next_C (ms := { ms with before := skipTo ms.begun ms.before }) w0 hp hb hg1 hsort _ _) ?_
  rintro _ _ _ - ⟨rfl, rfl, rfl⟩
  dsimp only
  rw [hsk0]
  refine zR 1 rfl (zN (zU (zQ (zG (zR 3 rfl ?_)))))
  refine yG (Rd.blkC 3 rfl) ?_
  refine yP ?_
  refine yN ?_
  refine zN (zU ?_)
  refine W.cond rfl (fun hc1 => ?_) (fun hc1 => ?_)
  ·try simp only [zk] at hc1
   have hc1 : 0 ≤ nextW ps ms c ∧ 0 < l := hc1
   have hgo : robinGo (nextW ps ms) w (w.length + 1) s.1 s.2 = (nextW ps ms c, (c, l - 1)) := by
    rw [← h1]
    obtain ⟨k, rfl⟩ : ∃ m, k = m + 1 := ⟨k - 1, by obtain ⟨j, hj, _⟩ := h2; omega⟩
    rw [robinGo, if_pos hc1]
   rw [hgo] at hch
   refine zQ (zG ?_)
   refine yL (Rd.blk 3 rfl) ?_
   refine yS ?_
   refine zE 3 ?_
   refine zN (zU (zQ (zG (zR 2 rfl (zN (zU (zT (wt (wb (wt (wb ?_)))))))))))
   refine WE.retF tab_ok [_] rfl ⟨rfl, trivial⟩ (RLe.refl _) ?_
   exact ⟨by rw [hch]; rfl, rfl, by rw [hch]; try rfl⟩
  ·try simp only [zk] at hc1
   obtain ⟨k, rfl⟩ : ∃ m, k = m + 1 := ⟨k - 1, by obtain ⟨j, hj, _⟩ := h2; omega⟩
   have hno : ¬ (0 ≤ nextW ps ms c ∧ 0 < l) := by rintro ⟨x1, x2⟩; have := hc1 x1; omega
   rw [robinGo, if_neg hno] at h1
   have h2 := h2.step (fun x hx => (hw x hx).1) hn h3 hno
   have hce : ((c : Int) + 1) % (w.length : Int) = (((c + 1) % w.length : Nat) : Int) := rfl
   have hcl : (c + 1) % w.length < w.length := Nat.mod_lt _ hn
   have hwc := hw _ (nth_mem hcl)
   refine zK (zU (zQ (zG ?_)))
   refine yL (Rd.blk 2 rfl) ?_
   refine yA ?_
   refine yL (Rd.blk 4 rfl) ?_
   refine zR 1 rfl ?_
   refine WG.y rfl rfl qD (Yl.rem rfl rfl rfl (fun _ => rfl) qN qN) ?_
   refine zE 2 ?_
   rw [hce]
   refine zN (zU (zG ?_))
   refine yL (Rd.blk 4 rfl) ?_
   refine yL (Rd.blk 2 rfl) ?_
   refine WG.y rfl rfl qD (Yl.indexN tab_ok rfl rfl rfl rfl rfl rfl (fun _ => rfl) qN qH) ?_
   refine yR ?_
   refine zE 3 ?_
   refine zN (zL ?_)
   refine WE.again ((k, (c + 1) % w.length, nth w ((c + 1) % w.length))) (⟨h1, h2, hcl, by dsimp only; omega, by dsimp only; omega⟩) (by dsimp only; omega) ⟨rfl, rfl, rfl, rfl, rfl⟩ (RLe.refl _) qS



theorem perm4a {α : Type} {a b c d : α} {l : List α} : (a :: b :: d :: c :: l).Perm (a :: b :: c :: d :: l) := ((List.Perm.swap c d l).cons b).cons a
theorem perm4b {α : Type} {a b c d : α} {l : List α} : (b :: a :: d :: c :: l).Perm (a :: b :: c :: d :: l) := (List.Perm.swap a b _).trans perm4a

theorem Robin_err {R : Ro} {pa wa : Option Addr} {pc wc : Nat} {ps : List Pkt} {w : List Int} (hp : RS R 3 encP pa ps) (hwr : RS R 1 encI wa w) {cap ticks : Int} (w0 : World) (hbad : wrunE 20 cap ticks w ps ≠ 0) (E : List Ent) :
  K.Fn Tryz.prog 212 [.int .i64 cap, .slice wa w.length wc, .slice pa ps.length pc, .int .i64 ticks] w0 R E (fun v R' E' => v = .tuple #[.agg #[.slice none 0 0, .slice none 0 0], .int .i64 (wrunE 20 cap ticks w ps)] ∧ R = R' ∧ E.Sublist E') := by
 have hla := hp.len
 have hlw := hwr.len
 refine fE 44 Tryz.func212 ?_
 refine zQ (zG ?_)
 refine zO fun b5 => ?_
 refine zA fun b8 => ?_
 refine zR 1 rfl (zN (zU (zQ (zQ (zG (zR 1 rfl ?_))))))
 refine WG.callV en79 rfl rfl qD (CallOp.mk' rfl rfl rfl rfl) (fun _ => rfl) (fun hg => Validate_V hp) ?_
 refine zR 1 rfl (zN (zU (zQ (zG (zR 2 rfl (zN (zU ?_)))))))
 refine W.condN rfl (fun hc0 => ?_) (fun hc0 => ?_)
 ·try dsimp only at hc0
  have e : wrunE 20 cap ticks w ps = validate ps := by unfold wrunE lrunE; rw [if_pos hc0, if_pos hc0]
  refine zQ (zG ?_)
  -- build
  refine WG.y rfl rfl qD (Yl.build (parts := []) tab_ok rfl rfl rfl rfl (fun _ => rfl) rfl rfl) ?_
  refine zR 1 rfl ?_
  refine zE 0 ?_
  refine zR 1 rfl (zN (zU (zT (wt ?_))))
  refine WE.retF tab_ok [_, _] rfl ⟨⟨_, _, _, rfl, rfl, rfl, qB, rfl⟩, rfl, trivial⟩ (RLe.refl _) ?_
  exact ⟨by rw [e]; rfl, rfl, qS⟩
 ·try dsimp only at hc0
  have hl0 : lrunE cap w.length ticks ps = checkE cap w.length ticks ps := if_neg (fun h => h hc0)
  refine zK (zU (zQ (zQ (zG (zR 1 rfl ?_)))))
  refine yL (Rd.blk 1 rfl) ?_
  refine zR 3 rfl ?_
  refine WG.callV en190 rfl rfl qD (CallOp.mk' rfl rfl rfl rfl) (fun _ => rfl) (fun hg => Check_V hp) ?_
  refine zR 1 rfl (zN (zU (zQ (zG (zR 2 rfl (zN (zU ?_)))))))
  refine W.condN rfl (fun hc1 => ?_) (fun hc1 => ?_)
  ·try dsimp only at hc1
   have e : wrunE 20 cap ticks w ps = checkE cap w.length ticks ps := by unfold wrunE; rw [if_pos (by rw [hl0]; exact hc1), hl0]
   refine zQ (zG ?_)
   -- build
   refine WG.y rfl rfl qD (Yl.build (parts := []) tab_ok rfl rfl rfl rfl (fun _ => rfl) rfl rfl) ?_
   refine zR 1 rfl ?_
   refine zE 0 ?_
   refine zR 1 rfl (zN (zU (zT (wt ?_))))
   refine WE.retF tab_ok [_, _] rfl ⟨⟨_, _, _, rfl, rfl, rfl, qB, rfl⟩, rfl, trivial⟩ (RLe.refl _) ?_
   exact ⟨by rw [e]; rfl, rfl, qS⟩
  ·try dsimp only at hc1
   refine zK (zU (zQ (zQ (zG ?_))))
   refine yL (Rd.blk 1 rfl) ?_
   refine WG.callV en221 rfl rfl qD (CallOp.mk' rfl rfl rfl rfl) (fun _ => rfl) (fun hg => Weighed19_V hwr) ?_
   refine zR 1 rfl (zN (zU ?_))
   refine W.cond rfl (fun hc2 => ?_) (fun hc2 => ?_)
   ·try simp only [zk] at hc2
    have e : wrunE 20 cap ticks w ps = 2 := by unfold wrunE; rw [if_neg (fun h => h (hl0.trans hc1)), if_neg (by simp [hc2])]
    refine zQ (zG ?_)
    -- build
    refine WG.y rfl rfl qD (Yl.build (parts := []) tab_ok rfl rfl rfl rfl (fun _ => rfl) rfl rfl) ?_
    refine zE 0 ?_
    refine zR 1 rfl (zN (zU (zT (wt ?_))))
    refine WE.retF tab_ok [_, _] rfl ⟨⟨_, _, _, rfl, rfl, rfl, qB, rfl⟩, rfl, trivial⟩ (RLe.refl _) ?_
    exact ⟨by rw [e]; rfl, rfl, qS⟩
   ·try simp only [zk] at hc2
    exact absurd (by unfold wrunE; rw [if_neg (fun h => h (hl0.trans hc1)), if_pos (by simpa using hc2)]) hbad

theorem Robin_ok {R : Ro} {pa wa : Option Addr} {pc wc : Nat} {ps : List Pkt} {w : List Int} (hp : RS R 3 encP pa ps) (hwr : RS R 1 encI wa w) {cap : Int} {ticks : Nat} (w0 : World) (hok0 : wrunE 20 cap ticks w ps = 0) (E : List Ent) :
  K.Fn Tryz.prog 212 [.int .i64 cap, .slice wa w.length wc, .slice pa ps.length pc, .int .i64 ticks] w0 R E
   (fun v R' E' => ∃ (rows : List Sl) (gd go : Nat) (s : M.RS (Nat × Int)), s = mrun ps (robinCh ps w) cap w.length ticks (0, nth w 0) ∧ v = .tuple #[.agg #[.slice (some ⟨gd, 0, none⟩) ps.length ps.length, .slice (some ⟨go, 0, none⟩) w.length w.length], .int .i64 0] ∧ R = R' ∧ rows.map Sl.xs = s.sent ∧ (∀ r ∈ rows, r.a.isSome = true) ∧ Inv ps w.length (goodRb ps w.length) (ticks + 1) (ticks * cap) s ∧
    (.sl 3 1 (some ⟨gd, 0, none⟩) ps.length (s.done.map encI) :: .sl 22 1 (some ⟨go, 0, none⟩) w.length (rows.map encS) :: (rows.map (rowE 3) ++ E)).Sublist E') := by
 obtain ⟨hl0, hkw⟩ := wrunE_ok hok0
 have hw := okW_iff.1 hkw
 obtain ⟨hok, hvv, hck, c1, c2, c3, c4, c5, c6, hs, hf⟩ := lrunE_ok hl0
 have hlw := hwr.len
 have hla := hp.len
 refine fE 44 Tryz.func212 ?_
 refine zQ (zG ?_)
 refine zO fun b5 => ?_
 refine zA fun b8 => ?_
 refine zR 1 rfl (zN (zU (zQ (zQ (zG (zR 1 rfl ?_))))))
 refine WG.callV en79 rfl rfl qD (CallOp.mk' rfl rfl rfl rfl) (fun _ => rfl) (fun hg => hvv ▸ Validate_V hp) ?_
 refine zR 1 rfl (zN (zU (zQ (zG (zR 2 rfl (zN (zU ?_)))))))
 refine W.condN rfl (fun hc0 => ?_) (fun hc0 => ?_)
 ·try dsimp only at hc0
  exact absurd rfl hc0
 ·try dsimp only at hc0
  refine zK (zU (zQ (zQ (zG (zR 1 rfl ?_)))))
  refine yL (Rd.blk 1 rfl) ?_
  refine zR 3 rfl ?_
  refine WG.callV en190 rfl rfl qD (CallOp.mk' rfl rfl rfl rfl) (fun _ => rfl) (fun hg => hck ▸ Check_V hp) ?_
  refine zR 1 rfl (zN (zU (zQ (zG (zR 2 rfl (zN (zU ?_)))))))
  refine W.condN rfl (fun hc1 => ?_) (fun hc1 => ?_)
  ·try dsimp only at hc1
   exact absurd rfl hc1
  ·try dsimp only at hc1
   refine zK (zU (zQ (zQ (zG ?_))))
   refine yL (Rd.blk 1 rfl) ?_
   refine WG.callV en221 rfl rfl qD (CallOp.mk' rfl rfl rfl rfl) (fun _ => rfl) (fun hg => hkw ▸ Weighed19_V hwr) ?_
   refine zR 1 rfl (zN (zU ?_))
   refine W.cond rfl (fun hc2 => ?_) (fun hc2 => ?_)
   ·try simp only [zk] at hc2
    simp at hc2
   ·try simp only [zk] at hc2
    refine zK (zU ?_)
    refine W.seqCut (β := Nat × Nat) (fun (b12, b13) => True) (fun (b12, b13) => [(0, true, .int .i64 cap), (2, true, .slice pa ps.length pc), (3, true, .int .i64 ticks), (5, true, .pointer (some ⟨b5, 0, none⟩)), (8, true, .pointer (some ⟨b8, 0, none⟩)), (12, true, .pointer (some ⟨b12, 0, none⟩)), (13, true, .pointer (some ⟨b13, 0, none⟩))]) (fun _ => R) (fun (b12, b13) => .blk b12 [.int .i64 ((0 : Nat) : Int)] :: .blk b13 [.int .i64 (nth w 0)] :: .blk b5 [.slice wa w.length wc] :: .blk b8 [.slice none 0 0, .slice none 0 0] :: E) ?_ ?_
    ·
     intro st hst
     obtain ⟨b12, b13⟩ := st
     dsimp only
     refine zQ (zG (zR 1 rfl ?_))
     refine yL (Rd.blk 2 rfl) ?_
     refine zR 4 rfl ?_
     refine WL.call en191 rfl rfl qD (CallOp.mkT rfl rfl rfl rfl) (MRun_C (pc := pc) (g := 222) (first := #[]) (capd := #[.pointer (some ⟨b12, 0, none⟩), .pointer (some ⟨b13, 0, none⟩), .pointer (some ⟨b5, 0, none⟩)]) (ch := robinCh ps w) (good := goodRb ps w.length) (X := fun s => [.blk b12 [.int .i64 (s.1 : Int)], .blk b13 [.int .i64 s.2], .blk b5 [.slice wa w.length wc]]) (sg := (0, nth w 0)) w0 hp (robin_fair hw qO hf hok.sorted).toGood ⟨by have := hok.len; omega, fun p hp => by have := hs p hp; have := hf p hp; omega⟩ (robin_start hw qO _) qO qO qO en222 (fun sb bg ms sg F hgd hbl _ _ _ _ => Rob1_C w0 hp hbl hok.sorted hwr hw qO hf hgd F) _) ?_
     rintro _ _ E2 - ⟨rows, gd, go, s, hsr, rfl, rfl, h1, h2, h3, hsub⟩
     refine WL.subE hsub ?_
     refine WL.subE (E' := .sl 3 1 (some ⟨gd, 0, none⟩) ps.length (s.done.map encI) :: .sl 22 1 (some ⟨go, 0, none⟩) w.length (rows.map encS) :: (rows.map (rowE 3) ++ (.blk b8 [.slice none 0 0, .slice none 0 0] :: E))) (List.Sublist.cons_cons _ (List.Sublist.cons_cons _ (List.Sublist.append (List.Sublist.refl _) qS))) ?_
     refine WL.perm (List.perm_middle (l₁ := _ :: _ :: rows.map (rowE 3))) ?_
     refine zE 0 ?_
     refine zR 1 rfl (zN (zU (zT ?_)))
     refine WE.retF tab_ok [_, _] rfl ⟨⟨_, _, _, rfl, rfl, rfl, qB, rfl⟩, rfl, trivial⟩ (RLe.refl _) ?_
     exact ⟨rows, gd, go, s, hsr, rfl, rfl, h1, h2, h3, qS⟩
    ·
     refine W.regionH _ (ES := [.blk b5 [.slice wa w.length wc]]) mixed ?_
     refine tL 0 (Rd.blk 0 rfl) ?_
     refine WA.take 1 rfl qK qK qK rfl rfl qD (Yl.index tab_ok rfl rfl rfl rfl rfl rfl (fun _ => rfl) qA qH) qS qR ?_
     refine' WA.take 2 rfl qK qK qK rfl rfl qD (Yl.load1 tab_ok rfl rfl rfl (fun _ => rfl) ?r5 rfl ?h5) qS qR ?_
     case r5 => exact RS.rdD hwr (by show (Int.toNat 0) < _; omega)
     case h5 => rfl
     refine WA.br2 (i := 3) (j := 4) qK ?_ ?_
     ·
      refine WS.eff rfl rfl rfl qD (Ef.alloc tab_ok rfl rfl (fun b12 => ?_))
      refine ⟨qR, qS, ?_⟩
      refine WA.eff 4 rfl qK rfl rfl qD (Ef.alloc tab_ok rfl rfl (fun b13 => ?_))
      refine ⟨qR, qS, ?_⟩
      refine zCE 5 1 ?_
      refine zCE 6 0 ?_
      refine WA.done qK ?_
      refine WE.cutP (b12, b13) trivial ⟨rfl, rfl, rfl, rfl, rfl, rfl, rfl, rfl⟩ (RLe.refl _) (by dsimp only; first | exact perm4a | exact perm4b)
     ·
      refine WS.eff rfl rfl rfl qD (Ef.alloc tab_ok rfl rfl (fun b13 => ?_))
      refine ⟨qR, qS, ?_⟩
      refine WA.eff 3 rfl qK rfl rfl qD (Ef.alloc tab_ok rfl rfl (fun b12 => ?_))
      refine ⟨qR, qS, ?_⟩
      refine zCE 5 0 ?_
      refine zCE 6 1 ?_
      refine WA.done qK ?_
      refine WE.cutP (b12, b13) trivial ⟨rfl, rfl, rfl, rfl, rfl, rfl, rfl, rfl⟩ (RLe.refl _) (by dsimp only; first | exact perm4a | exact perm4b)



end Go.Proofs.YthpblaoehlgpfaaGreat

/- The rules of the walks, over any program: a call that only reads the memory that is owned. No condition. -/
namespace Go.Proofs.YthpblaoehlgpfaaGreat.K
open Go Go.RowKit

/-- a call that hands back this value and leaves this memory as it is -/
def FnE (P : Program) (f : FuncId) (args : List Value) (w0 : World) (R : Ro) (E : List Ent) (v : Value) : Prop :=
  ∀ w, Mem w0 w R E → Calls P f args.toArray w fun e w' => e = .returned v ∧ Mem w0 w' R E
section
variable {P : Program} {ops : List Oper} {Q : Exit → Act → World → Prop} {rest : List Oper} {n : Nat} {env : Env} {w0 : World} {R : Ro} {E : List Ent} {o : Oper} {pc q draw : Bool}
theorem Fn.toE {f : FuncId} {args : List Value} {v : Value} (h : Fn P f args w0 R E (fun v' _ E' => v' = v ∧ E' = E)) : FnE P f args w0 R E v := by
 intro w hm
 refine (h w hm).mono ?_
 rintro e w' ⟨v', R', E', rfl, hR, hm', rfl, rfl⟩
 exact ⟨rfl, hm'.sub hR (List.Sublist.refl _)⟩
theorem WG.callE {v : Value} {d : Nat} {f : FuncId} {vs : List Value} (hf : Enters P f) (hg : gpc ops env o = some pc) (hd : o.dst = some d) (hdn : d < n)
  (hc : CallOp env o.op q f vs) (hq : pc = true → q = true) (hv : pc = true → FnE P f vs w0 R E v)
  (h : WG draw P ops Q rest n ((d, pc, v) :: env) w0 R E) : WG draw P ops Q (o :: rest) n env w0 R E := by
 cases draw with
 | false =>
  intro a w hk hm
  refine wpList_step fun K hK => ?_
  rw [hk.wanted hg]
  have hput := hk.put hdn pc v
  cases pc with
  | true =>
   simp only [if_true, Oper.wp, run_call hk hc (hq rfl) hf, Oper.upon, hd]
   refine (hv rfl w hm).mono ?_
   rintro e w' ⟨rfl, hm'⟩
   exact hK _ _ (h _ _ (by simpa using hput) hm')
  | false =>
   simp only [Bool.false_eq_true, if_false, hd]
   exact hK _ _ (h _ _ (by simpa using hput) hm)
 | true =>
  intro a hk
  refine wpQuiet_step fun K hK => ?_
  rw [hk.wanted hg]
  have hput := hk.put hdn pc v
  cases pc with
  | true =>
   simp only [if_true]
   refine ⟨v, fun w hm => ?_, ?_⟩
   ·unfold Oper.quietAt
    rw [run_call hk hc (hq rfl) hf]
    exact ⟨rfl, hv rfl w hm⟩
   ·rw [hd]; exact hK _ (h _ (by simpa using hput))
  | false =>
   simp only [Bool.false_eq_true, if_false, hd]
   exact hK _ (h _ (by simpa using hput))
end
end Go.Proofs.YthpblaoehlgpfaaGreat.K
namespace Go.Proofs.YthpblaoehlgpfaaGreat.K
open Go Go.RowKit
section
variable {P : Program} {n : Nat} {env : Env} {w0 : World} {R : Ro} {E : List Ent} {o : Oper} {pc p q : Bool}
/-- the quotient as Go has it -/
theorem Yl.tquo {t t' x y} {a b : Int} (ho : o.op = .binOp .quo t x y t') (hx : ev env x = some (p, .int .i64 a)) (hy : ev env y = some (q, .int .i64 b))
  (hpq : pc = true → (p && q) = true) (h0 : pc = true → -4611686018427387904 ≤ a ∧ a ≤ 4611686018427387904) (hb : pc = true → 0 < b) : Yl P n env w0 R E o pc (.int .i64 (a.tdiv b)) := by
 intro ac w hk hm hp
 obtain ⟨h1, h2⟩ := and_both (hpq hp)
 have hb := hb hp
 have h0 := h0 hp
 have e2 : (a.tdiv b).natAbs ≤ a.natAbs := by rw [Int.natAbs_tdiv]; exact Nat.div_le_self _ _
 have e4 := i64_wrap (x := a.tdiv b) ⟨by omega, by omega⟩
 have hb0 : b ≠ 0 := by omega
 unfold execOp
 simp [ho, hk.ev hx h1, hk.ev hy h2, eqGuard, binOp, Op.intDiv, hb0, e4]
end
end Go.Proofs.YthpblaoehlgpfaaGreat.K
namespace Go.Proofs.YthpblaoehlgpfaaGreat.K
open Go Go.RowKit
section
variable {P : Program} {n : Nat} {env : Env} {w0 : World} {R : Ro} {E : List Ent} {o : Oper} {pc p q : Bool}
/-- a slice against nil -/
theorem Yl.eqNilS {t t' e : TypeId} {x y : Operand} {a : Option Addr} {m c m' c' : Nat} (hu : P.underlying t = some (.slice e)) (ho : o.op = .binOp .eql t x y t') (hx : ev env x = some (p, .slice a m c)) (hy : ev env y = some (q, .slice none m' c'))
  (hpq : pc = true → (p && q) = true) : Yl P n env w0 R E o pc (.bool a.isNone) := by
 intro ac w hk hm hp
 obtain ⟨h1, h2⟩ := and_both (hpq hp)
 have e1 : (binOp .eql t (.slice a m c) (.slice none m' c')).run P w = .ok (.bool a.isNone) w := by
  simp only [binOp]
  simp [Op.equal, Op.maxDepth, Lib.run_equalIn_slice_nil w 9999 t e a m c m' c' hu]
 unfold execOp
 simp [ho, hk.ev hx h1, hk.ev hy h2, eqGuard, e1]
end
theorem RS.some {α : Type} {_i : Inhabited α} {R : Ro} {k : Nat} {enc : α → List Value} {a : Option Addr} {xs : List α} (h : RS (_i := _i) R k enc a xs) (hx : 0 < xs.length) : a.isNone = false := by
 rcases h.2.1 with h1 | ⟨b, off, cs, h1, _⟩
 ·rw [List.map_eq_nil_iff] at h1; rw [h1] at hx; simp at hx
 ·rw [h1]; rfl
end Go.Proofs.YthpblaoehlgpfaaGreat.K

/- Chapter 20: the choice of deficit round robin. No condition. -/
set_option maxRecDepth 4000
set_option linter.unusedSimpArgs false
set_option linter.unusedVariables false
namespace Go.Proofs.YthpblaoehlgpfaaGreat
open Go Go.RowKit Go.Proofs.YthpblaoehlgpfaaGreat.K Go.Proofs.YthpblaoehlgpfaaGreat.M

theorem Weighed20_V {R : Ro} {a : Option Addr} {c : Nat} {w : List Int} (ha : RS R 1 encI a w) : FnV Tryz.prog 234 [.slice a w.length c] R (.bool (okW 6000 w)) := by
 have hla := ha.len
 refine Fn.toV (fun w0 E => ?_)
 refine fE 18 Tryz.func234 ?_
 refine zQ (zG (zR 1 rfl (zN (zU (zQ (zQ (zG (zR 3 rfl (zN (zU (zB ?_)))))))))))
 refine W.loopK (β := Nat) (fun k => k ≤ w.length ∧ ∀ j, j < k → 1 ≤ nth w j ∧ nth w j ≤ 6000) (fun k => [(7, true, .int .i64 (k : Int))]) [5, 6] [_, _] [] _ rfl (fun k => []) (fun k => w.length - k) (0) (⟨Nat.zero_le _, fun j hj => by omega⟩) ⟨rfl, rfl, rfl, rfl⟩ qS ?_
 intro k hst
 dsimp only [zipE, setAll, List.cons_append, List.nil_append, List.set_cons_zero, List.set_cons_succ] at hst ⊢
 
 refine zQ (zG (zR 1 rfl (zN (zU (zQ ?_)))))
 refine W.condD rfl (fun hc0 => ?_) (fun hc0 => ?_)
 ·try dsimp only at hc0
  refine zK (zU (zQ (zB (zQ (zG ?_)))))
  refine WG.y rfl rfl qD (Yl.indexN tab_ok rfl rfl rfl rfl rfl rfl (fun _ => rfl) qN qH) ?_
  refine yR ?_
  refine zR 1 rfl (zN (zU (zQ (zG (zR 3 rfl ?_)))))
  refine yP ?_
  refine yP ?_
  refine yO ?_
  refine zN (zU ?_)
  refine W.cond rfl (fun hc1 => ?_) (fun hc1 => ?_)
  ·try simp only [zk] at hc1
   have hkl : k < w.length := by omega
   refine zQ (zG (zR 1 rfl (zN (zU (zT (wb (wt (wt (wb (wt ?_))))))))))
   refine sE (E := E) ?_
   refine WE.retF tab_ok [_] rfl ⟨rfl, trivial⟩ (RLe.refl _) ?_
   refine ⟨congrArg Value.bool ?_, rfl⟩
   symm
   rw [← Bool.not_eq_true]
   intro h
   have := okW_iff.1 h _ (nth_mem hkl)
   omega
  ·try simp only [zk] at hc1
   refine zK (zL (zU (zG ?_)))
   refine yA ?_
   refine zR 1 rfl (zN ?_)
   refine WE.again (k + 1) (⟨by omega, fun j hj => by
    by_cases e : j = k
    ·subst e; omega
    ·exact hst.2 j (by omega)⟩) (by (try dsimp only); omega) ⟨rfl, rfl, rfl, rfl⟩ (RLe.refl _) qS
 ·try dsimp only at hc0
  refine zX ?_
  refine wx (wx (zY (zU (zQ (zG (zR 1 rfl (zN (zU (zT ?_)))))))))
  refine sE (E := E) ?_
  refine WE.retF tab_ok [_] rfl ⟨rfl, trivial⟩ (RLe.refl _) ?_
  refine ⟨congrArg Value.bool ?_, rfl⟩
  symm
  exact okW_iff.2 (all_of_nth (fun j hj => hst.2 j qO))

theorem Size_C {R : Ro} {sb : Nat} {pa : Option Addr} {pc bg : Nat} {ps : List Pkt} {ms : MS} (w0 : World) (hp : RS R 3 encP pa ps) (i : Int) (h0 : 0 ≤ i) (h1 : i < ps.length) (F : List Ent) :
  K.Fn Tryz.prog 236 [.pointer (some ⟨sb, 0, none⟩), .int .i64 i] w0 R (stE sb pa ps.length pc bg ms :: F) (fun v R' E' => v = .int .i64 (szOf ps i) ∧ R = R' ∧ E' = stE sb pa ps.length pc bg ms :: F) := by
 have hla := hp.len
 refine fE 13 Tryz.func236 ?_
 refine zQ (zG (zR 1 rfl (zN (zU (zQ (zG (zR 3 rfl ?_)))))))
 refine yL (Rd.add (Rd.blk 0 rfl) _) ?_
 refine zR 1 rfl ?_
 refine WG.y rfl rfl qD (Yl.index tab_ok rfl rfl rfl rfl rfl rfl (fun _ => rfl) qA qH) ?_
 refine zR 1 rfl ?_
 refine' WG.y rfl rfl qD (Yl.load1 tab_ok rfl rfl rfl (fun _ => rfl) ?r2 rfl ?h2) ?_
 case r2 => apply Rd.add; ((apply RS.rdD; assumption; ((try dsimp only) <;> omega)))
 case h2 => rfl
 refine zR 1 rfl (zN (zU (zT ?_)))
 refine WE.retF tab_ok [_] rfl ⟨rfl, trivial⟩ (RLe.refl _) ?_
 exact ⟨rfl, rfl, rfl⟩

theorem Size_E {R : Ro} {sb : Nat} {pa : Option Addr} {pc bg : Nat} {ps : List Pkt} {ms : MS} (w0 : World) (hp : RS R 3 encP pa ps) (i : Int) (h0 : 0 ≤ i) (h1 : i < ps.length) (F : List Ent) :
  FnE Tryz.prog 236 [.pointer (some ⟨sb, 0, none⟩), .int .i64 i] w0 R (stE sb pa ps.length pc bg ms :: F) (.int .i64 (szOf ps i)) := by
 refine Fn.toE ?_
 intro w hm
 refine (Size_C w0 hp i h0 h1 F w hm).mono ?_
 rintro e w' ⟨v', R', E', rfl, hR, hm', rfl, rfl, rfl⟩
 exact ⟨_, _, _, rfl, hR, hm', rfl, rfl⟩

theorem ChooseD_C {bv bd : Nat} {R : Ro} {sb : Nat} {pa : Option Addr} {pc bg : Nat} {ps : List Pkt} {ms : MS} (w0 : World) (hp : RS R 3 encP pa ps) (hb : ms.begun.length = ps.length) (hsort : ps.Pairwise fun a b => a.time ≤ b.time) {wa : Option Addr} {wc : Nat} {w : List Int} (hwr : RS R 1 encI wa w) (hw : ∀ x ∈ w, 1 ≤ x ∧ x ≤ 6000) (hn : 0 < w.length) (hsz : ∀ p ∈ ps, 1 ≤ p.size ∧ p.size ≤ 1500) (hfl : ∀ p ∈ ps, 0 ≤ p.flow ∧ p.flow < w.length) {s : Nat × Bool × List Int} (hg : goodDf ps w.length ms s) (F : List Ent) :
  K.Fn Tryz.prog 235 [.pointer (some ⟨bv, 0, none⟩), .pointer (some ⟨sb, 0, none⟩)] w0 R (stE sb pa ps.length pc bg ms :: .sl 4 1 (some ⟨bg, 0, none⟩) ps.length (ms.begun.map encB) :: ([.blk bv [.slice wa w.length wc, .slice (some ⟨bd, 0, none⟩) w.length w.length, .int .i64 (s.1 : Int), .bool s.2.1], .sl 3 1 (some ⟨bd, 0, none⟩) w.length ((s.2.2).map encI)] ++ F)) (fun v R' E' => v = .int .i64 (defCh ps w ms s).1 ∧ R = R' ∧ E' = stE sb pa ps.length pc bg { ms with before := (defCh ps w ms s).2.1 } :: .sl 4 1 (some ⟨bg, 0, none⟩) ps.length (ms.begun.map encB) :: ([.blk bv [.slice wa w.length wc, .slice (some ⟨bd, 0, none⟩) w.length w.length, .int .i64 ((defCh ps w ms s).2.2.1 : Int), .bool (defCh ps w ms s).2.2.2.1], .sl 3 1 (some ⟨bd, 0, none⟩) w.length (((defCh ps w ms s).2.2.2.2).map encI)] ++ F)) := by
 have hlw := hwr.len
 have hlp := hp.len
 obtain ⟨hgd, hgc⟩ := hg
 have hg1 : goodB ps { ms with before := skipTo ms.begun ms.before } := goodB_skip hgd hb
 have hszn : ∀ c : Nat, 0 ≤ nextW ps ms c → 1 ≤ szOf ps (nextW ps ms c) ∧ szOf ps (nextW ps ms c) ≤ 1500 := fun c h => szOf_next hsz c h
 have hsk0 : skipTo ms.begun (skipTo ms.begun ms.before) = skipTo ms.begun ms.before := by
  by_cases h : skipTo ms.begun ms.before < ms.begun.length
  ·exact skipTo_false h (skipTo_stop' h)
  ·exact skipTo_end (by omega)
 refine fE 111 Tryz.func235 ?_
 refine zQ (zG (zR 1 rfl (zN (zU (zQ (zQ (zG (zR 1 rfl ?_))))))))
 refine WL.call en192 rfl rfl qD (CallOp.mkT rfl rfl rfl rfl) (First_C w0 hp hb hgd.1 _) ?_
 rintro _ _ _ - ⟨rfl, rfl, rfl⟩
 refine zR 1 rfl (zN (zU ?_))
 refine W.condD rfl (fun hc0 => ?_) (fun hc0 => ?_)
 ·try dsimp only at hc0
  have hch : defCh ps w ms s = (-1, skipTo ms.begun ms.before, s) := by unfold defCh; rw [if_pos hc0]
  refine zQ (zG (zR 1 rfl (zN (zU (zT (wt ?_))))))
  refine WE.retF tab_ok [_] rfl ⟨rfl, trivial⟩ (RLe.refl _) ?_
  exact ⟨by rw [hch]; rfl, rfl, by rw [hch]; try rfl⟩
 ·try dsimp only at hc0
  have hsoon := def_soon hfl ⟨hgd, hgc⟩ hb hc0
  have hch : defCh ps w ms s = ((defGo (nextW ps ms) (szOf ps) w (defF w.length) s.1 s.2.1 s.2.2).1, skipTo ms.begun ms.before, (defGo (nextW ps ms) (szOf ps) w (defF w.length) s.1 s.2.1 s.2.2).2) := by unfold defCh; rw [if_neg hc0]
  refine zK (zU (zB ?_))
  refine W.loopK (β := Nat × Nat × Bool × List Int) (fun (k, c, b, d) => defGo (nextW ps ms) (szOf ps) w k c b d = defGo (nextW ps ms) (szOf ps) w (defF w.length) s.1 s.2.1 s.2.2 ∧ DSoon (nextW ps ms) w.length k c b d ∧ DOk w.length c b d) (fun (k, c, b, d) => []) [0, 1] [_, _] [] _ rfl (fun (k, c, b, d) => [(2, .blk bv [.slice wa w.length wc, .slice (some ⟨bd, 0, none⟩) w.length w.length, .int .i64 (c : Int), .bool b]), (3, .sl 3 1 (some ⟨bd, 0, none⟩) w.length ((d).map encI))]) (fun (k, c, b, d) => k) ((defF w.length, s.1, s.2.1, s.2.2)) (⟨rfl, hsoon, hgc⟩) ⟨rfl, rfl, rfl⟩ qS ?_
  intro zz hst
  obtain ⟨k, c, b, d⟩ := zz
  dsimp only [zipE, setAll, List.cons_append, List.nil_append, List.set_cons_zero, List.set_cons_succ] at hst ⊢
  obtain ⟨h1, h2, h3⟩ := hst
  have hdl := h3.2.1
  have hcw := h3.1
  refine zB (zQ (zG (zR 4 rfl ?_)))
  refine yL (Rd.add (Rd.blk 2 rfl) _) ?_
  refine WL.call en201 rfl rfl qD (CallOp.mkT rfl rfl rfl rfl) (Next_C (ms := { ms with before := skipTo ms.begun ms.before }) w0 hp hb hg1 hsort _ _) ?_
  rintro _ _ _ - ⟨rfl, rfl, rfl⟩
  dsimp only
  rw [hsk0]
  refine zR 1 rfl (zN (zU ?_))
  refine W.seqCut (β := Bool × List Int) (fun (b1, d1) => d1 = grant (nextW ps ms) w c b d ∧ b1 = (if 0 ≤ nextW ps ms c then true else b)) (fun (b1, d1) => [(0, true, .pointer (some ⟨bv, 0, none⟩)), (1, true, .pointer (some ⟨sb, 0, none⟩)), (5, true, .int .i64 (nextW ps ms c))]) (fun _ => R) (fun (b1, d1) => stE sb pa ps.length pc bg { ms with before := skipTo ms.begun ms.before } :: .sl 4 1 (some ⟨bg, 0, none⟩) ps.length (ms.begun.map encB) :: .blk bv [.slice wa w.length wc, .slice (some ⟨bd, 0, none⟩) w.length w.length, .int .i64 (c : Int), .bool b1] :: .sl 3 1 (some ⟨bd, 0, none⟩) w.length ((d1).map encI) :: F) ?_ ?_
  ·
   intro st hst
   obtain ⟨b1, d1⟩ := st
   obtain ⟨hd1, hb1⟩ := hst
   dsimp only at hd1 hb1 ⊢
   have hgb := h3.grant (nx := nextW ps ms) hw
   have hgl : (grant (nextW ps ms) w c b d).length = w.length := by rw [grant_len]; exact hdl
   subst hd1
   refine zQ (zQ ?_)
   refine W.regionQ _ mixed qK ?_
   refine zR 3 rfl ?_
   refine yP ?_
   refine yP ?_
   refine WG.callE en236 rfl rfl (by decide) (CallOp.mk' rfl rfl rfl rfl) qE (fun hg => Size_E w0 hp _ (by simpa using hg) (nextW_lt ps _ _).1 _) ?_
   refine yP ?_
   refine yP ?_
   refine yP ?_
   refine yG (Rd.addC (Rd.blkC 2 rfl) _) ?_
   refine yP ?_
   refine yP ?_
   refine yP ?_
   refine yG (Rd.addC (Rd.blkC 2 rfl) _) ?_
   refine WG.y rfl rfl (by decide) (Yl.indexN tab_ok rfl rfl rfl rfl rfl rfl qE (by intro hg; (try simp only [zk] at hg); (try dsimp only) <;> omega) (by intro hg; (try simp only [zk] at hg); first | exact qI)) ?_
   refine' WG.y rfl rfl qD (Yl.loadG tab_ok rfl rfl rfl qE ?r4 rfl ?h4 ?g4) ?_
   case r4 => (exact Rd.slC 3 rfl)
   case h4 => rfl
   case g4 => (intro hg; (try simp only [zk] at hg); (try dsimp only); omega)
   refine yP ?_
   refine yN ?_
   refine zN (zU ?_)
   refine W.cond rfl (fun hc1 => ?_) (fun hc1 => ?_)
   ·try simp only [zk] at hc1
    have hy : 0 ≤ nextW ps ms c ∧ szOf ps (nextW ps ms c) ≤ nth (grant (nextW ps ms) w c b d) c := hc1
    have hgo : defGo (nextW ps ms) (szOf ps) w (defF w.length) s.1 s.2.1 s.2.2 = (nextW ps ms c, (c, true, (grant (nextW ps ms) w c b d).set c (nth (grant (nextW ps ms) w c b d) c - szOf ps (nextW ps ms c)))) := by
     rw [← h1]
     obtain ⟨k, rfl⟩ : ∃ m, k = m + 1 := ⟨k - 1, by obtain ⟨j, _, _, hj⟩ := h2; omega⟩
     rw [defGo, if_pos hy]
    have hszc := hszn c hy.1
    have hgc := hgb c h3.1
    rw [hgo] at hch
    obtain rfl : b1 = true := by rw [hb1, if_pos hy.1]
    refine zQ ?_
    refine W.regionH _ (ES := [.blk bv [.slice wa w.length wc, .slice (some ⟨bd, 0, none⟩) w.length w.length, .int .i64 (c : Int), .bool true]]) mixed ?_
    refine tP 0 ?_
    refine tP 1 ?_
    refine tP 2 ?_
    refine tL 3 (Rd.add (Rd.blk 0 rfl) _) ?_
    refine tP 4 ?_
    refine tP 5 ?_
    refine tP 6 ?_
    refine tL 7 (Rd.add (Rd.blk 0 rfl) _) ?_
    refine WA.take 8 rfl qK qK qK rfl rfl qD (Yl.indexN tab_ok rfl rfl rfl rfl rfl rfl (fun _ => rfl) qN qH) qS qR ?_
    refine tP 10 ?_
    refine tP 11 ?_
    refine WA.br2 (i := 9) (j := 12) qK ?_ ?_
    ·
     refine' WS.yl rfl rfl rfl qD (Yl.load1 tab_ok rfl rfl rfl (fun _ => rfl) ?r7 rfl ?h7) qS qR ?_
     case r7 => (exact Rd.slD 3 rfl qX)
     case h7 => rfl
     refine WA.callG 12 rfl qK en236 rfl (by first | rfl | decide) rfl qD (CallOp.mkT rfl rfl rfl rfl) (Size_C w0 hp _ hy.1 (nextW_lt ps _ _).1 _) ?_
     rintro _ _ _ - ⟨rfl, rfl, rfl⟩
     refine ⟨RLe.refl _, qS, ?_⟩
     refine tS 13 ?_
     refine WA.take 14 rfl qK qK qK rfl rfl qD (Yl.indexN tab_ok rfl rfl rfl rfl rfl rfl (fun _ => rfl) qN qH) qS qR ?_
     refine WA.effN 15 rfl qK rfl rfl (Ef.storeD _ 3 tab_ok rfl rfl rfl rfl rfl qX rfl rfl rfl rfl ?_)
     refine ⟨qR, qS, ?_⟩
     refine WA.done qK ?_
     refine zU (zQ (zG (zR 2 rfl (zN (zU (zT (wt (wb (wt (wb ?_))))))))))
     refine WE.retF tab_ok [_] rfl ⟨rfl, trivial⟩ (RLe.refl _) ?_
     exact ⟨by rw [hch]; rfl, rfl, by rw [hch]; try rfl⟩
    ·
     refine WS.callG rfl en236 rfl (by first | rfl | decide) rfl qD (CallOp.mkT rfl rfl rfl rfl) (Size_C w0 hp _ hy.1 (nextW_lt ps _ _).1 _) ?_
     rintro _ _ _ - ⟨rfl, rfl, rfl⟩
     refine ⟨RLe.refl _, qS, ?_⟩
     refine' WA.yl 9 rfl qK rfl rfl qD (Yl.load1 tab_ok rfl rfl rfl (fun _ => rfl) ?r8 rfl ?h8) qS qR ?_
     case r8 => (exact Rd.slD 3 rfl qX)
     case h8 => rfl
     refine tS 13 ?_
     refine WA.take 14 rfl qK qK qK rfl rfl qD (Yl.indexN tab_ok rfl rfl rfl rfl rfl rfl (fun _ => rfl) qN qH) qS qR ?_
     refine WA.effN 15 rfl qK rfl rfl (Ef.storeD _ 3 tab_ok rfl rfl rfl rfl rfl qX rfl rfl rfl rfl ?_)
     refine ⟨qR, qS, ?_⟩
     refine WA.done qK ?_
     refine zU (zQ (zG (zR 2 rfl (zN (zU (zT (wt (wb (wt (wb ?_))))))))))
     refine WE.retF tab_ok [_] rfl ⟨rfl, trivial⟩ (RLe.refl _) ?_
     exact ⟨by rw [hch]; rfl, rfl, by rw [hch]; try rfl⟩
   ·try simp only [zk] at hc1
    have hno : ¬ (0 ≤ nextW ps ms c ∧ szOf ps (nextW ps ms c) ≤ nth (grant (nextW ps ms) w c b d) c) := by
     rintro ⟨x1, x2⟩
     have := hc1 x1
     omega
    obtain ⟨k, rfl⟩ : ∃ m, k = m + 1 := ⟨k - 1, by obtain ⟨j, _, _, hj⟩ := h2; omega⟩
    rw [defGo, if_neg hno] at h1
    have h4 := h2.step (sz := szOf ps) hw (fun h => (hszn c h).2) h3 hno
    have h5 := h3.next (sz := szOf ps) hw (fun h => (hszn c h).2) hno
    have hce : ((c : Int) + 1) % (w.length : Int) = (((c + 1) % w.length : Nat) : Int) := rfl
    refine zK (zU (zQ (zQ (zG (zR 2 rfl (zN (zU ?_)))))))
    refine W.condD rfl (fun hc2 => ?_) (fun hc2 => ?_)
    ·try dsimp only at hc2
     have e0 : drop0 (nextW ps ms) c (grant (nextW ps ms) w c b d) = (grant (nextW ps ms) w c b d).set c 0 := if_pos (by omega)
     rw [e0] at h1 h4 h5
     refine W.regionH _ (ES := [.blk bv [.slice wa w.length wc, .slice (some ⟨bd, 0, none⟩) w.length w.length, .int .i64 (c : Int), .bool b1]]) mixed ?_
     refine tP 0 ?_
     refine tP 1 ?_
     refine tP 2 ?_
     refine tL 3 (Rd.add (Rd.blk 0 rfl) _) ?_
     refine tP 4 ?_
     refine tP 5 ?_
     refine tP 6 ?_
     refine tL 7 (Rd.add (Rd.blk 0 rfl) _) ?_
     refine WA.take 8 rfl qK qK qK rfl rfl qD (Yl.indexN tab_ok rfl rfl rfl rfl rfl rfl (fun _ => rfl) qN qH) qS qR ?_
     refine WA.effN 9 rfl qK rfl rfl (Ef.storeD _ 3 tab_ok rfl rfl rfl rfl rfl qX rfl rfl rfl rfl ?_)
     refine ⟨qR, qS, ?_⟩
     refine WA.done qK ?_
     refine zU ?_
     refine W.regionH _ (ES := []) mixed ?_
     refine tP 0 ?_
     refine tP 1 ?_
     refine tP 2 ?_
     refine tP 3 ?_
     refine tP 4 ?_
     refine tP 7 ?_
     refine tP 8 ?_
     refine tP 9 ?_
     refine WA.br2 (i := 5) (j := 10) qK ?_ ?_
     ·
      refine sL (Rd.add (Rd.blk 2 rfl) _) ?_
      refine tA 6 ?_
      refine lL 10 (Rd.add (Rd.blk 2 rfl) _) ?_
      refine tP 11 ?_
      refine WA.take 12 rfl qK qK qK rfl rfl qD (Yl.rem rfl rfl rfl (fun _ => rfl) qN qN) qS qR ?_
      refine tP 13 ?_
      refine tP 14 ?_
      refine zCF 15 2 ?_
      refine tP 16 ?_
      refine tP 17 ?_
      refine zCF 18 2 ?_
      refine WA.done qK ?_
      refine zL ?_
      refine WE.again ((k, (c + 1) % w.length, false, (grant (nextW ps ms) w c b d).set c 0)) (⟨h1, h4, h5⟩) (by dsimp only; omega) ⟨rfl, rfl, rfl⟩ (RLe.refl _) qS
     ·
      refine sL (Rd.add (Rd.blk 2 rfl) _) ?_
      refine tP 11 ?_
      refine lL 5 (Rd.add (Rd.blk 2 rfl) _) ?_
      refine tA 6 ?_
      refine WA.take 12 rfl qK qK qK rfl rfl qD (Yl.rem rfl rfl rfl (fun _ => rfl) qN qN) qS qR ?_
      refine tP 13 ?_
      refine tP 14 ?_
      refine zCF 15 2 ?_
      refine tP 16 ?_
      refine tP 17 ?_
      refine zCF 18 2 ?_
      refine WA.done qK ?_
      refine zL ?_
      refine WE.again ((k, (c + 1) % w.length, false, (grant (nextW ps ms) w c b d).set c 0)) (⟨h1, h4, h5⟩) (by dsimp only; omega) ⟨rfl, rfl, rfl⟩ (RLe.refl _) qS
    ·try dsimp only at hc2
     have e0 : drop0 (nextW ps ms) c (grant (nextW ps ms) w c b d) = grant (nextW ps ms) w c b d := if_neg (by omega)
     rw [e0] at h1 h4 h5
     refine zK (zU ?_)
     refine W.regionH _ (ES := []) mixed ?_
     refine tP 0 ?_
     refine tP 1 ?_
     refine tP 2 ?_
     refine tP 3 ?_
     refine tP 4 ?_
     refine tP 7 ?_
     refine tP 8 ?_
     refine tP 9 ?_
     refine WA.br2 (i := 5) (j := 10) qK ?_ ?_
     ·
      refine sL (Rd.add (Rd.blk 2 rfl) _) ?_
      refine tA 6 ?_
      refine lL 10 (Rd.add (Rd.blk 2 rfl) _) ?_
      refine tP 11 ?_
      refine WA.take 12 rfl qK qK qK rfl rfl qD (Yl.rem rfl rfl rfl (fun _ => rfl) qN qN) qS qR ?_
      refine tP 13 ?_
      refine tP 14 ?_
      refine zCF 15 2 ?_
      refine tP 16 ?_
      refine tP 17 ?_
      refine zCF 18 2 ?_
      refine WA.done qK ?_
      refine zL ?_
      refine WE.again ((k, (c + 1) % w.length, false, grant (nextW ps ms) w c b d)) (⟨h1, h4, h5⟩) (by dsimp only; omega) ⟨rfl, rfl, rfl⟩ (RLe.refl _) qS
     ·
      refine sL (Rd.add (Rd.blk 2 rfl) _) ?_
      refine tP 11 ?_
      refine lL 5 (Rd.add (Rd.blk 2 rfl) _) ?_
      refine tA 6 ?_
      refine WA.take 12 rfl qK qK qK rfl rfl qD (Yl.rem rfl rfl rfl (fun _ => rfl) qN qN) qS qR ?_
      refine tP 13 ?_
      refine tP 14 ?_
      refine zCF 15 2 ?_
      refine tP 16 ?_
      refine tP 17 ?_
      refine zCF 18 2 ?_
      refine WA.done qK ?_
      refine zL ?_
      refine WE.again ((k, (c + 1) % w.length, false, grant (nextW ps ms) w c b d)) (⟨h1, h4, h5⟩) (by dsimp only; omega) ⟨rfl, rfl, rfl⟩ (RLe.refl _) qS
  ·
   refine zQ (zG (zR 3 rfl ?_))
   refine yP ?_
   refine yP ?_
   refine yP ?_
   refine yG (Rd.addC (Rd.blkC 2 rfl) _) ?_
   refine yP ?_
   refine yN ?_
   refine zN (zU ?_)
   refine W.cond rfl (fun hc3 => ?_) (fun hc3 => ?_)
   ·try simp only [zk] at hc3
    have eg : grant (nextW ps ms) w c b d = d.set c (nth d c + nth w c) := if_pos hc3
    have hwc := hw _ (nth_mem h3.1)
    have hdc := h3.2.2 c h3.1
    refine zQ (zG (zR 3 rfl ?_))
    refine zF 2 ?_
    refine zN (zU ?_)
    refine W.regionH _ (ES := [.blk bv [.slice wa w.length wc, .slice (some ⟨bd, 0, none⟩) w.length w.length, .int .i64 (c : Int), .bool true]]) mixed ?_
    refine tP 0 ?_
    refine tP 1 ?_
    refine tP 2 ?_
    refine tL 3 (Rd.add (Rd.blk 0 rfl) _) ?_
    refine tP 4 ?_
    refine tP 5 ?_
    refine tP 6 ?_
    refine tL 7 (Rd.add (Rd.blk 0 rfl) _) ?_
    refine WA.take 8 rfl qK qK qK rfl rfl qD (Yl.indexN tab_ok rfl rfl rfl rfl rfl rfl (fun _ => rfl) qN qH) qS qR ?_
    refine tP 10 ?_
    refine tP 11 ?_
    refine tP 12 ?_
    refine tL 13 (Rd.add (Rd.blk 0 rfl) _) ?_
    refine tP 14 ?_
    refine tP 15 ?_
    refine tP 16 ?_
    refine tL 17 (Rd.add (Rd.blk 0 rfl) _) ?_
    refine WA.take 18 rfl qK qK qK rfl rfl qD (Yl.indexN tab_ok rfl rfl rfl rfl rfl rfl (fun _ => rfl) qN qH) qS qR ?_
    refine' WA.take 19 rfl qK qK qK rfl rfl qD (Yl.load1 tab_ok rfl rfl rfl (fun _ => rfl) ?r24 rfl ?h24) qS qR ?_
    case r24 => ((apply RS.rdD; assumption; ((try dsimp only) <;> omega)))
    case h24 => rfl
    refine' WA.yl 9 rfl qK rfl rfl qD (Yl.load1 tab_ok rfl rfl rfl (fun _ => rfl) ?r25 rfl ?h25) qS qR ?_
    case r25 => (exact Rd.slD 3 rfl qX)
    case h25 => rfl
    refine tA 20 ?_
    refine WA.take 21 rfl qK qK qK rfl rfl qD (Yl.indexN tab_ok rfl rfl rfl rfl rfl rfl (fun _ => rfl) qN qH) qS qR ?_
    refine WA.effN 22 rfl qK rfl rfl (Ef.storeD _ 3 tab_ok rfl rfl rfl rfl rfl qX rfl rfl rfl rfl ?_)
    refine ⟨qR, qS, ?_⟩
    refine WA.done qK ?_
    refine WE.cut (true, d.set c (nth d c + nth w c)) ⟨by rw [eg], (if_pos (show 0 ≤ nextW ps ms c from hc3.1)).symm⟩ ⟨rfl, rfl, rfl, rfl⟩ (RLe.refl _) qS
   ·try simp only [zk] at hc3
    have eg : grant (nextW ps ms) w c b d = d := if_neg (by rintro ⟨x1, x2⟩; have := hc3 x1; simp_all)
    refine zK ?_
    refine WE.cut (b, d) ⟨by rw [eg], by split; have := hc3 (by assumption); simp_all; rfl⟩ ⟨rfl, rfl, rfl, rfl⟩ (RLe.refl _) qS



theorem Def_err {R : Ro} {pa wa : Option Addr} {pc wc : Nat} {ps : List Pkt} {w : List Int} (hp : RS R 3 encP pa ps) (hwr : RS R 1 encI wa w) {cap ticks : Int} (w0 : World) (hbad : wrunE 6000 cap ticks w ps ≠ 0) (E : List Ent) :
  K.Fn Tryz.prog 228 [.int .i64 cap, .slice wa w.length wc, .slice pa ps.length pc, .int .i64 ticks] w0 R E (fun v R' E' => v = .tuple #[.agg #[.slice none 0 0, .slice none 0 0], .int .i64 (wrunE 6000 cap ticks w ps)] ∧ R = R' ∧ E.Sublist E') := by
 have hla := hp.len
 have hlw := hwr.len
 refine fE 47 Tryz.func228 ?_
 refine zQ (zG ?_)
 refine zA fun b8 => ?_
 refine zR 1 rfl (zN (zU (zQ (zQ (zG (zR 1 rfl ?_))))))
 refine WG.callV en79 rfl rfl qD (CallOp.mk' rfl rfl rfl rfl) (fun _ => rfl) (fun hg => Validate_V hp) ?_
 refine zR 1 rfl (zN (zU (zQ (zG (zR 2 rfl (zN (zU ?_)))))))
 refine W.condN rfl (fun hc0 => ?_) (fun hc0 => ?_)
 ·try dsimp only at hc0
  have e : wrunE 6000 cap ticks w ps = validate ps := by unfold wrunE lrunE; rw [if_pos hc0, if_pos hc0]
  refine zQ (zG ?_)
  -- build
  refine WG.y rfl rfl qD (Yl.build (parts := []) tab_ok rfl rfl rfl rfl (fun _ => rfl) rfl rfl) ?_
  refine zR 1 rfl ?_
  refine zE 0 ?_
  refine zR 1 rfl (zN (zU (zT (wt ?_))))
  refine WE.retF tab_ok [_, _] rfl ⟨⟨_, _, _, rfl, rfl, rfl, qB, rfl⟩, rfl, trivial⟩ (RLe.refl _) ?_
  exact ⟨by rw [e]; rfl, rfl, qS⟩
 ·try dsimp only at hc0
  have hl0 : lrunE cap w.length ticks ps = checkE cap w.length ticks ps := if_neg (fun h => h hc0)
  refine zK (zU (zQ (zQ (zG (zR 5 rfl ?_)))))
  refine WG.callV en190 rfl rfl qD (CallOp.mk' rfl rfl rfl rfl) (fun _ => rfl) (fun hg => Check_V hp) ?_
  refine zR 1 rfl (zN (zU (zQ (zG (zR 2 rfl (zN (zU ?_)))))))
  refine W.condN rfl (fun hc1 => ?_) (fun hc1 => ?_)
  ·try dsimp only at hc1
   have e : wrunE 6000 cap ticks w ps = checkE cap w.length ticks ps := by unfold wrunE; rw [if_pos (by rw [hl0]; exact hc1), hl0]
   refine zQ (zG ?_)
   -- build
   refine WG.y rfl rfl qD (Yl.build (parts := []) tab_ok rfl rfl rfl rfl (fun _ => rfl) rfl rfl) ?_
   refine zR 1 rfl ?_
   refine zE 0 ?_
   refine zR 1 rfl (zN (zU (zT (wt ?_))))
   refine WE.retF tab_ok [_, _] rfl ⟨⟨_, _, _, rfl, rfl, rfl, qB, rfl⟩, rfl, trivial⟩ (RLe.refl _) ?_
   exact ⟨by rw [e]; rfl, rfl, qS⟩
  ·try dsimp only at hc1
   refine zK (zU (zQ (zQ (zG (zR 1 rfl ?_)))))
   refine WG.callV en234 rfl rfl qD (CallOp.mk' rfl rfl rfl rfl) (fun _ => rfl) (fun hg => Weighed20_V hwr) ?_
   refine zR 1 rfl (zN (zU ?_))
   refine W.cond rfl (fun hc2 => ?_) (fun hc2 => ?_)
   ·try simp only [zk] at hc2
    have e : wrunE 6000 cap ticks w ps = 2 := by unfold wrunE; rw [if_neg (fun h => h (hl0.trans hc1)), if_neg (by simp [hc2])]
    refine zQ (zG ?_)
    -- build
    refine WG.y rfl rfl qD (Yl.build (parts := []) tab_ok rfl rfl rfl rfl (fun _ => rfl) rfl rfl) ?_
    refine zE 0 ?_
    refine zR 1 rfl (zN (zU (zT (wt ?_))))
    refine WE.retF tab_ok [_, _] rfl ⟨⟨_, _, _, rfl, rfl, rfl, qB, rfl⟩, rfl, trivial⟩ (RLe.refl _) ?_
    exact ⟨by rw [e]; rfl, rfl, qS⟩
   ·try simp only [zk] at hc2
    exact absurd (by unfold wrunE; rw [if_neg (fun h => h (hl0.trans hc1)), if_pos (by simpa using hc2)]) hbad

theorem Def_ok {R : Ro} {pa wa : Option Addr} {pc wc : Nat} {ps : List Pkt} {w : List Int} (hp : RS R 3 encP pa ps) (hwr : RS R 1 encI wa w) {cap : Int} {ticks : Nat} (w0 : World) (hok0 : wrunE 6000 cap ticks w ps = 0) (E : List Ent) :
  K.Fn Tryz.prog 228 [.int .i64 cap, .slice wa w.length wc, .slice pa ps.length pc, .int .i64 ticks] w0 R E
   (fun v R' E' => ∃ (rows : List Sl) (gd go : Nat) (s : M.RS (Nat × Bool × List Int)), s = mrun ps (defCh ps w) cap w.length ticks (def0 w.length) ∧ v = .tuple #[.agg #[.slice (some ⟨gd, 0, none⟩) ps.length ps.length, .slice (some ⟨go, 0, none⟩) w.length w.length], .int .i64 0] ∧ R = R' ∧ rows.map Sl.xs = s.sent ∧ (∀ r ∈ rows, r.a.isSome = true) ∧ Inv ps w.length (goodDf ps w.length) (ticks + 1) (ticks * cap) s ∧
    (.sl 3 1 (some ⟨gd, 0, none⟩) ps.length (s.done.map encI) :: .sl 22 1 (some ⟨go, 0, none⟩) w.length (rows.map encS) :: (rows.map (rowE 3) ++ E)).Sublist E') := by
 obtain ⟨hl0, hkw⟩ := wrunE_ok hok0
 have hw := okW_iff.1 hkw
 obtain ⟨hok, hvv, hck, c1, c2, c3, c4, c5, c6, hs, hf⟩ := lrunE_ok hl0
 have hlw := hwr.len
 have hla := hp.len
 refine fE 47 Tryz.func228 ?_
 refine zQ (zG ?_)
 refine zA fun b8 => ?_
 refine zR 1 rfl (zN (zU (zQ (zQ (zG (zR 1 rfl ?_))))))
 refine WG.callV en79 rfl rfl qD (CallOp.mk' rfl rfl rfl rfl) (fun _ => rfl) (fun hg => hvv ▸ Validate_V hp) ?_
 refine zR 1 rfl (zN (zU (zQ (zG (zR 2 rfl (zN (zU ?_)))))))
 refine W.condN rfl (fun hc0 => ?_) (fun hc0 => ?_)
 ·try dsimp only at hc0
  exact absurd rfl hc0
 ·try dsimp only at hc0
  refine zK (zU (zQ (zQ (zG (zR 5 rfl ?_)))))
  refine WG.callV en190 rfl rfl qD (CallOp.mk' rfl rfl rfl rfl) (fun _ => rfl) (fun hg => hck ▸ Check_V hp) ?_
  refine zR 1 rfl (zN (zU (zQ (zG (zR 2 rfl (zN (zU ?_)))))))
  refine W.condN rfl (fun hc1 => ?_) (fun hc1 => ?_)
  ·try dsimp only at hc1
   exact absurd rfl hc1
  ·try dsimp only at hc1
   refine zK (zU (zQ (zQ (zG (zR 1 rfl ?_)))))
   refine WG.callV en234 rfl rfl qD (CallOp.mk' rfl rfl rfl rfl) (fun _ => rfl) (fun hg => hkw ▸ Weighed20_V hwr) ?_
   refine zR 1 rfl (zN (zU ?_))
   refine W.cond rfl (fun hc2 => ?_) (fun hc2 => ?_)
   ·try simp only [zk] at hc2
    simp at hc2
   ·try simp only [zk] at hc2
    refine zK (zU (zQ (zG (zR 3 rfl ?_))))
    refine WL.ef rfl rfl qD (Ef.makeSliceD (enc := encI) 0 tab_ok rfl rfl rfl rfl rfl rfl qX qX qX qX qD rfl rfl (fun a36 => ?_))
    -- build
    refine WG.y rfl rfl qD (Yl.build (parts := [(0, .tmp 33), (1, .tmp 36)]) tab_ok rfl rfl rfl rfl (fun _ => rfl) rfl rfl) ?_
    refine zO fun b38 => ?_
    refine zR 1 rfl (zN (zU (zQ (zG (zR 7 rfl ?_)))))
    refine WL.call en191 rfl rfl qD (CallOp.mkT rfl rfl rfl rfl) (MRun_C (pc := pc) (g := 235) (first := #[.pointer (some ⟨b38, 0, none⟩)]) (capd := #[]) (ch := defCh ps w) (good := goodDf ps w.length) (X := fun s => [.blk b38 [.slice wa w.length wc, .slice (some ⟨a36, 0, none⟩) w.length w.length, .int .i64 (s.1 : Int), .bool s.2.1], .sl 3 1 (some ⟨a36, 0, none⟩) w.length ((s.2.2).map encI)]) (sg := def0 w.length) w0 hp (def_fair hw (fun p hp => by have := hok.at hp; omega) hf hok.sorted).toGood ⟨by have := hok.len; omega, fun p hp => by have := hs p hp; have := hf p hp; omega⟩ (def_start qO _) qO qO qO en235 (fun sb bg ms sg F hgd hbl _ _ _ _ => ChooseD_C w0 hp hbl hok.sorted hwr hw qO (fun p hp => by have := hok.at hp; omega) hf hgd F) _) ?_
    rintro _ _ E2 - ⟨rows, gd, go, s, hsr, rfl, rfl, h1, h2, h3, hsub⟩
    refine WL.subE hsub ?_
    refine WL.subE (E' := .sl 3 1 (some ⟨gd, 0, none⟩) ps.length (s.done.map encI) :: .sl 22 1 (some ⟨go, 0, none⟩) w.length (rows.map encS) :: (rows.map (rowE 3) ++ (.blk b8 [.slice none 0 0, .slice none 0 0] :: E))) (List.Sublist.cons_cons _ (List.Sublist.cons_cons _ (List.Sublist.append (List.Sublist.refl _) qS))) ?_
    refine WL.perm (List.perm_middle (l₁ := _ :: _ :: rows.map (rowE 3))) ?_
    refine zE 0 ?_
    refine zR 1 rfl (zN (zU (zT ?_)))
    refine WE.retF tab_ok [_, _] rfl ⟨⟨_, _, _, rfl, rfl, rfl, qB, rfl⟩, rfl, trivial⟩ (RLe.refl _) ?_
    exact ⟨rows, gd, go, s, hsr, rfl, rfl, h1, h2, h3, qS⟩





end Go.Proofs.YthpblaoehlgpfaaGreat

/- Time slots: what the walks want. No condition. -/
namespace Go.Proofs.YthpblaoehlgpfaaGreat.M
open Go Go.Proofs.YthpblaoehlgpfaaGreat.K

def aheadP (tb : List Int) (cls : Int) (t n : Nat) : Bool := decide (cls < 0) || nth tb ((t + n) % tb.length) != cls
theorem aheadP_iff {tb : List Int} {cls : Int} {t n : Nat} : aheadP tb cls t n = true ↔ cls < 0 ∨ nth tb ((t + n) % tb.length) ≠ cls := by unfold aheadP; simp
theorem aheadN_some {tb : List Int} {cls : Int} {t n : Nat} (hn : n < tb.length) (hP : aheadP tb cls t n = true) (h : ∀ j, j < n → aheadP tb cls t j = false) : aheadN tb cls t = n :=
 findFrom_some (P := aheadP tb cls t) (Nat.zero_le _) (by omega) hP (fun j _ hj => h j hj)
theorem aheadN_none {tb : List Int} {cls : Int} {t : Nat} (h : ∀ j, j < tb.length → aheadP tb cls t j = false) : aheadN tb cls t = -1 :=
 findFrom_none (P := aheadP tb cls t) (fun j _ hj => h j (by omega))
theorem aheadN_range (tb : List Int) (cls : Int) (t : Nat) : -1 ≤ aheadN tb cls t ∧ aheadN tb cls t < tb.length ∨ aheadN tb cls t = -1 := by
 rcases findFrom_cases (aheadP tb cls t) tb.length 0 with ⟨i, h1, h2, h3, _⟩ | ⟨h1, _⟩
 ·left
  have : aheadN tb cls t = i := h3
  omega
 ·right; exact h1
def aheadV (tb : List Int) (cls : Int) (t : Nat) : Int × Bool := if aheadN tb cls t = -1 then (0, false) else (aheadN tb cls t, true)
theorem okT_at {n : Int} {tb : List Int} (h1 : 1 ≤ tb.length) (h2 : tb.length ≤ 40) (h : ∀ j, j < tb.length → -1 ≤ nth tb j ∧ nth tb j < n) : okT n tb = true := okT_iff.2 ⟨h1, h2, fun c hc => by
 obtain ⟨i, hi, e⟩ := List.getElem_of_mem hc
 have := h i hi
 rw [nth_eq hi, e] at this; exact this⟩
def clsN (tb : List Int) (k : Nat) : Int := (tb.take k).foldl (fun m c => if m < c + 1 then c + 1 else m) 1
theorem slotCh_if {ps : List Pkt} {cap : Int} {tb : List Int} {ms : MS} (h0 : ¬ slotT tb ms.now.toNat < 0) (h1 : ¬ nextW ps ms (slotT tb ms.now.toNat) < 0) : slotCh ps cap tb ms () =
  if (aheadV tb (slotT tb ms.now.toNat) ms.now.toNat).2 = true ∧ ms.left + ((aheadV tb (slotT tb ms.now.toNat) ms.now.toNat).1 - 1) * cap < szOf ps (nextW ps ms (slotT tb ms.now.toNat)) then (-1, skipTo ms.begun ms.before, ()) else (nextW ps ms (slotT tb ms.now.toNat), skipTo ms.begun ms.before, ()) := by
 unfold slotCh
 rw [if_neg h0, if_neg h1]
 unfold aheadV szOf
 by_cases ha : aheadN tb (slotT tb ms.now.toNat) ms.now.toNat = -1
 ·rw [if_pos ha, if_neg (fun h => h.1 ha), if_neg (fun h => by cases h.1)]
 ·rw [if_neg ha]
  by_cases hb : (nth ps (nextW ps ms (slotT tb ms.now.toNat)).toNat).size > ms.left + (aheadN tb (slotT tb ms.now.toNat) ms.now.toNat - 1) * cap
  ·rw [if_pos ⟨ha, hb⟩, if_pos ⟨rfl, hb⟩]
  ·rw [if_neg (fun h => hb h.2), if_neg (fun h => hb h.2)]
/-- what room a packet of a class has at the beginning of a tick -/
def roomT (cap : Int) (tb : List Int) (cls t : Int) : Int :=
  if cap < 1 ∨ 4000 < cap ∨ tb.length < 1 ∨ 40 < tb.length ∨ t < 0 ∨ 2000 < t then 0
  else if (aheadV tb cls t.toNat).2 = false then 1073741824 else (aheadV tb cls t.toNat).1 * cap
/-- how many ticks of the part that goes on -/
def rowS (mine : Nat → Bool) (a : Nat) : Nat → Nat
  | 0 => 0
  | d + 1 => if mine (a + d) = true then rowS mine a d + 1 else 0
end Go.Proofs.YthpblaoehlgpfaaGreat.M

/- Chapter 21: the choice. No condition. -/
set_option maxRecDepth 4000
set_option linter.unusedSimpArgs false
set_option linter.unusedVariables false
namespace Go.Proofs.YthpblaoehlgpfaaGreat
open Go Go.RowKit Go.Proofs.YthpblaoehlgpfaaGreat.K Go.Proofs.YthpblaoehlgpfaaGreat.M

theorem Ahead_V {R : Ro} {wa : Option Addr} {wc : Nat} {tb : List Int} (hwr : RS R 1 encI wa tb) {cls : Int} {t : Nat} (hl : tb.length ≤ 1000) (ht : t ≤ 1000000) : FnV Tryz.prog 248 [.slice wa tb.length wc, .int .i64 cls, .int .i64 (t : Int)] R (.tuple #[.int .i64 (aheadV tb cls t).1, .bool (aheadV tb cls t).2]) := by
 have hla := hwr.len
 refine Fn.toV (fun w0 E => ?_)
 refine fE 31 Tryz.func248 ?_
 refine zQ (zG (zR 2 rfl (zN (zU (zQ (zQ (zG (zR 3 rfl (zN (zU (zB ?_)))))))))))
 refine W.loopK (β := Nat) (fun k => k ≤ tb.length ∧ ∀ j, j < k → aheadP tb cls t j = false) (fun k => [(11, true, .int .i64 (k : Int))]) [0, 1, 2, 10] [_, _, _, _] [] _ rfl (fun k => []) (fun k => tb.length - k) (0) (⟨Nat.zero_le _, fun j hj => by omega⟩) ⟨rfl, rfl, rfl, rfl, rfl, rfl⟩ qS ?_
 intro k hst
 dsimp only [zipE, setAll, List.cons_append, List.nil_append, List.set_cons_zero, List.set_cons_succ] at hst ⊢
 obtain ⟨hk, hno⟩ := hst
 have hce : ((t : Int) + (k : Int)) % (tb.length : Int) = (((t + k) % tb.length : Nat) : Int) := rfl
 have hml : 0 < tb.length → (t + k) % tb.length < tb.length := fun h => Nat.mod_lt _ h
 refine zQ (zG (zR 1 rfl (zN (zU (zQ ?_)))))
 refine W.condD rfl (fun hc0 => ?_) (fun hc0 => ?_)
 ·try dsimp only at hc0
  have hkl : k < tb.length := by omega
  have hml := hml (by omega)
  refine zK (zU (zQ (zB (zQ (zG (zR 2 rfl (zN (zU (zQ (zG (zR 3 rfl ?_)))))))))))
  refine yP ?_
  refine yP ?_
  refine yP ?_
  refine WG.y rfl rfl (by decide) (Yl.add rfl rfl rfl qE (by intro hg; (try simp only [zk] at hg); constructor <;> (try dsimp only) <;> omega)) ?_
  refine yP ?_
  refine yP ?_
  refine WG.y rfl rfl (by decide) (Yl.rem rfl rfl rfl qE (by intro hg; (try simp only [zk] at hg); (try dsimp only) <;> omega) (by intro hg; (try simp only [zk] at hg); (try dsimp only) <;> omega)) ?_
  rw [hce]
  refine WG.y rfl rfl (by decide) (Yl.indexN tab_ok rfl rfl rfl rfl rfl rfl qE (by intro hg; (try simp only [zk] at hg); (try dsimp only) <;> omega) (by intro hg; (try simp only [zk] at hg); first | exact qI)) ?_
  refine' WG.y rfl rfl qD (Yl.loadG tab_ok rfl rfl rfl qE ?r1 rfl ?h1 ?g1) ?_
  case r1 => ((apply RS.rdC; assumption))
  case h1 => rfl
  case g1 => (intro hg; (try simp only [zk] at hg); (try dsimp only); omega)
  refine yP ?_
  refine yP ?_
  refine yO ?_
  refine zN (zU ?_)
  refine W.cond rfl (fun hc1 => ?_) (fun hc1 => ?_)
  ·try simp only [zk] at hc1
   have hP : aheadP tb cls t k = true := aheadP_iff.2 hc1
   have hav : aheadV tb cls t = ((k : Int), true) := by unfold aheadV; rw [aheadN_some hkl hP hno, if_neg (by omega)]
   refine zQ (zG (zR 3 rfl (zN (zU (zT (wb (wt (wt (wb (wt ?_))))))))))
   refine sE (E := E) ?_
   refine WE.retF tab_ok [_, _] rfl ⟨rfl, rfl, trivial⟩ (RLe.refl _) ?_
   exact ⟨by rw [hav]; rfl, rfl⟩
  ·try simp only [zk] at hc1
   have hP : aheadP tb cls t k = false := by
    rw [← Bool.not_eq_true, aheadP_iff]
    intro h
    rcases h with h | h <;> simp_all <;> omega
   refine zK (zL (zU (zG ?_)))
   refine yA ?_
   refine zR 1 rfl (zN ?_)
   refine WE.again (k + 1) (⟨by omega, fun j hj => by
    by_cases e : j = k
    ·subst e; exact hP
    ·exact hno j (by omega)⟩) (by (try dsimp only); omega) ⟨rfl, rfl, rfl, rfl, rfl, rfl⟩ (RLe.refl _) qS
 ·try dsimp only at hc0
  have hav : aheadV tb cls t = (0, false) := by unfold aheadV; rw [if_pos (aheadN_none (fun j hj => hno j (by omega)))]
  refine zX ?_
  refine wx (wx (zY (zU (zQ (zG (zR 2 rfl (zN (zU (zT ?_)))))))))
  refine sE (E := E) ?_
  refine WE.retF tab_ok [_, _] rfl ⟨rfl, rfl, trivial⟩ (RLe.refl _) ?_
  exact ⟨by rw [hav]; rfl, rfl⟩

theorem AheadT_V {R : Ro} {wa : Option Addr} {wc : Nat} {tb : List Int} (hwr : RS R 1 encI wa tb) {cls : Int} {t : Nat} (hl : tb.length ≤ 1000) (ht : t ≤ 1000000) : FnV Tryz.prog 244 [.slice wa tb.length wc, .int .i64 cls, .int .i64 (t : Int)] R (.tuple #[.int .i64 (aheadV tb cls t).1, .bool (aheadV tb cls t).2]) := by
 have hla := hwr.len
 refine Fn.toV (fun w0 E => ?_)
 refine fE 14 Tryz.func244 ?_
 refine zQ (zG (zR 2 rfl (zN (zU (zQ (zG (zR 3 rfl ?_)))))))
 refine WG.callV en248 rfl rfl qD (CallOp.mk' rfl rfl rfl rfl) (fun _ => rfl) (fun hg => Ahead_V hwr hl ht) ?_
 refine zR 4 rfl (zN (zU (zT ?_)))
 refine sE (E := E) ?_
 refine WE.retF tab_ok [_, _] rfl ⟨rfl, rfl, trivial⟩ (RLe.refl _) ?_
 exact ⟨rfl, rfl⟩

theorem ValidT_V {R : Ro} {wa : Option Addr} {wc : Nat} {tb : List Int} (hwr : RS R 1 encI wa tb) {n : Int} : FnV Tryz.prog 249 [.slice wa tb.length wc, .int .i64 n] R (.bool (okT n tb)) := by
 have hla := hwr.len
 refine Fn.toV (fun w0 E => ?_)
 refine fE 29 Tryz.func249 ?_
 refine zQ (zG (zR 1 rfl (zN (zU (zQ (zQ (zG (zR 4 rfl ?_))))))))
 refine yP ?_
 refine yP ?_
 refine yP ?_
 refine yO ?_
 refine zN (zU ?_)
 refine W.cond rfl (fun hc0 => ?_) (fun hc0 => ?_)
 ·try simp only [zk] at hc0
  have hk : okT n tb = false := by
   rw [← Bool.not_eq_true, okT_iff]
   intro h
   omega
  refine zQ (zG (zR 1 rfl (zN (zU (zT (wt ?_))))))
  refine sE (E := E) ?_
  refine WE.retF tab_ok [_] rfl ⟨rfl, trivial⟩ (RLe.refl _) ?_
  exact ⟨by rw [hk]; rfl, rfl⟩
 ·try simp only [zk] at hc0
  have hl1 : 1 ≤ tb.length ∧ tb.length ≤ 40 := by omega
  refine zK (zU (zQ (zQ (zG (zR 3 rfl (zN (zU (zB ?_))))))))
  refine W.loopK (β := Nat) (fun k => k ≤ tb.length ∧ ∀ j, j < k → -1 ≤ nth tb j ∧ nth tb j < n) (fun k => [(17, true, .int .i64 (k : Int))]) [1, 15, 16] [_, _, _] [] _ rfl (fun k => []) (fun k => tb.length - k) (0) (⟨Nat.zero_le _, fun j hj => by omega⟩) ⟨rfl, rfl, rfl, rfl, rfl⟩ qS ?_
  intro k hst
  dsimp only [zipE, setAll, List.cons_append, List.nil_append, List.set_cons_zero, List.set_cons_succ] at hst ⊢
  
  refine zQ (zG (zR 1 rfl (zN (zU (zQ ?_)))))
  refine W.condD rfl (fun hc1 => ?_) (fun hc1 => ?_)
  ·try dsimp only at hc1
   have hkl : k < tb.length := by omega
   refine zK (zU (zQ (zB (zQ (zG ?_)))))
   refine WG.y rfl rfl qD (Yl.indexN tab_ok rfl rfl rfl rfl rfl rfl (fun _ => rfl) qN qH) ?_
   refine yR ?_
   refine zR 1 rfl (zN (zU (zQ (zG (zR 3 rfl ?_)))))
   refine yP ?_
   refine yP ?_
   refine yP ?_
   refine yO ?_
   refine zN (zU ?_)
   refine W.cond rfl (fun hc2 => ?_) (fun hc2 => ?_)
   ·try simp only [zk] at hc2
    have hk : okT n tb = false := by
     rw [← Bool.not_eq_true, okT_iff]
     intro h
     have := h.2.2 _ (nth_mem hkl)
     omega
    refine zQ (zG (zR 1 rfl (zN (zU (zT (wb (wt (wt (wb (wt ?_))))))))))
    refine sE (E := E) ?_
    refine WE.retF tab_ok [_] rfl ⟨rfl, trivial⟩ (RLe.refl _) ?_
    exact ⟨by rw [hk]; rfl, rfl⟩
   ·try simp only [zk] at hc2
    refine zK (zL (zU (zG ?_)))
    refine yA ?_
    refine zR 1 rfl (zN ?_)
    refine WE.again (k + 1) (⟨by omega, fun j hj => by
     by_cases e : j = k
     ·subst e; omega
     ·exact hst.2 j (by omega)⟩) (by (try dsimp only); omega) ⟨rfl, rfl, rfl, rfl, rfl⟩ (RLe.refl _) qS
  ·try dsimp only at hc1
   have hk : okT n tb = true := okT_at hl1.1 hl1.2 (fun j hj => hst.2 j (by omega))
   refine zX ?_
   refine wx (wx (zY (zU (zQ (zG (zR 1 rfl (zN (zU (zT ?_)))))))))
   refine sE (E := E) ?_
   refine WE.retF tab_ok [_] rfl ⟨rfl, trivial⟩ (RLe.refl _) ?_
   exact ⟨by rw [hk]; rfl, rfl⟩

theorem MineT_V {R : Ro} {wa : Option Addr} {wc : Nat} {tb : List Int} (hwr : RS R 1 encI wa tb) {cls : Int} {t : Nat} (hn : 0 < tb.length) (hc : 0 ≤ cls) (ht : t ≤ 1000000) : FnV Tryz.prog 243 [.slice wa tb.length wc, .int .i64 cls, .int .i64 (t : Int)] R (.bool (mineT tb cls t)) := by
 have hla := hwr.len
 refine Fn.toV (fun w0 E => ?_)
 have hce : (t : Int) % (tb.length : Int) = ((t % tb.length : Nat) : Int) := rfl
 have hml := Nat.mod_lt t hn
 have hd : decide (cls ≥ 0) = true := decide_eq_true hc
 refine fE 20 Tryz.func243 ?_
 refine zQ (zG (zR 1 rfl (zN (zU (zQ (zG (zR 3 rfl ?_)))))))
 refine yP ?_
 refine yP ?_
 refine yP ?_
 refine yP ?_
 refine WG.y rfl rfl (by decide) (Yl.rem rfl rfl rfl qE (by intro hg; (try simp only [zk] at hg); (try dsimp only) <;> omega) (by intro hg; (try simp only [zk] at hg); (try dsimp only) <;> omega)) ?_
 rw [hce]
 refine WG.y rfl rfl (by decide) (Yl.indexN tab_ok rfl rfl rfl rfl rfl rfl qE (by intro hg; (try simp only [zk] at hg); (try dsimp only) <;> omega) (by intro hg; (try simp only [zk] at hg); first | exact qI)) ?_
 refine' WG.y rfl rfl qD (Yl.loadG tab_ok rfl rfl rfl qE ?r1 rfl ?h1 ?g1) ?_
 case r1 => ((apply RS.rdC; assumption))
 case h1 => rfl
 case g1 => (intro hg; (try simp only [zk] at hg); (try dsimp only); omega)
 refine yP ?_
 refine yP ?_
 refine yN ?_
 refine zR 1 rfl (zN (zU (zT ?_)))
 refine sE (E := E) ?_
 refine WE.retF tab_ok [_] rfl ⟨rfl, trivial⟩ (RLe.refl _) ?_
 exact ⟨by show Value.bool (decide (cls ≥ 0) && _) = _; rw [hd]; rfl, rfl⟩

theorem SlotsMk_C {R : Ro} {wa : Option Addr} {wc n : Nat} {cap : Int} (w0 : World) (E : List Ent) : K.Fn Tryz.prog 241 [.int .i64 cap, .slice wa n wc] w0 R E (fun v R' E' => ∃ b2 b3 : Nat, v = .func (.func 247) #[] #[.pointer (some ⟨b3, 0, none⟩), .pointer (some ⟨b2, 0, none⟩)] ∧ R = R' ∧ E' = .blk b3 [.slice wa n wc] :: .blk b2 [.int .i64 cap] :: E) := by
 refine fE 6 Tryz.func241 ?_
 refine zQ (zG ?_)
 refine zO fun b2 => ?_
 refine zO fun b3 => ?_
 refine zR 1 rfl (zN (zU (zQ (zG (zR 2 rfl (zN (zU (zT ?_))))))))
 refine WE.retF tab_ok [_] rfl ⟨rfl, trivial⟩ (RLe.refl _) ?_
 exact ⟨b2, b3, rfl, rfl, rfl⟩

theorem Slot1_C {b2 b3 : Nat} {R : Ro} {sb : Nat} {pa : Option Addr} {pc bg : Nat} {ps : List Pkt} {ms : MS} (w0 : World) (hp : RS R 3 encP pa ps) (hb : ms.begun.length = ps.length) (hsort : ps.Pairwise fun a b => a.time ≤ b.time) {wa : Option Addr} {wc : Nat} {tb : List Int} {cap : Int} (hwr : RS R 1 encI wa tb) (h3 : R b3 = some [.slice wa tb.length wc]) (h2 : R b2 = some [.int .i64 cap]) (hn : 0 < tb.length) (hl : tb.length ≤ 1000) (hc : 1 ≤ cap ∧ cap ≤ 1000000) (hgd : goodB ps ms) (hnow : 0 ≤ ms.now ∧ ms.now ≤ 1000000) (hleft : 0 ≤ ms.left ∧ ms.left ≤ 1000000) (F : List Ent) :
  K.Fn Tryz.prog 247 [.pointer (some ⟨sb, 0, none⟩), .pointer (some ⟨b3, 0, none⟩), .pointer (some ⟨b2, 0, none⟩)] w0 R (stE sb pa ps.length pc bg ms :: .sl 4 1 (some ⟨bg, 0, none⟩) ps.length (ms.begun.map encB) :: F) (fun v R' E' => v = .int .i64 (slotCh ps cap tb ms ()).1 ∧ R = R' ∧ E' = stE sb pa ps.length pc bg { ms with before := (slotCh ps cap tb ms ()).2.1 } :: .sl 4 1 (some ⟨bg, 0, none⟩) ps.length (ms.begun.map encB) :: F) := by
 have hlw := hwr.len
 have hlp := hp.len
 have hnt : (ms.now.toNat : Int) = ms.now := by omega
 have hce : ms.now % (tb.length : Int) = ((ms.now.toNat % tb.length : Nat) : Int) := by rw [Int.natCast_emod, hnt]
 have hml := Nat.mod_lt ms.now.toNat hn
 have har := aheadN_range tb (slotT tb ms.now.toNat) ms.now.toNat
 have hab : 0 ≤ (aheadV tb (slotT tb ms.now.toNat) ms.now.toNat).1 ∧ (aheadV tb (slotT tb ms.now.toNat) ms.now.toNat).1 ≤ 1000 := by unfold aheadV; split <;> (dsimp only; omega)
 have hmb := mulB (a := (aheadV tb (slotT tb ms.now.toNat) ms.now.toNat).1) (b := cap) (A := 1000) (B := 1000000) (by omega) (by omega)
 have hme : ((aheadV tb (slotT tb ms.now.toNat) ms.now.toNat).1 - 1) * cap = (aheadV tb (slotT tb ms.now.toNat) ms.now.toNat).1 * cap - cap := by rw [Int.sub_mul, Int.one_mul]
 refine fE 53 Tryz.func247 ?_
 refine zQ (zG (zR 1 rfl (zN (zU (zQ ?_)))))
 refine W.regionQ _ mixed qK ?_
 refine' WG.y rfl rfl qD (Yl.load1 tab_ok rfl rfl rfl (fun _ => rfl) ?r1 rfl ?h1) ?_
 case r1 => (exact Rd.ro qU)
 case h1 => rfl
 refine zR 3 rfl ?_
 refine yL (Rd.add (Rd.blk 0 rfl) _) ?_
 refine' WG.y rfl rfl qD (Yl.load1 tab_ok rfl rfl rfl (fun _ => rfl) ?r3 rfl ?h3) ?_
 case r3 => (exact Rd.ro qU)
 case h3 => rfl
 refine zR 1 rfl ?_
 refine WG.y rfl rfl qD (Yl.rem rfl rfl rfl (fun _ => rfl) qN qN) ?_
 rw [hce]
 refine WG.y rfl rfl qD (Yl.indexN tab_ok rfl rfl rfl rfl rfl rfl (fun _ => rfl) qN qH) ?_
 refine yR ?_
 refine zR 1 rfl (zN (zU (zQ ?_)))
 rw [show nth tb (ms.now.toNat % tb.length) = slotT tb ms.now.toNat from rfl]
 refine zQ (zG (zR 2 rfl (zN (zU ?_))))
 refine W.condD rfl (fun hc0 => ?_) (fun hc0 => ?_)
 ·try dsimp only at hc0
  have hch : slotCh ps cap tb ms () = (-1, ms.before, ()) := by unfold slotCh; rw [if_pos hc0]
  refine zQ (zG (zR 1 rfl (zN (zU (zT (wt ?_))))))
  refine WE.retF tab_ok [_] rfl ⟨rfl, trivial⟩ (RLe.refl _) ?_
  exact ⟨by rw [hch]; try rfl, rfl, by rw [hch]; try rfl⟩
 ·try dsimp only at hc0
  refine zK (zU (zQ (zG (zR 2 rfl ?_))))
  refine WL.call en201 rfl rfl qD (CallOp.mkT rfl rfl rfl rfl) (Next_C (ms := ms) w0 hp hb hgd hsort _ _) ?_
  rintro _ _ _ - ⟨rfl, rfl, rfl⟩
  refine zR 1 rfl (zN (zU (zQ (zQ (zG (zR 2 rfl (zN (zU ?_))))))))
  refine W.condD rfl (fun hc1 => ?_) (fun hc1 => ?_)
  ·try dsimp only at hc1
   have hch : slotCh ps cap tb ms () = (-1, skipTo ms.begun ms.before, ()) := by unfold slotCh; rw [if_neg (by omega), if_pos hc1]
   refine zQ (zG (zR 1 rfl (zN (zU (zT (wt ?_))))))
   refine WE.retF tab_ok [_] rfl ⟨rfl, trivial⟩ (RLe.refl _) ?_
   exact ⟨by rw [hch]; try rfl, rfl, by rw [hch]; try rfl⟩
  ·try dsimp only at hc1
   refine zK (zU (zQ (zQ ?_)))
   refine W.regionQ _ mixed qK ?_
   refine' WG.y rfl rfl qD (Yl.load1 tab_ok rfl rfl rfl (fun _ => rfl) ?r5 rfl ?h5) ?_
   case r5 => (exact Rd.ro qU)
   case h5 => rfl
   refine zR 4 rfl ?_
   refine yL (Rd.add (Rd.blk 0 rfl) _) ?_
   refine WG.callV en248 rfl rfl (by decide) (CallOp.mk' rfl rfl rfl rfl) (fun _ => rfl) (fun hg => by have h := Ahead_V (wc := wc) (cls := slotT tb ms.now.toNat) (t := ms.now.toNat) hwr (by omega) (by omega); rw [hnt] at h; exact h) ?_
   refine zR 5 rfl (zN (zU (zQ ?_)))
   refine W.regionQ _ mixed qK ?_
   refine zR 2 rfl ?_
   refine yP ?_
   refine yP ?_
   refine WG.callE en236 rfl rfl qD (CallOp.mk' rfl rfl rfl rfl) qE (fun hg => Size_E w0 hp _ qO (nextW_lt ps _ _).1 _) ?_
   refine yP ?_
   refine yP ?_
   refine yP ?_
   refine yG (Rd.addC (Rd.blkC 0 rfl) _) ?_
   refine yP ?_
   refine WG.y rfl rfl (by decide) (Yl.sub rfl rfl rfl qE (by intro hg; (try simp only [zk] at hg); constructor <;> (try dsimp only) <;> omega)) ?_
   refine' WG.y rfl rfl qD (Yl.loadG tab_ok rfl rfl rfl qE ?r8 rfl ?h8 ?g8) ?_
   case r8 => exact fun _ => Rd.ro h2
   case h8 => rfl
   case g8 => exact fun _ => trivial
   refine WG.y rfl rfl (by decide) (Yl.mul rfl rfl rfl qE (by intro hg; (try simp only [zk] at hg); constructor <;> (try dsimp only) <;> omega)) ?_
   refine WG.y rfl rfl (by decide) (Yl.add rfl rfl rfl qE (by intro hg; (try simp only [zk] at hg); constructor <;> (try dsimp only) <;> omega)) ?_
   refine yP ?_
   refine yN ?_
   refine zN (zU ?_)
   refine W.cond rfl (fun hc2 => ?_) (fun hc2 => ?_)
   ·try simp only [zk] at hc2
    have hch : slotCh ps cap tb ms () = (-1, skipTo ms.begun ms.before, ()) := by rw [slotCh_if hc0 hc1, if_pos hc2]
    refine zQ (zG (zR 1 rfl (zN (zU (zT (wt ?_))))))
    refine WE.retF tab_ok [_] rfl ⟨rfl, trivial⟩ (RLe.refl _) ?_
    exact ⟨by rw [hch]; try rfl, rfl, by rw [hch]; try rfl⟩
   ·try simp only [zk] at hc2
    have hch : slotCh ps cap tb ms () = (nextW ps ms (slotT tb ms.now.toNat), skipTo ms.begun ms.before, ()) := by rw [slotCh_if hc0 hc1, if_neg (fun h => by have := hc2 h.1; omega)]
    refine zK (zU (zQ (zG (zR 2 rfl (zN (zU (zT ?_)))))))
    refine WE.retF tab_ok [_] rfl ⟨rfl, trivial⟩ (RLe.refl _) ?_
    exact ⟨by rw [hch]; try rfl, rfl, by rw [hch]; try rfl⟩





theorem Pri1_C {b5 n : Nat} {R : Ro} {sb : Nat} {pa : Option Addr} {pc bg : Nat} {ps : List Pkt} {ms : MS} (w0 : World) (hp : RS R 3 encP pa ps) (hb : ms.begun.length = ps.length) (hsort : ps.Pairwise fun a b => a.time ≤ b.time) (h5 : R b5 = some [.int .i64 (n : Int)]) (hn : 1 ≤ n ∧ n ≤ 1000) (hgd : goodB ps ms) (F : List Ent) :
  K.Fn Tryz.prog 200 [.pointer (some ⟨sb, 0, none⟩), .pointer (some ⟨b5, 0, none⟩)] w0 R (stE sb pa ps.length pc bg ms :: .sl 4 1 (some ⟨bg, 0, none⟩) ps.length (ms.begun.map encB) :: F) (fun v R' E' => v = .int .i64 (prioCh ps n ms ()).1 ∧ R = R' ∧ E' = stE sb pa ps.length pc bg { ms with before := (prioCh ps n ms ()).2.1 } :: .sl 4 1 (some ⟨bg, 0, none⟩) ps.length (ms.begun.map encB) :: F) := by
 have hch : prioCh ps n ms () = (prioFrom (nextW ps ms) n 0, skipTo ms.begun ms.before, ()) := rfl
 have hla := hp.len
 refine fE 17 Tryz.func200 ?_
 refine zQ (zG (zR 1 rfl (zN (zU (zQ (zQ (zG ?_)))))))
 refine' WG.y rfl rfl qD (Yl.load1 tab_ok rfl rfl rfl (fun _ => rfl) ?r1 rfl ?h1) ?_
 case r1 => exact Rd.ro h5
 case h1 => rfl
 refine zR 1 rfl (zN (zU (zB ?_)))
 refine W.loopK (β := Nat) (fun c => c ≤ n ∧ prioFrom (nextW ps ms) (n - c) c = prioFrom (nextW ps ms) n 0) (fun c => [(7, true, .int .i64 (c : Int))]) [0, 6] [_, _] [] _ rfl (fun c => [(0, stE sb pa ps.length pc bg { ms with before := bfN ms c })]) (fun c => n - c) (0) (⟨Nat.zero_le _, rfl⟩) ⟨rfl, rfl, rfl, rfl⟩ qS ?_
 intro c hst
 dsimp only [zipE, setAll, List.cons_append, List.nil_append, List.set_cons_zero, List.set_cons_succ] at hst ⊢
 
 refine zQ (zG (zR 1 rfl (zN (zU (zQ ?_)))))
 refine W.condD rfl (fun hc0 => ?_) (fun hc0 => ?_)
 ·try dsimp only at hc0
  have hcn : c < n := by omega
  have hgo := hst.2
  rw [show n - c = (n - (c + 1)) + 1 by omega] at hgo
  simp only [prioFrom] at hgo
  refine zK (zU (zQ (zB (zQ (zG (zR 2 rfl (zN (zU (zQ (zG (zR 2 rfl ?_)))))))))))
  refine WL.call en201 rfl rfl qD (CallOp.mkT rfl rfl rfl rfl) (Next_C (ms := { ms with before := bfN ms c }) w0 hp hb (bfN_good hgd hb c) hsort _ _) ?_
  rintro _ _ _ - ⟨rfl, rfl, rfl⟩
  dsimp only
  rw [bfN_skip hgd hb c, show skipTo ms.begun ms.before = bfN ms (c + 1) from (if_neg (by omega)).symm, show nextW ps { ms with before := bfN ms c } (c : Int) = nextW ps ms (c : Int) from rfl]
  have hnl := nextW_lt ps ms (c : Int)
  refine zR 1 rfl (zN (zU (zQ (zG (zR 2 rfl (zN (zU ?_)))))))
  refine W.condD rfl (fun hc1 => ?_) (fun hc1 => ?_)
  ·try dsimp only at hc1
   rw [if_pos hc1] at hgo
   have hbn : bfN ms (c + 1) = skipTo ms.begun ms.before := if_neg (by omega)
   refine zQ (zG (zR 2 rfl (zN (zU (zT (wb (wt (wt (wb (wt ?_))))))))))
   refine WE.retF tab_ok [_] rfl ⟨rfl, trivial⟩ (RLe.refl _) ?_
   exact ⟨by rw [hch]; dsimp only; rw [← hgo]; try rfl, rfl, by rw [hch]; dsimp only; rw [← hbn]⟩
  ·try dsimp only at hc1
   rw [if_neg (by omega)] at hgo
   refine zK (zL (zU (zG ?_)))
   refine yA ?_
   refine zR 1 rfl (zN ?_)
   refine WE.again (c + 1) (⟨by omega, hgo⟩) (by (try dsimp only); omega) ⟨rfl, rfl, rfl, rfl⟩ (RLe.refl _) qS
 ·try dsimp only at hc0
  obtain rfl : c = n := by omega
  have hgo := hst.2
  rw [Nat.sub_self] at hgo
  have hgo : prioFrom (nextW ps ms) c 0 = -1 := by rw [← hgo]; rfl
  have hbn : bfN ms c = skipTo ms.begun ms.before := if_neg (by omega)
  refine zX ?_
  refine wx (wx (zY (zU (zQ (zG (zR 1 rfl (zN (zU (zT ?_)))))))))
  refine WE.retF tab_ok [_] rfl ⟨rfl, trivial⟩ (RLe.refl _) ?_
  exact ⟨by rw [hch]; dsimp only; rw [← hgo]; try rfl, rfl, by rw [hch]; dsimp only; rw [← hbn]⟩

theorem PRun_err {R : Ro} {pa : Option Addr} {pc : Nat} {ps : List Pkt} (hp : RS R 3 encP pa ps) {cap classes ticks : Int} (w0 : World) (hbad : lrunE cap classes ticks ps ≠ 0) (E : List Ent) :
  K.Fn Tryz.prog 197 [.int .i64 cap, .int .i64 classes, .slice pa ps.length pc, .int .i64 ticks] w0 R E (fun v R' E' => v = .tuple #[.agg #[.slice none 0 0, .slice none 0 0], .int .i64 (lrunE cap classes ticks ps)] ∧ R = R' ∧ E.Sublist E') := by
 have hla := hp.len
 refine fE 33 Tryz.func197 ?_
 refine zQ (zG ?_)
 refine zO fun b5 => ?_
 refine zA fun b8 => ?_
 refine zR 1 rfl (zN (zU (zQ (zQ (zG (zR 1 rfl ?_))))))
 refine WG.callV en79 rfl rfl qD (CallOp.mk' rfl rfl rfl rfl) (fun _ => rfl) (fun hg => Validate_V hp) ?_
 refine zR 1 rfl (zN (zU (zQ (zG (zR 2 rfl (zN (zU ?_)))))))
 refine W.condN rfl (fun hc0 => ?_) (fun hc0 => ?_)
 ·try dsimp only at hc0
  have e : lrunE cap classes ticks ps = validate ps := if_pos hc0
  refine zQ (zG ?_)
  -- build
  refine WG.y rfl rfl qD (Yl.build (parts := []) tab_ok rfl rfl rfl rfl (fun _ => rfl) rfl rfl) ?_
  refine zR 1 rfl ?_
  refine zE 0 ?_
  refine zR 1 rfl (zN (zU (zT (wt ?_))))
  refine WE.retF tab_ok [_, _] rfl ⟨⟨_, _, _, rfl, rfl, rfl, qB, rfl⟩, rfl, trivial⟩ (RLe.refl _) ?_
  exact ⟨by rw [e]; rfl, rfl, qS⟩
 ·try dsimp only at hc0
  refine zK (zU (zQ (zQ (zG (zR 1 rfl ?_)))))
  refine yL (Rd.blk 1 rfl) ?_
  refine zR 2 rfl ?_
  refine WG.callV en190 rfl rfl qD (CallOp.mk' rfl rfl rfl rfl) (fun _ => rfl) (fun hg => Check_V hp) ?_
  refine zR 1 rfl (zN (zU (zQ (zG (zR 2 rfl (zN (zU ?_)))))))
  refine W.condN rfl (fun hc1 => ?_) (fun hc1 => ?_)
  ·try dsimp only at hc1
   have e : lrunE cap classes ticks ps = checkE cap classes ticks ps := if_neg (fun h => h hc0)
   refine zQ (zG ?_)
   -- build
   refine WG.y rfl rfl qD (Yl.build (parts := []) tab_ok rfl rfl rfl rfl (fun _ => rfl) rfl rfl) ?_
   refine zR 1 rfl ?_
   refine zE 0 ?_
   refine zR 1 rfl (zN (zU (zT (wt ?_))))
   refine WE.retF tab_ok [_, _] rfl ⟨⟨_, _, _, rfl, rfl, rfl, qB, rfl⟩, rfl, trivial⟩ (RLe.refl _) ?_
   exact ⟨by rw [e]; rfl, rfl, qS⟩
  ·try dsimp only at hc1
   exact absurd (by unfold lrunE; rw [if_neg (fun h => h hc0)]; exact hc1) hbad

theorem PRun_ok {R : Ro} {pa : Option Addr} {pc : Nat} {ps : List Pkt} (hp : RS R 3 encP pa ps) {cap : Int} {ticks nc : Nat} (w0 : World) (hl0 : lrunE cap nc ticks ps = 0) (E : List Ent) :
  K.Fn Tryz.prog 197 [.int .i64 cap, .int .i64 (nc : Int), .slice pa ps.length pc, .int .i64 (ticks : Int)] w0 R E
   (fun v R' E' => ∃ (rows : List Sl) (gd go : Nat) (s : M.RS Unit), s = mrun ps (prioCh ps nc) cap nc ticks () ∧ v = .tuple #[.agg #[.slice (some ⟨gd, 0, none⟩) ps.length ps.length, .slice (some ⟨go, 0, none⟩) nc nc], .int .i64 0] ∧ rows.map Sl.xs = s.sent ∧ (∀ r ∈ rows, r.a.isSome = true) ∧ Inv ps nc (fun ms _ => goodB ps ms) (ticks + 1) (ticks * cap) s ∧
    (.sl 3 1 (some ⟨gd, 0, none⟩) ps.length (s.done.map encI) :: .sl 22 1 (some ⟨go, 0, none⟩) nc (rows.map encS) :: (rows.map (rowE 3) ++ E)).Sublist E') := by
 obtain ⟨hok, hvv, hck, c1, c2, c3, c4, c5, c6, hs, hf⟩ := lrunE_ok hl0
 have hla := hp.len
 refine fE 33 Tryz.func197 ?_
 refine zQ (zG ?_)
 refine zO fun b5 => ?_
 refine zA fun b8 => ?_
 refine zR 1 rfl (zN (zU (zQ (zQ (zG (zR 1 rfl ?_))))))
 refine WG.callV en79 rfl rfl qD (CallOp.mk' rfl rfl rfl rfl) (fun _ => rfl) (fun hg => hvv ▸ Validate_V hp) ?_
 refine zR 1 rfl (zN (zU (zQ (zG (zR 2 rfl (zN (zU ?_)))))))
 refine W.condN rfl (fun hc0 => ?_) (fun hc0 => ?_)
 ·try dsimp only at hc0
  exact absurd rfl hc0
 ·try dsimp only at hc0
  refine zK (zU (zQ (zQ (zG (zR 1 rfl ?_)))))
  refine yL (Rd.blk 1 rfl) ?_
  refine zR 2 rfl ?_
  refine WG.callV en190 rfl rfl qD (CallOp.mk' rfl rfl rfl rfl) (fun _ => rfl) (fun hg => hck ▸ Check_V hp) ?_
  refine zR 1 rfl (zN (zU (zQ (zG (zR 2 rfl (zN (zU ?_)))))))
  refine W.condN rfl (fun hc1 => ?_) (fun hc1 => ?_)
  ·try dsimp only at hc1
   exact absurd rfl hc1
  ·try dsimp only at hc1
   refine zK (zU ?_)
   refine W.freezeBlk 1 rfl ?_
   intro R1 hR1 h5
   have hp := hp.mono hR1
   refine zQ (zG (zR 1 rfl ?_))
   refine' WG.y rfl rfl qD (Yl.load1 tab_ok rfl rfl rfl (fun _ => rfl) ?r2 rfl ?h2) ?_
   case r2 => exact Rd.ro h5
   case h2 => rfl
   refine zR 3 rfl ?_
   have hrun := fun F => MRun_C (pc := pc) (g := 200) (first := #[]) (capd := #[.pointer (some ⟨b5, 0, none⟩)]) (ch := prioCh ps nc) (good := fun ms _ => goodB ps ms) (classes := nc) (cap := cap) (ticks := ticks) (X := fun _ => []) (sg := ()) w0 hp (prio_fair hok.sorted).toGood ⟨by have := hok.len; omega, fun p hp => by have := hs p hp; have := hf p hp; omega⟩ (prio_start _) (by omega) (by omega) (by omega) en200 (fun sb bg ms sg F hgd hbl l1 l2 n1 n2 => Pri1_C w0 hp hbl hok.sorted h5 ⟨by omega, by omega⟩ hgd F) F
   simp only [List.nil_append] at hrun
   refine WL.call en191 rfl rfl qD (CallOp.mkT rfl rfl rfl rfl) (hrun _) ?_
   rintro _ _ E2 - ⟨rows, gd, go, s, hsr, rfl, rfl, h1, h2, h3, hsub⟩
   refine WL.subE hsub ?_
   refine WL.perm (List.perm_middle (l₁ := _ :: _ :: rows.map (rowE 3))) ?_
   refine zE 0 ?_
   refine zR 1 rfl (zN (zU (zT ?_)))
   refine WE.retF tab_ok [_, _] rfl ⟨⟨_, _, _, rfl, rfl, rfl, qB, rfl⟩, rfl, trivial⟩ (hR1) ?_
   exact ⟨rows, gd, go, s, hsr, rfl, h1, h2, h3, qS⟩




theorem LRun_anyC {R : Ro} {pa : Option Addr} {pc l : Nat} {ps : List Pkt} (hp : RS R 3 encP pa ps) (hl : ps.length = l) {cap classes ticks : Int} (w0 : World) (E : List Ent) :
  K.Fn Tryz.prog 189 [.int .i64 cap, .int .i64 classes, .slice pa l pc, .int .i64 ticks] w0 R E (fun v R' E' => ∃ (da oa : Option Addr) (dc oc : Nat) (rows : List Sl), v = .tuple #[.agg #[.slice da (lineOut cap classes ticks ps).1.length dc, .slice oa rows.length oc], .int .i64 (lrunE cap classes ticks ps)] ∧ RS R' 1 encI da (lineOut cap classes ticks ps).1 ∧ RS R' 1 encS oa rows ∧ (∀ r ∈ rows, RS R' 1 encI r.a r.xs) ∧ rows.map Sl.xs = (lineOut cap classes ticks ps).2 ∧ (∀ r ∈ rows, r.xs.length ≤ r.cap) ∧ E.Sublist E') := by
 subst hl
 by_cases h : lrunE cap classes ticks ps = 0
 ·obtain ⟨hok, hv, hck, c1, c2, c3, c4, c5, c6, hs, hf⟩ := lrunE_ok h
  obtain ⟨nc, rfl⟩ := Int.eq_ofNat_of_zero_le (show 0 ≤ classes by omega)
  obtain ⟨nt, rfl⟩ := Int.eq_ofNat_of_zero_le c5
  have ho : lineOut cap nc nt ps = ((mrun ps (fifo ps) cap nc nt ()).done, (mrun ps (fifo ps) cap nc nt ()).sent) := by unfold lineOut; rw [if_neg (by omega)]; rfl
  intro w hm
  refine (LRun_ok (pc := pc) hp w0 hok hck E w hm).mono ?_
  rintro e w' ⟨v, R', E', rfl, hR, hm', rows, gd, go, s, rfl, rfl, rfl, h1, h2, h3, hsub⟩
  have hm1 := hm'.sub (RLe.refl _) hsub
  obtain ⟨R1, g1, g2, g3⟩ := hm1.freeze (i := 0) (enc := encI) (xs := (mrun ps (fifo ps) cap nc nt ()).done) rfl
  obtain ⟨R2, k1, k2, k3⟩ := g3.freeze (i := 0) (enc := encS) (xs := rows) rfl
  obtain ⟨R3, j1, j2, j3⟩ := Mem.freezeRows (rows := rows) (G := E) k3
  have hcapp := Mem.rowsCap (rows := rows) (G := E) k3
  have hdl := h3.done
  have hlr : rows.length = nc := by rw [← h3.sent, ← h1, List.length_map]
  refine ⟨_, R3, E, rfl, g1.trans (k1.trans j1), j3, some ⟨gd, 0, none⟩, some ⟨go, 0, none⟩, ps.length, nc, rows, ?_, ?_, k2.mono j1, j2, ?_, hcapp, List.Sublist.refl _⟩
  ·rw [ho, h]; dsimp only; rw [hdl, hlr]
  ·rw [ho]; exact g2.mono (k1.trans j1)
  ·rw [ho]; exact h1
 ·refine (LRun_err hp w0 h E).mono ?_
  rintro v R' E' hR ⟨rfl, rfl, hsub⟩
  have ho : lineOut cap classes ticks ps = ([], []) := by unfold lineOut; rw [if_pos h]
  exact ⟨none, none, 0, 0, [], by rw [ho]; rfl, by rw [ho]; exact rs_nil, rs_nil, by simp, by rw [ho]; rfl, by simp, hsub⟩

theorem PRun_anyC {R : Ro} {pa : Option Addr} {pc l : Nat} {ps : List Pkt} (hp : RS R 3 encP pa ps) (hl : ps.length = l) {cap classes ticks : Int} (w0 : World) (E : List Ent) :
  K.Fn Tryz.prog 197 [.int .i64 cap, .int .i64 classes, .slice pa l pc, .int .i64 ticks] w0 R E (fun v R' E' => ∃ (da oa : Option Addr) (dc oc : Nat) (rows : List Sl), v = .tuple #[.agg #[.slice da (outOf (lrunE cap classes ticks ps) (mrun ps (prioCh ps classes.toNat) cap classes.toNat ticks.toNat ())).1.length dc, .slice oa rows.length oc], .int .i64 (lrunE cap classes ticks ps)] ∧ RS R' 1 encI da (outOf (lrunE cap classes ticks ps) (mrun ps (prioCh ps classes.toNat) cap classes.toNat ticks.toNat ())).1 ∧ RS R' 1 encS oa rows ∧ (∀ r ∈ rows, RS R' 1 encI r.a r.xs) ∧ rows.map Sl.xs = (outOf (lrunE cap classes ticks ps) (mrun ps (prioCh ps classes.toNat) cap classes.toNat ticks.toNat ())).2 ∧ (∀ r ∈ rows, r.xs.length ≤ r.cap) ∧ E.Sublist E') := by
 subst hl
 by_cases h : lrunE cap classes ticks ps = 0
 ·obtain ⟨hok, hvv, hck, c1, c2, c3, c4, c5, c6, hs, hf⟩ := lrunE_ok h
  obtain ⟨nc, rfl⟩ := Int.eq_ofNat_of_zero_le (show 0 ≤ classes by omega)
  obtain ⟨nt, rfl⟩ := Int.eq_ofNat_of_zero_le c5
  simp only [Int.toNat_natCast]
  intro x hm
  refine (PRun_ok (pc := pc) hp w0 h E x hm).mono ?_
  rintro e w' ⟨v, R', E', rfl, hR, hm', rows, gd, go, s, rfl, rfl, h1, h2, h3, hsub⟩
  have hm1 := hm'.sub (RLe.refl _) hsub
  obtain ⟨R1, g1, g2, g3⟩ := hm1.freeze (i := 0) (enc := encI) (xs := (mrun ps (prioCh ps nc) cap nc nt ()).done) rfl
  obtain ⟨R2, k1, k2, k3⟩ := g3.freeze (i := 0) (enc := encS) (xs := rows) rfl
  obtain ⟨R3, j1, j2, j3⟩ := Mem.freezeRows (rows := rows) (G := E) k3
  have hcapp := Mem.rowsCap (rows := rows) (G := E) k3
  have hdl := h3.done
  have hlr : rows.length = nc := by rw [← h3.sent, ← h1, List.length_map]
  unfold outOf
  rw [if_neg (by omega), h]
  refine ⟨_, R3, E, rfl, hR.trans (g1.trans (k1.trans j1)), j3, some ⟨gd, 0, none⟩, some ⟨go, 0, none⟩, ps.length, nc, rows, ?_, g2.mono (k1.trans j1), k2.mono j1, j2, h1, hcapp, List.Sublist.refl _⟩
  dsimp only; rw [hdl, hlr]
 ·refine (PRun_err hp w0 h E).mono ?_
  rintro v R' E' hR ⟨rfl, rfl, hsub⟩
  unfold outOf
  rw [if_pos h]
  exact ⟨none, none, 0, 0, [], rfl, rs_nil, rs_nil, by simp, rfl, by simp, hsub⟩


theorem Robin_anyC {R : Ro} {pa wa : Option Addr} {pc wc l : Nat} {ps : List Pkt} {w : List Int} (hp : RS R 3 encP pa ps) (hl : ps.length = l) (hwr : RS R 1 encI wa w) {wl : Nat} (hwl : w.length = wl) {cap ticks : Int} (w0 : World) (E : List Ent) :
  K.Fn Tryz.prog 212 [.int .i64 cap, .slice wa wl wc, .slice pa l pc, .int .i64 ticks] w0 R E (fun v R' E' => ∃ (da oa : Option Addr) (dc oc : Nat) (rows : List Sl), v = .tuple #[.agg #[.slice da (outOf (wrunE 20 cap ticks w ps) (mrun ps (robinCh ps w) cap w.length ticks.toNat ((0, nth w 0) : Nat × Int))).1.length dc, .slice oa rows.length oc], .int .i64 (wrunE 20 cap ticks w ps)] ∧ RS R' 1 encI da (outOf (wrunE 20 cap ticks w ps) (mrun ps (robinCh ps w) cap w.length ticks.toNat ((0, nth w 0) : Nat × Int))).1 ∧ RS R' 1 encS oa rows ∧ (∀ r ∈ rows, RS R' 1 encI r.a r.xs) ∧ rows.map Sl.xs = (outOf (wrunE 20 cap ticks w ps) (mrun ps (robinCh ps w) cap w.length ticks.toNat ((0, nth w 0) : Nat × Int))).2 ∧ (∀ r ∈ rows, r.xs.length ≤ r.cap) ∧ E.Sublist E') := by
 subst hl
 subst hwl
 by_cases h : wrunE 20 cap ticks w ps = 0
 ·obtain ⟨hl0, hkw⟩ := wrunE_ok h
  obtain ⟨hok, hvv, hck, c1, c2, c3, c4, c5, c6, hs, hf⟩ := lrunE_ok hl0
  obtain ⟨nt, rfl⟩ := Int.eq_ofNat_of_zero_le c5
  simp only [Int.toNat_natCast]
  intro x hm
  refine (Robin_ok (pc := pc) hp hwr w0 h E x hm).mono ?_
  rintro e w' ⟨v, R', E', rfl, hR, hm', rows, gd, go, s, rfl, rfl, rfl, h1, h2, h3, hsub⟩
  have hm1 := hm'.sub (RLe.refl _) hsub
  obtain ⟨R1, g1, g2, g3⟩ := hm1.freeze (i := 0) (enc := encI) (xs := (mrun ps (robinCh ps w) cap w.length nt ((0, nth w 0) : Nat × Int)).done) rfl
  obtain ⟨R2, k1, k2, k3⟩ := g3.freeze (i := 0) (enc := encS) (xs := rows) rfl
  obtain ⟨R3, j1, j2, j3⟩ := Mem.freezeRows (rows := rows) (G := E) k3
  have hcapp := Mem.rowsCap (rows := rows) (G := E) k3
  have hdl := h3.done
  have hlr : rows.length = w.length := by rw [← h3.sent, ← h1, List.length_map]
  unfold outOf
  rw [if_neg (by omega), h]
  refine ⟨_, R3, E, rfl, g1.trans (k1.trans j1), j3, some ⟨gd, 0, none⟩, some ⟨go, 0, none⟩, ps.length, w.length, rows, ?_, g2.mono (k1.trans j1), k2.mono j1, j2, h1, hcapp, List.Sublist.refl _⟩
  dsimp only; rw [hdl, hlr]
 ·refine (Robin_err hp hwr w0 h E).mono ?_
  rintro v R' E' hR ⟨rfl, rfl, hsub⟩
  unfold outOf
  rw [if_pos h]
  exact ⟨none, none, 0, 0, [], rfl, rs_nil, rs_nil, by simp, rfl, by simp, hsub⟩


theorem Def_anyC {R : Ro} {pa wa : Option Addr} {pc wc l : Nat} {ps : List Pkt} {w : List Int} (hp : RS R 3 encP pa ps) (hl : ps.length = l) (hwr : RS R 1 encI wa w) {wl : Nat} (hwl : w.length = wl) {cap ticks : Int} (w0 : World) (E : List Ent) :
  K.Fn Tryz.prog 228 [.int .i64 cap, .slice wa wl wc, .slice pa l pc, .int .i64 ticks] w0 R E (fun v R' E' => ∃ (da oa : Option Addr) (dc oc : Nat) (rows : List Sl), v = .tuple #[.agg #[.slice da (outOf (wrunE 6000 cap ticks w ps) (mrun ps (defCh ps w) cap w.length ticks.toNat (def0 w.length))).1.length dc, .slice oa rows.length oc], .int .i64 (wrunE 6000 cap ticks w ps)] ∧ RS R' 1 encI da (outOf (wrunE 6000 cap ticks w ps) (mrun ps (defCh ps w) cap w.length ticks.toNat (def0 w.length))).1 ∧ RS R' 1 encS oa rows ∧ (∀ r ∈ rows, RS R' 1 encI r.a r.xs) ∧ rows.map Sl.xs = (outOf (wrunE 6000 cap ticks w ps) (mrun ps (defCh ps w) cap w.length ticks.toNat (def0 w.length))).2 ∧ (∀ r ∈ rows, r.xs.length ≤ r.cap) ∧ E.Sublist E') := by
 subst hl
 subst hwl
 by_cases h : wrunE 6000 cap ticks w ps = 0
 ·obtain ⟨hl0, hkw⟩ := wrunE_ok h
  obtain ⟨hok, hvv, hck, c1, c2, c3, c4, c5, c6, hs, hf⟩ := lrunE_ok hl0
  obtain ⟨nt, rfl⟩ := Int.eq_ofNat_of_zero_le c5
  simp only [Int.toNat_natCast]
  intro x hm
  refine (Def_ok (pc := pc) hp hwr w0 h E x hm).mono ?_
  rintro e w' ⟨v, R', E', rfl, hR, hm', rows, gd, go, s, rfl, rfl, rfl, h1, h2, h3, hsub⟩
  have hm1 := hm'.sub (RLe.refl _) hsub
  obtain ⟨R1, g1, g2, g3⟩ := hm1.freeze (i := 0) (enc := encI) (xs := (mrun ps (defCh ps w) cap w.length nt (def0 w.length)).done) rfl
  obtain ⟨R2, k1, k2, k3⟩ := g3.freeze (i := 0) (enc := encS) (xs := rows) rfl
  obtain ⟨R3, j1, j2, j3⟩ := Mem.freezeRows (rows := rows) (G := E) k3
  have hcapp := Mem.rowsCap (rows := rows) (G := E) k3
  have hdl := h3.done
  have hlr : rows.length = w.length := by rw [← h3.sent, ← h1, List.length_map]
  unfold outOf
  rw [if_neg (by omega), h]
  refine ⟨_, R3, E, rfl, g1.trans (k1.trans j1), j3, some ⟨gd, 0, none⟩, some ⟨go, 0, none⟩, ps.length, w.length, rows, ?_, g2.mono (k1.trans j1), k2.mono j1, j2, h1, hcapp, List.Sublist.refl _⟩
  dsimp only; rw [hdl, hlr]
 ·refine (Def_err hp hwr w0 h E).mono ?_
  rintro v R' E' hR ⟨rfl, rfl, hsub⟩
  unfold outOf
  rw [if_pos h]
  exact ⟨none, none, 0, 0, [], rfl, rs_nil, rs_nil, by simp, rfl, by simp, hsub⟩

theorem RunFifo_C {R : Ro} {pa : Option Addr} {pc l : Nat} {ps : List Pkt} (hp : RS R 3 encP pa ps) (hl : ps.length = l) {ticks : Int} {aw at_ : Option Addr} {lw cw lt ct : Nat} {L : Ln} (hw : RS R 1 encI aw L.w) (hlw : L.w.length = lw) (ht : RS R 1 encI at_ L.tb) (hlt : L.tb.length = lt) (hn : 1 ≤ L.n ∧ L.n ≤ 6) (hk : L.kind = 1) (w0 : World) (E : List Ent) : K.Fn Tryz.prog 186 [.agg #[], .agg #[.int .i64 L.kind, .int .i64 L.cap, .int .i64 L.n, .slice aw lw cw, .slice at_ lt ct], .slice pa l pc, .int .i64 ticks] w0 R E (RunV (runL L ticks ps) E (fun r => .tuple #[r, .int .i64 (runE L ticks ps)])) := by
 have e1 : lineOut L.cap L.n ticks ps = runL L ticks ps := by simp [runL, runE, sendL, lineOut, hk]
 have e2 : lrunE L.cap L.n ticks ps = runE L ticks ps := by simp [runE, hk]
 refine fE 19 Tryz.func186 ?_
 refine zQ (zG ?_)
 refine zO fun b4 => ?_
 refine zO fun b5 => ?_
 refine zA fun b8 => ?_
 refine zR 1 rfl (zN (zU (zQ (zG (zR 1 rfl ?_)))))
 refine yL (Rd.add (Rd.blk 1 rfl) _) ?_
 refine zR 1 rfl ?_
 refine yL (Rd.add (Rd.blk 1 rfl) _) ?_
 refine zR 2 rfl ?_
 refine WL.call en189 rfl rfl qD (CallOp.mkT rfl rfl rfl rfl) (LRun_anyC hp hl w0 _) ?_
 rintro _ R2 E2 hR2 ⟨da, oa, dc, oc, rows, rfl, hd, ho, hrw, hrx, hcp, hsub⟩
 refine WL.subE hsub ?_
 rw [e1] at hd hrx
 rw [e1, e2]
 refine zR 2 rfl ?_
 refine zE 0 ?_
 refine zR 1 rfl (zN (zU (zT ?_)))
 refine WE.retF tab_ok [_, _] rfl ⟨⟨_, _, _, rfl, rfl, rfl, qB, rfl⟩, rfl, trivial⟩ (hR2) ?_
 exact ⟨da, oa, dc, oc, rows, rfl, hd, ho, hrw, hrx, hcp, qS⟩

theorem RunRanks_C {R : Ro} {pa : Option Addr} {pc l : Nat} {ps : List Pkt} (hp : RS R 3 encP pa ps) (hl : ps.length = l) {ticks : Int} {aw at_ : Option Addr} {lw cw lt ct : Nat} {L : Ln} (hw : RS R 1 encI aw L.w) (hlw : L.w.length = lw) (ht : RS R 1 encI at_ L.tb) (hlt : L.tb.length = lt) (hn : 1 ≤ L.n ∧ L.n ≤ 6) (hk : L.kind = 2) (w0 : World) (E : List Ent) : K.Fn Tryz.prog 195 [.agg #[], .agg #[.int .i64 L.kind, .int .i64 L.cap, .int .i64 L.n, .slice aw lw cw, .slice at_ lt ct], .slice pa l pc, .int .i64 ticks] w0 R E (RunV (runL L ticks ps) E (fun r => .tuple #[r, .int .i64 (runE L ticks ps)])) := by
 have e1 : outOf (lrunE L.cap L.n ticks ps) (mrun ps (prioCh ps L.n.toNat) L.cap L.n.toNat ticks.toNat ()) = runL L ticks ps := by simp [runL, runE, sendL, outOf, hk]
 have e2 : lrunE L.cap L.n ticks ps = runE L ticks ps := by simp [runE, hk]
 refine fE 19 Tryz.func195 ?_
 refine zQ (zG ?_)
 refine zO fun b4 => ?_
 refine zO fun b5 => ?_
 refine zA fun b8 => ?_
 refine zR 1 rfl (zN (zU (zQ (zG (zR 1 rfl ?_)))))
 refine yL (Rd.add (Rd.blk 1 rfl) _) ?_
 refine zR 1 rfl ?_
 refine yL (Rd.add (Rd.blk 1 rfl) _) ?_
 refine zR 2 rfl ?_
 refine WL.call en197 rfl rfl qD (CallOp.mkT rfl rfl rfl rfl) (PRun_anyC hp hl w0 _) ?_
 rintro _ R2 E2 hR2 ⟨da, oa, dc, oc, rows, rfl, hd, ho, hrw, hrx, hcp, hsub⟩
 refine WL.subE hsub ?_
 rw [e1] at hd hrx
 rw [e1, e2]
 refine zR 2 rfl ?_
 refine zE 0 ?_
 refine zR 1 rfl (zN (zU (zT ?_)))
 refine WE.retF tab_ok [_, _] rfl ⟨⟨_, _, _, rfl, rfl, rfl, qB, rfl⟩, rfl, trivial⟩ (hR2) ?_
 exact ⟨da, oa, dc, oc, rows, rfl, hd, ho, hrw, hrx, hcp, qS⟩

theorem RunRobin_C {R : Ro} {pa : Option Addr} {pc l : Nat} {ps : List Pkt} (hp : RS R 3 encP pa ps) (hl : ps.length = l) {ticks : Int} {aw at_ : Option Addr} {lw cw lt ct : Nat} {L : Ln} (hw : RS R 1 encI aw L.w) (hlw : L.w.length = lw) (ht : RS R 1 encI at_ L.tb) (hlt : L.tb.length = lt) (hn : 1 ≤ L.n ∧ L.n ≤ 6) (hk : L.kind = 3) (hwn : (L.w.length : Int) = L.n) (w0 : World) (E : List Ent) : K.Fn Tryz.prog 209 [.agg #[], .agg #[.int .i64 L.kind, .int .i64 L.cap, .int .i64 L.n, .slice aw lw cw, .slice at_ lt ct], .slice pa l pc, .int .i64 ticks] w0 R E (RunV (runL L ticks ps) E (fun r => .tuple #[r, .int .i64 (runE L ticks ps)])) := by
 have e1 : outOf (wrunE 20 L.cap ticks L.w ps) (mrun ps (robinCh ps L.w) L.cap L.w.length ticks.toNat ((0, nth L.w 0) : Nat × Int)) = runL L ticks ps := by simp [runL, runE, sendL, outOf, hk]
 have e2 : wrunE 20 L.cap ticks L.w ps = runE L ticks ps := by simp [runE, hk]
 refine fE 19 Tryz.func209 ?_
 refine zQ (zG ?_)
 refine zO fun b4 => ?_
 refine zO fun b5 => ?_
 refine zA fun b8 => ?_
 refine zR 1 rfl (zN (zU (zQ (zG (zR 1 rfl ?_)))))
 refine yL (Rd.add (Rd.blk 1 rfl) _) ?_
 refine zR 1 rfl ?_
 refine yL (Rd.add (Rd.blk 1 rfl) _) ?_
 refine zR 2 rfl ?_
 refine WL.call en212 rfl rfl qD (CallOp.mkT rfl rfl rfl rfl) (Robin_anyC hp hl hw hlw w0 _) ?_
 rintro _ R2 E2 hR2 ⟨da, oa, dc, oc, rows, rfl, hd, ho, hrw, hrx, hcp, hsub⟩
 refine WL.subE hsub ?_
 rw [e1] at hd hrx
 rw [e1, e2]
 refine zR 2 rfl ?_
 refine zE 0 ?_
 refine zR 1 rfl (zN (zU (zT ?_)))
 refine WE.retF tab_ok [_, _] rfl ⟨⟨_, _, _, rfl, rfl, rfl, qB, rfl⟩, rfl, trivial⟩ (hR2) ?_
 exact ⟨da, oa, dc, oc, rows, rfl, hd, ho, hrw, hrx, hcp, qS⟩

theorem RunDef_C {R : Ro} {pa : Option Addr} {pc l : Nat} {ps : List Pkt} (hp : RS R 3 encP pa ps) (hl : ps.length = l) {ticks : Int} {aw at_ : Option Addr} {lw cw lt ct : Nat} {L : Ln} (hw : RS R 1 encI aw L.w) (hlw : L.w.length = lw) (ht : RS R 1 encI at_ L.tb) (hlt : L.tb.length = lt) (hn : 1 ≤ L.n ∧ L.n ≤ 6) (hk : L.kind = 4) (hwn : (L.w.length : Int) = L.n) (w0 : World) (E : List Ent) : K.Fn Tryz.prog 226 [.agg #[], .agg #[.int .i64 L.kind, .int .i64 L.cap, .int .i64 L.n, .slice aw lw cw, .slice at_ lt ct], .slice pa l pc, .int .i64 ticks] w0 R E (RunV (runL L ticks ps) E (fun r => .tuple #[r, .int .i64 (runE L ticks ps)])) := by
 have e1 : outOf (wrunE 6000 L.cap ticks L.w ps) (mrun ps (defCh ps L.w) L.cap L.w.length ticks.toNat (def0 L.w.length)) = runL L ticks ps := by simp [runL, runE, sendL, outOf, hk]
 have e2 : wrunE 6000 L.cap ticks L.w ps = runE L ticks ps := by simp [runE, hk]
 refine fE 19 Tryz.func226 ?_
 refine zQ (zG ?_)
 refine zO fun b4 => ?_
 refine zO fun b5 => ?_
 refine zA fun b8 => ?_
 refine zR 1 rfl (zN (zU (zQ (zG (zR 1 rfl ?_)))))
 refine yL (Rd.add (Rd.blk 1 rfl) _) ?_
 refine zR 1 rfl ?_
 refine yL (Rd.add (Rd.blk 1 rfl) _) ?_
 refine zR 2 rfl ?_
 refine WL.call en228 rfl rfl qD (CallOp.mkT rfl rfl rfl rfl) (Def_anyC hp hl hw hlw w0 _) ?_
 rintro _ R2 E2 hR2 ⟨da, oa, dc, oc, rows, rfl, hd, ho, hrw, hrx, hcp, hsub⟩
 refine WL.subE hsub ?_
 rw [e1] at hd hrx
 rw [e1, e2]
 refine zR 2 rfl ?_
 refine zE 0 ?_
 refine zR 1 rfl (zN (zU (zT ?_)))
 refine WE.retF tab_ok [_, _] rfl ⟨⟨_, _, _, rfl, rfl, rfl, qB, rfl⟩, rfl, trivial⟩ (hR2) ?_
 exact ⟨da, oa, dc, oc, rows, rfl, hd, ho, hrw, hrx, hcp, qS⟩



theorem Common_V {R : Ro} {a b : Nat} (ha : a ≤ 1000000000) (hb : 0 < b ∧ b ≤ 1000000) : FnV Tryz.prog 145 [.int .i64 (a : Int), .int .i64 (b : Int)] R (.int .i64 ((a / Nat.gcd a b * b : Nat) : Int)) := by
 refine Fn.toV (fun w0 E => ?_)
 have hg : 0 < Nat.gcd a b := Nat.gcd_pos_of_pos_right _ hb.1
 have hq : ((a : Int) / (Nat.gcd a b : Int) * (b : Int)) ≤ 1000000000 * 1000000 ∧ 0 ≤ ((a : Int) / (Nat.gcd a b : Int) * (b : Int)) := by
  have h1 : a / Nat.gcd a b * b ≤ 1000000000 * 1000000 := Nat.mul_le_mul (Nat.le_trans (Nat.div_le_self _ _) ha) hb.2
  have e : ((a : Int) / (Nat.gcd a b : Int) * (b : Int)) = ((a / Nat.gcd a b * b : Nat) : Int) := rfl
  omega
 refine fE 20 Tryz.func145 ?_
 refine zQ (zG (zR 1 rfl (zN (zU (zQ (zG (zR 4 rfl (zN (zU (zQ (zB ?_)))))))))))
 refine W.loopK (β := Nat × Nat) (fun (x, y) => Nat.gcd x y = Nat.gcd a b) (fun (x, y) => [(5, true, .int .i64 (x : Int)), (6, true, .int .i64 (y : Int))]) [0, 1] [_, _] [] _ rfl (fun (x, y) => []) (fun (x, y) => y) ((a, b)) (rfl) ⟨rfl, rfl, rfl, rfl, rfl⟩ qS ?_
 intro st hst
 obtain ⟨x, y⟩ := st
 dsimp only [zipE, setAll, List.cons_append, List.nil_append, List.set_cons_zero, List.set_cons_succ] at hst ⊢
 
 refine zQ (zQ (zG (zR 2 rfl (zN (zU ?_)))))
 refine W.condN rfl (fun hc0 => ?_) (fun hc0 => ?_)
 ·try dsimp only at hc0
  refine zK (zU (zB ?_))
  refine W.regionQ _ mixed qK ?_
  refine zR 3 rfl ?_
  refine WG.y rfl rfl qD (Yl.rem rfl rfl rfl (fun _ => rfl) qN qN) ?_
  refine zR 2 rfl (zN (zL ?_))
  refine WE.again ((y, x % y)) ((gcd_step x y).trans hst) (by dsimp only; exact Nat.mod_lt _ qO) ⟨rfl, rfl, rfl, rfl, rfl⟩ (RLe.refl _) qS
 ·try dsimp only at hc0
  obtain rfl : y = 0 := by omega
  rw [Nat.gcd_zero_right] at hst
  subst hst
  refine zX ?_
  refine wx (wx (zY (zU (zQ (zG (zR 2 rfl ?_))))))
  refine WG.y rfl rfl qD (Yl.quo rfl rfl rfl (fun _ => rfl) qA (by intro _; omega)) ?_
  refine zR 1 rfl ?_
  refine WG.y rfl rfl qD (Yl.mul rfl rfl rfl (fun _ => rfl) qA) ?_
  refine zR 1 rfl (zN (zU (zT ?_)))
  refine sE (E := E) ?_
  refine WE.retF tab_ok [_] rfl ⟨rfl, trivial⟩ (RLe.refl _) ?_
  exact ⟨rfl, rfl⟩

theorem Rounds_V {R : Ro} {low cap : Nat} (hl : low ≤ 1000000) (hc : 0 < cap ∧ cap ≤ 4000) : FnV Tryz.prog 217 [.int .i64 (low : Int), .int .i64 (cap : Int)] R (rvR (shortN low cap) cap) := by
 refine Fn.toV (fun w0 E => ?_)
 refine fE 23 Tryz.func217 ?_
 refine zQ (zG (zR 3 rfl (zN (zU (zQ (zQ (zG (zR 2 rfl (zN (zU (zB ?_)))))))))))
 refine W.loopK (β := Nat) (fun s => low ≤ s ∧ s ≤ max low (120 * cap + 1) ∧ ∀ j, low ≤ j → j < s → ¬ j / Nat.gcd j cap ≤ 120) (fun s => [(4, true, .int .i64 (s : Int))]) [1] [_] [] _ rfl (fun s => []) (fun s => 120 * cap + 1 - s) (low) (⟨Nat.le_refl _, by omega, fun j a b => by omega⟩) ⟨rfl, rfl, rfl⟩ qS ?_
 intro s hst
 dsimp only [zipE, setAll, List.cons_append, List.nil_append, List.set_cons_zero, List.set_cons_succ] at hst ⊢
 obtain ⟨h1, h2, h3⟩ := hst
 refine zQ (zQ (zG (zR 2 rfl ?_)))
 refine WG.y rfl rfl qD (Yl.mul rfl rfl rfl (fun _ => rfl) qA) ?_
 refine zR 1 rfl (zN (zU ?_))
 refine W.condD rfl (fun hc0 => ?_) (fun hc0 => ?_)
 ·try dsimp only at hc0
  have hq : s / Nat.gcd s cap * cap / cap = s / Nat.gcd s cap := Nat.mul_div_cancel _ (by omega)
  have hq0 : (0 : Int) ≤ ((s / Nat.gcd s cap * cap : Nat) : Int) := by omega
  have hq1 : s / Nat.gcd s cap * cap ≤ 1000000 * 4000 := Nat.mul_le_mul (Nat.le_trans (Nat.div_le_self _ _) (by omega)) (by omega)
  have eq2 : ((s / Nat.gcd s cap * cap : Nat) : Int) / (cap : Int) = ((s / Nat.gcd s cap : Nat) : Int) := (show ((s / Nat.gcd s cap * cap : Nat) : Int) / (cap : Int) = ((s / Nat.gcd s cap * cap / cap : Nat) : Int) from rfl).trans (congrArg _ hq)
  refine zK (zU (zQ (zB (zQ (zG (zR 2 rfl ?_))))))
  refine WG.callV en145 rfl rfl qD (CallOp.mk' rfl rfl rfl rfl) (fun _ => rfl) (fun hg => Common_V qO qO) ?_
  refine zR 1 rfl ?_
  refine WG.y rfl rfl qD (Yl.quo rfl rfl rfl (fun _ => rfl) qA (by intro _; omega)) ?_
  refine zR 1 rfl (zN (zU (zQ (zG (zR 2 rfl (zN (zU ?_)))))))
  refine W.condD rfl (fun hc1 => ?_) (fun hc1 => ?_)
  ·try dsimp only at hc1
   have hh : s / Nat.gcd s cap ≤ 120 := by rw [eq2] at hc1; omega
   refine zQ (zG (zR 5 rfl (zN (zU (zT (wb (wt (wt (wb (wt ?_))))))))))
   refine sE (E := E) ?_
   refine WE.retF tab_ok [_, _, _] rfl ⟨rfl, rfl, rfl, trivial⟩ (RLe.refl _) ?_
   exact ⟨by rw [shortN_some h1 (by omega) hh h3, rvR_some, eq2]; rfl, rfl⟩
  ·try dsimp only at hc1
   have hno : ¬ s / Nat.gcd s cap ≤ 120 := by rw [eq2] at hc1; omega
   refine zK (zL (zU (zG (zR 1 rfl ?_))))
   refine yA ?_
   refine zR 1 rfl (zN ?_)
   refine WE.again (s + 1) (⟨by omega, by omega, fun j a b => by
    by_cases e : j = s
    ·subst e; intro h; exact hno h
    ·exact h3 j a (by omega)⟩) (by (try dsimp only); omega) ⟨rfl, rfl, rfl⟩ (RLe.refl _) qS
 ·try dsimp only at hc0
  refine zX ?_
  refine wx (wx (zY (zU (zQ (zG (zR 3 rfl (zN (zU (zT ?_)))))))))
  refine sE (E := E) ?_
  refine WE.retF tab_ok [_, _, _] rfl ⟨rfl, rfl, rfl, trivial⟩ (RLe.refl _) ?_
  exact ⟨by rw [shortN_none (s := s) (by omega) h3]; rfl, rfl⟩

theorem FirstH_V {R : Ro} {f : FuncId} {fi ca : Array Value} {H : Nat → Bool} {b : Nat} (hE : Enters Tryz.prog f) (hb : b ≤ 1000000000000000) (hHb : H b = true) (hm : ∀ y y', H y = true → y ≤ y' → H y' = true) (hF : ∀ y : Nat, y ≤ 2 * b + 1 → FnV Tryz.prog f (fi.toList ++ [.int .i64 (y : Int)] ++ ca.toList) R (.bool (H y))) :
  FnV Tryz.prog 219 [.func (.func f) fi ca] R (.int .i64 (leastY H b : Int)) := by
 refine Fn.toV (fun w0 E => ?_)
 refine fE 29 Tryz.func219 ?_
 refine zQ (zG (zR 1 rfl (zN (zU (zQ (zG (zR 1 rfl (zN (zU (zQ (zB ?_)))))))))))
 refine W.loopK (β := Nat) (fun h => 1 ≤ h ∧ (h = 1 ∨ h ≤ 2 * b) ∧ h ≤ 2 * b + 1) (fun h => [(3, true, .int .i64 (h : Int))]) [0] [_] [] _ rfl (fun h => []) (fun h => 2 * b + 2 - h) (1) (⟨by omega, .inl rfl, by omega⟩) ⟨rfl, rfl, rfl⟩ qS ?_
 intro h hst
 dsimp only [zipE, setAll, List.cons_append, List.nil_append, List.set_cons_zero, List.set_cons_succ] at hst ⊢
 have hcl : FnV Tryz.prog f (fi.toList ++ [.int .i64 ((h : Int) - 1)] ++ ca.toList) R (.bool (H (h - 1))) := by
  have := hF (h - 1) (by omega)
  rwa [show ((h - 1 : Nat) : Int) = (h : Int) - 1 by omega] at this
 refine zQ (zQ (zG (zR 2 rfl ?_)))
 refine yS ?_
 refine WG.callV (v := .bool (H (h - 1))) hE rfl rfl qD (CallOp.mk' rfl rfl rfl rfl) (fun _ => rfl) (fun hg => hcl) ?_
 refine zR 1 rfl (zN (zU ?_))
 refine W.cond rfl (fun hc0 => ?_) (fun hc0 => ?_)
 ·try simp only [zk] at hc0
  have hlt : h - 1 < b := by
   apply Classical.byContradiction
   intro hh
   rw [hm b (h - 1) hHb (by omega)] at hc0
   cases hc0
  refine zK (zU (zB (zG (zR 1 rfl ?_))))
  refine WG.y rfl rfl qD (Yl.mul rfl rfl rfl (fun _ => rfl) qA) ?_
  refine zR 1 rfl (zN (zL ?_))
  refine WE.again (2 * h) (⟨by omega, .inr qO, by omega⟩) (by (try dsimp only); omega) ⟨vint qO, rfl, rfl⟩ (RLe.refl _) qS
 ·try simp only [zk] at hc0
  have hH : H (h - 1) = true := by simpa using hc0
  refine zX ?_
  refine wx (wx (zY (zU (zQ (zG (zR 1 rfl (zN (zU (zQ (zQ (zG (zR 1 rfl ?_))))))))))))
  refine yS ?_
  refine zR 1 rfl (zN (zU (zB ?_)))
  refine W.loopK (β := Nat × Nat) (fun (lo, hi) => lo ≤ hi ∧ hi ≤ 2 * b + 1 ∧ H hi = true ∧ ∀ j, j < lo → H j = false) (fun (lo, hi) => [(3, true, .int .i64 (hi : Int)), (4, true, .int .i64 (lo : Int))]) [0] [_] [] _ rfl (fun (lo, hi) => []) (fun (lo, hi) => hi - lo) ((0, h - 1)) (⟨Nat.zero_le _, by (try dsimp only); omega, hH, fun j hj => by omega⟩) ⟨vint (by (try dsimp only); omega), rfl, rfl, rfl⟩ qS ?_
  intro st hst
  obtain ⟨lo, hi⟩ := st
  dsimp only [zipE, setAll, List.cons_append, List.nil_append, List.set_cons_zero, List.set_cons_succ] at hst ⊢
  obtain ⟨h1, h2, h3, h4⟩ := hst
  refine zQ (zQ (zG (zR 3 rfl (zN (zU ?_)))))
  refine W.condD rfl (fun hc1 => ?_) (fun hc1 => ?_)
  ·try dsimp only at hc1
   refine zK (zU (zB (zQ (zG (zR 2 rfl ?_)))))
   refine yA ?_
   refine WG.y rfl rfl qD (Yl.quo rfl rfl rfl (fun _ => rfl) qA (by intro _; omega)) ?_
   refine zR 1 rfl (zN (zU (zQ (zG (zR 2 rfl ?_)))))
   refine WG.callV (v := .bool (H ((lo + hi) / 2))) hE rfl rfl qD (CallOp.mk' rfl rfl rfl rfl) (fun _ => rfl) (fun hg => hF ((lo + hi) / 2) qO) ?_
   refine zN (zU ?_)
   refine W.cond rfl (fun hc2 => ?_) (fun hc2 => ?_)
   ·try simp only [zk] at hc2
    refine zG (zR 2 rfl (zN (zL ?_)))
    refine WE.again ((lo, (lo + hi) / 2)) (⟨by dsimp only; omega, by dsimp only; omega, hc2, h4⟩) (by (try dsimp only); omega) ⟨rfl, rfl, rfl, rfl⟩ (RLe.refl _) qS
   ·try simp only [zk] at hc2
    have hno : H ((lo + hi) / 2) = false := by simpa using hc2
    refine zG (zR 1 rfl ?_)
    refine yA ?_
    refine zR 1 rfl (zN (zL ?_))
    refine WE.again (((lo + hi) / 2 + 1, hi)) (⟨by dsimp only; omega, h2, h3, fun j hj => by
     dsimp only at hj
     rw [← Bool.not_eq_true]
     intro hh
     rw [hm j _ hh (by omega)] at hno
     cases hno⟩) (by (try dsimp only); omega) ⟨rfl, rfl, rfl, rfl⟩ (RLe.refl _) qS
  ·try dsimp only at hc1
   obtain rfl : lo = hi := by omega
   refine zX ?_
   refine wx (wx (zY (zU (zQ (zG (zR 2 rfl (zN (zU (zT ?_)))))))))
   refine sE (E := E) ?_
   refine WE.retF tab_ok [_] rfl ⟨rfl, trivial⟩ (RLe.refl _) ?_
   exact ⟨by rw [leastY_eq hHb h3 h4]; rfl, rfl⟩

theorem LeastW_V {R : Ro} {a : Option Addr} {c : Nat} {v : List Int} {inc : Int} {l : Nat} (ha : RS R 1 encI a v) (hvl : v.length = l) (hl : 0 < l ∧ l ≤ 100000) (hi : 0 ≤ inc ∧ inc ≤ 1000000000000) (hv : ∀ x ∈ v, 0 ≤ x ∧ x ≤ 1000000000000000) : FnV Tryz.prog 141 [.slice a l c, .int .i64 inc] R (.int .i64 (leastL v inc : Int)) := by
 subst hvl
 refine Fn.toV (fun w0 E => ?_)
 refine fE 84 Tryz.func141 ?_
 refine zQ (zG (zR 1 rfl (zN (zU ?_))))
 refine W.scope ?_
 refine zQ (zG (zR 3 rfl (zN (zU (zQ (W.label (zU (zQ (zQ (zG (zR 1 rfl (zN (zU (zB ?_))))))))))))))
 refine W.loopK (β := Nat) (fun p => 1 ≤ p ∧ p ≤ max 1 v.length ∧ ∀ j, 1 ≤ j → j < p → leastOk v inc j = false) (fun p => [(6, true, .int .i64 (p : Int))]) [0, 1, 5] [_, _, _] [] _ rfl (fun p => []) (fun p => v.length - p) (1) (⟨Nat.le_refl _, by omega, fun j a b => by omega⟩) ⟨rfl, rfl, rfl, rfl, rfl⟩ qS ?_
 intro p hst
 dsimp only [zipE, setAll, List.cons_append, List.nil_append, List.set_cons_zero, List.set_cons_succ] at hst ⊢
 obtain ⟨h1, h2, h3⟩ := hst
 have hip : 0 ≤ inc * (p : Int) ∧ inc * (p : Int) ≤ 1000000000000 * 100000 := ⟨Int.mul_nonneg hi.1 (by omega), Int.mul_le_mul hi.2 (by omega) (by omega) (by omega)⟩
 have hiq : 0 ≤ inc * (p : Int) / (v.length : Int) ∧ inc * (p : Int) / (v.length : Int) ≤ 1000000000000 * 100000 := ⟨Int.ediv_nonneg hip.1 (by omega), Int.le_trans (Int.ediv_le_self _ hip.1) hip.2⟩
 refine zQ (zQ (zG (zR 3 rfl (zN (zU ?_)))))
 refine W.condD rfl (fun hc0 => ?_) (fun hc0 => ?_)
 ·try dsimp only at hc0
  refine zK (zU (zQ (zB (zQ (zQ (zG (zR 2 rfl ?_)))))))
  refine WG.y rfl rfl qD (Yl.rem rfl rfl rfl (fun _ => rfl) qN qN) ?_
  refine zR 2 rfl ?_
  refine yP ?_
  refine yP ?_
  refine WG.y rfl rfl (by decide) (Yl.mul rfl rfl rfl qE (by intro hg; (try simp only [zk] at hg); constructor <;> (try dsimp only) <;> omega)) ?_
  refine yP ?_
  refine WG.y rfl rfl (by decide) (Yl.rem rfl rfl rfl qE (by intro hg; (try simp only [zk] at hg); (try dsimp only) <;> omega) (by intro hg; (try simp only [zk] at hg); (try dsimp only) <;> omega)) ?_
  refine yP ?_
  refine yO ?_
  refine zN (zU ?_)
  refine W.cond rfl (fun hc1 => ?_) (fun hc1 => ?_)
  ·try simp only [zk] at hc1
   have hno : leastOk v inc p = false := leastOk_no1 (by rcases hc1 with h | h; exact .inl (by omega); exact .inr h)
   refine zX ?_
   refine wx (zY (zU (zG (zR 1 rfl ?_))))
   refine yA ?_
   refine zR 1 rfl (zN ?_)
   refine WE.again (p + 1) (⟨by omega, by omega, fun j a b => by
    by_cases e : j = p
    ·subst e; exact hno
    ·exact h3 j a (by omega)⟩) (by (try dsimp only); omega) ⟨rfl, rfl, rfl, rfl, rfl⟩ (RLe.refl _) qS
  ·try simp only [zk] at hc1
   have hy1 : v.length % p = 0 := by have := hc1.1; omega
   have hy2 : (inc * (p : Int)) % (v.length : Int) = 0 := hc1.2
   refine zK (zU (zQ (zG (zR 2 rfl ?_))))
   refine WG.y rfl rfl qD (Yl.mul rfl rfl rfl (fun _ => rfl) qA) ?_
   refine zR 1 rfl ?_
   refine WG.y rfl rfl qD (Yl.quo rfl rfl rfl (fun _ => rfl) qA (by intro _; omega)) ?_
   refine zR 1 rfl (zN (zU (zQ (zQ (zG (zR 3 rfl (zN (zU (zB ?_)))))))))
   refine W.loopK (β := Nat) (fun i => i ≤ v.length ∧ ∀ j, j < i → leastC v inc p j = true) (fun i => [(36, true, .int .i64 (i : Int))]) [0, 1, 5, 6, 7, 35] [_, _, _, _, _, _] [] _ rfl (fun i => []) (fun i => v.length - i) (0) (⟨Nat.zero_le _, fun j hj => by omega⟩) ⟨rfl, rfl, rfl, rfl, rfl, rfl, rfl, rfl⟩ qS ?_
   intro i hst
   dsimp only [zipE, setAll, List.cons_append, List.nil_append, List.set_cons_zero, List.set_cons_succ] at hst ⊢
   
   refine zQ (zG (zR 1 rfl (zN (zU (zQ ?_)))))
   refine W.condD rfl (fun hc2 => ?_) (fun hc2 => ?_)
   ·try dsimp only at hc2
    have hil : i < v.length := by omega
    have hvi := hv _ (nth_mem hil)
    have e1 : ((i : Int) + (p : Int)).toNat = i + p := by omega
    have e2 : ((i : Int) + (p : Int) - (v.length : Int)).toNat = i + p - v.length := by omega
    have hvj : i + p < v.length → 0 ≤ nth v (i + p) ∧ nth v (i + p) ≤ 1000000000000000 := fun h => hv _ (nth_mem h)
    have hvk : v.length ≤ i + p → 0 ≤ nth v (i + p - v.length) ∧ nth v (i + p - v.length) ≤ 1000000000000000 := fun h => hv _ (nth_mem (by omega))
    have hvk2 : v.length ≤ i + p → 0 ≤ nth v ((i : Int) + (p : Int) - (v.length : Int)).toNat ∧ nth v ((i : Int) + (p : Int) - (v.length : Int)).toNat ≤ 1000000000000000 := fun h => by rw [e2]; exact hvk h
    refine zK (zU (zQ (zB (zQ (zG (zR 2 rfl (zN (zU (zQ (zG (zR 2 rfl ?_)))))))))))
    refine WG.y rfl rfl qD (Yl.indexN tab_ok rfl rfl rfl rfl rfl rfl (fun _ => rfl) qN qH) ?_
    refine yR ?_
    refine zR 1 rfl ?_
    refine yA ?_
    refine zR 1 rfl (zN (zU (zQ (zG (zR 2 rfl ?_)))))
    refine yA ?_
    refine zR 3 rfl ?_
    refine yP ?_
    refine yP ?_
    refine yP ?_
    refine WG.y rfl rfl (by decide) (Yl.add rfl rfl rfl qE (by intro hg; (try simp only [zk] at hg); constructor <;> (try dsimp only) <;> omega)) ?_
    refine WG.y rfl rfl (by decide) (Yl.index tab_ok rfl rfl rfl rfl rfl rfl qE (by intro hg; (try simp only [zk] at hg); constructor <;> (try dsimp only) <;> omega) (by intro hg; (try simp only [zk] at hg); first | exact qI)) ?_
    refine' WG.y rfl rfl qD (Yl.loadG tab_ok rfl rfl rfl qE ?r2 rfl ?h2 ?g2) ?_
    case r2 => ((apply RS.rdC; assumption))
    case h2 => rfl
    case g2 => (intro hg; (try simp only [zk] at hg); (try dsimp only); omega)
    refine yP ?_
    refine yP ?_
    refine yN ?_
    refine zR 1 rfl ?_
    refine yP ?_
    refine yP ?_
    refine WG.y rfl rfl (by decide) (Yl.add rfl rfl rfl qE (by intro hg; (try simp only [zk] at hg); constructor <;> (try dsimp only) <;> omega)) ?_
    refine yP ?_
    refine yP ?_
    refine yP ?_
    refine yP ?_
    refine yP ?_
    refine yP ?_
    refine WG.y rfl rfl (by decide) (Yl.add rfl rfl rfl qE (by intro hg; (try simp only [zk] at hg); constructor <;> (try dsimp only) <;> omega)) ?_
    refine yP ?_
    refine WG.y rfl rfl (by decide) (Yl.sub rfl rfl rfl qE (by intro hg; (try simp only [zk] at hg); constructor <;> (try dsimp only) <;> omega)) ?_
    refine WG.y rfl rfl (by decide) (Yl.index tab_ok rfl rfl rfl rfl rfl rfl qE (by intro hg; (try simp only [zk] at hg); constructor <;> (try dsimp only) <;> omega) (by intro hg; (try simp only [zk] at hg); first | exact qI)) ?_
    refine' WG.y rfl rfl qD (Yl.loadG tab_ok rfl rfl rfl qE ?r3 rfl ?h3 ?g3) ?_
    case r3 => ((apply RS.rdC; assumption))
    case h3 => rfl
    case g3 => (intro hg; (try simp only [zk] at hg); (try dsimp only); omega)
    refine yP ?_
    refine WG.y rfl rfl (by decide) (Yl.add rfl rfl rfl qE (by intro hg; (try simp only [zk] at hg); constructor <;> (try dsimp only) <;> omega)) ?_
    refine yP ?_
    refine yP ?_
    refine yN ?_
    refine yO ?_
    refine zN (zU ?_)
    refine W.cond rfl (fun hc3 => ?_) (fun hc3 => ?_)
    ·try simp only [zk] at hc3
     have hC : leastC v inc p i = false := by
      unfold leastC
      rw [← Bool.not_eq_true]
      intro h
      rw [beq_iff_eq] at h
      rw [e1, e2] at hc3
      rcases hc3 with ⟨x1, x2⟩ | ⟨x1, x2⟩
      ·rw [if_pos (by omega)] at h; exact x2 h
      ·rw [if_neg (by omega)] at h; exact x2 h
     have hno : leastOk v inc p = false := leastOk_no2 hil hC
     refine zX ?_
     refine WE.blk_other rfl ?_
     refine wx (wx ?_)
     refine WE.blk_other rfl ?_
     refine wx (zY (zU (zG (zR 1 rfl ?_))))
     refine yA ?_
     refine zR 1 rfl (zN ?_)
     refine WE.again (p + 1) (⟨by omega, by omega, fun j a b => by
      by_cases e : j = p
      ·subst e; exact hno
      ·exact h3 j a (by omega)⟩) (by (try dsimp only); omega) ⟨rfl, rfl, rfl, rfl, rfl⟩ (RLe.refl _) qS
    ·try simp only [zk] at hc3
     have hC : leastC v inc p i = true := by
      unfold leastC
      rw [beq_iff_eq]
      rw [e1, e2] at hc3
      by_cases h : i + p < v.length
      ·rw [if_pos h]; exact hc3.1 (by omega)
      ·rw [if_neg h]; exact hc3.2 (by omega)
     refine zK (zL (zU (zG ?_)))
     refine yA ?_
     refine zR 1 rfl (zN ?_)
     refine WE.again (i + 1) (⟨by omega, fun j hj => by
      by_cases e : j = i
      ·subst e; exact hC
      ·exact hst.2 j (by omega)⟩) (by (try dsimp only); omega) ⟨rfl, rfl, rfl, rfl, rfl, rfl, rfl, rfl⟩ (RLe.refl _) qS
   ·try dsimp only at hc2
    obtain rfl : i = v.length := by omega
    have hok : leastOk v inc p = true := leastOk_yes hy1 hy2 hst.2
    refine zX ?_
    refine wx (wx (zY (zU (zQ (zG (zR 2 rfl (zN (zU (zT (wb (wt (wt (wb (wt ?_))))))))))))))
    refine WE.scope_ret ?_
    refine sE (E := E) ?_
    refine WE.retF tab_ok [_] rfl ⟨rfl, trivial⟩ (RLe.refl _) ?_
    exact ⟨by rw [leastL_some h1 (by omega) hok h3]; rfl, rfl⟩
 ·try dsimp only at hc0
  refine zX ?_
  refine wx (wx (zY (zU (zQ (zG (zR 2 rfl (zN (zU (zT ?_)))))))))
  refine WE.scope_ret ?_
  refine sE (E := E) ?_
  refine WE.retF tab_ok [_] rfl ⟨rfl, trivial⟩ (RLe.refl _) ?_
  exact ⟨by rw [leastL_none (fun j a b => h3 j a (by omega))]; rfl, rfl⟩

theorem Checked_C {R : Ro} {a : Option Addr} {c : Nat} {v : List Int} {p q : Int} {l : Nat} (ha : RS R 1 encI a v) (hvl : v.length = l) (w0 : World) (E : List Ent) : K.Fn Tryz.prog 142 [.slice a l c, .int .i64 p, .int .i64 q] w0 R E (fun r R' E' => ∃ (f : Option Addr) (fc : Nat), r = cvV f fc (checkedL v p q) ∧ RS R' 1 encI f (checkedL v p q).1.vals ∧ E.Sublist E') := by
 subst hvl
 have hla := ha.len
 refine fE 33 Tryz.func142 ?_
 refine zQ (zG ?_)
 refine zA fun b6 => ?_
 refine zR 1 rfl (zN (zU (zQ (zQ (zG (zR 3 rfl (zN (zU ?_))))))))
 refine W.condD rfl (fun hc0 => ?_) (fun hc0 => ?_)
 ·try dsimp only at hc0
  have hb : checkedE v = 3 := checkedE_big (by omega)
  refine zQ (zG ?_)
  -- build
  refine WG.y rfl rfl qD (Yl.build (parts := []) tab_ok rfl rfl rfl rfl (fun _ => rfl) rfl rfl) ?_
  refine zE 0 ?_
  refine zR 1 rfl (zN (zU (zT (wt ?_))))
  refine WE.retF tab_ok [_, _] rfl ⟨⟨_, _, _, rfl, rfl, rfl, qB, rfl⟩, rfl, trivial⟩ ((by first | exact hR1 | exact RLe.refl _)) ?_
  exact ⟨none, 0, by rw [checkedL_bad hb]; rfl, by rw [checkedL_bad hb]; exact rs_nil, qS⟩
 ·try dsimp only at hc0
  refine zK (zU (zQ (zQ (zG (zR 3 rfl (zN (zU (zB ?_))))))))
  refine W.loopK (β := Nat) (fun i => i ≤ v.length ∧ ∀ j, j < i → nth v j = INF ∨ nth v j ≤ MAXV) (fun i => [(16, true, .int .i64 (i : Int))]) [0, 1, 2, 6, 14, 15] [_, _, _, _, _, _] [] _ rfl (fun i => []) (fun i => v.length - i) (0) (⟨Nat.zero_le _, fun j hj => by omega⟩) ⟨rfl, rfl, rfl, rfl, rfl, rfl, rfl, rfl⟩ qS ?_
  intro i hst
  dsimp only [zipE, setAll, List.cons_append, List.nil_append, List.set_cons_zero, List.set_cons_succ] at hst ⊢
  
  refine zQ (zG (zR 1 rfl (zN (zU (zQ ?_)))))
  refine W.condD rfl (fun hc1 => ?_) (fun hc1 => ?_)
  ·try dsimp only at hc1
   refine zK (zU (zQ (zB (zQ (zG ?_)))))
   refine WG.y rfl rfl qD (Yl.indexN tab_ok rfl rfl rfl rfl rfl rfl (fun _ => rfl) qN qH) ?_
   refine yR ?_
   refine zR 1 rfl (zN (zU (zQ (zG (zR 3 rfl ?_)))))
   refine yP ?_
   refine yP ?_
   refine yN ?_
   refine zN (zU ?_)
   refine W.cond rfl (fun hc2 => ?_) (fun hc2 => ?_)
   ·try simp only [zk] at hc2
    have hb : checkedE v = 3 := checkedE_one (i := i) (by omega) hc2.1 hc2.2
    refine zQ (zG ?_)
    -- build
    refine WG.y rfl rfl qD (Yl.build (parts := []) tab_ok rfl rfl rfl rfl (fun _ => rfl) rfl rfl) ?_
    refine zE 0 ?_
    refine zR 1 rfl (zN (zU (zT (wb (wt (wt (wb (wt ?_))))))))
    refine WE.retF tab_ok [_, _] rfl ⟨⟨_, _, _, rfl, rfl, rfl, qB, rfl⟩, rfl, trivial⟩ ((by first | exact hR1 | exact RLe.refl _)) ?_
    exact ⟨none, 0, by rw [checkedL_bad hb]; rfl, by rw [checkedL_bad hb]; exact rs_nil, qS⟩
   ·try simp only [zk] at hc2
    have hy : nth v i = INF ∨ nth v i ≤ MAXV := by unfold INF MAXV; omega
    refine zK (zL (zU (zG ?_)))
    refine yA ?_
    refine zR 1 rfl (zN ?_)
    refine WE.again (i + 1) (⟨by omega, fun j hj => by
     by_cases e : j = i
     ·subst e; exact hy
     ·exact hst.2 j (by omega)⟩) (by (try dsimp only); omega) ⟨rfl, rfl, rfl, rfl, rfl, rfl, rfl, rfl⟩ (RLe.refl _) qS
  ·try dsimp only at hc1
   obtain rfl : i = v.length := by omega
   have hg : checkedE v ≠ 3 := checkedE_fine (by omega) hst.2
   refine zX ?_
   refine wx (wx (zY (zU ?_)))
   refine W.nil 3 1 qD ?_
   refine zQ (zG (zR 1 rfl ?_))
   refine WL.ef rfl rfl qD (Ef.cloneR (enc := encI) 0 tab_ok rfl rfl rfl rfl rfl rfl rfl rfl rfl rfl ha (fun _ _ => rfl) (by dsimp only; omega) qO (fun a29 c29 ha29 => ?_))
   refine zR 2 rfl ?_
   -- build
   refine WG.y rfl rfl qD (Yl.build (parts := [(0, .tmp 29), (1, .tmp 30), (2, .tmp 31)]) tab_ok rfl rfl rfl rfl (fun _ => rfl) rfl rfl) ?_
   refine zE 1 ?_
   refine zR 1 rfl ?_
   refine WL.freeze (enc := encI) (xs := v) 0 rfl ?_
   intro R1 hR1 hz
   refine zN (zU (zT ?_))
   refine WE.retF tab_ok [_, _] rfl ⟨⟨_, _, _, rfl, rfl, rfl, qB, rfl⟩, rfl, trivial⟩ ((by first | exact hR1 | exact RLe.refl _)) ?_
   exact ⟨a29, c29, by rw [checkedL_good hg]; rfl, by rw [checkedL_good hg]; exact hz, qS⟩

theorem Ending_C {R : Ro} {a : Option Addr} {c : Nat} {v : List Int} {l : Nat} (ha : RS R 1 encI a v) (hvl : v.length = l) (w0 : World) (E : List Ent) : K.Fn Tryz.prog 140 [.slice a l c] w0 R E (fun r R' E' => ∃ (f : Option Addr) (fc : Nat), r = cvV f fc (checkedL v 1 0) ∧ RS R' 1 encI f (checkedL v 1 0).1.vals ∧ E.Sublist E') := by
 refine fE 8 Tryz.func140 ?_
 refine zQ (zG ?_)
 refine zA fun b2 => ?_
 refine zR 1 rfl (zN (zU (zQ (zG (zR 1 rfl ?_)))))
 refine WL.call en142 rfl rfl qD (CallOp.mkT rfl rfl rfl rfl) (Checked_C ha hvl w0 _) ?_
 rintro _ R1 E1 hR1 ⟨f, fc, rfl, hf, hsub⟩
 refine WL.subE hsub ?_
 unfold cvV
 refine zR 2 rfl ?_
 refine zE 0 ?_
 refine zR 1 rfl (zN (zU (zT ?_)))
 refine WE.retF tab_ok [_, _] rfl ⟨⟨_, _, _, rfl, rfl, rfl, qB, rfl⟩, rfl, trivial⟩ (hR1) ?_
 exact ⟨f, fc, rfl, hf, qS⟩

theorem Build_C {R : Ro} {g : FuncId} {fi ca : Array Value} {F : Nat → Int} {S P : Nat} {I : Int} (hE : Enters Tryz.prog g) (hS : S ≤ 10000) (hP : 0 < P ∧ P ≤ 10000) (hI : 0 ≤ I ∧ I ≤ 1000000000000) (hFb : ∀ t, t < S + P → F t = INF ∨ (0 ≤ F t ∧ F t ≤ 1000000000000000)) (hF : ∀ t : Nat, t < S + P → FnV Tryz.prog g (fi.toList ++ [.int .i64 (t : Int)] ++ ca.toList) R (.int .i64 (F t))) (w0 : World) (E : List Ent) :
  K.Fn Tryz.prog 82 [.func (.func g) fi ca, .int .i64 (S : Int), .int .i64 (P : Int), .int .i64 I] w0 R E (fun r R' E' => ∃ (f : Option Addr) (fc : Nat), r = cvV f fc (mbuild F S P I) ∧ RS R' 1 encI f (mbuild F S P I).1.vals ∧ E.Sublist E') := by
 have hsp : ((S : Int) + (P : Int)).toNat = S + P := by omega
 refine fE 90 Tryz.func82 ?_
 refine zQ (zG ?_)
 refine zA fun b8 => ?_
 refine zR 1 rfl (zN (zU (zQ (zG (zR 2 rfl ?_)))))
 refine yA ?_
 refine WL.ef rfl rfl qD (Ef.makeSliceD (enc := encI) 0 tab_ok rfl rfl rfl rfl rfl rfl qX qX qX qX qD rfl rfl (fun a17 => ?_))
 refine zR 1 rfl (zN (zU (zQ (zQ (zG (zR 3 rfl (zN (zU (zB ?_)))))))))
 refine W.loopK (β := Nat) (fun t => t ≤ S + P ∧ ∀ j, j < t → F j ≠ INF) (fun t => [(20, true, .int .i64 (t : Int))]) [0, 1, 2, 3, 8, 10, 19] [_, _, _, _, _, _, _] [] _ rfl (fun t => [(0, .sl 3 1 (some ⟨a17, 0, none⟩) (S + P) ((partV F t (S + P)).map encI))]) (fun t => S + P - t) (0) (⟨Nat.zero_le _, fun j hj => by omega⟩) ⟨rfl, rfl, rfl, rfl, rfl, rfl, rfl, rfl, rfl⟩ qS ?_
 intro t hst
 dsimp only [zipE, setAll, List.cons_append, List.nil_append, List.set_cons_zero, List.set_cons_succ] at hst ⊢
 have hpl := partV_len F (t := t) (n := S + P) (by omega)
 obtain ⟨ht, hni⟩ := hst
 refine zQ (zG (zR 1 rfl (zN (zU (zQ ?_)))))
 refine W.condD rfl (fun hc0 => ?_) (fun hc0 => ?_)
 ·try dsimp only at hc0
  have htl : t < S + P := by omega
  have hset := partV_set F htl
  have hnt := partV_nth F (t := t) (k := t + 1) (n := S + P) (by omega)
  have hbt := hFb t htl
  refine zK (zU (zQ (zB (zQ (zG (zR 2 rfl (zN (zU (zQ (zG (zR 4 rfl ?_)))))))))))
  refine WG.callV hE rfl rfl qD (CallOp.mk' rfl rfl rfl rfl) (fun _ => rfl) (fun hg => hF t qO) ?_
  refine WG.y rfl rfl qD (Yl.indexN tab_ok rfl rfl rfl rfl rfl rfl (fun _ => rfl) qN qH) ?_
  refine WL.efN rfl rfl (Ef.storeD _ 0 tab_ok rfl rfl rfl rfl rfl qX rfl rfl rfl rfl ?_)
  refine zN (zU ?_)
  have hnt2 : nth ((partV F t (S + P)).set t (F t)) t = F t := by rw [hset]; exact hnt
  refine zQ (zG (zR 2 rfl ?_))
  refine WG.y rfl rfl qD (Yl.indexN tab_ok rfl rfl rfl rfl rfl rfl (fun _ => rfl) qN qH) ?_
  refine' WG.y rfl rfl qD (Yl.load1 tab_ok rfl rfl rfl (fun _ => rfl) ?r1 rfl ?h1) ?_
  case r1 => exact Rd.slD 0 rfl (by rw [List.length_set]; omega)
  case h1 => rfl
  refine zR 1 rfl (zN (zU ?_))
  refine W.condE rfl (fun hc1 => ?_) (fun hc1 => ?_)
  ·try dsimp only at hc1
   have hinf : F t = INF := by rw [← hnt, ← hset]; exact hc1
   have hmb : mbuild F S P I = checkedL (fvals F (t + 1)) 1 0 := by unfold mbuild; rw [infAt_some htl hinf hni, if_neg (by omega), Int.toNat_natCast]
   refine W.freeze (enc := encI) (xs := partV F (t + 1) (S + P)) 0 (by rw [← hset]; rfl) ?_
   intro R1 hR1 hz
   refine zQ (zG (zR 2 rfl ?_))
   refine yA ?_
   refine WG.y rfl rfl qD (Yl.sliceH tab_ok rfl rfl rfl rfl rfl (fun _ => rfl) (by intro _; omega) rfl) ?_
   refine WL.call en140 rfl rfl (by decide) (CallOp.mkT rfl rfl rfl rfl) (Ending_C (by have := hz.take (t + 1); rwa [partV_take] at this) (by rw [fvals_len]; omega) w0 _) ?_
   rintro _ R2 E2 hR2 ⟨f, fc, rfl, hf, hsub⟩
   refine WL.subE hsub ?_
   unfold cvV
   refine zR 2 rfl ?_
   refine zE 0 ?_
   refine zR 1 rfl (zN (zU (zT (wb (wt (wt (wb (wt ?_))))))))
   refine WE.retF tab_ok [_, _] rfl ⟨⟨_, _, _, rfl, rfl, rfl, qB, rfl⟩, rfl, trivial⟩ ((by first | exact hR1 | exact hR1.trans hR2)) ?_
   exact ⟨f, fc, by rw [hmb]; rfl, by rw [hmb]; exact hf, qS⟩
  ·try dsimp only at hc1
   have hinf : F t ≠ INF := by rw [← hnt, ← hset]; exact hc1
   refine zK (zL (zU (zG ?_)))
   refine yA ?_
   refine zR 1 rfl (zN ?_)
   refine WE.again (t + 1) (⟨by omega, fun j hj => by
    by_cases e : j = t
    ·subst e; exact hinf
    ·exact hni j (by omega)⟩) (by (try dsimp only); omega) ⟨rfl, rfl, rfl, rfl, rfl, rfl, rfl, rfl, rfl⟩ (RLe.refl _) (by dsimp only [setAll, List.set_cons_zero, List.set_cons_succ]; rw [← hset]; exact qS)
 ·try dsimp only at hc0
  obtain rfl : t = S + P := by omega
  refine zX ?_
  refine wx (wx (zY (zU ?_)))
  rw [partV_all]
  refine W.freeze (enc := encI) (xs := fvals F (S + P)) 0 rfl ?_
  intro R1 hR1 hz
  have hmi := infAt_none (F := F) (n := S + P) hni
  have hlp : 1 ≤ (leastL ((fvals F (S + P)).drop S) I) ∧ (leastL ((fvals F (S + P)).drop S) I) ≤ P := by
   have := leastL_pos (v := (fvals F (S + P)).drop S) (inc := I) (by simp [fvals_len]; omega)
   simp only [List.length_drop, fvals_len] at this
   omega
  have hvb : ∀ x ∈ fvals F (S + P), 0 ≤ x ∧ x ≤ 1000000000000000 := all_of_nth (fun j hj => by
   rw [fvals_len] at hj
   rw [fvals_nth F hj]
   exact (hFb j hj).resolve_left (hni j hj))
  have hvn : ∀ j, j < S + P → 0 ≤ nth (fvals F (S + P)) j ∧ nth (fvals F (S + P)) j ≤ 1000000000000000 := fun j hj => hvb _ (nth_mem (by rw [fvals_len]; exact hj))
  have hIp : 0 ≤ I * ((leastL ((fvals F (S + P)).drop S) I) : Int) ∧ I * ((leastL ((fvals F (S + P)).drop S) I) : Int) ≤ 1000000000000 * 10000 := ⟨Int.mul_nonneg hI.1 (by omega), Int.mul_le_mul hI.2 (by omega) (by omega) (by omega)⟩
  have hIq : 0 ≤ (I * ((leastL ((fvals F (S + P)).drop S) I) : Int) / (P : Int)) ∧ (I * ((leastL ((fvals F (S + P)).drop S) I) : Int) / (P : Int)) ≤ 1000000000000 * 10000 := ⟨Int.ediv_nonneg hIp.1 (by omega), Int.le_trans (Int.ediv_le_self _ hIp.1) hIp.2⟩
  have hfl := fvals_len F (S + P)
  refine zQ (zG (zR 2 rfl ?_))
  refine WG.y rfl rfl qD (Yl.sliceL tab_ok rfl rfl rfl rfl rfl rfl (fun _ => rfl) (by intro _; omega)) ?_
  refine zR 1 rfl ?_
  refine WG.callV en141 rfl rfl (by decide) (CallOp.mk' rfl rfl rfl rfl) (fun _ => rfl) (fun hg => LeastW_V (hz.subL (l := S) (cap := S + P) (by rw [fvals_len]; omega) (by rw [fvals_len]; omega)) (by simp [fvals_len]; omega) (by omega) hI (fun x hx => hvb x (List.mem_of_mem_drop hx))) ?_
  refine zR 1 rfl (zN (zU (zQ (zG (zR 2 rfl ?_)))))
  refine WG.y rfl rfl qD (Yl.mul rfl rfl rfl (fun _ => rfl) qA) ?_
  refine zR 1 rfl ?_
  refine WG.y rfl rfl qD (Yl.quo rfl rfl rfl (fun _ => rfl) qA (by intro _; omega)) ?_
  refine zR 1 rfl (zN (zU (zQ (zB ?_))))
  refine W.loopK (β := Nat) (fun s => s ≤ S ∧ downL (fvals F (S + P)) (leastL ((fvals F (S + P)).drop S) I) (I * (leastL ((fvals F (S + P)).drop S) I : Int) / (P : Int)) s = downL (fvals F (S + P)) (leastL ((fvals F (S + P)).drop S) I) (I * (leastL ((fvals F (S + P)).drop S) I : Int) / (P : Int)) S) (fun s => [(1, true, .int .i64 (s : Int))]) [8, 10, 12, 13] [_, _, _, _] [] _ rfl (fun s => []) (fun s => s) (S) (⟨Nat.le_refl _, rfl⟩) ⟨rfl, rfl, rfl, rfl, rfl, rfl⟩ qS ?_
  intro s hst
  dsimp only [zipE, setAll, List.cons_append, List.nil_append, List.set_cons_zero, List.set_cons_succ] at hst ⊢
  obtain ⟨hs, hd⟩ := hst
  have hs1 : 0 < s → ((s : Int) - 1).toNat = s - 1 := fun _ => by omega
  have hs2 : 0 < s → ((s : Int) - 1 + ((leastL ((fvals F (S + P)).drop S) I) : Int)).toNat = s - 1 + (leastL ((fvals F (S + P)).drop S) I) := fun _ => by omega
  have hb1 : 0 < s → 0 ≤ nth (fvals F (S + P)) ((s : Int) - 1).toNat ∧ nth (fvals F (S + P)) ((s : Int) - 1).toNat ≤ 1000000000000000 := fun h => hvn _ (by omega)
  refine zQ (zQ ?_)
  refine W.regionQ _ mixed qK ?_
  refine zR 3 rfl ?_
  refine yP ?_
  refine yP ?_
  refine WG.y rfl rfl (by decide) (Yl.sub rfl rfl rfl qE (by intro hg; (try simp only [zk] at hg); constructor <;> (try dsimp only) <;> omega)) ?_
  refine WG.y rfl rfl (by decide) (Yl.index tab_ok rfl rfl rfl rfl rfl rfl qE (by intro hg; (try simp only [zk] at hg); constructor <;> (try dsimp only) <;> omega) (by intro hg; (try simp only [zk] at hg); first | exact qI)) ?_
  refine' WG.y rfl rfl qD (Yl.loadG tab_ok rfl rfl rfl qE ?r2 rfl ?h2 ?g2) ?_
  case r2 => ((apply RS.rdC; assumption))
  case h2 => rfl
  case g2 => (intro hg; (try simp only [zk] at hg); (try dsimp only); omega)
  refine yP ?_
  refine WG.y rfl rfl (by decide) (Yl.add rfl rfl rfl qE (by intro hg; (try simp only [zk] at hg); constructor <;> (try dsimp only) <;> omega)) ?_
  refine yP ?_
  refine yP ?_
  refine WG.y rfl rfl (by decide) (Yl.sub rfl rfl rfl qE (by intro hg; (try simp only [zk] at hg); constructor <;> (try dsimp only) <;> omega)) ?_
  refine yP ?_
  refine WG.y rfl rfl (by decide) (Yl.add rfl rfl rfl qE (by intro hg; (try simp only [zk] at hg); constructor <;> (try dsimp only) <;> omega)) ?_
  refine WG.y rfl rfl (by decide) (Yl.index tab_ok rfl rfl rfl rfl rfl rfl qE (by intro hg; (try simp only [zk] at hg); constructor <;> (try dsimp only) <;> omega) (by intro hg; (try simp only [zk] at hg); first | exact qI)) ?_
  refine' WG.y rfl rfl qD (Yl.loadG tab_ok rfl rfl rfl qE ?r3 rfl ?h3 ?g3) ?_
  case r3 => ((apply RS.rdC; assumption))
  case h3 => rfl
  case g3 => (intro hg; (try simp only [zk] at hg); (try dsimp only); omega)
  refine yP ?_
  refine yN ?_
  refine zN (zU ?_)
  refine W.cond rfl (fun hc2 => ?_) (fun hc2 => ?_)
  ·try simp only [zk] at hc2
   obtain ⟨hc3, hc4⟩ := hc2
   rw [hs1 (by omega), hs2 (by omega)] at hc4
   have hdn : downL (fvals F (S + P)) (leastL ((fvals F (S + P)).drop S) I) (I * ((leastL ((fvals F (S + P)).drop S) I) : Int) / (P : Int)) (s - 1) = downL (fvals F (S + P)) (leastL ((fvals F (S + P)).drop S) I) (I * ((leastL ((fvals F (S + P)).drop S) I) : Int) / (P : Int)) s := by
    conv => rhs; rw [show s = (s - 1) + 1 by omega]
    simp only [downL]
    rw [if_pos hc4]
   refine zK (zU (zB (zG (zR 1 rfl ?_))))
   refine yS ?_
   refine zR 1 rfl (zN (zL ?_))
   refine WE.again (s - 1) (⟨by omega, by rw [← hd]; exact hdn⟩) (by (try dsimp only); omega) ⟨vint (by omega), rfl, rfl, rfl, rfl, rfl⟩ (RLe.refl _) qS
  ·try simp only [zk] at hc2
   have hsd : s = downL (fvals F (S + P)) (leastL ((fvals F (S + P)).drop S) I) (I * ((leastL ((fvals F (S + P)).drop S) I) : Int) / (P : Int)) S := by
    rw [← hd]
    by_cases h : 0 < s
    ·have h2 := hc2 (by omega)
     rw [hs1 h, hs2 h] at h2
     obtain ⟨s', rfl⟩ : ∃ m, s = m + 1 := ⟨s - 1, by omega⟩
     simp only [downL]
     rw [if_neg (by simpa using h2)]
    ·obtain rfl : s = 0 := by omega
     rfl
   refine zX ?_
   refine wx (wx (zY (zU (zQ (zQ (zG (zR 3 rfl ?_)))))))
   refine yP ?_
   refine yP ?_
   refine yO ?_
   refine zN (zU ?_)
   refine W.cond rfl (fun hc3 => ?_) (fun hc3 => ?_)
   ·try simp only [zk] at hc3
    have hmb : mbuild F S P I = (zcv, 3) := by
     unfold mbuild finL; rw [if_pos hmi]; dsimp only
     rw [if_pos (by rcases hc3 with h | h; exact .inl (by omega); exact .inr h)]
    refine zQ (zG ?_)
    -- build
    refine WG.y rfl rfl qD (Yl.build (parts := []) tab_ok rfl rfl rfl rfl (fun _ => rfl) rfl rfl) ?_
    refine zE 0 ?_
    refine zR 1 rfl (zN (zU (zT (wt ?_))))
    refine WE.retF tab_ok [_, _] rfl ⟨⟨_, _, _, rfl, rfl, rfl, qB, rfl⟩, rfl, trivial⟩ ((by first | exact hR1 | exact hR1.trans hR2)) ?_
    exact ⟨none, 0, by rw [hmb]; rfl, by rw [hmb]; exact rs_nil, qS⟩
   ·try simp only [zk] at hc3
    have hmb : mbuild F S P I = checkedL ((fvals F (S + P)).take (s + (leastL ((fvals F (S + P)).drop S) I))) (leastL ((fvals F (S + P)).drop S) I) (I * ((leastL ((fvals F (S + P)).drop S) I) : Int) / (P : Int)) := by
     unfold mbuild finL; rw [if_pos hmi]; dsimp only
     rw [if_neg (by rintro (h | h); have := hc3.1; omega; have := hc3.2; unfold MAXV at h; omega), ← hsd]
    refine zK (zU (zQ (zG (zR 3 rfl ?_))))
    refine yA ?_
    refine WG.y rfl rfl qD (Yl.sliceH tab_ok rfl rfl rfl rfl rfl (fun _ => rfl) (by intro _; omega) rfl) ?_
    refine zR 2 rfl ?_
    refine WL.call en142 rfl rfl (by decide) (CallOp.mkT rfl rfl rfl rfl) (Checked_C (by have := hz.take (s + leastL ((fvals F (S + P)).drop S) I); exact this) (by rw [List.length_take, fvals_len]; omega) w0 _) ?_
    rintro _ R2 E2 hR2 ⟨f, fc, rfl, hf, hsub⟩
    refine WL.subE hsub ?_
    unfold cvV
    refine zR 2 rfl ?_
    refine zE 0 ?_
    refine zR 1 rfl (zN (zU (zT ?_)))
    refine WE.retF tab_ok [_, _] rfl ⟨⟨_, _, _, rfl, rfl, rfl, qB, rfl⟩, rfl, trivial⟩ ((by first | exact hR1 | exact hR1.trans hR2)) ?_
    exact ⟨f, fc, by rw [hmb]; rfl, by rw [hmb]; exact hf, qS⟩



theorem Sound_V {R : Ro} {oa : Option Addr} {oc : Nat} {rows : List Sl} {pa da : Option Addr} {pl pc dc n : Nat} (ho : RS R 1 encS oa rows) (hn : rows.length = n) (hn2 : n ≤ 1000) {t : Int} (ht : 0 ≤ t ∧ t ≤ 1000000) (hl : ∀ r ∈ rows, (r.xs.length : Int) = t + 1) :
  FnV Tryz.prog 14 [.slice pa pl pc, .agg #[.slice da pl dc, .slice oa n oc], .int .i64 n, .int .i64 t] R (.bool true) := by
 subst hn
 refine Fn.toV (fun w0 E => ?_)
 refine fE 37 Tryz.func14 ?_
 refine zQ (zG ?_)
 refine zO fun b5 => ?_
 refine zR 1 rfl (zN (zU (zQ (zQ (zG (zR 1 rfl ?_))))))
 refine yL (Rd.add (Rd.blk 0 rfl) _) ?_
 refine zR 5 rfl ?_
 refine yP ?_
 refine yG (Rd.addC (Rd.blkC 0 rfl) _) ?_
 refine yP ?_
 refine yP ?_
 refine yP ?_
 refine yO ?_
 refine zN (zU ?_)
 refine W.cond rfl (fun hc0 => ?_) (fun hc0 => ?_)
 ·try simp only [zk] at hc0
  exact absurd hc0 (by simp)
 ·try simp only [zk] at hc0
  refine zK (zU (zQ (zQ (zG (zR 1 rfl (zN (zU (zB ?_))))))))
  refine W.loop (β := Nat) (fun k => k ≤ rows.length) (fun k => [(2, true, .int .i64 rows.length), (3, true, .int .i64 t), (5, true, .pointer (some ⟨b5, 0, none⟩)), (9, true, .int .i64 (k : Int))]) (fun _ => R) (fun _ => .blk b5 [.slice da pl dc, .slice oa rows.length oc] :: E) (fun k => rows.length - k) (0) (Nat.zero_le _) ⟨rfl, rfl, rfl, rfl, rfl⟩ (RLe.refl _) qS ?_
  intro st hst
  have hk : st ≤ rows.length := hst
  refine zQ (zQ (zG (zR 3 rfl (zN (zU ?_)))))
  refine W.condD rfl (fun hc1 => ?_) (fun hc1 => ?_)
  ·try dsimp only at hc1
   have hx := hl _ (nth_mem (xs := rows) (k := st) (by omega))
   refine zK (zU (zQ (zB (zQ (zG (zR 1 rfl ?_))))))
   refine yL (Rd.add (Rd.blk 0 rfl) _) ?_
   refine zR 1 rfl ?_
   refine WG.y rfl rfl qD (Yl.indexN tab_ok rfl rfl rfl rfl rfl rfl (fun _ => rfl) qN qH) ?_
   refine yR ?_
   refine zR 2 rfl ?_
   refine yA ?_
   refine zR 1 rfl (zN (zU ?_))
   refine W.condN rfl (fun hc2 => ?_) (fun hc2 => ?_)
   ·try dsimp only at hc2
    omega
   ·try dsimp only at hc2
    refine zK (zL (zU (zG (zR 1 rfl ?_))))
    refine yA ?_
    refine zR 1 rfl (zN ?_)
    refine WE.again (st + 1) qO (by (try dsimp only); omega) ⟨rfl, rfl, rfl, rfl, rfl⟩ (RLe.refl _) qS
  ·try dsimp only at hc1
   refine zX ?_
   refine wx (wx (zY (zU (zQ (zG (zR 1 rfl (zN (zU (zT ?_)))))))))
   refine sE (E := E) ?_
   refine WE.retF tab_ok [_] rfl ⟨rfl, trivial⟩ (RLe.refl _) ?_
   exact ⟨rfl, rfl⟩









theorem RightP_V {R : Ro} {za : Option Addr} {zc : Nat} {z : List Sz} (hzr : RS R 2 encZ za z) : FnV Tryz.prog 143 [.slice za z.length zc] R (.bool (zOk z)) := by
 have hla := hzr.len
 refine Fn.toV (fun w0 E => ?_)
 refine fE 27 Tryz.func143 ?_
 refine zQ (zG (zR 1 rfl (zN (zU (zQ (zQ (zG (zR 3 rfl (zN (zU (zB ?_)))))))))))
 refine W.loopK (β := Nat) (fun i => i ≤ z.length ∧ ∀ j, j < i → 0 ≤ (nth z j).least ∧ (nth z j).least ≤ (nth z j).most ∧ (nth z j).most ≤ 1500) (fun i => [(7, true, .int .i64 (i : Int))]) [5, 6] [_, _] [] _ rfl (fun i => []) (fun i => z.length - i) (0) (⟨Nat.zero_le _, fun j hj => by omega⟩) ⟨rfl, rfl, rfl, rfl⟩ qS ?_
 intro i hst
 dsimp only [zipE, setAll, List.cons_append, List.nil_append, List.set_cons_zero, List.set_cons_succ] at hst ⊢
 
 refine zQ (zG (zR 1 rfl (zN (zU (zQ ?_)))))
 refine W.condD rfl (fun hc0 => ?_) (fun hc0 => ?_)
 ·try dsimp only at hc0
  have hil : i < z.length := by omega
  refine zK (zU (zQ (zB (zQ (zG ?_)))))
  refine WG.y rfl rfl qD (Yl.indexN tab_ok rfl rfl rfl rfl rfl rfl (fun _ => rfl) qN qH) ?_
  refine yR ?_
  refine zA fun b4 => ?_
  refine zE 0 ?_
  refine zN (zU (zQ (zG (zR 1 rfl ?_))))
  refine yL (Rd.add (Rd.blk 0 rfl) _) ?_
  refine zR 2 rfl ?_
  refine yP ?_
  refine yG (Rd.addC (Rd.blkC 0 rfl) _) ?_
  refine yP ?_
  refine yG (Rd.addC (Rd.blkC 0 rfl) _) ?_
  refine yP ?_
  refine yO ?_
  refine zR 1 rfl ?_
  refine yP ?_
  refine yG (Rd.addC (Rd.blkC 0 rfl) _) ?_
  refine yP ?_
  refine yO ?_
  refine zN (zU ?_)
  refine W.cond rfl (fun hc1 => ?_) (fun hc1 => ?_)
  ·try simp only [zk] at hc1
   have hno : zOk z = false := by
    rw [← Bool.not_eq_true]
    intro h
    have := zOk_iff.1 h _ (nth_mem hil)
    omega
   refine zQ (zG (zR 1 rfl (zN (zU (zT (wb (wt (wt (wb (wt ?_))))))))))
   refine sE (E := E) ?_
   refine WE.retF tab_ok [_] rfl ⟨rfl, trivial⟩ (RLe.refl _) ?_
   exact ⟨by rw [hno]; rfl, rfl⟩
  ·try simp only [zk] at hc1
   have hy : 0 ≤ (nth z i).least ∧ (nth z i).least ≤ (nth z i).most ∧ (nth z i).most ≤ 1500 := by omega
   refine zK (zL (zU (zG ?_)))
   refine yA ?_
   refine zR 1 rfl (zN ?_)
   refine WE.again (i + 1) (⟨by omega, fun j hj => by
    by_cases e : j = i
    ·subst e; exact hy
    ·exact hst.2 j (by omega)⟩) (by (try dsimp only); omega) ⟨rfl, rfl, rfl, rfl⟩ (RLe.refl _) qS
 ·try dsimp only at hc0
  refine zX ?_
  refine wx (wx (zY (zU (zQ (zG (zR 1 rfl (zN (zU (zT ?_)))))))))
  refine sE (E := E) ?_
  refine WE.retF tab_ok [_] rfl ⟨rfl, trivial⟩ (RLe.refl _) ?_
  exact ⟨by rw [zOk_iff.2 (all_of_nth (fun j hj => hst.2 j (by omega)))]; rfl, rfl⟩

theorem CheckP_V {R : Ro} {za : Option Addr} {zc : Nat} {z : List Sz} {cap cls : Int} (hzr : RS R 2 encZ za z) : FnV Tryz.prog 83 [.int .i64 cap, .int .i64 cls, .slice za z.length zc] R (.int .i64 (chk18 cap cls z)) := by
 have hla := hzr.len
 refine Fn.toV (fun w0 E => ?_)
 refine fE 38 Tryz.func83 ?_
 refine zQ (zG (zR 1 rfl (zN (zU (zQ (zQ (zG (zR 3 rfl ?_))))))))
 refine yP ?_
 refine yP ?_
 refine yO ?_
 refine zR 1 rfl ?_
 refine yP ?_
 refine yP ?_
 refine yP ?_
 refine yO ?_
 refine zR 1 rfl ?_
 refine yP ?_
 refine yP ?_
 refine yP ?_
 refine yO ?_
 refine zR 1 rfl ?_
 refine yP ?_
 refine WG.callV en143 rfl rfl qD (CallOp.mk' rfl rfl rfl rfl) qE (fun hg => RightP_V hzr) ?_
 refine yP ?_
 refine yO ?_
 refine zR 1 rfl ?_
 refine yP ?_
 refine yP ?_
 refine yO ?_
 refine zR 1 rfl ?_
 refine yP ?_
 refine yP ?_
 refine yP ?_
 refine yP ?_
 refine yO ?_
 refine zN (zU ?_)
 refine W.cond rfl (fun hc0 => ?_) (fun hc0 => ?_)
 ·try simp only [zk] at hc0
  have e : chk18 cap cls z = 2 := if_pos (by
   rcases hc0 with (((((h|h)|h)|h)|h)|h)|h
   ·exact .inl h
   ·exact .inr (.inl h)
   ·exact .inr (.inr (.inl h))
   ·exact .inr (.inr (.inr (.inl h)))
   ·exact .inr (.inr (.inr (.inr (.inl h))))
   ·exact .inr (.inr (.inr (.inr (.inr (.inl h)))))
   ·exact .inr (.inr (.inr (.inr (.inr (.inr h))))))
  refine zQ (zG (zR 1 rfl (zN (zU (zT (wt ?_))))))
  refine sE (E := E) ?_
  refine WE.retF tab_ok [_] rfl ⟨rfl, trivial⟩ (RLe.refl _) ?_
  exact ⟨by rw [e]; rfl, rfl⟩
 ·try simp only [zk] at hc0
  have e : chk18 cap cls z = 0 := if_neg (by
   rintro (h|h|h|h|h|h|h) <;> first | omega | (simp_all; done))
  refine zK (zU (zQ (zG (zR 1 rfl (zN (zU (zT ?_)))))))
  refine sE (E := E) ?_
  refine WE.retF tab_ok [_] rfl ⟨rfl, trivial⟩ (RLe.refl _) ?_
  exact ⟨by rw [e]; rfl, rfl⟩

theorem CheckRob_V {R : Ro} {wa za : Option Addr} {wc zc : Nat} {w : List Int} {z : List Sz} (hwr : RS R 1 encI wa w) (hzr : RS R 2 encZ za z) {cap cls : Int} : FnV Tryz.prog 215 [.int .i64 cap, .int .i64 cls, .slice wa w.length wc, .slice za z.length zc] R (.int .i64 (chkW 20 cap cls w z)) := by
 have hla := hzr.len
 have hlw := hwr.len
 refine Fn.toV (fun w0 E => ?_)
 have h18 := chk18_vals cap cls z
 refine fE 27 Tryz.func215 ?_
 refine zQ (zG (zR 1 rfl (zN (zU (zQ (zQ (zG (zR 3 rfl ?_))))))))
 refine WG.callV en83 rfl rfl qD (CallOp.mk' rfl rfl rfl rfl) (fun _ => rfl) (fun hg => CheckP_V hzr) ?_
 refine zR 1 rfl (zN (zU (zQ (zG (zR 2 rfl (zN (zU ?_)))))))
 refine W.condN rfl (fun hc0 => ?_) (fun hc0 => ?_)
 ·try dsimp only at hc0
  have e : chkW 20 cap cls w z = 2 := if_pos hc0
  refine zQ (zG (zR 2 rfl (zN (zU (zT (wt ?_))))))
  refine sE (E := E) ?_
  refine WE.retF tab_ok [_] rfl ⟨rfl, trivial⟩ (RLe.refl _) ?_
  exact ⟨by rw [e, show chk18 cap cls z = 2 by omega]; rfl, rfl⟩
 ·try dsimp only at hc0
  refine zK (zU (zQ (zQ (zG (zR 6 rfl ?_)))))
  refine yP ?_
  refine WG.callV en221 rfl rfl qD (CallOp.mk' rfl rfl rfl rfl) qE (fun hg => Weighed19_V hwr) ?_
  refine yP ?_
  refine yO ?_
  refine zN (zU ?_)
  refine W.cond rfl (fun hc1 => ?_) (fun hc1 => ?_)
  ·try simp only [zk] at hc1
   have e : chkW 20 cap cls w z = 2 := by unfold chkW; rw [if_neg (fun h => h hc0), if_pos (by rcases hc1 with h | h; exact .inl (by omega); exact .inr h)]
   refine zQ (zG (zR 1 rfl (zN (zU (zT (wt ?_))))))
   refine sE (E := E) ?_
   refine WE.retF tab_ok [_] rfl ⟨rfl, trivial⟩ (RLe.refl _) ?_
   exact ⟨by rw [e]; rfl, rfl⟩
  ·try simp only [zk] at hc1
   have e : chkW 20 cap cls w z = 0 := by unfold chkW; rw [if_neg (fun h => h hc0), if_neg (by rintro (h | h) <;> first | omega | (simp_all; done))]
   refine zK (zU (zQ (zG (zR 1 rfl (zN (zU (zT ?_)))))))
   refine sE (E := E) ?_
   refine WE.retF tab_ok [_] rfl ⟨rfl, trivial⟩ (RLe.refl _) ?_
   exact ⟨by rw [e]; rfl, rfl⟩

theorem Round19_V {R : Ro} {wa za : Option Addr} {wc zc : Nat} {w : List Int} {z : List Sz} (hwr : RS R 1 encI wa w) (hzr : RS R 2 encZ za z) {cls : Int} (hw : ∀ x ∈ w, 1 ≤ x ∧ x ≤ 20) (hz : ∀ s ∈ z, 0 ≤ s.least ∧ s.least ≤ s.most ∧ s.most ≤ 1500) (hwz : w.length = z.length) (hwl : z.length ≤ 6) (hc : 0 ≤ cls ∧ cls < z.length) : FnV Tryz.prog 216 [.int .i64 cls, .slice wa w.length wc, .slice za z.length zc] R (.tuple #[.int .i64 (nth w cls.toNat * (nth z cls.toNat).least), .int .i64 (qSum cls w z w.length)]) := by
 have hla := hzr.len
 have hlw := hwr.len
 refine Fn.toV (fun w0 E => ?_)
 have hwk := hw _ (nth_mem (xs := w) (k := cls.toNat) (by omega))
 have hzk := hz _ (nth_mem (xs := z) (k := cls.toNat) (by omega))
 have hrb := mulB (a := nth w cls.toNat) (b := (nth z cls.toNat).least) (A := 20) (B := 1500) (by omega) (by omega)
 refine fE 41 Tryz.func216 ?_
 refine zQ (zG (zR 2 rfl (zN (zU (zQ (zQ (zG (zR 3 rfl (zN (zU (zB ?_)))))))))))
 refine W.loopK (β := Nat × Int) (fun (i, q) => i ≤ w.length ∧ q = qSum cls w z i) (fun (i, q) => [(7, true, .int .i64 q), (12, true, .int .i64 (i : Int))]) [0, 1, 2, 10, 11] [_, _, _, _, _] [] _ rfl (fun (i, q) => []) (fun (i, q) => w.length - i) ((0, 0)) (⟨Nat.zero_le _, rfl⟩) ⟨rfl, rfl, rfl, rfl, rfl, rfl, rfl, rfl⟩ qS ?_
 intro st hst
 obtain ⟨i, q⟩ := st
 dsimp only [zipE, setAll, List.cons_append, List.nil_append, List.set_cons_zero, List.set_cons_succ] at hst ⊢
 obtain ⟨hi, rfl⟩ := hst
 have hqb := qSum_bound (k := cls) hw hz i (by omega) (by omega)
 refine zQ (zG (zR 1 rfl (zN (zU (zQ ?_)))))
 refine W.condD rfl (fun hc0 => ?_) (fun hc0 => ?_)
 ·try dsimp only at hc0
  have hil : i < w.length := by omega
  have hwi := hw _ (nth_mem hil)
  have hzi := hz _ (nth_mem (xs := z) (k := i) (by omega))
  have hpb := mulB (a := nth w i) (b := (nth z i).most) (A := 20) (B := 1500) (by omega) (by omega)
  refine zK (zU (zQ (zB (zQ (zG (zR 1 rfl ?_))))))
  refine WG.y rfl rfl qD (Yl.indexN tab_ok rfl rfl rfl rfl rfl rfl (fun _ => rfl) qN qH) ?_
  refine yR ?_
  refine zR 2 rfl (zN (zU (zQ (zG (zR 3 rfl (zN (zU ?_)))))))
  refine W.condN rfl (fun hc1 => ?_) (fun hc1 => ?_)
  ·try dsimp only at hc1
   have hq1 : qSum cls w z (i + 1) = qSum cls w z i + nth w i * (nth z i).most := by simp only [qSum]; rw [if_pos hc1]
   refine zG (zR 4 rfl ?_)
   refine WG.y rfl rfl qD (Yl.indexN tab_ok rfl rfl rfl rfl rfl rfl (fun _ => rfl) qN qH) ?_
   refine zR 1 rfl ?_
   refine' WG.y rfl rfl qD (Yl.load1 tab_ok rfl rfl rfl (fun _ => rfl) ?r2 rfl ?h2) ?_
   case r2 => apply Rd.add; ((apply RS.rdD; assumption; ((try dsimp only) <;> omega)))
   case h2 => rfl
   refine WG.y rfl rfl qD (Yl.mul rfl rfl rfl (fun _ => rfl) qA) ?_
   refine yA ?_
   refine zR 1 rfl (zN (zL (zU (zG ?_))))
   refine yA ?_
   refine zR 1 rfl (zN ?_)
   refine WE.again ((i + 1, qSum cls w z i + nth w i * (nth z i).most)) (⟨by dsimp only; omega, by dsimp only; rw [hq1]⟩) (by (try dsimp only); omega) ⟨rfl, rfl, rfl, rfl, rfl, rfl, rfl, rfl⟩ (RLe.refl _) qS
  ·try dsimp only at hc1
   have hq1 : qSum cls w z (i + 1) = qSum cls w z i := by simp only [qSum]; rw [if_neg (by omega)]; omega
   refine zK (zL (zU (zG ?_)))
   refine yA ?_
   refine zR 1 rfl (zN ?_)
   refine WE.again ((i + 1, qSum cls w z i)) (⟨by dsimp only; omega, by dsimp only; rw [hq1]⟩) (by (try dsimp only); omega) ⟨rfl, rfl, rfl, rfl, rfl, rfl, rfl, rfl⟩ (RLe.refl _) qS
 ·try dsimp only at hc0
  obtain rfl : i = w.length := by omega
  refine zX ?_
  refine wx (wx (zY (zU (zQ ?_))))
  refine W.regionQ _ mixed qK ?_
  refine zR 2 rfl ?_
  refine WG.y rfl rfl qD (Yl.index tab_ok rfl rfl rfl rfl rfl rfl (fun _ => rfl) qA qH) ?_
  refine yR ?_
  refine zR 2 rfl ?_
  refine WG.y rfl rfl qD (Yl.index tab_ok rfl rfl rfl rfl rfl rfl (fun _ => rfl) qA qH) ?_
  refine zR 1 rfl ?_
  refine' WG.y rfl rfl qD (Yl.load1 tab_ok rfl rfl rfl (fun _ => rfl) ?r4 rfl ?h4) ?_
  case r4 => apply Rd.add; ((apply RS.rdD; assumption; ((try dsimp only) <;> omega)))
  case h4 => rfl
  refine WG.y rfl rfl qD (Yl.mul rfl rfl rfl (fun _ => rfl) qA) ?_
  refine zR 3 rfl (zN (zU (zT ?_)))
  refine sE (E := E) ?_
  refine WE.retF tab_ok [_, _] rfl ⟨rfl, rfl, trivial⟩ (RLe.refl _) ?_
  exact ⟨rfl, rfl⟩

theorem CurveH_V {R : Ro} {b1 b2 b3 b4 : Nat} {s r cap : Int} {t y : Nat} (h1 : R b1 = some [.int .i64 s]) (h2 : R b2 = some [.int .i64 r]) (h3 : R b3 = some [.int .i64 cap]) (h4 : R b4 = some [.int .i64 (t : Int)]) (hc : 0 ≤ cap ∧ cap ≤ 4000) (hr : 1 ≤ r ∧ r ≤ s) (hs : s ≤ 480000) (ht : t ≤ 1000) (hy : y ≤ 100000000) : FnV Tryz.prog 220 [.int .i64 (y : Int), .pointer (some ⟨b1, 0, none⟩), .pointer (some ⟨b2, 0, none⟩), .pointer (some ⟨b3, 0, none⟩), .pointer (some ⟨b4, 0, none⟩)] R (.bool (robinH cap s r t y)) := by
 refine Fn.toV (fun w0 E => ?_)
 have hq0 : 0 ≤ (y : Int) / r := Int.ediv_nonneg (by omega) (by omega)
 have hq1 : (y : Int) / r ≤ y := Int.ediv_le_self _ (by omega)
 have hp1 := mulB (a := s - r) (b := (y : Int) / r + 1) (A := 480000) (B := 100000001) (by omega) (by omega)
 have hp2 := mulB (a := cap) (b := (t : Int)) (A := 4000) (B := 1000) (by omega) (by omega)
 refine fE 21 Tryz.func220 ?_
 refine zQ (zG (zR 1 rfl (zN (zU (zQ ?_)))))
 refine W.regionQ _ mixed qK ?_
 refine zR 1 rfl ?_
 refine' WG.y rfl rfl qD (Yl.load1 tab_ok rfl rfl rfl (fun _ => rfl) ?r1 rfl ?h1) ?_
 case r1 => (exact Rd.ro qU)
 case h1 => rfl
 refine' WG.y rfl rfl qD (Yl.load1 tab_ok rfl rfl rfl (fun _ => rfl) ?r2 rfl ?h2) ?_
 case r2 => (exact Rd.ro qU)
 case h2 => rfl
 refine yS ?_
 refine zR 1 rfl ?_
 refine' WG.y rfl rfl qD (Yl.load1 tab_ok rfl rfl rfl (fun _ => rfl) ?r3 rfl ?h3) ?_
 case r3 => (exact Rd.ro qU)
 case h3 => rfl
 refine WG.y rfl rfl qD (Yl.quo rfl rfl rfl (fun _ => rfl) qA (by intro _; omega)) ?_
 refine yA ?_
 refine WG.y rfl rfl qD (Yl.mul rfl rfl rfl (fun _ => rfl) qA) ?_
 refine yA ?_
 refine' WG.y rfl rfl qD (Yl.load1 tab_ok rfl rfl rfl (fun _ => rfl) ?r4 rfl ?h4) ?_
 case r4 => (exact Rd.ro qU)
 case h4 => rfl
 refine' WG.y rfl rfl qD (Yl.load1 tab_ok rfl rfl rfl (fun _ => rfl) ?r5 rfl ?h5) ?_
 case r5 => (exact Rd.ro qU)
 case h5 => rfl
 refine WG.y rfl rfl qD (Yl.mul rfl rfl rfl (fun _ => rfl) qA) ?_
 refine zR 2 rfl (zN (zU (zT ?_)))
 refine sE (E := E) ?_
 refine WE.retF tab_ok [_] rfl ⟨rfl, trivial⟩ (RLe.refl _) ?_
 exact ⟨rfl, rfl⟩

theorem CurveG_V {R : Ro} {b1 b2 b3 : Nat} {s r cap : Int} {t : Nat} (h1 : R b1 = some [.int .i64 s]) (h2 : R b2 = some [.int .i64 r]) (h3 : R b3 = some [.int .i64 cap]) (hc : 0 ≤ cap ∧ cap ≤ 4000) (hr : 1 ≤ r ∧ r ≤ s) (hs : s ≤ 480000) (ht : t ≤ 1000) : FnV Tryz.prog 218 [.int .i64 (t : Int), .pointer (some ⟨b1, 0, none⟩), .pointer (some ⟨b2, 0, none⟩), .pointer (some ⟨b3, 0, none⟩)] R (.int .i64 (robinF cap s r t)) := by
 refine Fn.toVS (fun w0 E => ?_)
 have hp2 := mulB (a := cap) (b := (t : Int)) (A := 4000) (B := 1000) (by omega) (by omega)
 refine fE 8 Tryz.func218 ?_
 refine zQ (zG ?_)
 refine zO fun b4 => ?_
 refine zR 1 rfl ?_
 refine WL.freezeBlk 0 rfl ?_
 intro R1 hR1 hb4
 have h1 := hR1 _ _ h1
 have h2 := hR1 _ _ h2
 have h3 := hR1 _ _ h3
 generalize hbd : (cap * (t : Int)).toNat = bd
 have hbd4 : bd ≤ 4000000 := by omega
 have hHb : robinH cap s r t bd = true := by rw [← hbd]; exact robinH_bound (by omega) hr.2 t hc.1
 have hF : ∀ y : Nat, y ≤ 2 * bd + 1 → FnV Tryz.prog 220 ((#[] : Array Value).toList ++ [.int .i64 (y : Int)] ++ (#[.pointer (some ⟨b1, 0, none⟩), .pointer (some ⟨b2, 0, none⟩), .pointer (some ⟨b3, 0, none⟩), .pointer (some ⟨b4, 0, none⟩)] : Array Value).toList) R1 (.bool (robinH cap s r t y)) := fun y hy => CurveH_V h1 h2 h3 hb4 hc hr hs ht (by omega)
 refine zN (zU (zQ (zG ?_)))
 refine WG.y rfl rfl qD (Yl.makeFunc (fi := []) (ca := [.tmp 1, .tmp 2, .tmp 3, .tmp 4]) rfl rfl rfl (fun _ => rfl)) ?_
 refine WG.callV en219 rfl rfl qD (CallOp.mk' rfl rfl rfl rfl) (fun _ => rfl) (fun hg => FirstH_V (H := robinH cap s r t) (b := bd) en220 qO hHb (fun y y' h hy => robinH_mono qO hr.2 h hy) hF) ?_
 refine zR 1 rfl (zN (zU (zT ?_)))
 refine WE.retF tab_ok [_] rfl ⟨rfl, trivial⟩ (hR1) ?_
 exact ⟨by subst hbd; rfl, qS⟩



theorem CheckT_V {R : Ro} {wa : Option Addr} {wc : Nat} {tb : List Int} (hwr : RS R 1 encI wa tb) {za : Option Addr} {zc : Nat} {z : List Sz} (hzr : RS R 2 encZ za z) {cap cls : Int} : FnV Tryz.prog 242 [.int .i64 cap, .int .i64 cls, .slice wa tb.length wc, .slice za z.length zc] R (.int .i64 (chkT cap cls tb z)) := by
 have hla := hwr.len
 have hlz := hzr.len
 refine Fn.toV (fun w0 E => ?_)
 have h18 := chk18_vals cap cls z
 refine fE 22 Tryz.func242 ?_
 refine zQ (zG (zR 1 rfl (zN (zU (zQ (zQ (zG (zR 3 rfl ?_))))))))
 refine WG.callV en83 rfl rfl qD (CallOp.mk' rfl rfl rfl rfl) (fun _ => rfl) (fun hg => CheckP_V hzr) ?_
 refine zR 1 rfl (zN (zU (zQ (zG (zR 2 rfl (zN (zU ?_)))))))
 refine W.condN rfl (fun hc0 => ?_) (fun hc0 => ?_)
 ·try dsimp only at hc0
  have e : chkT cap cls tb z = 2 := if_pos hc0
  rw [show chk18 cap cls z = 2 by omega]
  refine zQ (zG (zR 2 rfl (zN (zU (zT (wt ?_))))))
  refine sE (E := E) ?_
  refine WE.retF tab_ok [_] rfl ⟨rfl, trivial⟩ (RLe.refl _) ?_
  exact ⟨by rw [e]; rfl, rfl⟩
 ·try dsimp only at hc0
  refine zK (zU (zQ (zQ (zG (zR 3 rfl ?_)))))
  refine WG.callV en249 rfl rfl qD (CallOp.mk' rfl rfl rfl rfl) (fun _ => rfl) (fun hg => ValidT_V hwr) ?_
  refine zR 1 rfl (zN (zU ?_))
  refine W.cond rfl (fun hc1 => ?_) (fun hc1 => ?_)
  ·try simp only [zk] at hc1
   have e : chkT cap cls tb z = 2 := by unfold chkT; rw [if_neg (fun h => h hc0), if_pos hc1]
   refine zQ (zG (zR 1 rfl (zN (zU (zT (wt ?_))))))
   refine sE (E := E) ?_
   refine WE.retF tab_ok [_] rfl ⟨rfl, trivial⟩ (RLe.refl _) ?_
   exact ⟨by rw [e]; rfl, rfl⟩
  ·try simp only [zk] at hc1
   have e : chkT cap cls tb z = 0 := by unfold chkT; rw [if_neg (fun h => h hc0), if_neg (by simp [hc1])]
   refine zK (zU (zQ (zG (zR 1 rfl (zN (zU (zT ?_)))))))
   refine sE (E := E) ?_
   refine WE.retF tab_ok [_] rfl ⟨rfl, trivial⟩ (RLe.refl _) ?_
   exact ⟨by rw [e]; rfl, rfl⟩








theorem TimesM_C {R : Ro} {pa wa : Option Addr} {pc wc l : Nat} {ps : List Pkt} {tb : List Int} {cap n ticks : Int} {b2 b3 : Nat} (hp : RS R 3 encP pa ps) (hl : ps.length = l) (hwr : RS R 1 encI wa tb) (h3 : R b3 = some [.slice wa tb.length wc]) (h2 : R b2 = some [.int .i64 cap]) (hl0 : lrunE cap n ticks ps = 0) (ht : 1 ≤ tb.length ∧ tb.length ≤ 40) (w0 : World) (E : List Ent) :
  K.Fn Tryz.prog 191 [.int .i64 cap, .int .i64 n, .slice pa l pc, .int .i64 ticks, .func (.func 247) #[] #[.pointer (some ⟨b3, 0, none⟩), .pointer (some ⟨b2, 0, none⟩)]] w0 R E
   (RunV ((mrun ps (slotCh ps cap tb) cap n.toNat ticks.toNat ()).done, (mrun ps (slotCh ps cap tb) cap n.toNat ticks.toNat ()).sent) E (fun r => r)) := by
 subst hl
 obtain ⟨hok, hvv, hck, c1, c2, c3, c4, c5, c6, hs, hf⟩ := lrunE_ok hl0
 obtain ⟨nt, rfl⟩ := Int.eq_ofNat_of_zero_le c5
 obtain ⟨nc, rfl⟩ := Int.eq_ofNat_of_zero_le (show 0 ≤ n by omega)
 simp only [Int.toNat_natCast]
 have hlw := hwr.len
 have hrun := MRun_C (pc := pc) (g := 247) (first := #[]) (capd := #[.pointer (some ⟨b3, 0, none⟩), .pointer (some ⟨b2, 0, none⟩)]) (ch := slotCh ps cap tb) (good := fun ms _ => goodB ps ms) (classes := nc) (cap := cap) (ticks := nt) (X := fun _ => []) (sg := ()) w0 hp (slot_fair hok.sorted).toGood ⟨by have := hok.len; omega, fun p hp => by have := hs p hp; have := hf p hp; omega⟩ (slot_start _) (by omega) (by omega) (by omega) en247 (fun sb bg ms sg F hgd hbl l1 l2 n1 n2 => Slot1_C w0 hp hbl hok.sorted hwr h3 h2 (by omega) (by omega) (by omega) hgd (by omega) (by omega) F) E
 simp only [List.nil_append] at hrun
 intro x hm
 refine (hrun x hm).mono ?_
 rintro e w' ⟨v, R', E', rfl, hR, hm', rows, gd, go, s, rfl, rfl, rfl, h1, h2, h3, hsub⟩
 have hm1 := hm'.sub (RLe.refl _) hsub
 obtain ⟨R1, g1, g2, g3⟩ := hm1.freeze (i := 0) (enc := encI) (xs := (mrun ps (slotCh ps cap tb) cap nc nt ()).done) rfl
 obtain ⟨R2, k1, k2, k3⟩ := g3.freeze (i := 0) (enc := encS) (xs := rows) rfl
 obtain ⟨R3, j1, j2, j3⟩ := Mem.freezeRows (rows := rows) (G := E) k3
 have hdl := h3.done
 have hlr : rows.length = nc := by rw [← h3.sent, ← h1, List.length_map]
 have hcapp := Mem.rowsCap (rows := rows) (G := E) k3
 refine ⟨_, R3, E, rfl, g1.trans (k1.trans j1), j3, some ⟨gd, 0, none⟩, some ⟨go, 0, none⟩, ps.length, nc, rows, ?_, g2.mono (k1.trans j1), k2.mono j1, j2, h1, hcapp, List.Sublist.refl _⟩
 dsimp only; rw [hdl, hlr]

theorem RunTimes_C {R : Ro} {pa : Option Addr} {pc l : Nat} {ps : List Pkt} (hp : RS R 3 encP pa ps) (hl : ps.length = l) {ticks : Int} {aw at_ : Option Addr} {lw cw lt ct : Nat} {L : Ln} (hw : RS R 1 encI aw L.w) (hlw : L.w.length = lw) (ht : RS R 1 encI at_ L.tb) (hlt : L.tb.length = lt) (hn : 1 ≤ L.n ∧ L.n ≤ 6) (hk : L.kind = 5) (htb : 1 ≤ L.tb.length ∧ L.tb.length ≤ 40) (w0 : World) (E : List Ent) : K.Fn Tryz.prog 239 [.agg #[], .agg #[.int .i64 L.kind, .int .i64 L.cap, .int .i64 L.n, .slice aw lw cw, .slice at_ lt ct], .slice pa l pc, .int .i64 ticks] w0 R E (RunV (runL L ticks ps) E (fun r => .tuple #[r, .int .i64 (runE L ticks ps)])) := by
 subst hl
 subst hlt
 have hla := hp.len
 have e0 : runE L ticks ps = lrunE L.cap L.n ticks ps := by simp [runE, hk]
 refine fE 41 Tryz.func239 ?_
 refine zQ (zG ?_)
 refine zO fun b4 => ?_
 refine zO fun b5 => ?_
 refine zA fun b8 => ?_
 refine zR 1 rfl (zN (zU (zQ (zQ (zG (zR 1 rfl ?_))))))
 refine WG.callV en79 rfl rfl qD (CallOp.mk' rfl rfl rfl rfl) (fun _ => rfl) (fun hg => Validate_V hp) ?_
 refine zR 1 rfl (zN (zU (zQ (zG (zR 2 rfl (zN (zU ?_)))))))
 refine W.condN rfl (fun hc0 => ?_) (fun hc0 => ?_)
 ·try dsimp only at hc0
  have e : runE L ticks ps = validate ps := by rw [e0]; exact if_pos hc0
  have eo : runL L ticks ps = ([], []) := by unfold runL; rw [if_pos (by rw [e]; exact hc0)]
  refine zQ (zG ?_)
  -- build
  refine WG.y rfl rfl qD (Yl.build (parts := []) tab_ok rfl rfl rfl rfl (fun _ => rfl) rfl rfl) ?_
  refine zR 1 rfl ?_
  refine zE 0 ?_
  refine zR 1 rfl (zN (zU (zT (wt ?_))))
  refine WE.retF tab_ok [_, _] rfl ⟨⟨_, _, _, rfl, rfl, rfl, qB, rfl⟩, rfl, trivial⟩ (by first | exact RLe.refl _ | exact hR9) ?_
  rw [eo, e]
  exact ⟨none, none, 0, 0, [], rfl, rs_nil, rs_nil, by simp, rfl, by simp, qS⟩
 ·try dsimp only at hc0
  refine zK (zU (zQ (zQ (zG (zR 1 rfl ?_)))))
  refine yL (Rd.add (Rd.blk 1 rfl) _) ?_
  refine zR 1 rfl ?_
  refine yL (Rd.add (Rd.blk 1 rfl) _) ?_
  refine zR 2 rfl ?_
  refine WG.callV en190 rfl rfl qD (CallOp.mk' rfl rfl rfl rfl) (fun _ => rfl) (fun hg => Check_V hp) ?_
  refine zR 1 rfl (zN (zU (zQ (zG (zR 2 rfl (zN (zU ?_)))))))
  refine W.condN rfl (fun hc1 => ?_) (fun hc1 => ?_)
  ·try dsimp only at hc1
   have e : runE L ticks ps = checkE L.cap L.n ticks ps := by rw [e0]; exact if_neg (fun h => h hc0)
   have eo : runL L ticks ps = ([], []) := by unfold runL; rw [if_pos (by rw [e]; exact hc1)]
   refine zQ (zG ?_)
   -- build
   refine WG.y rfl rfl qD (Yl.build (parts := []) tab_ok rfl rfl rfl rfl (fun _ => rfl) rfl rfl) ?_
   refine zR 1 rfl ?_
   refine zE 0 ?_
   refine zR 1 rfl (zN (zU (zT (wt ?_))))
   refine WE.retF tab_ok [_, _] rfl ⟨⟨_, _, _, rfl, rfl, rfl, qB, rfl⟩, rfl, trivial⟩ (by first | exact RLe.refl _ | exact hR9) ?_
   rw [eo, e]
   exact ⟨none, none, 0, 0, [], rfl, rs_nil, rs_nil, by simp, rfl, by simp, qS⟩
  ·try dsimp only at hc1
   have hl0 : lrunE L.cap L.n ticks ps = 0 := by unfold lrunE; rw [if_neg (fun h => h hc0)]; exact hc1
   have e : runE L ticks ps = 0 := by rw [e0]; exact hl0
   have eo : runL L ticks ps = ((mrun ps (slotCh ps L.cap L.tb) L.cap L.n.toNat ticks.toNat ()).done, (mrun ps (slotCh ps L.cap L.tb) L.cap L.n.toNat ticks.toNat ()).sent) := by unfold runL; rw [if_neg (by omega)]; simp [sendL, hk]
   refine zK (zU (zQ ?_))
   refine W.regionH _ (ES := (.blk b5 [.int .i64 L.kind, .int .i64 L.cap, .int .i64 L.n, .slice aw lw cw, .slice at_ L.tb.length ct] :: E)) mixed ?_
   refine tP 0 ?_
   refine tL 1 (Rd.add (Rd.blk 0 rfl) _) ?_
   refine tP 2 ?_
   refine tL 3 (Rd.add (Rd.blk 0 rfl) _) ?_
   refine tP 4 ?_
   refine tP 5 ?_
   refine tP 6 ?_
   refine tL 7 (Rd.add (Rd.blk 0 rfl) _) ?_
   refine tP 8 ?_
   refine tL 9 (Rd.add (Rd.blk 0 rfl) _) ?_
   refine WA.callG 10 rfl qK en241 rfl (by first | rfl | decide) rfl qD (CallOp.mkT rfl rfl rfl rfl) (SlotsMk_C w0 _) ?_
   rintro _ _ _ - ⟨b2, b3, rfl, rfl, rfl⟩
   refine ⟨qR, qS, ?_⟩
   refine WA.freezeBlk 0 rfl (fun R1 hR1 h3 => ?_)
   refine WA.freezeBlk 0 rfl (fun R2 hR2 h2 => ?_)
   have hR9 := hR1.trans hR2
   refine WA.callG 11 rfl qK en191 rfl (by first | rfl | decide) rfl qD (CallOp.mkT rfl rfl rfl rfl) (TimesM_C (hp.mono hR9) rfl (ht.mono hR9) (hR2 _ _ h3) h2 hl0 htb w0 _) ?_
   rintro _ R3 E3 hR3 ⟨da, oa, dc, oc, rows, rfl, hd, ho, hrw, hrx, hcp, hsub⟩
   have hR9 := hR9.trans hR3
   refine ⟨hR9, (by refine List.Sublist.trans ?_ hsub; (repeat (first | exact List.Sublist.refl _ | exact List.nil_sublist _ | apply List.Sublist.cons_cons | apply List.Sublist.cons)); done), ?_⟩
   refine WA.subE hsub ?_
   rw [← eo] at hd hrx
   rw [← eo]
   refine zCE 12 0 ?_
   refine tP 13 ?_
   refine WA.done qK ?_
   refine zU (zT ?_)
   refine WE.retF tab_ok [_, _] rfl ⟨⟨_, _, _, rfl, rfl, rfl, qB, rfl⟩, rfl, trivial⟩ (by first | exact RLe.refl _ | exact hR9) ?_
   rw [e]
   exact ⟨da, oa, dc, oc, rows, rfl, hd, ho, hrw, hrx, hcp, qS⟩




theorem run_any {R : Ro} {pa : Option Addr} {pc l : Nat} {ps : List Pkt} (hp : RS R 3 encP pa ps) (hl : ps.length = l) {ticks : Int} {aw at_ : Option Addr} {lw cw lt ct : Nat} {L : Ln} (hw : RS R 1 encI aw L.w) (hlw : L.w.length = lw) (ht : RS R 1 encI at_ L.tb) (hlt : L.tb.length = lt) (h0 : chkL L = 0) (w0 : World) (E : List Ent) :
  ∃ (T f : Nat), kindI L.kind = .iface T (.agg #[]) ∧ Meth Tryz.prog T (.agg #[]) "netcalculus/server.run" f [.agg #[.int .i64 L.kind, .int .i64 L.cap, .int .i64 L.n, .slice aw lw cw, .slice at_ lt ct], .slice pa l pc, .int .i64 ticks] ∧ K.Fn Tryz.prog f [.agg #[], .agg #[.int .i64 L.kind, .int .i64 L.cap, .int .i64 L.n, .slice aw lw cw, .slice at_ lt ct], .slice pa l pc, .int .i64 ticks] w0 R E (RunV (runL L ticks ps) E (fun r => .tuple #[r, .int .i64 (runE L ticks ps)])) := by
 have hf := chk_facts h0
 have hn : 1 ≤ L.n ∧ L.n ≤ 6 := ⟨hf.2.2.2.1, hf.2.2.2.2.1⟩
 rcases (show L.kind = 1 ∨ L.kind = 2 ∨ L.kind = 3 ∨ L.kind = 4 ∨ L.kind = 5 by omega) with h | h | h | h | h
 ·exact ⟨_, _, by unfold kindI; rw [h]; rfl, meth_run1 _ _ _, RunFifo_C hp hl hw hlw ht hlt hn h  w0 E⟩
 ·exact ⟨_, _, by unfold kindI; rw [h]; rfl, meth_run2 _ _ _, RunRanks_C hp hl hw hlw ht hlt hn h  w0 E⟩
 ·exact ⟨_, _, by unfold kindI; rw [h]; rfl, meth_run3 _ _ _, RunRobin_C hp hl hw hlw ht hlt hn h (chk_rob h0 h).1 w0 E⟩
 ·exact ⟨_, _, by unfold kindI; rw [h]; rfl, meth_run4 _ _ _, RunDef_C hp hl hw hlw ht hlt hn h (chk_def h0 h).1 w0 E⟩
 ·exact ⟨_, _, by unfold kindI; rw [h]; rfl, meth_run5 _ _ _, RunTimes_C hp hl hw hlw ht hlt hn h (chk_times h0 h).1 w0 E⟩

theorem RunSrv_C {R : Ro} {pa : Option Addr} {pc l : Nat} {ps : List Pkt} (hp : RS R 3 encP pa ps) (hl : ps.length = l) {ticks : Int} {aw at_ : Option Addr} {lw cw lt ct : Nat} {L : Ln} (hw : RS R 1 encI aw L.w) (hlw : L.w.length = lw) (ht : RS R 1 encI at_ L.tb) (hlt : L.tb.length = lt) (w0 : World) (E : List Ent) : K.Fn Tryz.prog 13 [.agg #[.int .i64 L.kind, .int .i64 L.cap, .int .i64 L.n, .slice aw lw cw, .slice at_ lt ct], .slice pa l pc, .int .i64 ticks] w0 R E (RunV (srvL L ticks ps) E (fun r => .tuple #[r, .int .i64 (srvE L ticks ps)])) := by
 refine fE 30 Tryz.func13 ?_
 refine zQ (zG ?_)
 refine zO fun b3 => ?_
 refine zA fun b6 => ?_
 refine zR 1 rfl (zN (zU (zQ (zQ (zG ?_)))))
 refine yL (Rd.blk 1 rfl) ?_
 refine WG.callV en27 rfl rfl qD (CallOp.mk' rfl rfl rfl rfl) (fun _ => rfl) (fun hg => ChkSrv_V hw hlw ht hlt) ?_
 refine zR 1 rfl (zN (zU (zQ (zG (zR 2 rfl (zN (zU ?_)))))))
 refine W.condN rfl (fun hc0 => ?_) (fun hc0 => ?_)
 ·try dsimp only at hc0
  have e : srvE L ticks ps = chkL L := if_pos hc0
  have eo : srvL L ticks ps = ([], []) := if_pos hc0
  refine zQ (zG ?_)
  -- build
  refine WG.y rfl rfl qD (Yl.build (parts := []) tab_ok rfl rfl rfl rfl (fun _ => rfl) rfl rfl) ?_
  refine zR 1 rfl ?_
  refine zE 0 ?_
  refine zR 1 rfl (zN (zU (zT (wt ?_))))
  refine WE.retF tab_ok [_, _] rfl ⟨⟨_, _, _, rfl, rfl, rfl, qB, rfl⟩, rfl, trivial⟩ (by first | exact RLe.refl _ | exact hR2) ?_
  rw [eo, e]
  exact ⟨none, none, 0, 0, [], rfl, rs_nil, rs_nil, by simp, rfl, by simp, qS⟩
 ·try dsimp only at hc0
  have e : srvE L ticks ps = runE L ticks ps := if_neg (fun h => h hc0)
  have eo : srvL L ticks ps = runL L ticks ps := if_neg (fun h => h hc0)
  refine zK (zU (zQ (zG (zR 1 rfl ?_))))
  refine yL (Rd.add (Rd.blk 1 rfl) _) ?_
  refine WG.callV en44 rfl rfl qD (CallOp.mk' rfl rfl rfl rfl) (fun _ => rfl) (fun hg => Kind_V L.kind) ?_
  refine zR 5 rfl (zN (zU ?_))
  obtain ⟨T9, f9, e9, m9, v9⟩ := run_any (R := R) (pc := pc) (lw := lw) (lt := lt) (cw := cw) (ct := ct) (ticks := ticks) hp hl hw hlw ht hlt hc0 w0 (.blk b6 [.slice none 0 0, .slice none 0 0] :: .blk b3 [.int .i64 L.kind, .int .i64 L.cap, .int .i64 L.n, .slice aw lw cw, .slice at_ lt ct] :: E)
  rw [e9]
  refine zQ (zG (zR 1 rfl ?_))
  refine yL (Rd.blk 1 rfl) ?_
  refine zR 2 rfl ?_
  refine WL.callI (args := [.tmp 24, .tmp 25, .tmp 26]) rfl rfl rfl qD rfl rfl (m9) (v9) ?_
  rintro _ R2 E2 hR2 ⟨da, oa, dc, oc, rows, rfl, hd, ho, hrw, hrx, hcp, hsub⟩
  refine WL.subE hsub ?_
  rw [← eo] at hd hrx
  rw [← eo]
  refine zR 2 rfl ?_
  refine zE 0 ?_
  refine zR 1 rfl (zN (zU (zT ?_)))
  refine WE.retF tab_ok [_, _] rfl ⟨⟨_, _, _, rfl, rfl, rfl, qB, rfl⟩, rfl, trivial⟩ (by first | exact RLe.refl _ | exact hR2) ?_
  rw [e]
  exact ⟨da, oa, dc, oc, rows, rfl, hd, ho, hrw, hrx, hcp, qS⟩

end Go.Proofs.YthpblaoehlgpfaaGreat

/- An operation without a value, one of several that may come up. No condition. -/
namespace Go.Proofs.YthpblaoehlgpfaaGreat.K
open Go Go.RowKit
variable {P : Program} {T : Tab} {n : Nat} {env : Env} {w0 : World} {R : Ro} {E : List Ent} {Q : Exit → Act → World → Prop}
variable {ops : List Oper} {o : Oper} {ES : List Ent} {R0 : Ro} {fuel : Nat} {listed : Array Bool}
theorem WS.effN {i : Nat} (hi : ops.toArray[i]? = some o) (hg : o.guard = none) (hd : o.dst = none)
  (h : Ef P n env w0 R E o fun _ R' E' => RLe R0 R' ∧ ES.Sublist E' ∧ WA P ops Q ES R0 w0 fuel (listed.setIfInBounds i true) n env R' E') : WS P ops Q ES R0 w0 fuel listed n env R E i := by
 intro a w hk hm
 unfold wpOp
 rw [hi]
 simp only [Region.wanted, hg, if_true]
 left
 obtain ⟨v, w', R', E', hrun, hm', hR', hsub', hn⟩ := h a w hk hm
 unfold Oper.wp
 rcases hrun with hrun | ⟨hrun, rfl⟩
 ·rw [hrun]; simp only [Oper.upon, hd]; exact ⟨hm'.sub hR' hsub', hn _ _ hk hm'⟩
 ·rw [hrun]; simp only [Oper.upon, hd]; exact ⟨hm'.sub hR' hsub', hn _ _ hk hm'⟩
end Go.Proofs.YthpblaoehlgpfaaGreat.K

/- Finite curves: values, gains, validity. No condition. -/
set_option maxRecDepth 4000
set_option linter.unusedSimpArgs false
set_option linter.unusedVariables false
namespace Go.Proofs.YthpblaoehlgpfaaGreat
open Go Go.RowKit Go.Proofs.YthpblaoehlgpfaaGreat.K Go.Proofs.YthpblaoehlgpfaaGreat.M

theorem WAt_V {R : Ro} {fa : Option Addr} {fc : Nat} {F : Nat → Int} {S P : Nat} {I : Int} (hf : FC F S P I) (ha : RS R 1 encI fa (fvals F (S + P))) {t : Nat} (ht : t ≤ 1000000000000000000) (hG : F t ≤ 4000000000000000000) : FnV Tryz.prog 90 [.agg #[.slice fa (fvals F (S + P)).length fc, .int .i64 (P : Int), .int .i64 I], .int .i64 (t : Int)] R (.int .i64 (F t)) := by
 have hfl := fvals_len F (S + P)
 have hP := hf.hP
 have hn := hf.hn
 have hI := hf.hI
 refine Fn.toV (fun w0 E => ?_)
 refine fE 45 Tryz.func90 ?_
 refine zQ (zG ?_)
 refine zO fun b2 => ?_
 refine zR 1 rfl (zN (zU (zQ (zG (zR 1 rfl ?_)))))
 refine yL (Rd.add (Rd.blk 0 rfl) _) ?_
 refine zR 2 rfl (zN (zU (zQ (zQ (zG (zR 3 rfl (zN (zU ?_))))))))
 refine W.condD rfl (fun hc0 => ?_) (fun hc0 => ?_)
 ·try dsimp only at hc0
  have htl : t < S + P := by omega
  refine zQ (zG (zR 1 rfl ?_))
  refine yL (Rd.add (Rd.blk 0 rfl) _) ?_
  refine zR 1 rfl ?_
  refine WG.y rfl rfl qD (Yl.indexN tab_ok rfl rfl rfl rfl rfl rfl (fun _ => rfl) qN qH) ?_
  refine yR ?_
  refine zR 1 rfl (zN (zU (zT (wt ?_))))
  refine sE (E := E) ?_
  refine WE.retF tab_ok [_] rfl ⟨rfl, trivial⟩ (RLe.refl _) ?_
  exact ⟨by rw [fvals_nth F htl]; rfl, rfl⟩
 ·try dsimp only at hc0
  obtain ⟨q, hq⟩ := Int.eq_ofNat_of_zero_le (show 0 ≤ ((t : Int) - ((fvals F (S + P)).length : Int)) / (P : Int) from Int.ediv_nonneg (by omega) (by omega))
  have hq1 : (q : Int) * P ≤ (t : Int) - (S + P : Nat) := by rw [← hfl, ← hq]; exact Int.ediv_mul_le _ (by omega)
  have hq2 : (t : Int) - (S + P : Nat) < P * (q : Int) + P := by rw [← hfl, ← hq]; exact Int.lt_mul_ediv_self_add (by omega)
  rw [Int.mul_comm] at hq2
  have hq3 : (q + 1) * P = q * P + P := by rw [Nat.add_mul]; omega
  have hq4 : ((q * P : Nat) : Int) = (q : Int) * P := by rw [Int.natCast_mul]
  have hq5 : ((q : Int) + 1) * (P : Int) = (((q + 1) * P : Nat) : Int) := by rw [Int.natCast_mul]; rfl
  have hqle : q ≤ t := Nat.le_trans (Nat.le_mul_of_pos_right q (show 0 < P by omega)) (by omega)
  have hgm := hf.hg.mul (q + 1) (t - (q + 1) * P) (by omega)
  rw [show t - (q + 1) * P + (q + 1) * P = t by omega, show ((q + 1 : Nat) : Int) = (q : Int) + 1 from rfl] at hgm
  have hF0 := hf.nonneg (t - (q + 1) * P)
  have hF1 := hf.fin (t := t - (q + 1) * P) (by omega)
  have hqI : 0 ≤ ((q : Int) + 1) * I := Int.mul_nonneg (by omega) (by omega)
  refine zK (zU (zQ (zG (zR 2 rfl ?_))))
  refine yS ?_
  refine zR 1 rfl ?_
  refine yL (Rd.add (Rd.blk 0 rfl) _) ?_
  refine WG.y rfl rfl qD (Yl.quo rfl rfl rfl (fun _ => rfl) qA (by intro _; omega)) ?_
  refine yA ?_
  refine zR 1 rfl (zN (zU ?_))
  rw [hq]
  refine zQ (zG (zR 1 rfl ?_))
  refine yL (Rd.add (Rd.blk 0 rfl) _) ?_
  refine zR 3 rfl ?_
  refine yL (Rd.add (Rd.blk 0 rfl) _) ?_
  refine WG.y rfl rfl qD (Yl.mul rfl rfl rfl (fun _ => rfl) qA) ?_
  refine yS ?_
  rw [hq5, show (t : Int) - (((q + 1) * P : Nat) : Int) = ((t - (q + 1) * P : Nat) : Int) by omega]
  refine WG.y rfl rfl qD (Yl.indexN tab_ok rfl rfl rfl rfl rfl rfl (fun _ => rfl) qN qH) ?_
  refine yR ?_
  refine zR 1 rfl (zN (zU (zQ ?_)))
  rw [fvals_nth F (show t - (q + 1) * P < S + P by omega)]
  refine zQ (zG (zR 2 rfl (zN (zU ?_))))
  refine W.condE rfl (fun hc1 => ?_) (fun hc1 => ?_)
  ·try dsimp only at hc1
   exact absurd hc1 hF1
  ·try dsimp only at hc1
   refine zK (zU (zQ (zG (zR 3 rfl ?_))))
   refine yL (Rd.add (Rd.blk 0 rfl) _) ?_
   refine WG.y rfl rfl qD (Yl.mul rfl rfl rfl (fun _ => rfl) qA) ?_
   refine yA ?_
   refine zR 1 rfl (zN (zU (zT ?_)))
   refine sE (E := E) ?_
   refine WE.retF tab_ok [_] rfl ⟨rfl, trivial⟩ (RLe.refl _) ?_
   exact ⟨by rw [hgm]; rfl, rfl⟩



theorem CloneI_C {R : Ro} {fa : Option Addr} {fc : Nat} {xs : List Int} (ha : RS R 1 encI fa xs) (hx : 0 < xs.length) (hl : xs.length ≤ 100000) (w0 : World) (E : List Ent) : K.Fn Tryz.prog 161 [.slice fa xs.length fc] w0 R E (fun v R' E' => ∃ (a2 : Option Addr) (c2 : Nat), v = .slice a2 xs.length c2 ∧ R = R' ∧ (.sl 3 1 a2 c2 (xs.map encI) :: E).Sublist E') := by
 have hns := ha.some hx
 refine fE 8 Tryz.func161 ?_
 refine zQ (zG (zR 1 rfl (zN (zU (zQ (zQ (zG (zR 1 rfl ?_))))))))
 refine WG.y rfl rfl qD (Yl.eqNilS Tryz.underlying22 rfl rfl rfl (fun _ => rfl)) ?_
 refine zN (zU ?_)
 refine W.cond rfl (fun hc0 => ?_) (fun hc0 => ?_)
 ·try simp only [zk] at hc0
  rw [hns] at hc0; cases hc0
 ·try simp only [zk] at hc0
  refine zK (zU (zQ (zG ?_)))
  refine WL.ef rfl rfl qD (Ef.buildSliceD (enc := encI) (parts := []) [] tab_ok rfl rfl rfl rfl rfl rfl rfl rfl qD qD (fun a5 => ?_))
  refine zR 1 rfl ?_
  refine WL.ef rfl rfl qD (Ef.cloneL (enc := encI) 0 tab_ok rfl rfl rfl rfl rfl rfl rfl rfl rfl rfl ha (fun _ _ => rfl) (by dsimp only; omega) qO (fun a7 c7 ha7 => ?_))
  refine zR 1 rfl (zN (zU (zT ?_)))
  refine WE.retF tab_ok [_] rfl ⟨rfl, trivial⟩ (RLe.refl _) ?_
  exact ⟨_, _, rfl, rfl, qS⟩



theorem WAtG_V {R : Ro} {fa : Option Addr} {fc : Nat} {c : Cv} (hv : validB c = true) (ha : RS R 1 encI fa c.vals) {t : Nat} (ht : t ≤ 1000000000) : FnV Tryz.prog 90 [.agg #[.slice fa c.vals.length fc, .int .i64 c.per, .int .i64 c.inc], .int .i64 (t : Int)] R (.int .i64 (cvF c t)) := by
 refine Fn.toV (fun w0 E => ?_)
 obtain ⟨hr1, hr2, hr3, hr4, hr5, hr6, hr7, hr8⟩ := valid_range hv
 refine fE 45 Tryz.func90 ?_
 refine zQ (zG ?_)
 refine zO fun b2 => ?_
 refine zR 1 rfl (zN (zU (zQ (zG (zR 1 rfl ?_)))))
 refine yL (Rd.add (Rd.blk 0 rfl) _) ?_
 refine zR 2 rfl (zN (zU (zQ (zQ (zG (zR 3 rfl (zN (zU ?_))))))))
 refine W.condD rfl (fun hc0 => ?_) (fun hc0 => ?_)
 ·try dsimp only at hc0
  have htl : t < c.vals.length := by omega
  refine zQ (zG (zR 1 rfl ?_))
  refine yL (Rd.add (Rd.blk 0 rfl) _) ?_
  refine zR 1 rfl ?_
  refine WG.y rfl rfl qD (Yl.indexN tab_ok rfl rfl rfl rfl rfl rfl (fun _ => rfl) qN qH) ?_
  refine yR ?_
  refine zR 1 rfl (zN (zU (zT (wt ?_))))
  refine sE (E := E) ?_
  refine WE.retF tab_ok [_] rfl ⟨rfl, trivial⟩ (RLe.refl _) ?_
  exact ⟨by rw [cvF_low htl]; rfl, rfl⟩
 ·try dsimp only at hc0
  obtain ⟨P, hP⟩ := Int.eq_ofNat_of_zero_le (show 0 ≤ c.per by omega)
  have hPn : 1 ≤ P ∧ P ≤ c.vals.length := by omega
  obtain ⟨j1, j2, j3⟩ := cvJ_at hPn (show c.vals.length ≤ t by omega)
  have hcv := cvF_high hP hPn (show c.vals.length ≤ t by omega)
  generalize hq : (t - c.vals.length) / P = q at j3 hcv
  have hq1 : ((t : Int) - (c.vals.length : Int)) / c.per = (q : Int) := by rw [hP, show (t : Int) - (c.vals.length : Int) = ((t - c.vals.length : Nat) : Int) by omega, ← hq]; rfl
  have hq5 : ((q : Int) + 1) * c.per = (((q + 1) * P : Nat) : Int) := by rw [hP, Int.natCast_mul]; rfl
  have hj : (t : Int) - (((q + 1) * P : Nat) : Int) = (cvJ c.vals.length P t : Int) := by omega
  have hqt : q + 1 ≤ t := Nat.le_trans (Nat.le_mul_of_pos_right (q + 1) (show 0 < P by omega)) (by omega)
  have hve := valid_each hv _ j2
  have hqI := mulB (a := (q : Int) + 1) (b := c.inc) (A := 1000000000) (B := 1073741824) (by omega) (by omega)
  refine zK (zU (zQ (zG (zR 2 rfl ?_))))
  refine yS ?_
  refine zR 1 rfl ?_
  refine yL (Rd.add (Rd.blk 0 rfl) _) ?_
  refine WG.y rfl rfl qD (Yl.quo rfl rfl rfl (fun _ => rfl) qA (by intro _; omega)) ?_
  refine yA ?_
  refine zR 1 rfl (zN (zU ?_))
  rw [hq1]
  refine zQ (zG (zR 1 rfl ?_))
  refine yL (Rd.add (Rd.blk 0 rfl) _) ?_
  refine zR 3 rfl ?_
  refine yL (Rd.add (Rd.blk 0 rfl) _) ?_
  refine WG.y rfl rfl qD (Yl.mul rfl rfl rfl (fun _ => rfl) qA) ?_
  refine yS ?_
  rw [hq5, hj]
  refine WG.y rfl rfl qD (Yl.indexN tab_ok rfl rfl rfl rfl rfl rfl (fun _ => rfl) qN qH) ?_
  refine yR ?_
  refine zR 1 rfl (zN (zU (zQ (zQ (zG (zR 2 rfl (zN (zU ?_))))))))
  refine W.condE rfl (fun hc1 => ?_) (fun hc1 => ?_)
  ·try dsimp only at hc1
   have hcv : cvF c t = 4611686018427387904 := by rw [hcv, if_pos (show _ = INF from hc1)]; rfl
   refine zQ (zG (zR 2 rfl (zN (zU (zT (wt ?_))))))
   refine sE (E := E) ?_
   refine WE.retF tab_ok [_] rfl ⟨rfl, trivial⟩ (RLe.refl _) ?_
   exact ⟨by rw [hcv, hc1]; rfl, rfl⟩
  ·try dsimp only at hc1
   have hvm := hve.resolve_left hc1
   unfold MAXV at hvm
   rw [if_neg (show ¬ _ = INF from hc1), show ((q + 1 : Nat) : Int) = (q : Int) + 1 from rfl] at hcv
   refine zK (zU (zQ (zG (zR 3 rfl ?_))))
   refine yL (Rd.add (Rd.blk 0 rfl) _) ?_
   refine WG.y rfl rfl qD (Yl.mul rfl rfl rfl (fun _ => rfl) qA) ?_
   refine yA ?_
   refine zR 1 rfl (zN (zU (zT ?_)))
   refine sE (E := E) ?_
   refine WE.retF tab_ok [_] rfl ⟨rfl, trivial⟩ (RLe.refl _) ?_
   exact ⟨by rw [hcv]; rfl, rfl⟩

theorem WFiniteG_V {R : Ro} {fa : Option Addr} {fc : Nat} {c : Cv} (hv : validB c = true) (ha : RS R 1 encI fa c.vals) : FnV Tryz.prog 147 [.agg #[.slice fa c.vals.length fc, .int .i64 c.per, .int .i64 c.inc]] R (.bool (finB c)) := by
 refine Fn.toV (fun w0 E => ?_)
 obtain ⟨hr1, hr2, hr3, hr4, hr5, hr6, hr7, hr8⟩ := valid_range hv
 have hl : ((c.vals.length : Int) - 1).toNat = c.vals.length - 1 := by omega
 refine fE 12 Tryz.func147 ?_
 refine zQ (zG ?_)
 refine zO fun b1 => ?_
 refine zR 1 rfl (zN (zU (zQ (zG (zR 1 rfl ?_)))))
 refine yL (Rd.add (Rd.blk 0 rfl) _) ?_
 refine zR 1 rfl ?_
 refine yL (Rd.add (Rd.blk 0 rfl) _) ?_
 refine zR 1 rfl ?_
 refine yS ?_
 refine WG.y rfl rfl qD (Yl.index tab_ok rfl rfl rfl rfl rfl rfl (fun _ => rfl) qA qH) ?_
 refine yR ?_
 refine zR 2 rfl (zN (zU (zT ?_)))
 refine sE (E := E) ?_
 refine WE.retF tab_ok [_] rfl ⟨rfl, trivial⟩ (RLe.refl _) ?_
 exact ⟨by rw [hl]; rfl, rfl⟩

theorem WStartG_V {R : Ro} {fa : Option Addr} {fc : Nat} {c : Cv} (hv : validB c = true) (ha : RS R 1 encI fa c.vals) : FnV Tryz.prog 146 [.agg #[.slice fa c.vals.length fc, .int .i64 c.per, .int .i64 c.inc]] R (.int .i64 (stN c : Int)) := by
 refine Fn.toV (fun w0 E => ?_)
 obtain ⟨hr1, hr2, hr3, hr4, hr5, hr6, hr7, hr8⟩ := valid_range hv
 have hl : (c.vals.length : Int) - c.per = (stN c : Int) := by unfold stN; omega
 refine fE 9 Tryz.func146 ?_
 refine zQ (zG ?_)
 refine zO fun b1 => ?_
 refine zR 1 rfl (zN (zU (zQ (zG (zR 1 rfl ?_)))))
 refine yL (Rd.add (Rd.blk 0 rfl) _) ?_
 refine zR 2 rfl ?_
 refine yL (Rd.add (Rd.blk 0 rfl) _) ?_
 refine yS ?_
 refine zR 1 rfl (zN (zU (zT ?_)))
 refine sE (E := E) ?_
 refine WE.retF tab_ok [_] rfl ⟨rfl, trivial⟩ (RLe.refl _) ?_
 exact ⟨by rw [hl]; rfl, rfl⟩

theorem WGainG_V {R : Ro} {fa : Option Addr} {fc : Nat} {c : Cv} (hv : validB c = true) (ha : RS R 1 encI fa c.vals) {L : Nat} (hL : L ≤ 100000) : FnV Tryz.prog 148 [.agg #[.slice fa c.vals.length fc, .int .i64 c.per, .int .i64 c.inc], .int .i64 (L : Int)] R (.int .i64 (gainC c L)) := by
 refine Fn.toV (fun w0 E => ?_)
 obtain ⟨hr1, hr2, hr3, hr4, hr5, hr6, hr7, hr8⟩ := valid_range hv
 have hd0 : 0 ≤ (L : Int) / c.per := Int.ediv_nonneg (by omega) (by omega)
 have hd1 : (L : Int) / c.per ≤ L := Int.ediv_le_self _ (by omega)
 have hd2 := mulB (a := (L : Int) / c.per) (b := c.inc) (A := 100000) (B := 1073741824) (by omega) (by omega)
 refine fE 12 Tryz.func148 ?_
 refine zQ (zG ?_)
 refine zO fun b2 => ?_
 refine zR 1 rfl (zN (zU (zQ ?_)))
 refine W.regionQ _ mixed qK ?_
 refine zR 2 rfl ?_
 refine yL (Rd.add (Rd.blk 0 rfl) _) ?_
 refine WG.y rfl rfl qD (Yl.quo rfl rfl rfl (fun _ => rfl) qA (by intro _; omega)) ?_
 refine zR 1 rfl ?_
 refine yL (Rd.add (Rd.blk 0 rfl) _) ?_
 refine WG.y rfl rfl qD (Yl.mul rfl rfl rfl (fun _ => rfl) qA) ?_
 refine zR 1 rfl (zN (zU (zT ?_)))
 refine sE (E := E) ?_
 refine WE.retF tab_ok [_] rfl ⟨rfl, trivial⟩ (RLe.refl _) ?_
 exact ⟨rfl, rfl⟩

theorem PGainG_V {R : Ro} {fa : Option Addr} {fc : Nat} {c : Cv} (hv : validB c = true) (ha : RS R 1 encI fa c.vals) {L : Nat} (hL : L ≤ 100000) : FnV Tryz.prog 167 [.agg #[.slice fa c.vals.length fc, .int .i64 c.per, .int .i64 c.inc], .int .i64 (L : Int)] R (.int .i64 (gainC c L)) := by
 refine Fn.toV (fun w0 E => ?_)
 obtain ⟨hr1, hr2, hr3, hr4, hr5, hr6, hr7, hr8⟩ := valid_range hv
 have hd0 : 0 ≤ (L : Int) / c.per := Int.ediv_nonneg (by omega) (by omega)
 have hd1 : (L : Int) / c.per ≤ L := Int.ediv_le_self _ (by omega)
 have hd2 := mulB (a := (L : Int) / c.per) (b := c.inc) (A := 100000) (B := 1073741824) (by omega) (by omega)
 refine fE 12 Tryz.func167 ?_
 refine zQ (zG ?_)
 refine zO fun b2 => ?_
 refine zR 1 rfl (zN (zU (zQ ?_)))
 refine W.regionQ _ mixed qK ?_
 refine zR 2 rfl ?_
 refine yL (Rd.add (Rd.blk 0 rfl) _) ?_
 refine WG.y rfl rfl qD (Yl.quo rfl rfl rfl (fun _ => rfl) qA (by intro _; omega)) ?_
 refine zR 1 rfl ?_
 refine yL (Rd.add (Rd.blk 0 rfl) _) ?_
 refine WG.y rfl rfl qD (Yl.mul rfl rfl rfl (fun _ => rfl) qA) ?_
 refine zR 1 rfl (zN (zU (zT ?_)))
 refine sE (E := E) ?_
 refine WE.retF tab_ok [_] rfl ⟨rfl, trivial⟩ (RLe.refl _) ?_
 exact ⟨rfl, rfl⟩

theorem WPlus_V {R : Ro} {x y : Int} (hx : x = 4611686018427387904 ∨ (-1000000000000000000 ≤ x ∧ x ≤ 1000000000000000000)) (hy : y = 4611686018427387904 ∨ (-1000000000000000000 ≤ y ∧ y ≤ 1000000000000000000)) : FnV Tryz.prog 166 [.int .i64 x, .int .i64 y] R (.int .i64 (if x = 4611686018427387904 ∨ y = 4611686018427387904 then 4611686018427387904 else x + y)) := by
 refine Fn.toV (fun w0 E => ?_)
 refine fE 14 Tryz.func166 ?_
 refine zQ (zG (zR 1 rfl (zN (zU (zQ (zQ (zG (zR 3 rfl ?_))))))))
 refine yP ?_
 refine yP ?_
 refine yO ?_
 refine zN (zU ?_)
 refine W.cond rfl (fun hc0 => ?_) (fun hc0 => ?_)
 ·try simp only [zk] at hc0
  rw [if_pos hc0]
  refine zQ (zG (zR 1 rfl (zN (zU (zT (wt ?_))))))
  refine sE (E := E) ?_
  refine WE.retF tab_ok [_] rfl ⟨rfl, trivial⟩ (RLe.refl _) ?_
  exact ⟨rfl, rfl⟩
 ·try simp only [zk] at hc0
  have hno : ¬ (x = 4611686018427387904 ∨ y = 4611686018427387904) := by omega
  rw [if_neg hno]
  refine zK (zU (zQ (zG (zR 2 rfl ?_))))
  refine yA ?_
  refine zR 1 rfl (zN (zU (zT ?_)))
  refine sE (E := E) ?_
  refine WE.retF tab_ok [_] rfl ⟨rfl, trivial⟩ (RLe.refl _) ?_
  exact ⟨rfl, rfl⟩

theorem CValidG_V {R : Ro} {fa : Option Addr} {fc : Nat} {c : Cv} (ha : RS R 1 encI fa c.vals) (hl : c.vals.length ≤ 100000) : FnV Tryz.prog 84 [.agg #[.slice fa c.vals.length fc, .int .i64 c.per, .int .i64 c.inc]] R (.bool (validB c)) := by
 refine Fn.toV (fun w0 E => ?_)
 refine fE 85 Tryz.func84 ?_
 refine zQ (zG ?_)
 refine zO fun b1 => ?_
 refine zR 1 rfl (zN (zU (zQ (zG (zR 1 rfl ?_)))))
 refine yL (Rd.add (Rd.blk 0 rfl) _) ?_
 refine zR 2 rfl (zN (zU (zQ (zQ (zG (zR 3 rfl ?_))))))
 refine yP ?_
 refine yP ?_
 refine yO ?_
 refine zR 1 rfl ?_
 refine yP ?_
 refine yG (Rd.addC (Rd.blkC 0 rfl) _) ?_
 refine yP ?_
 refine yO ?_
 refine zR 1 rfl ?_
 refine yP ?_
 refine yG (Rd.addC (Rd.blkC 0 rfl) _) ?_
 refine yP ?_
 refine yO ?_
 refine zR 1 rfl ?_
 refine yP ?_
 refine yG (Rd.addC (Rd.blkC 0 rfl) _) ?_
 refine yP ?_
 refine yP ?_
 refine yO ?_
 refine zR 1 rfl ?_
 refine yP ?_
 refine yG (Rd.addC (Rd.blkC 0 rfl) _) ?_
 refine yP ?_
 refine yO ?_
 refine zR 1 rfl ?_
 refine yP ?_
 refine yG (Rd.addC (Rd.blkC 0 rfl) _) ?_
 refine yP ?_
 refine yO ?_
 refine zN (zU ?_)
 refine W.cond rfl (fun hc0 => ?_) (fun hc0 => ?_)
 ·try simp only [zk] at hc0
  have hno : validB c = false := validB_false (fun h => by obtain ⟨⟨a1, a2, a3, a4, a5, a6, a7⟩, _⟩ := h; unfold MAXV at a7; omega)
  refine zQ (zG (zR 1 rfl (zN (zU (zT (wt ?_))))))
  refine sE (E := E) ?_
  refine WE.retF tab_ok [_] rfl ⟨rfl, trivial⟩ (RLe.refl _) ?_
  exact ⟨by rw [hno]; rfl, rfl⟩
 ·try simp only [zk] at hc0
  have hall : 1 ≤ c.vals.length ∧ c.vals.length ≤ 400 ∧ 1 ≤ c.per ∧ c.per ≤ 120 ∧ c.per ≤ c.vals.length ∧ 0 ≤ c.inc ∧ c.inc ≤ MAXV := by unfold MAXV; omega
  refine zK (zU (zQ (zG (zR 1 rfl (zN (zU (zQ (zQ (zG (zR 1 rfl ?_))))))))))
  refine yL (Rd.add (Rd.blk 0 rfl) _) ?_
  refine zR 2 rfl (zN (zU (zB ?_)))
  refine W.loopK (β := Nat) (fun t => t ≤ c.vals.length ∧ ∀ i, i < t → (nth c.vals i = INF ∨ (0 ≤ nth c.vals i ∧ nth c.vals i ≤ MAXV)) ∧ (i = 0 ∨ nth c.vals (i - 1) ≤ nth c.vals i)) (fun t => [(4, true, .int .i64 (lastV c.vals t)), (45, true, .int .i64 (t : Int))]) [1, 3, 43, 44] [_, _, _, _] [] _ rfl (fun t => []) (fun t => c.vals.length - t) (0) (⟨Nat.zero_le _, fun i hi => by omega⟩) ⟨rfl, rfl, rfl, rfl, rfl, rfl, rfl⟩ qS ?_
  intro t hst
  dsimp only [zipE, setAll, List.cons_append, List.nil_append, List.set_cons_zero, List.set_cons_succ] at hst ⊢
  have hlast : 0 ≤ lastV c.vals t ∧ (lastV c.vals t = INF ∨ lastV c.vals t ≤ MAXV) := by
   unfold lastV
   by_cases h : t = 0
   ·rw [if_pos h]; exact ⟨Int.le_refl _, .inr (by decide)⟩
   ·rw [if_neg h]
    have := (hst.2 (t - 1) (by omega)).1
    unfold INF MAXV at this ⊢
    omega
  refine zQ (zG (zR 1 rfl (zN (zU (zQ ?_)))))
  refine W.condD rfl (fun hc1 => ?_) (fun hc1 => ?_)
  ·try dsimp only at hc1
   have htl : t < c.vals.length := by omega
   refine zK (zU (zQ (zB (zQ (zG ?_)))))
   refine WG.y rfl rfl qD (Yl.indexN tab_ok rfl rfl rfl rfl rfl rfl (fun _ => rfl) qN qH) ?_
   refine yR ?_
   refine zR 1 rfl (zN (zU (zQ (zQ (zG (zR 4 rfl ?_))))))
   refine yP ?_
   refine yP ?_
   refine yP ?_
   refine yP ?_
   refine yP ?_
   refine yN ?_
   refine yO ?_
   refine zN (zU ?_)
   refine W.cond rfl (fun hc2 => ?_) (fun hc2 => ?_)
   ·try simp only [zk] at hc2
    have hno : validB c = false := validB_false (fun h => by
     have h2 := h.2.1 t htl
     unfold lastV at hc2
     unfold INF MAXV at h2
     rcases hc2 with x | x
     ·split at x
      ·omega
      ·have := h2.2.resolve_left (by omega)
       omega
     ·omega)
    refine zQ (zG (zR 1 rfl (zN (zU (zT (wt (wb (wt (wt (wb (wt ?_)))))))))))
    refine sE (E := E) ?_
    refine WE.retF tab_ok [_] rfl ⟨rfl, trivial⟩ (RLe.refl _) ?_
    exact ⟨by rw [hno]; rfl, rfl⟩
   ·try simp only [zk] at hc2
    have hy : (nth c.vals t = INF ∨ (0 ≤ nth c.vals t ∧ nth c.vals t ≤ MAXV)) ∧ (t = 0 ∨ nth c.vals (t - 1) ≤ nth c.vals t) := by
     unfold INF MAXV
     have hle : lastV c.vals t ≤ nth c.vals t := by omega
     refine ⟨by omega, ?_⟩
     unfold lastV at hle
     by_cases h : t = 0
     ·exact .inl h
     ·rw [if_neg h] at hle; exact .inr hle
    refine zK (zU (zG (zR 2 rfl (zN (zL (zU (zG ?_)))))))
    refine yA ?_
    refine zR 1 rfl (zN ?_)
    refine WE.again (t + 1) (⟨by omega, fun i hi => by
     by_cases e : i = t
     ·subst e; exact hy
     ·exact hst.2 i (by omega)⟩) (by (try dsimp only); omega) ⟨vint (lastV_succ _ _), rfl, rfl, rfl, rfl, rfl, rfl⟩ (RLe.refl _) qS
  ·try dsimp only at hc1
   obtain rfl : t = c.vals.length := by omega
   obtain ⟨P, hP⟩ := Int.eq_ofNat_of_zero_le (show 0 ≤ c.per by omega)
   have hlv : lastV c.vals c.vals.length = nth c.vals (c.vals.length - 1) := if_neg (by omega)
   have e3 : ((c.vals.length : Int) - c.per).toNat = c.vals.length - c.per.toNat := by omega
   refine zX ?_
   refine wx (wx (zY (zU (zQ (zQ (zG (zR 2 rfl (zN (zU ?_)))))))))
   refine W.condE rfl (fun hc3 => ?_) (fun hc3 => ?_)
   ·try dsimp only at hc3
    have hif : (if nth c.vals (c.vals.length - 1) = INF then c.per = 1 ∧ c.inc = 0 else nth c.vals (c.vals.length - 1) ≤ nth c.vals (c.vals.length - c.per.toNat) + c.inc) ↔ (c.per = 1 ∧ c.inc = 0) := by rw [if_pos (by rw [← hlv]; exact hc3)]
    refine zQ (zG (zR 1 rfl ?_))
    refine yL (Rd.add (Rd.blk 0 rfl) _) ?_
    refine zR 2 rfl ?_
    refine yP ?_
    refine yG (Rd.addC (Rd.blkC 0 rfl) _) ?_
    refine yP ?_
    refine yN ?_
    refine zR 1 rfl (zN (zU (zT (wt ?_))))
    refine sE (E := E) ?_
    refine WE.retF tab_ok [_] rfl ⟨rfl, trivial⟩ (RLe.refl _) ?_
    refine ⟨congrArg Value.bool ?_, rfl⟩
    rw [Bool.eq_iff_iff, validB_iff, hif]
    simp only [Bool.and_eq_true, beq_iff_eq]
    exact ⟨fun h => ⟨hall, fun j hj => hst.2 j hj, h⟩, fun h => h.2.2⟩
   ·try dsimp only at hc3
    have hif : (if nth c.vals (c.vals.length - 1) = INF then c.per = 1 ∧ c.inc = 0 else nth c.vals (c.vals.length - 1) ≤ nth c.vals (c.vals.length - c.per.toNat) + c.inc) ↔ (nth c.vals (c.vals.length - 1) ≤ nth c.vals (c.vals.length - c.per.toNat) + c.inc) := by rw [if_neg (by rw [← hlv]; exact hc3)]
    have hx2 := (hst.2 (c.vals.length - c.per.toNat) (by omega)).1
    rw [← e3] at hx2
    unfold INF MAXV at hx2 hall
    refine zK (zU (zQ ?_))
    refine W.regionQ _ mixed qK ?_
    refine zR 1 rfl ?_
    refine yL (Rd.add (Rd.blk 0 rfl) _) ?_
    refine zR 2 rfl ?_
    refine yL (Rd.add (Rd.blk 0 rfl) _) ?_
    refine yS ?_
    refine WG.y rfl rfl qD (Yl.index tab_ok rfl rfl rfl rfl rfl rfl (fun _ => rfl) qA qH) ?_
    refine yR ?_
    refine zR 1 rfl ?_
    refine yL (Rd.add (Rd.blk 0 rfl) _) ?_
    refine yA ?_
    refine zR 3 rfl (zN (zU (zT ?_)))
    refine sE (E := E) ?_
    refine WE.retF tab_ok [_] rfl ⟨rfl, trivial⟩ (RLe.refl _) ?_
    refine ⟨congrArg Value.bool ?_, rfl⟩
    rw [Bool.eq_iff_iff, validB_iff, hif, e3, hlv]
    simp only [decide_eq_true_eq]
    exact ⟨fun h => ⟨by unfold MAXV; omega, fun j hj => hst.2 j hj, by omega⟩, fun h => by have := h.2.2; omega⟩

theorem NormG_V {R : Ro} {fa : Option Addr} {fc : Nat} {c : Cv} (hv : validB c = true) (ha : RS R 1 encI fa c.vals) {b1 : Nat} (h1 : R b1 = some [.slice fa c.vals.length fc, .int .i64 c.per, .int .i64 c.inc]) {t : Nat} (ht : t ≤ 1000000) : FnV Tryz.prog 162 [.int .i64 (t : Int), .pointer (some ⟨b1, 0, none⟩)] R (.int .i64 (cvF c t)) := by
 refine Fn.toV (fun w0 E => ?_)
 refine fE 7 Tryz.func162 ?_
 refine zQ (zG (zR 1 rfl (zN (zU (zQ (zG ?_))))))
 refine' WG.y rfl rfl qD (Yl.load1 tab_ok rfl rfl rfl (fun _ => rfl) ?r1 rfl ?h1) ?_
 case r1 => (exact Rd.ro qU)
 case h1 => rfl
 refine zR 1 rfl ?_
 refine WG.callV en90 rfl rfl qD (CallOp.mk' rfl rfl rfl rfl) (fun _ => rfl) (fun hg => WAtG_V hv ha qO) ?_
 refine zR 1 rfl (zN (zU (zT ?_)))
 refine sE (E := E) ?_
 refine WE.retF tab_ok [_] rfl ⟨rfl, trivial⟩ (RLe.refl _) ?_
 exact ⟨rfl, rfl⟩

theorem CNormalG_C {R : Ro} {fa : Option Addr} {fc : Nat} {c : Cv} (ha : RS R 1 encI fa c.vals) (hl : c.vals.length ≤ 100000) (w0 : World) (E : List Ent) : K.Fn Tryz.prog 144 [.agg #[.slice fa c.vals.length fc, .int .i64 c.per, .int .i64 c.inc]] w0 R E (fun r R' E' => ∃ (f : Option Addr) (fc : Nat), r = cvV f fc (normC c) ∧ RS R' 1 encI f (normC c).1.vals ∧ E.Sublist E') := by
 refine fE 22 Tryz.func144 ?_
 refine zQ (zG ?_)
 refine zO fun b1 => ?_
 refine zA fun b2 => ?_
 refine zR 1 rfl (zN (zU (zQ (zQ (zG ?_)))))
 refine yL (Rd.blk 1 rfl) ?_
 refine WG.callV en84 rfl rfl qD (CallOp.mk' rfl rfl rfl rfl) (fun _ => rfl) (fun hg => CValidG_V ha hl) ?_
 refine zR 1 rfl (zN (zU ?_))
 refine W.cond rfl (fun hc0 => ?_) (fun hc0 => ?_)
 ·try simp only [zk] at hc0
  have hn : normC c = (zcv, 1) := if_neg (by simp [hc0])
  refine zQ (zG ?_)
  -- build
  refine WG.y rfl rfl qD (Yl.build (parts := []) tab_ok rfl rfl rfl rfl (fun _ => rfl) rfl rfl) ?_
  refine zE 0 ?_
  refine zR 1 rfl (zN (zU (zT (wt ?_))))
  refine WE.retF tab_ok [_, _] rfl ⟨⟨_, _, _, rfl, rfl, rfl, qB, rfl⟩, rfl, trivial⟩ ((by first | exact hR1.trans (hR2.trans hR4) | exact RLe.refl _)) ?_
  exact ⟨none, 0, by rw [hn]; rfl, by rw [hn]; exact rs_nil, qS⟩
 ·try simp only [zk] at hc0
  have hv : validB c = true := by simpa using hc0
  have hn : normC c = (normR c, 0) := if_pos hv
  obtain ⟨hr1, hr2, hr3, hr4, hr5, hr6, hr7, hr8⟩ := valid_range hv
  have hst := stN_lt hv
  refine zK (zU (zQ (zG (zR 1 rfl ?_))))
  refine yL (Rd.add (Rd.blk 1 rfl) _) ?_
  refine WL.call en161 rfl rfl qD (CallOp.mkT rfl rfl rfl rfl) (CloneI_C ha qO qO w0 _) ?_
  rintro _ _ E2 - ⟨a2, c2, rfl, rfl, hsub⟩
  refine WL.subE hsub ?_
  refine zR 1 rfl ?_
  refine zF 2 ?_
  refine zN (zU ?_)
  refine W.freeze (enc := encI) (xs := c.vals) 0 rfl ?_
  intro R1 hR1 ha1
  refine W.freezeBlk 1 rfl ?_
  intro R2 hR2 hb1
  have ha2 := ha1.mono hR2
  have hperI : ((c.per.toNat : Nat) : Int) = c.per := by omega
  have hF : ∀ t : Nat, t < stN c + c.per.toNat → FnV Tryz.prog 162 ((#[] : Array Value).toList ++ [.int .i64 (t : Int)] ++ (#[.pointer (some ⟨b1, 0, none⟩)] : Array Value).toList) R2 (.int .i64 (cvF c t)) := fun t ht => NormG_V hv ha2 hb1 (by omega)
  refine zQ ?_
  refine W.regionH _ (ES := []) mixed ?_
  refine WA.take 0 rfl qK qK qK rfl rfl qD (Yl.makeFunc (fi := []) (ca := [.tmp 1]) rfl rfl rfl (fun _ => rfl)) qS qR ?_
  refine' WA.take 1 rfl qK qK qK rfl rfl qD (Yl.load1 tab_ok rfl rfl rfl (fun _ => rfl) ?r3 rfl ?h3) qS qR ?_
  case r3 => (exact Rd.ro qU)
  case h3 => rfl
  refine tP 3 ?_
  refine' WA.take 4 rfl qK qK qK rfl rfl qD (Yl.load1 tab_ok rfl rfl rfl (fun _ => rfl) ?r4 rfl ?h4) qS qR ?_
  case r4 => apply Rd.add; (exact Rd.ro qU)
  case h4 => rfl
  refine tP 5 ?_
  refine' WA.take 6 rfl qK qK qK rfl rfl qD (Yl.load1 tab_ok rfl rfl rfl (fun _ => rfl) ?r5 rfl ?h5) qS qR ?_
  case r5 => apply Rd.add; (exact Rd.ro qU)
  case h5 => rfl
  refine WA.callG 2 rfl qK en146 rfl (by first | rfl | decide) rfl qD (CallOp.mkT rfl rfl rfl rfl) ((WStartG_V hv ha2).toFn) ?_
  rintro _ _ _ - ⟨rfl, rfl, rfl⟩
  refine ⟨qR, qS, ?_⟩
  refine WA.callG 7 rfl qK en82 rfl (by first | rfl | decide) rfl qD (CallOp.mkT rfl rfl rfl rfl) (hperI ▸ Build_C (S := stN c) (P := c.per.toNat) (F := cvF c) en162 qO qO qO (fun t ht => (cvF_bound hv t).2.imp id (fun h => ⟨(cvF_bound hv t).1, by omega⟩)) hF w0 _) ?_
  rintro _ R4 E4 hR4 ⟨f, fc', rfl, hff, hsub⟩
  refine ⟨hR4, List.nil_sublist _, ?_⟩
  refine WA.subE hsub ?_
  rw [norm_build hv] at hff ⊢
  unfold cvV
  refine tP 8 ?_
  refine tP 9 ?_
  refine zCE 10 0 ?_
  refine tP 11 ?_
  refine WA.done qK ?_
  refine zU (zT ?_)
  refine WE.retF tab_ok [_, _] rfl ⟨⟨_, _, _, rfl, rfl, rfl, qB, rfl⟩, rfl, trivial⟩ ((by first | exact hR1.trans (hR2.trans hR4) | exact RLe.refl _)) ?_
  exact ⟨f, fc', by rw [hn]; rfl, by rw [hn]; exact hff, qS⟩

theorem CNormalV_C {R : Ro} {fa : Option Addr} {fc : Nat} {c : Cv} (hv : validB c = true) (ha : RS R 1 encI fa c.vals) (w0 : World) (E : List Ent) : K.Fn Tryz.prog 144 [.agg #[.slice fa c.vals.length fc, .int .i64 c.per, .int .i64 c.inc]] w0 R E (fun r R' E' => ∃ (f : Option Addr) (fc : Nat), r = cvV f fc (normR c, 0) ∧ RS R' 1 encI f ((normR c, (0 : Int))).1.vals ∧ E.Sublist E') := by
 have h := CNormalG_C (fc := fc) ha (by have := valid_range hv; omega) w0 E
 rw [show normC c = (normR c, 0) from if_pos hv] at h
 exact h

end Go.Proofs.YthpblaoehlgpfaaGreat
