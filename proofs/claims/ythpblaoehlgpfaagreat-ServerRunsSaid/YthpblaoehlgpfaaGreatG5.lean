/- Rules and walks, joined from 40 texts: the first of them says: Chapter 18: runs. No condition. -/
import Derived.Test.YthpblaoehlgpfaaGreatG4
/- Chapter 18: runs. No condition. -/
set_option maxRecDepth 4000
set_option linter.unusedSimpArgs false
set_option linter.unusedVariables false
namespace Go.Proofs.YthpblaoehlgpfaaGreat
open Go Go.RowKit Go.Proofs.YthpblaoehlgpfaaGreat.K Go.Proofs.YthpblaoehlgpfaaGreat.M

theorem Pri1_C {b5 n : Nat} {R : Ro} {sb : Nat} {pa : Option Addr} {pc bg : Nat} {ps : List Pkt} {ms : MS} (w0 : World) (hp : RS R 3 encP pa ps) (hb : ms.begun.length = ps.length) (hsort : ps.Pairwise fun a b => a.time ≤ b.time) (h5 : R b5 = some [.int .i64 (n : Int)]) (hn : 1 ≤ n ∧ n ≤ 1000) (hgd : goodB ps ms) (F : List Ent) :
  K.Fn Tryz.prog 200 [.pointer (some ⟨sb, 0, none⟩), .pointer (some ⟨b5, 0, none⟩)] w0 R (stE sb pa ps.length pc bg ms :: .sl 4 1 (some ⟨bg, 0, none⟩) ps.length (ms.begun.map encB) :: F) (fun v R' E' => v = .int .i64 (prioCh ps n ms ()).1 ∧ R = R' ∧ E' = stE sb pa ps.length pc bg { ms with before := (prioCh ps n ms ()).2.1 } :: .sl 4 1 (some ⟨bg, 0, none⟩) ps.length (ms.begun.map encB) :: F) := by
 have hch : prioCh ps n ms () = (prioFrom (nextW ps ms) n 0, skipTo ms.begun ms.before, ()) := rfl
 have hla := hp.len
 refine fE 17 Tryz.func200 ?_
 refine zQ (zG (zR 1 rfl (zN (zU (zQ (zQ (zG ?_)))))))
 refine' WG.y rfl rfl qD (Yl.load1 tab_ok rfl rfl rfl (fun _ => rfl) ?r1 rfl ?h1) ?_
 case r1 => exact Rd.ro h5
 case h1 => rfl
 refine zR 1 rfl (zN (zU (zB ?_)))
 refine W.loopK (β := Nat) (fun c => c ≤ n ∧ prioFrom (nextW ps ms) (n - c) c = prioFrom (nextW ps ms) n 0) (fun c => [(7, true, .int .i64 (c : Int))]) [0, 6] [_, _] [] _ rfl (fun c => [(0, stE sb pa ps.length pc bg { ms with before := bfN ms c })]) (fun c => n - c) (0) (⟨Nat.zero_le _, rfl⟩) ⟨rfl, rfl, rfl, rfl⟩ qS ?_
 intro c hst
 dsimp only [zipE, setAll, List.cons_append, List.nil_append, List.set_cons_zero, List.set_cons_succ] at hst ⊢
 
 refine zQ (zG (zR 1 rfl (zN (zU (zQ ?_)))))
 refine W.condD rfl (fun hc0 => ?_) (fun hc0 => ?_)
 ·try dsimp only at hc0
  have hcn : c < n := by omega
  have hgo := hst.2
  rw [show n - c = (n - (c + 1)) + 1 by omega] at hgo
  simp only [prioFrom] at hgo
  refine zK (zU (zQ (zB (zQ (zG (zR 2 rfl (zN (zU (zQ (zG (zR 2 rfl ?_)))))))))))
  refine WL.call en201 rfl rfl qD (CallOp.mkT rfl rfl rfl rfl) (Next_C (ms := { ms with before := bfN ms c }) w0 hp hb (bfN_good hgd hb c) hsort _ _) ?_
  rintro _ _ _ - ⟨rfl, rfl, rfl⟩
  dsimp only
  rw [bfN_skip hgd hb c, show skipTo ms.begun ms.before = bfN ms (c + 1) from (if_neg (by omega)).symm, show nextW ps { ms with before := bfN ms c } (c : Int) = nextW ps ms (c : Int) from rfl]
  have hnl := nextW_lt ps ms (c : Int)
  refine zR 1 rfl (zN (zU (zQ (zG (zR 2 rfl (zN (zU ?_)))))))
  refine W.condD rfl (fun hc1 => ?_) (fun hc1 => ?_)
  ·try dsimp only at hc1
   rw [if_pos hc1] at hgo
   have hbn : bfN ms (c + 1) = skipTo ms.begun ms.before := if_neg (by omega)
   refine zQ (zG (zR 2 rfl (zN (zU (zT (wb (wt (wt (wb (wt ?_))))))))))
   refine WE.retF tab_ok [_] rfl ⟨rfl, trivial⟩ (RLe.refl _) ?_
   exact ⟨by rw [hch]; dsimp only; rw [← hgo]; try rfl, rfl, by rw [hch]; dsimp only; rw [← hbn]⟩
  ·try dsimp only at hc1
   rw [if_neg (by omega)] at hgo
   refine zK (zL (zU (zG ?_)))
   refine yA ?_
   refine zR 1 rfl (zN ?_)
   refine WE.again (c + 1) (⟨by omega, hgo⟩) (by (try dsimp only); omega) ⟨rfl, rfl, rfl, rfl⟩ (RLe.refl _) qS
 ·try dsimp only at hc0
  obtain rfl : c = n := by omega
  have hgo := hst.2
  rw [Nat.sub_self] at hgo
  have hgo : prioFrom (nextW ps ms) c 0 = -1 := by rw [← hgo]; rfl
  have hbn : bfN ms c = skipTo ms.begun ms.before := if_neg (by omega)
  refine zX ?_
  refine wx (wx (zY (zU (zQ (zG (zR 1 rfl (zN (zU (zT ?_)))))))))
  refine WE.retF tab_ok [_] rfl ⟨rfl, trivial⟩ (RLe.refl _) ?_
  exact ⟨by rw [hch]; dsimp only; rw [← hgo]; try rfl, rfl, by rw [hch]; dsimp only; rw [← hbn]⟩

theorem PRun_err {R : Ro} {pa : Option Addr} {pc : Nat} {ps : List Pkt} (hp : RS R 3 encP pa ps) {cap classes ticks : Int} (w0 : World) (hbad : lrunE cap classes ticks ps ≠ 0) (E : List Ent) :
  K.Fn Tryz.prog 197 [.int .i64 cap, .int .i64 classes, .slice pa ps.length pc, .int .i64 ticks] w0 R E (fun v R' E' => v = .tuple #[.agg #[.slice none 0 0, .slice none 0 0], .int .i64 (lrunE cap classes ticks ps)] ∧ R = R' ∧ E.Sublist E') := by
 have hla := hp.len
 refine fE 33 Tryz.func197 ?_
 refine zQ (zG ?_)
 refine zO fun b5 => ?_
 refine zA fun b8 => ?_
 refine zR 1 rfl (zN (zU (zQ (zQ (zG (zR 1 rfl ?_))))))
 refine WG.callV en79 rfl rfl qD (CallOp.mk' rfl rfl rfl rfl) (fun _ => rfl) (fun hg => Validate_V hp) ?_
 refine zR 1 rfl (zN (zU (zQ (zG (zR 2 rfl (zN (zU ?_)))))))
 refine W.condN rfl (fun hc0 => ?_) (fun hc0 => ?_)
 ·try dsimp only at hc0
  have e : lrunE cap classes ticks ps = validate ps := if_pos hc0
  refine zQ (zG ?_)
  -- build
  refine WG.y rfl rfl qD (Yl.build (parts := []) tab_ok rfl rfl rfl rfl (fun _ => rfl) rfl rfl) ?_
  refine zR 1 rfl ?_
  refine zE 0 ?_
  refine zR 1 rfl (zN (zU (zT (wt ?_))))
  refine WE.retF tab_ok [_, _] rfl ⟨⟨_, _, _, rfl, rfl, rfl, qB, rfl⟩, rfl, trivial⟩ (RLe.refl _) ?_
  exact ⟨by rw [e]; rfl, rfl, qS⟩
 ·try dsimp only at hc0
  refine zK (zU (zQ (zQ (zG (zR 1 rfl ?_)))))
  refine yL (Rd.blk 1 rfl) ?_
  refine zR 2 rfl ?_
  refine WG.callV en190 rfl rfl qD (CallOp.mk' rfl rfl rfl rfl) (fun _ => rfl) (fun hg => Check_V hp) ?_
  refine zR 1 rfl (zN (zU (zQ (zG (zR 2 rfl (zN (zU ?_)))))))
  refine W.condN rfl (fun hc1 => ?_) (fun hc1 => ?_)
  ·try dsimp only at hc1
   have e : lrunE cap classes ticks ps = checkE cap classes ticks ps := if_neg (fun h => h hc0)
   refine zQ (zG ?_)
   -- build
   refine WG.y rfl rfl qD (Yl.build (parts := []) tab_ok rfl rfl rfl rfl (fun _ => rfl) rfl rfl) ?_
   refine zR 1 rfl ?_
   refine zE 0 ?_
   refine zR 1 rfl (zN (zU (zT (wt ?_))))
   refine WE.retF tab_ok [_, _] rfl ⟨⟨_, _, _, rfl, rfl, rfl, qB, rfl⟩, rfl, trivial⟩ (RLe.refl _) ?_
   exact ⟨by rw [e]; rfl, rfl, qS⟩
  ·try dsimp only at hc1
   exact absurd (by unfold lrunE; rw [if_neg (fun h => h hc0)]; exact hc1) hbad

theorem PRun_ok {R : Ro} {pa : Option Addr} {pc : Nat} {ps : List Pkt} (hp : RS R 3 encP pa ps) {cap : Int} {ticks nc : Nat} (w0 : World) (hl0 : lrunE cap nc ticks ps = 0) (E : List Ent) :
  K.Fn Tryz.prog 197 [.int .i64 cap, .int .i64 (nc : Int), .slice pa ps.length pc, .int .i64 (ticks : Int)] w0 R E
   (fun v R' E' => ∃ (rows : List Sl) (gd go : Nat) (s : M.RS Unit), s = mrun ps (prioCh ps nc) cap nc ticks () ∧ v = .tuple #[.agg #[.slice (some ⟨gd, 0, none⟩) ps.length ps.length, .slice (some ⟨go, 0, none⟩) nc nc], .int .i64 0] ∧ rows.map Sl.xs = s.sent ∧ (∀ r ∈ rows, r.a.isSome = true) ∧ Inv ps nc (fun ms _ => goodB ps ms) (ticks + 1) (ticks * cap) s ∧
    (.sl 3 1 (some ⟨gd, 0, none⟩) ps.length (s.done.map encI) :: .sl 22 1 (some ⟨go, 0, none⟩) nc (rows.map encS) :: (rows.map (rowE 3) ++ E)).Sublist E') := by
 obtain ⟨hok, hvv, hck, c1, c2, c3, c4, c5, c6, hs, hf⟩ := lrunE_ok hl0
 have hla := hp.len
 refine fE 33 Tryz.func197 ?_
 refine zQ (zG ?_)
 refine zO fun b5 => ?_
 refine zA fun b8 => ?_
 refine zR 1 rfl (zN (zU (zQ (zQ (zG (zR 1 rfl ?_))))))
 refine WG.callV en79 rfl rfl qD (CallOp.mk' rfl rfl rfl rfl) (fun _ => rfl) (fun hg => hvv ▸ Validate_V hp) ?_
 refine zR 1 rfl (zN (zU (zQ (zG (zR 2 rfl (zN (zU ?_)))))))
 refine W.condN rfl (fun hc0 => ?_) (fun hc0 => ?_)
 ·try dsimp only at hc0
  exact absurd rfl hc0
 ·try dsimp only at hc0
  refine zK (zU (zQ (zQ (zG (zR 1 rfl ?_)))))
  refine yL (Rd.blk 1 rfl) ?_
  refine zR 2 rfl ?_
  refine WG.callV en190 rfl rfl qD (CallOp.mk' rfl rfl rfl rfl) (fun _ => rfl) (fun hg => hck ▸ Check_V hp) ?_
  refine zR 1 rfl (zN (zU (zQ (zG (zR 2 rfl (zN (zU ?_)))))))
  refine W.condN rfl (fun hc1 => ?_) (fun hc1 => ?_)
  ·try dsimp only at hc1
   exact absurd rfl hc1
  ·try dsimp only at hc1
   refine zK (zU ?_)
   refine W.freezeBlk 1 rfl ?_
   intro R1 hR1 h5
   have hp := hp.mono hR1
   refine zQ (zG (zR 1 rfl ?_))
   refine' WG.y rfl rfl qD (Yl.load1 tab_ok rfl rfl rfl (fun _ => rfl) ?r2 rfl ?h2) ?_
   case r2 => exact Rd.ro h5
   case h2 => rfl
   refine zR 3 rfl ?_
   have hrun := fun F => MRun_C (pc := pc) (g := 200) (first := #[]) (capd := #[.pointer (some ⟨b5, 0, none⟩)]) (ch := prioCh ps nc) (good := fun ms _ => goodB ps ms) (classes := nc) (cap := cap) (ticks := ticks) (X := fun _ => []) (sg := ()) w0 hp (prio_fair hok.sorted).toGood ⟨by have := hok.len; omega, fun p hp => by have := hs p hp; have := hf p hp; omega⟩ (prio_start _) (by omega) (by omega) (by omega) en200 (fun sb bg ms sg F hgd hbl l1 l2 n1 n2 => Pri1_C w0 hp hbl hok.sorted h5 ⟨by omega, by omega⟩ hgd F) F
   simp only [List.nil_append] at hrun
   refine WL.call en191 rfl rfl qD (CallOp.mkT rfl rfl rfl rfl) (hrun _) ?_
   rintro _ _ E2 - ⟨rows, gd, go, s, hsr, rfl, rfl, h1, h2, h3, hsub⟩
   refine WL.subE hsub ?_
   refine WL.perm (List.perm_middle (l₁ := _ :: _ :: rows.map (rowE 3))) ?_
   refine zE 0 ?_
   refine zR 1 rfl (zN (zU (zT ?_)))
   refine WE.retF tab_ok [_, _] rfl ⟨⟨_, _, _, rfl, rfl, rfl, qB, rfl⟩, rfl, trivial⟩ (hR1) ?_
   exact ⟨rows, gd, go, s, hsr, rfl, h1, h2, h3, qS⟩

theorem Choose_V {R : Ro} {pa ga da oa : Option Addr} {pc gc dl dc ol oc : Nat} {ps : List Pkt} {st : St} (hp : RS R 3 encP pa ps) (hgv : RS R 1 encI ga st.given) (hgl : st.given.length = ps.length) {n : Nat} (hn : n ≤ 1000) : FnV Tryz.prog 108 [.agg #[.int .i64 st.time, .slice ga st.given.length gc, .int .i64 st.now, .slice da dl dc, .slice oa ol oc], .slice pa ps.length pc, .int .i64 (n : Int)] R (.int .i64 (prioFrom (firstW ps st) n 0)) := by
 have hla := hp.len
 refine Fn.toV (fun w0 E => ?_)
 refine fE 21 Tryz.func108 ?_
 refine zQ (zG ?_)
 refine zO fun b3 => ?_
 refine zR 1 rfl (zN (zU (zQ (zQ (zG (zR 1 rfl (zN (zU (zB ?_)))))))))
 refine W.loopK (β := Nat) (fun c => c ≤ n ∧ prioFrom (firstW ps st) (n - c) c = prioFrom (firstW ps st) n 0) (fun c => [(7, true, .int .i64 (c : Int))]) [1, 2, 3] [_, _, _] [] _ rfl (fun c => []) (fun c => n - c) (0) (⟨Nat.zero_le _, rfl⟩) ⟨rfl, rfl, rfl, rfl, rfl⟩ qS ?_
 intro c hst
 dsimp only [zipE, setAll, List.cons_append, List.nil_append, List.set_cons_zero, List.set_cons_succ] at hst ⊢
 
 refine zQ (zQ (zG (zR 3 rfl (zN (zU ?_)))))
 refine W.condD rfl (fun hc0 => ?_) (fun hc0 => ?_)
 ·try dsimp only at hc0
  have hcn : c < n := by omega
  have hgo := hst.2
  rw [show n - c = (n - (c + 1)) + 1 by omega] at hgo
  simp only [prioFrom] at hgo
  refine zK (zU (zQ (zB (zQ (zG ?_)))))
  refine yL (Rd.blk 0 rfl) ?_
  refine zR 2 rfl ?_
  refine WG.callV en112 rfl rfl qD (CallOp.mk' rfl rfl rfl rfl) (fun _ => rfl) (fun hg => FirstR_V hp hgv hgl) ?_
  refine zR 1 rfl (zN (zU (zQ (zG (zR 2 rfl (zN (zU ?_)))))))
  refine W.condD rfl (fun hc1 => ?_) (fun hc1 => ?_)
  ·try dsimp only at hc1
   rw [if_pos hc1] at hgo
   refine zQ (zG (zR 2 rfl (zN (zU (zT (wb (wt (wt (wb (wt ?_))))))))))
   refine sE (E := E) ?_
   refine WE.retF tab_ok [_] rfl ⟨rfl, trivial⟩ (RLe.refl _) ?_
   exact ⟨by rw [← hgo]; rfl, rfl⟩
  ·try dsimp only at hc1
   rw [if_neg (by omega)] at hgo
   refine zK (zL (zU (zG (zR 1 rfl ?_))))
   refine yA ?_
   refine zR 1 rfl (zN ?_)
   refine WE.again (c + 1) (⟨by omega, hgo⟩) (by (try dsimp only); omega) ⟨rfl, rfl, rfl, rfl, rfl⟩ (RLe.refl _) qS
 ·try dsimp only at hc0
  obtain rfl : c = n := by omega
  have hgo := hst.2
  rw [Nat.sub_self] at hgo
  have hgo : prioFrom (firstW ps st) c 0 = -1 := by rw [← hgo]; rfl
  refine zX ?_
  refine wx (wx (zY (zU (zQ (zG (zR 1 rfl (zN (zU (zT ?_)))))))))
  refine sE (E := E) ?_
  refine WE.retF tab_ok [_] rfl ⟨rfl, trivial⟩ (RLe.refl _) ?_
  exact ⟨by rw [hgo]; rfl, rfl⟩

theorem RPRun_err {R : Ro} {pa : Option Addr} {pc : Nat} {ps : List Pkt} (hp : RS R 3 encP pa ps) {cap classes ticks : Int} (w0 : World) (hbad : lrunE cap classes ticks ps ≠ 0) (E : List Ent) :
  K.Fn Tryz.prog 64 [.int .i64 cap, .int .i64 classes, .slice pa ps.length pc, .int .i64 ticks] w0 R E (fun v R' E' => v = .tuple #[.agg #[.slice none 0 0, .slice none 0 0], .int .i64 (lrunE cap classes ticks ps)] ∧ R = R' ∧ E.Sublist E') := by
 have hla := hp.len
 refine fE 62 Tryz.func64 ?_
 refine zQ (zG ?_)
 refine zA fun b8 => ?_
 refine zR 1 rfl (zN (zU (zQ (zQ (zG (zR 4 rfl ?_))))))
 refine WG.callV en105 rfl rfl qD (CallOp.mk' rfl rfl rfl rfl) (fun _ => rfl) (fun hg => (show (if validate ps ≠ 0 then validate ps else checkE cap classes ticks ps) = lrunE cap classes ticks ps from rfl) ▸ BadR_V hp) ?_
 refine zR 1 rfl (zN (zU (zQ (zG (zR 2 rfl (zN (zU ?_)))))))
 refine W.condN rfl (fun hc0 => ?_) (fun hc0 => ?_)
 ·try dsimp only at hc0
  refine zQ (zG ?_)
  -- build
  refine WG.y rfl rfl qD (Yl.build (parts := []) tab_ok rfl rfl rfl rfl (fun _ => rfl) rfl rfl) ?_
  refine zR 1 rfl ?_
  refine zE 0 ?_
  refine zR 1 rfl (zN (zU (zT (wt ?_))))
  refine WE.retF tab_ok [_, _] rfl ⟨⟨_, _, _, rfl, rfl, rfl, qB, rfl⟩, rfl, trivial⟩ (RLe.refl _) ?_
  exact ⟨rfl, rfl, qS⟩
 ·try dsimp only at hc0
  exact absurd hc0 hbad

theorem RPRun_ok {R : Ro} {pa : Option Addr} {pc : Nat} {ps : List Pkt} (hp : RS R 3 encP pa ps) {cap : Int} {classes ticks : Nat} (w0 : World) (hl0 : lrunE cap classes ticks ps = 0) (E : List Ent) :
  K.Fn Tryz.prog 64 [.int .i64 cap, .int .i64 (classes : Int), .slice pa ps.length pc, .int .i64 ticks] w0 R E (fun v R' E' => ∃ (da oa : Option Addr) (dc oc : Nat) (rows : List Sl) (st : St), st = rrunL ps (prioRc ps classes) cap classes ticks () ∧ v = .tuple #[.agg #[.slice da st.done.length dc, .slice oa rows.length oc], .int .i64 0] ∧ RS R' 1 encI da st.done ∧ rows.map Sl.xs = st.sent ∧ (∀ r ∈ rows, r.a.isSome = true) ∧ RInv ps classes (ticks + 1) (ticks * cap) st ∧ (.sl 22 1 oa oc (rows.map encS) :: (rows.map (rowE 3) ++ E)).Sublist E') := by
 have hpR := hp
 obtain ⟨hok, hvv, hckk, d1, d2, d3, d4, d5, d6, hs, hf⟩ := lrunE_ok hl0
 have hcap : 1 ≤ cap ∧ cap ≤ 1000000 := by omega
 have hsz : ∀ p ∈ ps, 1 ≤ p.size ∧ p.size ≤ 1000000 := fun p hp => by have := hs p hp; omega
 have hs1 : ∀ p ∈ ps, 1 ≤ p.size := fun p hp => (hsz p hp).1
 have hpl := hok.len
 have hla := hp.len
 have hBt : ∀ k : Nat, k ≤ ticks → (k : Int) * cap ≤ 2000000000 := fun k hk => by have := Int.mul_le_mul (show (k : Int) ≤ 2000 by omega) hcap.2 (by omega) (by omega); omega
 refine fE 62 Tryz.func64 ?_
 refine zQ (zG ?_)
 refine zA fun b8 => ?_
 refine zR 1 rfl (zN (zU (zQ (zQ (zG (zR 4 rfl ?_))))))
 refine WG.callV en105 rfl rfl (by decide) (CallOp.mk' rfl rfl rfl rfl) (fun _ => rfl) (fun hg => (show (if validate ps ≠ 0 then validate ps else checkE cap classes ticks ps) = 0 by simp [hvv, hckk]) ▸ BadR_V hp) ?_
 refine zR 1 rfl (zN (zU (zQ (zG (zR 2 rfl (zN (zU ?_)))))))
 refine W.condN rfl (fun hc0 => ?_) (fun hc0 => ?_)
 ·try dsimp only at hc0
  exact absurd rfl hc0
 ·try dsimp only at hc0
  refine zK (zU (zQ (zG (zR 2 rfl ?_))))
  refine WL.call en106 rfl rfl qD (CallOp.mkT rfl rfl rfl rfl) (NewR_C w0 qO qO _) ?_
  rintro _ R1 E1 hR1 ⟨ga, da, oa, gc, dc, oc, rows, rfl, hgv, hdn, hoa, hrx, hra, hsub⟩
  refine WL.subE hsub ?_
  refine WL.perm (List.perm_middle (l₁ := _ :: rows.map (rowE 3))) ?_
  refine zA fun b11 => ?_
  refine zE 0 ?_
  refine zN (zU (zQ (zB ?_)))
  refine W.loop (β := Ro × Option Addr × Option Addr × Nat × Nat × St × Unit × List Sl) (fun (Rk, ga, da, gc, dc, st, g, rows) => RLe R Rk ∧ RS Rk 1 encI ga st.given ∧ RS Rk 1 encI da st.done ∧ rows.map Sl.xs = st.sent ∧ (∀ r ∈ rows, r.a.isSome = true) ∧ RInv ps classes (st.time + 1) ((st.time : Int) * cap) st ∧ st.time ≤ ticks ∧ (rticksL ps (prioRc ps classes) cap (ticks - st.time) st g).1 = rrunL ps (prioRc ps classes) cap classes ticks ()) (fun (Rk, ga, da, gc, dc, st, g, rows) => [(0, true, .int .i64 cap), (1, true, .int .i64 (classes : Int)), (2, true, .slice pa ps.length pc), (3, true, .int .i64 ticks), (8, true, .pointer (some ⟨b8, 0, none⟩)), (11, true, .pointer (some ⟨b11, 0, none⟩))]) (fun (Rk, _, _, _, _, _, _, _) => Rk) (fun (Rk, ga, da, gc, dc, st, g, rows) => .blk b11 [.int .i64 st.time, .slice ga st.given.length gc, .int .i64 st.now, .slice da st.done.length dc, .slice oa rows.length oc] :: .blk b8 [.slice none 0 0, .slice none 0 0] :: .sl 22 1 oa oc (rows.map encS) :: (rows.map (rowE 3) ++ E)) (fun (Rk, ga, da, gc, dc, st, g, rows) => ticks - st.time) ((R1, ga, da, gc, dc, rstart ps classes, (), rows)) (⟨hR1, hgv, hdn, hrx, hra, (show RInv ps classes 1 (((0 : Nat) : Int) * cap) (rstart ps classes) by simpa using RInv.start (classes := classes) hs1), Nat.zero_le _, rfl⟩) ⟨rfl, rfl, rfl, rfl, rfl, rfl, rfl⟩ (RLe.refl _) (by simp only [rstart, List.length_replicate]; exact qS) ?_
  intro st hst
  obtain ⟨Rk, ga, da, gc, dc, st0, g0, rows⟩ := st
  obtain ⟨hRk, hgv, hdn, hrx, hra, hinv, htk, hfin⟩ := hst
  dsimp only at hRk hgv hdn hrx hra hinv htk hfin ⊢
  have hp := hp.mono hRk
  have hlr : rows.length = classes := by rw [← hinv.slen, ← hrx, List.length_map]
  refine zQ (zQ (zG (zR 1 rfl ?_)))
  refine yL (Rd.add (Rd.blk 0 rfl) _) ?_
  refine zR 2 rfl (zN (zU ?_))
  refine W.condD rfl (fun hc1 => ?_) (fun hc1 => ?_)
  ·try dsimp only at hc1
   refine zK (zU (zB (zQ (zG ?_))))
   refine yL (Rd.blk 0 rfl) ?_
   refine WL.perm perm_out ?_
   refine WL.call en107 rfl rfl (by decide) (CallOp.mkT rfl rfl rfl rfl) (BeginR_C w0 hoa (fun r hr => ⟨hra r hr, by have := (hinv.rows r.xs (by rw [← hrx]; exact List.mem_map_of_mem hr)).1; omega⟩) (by omega) _) ?_
   rintro _ _ E2 - ⟨rows2, rfl, rfl, hrx2, hra2, hsub⟩
   refine WL.subE hsub ?_
   refine WL.perm perm_out.symm ?_
   have hl2 : rows2.length = rows.length := by have := congrArg List.length hrx2; simpa using this
   refine zE 0 ?_
   refine zN (zU (zQ (zQ (zG (zR 2 rfl (zN (zU (zB ?_))))))))
   refine W.loop (β := Ro × Option Addr × Option Addr × Nat × Nat × St × Unit × List Sl × Int) (fun (Rk, ga, da, gc, dc, st, g, rows, left) => RLe R Rk ∧ RS Rk 1 encI ga st.given ∧ RS Rk 1 encI da st.done ∧ rows.map Sl.xs = st.sent ∧ (∀ r ∈ rows, r.a.isSome = true) ∧ (∃ k : Nat, rinnerL ps (prioRc ps classes) k left st g = rinnerL ps (prioRc ps classes) cap.toNat cap (rbegin st0) g0 ∧ left ≤ k) ∧ 0 ≤ left ∧ left ≤ cap ∧ st.time = st0.time ∧ ∃ B, RInv ps classes (st0.time + 2) B st ∧ B + left ≤ ((st0.time : Int) + 1) * cap) (fun (Rk, ga, da, gc, dc, st, g, rows, left) => [(0, true, .int .i64 cap), (1, true, .int .i64 (classes : Int)), (2, true, .slice pa ps.length pc), (3, true, .int .i64 ticks), (8, true, .pointer (some ⟨b8, 0, none⟩)), (11, true, .pointer (some ⟨b11, 0, none⟩)), (12, true, .int .i64 left)]) (fun (Rk, _, _, _, _, _, _, _, _) => Rk) (fun (Rk, ga, da, gc, dc, st, g, rows, left) => .blk b11 [.int .i64 st.time, .slice ga st.given.length gc, .int .i64 st.now, .slice da st.done.length dc, .slice oa rows.length oc] :: .blk b8 [.slice none 0 0, .slice none 0 0] :: .sl 22 1 oa oc (rows.map encS) :: (rows.map (rowE 3) ++ E)) (fun (Rk, ga, da, gc, dc, st, g, rows, left) => left.toNat) ((Rk, ga, da, gc, dc, rbegin st0, g0, rows2, cap)) (⟨hRk, hgv, hdn, by rw [hrx2, hrx]; rfl, hra2, ⟨cap.toNat, rfl, by (try dsimp only); omega⟩, by (try dsimp only); omega, by (try dsimp only); omega, rfl, _, hinv.begin (by omega), by (try dsimp only); rw [Int.add_mul]; omega⟩) ⟨rfl, rfl, rfl, rfl, rfl, rfl, rfl, rfl⟩ (RLe.refl _) (by rw [← hl2]; exact qS) ?_
   intro st hst
   obtain ⟨Rk, ga, da, gc, dc, st1, g1, rows, left⟩ := st
   obtain ⟨hRk, hgv, hdn, hrx, hra, ⟨k, hin, hkk⟩, hl0, hlc, htime, B, hinv, hB⟩ := hst
   dsimp only at hRk hgv hdn hrx hra hin hkk hl0 hlc htime hinv hB ⊢
   have hp := hpR.mono hRk
   have hB1 := hBt (st0.time + 1) (by omega)
   have hB2 : ((st0.time + 1 : Nat) : Int) = (st0.time : Int) + 1 := by omega
   rw [hB2] at hB1
   refine zQ (zQ (zG (zR 2 rfl (zN (zU ?_)))))
   refine W.condD rfl (fun hc2 => ?_) (fun hc2 => ?_)
   ·try dsimp only at hc2
    refine zK (zU (zB ?_))
    refine W.seqCut (β := St) (fun st2 => st2 = { st1 with now := (rpickL (prioRc ps classes) left st1 g1).1 }) (fun st2 => [(0, true, .int .i64 cap), (1, true, .int .i64 (classes : Int)), (2, true, .slice pa ps.length pc), (3, true, .int .i64 ticks), (8, true, .pointer (some ⟨b8, 0, none⟩)), (11, true, .pointer (some ⟨b11, 0, none⟩)), (12, true, .int .i64 left)]) (fun _ => Rk) (fun st2 => .blk b11 [.int .i64 st2.time, .slice ga st2.given.length gc, .int .i64 st2.now, .slice da st2.done.length dc, .slice oa rows.length oc] :: .blk b8 [.slice none 0 0, .slice none 0 0] :: .sl 22 1 oa oc (rows.map encS) :: (rows.map (rowE 3) ++ E)) ?_ ?_
    ·
     intro st2 hst
     have hs2 := hst
     have hs2n : st2.now = (rpickL (prioRc ps classes) left st1 g1).1 := by rw [hs2]
     have hinv2 : RInv ps classes (st0.time + 2) B st2 := by rw [hs2]; exact hinv.pickL hs1 prio_waiting
     have hgv : RS Rk 1 encI ga st2.given := by rw [hs2]; exact hgv
     have hdn : RS Rk 1 encI da st2.done := by rw [hs2]; exact hdn
     have hrx : rows.map Sl.xs = st2.sent := by rw [hs2]; exact hrx
     refine zQ (zQ (zG (zR 1 rfl ?_)))
     refine yL (Rd.add (Rd.blk 0 rfl) _) ?_
     refine zR 1 rfl (zN (zU ?_))
     refine W.condE rfl (fun hc3 => ?_) (fun hc3 => ?_)
     ·try dsimp only at hc3
      have hend : rinnerL ps (prioRc ps classes) cap.toNat cap (rbegin st0) g0 = (st2, (rpickL (prioRc ps classes) left st1 g1).2) := by rw [← hin, rinnerL_none hkk (by omega) (by rw [← hs2n]; exact hc3), hs2]
      have hinv := hinv2
      have htime : st2.time = st0.time := by rw [hs2]; exact htime
      refine zX ?_
      refine wx ?_
      refine WE.blk_other rfl ?_
      refine wx (zY (zU (zG (zR 1 rfl ?_))))
      refine yL (Rd.add (Rd.blk 0 rfl) _) ?_
      refine yA ?_
      refine zR 1 rfl ?_
      refine zF 0 ?_
      refine zN (zL ?_)
      refine WE.again (Rk, ga, da, gc, dc, { st2 with time := st2.time + 1 }, (rpickL (prioRc ps classes) left st1 g1).2, rows) ⟨hRk, hgv, hdn, hrx, hra, ?_, by (try dsimp only); omega, ?_⟩ (by (try dsimp only); omega) ⟨rfl, rfl, rfl, rfl, rfl, rfl, rfl⟩ (RLe.refl _) qS
      ·have := hinv.tick.mono (B' := ((st0.time + 1 : Nat) : Int) * cap) (by rw [hB2]; omega)
       dsimp only at this ⊢
       rw [htime] at this ⊢; exact this
      ·dsimp only
       rw [← hfin, show ticks - st0.time = (ticks - (st0.time + 1)) + 1 by omega, rticksL, htime]
       have hrt : rtickL ps (prioRc ps classes) cap st0 g0 = ({ st2 with time := st0.time + 1 }, (rpickL (prioRc ps classes) left st1 g1).2) := by unfold rtickL; rw [hend]; dsimp only; rw [htime]
       rw [hrt]
     ·try dsimp only at hc3
      refine zK (zU (zQ (zG (zR 1 rfl (zN (zU (zQ (zG ?_))))))))
      refine yL (Rd.blk 0 rfl) ?_
      refine zR 2 rfl ?_
      refine WL.perm perm_out ?_
      refine WL.call en109 rfl rfl qD (CallOp.mkT rfl rfl rfl rfl) (SendR_C (classes := classes) (B := B) (len := st0.time + 2) w0 hoa hp hgv hdn hinv2 qO qO hrx hra hc3 qO hsz hf qO _) ?_
      rintro _ R3 E3 hR3 ⟨ga2, da2, gc2, dc2, rows3, rfl, hgv3, hdn3, hrx3, hra3, hsub⟩
      refine WL.subE hsub ?_
      refine WL.perm perm_out.symm ?_
      obtain ⟨hs4, hs5, hs6⟩ := hinv2.send hf (by omega) hc3 (most := left) (by omega)
      have hl3 : rows3.length = rows.length := by
       have h1 := congrArg List.length hrx3
       have h2 := hs4.slen
       have h3 := hinv2.slen
       have h4 := congrArg List.length hrx
       simp only [List.length_map] at h1 h4
       omega
      refine zR 3 rfl ?_
      refine zE 0 ?_
      refine zR 1 rfl (zN (zU (zG (zR 2 rfl ?_))))
      refine yS ?_
      refine zR 1 rfl (zN (zL ?_))
      have hin2 : rinnerL ps (prioRc ps classes) (k - 1) (left - rsendN ps left st2) (rsend ps left st2) (rpickL (prioRc ps classes) left st1 g1).2 = rinnerL ps (prioRc ps classes) cap.toNat cap (rbegin st0) g0 := by rw [← hin, rinnerL_some hkk (by omega) (by rw [← hs2n]; exact hc3), hs2]
      refine WE.again (R3, ga2, da2, gc2, dc2, rsend ps left st2, (rpickL (prioRc ps classes) left st1 g1).2, rows3, left - rsendN ps left st2) ⟨hRk.trans hR3, hgv3, hdn3, hrx3, hra3, ⟨k - 1, hin2, by (try dsimp only); omega⟩, by (try dsimp only); omega, by (try dsimp only); omega, by dsimp only; rw [rsend_time, hs2]; exact htime, _, hs4, by (try dsimp only); omega⟩ (by (try dsimp only); omega) ⟨rfl, rfl, rfl, rfl, rfl, rfl, rfl, rfl⟩ (RLe.refl _) (by rw [hl3]; exact qS)
    ·
     refine zQ (zG (zR 1 rfl ?_))
     refine yL (Rd.add (Rd.blk 0 rfl) _) ?_
     refine zR 1 rfl (zN (zU ?_))
     refine W.condE rfl (fun hc4 => ?_) (fun hc4 => ?_)
     ·try dsimp only at hc4
      refine zG ?_
      refine yL (Rd.blk 0 rfl) ?_
      refine zR 2 rfl ?_
      refine WG.callV en108 rfl rfl qD (CallOp.mk' rfl rfl rfl rfl) (fun _ => rfl) (fun hg => Choose_V hp hgv hinv.glen qO) ?_
      refine zR 1 rfl ?_
      refine zF 0 ?_
      refine zN ?_
      have hpk : (rpickL (prioRc ps classes) left st1 g1) = (prioFrom (firstW ps st1) classes 0, g1) := by unfold rpickL; rw [if_pos (by first | exact hc4 | omega)]; rfl
      refine WE.cut { st1 with now := prioFrom (firstW ps st1) classes 0 } (by rw [hpk]) ⟨rfl, rfl, rfl, rfl, rfl, rfl, rfl, rfl⟩ (RLe.refl _) qS
     ·try dsimp only at hc4
      refine zK ?_
      have hpk : (rpickL (prioRc ps classes) left st1 g1) = (st1.now, g1) := by unfold rpickL; rw [if_neg (by first | exact hc4 | omega)]
      refine WE.cut st1 (by rw [hpk]) ⟨rfl, rfl, rfl, rfl, rfl, rfl, rfl, rfl⟩ (RLe.refl _) qS
   ·try dsimp only at hc2
    have hend : rinnerL ps (prioRc ps classes) cap.toNat cap (rbegin st0) g0 = (st1, g1) := by rw [← hin, rinnerL_stop (by omega)]
    refine zX ?_
    refine wx (wx (zY (zU (zG (zR 1 rfl ?_)))))
    refine yL (Rd.add (Rd.blk 0 rfl) _) ?_
    refine yA ?_
    refine zR 1 rfl ?_
    refine zF 0 ?_
    refine zN (zL ?_)
    refine WE.again (Rk, ga, da, gc, dc, { st1 with time := st1.time + 1 }, g1, rows) ⟨hRk, hgv, hdn, hrx, hra, ?_, by (try dsimp only); omega, ?_⟩ (by (try dsimp only); omega) ⟨rfl, rfl, rfl, rfl, rfl, rfl, rfl⟩ (RLe.refl _) qS
    ·have := hinv.tick.mono (B' := ((st0.time + 1 : Nat) : Int) * cap) (by rw [hB2]; omega)
     dsimp only at this ⊢
     rw [htime] at this ⊢; exact this
    ·dsimp only
     rw [← hfin, show ticks - st0.time = (ticks - (st0.time + 1)) + 1 by omega, rticksL, htime]
     have hrt : rtickL ps (prioRc ps classes) cap st0 g0 = ({ st1 with time := st0.time + 1 }, g1) := by unfold rtickL; rw [hend]; dsimp only; rw [htime]
     rw [hrt]
  ·try dsimp only at hc1
   have hst : st0.time = ticks := by omega
   have hfin2 : st0 = rrunL ps (prioRc ps classes) cap classes ticks () := by rw [← hfin, hst, Nat.sub_self]; rfl
   rw [hst] at hinv
   refine zX ?_
   refine wx (wx (zY (zU (zQ (zG (zR 1 rfl ?_))))))
   refine yL (Rd.add (Rd.blk 0 rfl) _) ?_
   refine zE 1 ?_
   refine zR 1 rfl (zN (zU (zT ?_)))
   refine WE.retF tab_ok [_, _] rfl ⟨⟨_, _, _, rfl, rfl, rfl, qB, rfl⟩, rfl, trivial⟩ (hRk) ?_
   exact ⟨da, oa, dc, oc, rows, st0, hfin2, rfl, hdn, hrx, hra, hinv, qS⟩

theorem RPRun_any {R : Ro} {pa : Option Addr} {pc l : Nat} {ps : List Pkt} (hp : RS R 3 encP pa ps) (hl : ps.length = l) {cap classes ticks : Int} (w0 : World) (E : List Ent) :
  K.Fn Tryz.prog 64 [.int .i64 cap, .int .i64 classes, .slice pa l pc, .int .i64 ticks] w0 R E (fun v R' E' => ∃ (da oa : Option Addr) (dc oc : Nat) (rows : List Sl), v = .tuple #[.agg #[.slice da (outOf (lrunE cap classes ticks ps) (mrun ps (prioCh ps classes.toNat) cap classes.toNat ticks.toNat ())).1.length dc, .slice oa rows.length oc], .int .i64 (lrunE cap classes ticks ps)] ∧ RS R' 1 encI da (outOf (lrunE cap classes ticks ps) (mrun ps (prioCh ps classes.toNat) cap classes.toNat ticks.toNat ())).1 ∧ RS R' 1 encS oa rows ∧ (∀ r ∈ rows, RS R' 1 encI r.a r.xs) ∧ rows.map Sl.xs = (outOf (lrunE cap classes ticks ps) (mrun ps (prioCh ps classes.toNat) cap classes.toNat ticks.toNat ())).2 ∧ E.Sublist E') := by
 subst hl
 by_cases h : lrunE cap classes ticks ps = 0
 ·obtain ⟨hok, hvv, hck, c1, c2, c3, c4, c5, c6, hs, hf⟩ := lrunE_ok h
  obtain ⟨nc, rfl⟩ := Int.eq_ofNat_of_zero_le (show 0 ≤ classes by omega)
  obtain ⟨nt, rfl⟩ := Int.eq_ofNat_of_zero_le c5
  simp only [Int.toNat_natCast]
  have hrf := sim_runL (prio_fair hok.sorted) (fun p hp => (hs p hp).1) (classes := nc) (fun p hp => by have := hf p hp; omega) (prio_alike (n := nc)) (cap := cap) (by omega) (sg := ()) (g := ()) (prio_start _) trivial nt
  intro x hm
  refine (RPRun_ok (pc := pc) hp w0 h E x hm).mono ?_
  rintro e w' ⟨v, R', E', rfl, hR, hm', da, oa, dc, oc, rows, st, rfl, rfl, hd, h1, h2, h3, hsub⟩
  have hm1 := hm'.sub (RLe.refl _) hsub
  obtain ⟨R2, k1, k2, k3⟩ := hm1.freeze (i := 0) (enc := encS) (xs := rows) rfl
  obtain ⟨R3, j1, j2, j3⟩ := Mem.freezeRows (rows := rows) (G := E) k3
  unfold outOf
  rw [if_neg (by omega), h]
  refine ⟨_, R3, E, rfl, hR.trans (k1.trans j1), j3, da, oa, dc, oc, rows, ?_, ?_, k2.mono j1, j2, ?_, List.Sublist.refl _⟩
  ·dsimp only; rw [← hrf.1]
  ·dsimp only; rw [← hrf.1]; exact hd.mono (k1.trans j1)
  ·dsimp only; rw [← hrf.2]; exact h1
 ·refine (RPRun_err hp w0 h E).mono ?_
  rintro v R' E' hR ⟨rfl, rfl, hsub⟩
  unfold outOf
  rw [if_pos h]
  exact ⟨none, none, 0, 0, [], rfl, rs_nil, rs_nil, by simp, rfl, hsub⟩




theorem LRun_anyC {R : Ro} {pa : Option Addr} {pc l : Nat} {ps : List Pkt} (hp : RS R 3 encP pa ps) (hl : ps.length = l) {cap classes ticks : Int} (w0 : World) (E : List Ent) :
  K.Fn Tryz.prog 189 [.int .i64 cap, .int .i64 classes, .slice pa l pc, .int .i64 ticks] w0 R E (fun v R' E' => ∃ (da oa : Option Addr) (dc oc : Nat) (rows : List Sl), v = .tuple #[.agg #[.slice da (lineOut cap classes ticks ps).1.length dc, .slice oa rows.length oc], .int .i64 (lrunE cap classes ticks ps)] ∧ RS R' 1 encI da (lineOut cap classes ticks ps).1 ∧ RS R' 1 encS oa rows ∧ (∀ r ∈ rows, RS R' 1 encI r.a r.xs) ∧ rows.map Sl.xs = (lineOut cap classes ticks ps).2 ∧ (∀ r ∈ rows, r.xs.length ≤ r.cap) ∧ E.Sublist E') := by
 subst hl
 by_cases h : lrunE cap classes ticks ps = 0
 ·obtain ⟨hok, hv, hck, c1, c2, c3, c4, c5, c6, hs, hf⟩ := lrunE_ok h
  obtain ⟨nc, rfl⟩ := Int.eq_ofNat_of_zero_le (show 0 ≤ classes by omega)
  obtain ⟨nt, rfl⟩ := Int.eq_ofNat_of_zero_le c5
  have ho : lineOut cap nc nt ps = ((mrun ps (fifo ps) cap nc nt ()).done, (mrun ps (fifo ps) cap nc nt ()).sent) := by unfold lineOut; rw [if_neg (by omega)]; rfl
  intro w hm
  refine (LRun_ok (pc := pc) hp w0 hok hck E w hm).mono ?_
  rintro e w' ⟨v, R', E', rfl, hR, hm', rows, gd, go, s, rfl, rfl, rfl, h1, h2, h3, hsub⟩
  have hm1 := hm'.sub (RLe.refl _) hsub
  obtain ⟨R1, g1, g2, g3⟩ := hm1.freeze (i := 0) (enc := encI) (xs := (mrun ps (fifo ps) cap nc nt ()).done) rfl
  obtain ⟨R2, k1, k2, k3⟩ := g3.freeze (i := 0) (enc := encS) (xs := rows) rfl
  obtain ⟨R3, j1, j2, j3⟩ := Mem.freezeRows (rows := rows) (G := E) k3
  have hcapp := Mem.rowsCap (rows := rows) (G := E) k3
  have hdl := h3.done
  have hlr : rows.length = nc := by rw [← h3.sent, ← h1, List.length_map]
  refine ⟨_, R3, E, rfl, g1.trans (k1.trans j1), j3, some ⟨gd, 0, none⟩, some ⟨go, 0, none⟩, ps.length, nc, rows, ?_, ?_, k2.mono j1, j2, ?_, hcapp, List.Sublist.refl _⟩
  ·rw [ho, h]; dsimp only; rw [hdl, hlr]
  ·rw [ho]; exact g2.mono (k1.trans j1)
  ·rw [ho]; exact h1
 ·refine (LRun_err hp w0 h E).mono ?_
  rintro v R' E' hR ⟨rfl, rfl, hsub⟩
  have ho : lineOut cap classes ticks ps = ([], []) := by unfold lineOut; rw [if_pos h]
  exact ⟨none, none, 0, 0, [], by rw [ho]; rfl, by rw [ho]; exact rs_nil, rs_nil, by simp, by rw [ho]; rfl, by simp, hsub⟩

theorem PRun_anyC {R : Ro} {pa : Option Addr} {pc l : Nat} {ps : List Pkt} (hp : RS R 3 encP pa ps) (hl : ps.length = l) {cap classes ticks : Int} (w0 : World) (E : List Ent) :
  K.Fn Tryz.prog 197 [.int .i64 cap, .int .i64 classes, .slice pa l pc, .int .i64 ticks] w0 R E (fun v R' E' => ∃ (da oa : Option Addr) (dc oc : Nat) (rows : List Sl), v = .tuple #[.agg #[.slice da (outOf (lrunE cap classes ticks ps) (mrun ps (prioCh ps classes.toNat) cap classes.toNat ticks.toNat ())).1.length dc, .slice oa rows.length oc], .int .i64 (lrunE cap classes ticks ps)] ∧ RS R' 1 encI da (outOf (lrunE cap classes ticks ps) (mrun ps (prioCh ps classes.toNat) cap classes.toNat ticks.toNat ())).1 ∧ RS R' 1 encS oa rows ∧ (∀ r ∈ rows, RS R' 1 encI r.a r.xs) ∧ rows.map Sl.xs = (outOf (lrunE cap classes ticks ps) (mrun ps (prioCh ps classes.toNat) cap classes.toNat ticks.toNat ())).2 ∧ (∀ r ∈ rows, r.xs.length ≤ r.cap) ∧ E.Sublist E') := by
 subst hl
 by_cases h : lrunE cap classes ticks ps = 0
 ·obtain ⟨hok, hvv, hck, c1, c2, c3, c4, c5, c6, hs, hf⟩ := lrunE_ok h
  obtain ⟨nc, rfl⟩ := Int.eq_ofNat_of_zero_le (show 0 ≤ classes by omega)
  obtain ⟨nt, rfl⟩ := Int.eq_ofNat_of_zero_le c5
  simp only [Int.toNat_natCast]
  intro x hm
  refine (PRun_ok (pc := pc) hp w0 h E x hm).mono ?_
  rintro e w' ⟨v, R', E', rfl, hR, hm', rows, gd, go, s, rfl, rfl, h1, h2, h3, hsub⟩
  have hm1 := hm'.sub (RLe.refl _) hsub
  obtain ⟨R1, g1, g2, g3⟩ := hm1.freeze (i := 0) (enc := encI) (xs := (mrun ps (prioCh ps nc) cap nc nt ()).done) rfl
  obtain ⟨R2, k1, k2, k3⟩ := g3.freeze (i := 0) (enc := encS) (xs := rows) rfl
  obtain ⟨R3, j1, j2, j3⟩ := Mem.freezeRows (rows := rows) (G := E) k3
  have hcapp := Mem.rowsCap (rows := rows) (G := E) k3
  have hdl := h3.done
  have hlr : rows.length = nc := by rw [← h3.sent, ← h1, List.length_map]
  unfold outOf
  rw [if_neg (by omega), h]
  refine ⟨_, R3, E, rfl, hR.trans (g1.trans (k1.trans j1)), j3, some ⟨gd, 0, none⟩, some ⟨go, 0, none⟩, ps.length, nc, rows, ?_, g2.mono (k1.trans j1), k2.mono j1, j2, h1, hcapp, List.Sublist.refl _⟩
  dsimp only; rw [hdl, hlr]
 ·refine (PRun_err hp w0 h E).mono ?_
  rintro v R' E' hR ⟨rfl, rfl, hsub⟩
  unfold outOf
  rw [if_pos h]
  exact ⟨none, none, 0, 0, [], rfl, rs_nil, rs_nil, by simp, rfl, by simp, hsub⟩


theorem Robin_anyC {R : Ro} {pa wa : Option Addr} {pc wc l : Nat} {ps : List Pkt} {w : List Int} (hp : RS R 3 encP pa ps) (hl : ps.length = l) (hwr : RS R 1 encI wa w) {wl : Nat} (hwl : w.length = wl) {cap ticks : Int} (w0 : World) (E : List Ent) :
  K.Fn Tryz.prog 212 [.int .i64 cap, .slice wa wl wc, .slice pa l pc, .int .i64 ticks] w0 R E (fun v R' E' => ∃ (da oa : Option Addr) (dc oc : Nat) (rows : List Sl), v = .tuple #[.agg #[.slice da (outOf (wrunE 20 cap ticks w ps) (mrun ps (robinCh ps w) cap w.length ticks.toNat ((0, nth w 0) : Nat × Int))).1.length dc, .slice oa rows.length oc], .int .i64 (wrunE 20 cap ticks w ps)] ∧ RS R' 1 encI da (outOf (wrunE 20 cap ticks w ps) (mrun ps (robinCh ps w) cap w.length ticks.toNat ((0, nth w 0) : Nat × Int))).1 ∧ RS R' 1 encS oa rows ∧ (∀ r ∈ rows, RS R' 1 encI r.a r.xs) ∧ rows.map Sl.xs = (outOf (wrunE 20 cap ticks w ps) (mrun ps (robinCh ps w) cap w.length ticks.toNat ((0, nth w 0) : Nat × Int))).2 ∧ (∀ r ∈ rows, r.xs.length ≤ r.cap) ∧ E.Sublist E') := by
 subst hl
 subst hwl
 by_cases h : wrunE 20 cap ticks w ps = 0
 ·obtain ⟨hl0, hkw⟩ := wrunE_ok h
  obtain ⟨hok, hvv, hck, c1, c2, c3, c4, c5, c6, hs, hf⟩ := lrunE_ok hl0
  obtain ⟨nt, rfl⟩ := Int.eq_ofNat_of_zero_le c5
  simp only [Int.toNat_natCast]
  intro x hm
  refine (Robin_ok (pc := pc) hp hwr w0 h E x hm).mono ?_
  rintro e w' ⟨v, R', E', rfl, hR, hm', rows, gd, go, s, rfl, rfl, rfl, h1, h2, h3, hsub⟩
  have hm1 := hm'.sub (RLe.refl _) hsub
  obtain ⟨R1, g1, g2, g3⟩ := hm1.freeze (i := 0) (enc := encI) (xs := (mrun ps (robinCh ps w) cap w.length nt ((0, nth w 0) : Nat × Int)).done) rfl
  obtain ⟨R2, k1, k2, k3⟩ := g3.freeze (i := 0) (enc := encS) (xs := rows) rfl
  obtain ⟨R3, j1, j2, j3⟩ := Mem.freezeRows (rows := rows) (G := E) k3
  have hcapp := Mem.rowsCap (rows := rows) (G := E) k3
  have hdl := h3.done
  have hlr : rows.length = w.length := by rw [← h3.sent, ← h1, List.length_map]
  unfold outOf
  rw [if_neg (by omega), h]
  refine ⟨_, R3, E, rfl, g1.trans (k1.trans j1), j3, some ⟨gd, 0, none⟩, some ⟨go, 0, none⟩, ps.length, w.length, rows, ?_, g2.mono (k1.trans j1), k2.mono j1, j2, h1, hcapp, List.Sublist.refl _⟩
  dsimp only; rw [hdl, hlr]
 ·refine (Robin_err hp hwr w0 h E).mono ?_
  rintro v R' E' hR ⟨rfl, rfl, hsub⟩
  unfold outOf
  rw [if_pos h]
  exact ⟨none, none, 0, 0, [], rfl, rs_nil, rs_nil, by simp, rfl, by simp, hsub⟩


theorem Def_anyC {R : Ro} {pa wa : Option Addr} {pc wc l : Nat} {ps : List Pkt} {w : List Int} (hp : RS R 3 encP pa ps) (hl : ps.length = l) (hwr : RS R 1 encI wa w) {wl : Nat} (hwl : w.length = wl) {cap ticks : Int} (w0 : World) (E : List Ent) :
  K.Fn Tryz.prog 228 [.int .i64 cap, .slice wa wl wc, .slice pa l pc, .int .i64 ticks] w0 R E (fun v R' E' => ∃ (da oa : Option Addr) (dc oc : Nat) (rows : List Sl), v = .tuple #[.agg #[.slice da (outOf (wrunE 6000 cap ticks w ps) (mrun ps (defCh ps w) cap w.length ticks.toNat (def0 w.length))).1.length dc, .slice oa rows.length oc], .int .i64 (wrunE 6000 cap ticks w ps)] ∧ RS R' 1 encI da (outOf (wrunE 6000 cap ticks w ps) (mrun ps (defCh ps w) cap w.length ticks.toNat (def0 w.length))).1 ∧ RS R' 1 encS oa rows ∧ (∀ r ∈ rows, RS R' 1 encI r.a r.xs) ∧ rows.map Sl.xs = (outOf (wrunE 6000 cap ticks w ps) (mrun ps (defCh ps w) cap w.length ticks.toNat (def0 w.length))).2 ∧ (∀ r ∈ rows, r.xs.length ≤ r.cap) ∧ E.Sublist E') := by
 subst hl
 subst hwl
 by_cases h : wrunE 6000 cap ticks w ps = 0
 ·obtain ⟨hl0, hkw⟩ := wrunE_ok h
  obtain ⟨hok, hvv, hck, c1, c2, c3, c4, c5, c6, hs, hf⟩ := lrunE_ok hl0
  obtain ⟨nt, rfl⟩ := Int.eq_ofNat_of_zero_le c5
  simp only [Int.toNat_natCast]
  intro x hm
  refine (Def_ok (pc := pc) hp hwr w0 h E x hm).mono ?_
  rintro e w' ⟨v, R', E', rfl, hR, hm', rows, gd, go, s, rfl, rfl, rfl, h1, h2, h3, hsub⟩
  have hm1 := hm'.sub (RLe.refl _) hsub
  obtain ⟨R1, g1, g2, g3⟩ := hm1.freeze (i := 0) (enc := encI) (xs := (mrun ps (defCh ps w) cap w.length nt (def0 w.length)).done) rfl
  obtain ⟨R2, k1, k2, k3⟩ := g3.freeze (i := 0) (enc := encS) (xs := rows) rfl
  obtain ⟨R3, j1, j2, j3⟩ := Mem.freezeRows (rows := rows) (G := E) k3
  have hcapp := Mem.rowsCap (rows := rows) (G := E) k3
  have hdl := h3.done
  have hlr : rows.length = w.length := by rw [← h3.sent, ← h1, List.length_map]
  unfold outOf
  rw [if_neg (by omega), h]
  refine ⟨_, R3, E, rfl, g1.trans (k1.trans j1), j3, some ⟨gd, 0, none⟩, some ⟨go, 0, none⟩, ps.length, w.length, rows, ?_, g2.mono (k1.trans j1), k2.mono j1, j2, h1, hcapp, List.Sublist.refl _⟩
  dsimp only; rw [hdl, hlr]
 ·refine (Def_err hp hwr w0 h E).mono ?_
  rintro v R' E' hR ⟨rfl, rfl, hsub⟩
  unfold outOf
  rw [if_pos h]
  exact ⟨none, none, 0, 0, [], rfl, rs_nil, rs_nil, by simp, rfl, by simp, hsub⟩

theorem RunFifo_C {R : Ro} {pa : Option Addr} {pc l : Nat} {ps : List Pkt} (hp : RS R 3 encP pa ps) (hl : ps.length = l) {ticks : Int} {aw at_ : Option Addr} {lw cw lt ct : Nat} {L : Ln} (hw : RS R 1 encI aw L.w) (hlw : L.w.length = lw) (ht : RS R 1 encI at_ L.tb) (hlt : L.tb.length = lt) (hn : 1 ≤ L.n ∧ L.n ≤ 6) (hk : L.kind = 1) (w0 : World) (E : List Ent) : K.Fn Tryz.prog 186 [.agg #[], .agg #[.int .i64 L.kind, .int .i64 L.cap, .int .i64 L.n, .slice aw lw cw, .slice at_ lt ct], .slice pa l pc, .int .i64 ticks] w0 R E (RunV (runL L ticks ps) E (fun r => .tuple #[r, .int .i64 (runE L ticks ps)])) := by
 have e1 : lineOut L.cap L.n ticks ps = runL L ticks ps := by simp [runL, runE, sendL, lineOut, hk]
 have e2 : lrunE L.cap L.n ticks ps = runE L ticks ps := by simp [runE, hk]
 refine fE 19 Tryz.func186 ?_
 refine zQ (zG ?_)
 refine zO fun b4 => ?_
 refine zO fun b5 => ?_
 refine zA fun b8 => ?_
 refine zR 1 rfl (zN (zU (zQ (zG (zR 1 rfl ?_)))))
 refine yL (Rd.add (Rd.blk 1 rfl) _) ?_
 refine zR 1 rfl ?_
 refine yL (Rd.add (Rd.blk 1 rfl) _) ?_
 refine zR 2 rfl ?_
 refine WL.call en189 rfl rfl qD (CallOp.mkT rfl rfl rfl rfl) (LRun_anyC hp hl w0 _) ?_
 rintro _ R2 E2 hR2 ⟨da, oa, dc, oc, rows, rfl, hd, ho, hrw, hrx, hcp, hsub⟩
 refine WL.subE hsub ?_
 rw [e1] at hd hrx
 rw [e1, e2]
 refine zR 2 rfl ?_
 refine zE 0 ?_
 refine zR 1 rfl (zN (zU (zT ?_)))
 refine WE.retF tab_ok [_, _] rfl ⟨⟨_, _, _, rfl, rfl, rfl, qB, rfl⟩, rfl, trivial⟩ (hR2) ?_
 exact ⟨da, oa, dc, oc, rows, rfl, hd, ho, hrw, hrx, hcp, qS⟩

theorem RunRanks_C {R : Ro} {pa : Option Addr} {pc l : Nat} {ps : List Pkt} (hp : RS R 3 encP pa ps) (hl : ps.length = l) {ticks : Int} {aw at_ : Option Addr} {lw cw lt ct : Nat} {L : Ln} (hw : RS R 1 encI aw L.w) (hlw : L.w.length = lw) (ht : RS R 1 encI at_ L.tb) (hlt : L.tb.length = lt) (hn : 1 ≤ L.n ∧ L.n ≤ 6) (hk : L.kind = 2) (w0 : World) (E : List Ent) : K.Fn Tryz.prog 195 [.agg #[], .agg #[.int .i64 L.kind, .int .i64 L.cap, .int .i64 L.n, .slice aw lw cw, .slice at_ lt ct], .slice pa l pc, .int .i64 ticks] w0 R E (RunV (runL L ticks ps) E (fun r => .tuple #[r, .int .i64 (runE L ticks ps)])) := by
 have e1 : outOf (lrunE L.cap L.n ticks ps) (mrun ps (prioCh ps L.n.toNat) L.cap L.n.toNat ticks.toNat ()) = runL L ticks ps := by simp [runL, runE, sendL, outOf, hk]
 have e2 : lrunE L.cap L.n ticks ps = runE L ticks ps := by simp [runE, hk]
 refine fE 19 Tryz.func195 ?_
 refine zQ (zG ?_)
 refine zO fun b4 => ?_
 refine zO fun b5 => ?_
 refine zA fun b8 => ?_
 refine zR 1 rfl (zN (zU (zQ (zG (zR 1 rfl ?_)))))
 refine yL (Rd.add (Rd.blk 1 rfl) _) ?_
 refine zR 1 rfl ?_
 refine yL (Rd.add (Rd.blk 1 rfl) _) ?_
 refine zR 2 rfl ?_
 refine WL.call en197 rfl rfl qD (CallOp.mkT rfl rfl rfl rfl) (PRun_anyC hp hl w0 _) ?_
 rintro _ R2 E2 hR2 ⟨da, oa, dc, oc, rows, rfl, hd, ho, hrw, hrx, hcp, hsub⟩
 refine WL.subE hsub ?_
 rw [e1] at hd hrx
 rw [e1, e2]
 refine zR 2 rfl ?_
 refine zE 0 ?_
 refine zR 1 rfl (zN (zU (zT ?_)))
 refine WE.retF tab_ok [_, _] rfl ⟨⟨_, _, _, rfl, rfl, rfl, qB, rfl⟩, rfl, trivial⟩ (hR2) ?_
 exact ⟨da, oa, dc, oc, rows, rfl, hd, ho, hrw, hrx, hcp, qS⟩

theorem RunRobin_C {R : Ro} {pa : Option Addr} {pc l : Nat} {ps : List Pkt} (hp : RS R 3 encP pa ps) (hl : ps.length = l) {ticks : Int} {aw at_ : Option Addr} {lw cw lt ct : Nat} {L : Ln} (hw : RS R 1 encI aw L.w) (hlw : L.w.length = lw) (ht : RS R 1 encI at_ L.tb) (hlt : L.tb.length = lt) (hn : 1 ≤ L.n ∧ L.n ≤ 6) (hk : L.kind = 3) (hwn : (L.w.length : Int) = L.n) (w0 : World) (E : List Ent) : K.Fn Tryz.prog 209 [.agg #[], .agg #[.int .i64 L.kind, .int .i64 L.cap, .int .i64 L.n, .slice aw lw cw, .slice at_ lt ct], .slice pa l pc, .int .i64 ticks] w0 R E (RunV (runL L ticks ps) E (fun r => .tuple #[r, .int .i64 (runE L ticks ps)])) := by
 have e1 : outOf (wrunE 20 L.cap ticks L.w ps) (mrun ps (robinCh ps L.w) L.cap L.w.length ticks.toNat ((0, nth L.w 0) : Nat × Int)) = runL L ticks ps := by simp [runL, runE, sendL, outOf, hk]
 have e2 : wrunE 20 L.cap ticks L.w ps = runE L ticks ps := by simp [runE, hk]
 refine fE 19 Tryz.func209 ?_
 refine zQ (zG ?_)
 refine zO fun b4 => ?_
 refine zO fun b5 => ?_
 refine zA fun b8 => ?_
 refine zR 1 rfl (zN (zU (zQ (zG (zR 1 rfl ?_)))))
 refine yL (Rd.add (Rd.blk 1 rfl) _) ?_
 refine zR 1 rfl ?_
 refine yL (Rd.add (Rd.blk 1 rfl) _) ?_
 refine zR 2 rfl ?_
 refine WL.call en212 rfl rfl qD (CallOp.mkT rfl rfl rfl rfl) (Robin_anyC hp hl hw hlw w0 _) ?_
 rintro _ R2 E2 hR2 ⟨da, oa, dc, oc, rows, rfl, hd, ho, hrw, hrx, hcp, hsub⟩
 refine WL.subE hsub ?_
 rw [e1] at hd hrx
 rw [e1, e2]
 refine zR 2 rfl ?_
 refine zE 0 ?_
 refine zR 1 rfl (zN (zU (zT ?_)))
 refine WE.retF tab_ok [_, _] rfl ⟨⟨_, _, _, rfl, rfl, rfl, qB, rfl⟩, rfl, trivial⟩ (hR2) ?_
 exact ⟨da, oa, dc, oc, rows, rfl, hd, ho, hrw, hrx, hcp, qS⟩

theorem RunDef_C {R : Ro} {pa : Option Addr} {pc l : Nat} {ps : List Pkt} (hp : RS R 3 encP pa ps) (hl : ps.length = l) {ticks : Int} {aw at_ : Option Addr} {lw cw lt ct : Nat} {L : Ln} (hw : RS R 1 encI aw L.w) (hlw : L.w.length = lw) (ht : RS R 1 encI at_ L.tb) (hlt : L.tb.length = lt) (hn : 1 ≤ L.n ∧ L.n ≤ 6) (hk : L.kind = 4) (hwn : (L.w.length : Int) = L.n) (w0 : World) (E : List Ent) : K.Fn Tryz.prog 226 [.agg #[], .agg #[.int .i64 L.kind, .int .i64 L.cap, .int .i64 L.n, .slice aw lw cw, .slice at_ lt ct], .slice pa l pc, .int .i64 ticks] w0 R E (RunV (runL L ticks ps) E (fun r => .tuple #[r, .int .i64 (runE L ticks ps)])) := by
 have e1 : outOf (wrunE 6000 L.cap ticks L.w ps) (mrun ps (defCh ps L.w) L.cap L.w.length ticks.toNat (def0 L.w.length)) = runL L ticks ps := by simp [runL, runE, sendL, outOf, hk]
 have e2 : wrunE 6000 L.cap ticks L.w ps = runE L ticks ps := by simp [runE, hk]
 refine fE 19 Tryz.func226 ?_
 refine zQ (zG ?_)
 refine zO fun b4 => ?_
 refine zO fun b5 => ?_
 refine zA fun b8 => ?_
 refine zR 1 rfl (zN (zU (zQ (zG (zR 1 rfl ?_)))))
 refine yL (Rd.add (Rd.blk 1 rfl) _) ?_
 refine zR 1 rfl ?_
 refine yL (Rd.add (Rd.blk 1 rfl) _) ?_
 refine zR 2 rfl ?_
 refine WL.call en228 rfl rfl qD (CallOp.mkT rfl rfl rfl rfl) (Def_anyC hp hl hw hlw w0 _) ?_
 rintro _ R2 E2 hR2 ⟨da, oa, dc, oc, rows, rfl, hd, ho, hrw, hrx, hcp, hsub⟩
 refine WL.subE hsub ?_
 rw [e1] at hd hrx
 rw [e1, e2]
 refine zR 2 rfl ?_
 refine zE 0 ?_
 refine zR 1 rfl (zN (zU (zT ?_)))
 refine WE.retF tab_ok [_, _] rfl ⟨⟨_, _, _, rfl, rfl, rfl, qB, rfl⟩, rfl, trivial⟩ (hR2) ?_
 exact ⟨da, oa, dc, oc, rows, rfl, hd, ho, hrw, hrx, hcp, qS⟩



theorem Common_V {R : Ro} {a b : Nat} (ha : a ≤ 1000000000) (hb : 0 < b ∧ b ≤ 1000000) : FnV Tryz.prog 145 [.int .i64 (a : Int), .int .i64 (b : Int)] R (.int .i64 ((a / Nat.gcd a b * b : Nat) : Int)) := by
 refine Fn.toV (fun w0 E => ?_)
 have hg : 0 < Nat.gcd a b := Nat.gcd_pos_of_pos_right _ hb.1
 have hq : ((a : Int) / (Nat.gcd a b : Int) * (b : Int)) ≤ 1000000000 * 1000000 ∧ 0 ≤ ((a : Int) / (Nat.gcd a b : Int) * (b : Int)) := by
  have h1 : a / Nat.gcd a b * b ≤ 1000000000 * 1000000 := Nat.mul_le_mul (Nat.le_trans (Nat.div_le_self _ _) ha) hb.2
  have e : ((a : Int) / (Nat.gcd a b : Int) * (b : Int)) = ((a / Nat.gcd a b * b : Nat) : Int) := rfl
  omega
 refine fE 20 Tryz.func145 ?_
 refine zQ (zG (zR 1 rfl (zN (zU (zQ (zG (zR 4 rfl (zN (zU (zQ (zB ?_)))))))))))
 refine W.loopK (β := Nat × Nat) (fun (x, y) => Nat.gcd x y = Nat.gcd a b) (fun (x, y) => [(5, true, .int .i64 (x : Int)), (6, true, .int .i64 (y : Int))]) [0, 1] [_, _] [] _ rfl (fun (x, y) => []) (fun (x, y) => y) ((a, b)) (rfl) ⟨rfl, rfl, rfl, rfl, rfl⟩ qS ?_
 intro st hst
 obtain ⟨x, y⟩ := st
 dsimp only [zipE, setAll, List.cons_append, List.nil_append, List.set_cons_zero, List.set_cons_succ] at hst ⊢
 
 refine zQ (zQ (zG (zR 2 rfl (zN (zU ?_)))))
 refine W.condN rfl (fun hc0 => ?_) (fun hc0 => ?_)
 ·try dsimp only at hc0
  refine zK (zU (zB ?_))
  refine W.regionQ _ mixed qK ?_
  refine zR 3 rfl ?_
  refine WG.y rfl rfl qD (Yl.rem rfl rfl rfl (fun _ => rfl) qN qN) ?_
  refine zR 2 rfl (zN (zL ?_))
  refine WE.again ((y, x % y)) ((gcd_step x y).trans hst) (by dsimp only; exact Nat.mod_lt _ qO) ⟨rfl, rfl, rfl, rfl, rfl⟩ (RLe.refl _) qS
 ·try dsimp only at hc0
  obtain rfl : y = 0 := by omega
  rw [Nat.gcd_zero_right] at hst
  subst hst
  refine zX ?_
  refine wx (wx (zY (zU (zQ (zG (zR 2 rfl ?_))))))
  refine WG.y rfl rfl qD (Yl.quo rfl rfl rfl (fun _ => rfl) qA (by intro _; omega)) ?_
  refine zR 1 rfl ?_
  refine WG.y rfl rfl qD (Yl.mul rfl rfl rfl (fun _ => rfl) qA) ?_
  refine zR 1 rfl (zN (zU (zT ?_)))
  refine sE (E := E) ?_
  refine WE.retF tab_ok [_] rfl ⟨rfl, trivial⟩ (RLe.refl _) ?_
  exact ⟨rfl, rfl⟩

theorem LeastW_V {R : Ro} {a : Option Addr} {c : Nat} {v : List Int} {inc : Int} {l : Nat} (ha : RS R 1 encI a v) (hvl : v.length = l) (hl : 0 < l ∧ l ≤ 100000) (hi : 0 ≤ inc ∧ inc ≤ 1000000000000) (hv : ∀ x ∈ v, 0 ≤ x ∧ x ≤ 1000000000000000) : FnV Tryz.prog 141 [.slice a l c, .int .i64 inc] R (.int .i64 (leastL v inc : Int)) := by
 subst hvl
 refine Fn.toV (fun w0 E => ?_)
 refine fE 84 Tryz.func141 ?_
 refine zQ (zG (zR 1 rfl (zN (zU ?_))))
 refine W.scope ?_
 refine zQ (zG (zR 3 rfl (zN (zU (zQ (W.label (zU (zQ (zQ (zG (zR 1 rfl (zN (zU (zB ?_))))))))))))))
 refine W.loopK (β := Nat) (fun p => 1 ≤ p ∧ p ≤ max 1 v.length ∧ ∀ j, 1 ≤ j → j < p → leastOk v inc j = false) (fun p => [(6, true, .int .i64 (p : Int))]) [0, 1, 5] [_, _, _] [] _ rfl (fun p => []) (fun p => v.length - p) (1) (⟨Nat.le_refl _, by omega, fun j a b => by omega⟩) ⟨rfl, rfl, rfl, rfl, rfl⟩ qS ?_
 intro p hst
 dsimp only [zipE, setAll, List.cons_append, List.nil_append, List.set_cons_zero, List.set_cons_succ] at hst ⊢
 obtain ⟨h1, h2, h3⟩ := hst
 have hip : 0 ≤ inc * (p : Int) ∧ inc * (p : Int) ≤ 1000000000000 * 100000 := ⟨Int.mul_nonneg hi.1 (by omega), Int.mul_le_mul hi.2 (by omega) (by omega) (by omega)⟩
 have hiq : 0 ≤ inc * (p : Int) / (v.length : Int) ∧ inc * (p : Int) / (v.length : Int) ≤ 1000000000000 * 100000 := ⟨Int.ediv_nonneg hip.1 (by omega), Int.le_trans (Int.ediv_le_self _ hip.1) hip.2⟩
 refine zQ (zQ (zG (zR 3 rfl (zN (zU ?_)))))
 refine W.condD rfl (fun hc0 => ?_) (fun hc0 => ?_)
 ·try dsimp only at hc0
  refine zK (zU (zQ (zB (zQ (zQ (zG (zR 2 rfl ?_)))))))
  refine WG.y rfl rfl qD (Yl.rem rfl rfl rfl (fun _ => rfl) qN qN) ?_
  refine zR 2 rfl ?_
  refine yP ?_
  refine yP ?_
  refine WG.y rfl rfl (by decide) (Yl.mul rfl rfl rfl qE (by intro hg; (try simp only [zk] at hg); constructor <;> (try dsimp only) <;> omega)) ?_
  refine yP ?_
  refine WG.y rfl rfl (by decide) (Yl.rem rfl rfl rfl qE (by intro hg; (try simp only [zk] at hg); (try dsimp only) <;> omega) (by intro hg; (try simp only [zk] at hg); (try dsimp only) <;> omega)) ?_
  refine yP ?_
  refine yO ?_
  refine zN (zU ?_)
  refine W.cond rfl (fun hc1 => ?_) (fun hc1 => ?_)
  ·try simp only [zk] at hc1
   have hno : leastOk v inc p = false := leastOk_no1 (by rcases hc1 with h | h; exact .inl (by omega); exact .inr h)
   refine zX ?_
   refine wx (zY (zU (zG (zR 1 rfl ?_))))
   refine yA ?_
   refine zR 1 rfl (zN ?_)
   refine WE.again (p + 1) (⟨by omega, by omega, fun j a b => by
    by_cases e : j = p
    ·subst e; exact hno
    ·exact h3 j a (by omega)⟩) (by (try dsimp only); omega) ⟨rfl, rfl, rfl, rfl, rfl⟩ (RLe.refl _) qS
  ·try simp only [zk] at hc1
   have hy1 : v.length % p = 0 := by have := hc1.1; omega
   have hy2 : (inc * (p : Int)) % (v.length : Int) = 0 := hc1.2
   refine zK (zU (zQ (zG (zR 2 rfl ?_))))
   refine WG.y rfl rfl qD (Yl.mul rfl rfl rfl (fun _ => rfl) qA) ?_
   refine zR 1 rfl ?_
   refine WG.y rfl rfl qD (Yl.quo rfl rfl rfl (fun _ => rfl) qA (by intro _; omega)) ?_
   refine zR 1 rfl (zN (zU (zQ (zQ (zG (zR 3 rfl (zN (zU (zB ?_)))))))))
   refine W.loopK (β := Nat) (fun i => i ≤ v.length ∧ ∀ j, j < i → leastC v inc p j = true) (fun i => [(36, true, .int .i64 (i : Int))]) [0, 1, 5, 6, 7, 35] [_, _, _, _, _, _] [] _ rfl (fun i => []) (fun i => v.length - i) (0) (⟨Nat.zero_le _, fun j hj => by omega⟩) ⟨rfl, rfl, rfl, rfl, rfl, rfl, rfl, rfl⟩ qS ?_
   intro i hst
   dsimp only [zipE, setAll, List.cons_append, List.nil_append, List.set_cons_zero, List.set_cons_succ] at hst ⊢
   
   refine zQ (zG (zR 1 rfl (zN (zU (zQ ?_)))))
   refine W.condD rfl (fun hc2 => ?_) (fun hc2 => ?_)
   ·try dsimp only at hc2
    have hil : i < v.length := by omega
    have hvi := hv _ (nth_mem hil)
    have e1 : ((i : Int) + (p : Int)).toNat = i + p := by omega
    have e2 : ((i : Int) + (p : Int) - (v.length : Int)).toNat = i + p - v.length := by omega
    have hvj : i + p < v.length → 0 ≤ nth v (i + p) ∧ nth v (i + p) ≤ 1000000000000000 := fun h => hv _ (nth_mem h)
    have hvk : v.length ≤ i + p → 0 ≤ nth v (i + p - v.length) ∧ nth v (i + p - v.length) ≤ 1000000000000000 := fun h => hv _ (nth_mem (by omega))
    have hvk2 : v.length ≤ i + p → 0 ≤ nth v ((i : Int) + (p : Int) - (v.length : Int)).toNat ∧ nth v ((i : Int) + (p : Int) - (v.length : Int)).toNat ≤ 1000000000000000 := fun h => by rw [e2]; exact hvk h
    refine zK (zU (zQ (zB (zQ (zG (zR 2 rfl (zN (zU (zQ (zG (zR 2 rfl ?_)))))))))))
    refine WG.y rfl rfl qD (Yl.indexN tab_ok rfl rfl rfl rfl rfl rfl (fun _ => rfl) qN qH) ?_
    refine yR ?_
    refine zR 1 rfl ?_
    refine yA ?_
    refine zR 1 rfl (zN (zU (zQ (zG (zR 2 rfl ?_)))))
    refine yA ?_
    refine zR 3 rfl ?_
    refine yP ?_
    refine yP ?_
    refine yP ?_
    refine WG.y rfl rfl (by decide) (Yl.add rfl rfl rfl qE (by intro hg; (try simp only [zk] at hg); constructor <;> (try dsimp only) <;> omega)) ?_
    refine WG.y rfl rfl (by decide) (Yl.index tab_ok rfl rfl rfl rfl rfl rfl qE (by intro hg; (try simp only [zk] at hg); constructor <;> (try dsimp only) <;> omega) (by intro hg; (try simp only [zk] at hg); first | exact qI)) ?_
    refine' WG.y rfl rfl qD (Yl.loadG tab_ok rfl rfl rfl qE ?r2 rfl ?h2 ?g2) ?_
    case r2 => ((apply RS.rdC; assumption))
    case h2 => rfl
    case g2 => (intro hg; (try simp only [zk] at hg); (try dsimp only); omega)
    refine yP ?_
    refine yP ?_
    refine yN ?_
    refine zR 1 rfl ?_
    refine yP ?_
    refine yP ?_
    refine WG.y rfl rfl (by decide) (Yl.add rfl rfl rfl qE (by intro hg; (try simp only [zk] at hg); constructor <;> (try dsimp only) <;> omega)) ?_
    refine yP ?_
    refine yP ?_
    refine yP ?_
    refine yP ?_
    refine yP ?_
    refine yP ?_
    refine WG.y rfl rfl (by decide) (Yl.add rfl rfl rfl qE (by intro hg; (try simp only [zk] at hg); constructor <;> (try dsimp only) <;> omega)) ?_
    refine yP ?_
    refine WG.y rfl rfl (by decide) (Yl.sub rfl rfl rfl qE (by intro hg; (try simp only [zk] at hg); constructor <;> (try dsimp only) <;> omega)) ?_
    refine WG.y rfl rfl (by decide) (Yl.index tab_ok rfl rfl rfl rfl rfl rfl qE (by intro hg; (try simp only [zk] at hg); constructor <;> (try dsimp only) <;> omega) (by intro hg; (try simp only [zk] at hg); first | exact qI)) ?_
    refine' WG.y rfl rfl qD (Yl.loadG tab_ok rfl rfl rfl qE ?r3 rfl ?h3 ?g3) ?_
    case r3 => ((apply RS.rdC; assumption))
    case h3 => rfl
    case g3 => (intro hg; (try simp only [zk] at hg); (try dsimp only); omega)
    refine yP ?_
    refine WG.y rfl rfl (by decide) (Yl.add rfl rfl rfl qE (by intro hg; (try simp only [zk] at hg); constructor <;> (try dsimp only) <;> omega)) ?_
    refine yP ?_
    refine yP ?_
    refine yN ?_
    refine yO ?_
    refine zN (zU ?_)
    refine W.cond rfl (fun hc3 => ?_) (fun hc3 => ?_)
    ·try simp only [zk] at hc3
     have hC : leastC v inc p i = false := by
      unfold leastC
      rw [← Bool.not_eq_true]
      intro h
      rw [beq_iff_eq] at h
      rw [e1, e2] at hc3
      rcases hc3 with ⟨x1, x2⟩ | ⟨x1, x2⟩
      ·rw [if_pos (by omega)] at h; exact x2 h
      ·rw [if_neg (by omega)] at h; exact x2 h
     have hno : leastOk v inc p = false := leastOk_no2 hil hC
     refine zX ?_
     refine WE.blk_other rfl ?_
     refine wx (wx ?_)
     refine WE.blk_other rfl ?_
     refine wx (zY (zU (zG (zR 1 rfl ?_))))
     refine yA ?_
     refine zR 1 rfl (zN ?_)
     refine WE.again (p + 1) (⟨by omega, by omega, fun j a b => by
      by_cases e : j = p
      ·subst e; exact hno
      ·exact h3 j a (by omega)⟩) (by (try dsimp only); omega) ⟨rfl, rfl, rfl, rfl, rfl⟩ (RLe.refl _) qS
    ·try simp only [zk] at hc3
     have hC : leastC v inc p i = true := by
      unfold leastC
      rw [beq_iff_eq]
      rw [e1, e2] at hc3
      by_cases h : i + p < v.length
      ·rw [if_pos h]; exact hc3.1 (by omega)
      ·rw [if_neg h]; exact hc3.2 (by omega)
     refine zK (zL (zU (zG ?_)))
     refine yA ?_
     refine zR 1 rfl (zN ?_)
     refine WE.again (i + 1) (⟨by omega, fun j hj => by
      by_cases e : j = i
      ·subst e; exact hC
      ·exact hst.2 j (by omega)⟩) (by (try dsimp only); omega) ⟨rfl, rfl, rfl, rfl, rfl, rfl, rfl, rfl⟩ (RLe.refl _) qS
   ·try dsimp only at hc2
    obtain rfl : i = v.length := by omega
    have hok : leastOk v inc p = true := leastOk_yes hy1 hy2 hst.2
    refine zX ?_
    refine wx (wx (zY (zU (zQ (zG (zR 2 rfl (zN (zU (zT (wb (wt (wt (wb (wt ?_))))))))))))))
    refine WE.scope_ret ?_
    refine sE (E := E) ?_
    refine WE.retF tab_ok [_] rfl ⟨rfl, trivial⟩ (RLe.refl _) ?_
    exact ⟨by rw [leastL_some h1 (by omega) hok h3]; rfl, rfl⟩
 ·try dsimp only at hc0
  refine zX ?_
  refine wx (wx (zY (zU (zQ (zG (zR 2 rfl (zN (zU (zT ?_)))))))))
  refine WE.scope_ret ?_
  refine sE (E := E) ?_
  refine WE.retF tab_ok [_] rfl ⟨rfl, trivial⟩ (RLe.refl _) ?_
  exact ⟨by rw [leastL_none (fun j a b => h3 j a (by omega))]; rfl, rfl⟩

theorem Checked_C {R : Ro} {a : Option Addr} {c : Nat} {v : List Int} {p q : Int} {l : Nat} (ha : RS R 1 encI a v) (hvl : v.length = l) (w0 : World) (E : List Ent) : K.Fn Tryz.prog 142 [.slice a l c, .int .i64 p, .int .i64 q] w0 R E (fun r R' E' => ∃ (f : Option Addr) (fc : Nat), r = cvV f fc (checkedL v p q) ∧ RS R' 1 encI f (checkedL v p q).1.vals ∧ E.Sublist E') := by
 subst hvl
 have hla := ha.len
 refine fE 33 Tryz.func142 ?_
 refine zQ (zG ?_)
 refine zA fun b6 => ?_
 refine zR 1 rfl (zN (zU (zQ (zQ (zG (zR 3 rfl (zN (zU ?_))))))))
 refine W.condD rfl (fun hc0 => ?_) (fun hc0 => ?_)
 ·try dsimp only at hc0
  have hb : checkedE v = 3 := checkedE_big (by omega)
  refine zQ (zG ?_)
  -- build
  refine WG.y rfl rfl qD (Yl.build (parts := []) tab_ok rfl rfl rfl rfl (fun _ => rfl) rfl rfl) ?_
  refine zE 0 ?_
  refine zR 1 rfl (zN (zU (zT (wt ?_))))
  refine WE.retF tab_ok [_, _] rfl ⟨⟨_, _, _, rfl, rfl, rfl, qB, rfl⟩, rfl, trivial⟩ ((by first | exact hR1 | exact RLe.refl _)) ?_
  exact ⟨none, 0, by rw [checkedL_bad hb]; rfl, by rw [checkedL_bad hb]; exact rs_nil, qS⟩
 ·try dsimp only at hc0
  refine zK (zU (zQ (zQ (zG (zR 3 rfl (zN (zU (zB ?_))))))))
  refine W.loopK (β := Nat) (fun i => i ≤ v.length ∧ ∀ j, j < i → nth v j = INF ∨ nth v j ≤ MAXV) (fun i => [(16, true, .int .i64 (i : Int))]) [0, 1, 2, 6, 14, 15] [_, _, _, _, _, _] [] _ rfl (fun i => []) (fun i => v.length - i) (0) (⟨Nat.zero_le _, fun j hj => by omega⟩) ⟨rfl, rfl, rfl, rfl, rfl, rfl, rfl, rfl⟩ qS ?_
  intro i hst
  dsimp only [zipE, setAll, List.cons_append, List.nil_append, List.set_cons_zero, List.set_cons_succ] at hst ⊢
  
  refine zQ (zG (zR 1 rfl (zN (zU (zQ ?_)))))
  refine W.condD rfl (fun hc1 => ?_) (fun hc1 => ?_)
  ·try dsimp only at hc1
   refine zK (zU (zQ (zB (zQ (zG ?_)))))
   refine WG.y rfl rfl qD (Yl.indexN tab_ok rfl rfl rfl rfl rfl rfl (fun _ => rfl) qN qH) ?_
   refine yR ?_
   refine zR 1 rfl (zN (zU (zQ (zG (zR 3 rfl ?_)))))
   refine yP ?_
   refine yP ?_
   refine yN ?_
   refine zN (zU ?_)
   refine W.cond rfl (fun hc2 => ?_) (fun hc2 => ?_)
   ·try simp only [zk] at hc2
    have hb : checkedE v = 3 := checkedE_one (i := i) (by omega) hc2.1 hc2.2
    refine zQ (zG ?_)
    -- build
    refine WG.y rfl rfl qD (Yl.build (parts := []) tab_ok rfl rfl rfl rfl (fun _ => rfl) rfl rfl) ?_
    refine zE 0 ?_
    refine zR 1 rfl (zN (zU (zT (wb (wt (wt (wb (wt ?_))))))))
    refine WE.retF tab_ok [_, _] rfl ⟨⟨_, _, _, rfl, rfl, rfl, qB, rfl⟩, rfl, trivial⟩ ((by first | exact hR1 | exact RLe.refl _)) ?_
    exact ⟨none, 0, by rw [checkedL_bad hb]; rfl, by rw [checkedL_bad hb]; exact rs_nil, qS⟩
   ·try simp only [zk] at hc2
    have hy : nth v i = INF ∨ nth v i ≤ MAXV := by unfold INF MAXV; omega
    refine zK (zL (zU (zG ?_)))
    refine yA ?_
    refine zR 1 rfl (zN ?_)
    refine WE.again (i + 1) (⟨by omega, fun j hj => by
     by_cases e : j = i
     ·subst e; exact hy
     ·exact hst.2 j (by omega)⟩) (by (try dsimp only); omega) ⟨rfl, rfl, rfl, rfl, rfl, rfl, rfl, rfl⟩ (RLe.refl _) qS
  ·try dsimp only at hc1
   obtain rfl : i = v.length := by omega
   have hg : checkedE v ≠ 3 := checkedE_fine (by omega) hst.2
   refine zX ?_
   refine wx (wx (zY (zU ?_)))
   refine W.nil 3 1 qD ?_
   refine zQ (zG (zR 1 rfl ?_))
   refine WL.ef rfl rfl qD (Ef.cloneR (enc := encI) 0 tab_ok rfl rfl rfl rfl rfl rfl rfl rfl rfl rfl ha (fun _ _ => rfl) (by dsimp only; omega) qO (fun a29 c29 ha29 => ?_))
   refine zR 2 rfl ?_
   -- build
   refine WG.y rfl rfl qD (Yl.build (parts := [(0, .tmp 29), (1, .tmp 30), (2, .tmp 31)]) tab_ok rfl rfl rfl rfl (fun _ => rfl) rfl rfl) ?_
   refine zE 1 ?_
   refine zR 1 rfl ?_
   refine WL.freeze (enc := encI) (xs := v) 0 rfl ?_
   intro R1 hR1 hz
   refine zN (zU (zT ?_))
   refine WE.retF tab_ok [_, _] rfl ⟨⟨_, _, _, rfl, rfl, rfl, qB, rfl⟩, rfl, trivial⟩ ((by first | exact hR1 | exact RLe.refl _)) ?_
   exact ⟨a29, c29, by rw [checkedL_good hg]; rfl, by rw [checkedL_good hg]; exact hz, qS⟩

theorem Ending_C {R : Ro} {a : Option Addr} {c : Nat} {v : List Int} {l : Nat} (ha : RS R 1 encI a v) (hvl : v.length = l) (w0 : World) (E : List Ent) : K.Fn Tryz.prog 140 [.slice a l c] w0 R E (fun r R' E' => ∃ (f : Option Addr) (fc : Nat), r = cvV f fc (checkedL v 1 0) ∧ RS R' 1 encI f (checkedL v 1 0).1.vals ∧ E.Sublist E') := by
 refine fE 8 Tryz.func140 ?_
 refine zQ (zG ?_)
 refine zA fun b2 => ?_
 refine zR 1 rfl (zN (zU (zQ (zG (zR 1 rfl ?_)))))
 refine WL.call en142 rfl rfl qD (CallOp.mkT rfl rfl rfl rfl) (Checked_C ha hvl w0 _) ?_
 rintro _ R1 E1 hR1 ⟨f, fc, rfl, hf, hsub⟩
 refine WL.subE hsub ?_
 unfold cvV
 refine zR 2 rfl ?_
 refine zE 0 ?_
 refine zR 1 rfl (zN (zU (zT ?_)))
 refine WE.retF tab_ok [_, _] rfl ⟨⟨_, _, _, rfl, rfl, rfl, qB, rfl⟩, rfl, trivial⟩ (hR1) ?_
 exact ⟨f, fc, rfl, hf, qS⟩

theorem Build_C {R : Ro} {g : FuncId} {fi ca : Array Value} {F : Nat → Int} {S P : Nat} {I : Int} (hE : Enters Tryz.prog g) (hS : S ≤ 10000) (hP : 0 < P ∧ P ≤ 10000) (hI : 0 ≤ I ∧ I ≤ 1000000000000) (hFb : ∀ t, t < S + P → F t = INF ∨ (0 ≤ F t ∧ F t ≤ 1000000000000000)) (hF : ∀ t : Nat, t < S + P → FnV Tryz.prog g (fi.toList ++ [.int .i64 (t : Int)] ++ ca.toList) R (.int .i64 (F t))) (w0 : World) (E : List Ent) :
  K.Fn Tryz.prog 82 [.func (.func g) fi ca, .int .i64 (S : Int), .int .i64 (P : Int), .int .i64 I] w0 R E (fun r R' E' => ∃ (f : Option Addr) (fc : Nat), r = cvV f fc (mbuild F S P I) ∧ RS R' 1 encI f (mbuild F S P I).1.vals ∧ E.Sublist E') := by
 have hsp : ((S : Int) + (P : Int)).toNat = S + P := by omega
 refine fE 90 Tryz.func82 ?_
 refine zQ (zG ?_)
 refine zA fun b8 => ?_
 refine zR 1 rfl (zN (zU (zQ (zG (zR 2 rfl ?_)))))
 refine yA ?_
 refine WL.ef rfl rfl qD (Ef.makeSliceD (enc := encI) 0 tab_ok rfl rfl rfl rfl rfl rfl qX qX qX qX qD rfl rfl (fun a17 => ?_))
 refine zR 1 rfl (zN (zU (zQ (zQ (zG (zR 3 rfl (zN (zU (zB ?_)))))))))
 refine W.loopK (β := Nat) (fun t => t ≤ S + P ∧ ∀ j, j < t → F j ≠ INF) (fun t => [(20, true, .int .i64 (t : Int))]) [0, 1, 2, 3, 8, 10, 19] [_, _, _, _, _, _, _] [] _ rfl (fun t => [(0, .sl 3 1 (some ⟨a17, 0, none⟩) (S + P) ((partV F t (S + P)).map encI))]) (fun t => S + P - t) (0) (⟨Nat.zero_le _, fun j hj => by omega⟩) ⟨rfl, rfl, rfl, rfl, rfl, rfl, rfl, rfl, rfl⟩ qS ?_
 intro t hst
 dsimp only [zipE, setAll, List.cons_append, List.nil_append, List.set_cons_zero, List.set_cons_succ] at hst ⊢
 have hpl := partV_len F (t := t) (n := S + P) (by omega)
 obtain ⟨ht, hni⟩ := hst
 refine zQ (zG (zR 1 rfl (zN (zU (zQ ?_)))))
 refine W.condD rfl (fun hc0 => ?_) (fun hc0 => ?_)
 ·try dsimp only at hc0
  have htl : t < S + P := by omega
  have hset := partV_set F htl
  have hnt := partV_nth F (t := t) (k := t + 1) (n := S + P) (by omega)
  have hbt := hFb t htl
  refine zK (zU (zQ (zB (zQ (zG (zR 2 rfl (zN (zU (zQ (zG (zR 4 rfl ?_)))))))))))
  refine WG.callV hE rfl rfl qD (CallOp.mk' rfl rfl rfl rfl) (fun _ => rfl) (fun hg => hF t qO) ?_
  refine WG.y rfl rfl qD (Yl.indexN tab_ok rfl rfl rfl rfl rfl rfl (fun _ => rfl) qN qH) ?_
  refine WL.efN rfl rfl (Ef.storeD _ 0 tab_ok rfl rfl rfl rfl rfl qX rfl rfl rfl rfl ?_)
  refine zN (zU ?_)
  have hnt2 : nth ((partV F t (S + P)).set t (F t)) t = F t := by rw [hset]; exact hnt
  refine zQ (zG (zR 2 rfl ?_))
  refine WG.y rfl rfl qD (Yl.indexN tab_ok rfl rfl rfl rfl rfl rfl (fun _ => rfl) qN qH) ?_
  refine' WG.y rfl rfl qD (Yl.load1 tab_ok rfl rfl rfl (fun _ => rfl) ?r1 rfl ?h1) ?_
  case r1 => exact Rd.slD 0 rfl (by rw [List.length_set]; omega)
  case h1 => rfl
  refine zR 1 rfl (zN (zU ?_))
  refine W.condE rfl (fun hc1 => ?_) (fun hc1 => ?_)
  ·try dsimp only at hc1
   have hinf : F t = INF := by rw [← hnt, ← hset]; exact hc1
   have hmb : mbuild F S P I = checkedL (fvals F (t + 1)) 1 0 := by unfold mbuild; rw [infAt_some htl hinf hni, if_neg (by omega), Int.toNat_natCast]
   refine W.freeze (enc := encI) (xs := partV F (t + 1) (S + P)) 0 (by rw [← hset]; rfl) ?_
   intro R1 hR1 hz
   refine zQ (zG (zR 2 rfl ?_))
   refine yA ?_
   refine WG.y rfl rfl qD (Yl.sliceH tab_ok rfl rfl rfl rfl rfl (fun _ => rfl) (by intro _; omega) rfl) ?_
   refine WL.call en140 rfl rfl (by decide) (CallOp.mkT rfl rfl rfl rfl) (Ending_C (by have := hz.take (t + 1); rwa [partV_take] at this) (by rw [fvals_len]; omega) w0 _) ?_
   rintro _ R2 E2 hR2 ⟨f, fc, rfl, hf, hsub⟩
   refine WL.subE hsub ?_
   unfold cvV
   refine zR 2 rfl ?_
   refine zE 0 ?_
   refine zR 1 rfl (zN (zU (zT (wb (wt (wt (wb (wt ?_))))))))
   refine WE.retF tab_ok [_, _] rfl ⟨⟨_, _, _, rfl, rfl, rfl, qB, rfl⟩, rfl, trivial⟩ ((by first | exact hR1 | exact hR1.trans hR2)) ?_
   exact ⟨f, fc, by rw [hmb]; rfl, by rw [hmb]; exact hf, qS⟩
  ·try dsimp only at hc1
   have hinf : F t ≠ INF := by rw [← hnt, ← hset]; exact hc1
   refine zK (zL (zU (zG ?_)))
   refine yA ?_
   refine zR 1 rfl (zN ?_)
   refine WE.again (t + 1) (⟨by omega, fun j hj => by
    by_cases e : j = t
    ·subst e; exact hinf
    ·exact hni j (by omega)⟩) (by (try dsimp only); omega) ⟨rfl, rfl, rfl, rfl, rfl, rfl, rfl, rfl, rfl⟩ (RLe.refl _) (by dsimp only [setAll, List.set_cons_zero, List.set_cons_succ]; rw [← hset]; exact qS)
 ·try dsimp only at hc0
  obtain rfl : t = S + P := by omega
  refine zX ?_
  refine wx (wx (zY (zU ?_)))
  rw [partV_all]
  refine W.freeze (enc := encI) (xs := fvals F (S + P)) 0 rfl ?_
  intro R1 hR1 hz
  have hmi := infAt_none (F := F) (n := S + P) hni
  have hlp : 1 ≤ (leastL ((fvals F (S + P)).drop S) I) ∧ (leastL ((fvals F (S + P)).drop S) I) ≤ P := by
   have := leastL_pos (v := (fvals F (S + P)).drop S) (inc := I) (by simp [fvals_len]; omega)
   simp only [List.length_drop, fvals_len] at this
   omega
  have hvb : ∀ x ∈ fvals F (S + P), 0 ≤ x ∧ x ≤ 1000000000000000 := all_of_nth (fun j hj => by
   rw [fvals_len] at hj
   rw [fvals_nth F hj]
   exact (hFb j hj).resolve_left (hni j hj))
  have hvn : ∀ j, j < S + P → 0 ≤ nth (fvals F (S + P)) j ∧ nth (fvals F (S + P)) j ≤ 1000000000000000 := fun j hj => hvb _ (nth_mem (by rw [fvals_len]; exact hj))
  have hIp : 0 ≤ I * ((leastL ((fvals F (S + P)).drop S) I) : Int) ∧ I * ((leastL ((fvals F (S + P)).drop S) I) : Int) ≤ 1000000000000 * 10000 := ⟨Int.mul_nonneg hI.1 (by omega), Int.mul_le_mul hI.2 (by omega) (by omega) (by omega)⟩
  have hIq : 0 ≤ (I * ((leastL ((fvals F (S + P)).drop S) I) : Int) / (P : Int)) ∧ (I * ((leastL ((fvals F (S + P)).drop S) I) : Int) / (P : Int)) ≤ 1000000000000 * 10000 := ⟨Int.ediv_nonneg hIp.1 (by omega), Int.le_trans (Int.ediv_le_self _ hIp.1) hIp.2⟩
  have hfl := fvals_len F (S + P)
  refine zQ (zG (zR 2 rfl ?_))
  refine WG.y rfl rfl qD (Yl.sliceL tab_ok rfl rfl rfl rfl rfl rfl (fun _ => rfl) (by intro _; omega)) ?_
  refine zR 1 rfl ?_
  refine WG.callV en141 rfl rfl (by decide) (CallOp.mk' rfl rfl rfl rfl) (fun _ => rfl) (fun hg => LeastW_V (hz.subL (l := S) (cap := S + P) (by rw [fvals_len]; omega) (by rw [fvals_len]; omega)) (by simp [fvals_len]; omega) (by omega) hI (fun x hx => hvb x (List.mem_of_mem_drop hx))) ?_
  refine zR 1 rfl (zN (zU (zQ (zG (zR 2 rfl ?_)))))
  refine WG.y rfl rfl qD (Yl.mul rfl rfl rfl (fun _ => rfl) qA) ?_
  refine zR 1 rfl ?_
  refine WG.y rfl rfl qD (Yl.quo rfl rfl rfl (fun _ => rfl) qA (by intro _; omega)) ?_
  refine zR 1 rfl (zN (zU (zQ (zB ?_))))
  refine W.loopK (β := Nat) (fun s => s ≤ S ∧ downL (fvals F (S + P)) (leastL ((fvals F (S + P)).drop S) I) (I * (leastL ((fvals F (S + P)).drop S) I : Int) / (P : Int)) s = downL (fvals F (S + P)) (leastL ((fvals F (S + P)).drop S) I) (I * (leastL ((fvals F (S + P)).drop S) I : Int) / (P : Int)) S) (fun s => [(1, true, .int .i64 (s : Int))]) [8, 10, 12, 13] [_, _, _, _] [] _ rfl (fun s => []) (fun s => s) (S) (⟨Nat.le_refl _, rfl⟩) ⟨rfl, rfl, rfl, rfl, rfl, rfl⟩ qS ?_
  intro s hst
  dsimp only [zipE, setAll, List.cons_append, List.nil_append, List.set_cons_zero, List.set_cons_succ] at hst ⊢
  obtain ⟨hs, hd⟩ := hst
  have hs1 : 0 < s → ((s : Int) - 1).toNat = s - 1 := fun _ => by omega
  have hs2 : 0 < s → ((s : Int) - 1 + ((leastL ((fvals F (S + P)).drop S) I) : Int)).toNat = s - 1 + (leastL ((fvals F (S + P)).drop S) I) := fun _ => by omega
  have hb1 : 0 < s → 0 ≤ nth (fvals F (S + P)) ((s : Int) - 1).toNat ∧ nth (fvals F (S + P)) ((s : Int) - 1).toNat ≤ 1000000000000000 := fun h => hvn _ (by omega)
  refine zQ (zQ ?_)
  refine W.regionQ _ mixed qK ?_
  refine zR 3 rfl ?_
  refine yP ?_
  refine yP ?_
  refine WG.y rfl rfl (by decide) (Yl.sub rfl rfl rfl qE (by intro hg; (try simp only [zk] at hg); constructor <;> (try dsimp only) <;> omega)) ?_
  refine WG.y rfl rfl (by decide) (Yl.index tab_ok rfl rfl rfl rfl rfl rfl qE (by intro hg; (try simp only [zk] at hg); constructor <;> (try dsimp only) <;> omega) (by intro hg; (try simp only [zk] at hg); first | exact qI)) ?_
  refine' WG.y rfl rfl qD (Yl.loadG tab_ok rfl rfl rfl qE ?r2 rfl ?h2 ?g2) ?_
  case r2 => ((apply RS.rdC; assumption))
  case h2 => rfl
  case g2 => (intro hg; (try simp only [zk] at hg); (try dsimp only); omega)
  refine yP ?_
  refine WG.y rfl rfl (by decide) (Yl.add rfl rfl rfl qE (by intro hg; (try simp only [zk] at hg); constructor <;> (try dsimp only) <;> omega)) ?_
  refine yP ?_
  refine yP ?_
  refine WG.y rfl rfl (by decide) (Yl.sub rfl rfl rfl qE (by intro hg; (try simp only [zk] at hg); constructor <;> (try dsimp only) <;> omega)) ?_
  refine yP ?_
  refine WG.y rfl rfl (by decide) (Yl.add rfl rfl rfl qE (by intro hg; (try simp only [zk] at hg); constructor <;> (try dsimp only) <;> omega)) ?_
  refine WG.y rfl rfl (by decide) (Yl.index tab_ok rfl rfl rfl rfl rfl rfl qE (by intro hg; (try simp only [zk] at hg); constructor <;> (try dsimp only) <;> omega) (by intro hg; (try simp only [zk] at hg); first | exact qI)) ?_
  refine' WG.y rfl rfl qD (Yl.loadG tab_ok rfl rfl rfl qE ?r3 rfl ?h3 ?g3) ?_
  case r3 => ((apply RS.rdC; assumption))
  case h3 => rfl
  case g3 => (intro hg; (try simp only [zk] at hg); (try dsimp only); omega)
  refine yP ?_
  refine yN ?_
  refine zN (zU ?_)
  refine W.cond rfl (fun hc2 => ?_) (fun hc2 => ?_)
  ·try simp only [zk] at hc2
   obtain ⟨hc3, hc4⟩ := hc2
   rw [hs1 (by omega), hs2 (by omega)] at hc4
   have hdn : downL (fvals F (S + P)) (leastL ((fvals F (S + P)).drop S) I) (I * ((leastL ((fvals F (S + P)).drop S) I) : Int) / (P : Int)) (s - 1) = downL (fvals F (S + P)) (leastL ((fvals F (S + P)).drop S) I) (I * ((leastL ((fvals F (S + P)).drop S) I) : Int) / (P : Int)) s := by
    conv => rhs; rw [show s = (s - 1) + 1 by omega]
    simp only [downL]
    rw [if_pos hc4]
   refine zK (zU (zB (zG (zR 1 rfl ?_))))
   refine yS ?_
   refine zR 1 rfl (zN (zL ?_))
   refine WE.again (s - 1) (⟨by omega, by rw [← hd]; exact hdn⟩) (by (try dsimp only); omega) ⟨vint (by omega), rfl, rfl, rfl, rfl, rfl⟩ (RLe.refl _) qS
  ·try simp only [zk] at hc2
   have hsd : s = downL (fvals F (S + P)) (leastL ((fvals F (S + P)).drop S) I) (I * ((leastL ((fvals F (S + P)).drop S) I) : Int) / (P : Int)) S := by
    rw [← hd]
    by_cases h : 0 < s
    ·have h2 := hc2 (by omega)
     rw [hs1 h, hs2 h] at h2
     obtain ⟨s', rfl⟩ : ∃ m, s = m + 1 := ⟨s - 1, by omega⟩
     simp only [downL]
     rw [if_neg (by simpa using h2)]
    ·obtain rfl : s = 0 := by omega
     rfl
   refine zX ?_
   refine wx (wx (zY (zU (zQ (zQ (zG (zR 3 rfl ?_)))))))
   refine yP ?_
   refine yP ?_
   refine yO ?_
   refine zN (zU ?_)
   refine W.cond rfl (fun hc3 => ?_) (fun hc3 => ?_)
   ·try simp only [zk] at hc3
    have hmb : mbuild F S P I = (zcv, 3) := by
     unfold mbuild finL; rw [if_pos hmi]; dsimp only
     rw [if_pos (by rcases hc3 with h | h; exact .inl (by omega); exact .inr h)]
    refine zQ (zG ?_)
    -- build
    refine WG.y rfl rfl qD (Yl.build (parts := []) tab_ok rfl rfl rfl rfl (fun _ => rfl) rfl rfl) ?_
    refine zE 0 ?_
    refine zR 1 rfl (zN (zU (zT (wt ?_))))
    refine WE.retF tab_ok [_, _] rfl ⟨⟨_, _, _, rfl, rfl, rfl, qB, rfl⟩, rfl, trivial⟩ ((by first | exact hR1 | exact hR1.trans hR2)) ?_
    exact ⟨none, 0, by rw [hmb]; rfl, by rw [hmb]; exact rs_nil, qS⟩
   ·try simp only [zk] at hc3
    have hmb : mbuild F S P I = checkedL ((fvals F (S + P)).take (s + (leastL ((fvals F (S + P)).drop S) I))) (leastL ((fvals F (S + P)).drop S) I) (I * ((leastL ((fvals F (S + P)).drop S) I) : Int) / (P : Int)) := by
     unfold mbuild finL; rw [if_pos hmi]; dsimp only
     rw [if_neg (by rintro (h | h); have := hc3.1; omega; have := hc3.2; unfold MAXV at h; omega), ← hsd]
    refine zK (zU (zQ (zG (zR 3 rfl ?_))))
    refine yA ?_
    refine WG.y rfl rfl qD (Yl.sliceH tab_ok rfl rfl rfl rfl rfl (fun _ => rfl) (by intro _; omega) rfl) ?_
    refine zR 2 rfl ?_
    refine WL.call en142 rfl rfl (by decide) (CallOp.mkT rfl rfl rfl rfl) (Checked_C (by have := hz.take (s + leastL ((fvals F (S + P)).drop S) I); exact this) (by rw [List.length_take, fvals_len]; omega) w0 _) ?_
    rintro _ R2 E2 hR2 ⟨f, fc, rfl, hf, hsub⟩
    refine WL.subE hsub ?_
    unfold cvV
    refine zR 2 rfl ?_
    refine zE 0 ?_
    refine zR 1 rfl (zN (zU (zT ?_)))
    refine WE.retF tab_ok [_, _] rfl ⟨⟨_, _, _, rfl, rfl, rfl, qB, rfl⟩, rfl, trivial⟩ ((by first | exact hR1 | exact hR1.trans hR2)) ?_
    exact ⟨f, fc, by rw [hmb]; rfl, by rw [hmb]; exact hf, qS⟩











theorem RightP_V {R : Ro} {za : Option Addr} {zc : Nat} {z : List Sz} (hzr : RS R 2 encZ za z) : FnV Tryz.prog 143 [.slice za z.length zc] R (.bool (zOk z)) := by
 have hla := hzr.len
 refine Fn.toV (fun w0 E => ?_)
 refine fE 27 Tryz.func143 ?_
 refine zQ (zG (zR 1 rfl (zN (zU (zQ (zQ (zG (zR 3 rfl (zN (zU (zB ?_)))))))))))
 refine W.loopK (β := Nat) (fun i => i ≤ z.length ∧ ∀ j, j < i → 0 ≤ (nth z j).least ∧ (nth z j).least ≤ (nth z j).most ∧ (nth z j).most ≤ 1500) (fun i => [(7, true, .int .i64 (i : Int))]) [5, 6] [_, _] [] _ rfl (fun i => []) (fun i => z.length - i) (0) (⟨Nat.zero_le _, fun j hj => by omega⟩) ⟨rfl, rfl, rfl, rfl⟩ qS ?_
 intro i hst
 dsimp only [zipE, setAll, List.cons_append, List.nil_append, List.set_cons_zero, List.set_cons_succ] at hst ⊢
 
 refine zQ (zG (zR 1 rfl (zN (zU (zQ ?_)))))
 refine W.condD rfl (fun hc0 => ?_) (fun hc0 => ?_)
 ·try dsimp only at hc0
  have hil : i < z.length := by omega
  refine zK (zU (zQ (zB (zQ (zG ?_)))))
  refine WG.y rfl rfl qD (Yl.indexN tab_ok rfl rfl rfl rfl rfl rfl (fun _ => rfl) qN qH) ?_
  refine yR ?_
  refine zA fun b4 => ?_
  refine zE 0 ?_
  refine zN (zU (zQ (zG (zR 1 rfl ?_))))
  refine yL (Rd.add (Rd.blk 0 rfl) _) ?_
  refine zR 2 rfl ?_
  refine yP ?_
  refine yG (Rd.addC (Rd.blkC 0 rfl) _) ?_
  refine yP ?_
  refine yG (Rd.addC (Rd.blkC 0 rfl) _) ?_
  refine yP ?_
  refine yO ?_
  refine zR 1 rfl ?_
  refine yP ?_
  refine yG (Rd.addC (Rd.blkC 0 rfl) _) ?_
  refine yP ?_
  refine yO ?_
  refine zN (zU ?_)
  refine W.cond rfl (fun hc1 => ?_) (fun hc1 => ?_)
  ·try simp only [zk] at hc1
   have hno : zOk z = false := by
    rw [← Bool.not_eq_true]
    intro h
    have := zOk_iff.1 h _ (nth_mem hil)
    omega
   refine zQ (zG (zR 1 rfl (zN (zU (zT (wb (wt (wt (wb (wt ?_))))))))))
   refine sE (E := E) ?_
   refine WE.retF tab_ok [_] rfl ⟨rfl, trivial⟩ (RLe.refl _) ?_
   exact ⟨by rw [hno]; rfl, rfl⟩
  ·try simp only [zk] at hc1
   have hy : 0 ≤ (nth z i).least ∧ (nth z i).least ≤ (nth z i).most ∧ (nth z i).most ≤ 1500 := by omega
   refine zK (zL (zU (zG ?_)))
   refine yA ?_
   refine zR 1 rfl (zN ?_)
   refine WE.again (i + 1) (⟨by omega, fun j hj => by
    by_cases e : j = i
    ·subst e; exact hy
    ·exact hst.2 j (by omega)⟩) (by (try dsimp only); omega) ⟨rfl, rfl, rfl, rfl⟩ (RLe.refl _) qS
 ·try dsimp only at hc0
  refine zX ?_
  refine wx (wx (zY (zU (zQ (zG (zR 1 rfl (zN (zU (zT ?_)))))))))
  refine sE (E := E) ?_
  refine WE.retF tab_ok [_] rfl ⟨rfl, trivial⟩ (RLe.refl _) ?_
  exact ⟨by rw [zOk_iff.2 (all_of_nth (fun j hj => hst.2 j (by omega)))]; rfl, rfl⟩

theorem CheckP_V {R : Ro} {za : Option Addr} {zc : Nat} {z : List Sz} {cap cls : Int} (hzr : RS R 2 encZ za z) : FnV Tryz.prog 83 [.int .i64 cap, .int .i64 cls, .slice za z.length zc] R (.int .i64 (chk18 cap cls z)) := by
 have hla := hzr.len
 refine Fn.toV (fun w0 E => ?_)
 refine fE 38 Tryz.func83 ?_
 refine zQ (zG (zR 1 rfl (zN (zU (zQ (zQ (zG (zR 3 rfl ?_))))))))
 refine yP ?_
 refine yP ?_
 refine yO ?_
 refine zR 1 rfl ?_
 refine yP ?_
 refine yP ?_
 refine yP ?_
 refine yO ?_
 refine zR 1 rfl ?_
 refine yP ?_
 refine yP ?_
 refine yP ?_
 refine yO ?_
 refine zR 1 rfl ?_
 refine yP ?_
 refine WG.callV en143 rfl rfl qD (CallOp.mk' rfl rfl rfl rfl) qE (fun hg => RightP_V hzr) ?_
 refine yP ?_
 refine yO ?_
 refine zR 1 rfl ?_
 refine yP ?_
 refine yP ?_
 refine yO ?_
 refine zR 1 rfl ?_
 refine yP ?_
 refine yP ?_
 refine yP ?_
 refine yP ?_
 refine yO ?_
 refine zN (zU ?_)
 refine W.cond rfl (fun hc0 => ?_) (fun hc0 => ?_)
 ·try simp only [zk] at hc0
  have e : chk18 cap cls z = 2 := if_pos (by
   rcases hc0 with (((((h|h)|h)|h)|h)|h)|h
   ·exact .inl h
   ·exact .inr (.inl h)
   ·exact .inr (.inr (.inl h))
   ·exact .inr (.inr (.inr (.inl h)))
   ·exact .inr (.inr (.inr (.inr (.inl h))))
   ·exact .inr (.inr (.inr (.inr (.inr (.inl h)))))
   ·exact .inr (.inr (.inr (.inr (.inr (.inr h))))))
  refine zQ (zG (zR 1 rfl (zN (zU (zT (wt ?_))))))
  refine sE (E := E) ?_
  refine WE.retF tab_ok [_] rfl ⟨rfl, trivial⟩ (RLe.refl _) ?_
  exact ⟨by rw [e]; rfl, rfl⟩
 ·try simp only [zk] at hc0
  have e : chk18 cap cls z = 0 := if_neg (by
   rintro (h|h|h|h|h|h|h) <;> first | omega | (simp_all; done))
  refine zK (zU (zQ (zG (zR 1 rfl (zN (zU (zT ?_)))))))
  refine sE (E := E) ?_
  refine WE.retF tab_ok [_] rfl ⟨rfl, trivial⟩ (RLe.refl _) ?_
  exact ⟨by rw [e]; rfl, rfl⟩










theorem TimesM_C {R : Ro} {pa wa : Option Addr} {pc wc l : Nat} {ps : List Pkt} {tb : List Int} {cap n ticks : Int} {b2 b3 : Nat} (hp : RS R 3 encP pa ps) (hl : ps.length = l) (hwr : RS R 1 encI wa tb) (h3 : R b3 = some [.slice wa tb.length wc]) (h2 : R b2 = some [.int .i64 cap]) (hl0 : lrunE cap n ticks ps = 0) (ht : 1 ≤ tb.length ∧ tb.length ≤ 40) (w0 : World) (E : List Ent) :
  K.Fn Tryz.prog 191 [.int .i64 cap, .int .i64 n, .slice pa l pc, .int .i64 ticks, .func (.func 247) #[] #[.pointer (some ⟨b3, 0, none⟩), .pointer (some ⟨b2, 0, none⟩)]] w0 R E
   (RunV ((mrun ps (slotCh ps cap tb) cap n.toNat ticks.toNat ()).done, (mrun ps (slotCh ps cap tb) cap n.toNat ticks.toNat ()).sent) E (fun r => r)) := by
 subst hl
 obtain ⟨hok, hvv, hck, c1, c2, c3, c4, c5, c6, hs, hf⟩ := lrunE_ok hl0
 obtain ⟨nt, rfl⟩ := Int.eq_ofNat_of_zero_le c5
 obtain ⟨nc, rfl⟩ := Int.eq_ofNat_of_zero_le (show 0 ≤ n by omega)
 simp only [Int.toNat_natCast]
 have hlw := hwr.len
 have hrun := MRun_C (pc := pc) (g := 247) (first := #[]) (capd := #[.pointer (some ⟨b3, 0, none⟩), .pointer (some ⟨b2, 0, none⟩)]) (ch := slotCh ps cap tb) (good := fun ms _ => goodB ps ms) (classes := nc) (cap := cap) (ticks := nt) (X := fun _ => []) (sg := ()) w0 hp (slot_fair hok.sorted).toGood ⟨by have := hok.len; omega, fun p hp => by have := hs p hp; have := hf p hp; omega⟩ (slot_start _) (by omega) (by omega) (by omega) en247 (fun sb bg ms sg F hgd hbl l1 l2 n1 n2 => Slot1_C w0 hp hbl hok.sorted hwr h3 h2 (by omega) (by omega) (by omega) hgd (by omega) (by omega) F) E
 simp only [List.nil_append] at hrun
 intro x hm
 refine (hrun x hm).mono ?_
 rintro e w' ⟨v, R', E', rfl, hR, hm', rows, gd, go, s, rfl, rfl, rfl, h1, h2, h3, hsub⟩
 have hm1 := hm'.sub (RLe.refl _) hsub
 obtain ⟨R1, g1, g2, g3⟩ := hm1.freeze (i := 0) (enc := encI) (xs := (mrun ps (slotCh ps cap tb) cap nc nt ()).done) rfl
 obtain ⟨R2, k1, k2, k3⟩ := g3.freeze (i := 0) (enc := encS) (xs := rows) rfl
 obtain ⟨R3, j1, j2, j3⟩ := Mem.freezeRows (rows := rows) (G := E) k3
 have hdl := h3.done
 have hlr : rows.length = nc := by rw [← h3.sent, ← h1, List.length_map]
 have hcapp := Mem.rowsCap (rows := rows) (G := E) k3
 refine ⟨_, R3, E, rfl, g1.trans (k1.trans j1), j3, some ⟨gd, 0, none⟩, some ⟨go, 0, none⟩, ps.length, nc, rows, ?_, g2.mono (k1.trans j1), k2.mono j1, j2, h1, hcapp, List.Sublist.refl _⟩
 dsimp only; rw [hdl, hlr]

theorem RunTimes_C {R : Ro} {pa : Option Addr} {pc l : Nat} {ps : List Pkt} (hp : RS R 3 encP pa ps) (hl : ps.length = l) {ticks : Int} {aw at_ : Option Addr} {lw cw lt ct : Nat} {L : Ln} (hw : RS R 1 encI aw L.w) (hlw : L.w.length = lw) (ht : RS R 1 encI at_ L.tb) (hlt : L.tb.length = lt) (hn : 1 ≤ L.n ∧ L.n ≤ 6) (hk : L.kind = 5) (htb : 1 ≤ L.tb.length ∧ L.tb.length ≤ 40) (w0 : World) (E : List Ent) : K.Fn Tryz.prog 239 [.agg #[], .agg #[.int .i64 L.kind, .int .i64 L.cap, .int .i64 L.n, .slice aw lw cw, .slice at_ lt ct], .slice pa l pc, .int .i64 ticks] w0 R E (RunV (runL L ticks ps) E (fun r => .tuple #[r, .int .i64 (runE L ticks ps)])) := by
 subst hl
 subst hlt
 have hla := hp.len
 have e0 : runE L ticks ps = lrunE L.cap L.n ticks ps := by simp [runE, hk]
 refine fE 41 Tryz.func239 ?_
 refine zQ (zG ?_)
 refine zO fun b4 => ?_
 refine zO fun b5 => ?_
 refine zA fun b8 => ?_
 refine zR 1 rfl (zN (zU (zQ (zQ (zG (zR 1 rfl ?_))))))
 refine WG.callV en79 rfl rfl qD (CallOp.mk' rfl rfl rfl rfl) (fun _ => rfl) (fun hg => Validate_V hp) ?_
 refine zR 1 rfl (zN (zU (zQ (zG (zR 2 rfl (zN (zU ?_)))))))
 refine W.condN rfl (fun hc0 => ?_) (fun hc0 => ?_)
 ·try dsimp only at hc0
  have e : runE L ticks ps = validate ps := by rw [e0]; exact if_pos hc0
  have eo : runL L ticks ps = ([], []) := by unfold runL; rw [if_pos (by rw [e]; exact hc0)]
  refine zQ (zG ?_)
  -- build
  refine WG.y rfl rfl qD (Yl.build (parts := []) tab_ok rfl rfl rfl rfl (fun _ => rfl) rfl rfl) ?_
  refine zR 1 rfl ?_
  refine zE 0 ?_
  refine zR 1 rfl (zN (zU (zT (wt ?_))))
  refine WE.retF tab_ok [_, _] rfl ⟨⟨_, _, _, rfl, rfl, rfl, qB, rfl⟩, rfl, trivial⟩ (by first | exact RLe.refl _ | exact hR9) ?_
  rw [eo, e]
  exact ⟨none, none, 0, 0, [], rfl, rs_nil, rs_nil, by simp, rfl, by simp, qS⟩
 ·try dsimp only at hc0
  refine zK (zU (zQ (zQ (zG (zR 1 rfl ?_)))))
  refine yL (Rd.add (Rd.blk 1 rfl) _) ?_
  refine zR 1 rfl ?_
  refine yL (Rd.add (Rd.blk 1 rfl) _) ?_
  refine zR 2 rfl ?_
  refine WG.callV en190 rfl rfl qD (CallOp.mk' rfl rfl rfl rfl) (fun _ => rfl) (fun hg => Check_V hp) ?_
  refine zR 1 rfl (zN (zU (zQ (zG (zR 2 rfl (zN (zU ?_)))))))
  refine W.condN rfl (fun hc1 => ?_) (fun hc1 => ?_)
  ·try dsimp only at hc1
   have e : runE L ticks ps = checkE L.cap L.n ticks ps := by rw [e0]; exact if_neg (fun h => h hc0)
   have eo : runL L ticks ps = ([], []) := by unfold runL; rw [if_pos (by rw [e]; exact hc1)]
   refine zQ (zG ?_)
   -- build
   refine WG.y rfl rfl qD (Yl.build (parts := []) tab_ok rfl rfl rfl rfl (fun _ => rfl) rfl rfl) ?_
   refine zR 1 rfl ?_
   refine zE 0 ?_
   refine zR 1 rfl (zN (zU (zT (wt ?_))))
   refine WE.retF tab_ok [_, _] rfl ⟨⟨_, _, _, rfl, rfl, rfl, qB, rfl⟩, rfl, trivial⟩ (by first | exact RLe.refl _ | exact hR9) ?_
   rw [eo, e]
   exact ⟨none, none, 0, 0, [], rfl, rs_nil, rs_nil, by simp, rfl, by simp, qS⟩
  ·try dsimp only at hc1
   have hl0 : lrunE L.cap L.n ticks ps = 0 := by unfold lrunE; rw [if_neg (fun h => h hc0)]; exact hc1
   have e : runE L ticks ps = 0 := by rw [e0]; exact hl0
   have eo : runL L ticks ps = ((mrun ps (slotCh ps L.cap L.tb) L.cap L.n.toNat ticks.toNat ()).done, (mrun ps (slotCh ps L.cap L.tb) L.cap L.n.toNat ticks.toNat ()).sent) := by unfold runL; rw [if_neg (by omega)]; simp [sendL, hk]
   refine zK (zU (zQ ?_))
   refine W.regionH _ (ES := (.blk b5 [.int .i64 L.kind, .int .i64 L.cap, .int .i64 L.n, .slice aw lw cw, .slice at_ L.tb.length ct] :: E)) mixed ?_
   refine tP 0 ?_
   refine tL 1 (Rd.add (Rd.blk 0 rfl) _) ?_
   refine tP 2 ?_
   refine tL 3 (Rd.add (Rd.blk 0 rfl) _) ?_
   refine tP 4 ?_
   refine tP 5 ?_
   refine tP 6 ?_
   refine tL 7 (Rd.add (Rd.blk 0 rfl) _) ?_
   refine tP 8 ?_
   refine tL 9 (Rd.add (Rd.blk 0 rfl) _) ?_
   refine WA.callG 10 rfl qK en241 rfl (by first | rfl | decide) rfl qD (CallOp.mkT rfl rfl rfl rfl) (SlotsMk_C w0 _) ?_
   rintro _ _ _ - ⟨b2, b3, rfl, rfl, rfl⟩
   refine ⟨qR, qS, ?_⟩
   refine WA.freezeBlk 0 rfl (fun R1 hR1 h3 => ?_)
   refine WA.freezeBlk 0 rfl (fun R2 hR2 h2 => ?_)
   have hR9 := hR1.trans hR2
   refine WA.callG 11 rfl qK en191 rfl (by first | rfl | decide) rfl qD (CallOp.mkT rfl rfl rfl rfl) (TimesM_C (hp.mono hR9) rfl (ht.mono hR9) (hR2 _ _ h3) h2 hl0 htb w0 _) ?_
   rintro _ R3 E3 hR3 ⟨da, oa, dc, oc, rows, rfl, hd, ho, hrw, hrx, hcp, hsub⟩
   have hR9 := hR9.trans hR3
   refine ⟨hR9, (by refine List.Sublist.trans ?_ hsub; (repeat (first | exact List.Sublist.refl _ | exact List.nil_sublist _ | apply List.Sublist.cons_cons | apply List.Sublist.cons)); done), ?_⟩
   refine WA.subE hsub ?_
   rw [← eo] at hd hrx
   rw [← eo]
   refine zCE 12 0 ?_
   refine tP 13 ?_
   refine WA.done qK ?_
   refine zU (zT ?_)
   refine WE.retF tab_ok [_, _] rfl ⟨⟨_, _, _, rfl, rfl, rfl, qB, rfl⟩, rfl, trivial⟩ (by first | exact RLe.refl _ | exact hR9) ?_
   rw [e]
   exact ⟨da, oa, dc, oc, rows, rfl, hd, ho, hrw, hrx, hcp, qS⟩




theorem run_any {R : Ro} {pa : Option Addr} {pc l : Nat} {ps : List Pkt} (hp : RS R 3 encP pa ps) (hl : ps.length = l) {ticks : Int} {aw at_ : Option Addr} {lw cw lt ct : Nat} {L : Ln} (hw : RS R 1 encI aw L.w) (hlw : L.w.length = lw) (ht : RS R 1 encI at_ L.tb) (hlt : L.tb.length = lt) (h0 : chkL L = 0) (w0 : World) (E : List Ent) :
  ∃ (T f : Nat), kindI L.kind = .iface T (.agg #[]) ∧ Meth Tryz.prog T (.agg #[]) "netcalculus/server.run" f [.agg #[.int .i64 L.kind, .int .i64 L.cap, .int .i64 L.n, .slice aw lw cw, .slice at_ lt ct], .slice pa l pc, .int .i64 ticks] ∧ K.Fn Tryz.prog f [.agg #[], .agg #[.int .i64 L.kind, .int .i64 L.cap, .int .i64 L.n, .slice aw lw cw, .slice at_ lt ct], .slice pa l pc, .int .i64 ticks] w0 R E (RunV (runL L ticks ps) E (fun r => .tuple #[r, .int .i64 (runE L ticks ps)])) := by
 have hf := chk_facts h0
 have hn : 1 ≤ L.n ∧ L.n ≤ 6 := ⟨hf.2.2.2.1, hf.2.2.2.2.1⟩
 rcases (show L.kind = 1 ∨ L.kind = 2 ∨ L.kind = 3 ∨ L.kind = 4 ∨ L.kind = 5 by omega) with h | h | h | h | h
 ·exact ⟨_, _, by unfold kindI; rw [h]; rfl, meth_run1 _ _ _, RunFifo_C hp hl hw hlw ht hlt hn h  w0 E⟩
 ·exact ⟨_, _, by unfold kindI; rw [h]; rfl, meth_run2 _ _ _, RunRanks_C hp hl hw hlw ht hlt hn h  w0 E⟩
 ·exact ⟨_, _, by unfold kindI; rw [h]; rfl, meth_run3 _ _ _, RunRobin_C hp hl hw hlw ht hlt hn h (chk_rob h0 h).1 w0 E⟩
 ·exact ⟨_, _, by unfold kindI; rw [h]; rfl, meth_run4 _ _ _, RunDef_C hp hl hw hlw ht hlt hn h (chk_def h0 h).1 w0 E⟩
 ·exact ⟨_, _, by unfold kindI; rw [h]; rfl, meth_run5 _ _ _, RunTimes_C hp hl hw hlw ht hlt hn h (chk_times h0 h).1 w0 E⟩

theorem RunSrv_C {R : Ro} {pa : Option Addr} {pc l : Nat} {ps : List Pkt} (hp : RS R 3 encP pa ps) (hl : ps.length = l) {ticks : Int} {aw at_ : Option Addr} {lw cw lt ct : Nat} {L : Ln} (hw : RS R 1 encI aw L.w) (hlw : L.w.length = lw) (ht : RS R 1 encI at_ L.tb) (hlt : L.tb.length = lt) (w0 : World) (E : List Ent) : K.Fn Tryz.prog 13 [.agg #[.int .i64 L.kind, .int .i64 L.cap, .int .i64 L.n, .slice aw lw cw, .slice at_ lt ct], .slice pa l pc, .int .i64 ticks] w0 R E (RunV (srvL L ticks ps) E (fun r => .tuple #[r, .int .i64 (srvE L ticks ps)])) := by
 refine fE 30 Tryz.func13 ?_
 refine zQ (zG ?_)
 refine zO fun b3 => ?_
 refine zA fun b6 => ?_
 refine zR 1 rfl (zN (zU (zQ (zQ (zG ?_)))))
 refine yL (Rd.blk 1 rfl) ?_
 refine WG.callV en27 rfl rfl qD (CallOp.mk' rfl rfl rfl rfl) (fun _ => rfl) (fun hg => ChkSrv_V hw hlw ht hlt) ?_
 refine zR 1 rfl (zN (zU (zQ (zG (zR 2 rfl (zN (zU ?_)))))))
 refine W.condN rfl (fun hc0 => ?_) (fun hc0 => ?_)
 ·try dsimp only at hc0
  have e : srvE L ticks ps = chkL L := if_pos hc0
  have eo : srvL L ticks ps = ([], []) := if_pos hc0
  refine zQ (zG ?_)
  -- build
  refine WG.y rfl rfl qD (Yl.build (parts := []) tab_ok rfl rfl rfl rfl (fun _ => rfl) rfl rfl) ?_
  refine zR 1 rfl ?_
  refine zE 0 ?_
  refine zR 1 rfl (zN (zU (zT (wt ?_))))
  refine WE.retF tab_ok [_, _] rfl ⟨⟨_, _, _, rfl, rfl, rfl, qB, rfl⟩, rfl, trivial⟩ (by first | exact RLe.refl _ | exact hR2) ?_
  rw [eo, e]
  exact ⟨none, none, 0, 0, [], rfl, rs_nil, rs_nil, by simp, rfl, by simp, qS⟩
 ·try dsimp only at hc0
  have e : srvE L ticks ps = runE L ticks ps := if_neg (fun h => h hc0)
  have eo : srvL L ticks ps = runL L ticks ps := if_neg (fun h => h hc0)
  refine zK (zU (zQ (zG (zR 1 rfl ?_))))
  refine yL (Rd.add (Rd.blk 1 rfl) _) ?_
  refine WG.callV en44 rfl rfl qD (CallOp.mk' rfl rfl rfl rfl) (fun _ => rfl) (fun hg => Kind_V L.kind) ?_
  refine zR 5 rfl (zN (zU ?_))
  obtain ⟨T9, f9, e9, m9, v9⟩ := run_any (R := R) (pc := pc) (lw := lw) (lt := lt) (cw := cw) (ct := ct) (ticks := ticks) hp hl hw hlw ht hlt hc0 w0 (.blk b6 [.slice none 0 0, .slice none 0 0] :: .blk b3 [.int .i64 L.kind, .int .i64 L.cap, .int .i64 L.n, .slice aw lw cw, .slice at_ lt ct] :: E)
  rw [e9]
  refine zQ (zG (zR 1 rfl ?_))
  refine yL (Rd.blk 1 rfl) ?_
  refine zR 2 rfl ?_
  refine WL.callI (args := [.tmp 24, .tmp 25, .tmp 26]) rfl rfl rfl qD rfl rfl (m9) (v9) ?_
  rintro _ R2 E2 hR2 ⟨da, oa, dc, oc, rows, rfl, hd, ho, hrw, hrx, hcp, hsub⟩
  refine WL.subE hsub ?_
  rw [← eo] at hd hrx
  rw [← eo]
  refine zR 2 rfl ?_
  refine zE 0 ?_
  refine zR 1 rfl (zN (zU (zT ?_)))
  refine WE.retF tab_ok [_, _] rfl ⟨⟨_, _, _, rfl, rfl, rfl, qB, rfl⟩, rfl, trivial⟩ (by first | exact RLe.refl _ | exact hR2) ?_
  rw [e]
  exact ⟨da, oa, dc, oc, rows, rfl, hd, ho, hrw, hrx, hcp, qS⟩

end Go.Proofs.YthpblaoehlgpfaaGreat

/- What a curve leaves of a line, plain: the program and the reference make the same. No condition. -/
namespace Go.Proofs.YthpblaoehlgpfaaGreat.M
open Go Go.Proofs.YthpblaoehlgpfaaGreat.K

/-- the greatest of the first so many, and 0 -/
def mostF (f : Nat → Int) : Nat → Int
  | 0 => 0
  | n + 1 => max (mostF f n) (f n)
/-- the greatest from s on -/
def tailF (f : Nat → Int) (s : Nat) : Nat → Int
  | 0 => f s
  | d + 1 => max (tailF f s d) (f (s + (d + 1)))
section
variable {f : Nat → Int} {s P : Nat} {D : Int}
end
/-- the difference -/
def rawL (cap : Int) (b : Cv) (t : Nat) : Int := if isInf b t then 0 else cap * (t : Int) - cvF b t
def restF (cap : Int) (b : Cv) (t : Nat) : Int := mostF (rawL cap b) (t + 1)
def driftL (cap : Int) (b : Cv) : Int := b.per * cap - b.inc
def restC (cap : Int) (g : Cv) : Cv × Int :=
  if validB g = false then (zcv, 1)
  else if finB (normR g) = true ∧ 0 < driftL cap (normR g) then
    (if tailF (rawL cap (normR g)) (stN (normR g)) (400 - stN (normR g)) < mostF (rawL cap (normR g)) (stN (normR g)) then (zcv, 3) else mbuild (restF cap (normR g)) 400 (normR g).per.toNat (driftL cap (normR g)))
  else mbuild (restF cap (normR g)) (stN (normR g) + (normR g).per.toNat) 1 0
/-- what the reference adds in a period -/
def gainL (cap : Int) (b : Cv) : Int := if finB b = true then max 0 (driftL cap b) else 0
def restQ (cap : Int) (g : Cv) : Cv × Int :=
  if restF cap (normR g) (400 + (normR g).per.toNat) ≠ restF cap (normR g) 400 + gainL cap (normR g) then (zcv, 3)
  else madeR ⟨fvals (restF cap (normR g)) (400 + (normR g).per.toNat), (normR g).per, gainL cap (normR g)⟩
section
variable {cap : Int} {b : Cv}
end
/-! ### the line itself; what the walk of Rest keeps -/
def lineC (cap : Int) : Cv := ⟨[0], 1, cap⟩
theorem line_facts {cap : Int} (hc : 0 ≤ cap ∧ cap ≤ 1073741824) : Nrm (lineC cap) ∧ cvF (lineC cap) = (fun t : Nat => cap * (t : Int)) ∧ finB (lineC cap) = true ∧ stN (lineC cap) = 0 := by
 have hfc := fc_line (c := cap) hc
 have e0 : fvals (fun t : Nat => cap * (t : Int)) (0 + 1) = [0] := by simp [fvals]
 have hv := hfc.valid'
 rw [e0] at hv
 have hn : normR ⟨[0], 1, cap⟩ = ⟨[0], 1, cap⟩ := by
  obtain ⟨s, p, q, h1, h2, h3, h4, _, h6⟩ := hfc.norm
  have hp := h2.hP
  obtain rfl : s = 0 := by omega
  obtain rfl : p = 1 := by omega
  rw [e0] at h1
  have hq : q = cap := by rw [h6]; simp
  rw [hq] at h1
  exact h1
 have hcv : cvF ⟨[0], 1, cap⟩ = fun t : Nat => cap * (t : Int) := by
  have := cvF_fc hfc
  rw [e0] at this; exact this
 exact ⟨⟨hv, hn⟩, hcv, rfl, rfl⟩
def tailV (f : Nat → Int) (s t : Nat) : Int := if t ≤ s then -INF else tailF f s (t - 1 - s)
def mostV (f : Nat → Int) (s t : Nat) : Int := mostF f (min t s)
end Go.Proofs.YthpblaoehlgpfaaGreat.M

/- Priorities, plain: the curve of a class. No condition. -/
namespace Go.Proofs.YthpblaoehlgpfaaGreat.M
open Go Go.Proofs.YthpblaoehlgpfaaGreat.K

/-- what may block a class -/
def blkF (cls : Int) (z : List Sz) (i : Nat) : Int := (nth (z.drop (cls + 1).toNat) i).most - 1
def blkN (cls : Int) (z : List Sz) : Int := mostF (blkF cls z) (z.length - (cls + 1).toNat)
def allV (ls : List Cv) : Bool := ls.all fun c => validB c
def midC (tot : Cv × Int) (k : Int) : Cv × Int := if tot.2 = 0 then raiseC tot.1 k else tot
def prioC (cap cls : Int) (ls : List Cv) (z : List Sz) : Cv × Int :=
  if chk18 cap cls z ≠ 0 then (zcv, chk18 cap cls z)
  else if ls.length ≠ z.length then (zcv, 2)
  else if allV ls = false then (zcv, 1)
  else if (midC (totalC (ls.take cls.toNat)) (blkN cls z)).2 ≠ 0 then (zcv, (midC (totalC (ls.take cls.toNat)) (blkN cls z)).2)
  else restC cap (midC (totalC (ls.take cls.toNat)) (blkN cls z)).1
end Go.Proofs.YthpblaoehlgpfaaGreat.M

/- What one valid curve leaves of another one behind a theta, plain: the program and the reference make the same. No condition. -/
namespace Go.Proofs.YthpblaoehlgpfaaGreat.M
open Go Go.Proofs.YthpblaoehlgpfaaGreat.K

/-- the least of n values from a place on, as the program looks for it -/
def leastG (f : Nat → Int) (a : Nat) : Nat → Int
  | 0 => 4611686018427387904
  | n + 1 => min (leastG f a n) (f (a + n))
/-- the least from s to s + d -/
def minF (f : Nat → Int) (s : Nat) : Nat → Int
  | 0 => f s
  | d + 1 => min (minF f s d) (f (s + (d + 1)))
section
variable {f : Nat → Int} {s a : Nat} {D : Int}
end
/-! ### the differences -/
def rawG (b o : Cv) (th u : Nat) : Int := if isInf o (u - th) then 0 else if isInf b u then INF else cvF b u - cvF o (u - th)
def driftG (b o : Cv) : Int := gainC b (lcmC b o) - gainC o (lcmC b o)
def frG (b o : Cv) (th : Nat) : Nat := max (max (stN b) (stN o + th)) (th + 1)
def hG (b o : Cv) (th u : Nat) : Int := if u ≤ th then 0 else max 0 (minF (rawG b o th) u (max (frG b o th) u - u + (lcmC b o - 1)))
section
variable {b o : Cv} {th : Nat}
theorem lcm_pos (hb : validB b = true) (ho : validB o = true) : 0 < lcmC b o := by
 obtain ⟨_, _, _, q1, _⟩ := valid_range hb
 obtain ⟨_, _, _, q2, _⟩ := valid_range ho
 exact (lcm_mod (by omega) (by omega)).2.2
theorem gain_grows (hb : validB b = true) (fb : finB b = true) {L : Nat} (hL : L % b.per.toNat = 0) : Grows (cvF b) (stN b) L (gainC b L) := by
 rcases valid_cases hb with ⟨S1, P1, _, l1, p1, fc1, _⟩ | ⟨_, _, _, _, _, _, _, f⟩
 ·have hP1 := fc1.hP
  have hs : stN b = S1 := by unfold stN; rw [l1, p1, Int.toNat_natCast]; omega
  rw [p1, Int.toNat_natCast] at hL
  unfold gainC
  rw [hs, p1]
  exact grows_gain (by omega) fc1.hg hL
 ·rw [fb] at f; cases f
/-- the differences do not fall over a common period -/
def UpG (b o : Cv) : Prop := finB o = true ∧ (finB b = true → 0 ≤ driftG b o)
/-! ### what Rest makes -/
def flatB (b o : Cv) (th : Nat) : Prop := finB o = false ∨ (finB b = true ∧ (driftG b o < 0 ∨ (driftG b o = 0 ∧ minF (rawG b o th) (frG b o th) (lcmC b o - 1) ≤ 0)))
instance (b o : Cv) (th : Nat) : Decidable (flatB b o th) := by unfold flatB; infer_instance
def shareN (b o : Cv) (th : Nat) : Cv × Int :=
  if 120 < lcmC b o then (zcv, 3)
  else if flatB b o th then (zeroC, 0)
  else if 400 ≤ th then (zcv, 3)
  else if finB b = true ∧ 0 < driftG b o then
    (if minF (rawG b o th) (max (frG b o th) 400) (lcmC b o - 1) < 0 then (zcv, 3) else mbuild (hG b o th) (max (frG b o th) 400) (lcmC b o) (driftG b o))
  else mbuild (hG b o th) (frG b o th) 1 0
/-! ### what the reference makes -/
def leftG (b o : Cv) (th u : Nat) : Int := if u ≤ th then 0 else max 0 (rawG b o th u)
def bothB (b o : Cv) : Prop := finB b = true ∧ finB o = true
instance (b o : Cv) : Decidable (bothB b o) := by unfold bothB; infer_instance
def flatQ (b o : Cv) (th : Nat) : Prop := (bothB b o ∧ driftG b o < 0) ∨ finB o = false ∨ (bothB b o ∧ driftG b o = 0 ∧ minF (leftG b o th) (th + 400) (lcmC b o - 1) = 0)
instance (b o : Cv) (th : Nat) : Decidable (flatQ b o th) := by unfold flatQ; infer_instance
def incQ (b o : Cv) : Int := if bothB b o then driftG b o else 0
def shareQ (b o : Cv) (th : Nat) : Cv × Int :=
  if 120 < lcmC b o then (zcv, 3)
  else if flatQ b o th then (zeroC, 0)
  else if 400 ≤ th then (zcv, 3)
  else if bothB b o ∧ 0 < driftG b o ∧ minF (rawG b o th) (th + 400) (lcmC b o - 1) < 0 then (zcv, 3)
  else madeR ⟨fvals (hG b o th) (th + 400 + lcmC b o), lcmC b o, incQ b o⟩
end
end Go.Proofs.YthpblaoehlgpfaaGreat.M

/- Delays and backlogs of any two valid curves, plain: the program and the reference find the same. No condition. -/
namespace Go.Proofs.YthpblaoehlgpfaaGreat.M
open Go Go.Proofs.YthpblaoehlgpfaaGreat.K

/-- the least tick with so much, as the program looks for it -/
def reachG (c : Cv) (v : Int) : Int × Bool :=
  if findFrom (fun t => decide (cvF c t ≥ v)) c.vals.length 0 ≠ -1 then (findFrom (fun t => decide (cvF c t ≥ v)) c.vals.length 0, true)
  else if v = INF ∨ c.inc = 0 then (0, false)
  else (findFrom (fun t => decide (cvF c t ≥ v)) (c.per.toNat + 1) (c.vals.length + (((v - cvF c (c.vals.length - 1) + c.inc - 1) / c.inc).toNat - 1) * c.per.toNat), true)
structure IsFirst (F : Nat → Int) (v : Int) (r : Int × Bool) : Prop where
  yes : r.2 = true → ∃ t : Nat, r.1 = t ∧ v ≤ F t ∧ ∀ j, j < t → F j < v
  no : r.2 = false → r.1 = 0 ∧ ∀ t, F t < v
theorem reachG_F {c : Cv} {S P : Nat} (hl : c.vals.length = S + P) (hp : c.per = P) {v : Int} (hv : v ≠ INF) : reachG c v = reachF (cvF c) S P c.inc v := by
 have e : (v = INF ∨ c.inc = 0) ↔ c.inc = 0 := ⟨fun h => h.resolve_left hv, .inr⟩
 unfold reachG reachF
 rw [hl, hp, Int.toNat_natCast]
 simp only [e]
theorem reachG_inf {c : Cv} (hv : validB c = true) (hf : finB c = false) {v : Int} (h : v ≤ INF) : IsFirst (cvF c) v (reachG c v) ∧ (reachG c v).2 = true ∧ (reachG c v).1 ≤ stN c := by
 obtain ⟨n, h1, h2, h3⟩ := inf_at hv hf
 have hs := stN_lt hv
 unfold reachG
 rcases findFrom_cases (fun t => decide (cvF c t ≥ v)) c.vals.length 0 with ⟨i, k1, k2, k3, k4, k5⟩ | ⟨k1, k2⟩
 ·have hin : i ≤ n := by
   apply Classical.byContradiction
   intro hh
   have := of_decide_eq_false (k5 n (Nat.zero_le _) (by omega))
   rw [h3.hi n (Nat.le_refl _)] at this
   omega
  rw [k3, if_pos (by omega)]
  exact ⟨⟨fun _ => ⟨i, rfl, of_decide_eq_true k4, fun j hj => by have := of_decide_eq_false (k5 j (Nat.zero_le _) hj); omega⟩, fun hh => by cases hh⟩, rfl, by dsimp only; omega⟩
 ·have := of_decide_eq_false (k2 n (Nat.zero_le _) (by omega))
  rw [h3.hi n (Nat.le_refl _)] at this
  omega
theorem reachG_none {c : Cv} (hv : validB c = true) (hf : finB c = true) : reachG c INF = (0, false) := by
 rcases valid_cases hv with ⟨S, P, _, hl, hp, hfc, _⟩ | ⟨_, _, _, _, _, _, _, f⟩
 ·unfold reachG
  rw [show findFrom (fun t => decide (cvF c t ≥ INF)) c.vals.length 0 = -1 from findFrom_none (fun j _ hj => decide_eq_false (by have := hfc.hb j (by omega); unfold INF; omega)), if_neg (fun hh => hh rfl), if_pos (.inl rfl)]
 ·rw [hf] at f; cases f
theorem reachG_bound {c : Cv} (hv : validB c = true) {v : Int} (h : v = INF ∨ (0 ≤ v ∧ v ≤ 1000000000000000)) : -1 ≤ (reachG c v).1 ∧ (reachG c v).1 ≤ 200000000000000000 := by
 cases hf : finB c with
 | false =>
  obtain ⟨h1, h2, h3⟩ := reachG_inf hv hf (v := v) (by unfold INF at *; omega)
  obtain ⟨t, e, _⟩ := h1.yes h2
  have := stN_lt hv
  omega
 | true =>
  rcases h with rfl | h
  ·rw [reachG_none hv hf]; decide
  ·rcases valid_cases hv with ⟨S, P, _, hl, hp, hfc, _⟩ | ⟨_, _, _, _, _, _, _, f⟩
   ·rw [reachG_F hl hp (by unfold INF; omega)]
    exact reach_bound hfc h
   ·rw [hf] at f; cases f
/-! ### the greatest distance -/
/-! ### delays, backlogs -/
def loose (a b : Cv) : Prop := finB b = true ∧ (finB a = false ∨ gainC b (lcmC a b) < gainC a (lcmC a b))
instance (a b : Cv) : Decidable (loose a b) := by unfold loose; infer_instance
def fastQ (a b : Cv) : Prop := finB a = true ∧ finB b = true ∧ 0 < gainC a (lcmC a b) - gainC b (lcmC a b)
instance (a b : Cv) : Decidable (fastQ a b) := by unfold fastQ; infer_instance
def gapD (a b : Cv) (t : Nat) : Int × Bool := ((reachG b (cvF a t)).1 - t, (reachG b (cvF a t)).2)
def gapA (a b : Cv) (d t : Nat) : Int × Bool := if isInf b t then (0, true) else (cvF a (t + d) - cvF b t, !decide (isInf a (t + d)))
def devN (a b : Cv) (f : Nat → Int × Bool) : (Bool × Int × Int) × Int :=
  if 120 < lcmC a b then ((false, 0, 0), 3) else if loose a b then ((true, 0, 0), 0) else (greatW f (max (stN a) (stN b) + lcmC a b) 0 0 0, 0)
def devQ (a b : Cv) (f : Nat → Int × Bool) : (Bool × Int × Int) × Int :=
  if 120 < lcmC a b then ((false, 0, 0), 3) else if fastQ a b then ((true, 0, 0), 0) else (greatW f (max a.vals.length b.vals.length + lcmC a b) 0 0 0, 0)
section
variable {a b : Cv}
theorem gains (ha : validB a = true) (hb : validB b = true) (fa : finB a = true) (fb : finB b = true) : Grows (cvF a) (stN a) (lcmC a b) (gainC a (lcmC a b)) ∧ Grows (cvF b) (stN b) (lcmC a b) (gainC b (lcmC a b)) := by
 obtain ⟨_, _, _, q1, _⟩ := valid_range ha
 obtain ⟨_, _, _, q2, _⟩ := valid_range hb
 obtain ⟨m1, m2, _⟩ := lcm_mod (a := a.per.toNat) (b := b.per.toNat) (by omega) (by omega)
 exact ⟨gain_grows ha fa m1, gain_grows hb fb m2⟩
theorem cvF_low15 (ha : validB a = true) {u : Nat} (hu : u ≤ 100000) : cvF a u = INF ∨ (0 ≤ cvF a u ∧ cvF a u ≤ 1000000000000000) := by
 have := cvF_bound ha u
 rcases this.2 with h | h
 ·exact .inl h
 ·right; omega
end
end Go.Proofs.YthpblaoehlgpfaaGreat.M

/- Lines with any of the schedulers, plain: their curves and delays. No condition. -/
namespace Go.Proofs.YthpblaoehlgpfaaGreat.M
open Go Go.Proofs.YthpblaoehlgpfaaGreat.K
def delayC (a b : Cv) : (Bool × Int × Int) × Int := devN (normR a) (normR b) (gapD (normR a) (normR b))
def waitL (v : Int) : List Int := (List.replicate (v + 2).toNat 0).set (v + 1).toNat INF
def waitC (v : Int) : Cv × Int := if v < 0 then (zcv, 2) else if 398 < v then (zcv, 3) else (⟨waitL v, 1, 0⟩, 0)
def allC (cap : Int) (ls : List Cv) : (Bool × Int × Int) × Int := if (totalC ls).2 ≠ 0 then ((false, 0, 0), (totalC ls).2) else delayC (totalC ls).1 (lineC cap)
def fifoC (cap : Int) (ls : List Cv) : Cv × Int := if (allC cap ls).2 ≠ 0 then (zcv, (allC cap ls).2) else if (allC cap ls).1.1 = true then (zcv, 5) else waitC (allC cap ls).1.2.1
def argE (L : Ln) (cls : Int) (ls : List Cv) (z : List Sz) : Int :=
  if chkL L ≠ 0 then chkL L else if cls < 0 ∨ L.n ≤ cls ∨ (ls.length : Int) ≠ L.n ∨ (z.length : Int) ≠ L.n then 2 else if chk18 L.cap cls z ≠ 0 then chk18 L.cap cls z else if ls.all validB = true then 0 else 1
def schedC (L : Ln) (cls : Int) (ls : List Cv) (z : List Sz) : Cv × Int :=
  if L.kind = 1 then fifoC L.cap ls else if L.kind = 2 then prioC L.cap cls ls z else if L.kind = 3 then robinC L.cap cls L.w z else if L.kind = 4 then defC L.cap cls L.w z else slotC L.cap cls L.tb z
def curveL (L : Ln) (cls : Int) (ls : List Cv) (z : List Sz) : Cv × Int := if argE L cls ls z ≠ 0 then (zcv, argE L cls ls z) else schedC L cls ls z
def devV (x : (Bool × Int × Int) × Int) : Value := .tuple #[.agg #[.bool x.1.1, .int .i64 x.1.2.1, .int .i64 x.1.2.2], .int .i64 x.2]
theorem total_valid {ls : List Cv} (h : ∀ c ∈ ls, validB c = true) (h0 : (totalC ls).2 = 0) : validB (totalC ls).1 = true := by
 rcases total_res ls zeroC zero_nrm.valid zero_nrm h with e | ⟨c, e, h2, _⟩
 ·rw [show totalC ls = (zcv, 3) from e] at h0; cases h0
 ·rw [show totalC ls = (c, 0) from e]; exact h2.valid
end Go.Proofs.YthpblaoehlgpfaaGreat.M

/- Finite curves: values, gains, validity. No condition. -/
set_option maxRecDepth 4000
set_option linter.unusedSimpArgs false
set_option linter.unusedVariables false
namespace Go.Proofs.YthpblaoehlgpfaaGreat
open Go Go.RowKit Go.Proofs.YthpblaoehlgpfaaGreat.K Go.Proofs.YthpblaoehlgpfaaGreat.M

theorem WAt_V {R : Ro} {fa : Option Addr} {fc : Nat} {F : Nat → Int} {S P : Nat} {I : Int} (hf : FC F S P I) (ha : RS R 1 encI fa (fvals F (S + P))) {t : Nat} (ht : t ≤ 1000000000000000000) (hG : F t ≤ 4000000000000000000) : FnV Tryz.prog 90 [.agg #[.slice fa (fvals F (S + P)).length fc, .int .i64 (P : Int), .int .i64 I], .int .i64 (t : Int)] R (.int .i64 (F t)) := by
 have hfl := fvals_len F (S + P)
 have hP := hf.hP
 have hn := hf.hn
 have hI := hf.hI
 refine Fn.toV (fun w0 E => ?_)
 refine fE 45 Tryz.func90 ?_
 refine zQ (zG ?_)
 refine zO fun b2 => ?_
 refine zR 1 rfl (zN (zU (zQ (zG (zR 1 rfl ?_)))))
 refine yL (Rd.add (Rd.blk 0 rfl) _) ?_
 refine zR 2 rfl (zN (zU (zQ (zQ (zG (zR 3 rfl (zN (zU ?_))))))))
 refine W.condD rfl (fun hc0 => ?_) (fun hc0 => ?_)
 ·try dsimp only at hc0
  have htl : t < S + P := by omega
  refine zQ (zG (zR 1 rfl ?_))
  refine yL (Rd.add (Rd.blk 0 rfl) _) ?_
  refine zR 1 rfl ?_
  refine WG.y rfl rfl qD (Yl.indexN tab_ok rfl rfl rfl rfl rfl rfl (fun _ => rfl) qN qH) ?_
  refine yR ?_
  refine zR 1 rfl (zN (zU (zT (wt ?_))))
  refine sE (E := E) ?_
  refine WE.retF tab_ok [_] rfl ⟨rfl, trivial⟩ (RLe.refl _) ?_
  exact ⟨by rw [fvals_nth F htl]; rfl, rfl⟩
 ·try dsimp only at hc0
  obtain ⟨q, hq⟩ := Int.eq_ofNat_of_zero_le (show 0 ≤ ((t : Int) - ((fvals F (S + P)).length : Int)) / (P : Int) from Int.ediv_nonneg (by omega) (by omega))
  have hq1 : (q : Int) * P ≤ (t : Int) - (S + P : Nat) := by rw [← hfl, ← hq]; exact Int.ediv_mul_le _ (by omega)
  have hq2 : (t : Int) - (S + P : Nat) < P * (q : Int) + P := by rw [← hfl, ← hq]; exact Int.lt_mul_ediv_self_add (by omega)
  rw [Int.mul_comm] at hq2
  have hq3 : (q + 1) * P = q * P + P := by rw [Nat.add_mul]; omega
  have hq4 : ((q * P : Nat) : Int) = (q : Int) * P := by rw [Int.natCast_mul]
  have hq5 : ((q : Int) + 1) * (P : Int) = (((q + 1) * P : Nat) : Int) := by rw [Int.natCast_mul]; rfl
  have hqle : q ≤ t := Nat.le_trans (Nat.le_mul_of_pos_right q (show 0 < P by omega)) (by omega)
  have hgm := hf.hg.mul (q + 1) (t - (q + 1) * P) (by omega)
  rw [show t - (q + 1) * P + (q + 1) * P = t by omega, show ((q + 1 : Nat) : Int) = (q : Int) + 1 from rfl] at hgm
  have hF0 := hf.nonneg (t - (q + 1) * P)
  have hF1 := hf.fin (t := t - (q + 1) * P) (by omega)
  have hqI : 0 ≤ ((q : Int) + 1) * I := Int.mul_nonneg (by omega) (by omega)
  refine zK (zU (zQ (zG (zR 2 rfl ?_))))
  refine yS ?_
  refine zR 1 rfl ?_
  refine yL (Rd.add (Rd.blk 0 rfl) _) ?_
  refine WG.y rfl rfl qD (Yl.quo rfl rfl rfl (fun _ => rfl) qA (by intro _; omega)) ?_
  refine yA ?_
  refine zR 1 rfl (zN (zU ?_))
  rw [hq]
  refine zQ (zG (zR 1 rfl ?_))
  refine yL (Rd.add (Rd.blk 0 rfl) _) ?_
  refine zR 3 rfl ?_
  refine yL (Rd.add (Rd.blk 0 rfl) _) ?_
  refine WG.y rfl rfl qD (Yl.mul rfl rfl rfl (fun _ => rfl) qA) ?_
  refine yS ?_
  rw [hq5, show (t : Int) - (((q + 1) * P : Nat) : Int) = ((t - (q + 1) * P : Nat) : Int) by omega]
  refine WG.y rfl rfl qD (Yl.indexN tab_ok rfl rfl rfl rfl rfl rfl (fun _ => rfl) qN qH) ?_
  refine yR ?_
  refine zR 1 rfl (zN (zU (zQ ?_)))
  rw [fvals_nth F (show t - (q + 1) * P < S + P by omega)]
  refine zQ (zG (zR 2 rfl (zN (zU ?_))))
  refine W.condE rfl (fun hc1 => ?_) (fun hc1 => ?_)
  ·try dsimp only at hc1
   exact absurd hc1 hF1
  ·try dsimp only at hc1
   refine zK (zU (zQ (zG (zR 3 rfl ?_))))
   refine yL (Rd.add (Rd.blk 0 rfl) _) ?_
   refine WG.y rfl rfl qD (Yl.mul rfl rfl rfl (fun _ => rfl) qA) ?_
   refine yA ?_
   refine zR 1 rfl (zN (zU (zT ?_)))
   refine sE (E := E) ?_
   refine WE.retF tab_ok [_] rfl ⟨rfl, trivial⟩ (RLe.refl _) ?_
   exact ⟨by rw [hgm]; rfl, rfl⟩



theorem CloneI_C {R : Ro} {fa : Option Addr} {fc : Nat} {xs : List Int} (ha : RS R 1 encI fa xs) (hx : 0 < xs.length) (hl : xs.length ≤ 100000) (w0 : World) (E : List Ent) : K.Fn Tryz.prog 161 [.slice fa xs.length fc] w0 R E (fun v R' E' => ∃ (a2 : Option Addr) (c2 : Nat), v = .slice a2 xs.length c2 ∧ R = R' ∧ (.sl 3 1 a2 c2 (xs.map encI) :: E).Sublist E') := by
 have hns := ha.some hx
 refine fE 8 Tryz.func161 ?_
 refine zQ (zG (zR 1 rfl (zN (zU (zQ (zQ (zG (zR 1 rfl ?_))))))))
 refine WG.y rfl rfl qD (Yl.eqNilS Tryz.underlying22 rfl rfl rfl (fun _ => rfl)) ?_
 refine zN (zU ?_)
 refine W.cond rfl (fun hc0 => ?_) (fun hc0 => ?_)
 ·try simp only [zk] at hc0
  rw [hns] at hc0; cases hc0
 ·try simp only [zk] at hc0
  refine zK (zU (zQ (zG ?_)))
  refine WL.ef rfl rfl qD (Ef.buildSliceD (enc := encI) (parts := []) [] tab_ok rfl rfl rfl rfl rfl rfl rfl rfl qD qD (fun a5 => ?_))
  refine zR 1 rfl ?_
  refine WL.ef rfl rfl qD (Ef.cloneL (enc := encI) 0 tab_ok rfl rfl rfl rfl rfl rfl rfl rfl rfl rfl ha (fun _ _ => rfl) (by dsimp only; omega) qO (fun a7 c7 ha7 => ?_))
  refine zR 1 rfl (zN (zU (zT ?_)))
  refine WE.retF tab_ok [_] rfl ⟨rfl, trivial⟩ (RLe.refl _) ?_
  exact ⟨_, _, rfl, rfl, qS⟩



theorem WAtG_V {R : Ro} {fa : Option Addr} {fc : Nat} {c : Cv} (hv : validB c = true) (ha : RS R 1 encI fa c.vals) {t : Nat} (ht : t ≤ 1000000000) : FnV Tryz.prog 90 [.agg #[.slice fa c.vals.length fc, .int .i64 c.per, .int .i64 c.inc], .int .i64 (t : Int)] R (.int .i64 (cvF c t)) := by
 refine Fn.toV (fun w0 E => ?_)
 obtain ⟨hr1, hr2, hr3, hr4, hr5, hr6, hr7, hr8⟩ := valid_range hv
 refine fE 45 Tryz.func90 ?_
 refine zQ (zG ?_)
 refine zO fun b2 => ?_
 refine zR 1 rfl (zN (zU (zQ (zG (zR 1 rfl ?_)))))
 refine yL (Rd.add (Rd.blk 0 rfl) _) ?_
 refine zR 2 rfl (zN (zU (zQ (zQ (zG (zR 3 rfl (zN (zU ?_))))))))
 refine W.condD rfl (fun hc0 => ?_) (fun hc0 => ?_)
 ·try dsimp only at hc0
  have htl : t < c.vals.length := by omega
  refine zQ (zG (zR 1 rfl ?_))
  refine yL (Rd.add (Rd.blk 0 rfl) _) ?_
  refine zR 1 rfl ?_
  refine WG.y rfl rfl qD (Yl.indexN tab_ok rfl rfl rfl rfl rfl rfl (fun _ => rfl) qN qH) ?_
  refine yR ?_
  refine zR 1 rfl (zN (zU (zT (wt ?_))))
  refine sE (E := E) ?_
  refine WE.retF tab_ok [_] rfl ⟨rfl, trivial⟩ (RLe.refl _) ?_
  exact ⟨by rw [cvF_low htl]; rfl, rfl⟩
 ·try dsimp only at hc0
  obtain ⟨P, hP⟩ := Int.eq_ofNat_of_zero_le (show 0 ≤ c.per by omega)
  have hPn : 1 ≤ P ∧ P ≤ c.vals.length := by omega
  obtain ⟨j1, j2, j3⟩ := cvJ_at hPn (show c.vals.length ≤ t by omega)
  have hcv := cvF_high hP hPn (show c.vals.length ≤ t by omega)
  generalize hq : (t - c.vals.length) / P = q at j3 hcv
  have hq1 : ((t : Int) - (c.vals.length : Int)) / c.per = (q : Int) := by rw [hP, show (t : Int) - (c.vals.length : Int) = ((t - c.vals.length : Nat) : Int) by omega, ← hq]; rfl
  have hq5 : ((q : Int) + 1) * c.per = (((q + 1) * P : Nat) : Int) := by rw [hP, Int.natCast_mul]; rfl
  have hj : (t : Int) - (((q + 1) * P : Nat) : Int) = (cvJ c.vals.length P t : Int) := by omega
  have hqt : q + 1 ≤ t := Nat.le_trans (Nat.le_mul_of_pos_right (q + 1) (show 0 < P by omega)) (by omega)
  have hve := valid_each hv _ j2
  have hqI := mulB (a := (q : Int) + 1) (b := c.inc) (A := 1000000000) (B := 1073741824) (by omega) (by omega)
  refine zK (zU (zQ (zG (zR 2 rfl ?_))))
  refine yS ?_
  refine zR 1 rfl ?_
  refine yL (Rd.add (Rd.blk 0 rfl) _) ?_
  refine WG.y rfl rfl qD (Yl.quo rfl rfl rfl (fun _ => rfl) qA (by intro _; omega)) ?_
  refine yA ?_
  refine zR 1 rfl (zN (zU ?_))
  rw [hq1]
  refine zQ (zG (zR 1 rfl ?_))
  refine yL (Rd.add (Rd.blk 0 rfl) _) ?_
  refine zR 3 rfl ?_
  refine yL (Rd.add (Rd.blk 0 rfl) _) ?_
  refine WG.y rfl rfl qD (Yl.mul rfl rfl rfl (fun _ => rfl) qA) ?_
  refine yS ?_
  rw [hq5, hj]
  refine WG.y rfl rfl qD (Yl.indexN tab_ok rfl rfl rfl rfl rfl rfl (fun _ => rfl) qN qH) ?_
  refine yR ?_
  refine zR 1 rfl (zN (zU (zQ (zQ (zG (zR 2 rfl (zN (zU ?_))))))))
  refine W.condE rfl (fun hc1 => ?_) (fun hc1 => ?_)
  ·try dsimp only at hc1
   have hcv : cvF c t = 4611686018427387904 := by rw [hcv, if_pos (show _ = INF from hc1)]; rfl
   refine zQ (zG (zR 2 rfl (zN (zU (zT (wt ?_))))))
   refine sE (E := E) ?_
   refine WE.retF tab_ok [_] rfl ⟨rfl, trivial⟩ (RLe.refl _) ?_
   exact ⟨by rw [hcv, hc1]; rfl, rfl⟩
  ·try dsimp only at hc1
   have hvm := hve.resolve_left hc1
   unfold MAXV at hvm
   rw [if_neg (show ¬ _ = INF from hc1), show ((q + 1 : Nat) : Int) = (q : Int) + 1 from rfl] at hcv
   refine zK (zU (zQ (zG (zR 3 rfl ?_))))
   refine yL (Rd.add (Rd.blk 0 rfl) _) ?_
   refine WG.y rfl rfl qD (Yl.mul rfl rfl rfl (fun _ => rfl) qA) ?_
   refine yA ?_
   refine zR 1 rfl (zN (zU (zT ?_)))
   refine sE (E := E) ?_
   refine WE.retF tab_ok [_] rfl ⟨rfl, trivial⟩ (RLe.refl _) ?_
   exact ⟨by rw [hcv]; rfl, rfl⟩

theorem WFiniteG_V {R : Ro} {fa : Option Addr} {fc : Nat} {c : Cv} (hv : validB c = true) (ha : RS R 1 encI fa c.vals) : FnV Tryz.prog 147 [.agg #[.slice fa c.vals.length fc, .int .i64 c.per, .int .i64 c.inc]] R (.bool (finB c)) := by
 refine Fn.toV (fun w0 E => ?_)
 obtain ⟨hr1, hr2, hr3, hr4, hr5, hr6, hr7, hr8⟩ := valid_range hv
 have hl : ((c.vals.length : Int) - 1).toNat = c.vals.length - 1 := by omega
 refine fE 12 Tryz.func147 ?_
 refine zQ (zG ?_)
 refine zO fun b1 => ?_
 refine zR 1 rfl (zN (zU (zQ (zG (zR 1 rfl ?_)))))
 refine yL (Rd.add (Rd.blk 0 rfl) _) ?_
 refine zR 1 rfl ?_
 refine yL (Rd.add (Rd.blk 0 rfl) _) ?_
 refine zR 1 rfl ?_
 refine yS ?_
 refine WG.y rfl rfl qD (Yl.index tab_ok rfl rfl rfl rfl rfl rfl (fun _ => rfl) qA qH) ?_
 refine yR ?_
 refine zR 2 rfl (zN (zU (zT ?_)))
 refine sE (E := E) ?_
 refine WE.retF tab_ok [_] rfl ⟨rfl, trivial⟩ (RLe.refl _) ?_
 exact ⟨by rw [hl]; rfl, rfl⟩

theorem WStartG_V {R : Ro} {fa : Option Addr} {fc : Nat} {c : Cv} (hv : validB c = true) (ha : RS R 1 encI fa c.vals) : FnV Tryz.prog 146 [.agg #[.slice fa c.vals.length fc, .int .i64 c.per, .int .i64 c.inc]] R (.int .i64 (stN c : Int)) := by
 refine Fn.toV (fun w0 E => ?_)
 obtain ⟨hr1, hr2, hr3, hr4, hr5, hr6, hr7, hr8⟩ := valid_range hv
 have hl : (c.vals.length : Int) - c.per = (stN c : Int) := by unfold stN; omega
 refine fE 9 Tryz.func146 ?_
 refine zQ (zG ?_)
 refine zO fun b1 => ?_
 refine zR 1 rfl (zN (zU (zQ (zG (zR 1 rfl ?_)))))
 refine yL (Rd.add (Rd.blk 0 rfl) _) ?_
 refine zR 2 rfl ?_
 refine yL (Rd.add (Rd.blk 0 rfl) _) ?_
 refine yS ?_
 refine zR 1 rfl (zN (zU (zT ?_)))
 refine sE (E := E) ?_
 refine WE.retF tab_ok [_] rfl ⟨rfl, trivial⟩ (RLe.refl _) ?_
 exact ⟨by rw [hl]; rfl, rfl⟩

theorem WGainG_V {R : Ro} {fa : Option Addr} {fc : Nat} {c : Cv} (hv : validB c = true) (ha : RS R 1 encI fa c.vals) {L : Nat} (hL : L ≤ 100000) : FnV Tryz.prog 148 [.agg #[.slice fa c.vals.length fc, .int .i64 c.per, .int .i64 c.inc], .int .i64 (L : Int)] R (.int .i64 (gainC c L)) := by
 refine Fn.toV (fun w0 E => ?_)
 obtain ⟨hr1, hr2, hr3, hr4, hr5, hr6, hr7, hr8⟩ := valid_range hv
 have hd0 : 0 ≤ (L : Int) / c.per := Int.ediv_nonneg (by omega) (by omega)
 have hd1 : (L : Int) / c.per ≤ L := Int.ediv_le_self _ (by omega)
 have hd2 := mulB (a := (L : Int) / c.per) (b := c.inc) (A := 100000) (B := 1073741824) (by omega) (by omega)
 refine fE 12 Tryz.func148 ?_
 refine zQ (zG ?_)
 refine zO fun b2 => ?_
 refine zR 1 rfl (zN (zU (zQ ?_)))
 refine W.regionQ _ mixed qK ?_
 refine zR 2 rfl ?_
 refine yL (Rd.add (Rd.blk 0 rfl) _) ?_
 refine WG.y rfl rfl qD (Yl.quo rfl rfl rfl (fun _ => rfl) qA (by intro _; omega)) ?_
 refine zR 1 rfl ?_
 refine yL (Rd.add (Rd.blk 0 rfl) _) ?_
 refine WG.y rfl rfl qD (Yl.mul rfl rfl rfl (fun _ => rfl) qA) ?_
 refine zR 1 rfl (zN (zU (zT ?_)))
 refine sE (E := E) ?_
 refine WE.retF tab_ok [_] rfl ⟨rfl, trivial⟩ (RLe.refl _) ?_
 exact ⟨rfl, rfl⟩

theorem PGainG_V {R : Ro} {fa : Option Addr} {fc : Nat} {c : Cv} (hv : validB c = true) (ha : RS R 1 encI fa c.vals) {L : Nat} (hL : L ≤ 100000) : FnV Tryz.prog 167 [.agg #[.slice fa c.vals.length fc, .int .i64 c.per, .int .i64 c.inc], .int .i64 (L : Int)] R (.int .i64 (gainC c L)) := by
 refine Fn.toV (fun w0 E => ?_)
 obtain ⟨hr1, hr2, hr3, hr4, hr5, hr6, hr7, hr8⟩ := valid_range hv
 have hd0 : 0 ≤ (L : Int) / c.per := Int.ediv_nonneg (by omega) (by omega)
 have hd1 : (L : Int) / c.per ≤ L := Int.ediv_le_self _ (by omega)
 have hd2 := mulB (a := (L : Int) / c.per) (b := c.inc) (A := 100000) (B := 1073741824) (by omega) (by omega)
 refine fE 12 Tryz.func167 ?_
 refine zQ (zG ?_)
 refine zO fun b2 => ?_
 refine zR 1 rfl (zN (zU (zQ ?_)))
 refine W.regionQ _ mixed qK ?_
 refine zR 2 rfl ?_
 refine yL (Rd.add (Rd.blk 0 rfl) _) ?_
 refine WG.y rfl rfl qD (Yl.quo rfl rfl rfl (fun _ => rfl) qA (by intro _; omega)) ?_
 refine zR 1 rfl ?_
 refine yL (Rd.add (Rd.blk 0 rfl) _) ?_
 refine WG.y rfl rfl qD (Yl.mul rfl rfl rfl (fun _ => rfl) qA) ?_
 refine zR 1 rfl (zN (zU (zT ?_)))
 refine sE (E := E) ?_
 refine WE.retF tab_ok [_] rfl ⟨rfl, trivial⟩ (RLe.refl _) ?_
 exact ⟨rfl, rfl⟩

theorem WPlus_V {R : Ro} {x y : Int} (hx : x = 4611686018427387904 ∨ (-1000000000000000000 ≤ x ∧ x ≤ 1000000000000000000)) (hy : y = 4611686018427387904 ∨ (-1000000000000000000 ≤ y ∧ y ≤ 1000000000000000000)) : FnV Tryz.prog 166 [.int .i64 x, .int .i64 y] R (.int .i64 (if x = 4611686018427387904 ∨ y = 4611686018427387904 then 4611686018427387904 else x + y)) := by
 refine Fn.toV (fun w0 E => ?_)
 refine fE 14 Tryz.func166 ?_
 refine zQ (zG (zR 1 rfl (zN (zU (zQ (zQ (zG (zR 3 rfl ?_))))))))
 refine yP ?_
 refine yP ?_
 refine yO ?_
 refine zN (zU ?_)
 refine W.cond rfl (fun hc0 => ?_) (fun hc0 => ?_)
 ·try simp only [zk] at hc0
  rw [if_pos hc0]
  refine zQ (zG (zR 1 rfl (zN (zU (zT (wt ?_))))))
  refine sE (E := E) ?_
  refine WE.retF tab_ok [_] rfl ⟨rfl, trivial⟩ (RLe.refl _) ?_
  exact ⟨rfl, rfl⟩
 ·try simp only [zk] at hc0
  have hno : ¬ (x = 4611686018427387904 ∨ y = 4611686018427387904) := by omega
  rw [if_neg hno]
  refine zK (zU (zQ (zG (zR 2 rfl ?_))))
  refine yA ?_
  refine zR 1 rfl (zN (zU (zT ?_)))
  refine sE (E := E) ?_
  refine WE.retF tab_ok [_] rfl ⟨rfl, trivial⟩ (RLe.refl _) ?_
  exact ⟨rfl, rfl⟩

theorem CValidG_V {R : Ro} {fa : Option Addr} {fc : Nat} {c : Cv} (ha : RS R 1 encI fa c.vals) (hl : c.vals.length ≤ 100000) : FnV Tryz.prog 84 [.agg #[.slice fa c.vals.length fc, .int .i64 c.per, .int .i64 c.inc]] R (.bool (validB c)) := by
 refine Fn.toV (fun w0 E => ?_)
 refine fE 85 Tryz.func84 ?_
 refine zQ (zG ?_)
 refine zO fun b1 => ?_
 refine zR 1 rfl (zN (zU (zQ (zG (zR 1 rfl ?_)))))
 refine yL (Rd.add (Rd.blk 0 rfl) _) ?_
 refine zR 2 rfl (zN (zU (zQ (zQ (zG (zR 3 rfl ?_))))))
 refine yP ?_
 refine yP ?_
 refine yO ?_
 refine zR 1 rfl ?_
 refine yP ?_
 refine yG (Rd.addC (Rd.blkC 0 rfl) _) ?_
 refine yP ?_
 refine yO ?_
 refine zR 1 rfl ?_
 refine yP ?_
 refine yG (Rd.addC (Rd.blkC 0 rfl) _) ?_
 refine yP ?_
 refine yO ?_
 refine zR 1 rfl ?_
 refine yP ?_
 refine yG (Rd.addC (Rd.blkC 0 rfl) _) ?_
 refine yP ?_
 refine yP ?_
 refine yO ?_
 refine zR 1 rfl ?_
 refine yP ?_
 refine yG (Rd.addC (Rd.blkC 0 rfl) _) ?_
 refine yP ?_
 refine yO ?_
 refine zR 1 rfl ?_
 refine yP ?_
 refine yG (Rd.addC (Rd.blkC 0 rfl) _) ?_
 refine yP ?_
 refine yO ?_
 refine zN (zU ?_)
 refine W.cond rfl (fun hc0 => ?_) (fun hc0 => ?_)
 ·try simp only [zk] at hc0
  have hno : validB c = false := validB_false (fun h => by obtain ⟨⟨a1, a2, a3, a4, a5, a6, a7⟩, _⟩ := h; unfold MAXV at a7; omega)
  refine zQ (zG (zR 1 rfl (zN (zU (zT (wt ?_))))))
  refine sE (E := E) ?_
  refine WE.retF tab_ok [_] rfl ⟨rfl, trivial⟩ (RLe.refl _) ?_
  exact ⟨by rw [hno]; rfl, rfl⟩
 ·try simp only [zk] at hc0
  have hall : 1 ≤ c.vals.length ∧ c.vals.length ≤ 400 ∧ 1 ≤ c.per ∧ c.per ≤ 120 ∧ c.per ≤ c.vals.length ∧ 0 ≤ c.inc ∧ c.inc ≤ MAXV := by unfold MAXV; omega
  refine zK (zU (zQ (zG (zR 1 rfl (zN (zU (zQ (zQ (zG (zR 1 rfl ?_))))))))))
  refine yL (Rd.add (Rd.blk 0 rfl) _) ?_
  refine zR 2 rfl (zN (zU (zB ?_)))
  refine W.loopK (β := Nat) (fun t => t ≤ c.vals.length ∧ ∀ i, i < t → (nth c.vals i = INF ∨ (0 ≤ nth c.vals i ∧ nth c.vals i ≤ MAXV)) ∧ (i = 0 ∨ nth c.vals (i - 1) ≤ nth c.vals i)) (fun t => [(4, true, .int .i64 (lastV c.vals t)), (45, true, .int .i64 (t : Int))]) [1, 3, 43, 44] [_, _, _, _] [] _ rfl (fun t => []) (fun t => c.vals.length - t) (0) (⟨Nat.zero_le _, fun i hi => by omega⟩) ⟨rfl, rfl, rfl, rfl, rfl, rfl, rfl⟩ qS ?_
  intro t hst
  dsimp only [zipE, setAll, List.cons_append, List.nil_append, List.set_cons_zero, List.set_cons_succ] at hst ⊢
  have hlast : 0 ≤ lastV c.vals t ∧ (lastV c.vals t = INF ∨ lastV c.vals t ≤ MAXV) := by
   unfold lastV
   by_cases h : t = 0
   ·rw [if_pos h]; exact ⟨Int.le_refl _, .inr (by decide)⟩
   ·rw [if_neg h]
    have := (hst.2 (t - 1) (by omega)).1
    unfold INF MAXV at this ⊢
    omega
  refine zQ (zG (zR 1 rfl (zN (zU (zQ ?_)))))
  refine W.condD rfl (fun hc1 => ?_) (fun hc1 => ?_)
  ·try dsimp only at hc1
   have htl : t < c.vals.length := by omega
   refine zK (zU (zQ (zB (zQ (zG ?_)))))
   refine WG.y rfl rfl qD (Yl.indexN tab_ok rfl rfl rfl rfl rfl rfl (fun _ => rfl) qN qH) ?_
   refine yR ?_
   refine zR 1 rfl (zN (zU (zQ (zQ (zG (zR 4 rfl ?_))))))
   refine yP ?_
   refine yP ?_
   refine yP ?_
   refine yP ?_
   refine yP ?_
   refine yN ?_
   refine yO ?_
   refine zN (zU ?_)
   refine W.cond rfl (fun hc2 => ?_) (fun hc2 => ?_)
   ·try simp only [zk] at hc2
    have hno : validB c = false := validB_false (fun h => by
     have h2 := h.2.1 t htl
     unfold lastV at hc2
     unfold INF MAXV at h2
     rcases hc2 with x | x
     ·split at x
      ·omega
      ·have := h2.2.resolve_left (by omega)
       omega
     ·omega)
    refine zQ (zG (zR 1 rfl (zN (zU (zT (wt (wb (wt (wt (wb (wt ?_)))))))))))
    refine sE (E := E) ?_
    refine WE.retF tab_ok [_] rfl ⟨rfl, trivial⟩ (RLe.refl _) ?_
    exact ⟨by rw [hno]; rfl, rfl⟩
   ·try simp only [zk] at hc2
    have hy : (nth c.vals t = INF ∨ (0 ≤ nth c.vals t ∧ nth c.vals t ≤ MAXV)) ∧ (t = 0 ∨ nth c.vals (t - 1) ≤ nth c.vals t) := by
     unfold INF MAXV
     have hle : lastV c.vals t ≤ nth c.vals t := by omega
     refine ⟨by omega, ?_⟩
     unfold lastV at hle
     by_cases h : t = 0
     ·exact .inl h
     ·rw [if_neg h] at hle; exact .inr hle
    refine zK (zU (zG (zR 2 rfl (zN (zL (zU (zG ?_)))))))
    refine yA ?_
    refine zR 1 rfl (zN ?_)
    refine WE.again (t + 1) (⟨by omega, fun i hi => by
     by_cases e : i = t
     ·subst e; exact hy
     ·exact hst.2 i (by omega)⟩) (by (try dsimp only); omega) ⟨vint (lastV_succ _ _), rfl, rfl, rfl, rfl, rfl, rfl⟩ (RLe.refl _) qS
  ·try dsimp only at hc1
   obtain rfl : t = c.vals.length := by omega
   obtain ⟨P, hP⟩ := Int.eq_ofNat_of_zero_le (show 0 ≤ c.per by omega)
   have hlv : lastV c.vals c.vals.length = nth c.vals (c.vals.length - 1) := if_neg (by omega)
   have e3 : ((c.vals.length : Int) - c.per).toNat = c.vals.length - c.per.toNat := by omega
   refine zX ?_
   refine wx (wx (zY (zU (zQ (zQ (zG (zR 2 rfl (zN (zU ?_)))))))))
   refine W.condE rfl (fun hc3 => ?_) (fun hc3 => ?_)
   ·try dsimp only at hc3
    have hif : (if nth c.vals (c.vals.length - 1) = INF then c.per = 1 ∧ c.inc = 0 else nth c.vals (c.vals.length - 1) ≤ nth c.vals (c.vals.length - c.per.toNat) + c.inc) ↔ (c.per = 1 ∧ c.inc = 0) := by rw [if_pos (by rw [← hlv]; exact hc3)]
    refine zQ (zG (zR 1 rfl ?_))
    refine yL (Rd.add (Rd.blk 0 rfl) _) ?_
    refine zR 2 rfl ?_
    refine yP ?_
    refine yG (Rd.addC (Rd.blkC 0 rfl) _) ?_
    refine yP ?_
    refine yN ?_
    refine zR 1 rfl (zN (zU (zT (wt ?_))))
    refine sE (E := E) ?_
    refine WE.retF tab_ok [_] rfl ⟨rfl, trivial⟩ (RLe.refl _) ?_
    refine ⟨congrArg Value.bool ?_, rfl⟩
    rw [Bool.eq_iff_iff, validB_iff, hif]
    simp only [Bool.and_eq_true, beq_iff_eq]
    exact ⟨fun h => ⟨hall, fun j hj => hst.2 j hj, h⟩, fun h => h.2.2⟩
   ·try dsimp only at hc3
    have hif : (if nth c.vals (c.vals.length - 1) = INF then c.per = 1 ∧ c.inc = 0 else nth c.vals (c.vals.length - 1) ≤ nth c.vals (c.vals.length - c.per.toNat) + c.inc) ↔ (nth c.vals (c.vals.length - 1) ≤ nth c.vals (c.vals.length - c.per.toNat) + c.inc) := by rw [if_neg (by rw [← hlv]; exact hc3)]
    have hx2 := (hst.2 (c.vals.length - c.per.toNat) (by omega)).1
    rw [← e3] at hx2
    unfold INF MAXV at hx2 hall
    refine zK (zU (zQ ?_))
    refine W.regionQ _ mixed qK ?_
    refine zR 1 rfl ?_
    refine yL (Rd.add (Rd.blk 0 rfl) _) ?_
    refine zR 2 rfl ?_
    refine yL (Rd.add (Rd.blk 0 rfl) _) ?_
    refine yS ?_
    refine WG.y rfl rfl qD (Yl.index tab_ok rfl rfl rfl rfl rfl rfl (fun _ => rfl) qA qH) ?_
    refine yR ?_
    refine zR 1 rfl ?_
    refine yL (Rd.add (Rd.blk 0 rfl) _) ?_
    refine yA ?_
    refine zR 3 rfl (zN (zU (zT ?_)))
    refine sE (E := E) ?_
    refine WE.retF tab_ok [_] rfl ⟨rfl, trivial⟩ (RLe.refl _) ?_
    refine ⟨congrArg Value.bool ?_, rfl⟩
    rw [Bool.eq_iff_iff, validB_iff, hif, e3, hlv]
    simp only [decide_eq_true_eq]
    exact ⟨fun h => ⟨by unfold MAXV; omega, fun j hj => hst.2 j hj, by omega⟩, fun h => by have := h.2.2; omega⟩

theorem NormG_V {R : Ro} {fa : Option Addr} {fc : Nat} {c : Cv} (hv : validB c = true) (ha : RS R 1 encI fa c.vals) {b1 : Nat} (h1 : R b1 = some [.slice fa c.vals.length fc, .int .i64 c.per, .int .i64 c.inc]) {t : Nat} (ht : t ≤ 1000000) : FnV Tryz.prog 162 [.int .i64 (t : Int), .pointer (some ⟨b1, 0, none⟩)] R (.int .i64 (cvF c t)) := by
 refine Fn.toV (fun w0 E => ?_)
 refine fE 7 Tryz.func162 ?_
 refine zQ (zG (zR 1 rfl (zN (zU (zQ (zG ?_))))))
 refine' WG.y rfl rfl qD (Yl.load1 tab_ok rfl rfl rfl (fun _ => rfl) ?r1 rfl ?h1) ?_
 case r1 => (exact Rd.ro qU)
 case h1 => rfl
 refine zR 1 rfl ?_
 refine WG.callV en90 rfl rfl qD (CallOp.mk' rfl rfl rfl rfl) (fun _ => rfl) (fun hg => WAtG_V hv ha qO) ?_
 refine zR 1 rfl (zN (zU (zT ?_)))
 refine sE (E := E) ?_
 refine WE.retF tab_ok [_] rfl ⟨rfl, trivial⟩ (RLe.refl _) ?_
 exact ⟨rfl, rfl⟩

theorem CNormalG_C {R : Ro} {fa : Option Addr} {fc : Nat} {c : Cv} (ha : RS R 1 encI fa c.vals) (hl : c.vals.length ≤ 100000) (w0 : World) (E : List Ent) : K.Fn Tryz.prog 144 [.agg #[.slice fa c.vals.length fc, .int .i64 c.per, .int .i64 c.inc]] w0 R E (fun r R' E' => ∃ (f : Option Addr) (fc : Nat), r = cvV f fc (normC c) ∧ RS R' 1 encI f (normC c).1.vals ∧ E.Sublist E') := by
 refine fE 22 Tryz.func144 ?_
 refine zQ (zG ?_)
 refine zO fun b1 => ?_
 refine zA fun b2 => ?_
 refine zR 1 rfl (zN (zU (zQ (zQ (zG ?_)))))
 refine yL (Rd.blk 1 rfl) ?_
 refine WG.callV en84 rfl rfl qD (CallOp.mk' rfl rfl rfl rfl) (fun _ => rfl) (fun hg => CValidG_V ha hl) ?_
 refine zR 1 rfl (zN (zU ?_))
 refine W.cond rfl (fun hc0 => ?_) (fun hc0 => ?_)
 ·try simp only [zk] at hc0
  have hn : normC c = (zcv, 1) := if_neg (by simp [hc0])
  refine zQ (zG ?_)
  -- build
  refine WG.y rfl rfl qD (Yl.build (parts := []) tab_ok rfl rfl rfl rfl (fun _ => rfl) rfl rfl) ?_
  refine zE 0 ?_
  refine zR 1 rfl (zN (zU (zT (wt ?_))))
  refine WE.retF tab_ok [_, _] rfl ⟨⟨_, _, _, rfl, rfl, rfl, qB, rfl⟩, rfl, trivial⟩ ((by first | exact hR1.trans (hR2.trans hR4) | exact RLe.refl _)) ?_
  exact ⟨none, 0, by rw [hn]; rfl, by rw [hn]; exact rs_nil, qS⟩
 ·try simp only [zk] at hc0
  have hv : validB c = true := by simpa using hc0
  have hn : normC c = (normR c, 0) := if_pos hv
  obtain ⟨hr1, hr2, hr3, hr4, hr5, hr6, hr7, hr8⟩ := valid_range hv
  have hst := stN_lt hv
  refine zK (zU (zQ (zG (zR 1 rfl ?_))))
  refine yL (Rd.add (Rd.blk 1 rfl) _) ?_
  refine WL.call en161 rfl rfl qD (CallOp.mkT rfl rfl rfl rfl) (CloneI_C ha qO qO w0 _) ?_
  rintro _ _ E2 - ⟨a2, c2, rfl, rfl, hsub⟩
  refine WL.subE hsub ?_
  refine zR 1 rfl ?_
  refine zF 2 ?_
  refine zN (zU ?_)
  refine W.freeze (enc := encI) (xs := c.vals) 0 rfl ?_
  intro R1 hR1 ha1
  refine W.freezeBlk 1 rfl ?_
  intro R2 hR2 hb1
  have ha2 := ha1.mono hR2
  have hperI : ((c.per.toNat : Nat) : Int) = c.per := by omega
  have hF : ∀ t : Nat, t < stN c + c.per.toNat → FnV Tryz.prog 162 ((#[] : Array Value).toList ++ [.int .i64 (t : Int)] ++ (#[.pointer (some ⟨b1, 0, none⟩)] : Array Value).toList) R2 (.int .i64 (cvF c t)) := fun t ht => NormG_V hv ha2 hb1 (by omega)
  refine zQ ?_
  refine W.regionH _ (ES := []) mixed ?_
  refine WA.take 0 rfl qK qK qK rfl rfl qD (Yl.makeFunc (fi := []) (ca := [.tmp 1]) rfl rfl rfl (fun _ => rfl)) qS qR ?_
  refine' WA.take 1 rfl qK qK qK rfl rfl qD (Yl.load1 tab_ok rfl rfl rfl (fun _ => rfl) ?r3 rfl ?h3) qS qR ?_
  case r3 => (exact Rd.ro qU)
  case h3 => rfl
  refine tP 3 ?_
  refine' WA.take 4 rfl qK qK qK rfl rfl qD (Yl.load1 tab_ok rfl rfl rfl (fun _ => rfl) ?r4 rfl ?h4) qS qR ?_
  case r4 => apply Rd.add; (exact Rd.ro qU)
  case h4 => rfl
  refine tP 5 ?_
  refine' WA.take 6 rfl qK qK qK rfl rfl qD (Yl.load1 tab_ok rfl rfl rfl (fun _ => rfl) ?r5 rfl ?h5) qS qR ?_
  case r5 => apply Rd.add; (exact Rd.ro qU)
  case h5 => rfl
  refine WA.callG 2 rfl qK en146 rfl (by first | rfl | decide) rfl qD (CallOp.mkT rfl rfl rfl rfl) ((WStartG_V hv ha2).toFn) ?_
  rintro _ _ _ - ⟨rfl, rfl, rfl⟩
  refine ⟨qR, qS, ?_⟩
  refine WA.callG 7 rfl qK en82 rfl (by first | rfl | decide) rfl qD (CallOp.mkT rfl rfl rfl rfl) (hperI ▸ Build_C (S := stN c) (P := c.per.toNat) (F := cvF c) en162 qO qO qO (fun t ht => (cvF_bound hv t).2.imp id (fun h => ⟨(cvF_bound hv t).1, by omega⟩)) hF w0 _) ?_
  rintro _ R4 E4 hR4 ⟨f, fc', rfl, hff, hsub⟩
  refine ⟨hR4, List.nil_sublist _, ?_⟩
  refine WA.subE hsub ?_
  rw [norm_build hv] at hff ⊢
  unfold cvV
  refine tP 8 ?_
  refine tP 9 ?_
  refine zCE 10 0 ?_
  refine tP 11 ?_
  refine WA.done qK ?_
  refine zU (zT ?_)
  refine WE.retF tab_ok [_, _] rfl ⟨⟨_, _, _, rfl, rfl, rfl, qB, rfl⟩, rfl, trivial⟩ ((by first | exact hR1.trans (hR2.trans hR4) | exact RLe.refl _)) ?_
  exact ⟨f, fc', by rw [hn]; rfl, by rw [hn]; exact hff, qS⟩

theorem CNormalV_C {R : Ro} {fa : Option Addr} {fc : Nat} {c : Cv} (hv : validB c = true) (ha : RS R 1 encI fa c.vals) (w0 : World) (E : List Ent) : K.Fn Tryz.prog 144 [.agg #[.slice fa c.vals.length fc, .int .i64 c.per, .int .i64 c.inc]] w0 R E (fun r R' E' => ∃ (f : Option Addr) (fc : Nat), r = cvV f fc (normR c, 0) ∧ RS R' 1 encI f ((normR c, (0 : Int))).1.vals ∧ E.Sublist E') := by
 have h := CNormalG_C (fc := fc) ha (by have := valid_range hv; omega) w0 E
 rw [show normC c = (normR c, 0) from if_pos hv] at h
 exact h



theorem PBoth_lim {R : Ro} {fa : Option Addr} {fc : Nat} {cf : Cv} (hvf : validB cf = true) (ha : RS R 1 encI fa cf.vals) {ga : Option Addr} {gc : Nat} {cg : Cv} (hvg : validB cg = true) (hb : RS R 1 encI ga cg.vals) (hl : 120 < lcmC (normR cf) (normR cg)) (w0 : World) (E : List Ent) : K.Fn Tryz.prog 164 [.agg #[.slice fa cf.vals.length fc, .int .i64 cf.per, .int .i64 cf.inc], .agg #[.slice ga cg.vals.length gc, .int .i64 cg.per, .int .i64 cg.inc]] w0 R E (fun v R' E' => v = .tuple #[.agg #[.slice none 0 0, .int .i64 0, .int .i64 0], .agg #[.slice none 0 0, .int .i64 0, .int .i64 0], .int .i64 0, .int .i64 3] ∧ E.Sublist E') := by
 have hnf := norm_nrm hvf
 have hng := norm_nrm hvg
 obtain ⟨_, f1, f2, f3, f4, f5, f6, f7⟩ := valid_range hnf.valid
 obtain ⟨_, g1, g2, g3, g4, g5, g6, g7⟩ := valid_range hng.valid
 obtain ⟨P1, hP1⟩ := Int.eq_ofNat_of_zero_le (show 0 ≤ (normR cf).per by omega)
 obtain ⟨P2, hP2⟩ := Int.eq_ofNat_of_zero_le (show 0 ≤ (normR cg).per by omega)
 have hlc : lcmC (normR cf) (normR cg) = lcmN P1 P2 := by unfold lcmC; rw [hP1, hP2]; rfl
 have hlb : lcmN P1 P2 ≤ 14400 := Nat.le_trans (lcmN_facts (by omega) (by omega)).2.2.1 (Nat.mul_le_mul (show P1 ≤ 120 by omega) (show P2 ≤ 120 by omega))
 have hlp := (lcmN_facts (a := P1) (b := P2) (by omega) (by omega)).2.2.2
 rw [hlc] at hl
 refine fE 40 Tryz.func164 ?_
 refine zQ (zG ?_)
 refine zO fun b2 => ?_
 refine zO fun b3 => ?_
 refine zA fun b4 => ?_
 refine zA fun b5 => ?_
 refine zR 2 rfl (zN (zU (zQ (zQ (zG ?_)))))
 refine yL (Rd.blk 3 rfl) ?_
 refine WL.call en144 rfl rfl qD (CallOp.mkT rfl rfl rfl rfl) (CNormalV_C hvf ha w0 _) ?_
 rintro _ R1 _ hR1 ⟨fa1x, ca1x, rfl, ha1x, hsub⟩
 refine WL.subE hsub ?_
 unfold cvV
 dsimp only at ha1x ⊢
 have hb := hb.mono hR1
 refine zR 3 rfl ?_
 refine zE 1 ?_
 refine zR 1 rfl (zN (zU (zQ (zG (zR 2 rfl (zN (zU ?_)))))))
 refine W.condN rfl (fun hc0 => ?_) (fun hc0 => ?_)
 ·try dsimp only at hc0
  exact absurd rfl hc0
 ·try dsimp only at hc0
  refine zK (zU (zQ (zQ (zG ?_))))
  refine yL (Rd.blk 2 rfl) ?_
  refine WL.call en144 rfl rfl qD (CallOp.mkT rfl rfl rfl rfl) (CNormalV_C hvg hb w0 _) ?_
  rintro _ R2 _ hR2 ⟨fa2x, ca2x, rfl, ha2x, hsub⟩
  refine WL.subE hsub ?_
  unfold cvV
  dsimp only at ha2x ⊢
  have ha1x := ha1x.mono hR2
  refine zR 3 rfl ?_
  refine zE 0 ?_
  refine zR 1 rfl (zN (zU (zQ (zG (zR 2 rfl (zN (zU ?_)))))))
  refine W.condN rfl (fun hc1 => ?_) (fun hc1 => ?_)
  ·try dsimp only at hc1
   exact absurd rfl hc1
  ·try dsimp only at hc1
   refine zK (zU (zQ (zQ (zG (zR 1 rfl ?_)))))
   refine yL (Rd.add (Rd.blk 1 rfl) _) ?_
   refine zR 1 rfl ?_
   refine yL (Rd.add (Rd.blk 0 rfl) _) ?_
   refine WG.callV (v := .int .i64 (lcmN P1 P2 : Int)) en145 rfl rfl (by decide) (CallOp.mk' rfl rfl rfl rfl) (fun _ => rfl) (fun hg => by rw [hP1, hP2]; exact Common_V (by omega) (by omega)) ?_
   refine zR 1 rfl (zN (zU (zQ (zG (zR 2 rfl (zN (zU ?_)))))))
   refine W.condD rfl (fun hc2 => ?_) (fun hc2 => ?_)
   ·try dsimp only at hc2
    refine zQ (zG ?_)
    -- build
    refine WG.y rfl rfl qD (Yl.build (parts := []) tab_ok rfl rfl rfl rfl (fun _ => rfl) rfl rfl) ?_
    -- build
    refine WG.y rfl rfl qD (Yl.build (parts := []) tab_ok rfl rfl rfl rfl (fun _ => rfl) rfl rfl) ?_
    refine zE 1 ?_
    refine zE 0 ?_
    refine zR 2 rfl (zN (zU (zT (wt ?_))))
    refine WE.retF tab_ok [_, _, _, _] rfl ⟨⟨_, _, _, rfl, rfl, rfl, qB, rfl⟩, ⟨_, _, _, rfl, rfl, rfl, qB, rfl⟩, rfl, rfl, trivial⟩ (hR1.trans hR2) ?_
    exact ⟨rfl, qS⟩
   ·try dsimp only at hc2
    omega

theorem PBoth_ok {R : Ro} {fa : Option Addr} {fc : Nat} {cf : Cv} (hvf : validB cf = true) (ha : RS R 1 encI fa cf.vals) {ga : Option Addr} {gc : Nat} {cg : Cv} (hvg : validB cg = true) (hb : RS R 1 encI ga cg.vals) (hl : lcmC (normR cf) (normR cg) ≤ 120) (w0 : World) (E : List Ent) : K.Fn Tryz.prog 164 [.agg #[.slice fa cf.vals.length fc, .int .i64 cf.per, .int .i64 cf.inc], .agg #[.slice ga cg.vals.length gc, .int .i64 cg.per, .int .i64 cg.inc]] w0 R E (fun v R' E' => ∃ (a1 a2 : Option Addr) (c1 c2 : Nat), v = .tuple #[.agg #[.slice a1 (normR cf).vals.length c1, .int .i64 (normR cf).per, .int .i64 (normR cf).inc], .agg #[.slice a2 (normR cg).vals.length c2, .int .i64 (normR cg).per, .int .i64 (normR cg).inc], .int .i64 (lcmC (normR cf) (normR cg) : Int), .int .i64 0] ∧ RS R' 1 encI a1 (normR cf).vals ∧ RS R' 1 encI a2 (normR cg).vals ∧ E.Sublist E') := by
 have hnf := norm_nrm hvf
 have hng := norm_nrm hvg
 obtain ⟨_, f1, f2, f3, f4, f5, f6, f7⟩ := valid_range hnf.valid
 obtain ⟨_, g1, g2, g3, g4, g5, g6, g7⟩ := valid_range hng.valid
 obtain ⟨P1, hP1⟩ := Int.eq_ofNat_of_zero_le (show 0 ≤ (normR cf).per by omega)
 obtain ⟨P2, hP2⟩ := Int.eq_ofNat_of_zero_le (show 0 ≤ (normR cg).per by omega)
 have hlc : lcmC (normR cf) (normR cg) = lcmN P1 P2 := by unfold lcmC; rw [hP1, hP2]; rfl
 have hlb : lcmN P1 P2 ≤ 14400 := Nat.le_trans (lcmN_facts (by omega) (by omega)).2.2.1 (Nat.mul_le_mul (show P1 ≤ 120 by omega) (show P2 ≤ 120 by omega))
 have hlp := (lcmN_facts (a := P1) (b := P2) (by omega) (by omega)).2.2.2
 rw [hlc] at hl
 rw [hlc]
 refine fE 40 Tryz.func164 ?_
 refine zQ (zG ?_)
 refine zO fun b2 => ?_
 refine zO fun b3 => ?_
 refine zA fun b4 => ?_
 refine zA fun b5 => ?_
 refine zR 2 rfl (zN (zU (zQ (zQ (zG ?_)))))
 refine yL (Rd.blk 3 rfl) ?_
 refine WL.call en144 rfl rfl qD (CallOp.mkT rfl rfl rfl rfl) (CNormalV_C hvf ha w0 _) ?_
 rintro _ R1 _ hR1 ⟨fa1x, ca1x, rfl, ha1x, hsub⟩
 refine WL.subE hsub ?_
 unfold cvV
 dsimp only at ha1x ⊢
 have hb := hb.mono hR1
 refine zR 3 rfl ?_
 refine zE 1 ?_
 refine zR 1 rfl (zN (zU (zQ (zG (zR 2 rfl (zN (zU ?_)))))))
 refine W.condN rfl (fun hc0 => ?_) (fun hc0 => ?_)
 ·try dsimp only at hc0
  exact absurd rfl hc0
 ·try dsimp only at hc0
  refine zK (zU (zQ (zQ (zG ?_))))
  refine yL (Rd.blk 2 rfl) ?_
  refine WL.call en144 rfl rfl qD (CallOp.mkT rfl rfl rfl rfl) (CNormalV_C hvg hb w0 _) ?_
  rintro _ R2 _ hR2 ⟨fa2x, ca2x, rfl, ha2x, hsub⟩
  refine WL.subE hsub ?_
  unfold cvV
  dsimp only at ha2x ⊢
  have ha1x := ha1x.mono hR2
  refine zR 3 rfl ?_
  refine zE 0 ?_
  refine zR 1 rfl (zN (zU (zQ (zG (zR 2 rfl (zN (zU ?_)))))))
  refine W.condN rfl (fun hc1 => ?_) (fun hc1 => ?_)
  ·try dsimp only at hc1
   exact absurd rfl hc1
  ·try dsimp only at hc1
   refine zK (zU (zQ (zQ (zG (zR 1 rfl ?_)))))
   refine yL (Rd.add (Rd.blk 1 rfl) _) ?_
   refine zR 1 rfl ?_
   refine yL (Rd.add (Rd.blk 0 rfl) _) ?_
   refine WG.callV (v := .int .i64 (lcmN P1 P2 : Int)) en145 rfl rfl (by decide) (CallOp.mk' rfl rfl rfl rfl) (fun _ => rfl) (fun hg => by rw [hP1, hP2]; exact Common_V (by omega) (by omega)) ?_
   refine zR 1 rfl (zN (zU (zQ (zG (zR 2 rfl (zN (zU ?_)))))))
   refine W.condD rfl (fun hc2 => ?_) (fun hc2 => ?_)
   ·try dsimp only at hc2
    omega
   ·try dsimp only at hc2
    refine zK (zU (zQ ?_))
    refine W.regionH _ (ES := []) mixed ?_
    refine tP 2 ?_
    refine WA.br2 (i := 0) (j := 1) qK ?_ ?_
    ·
     refine sL (Rd.blk 1 rfl) ?_
     refine WA.br2 (i := 1) (j := 3) qK ?_ ?_
     ·
      refine sL (Rd.blk 0 rfl) ?_
      refine zCE 3 1 ?_
      refine zCE 4 0 ?_
      refine tP 5 ?_
      refine tP 6 ?_
      refine WA.done qK ?_
      refine zU (zT ?_)
      refine WE.retF tab_ok [_, _, _, _] rfl ⟨⟨_, _, _, rfl, rfl, rfl, qB, rfl⟩, ⟨_, _, _, rfl, rfl, rfl, qB, rfl⟩, rfl, rfl, trivial⟩ (hR1.trans hR2) ?_
      exact ⟨_, _, _, _, rfl, ha1x, ha2x, qS⟩
     ·
      refine WS.effN rfl rfl rfl (Ef.store0 1 tab_ok rfl rfl rfl rfl rfl rfl rfl rfl ?_)
      refine ⟨qR, qS, ?_⟩
      refine lL 1 (Rd.blk 0 rfl) ?_
      refine zCE 4 0 ?_
      refine tP 5 ?_
      refine tP 6 ?_
      refine WA.done qK ?_
      refine zU (zT ?_)
      refine WE.retF tab_ok [_, _, _, _] rfl ⟨⟨_, _, _, rfl, rfl, rfl, qB, rfl⟩, ⟨_, _, _, rfl, rfl, rfl, qB, rfl⟩, rfl, rfl, trivial⟩ (hR1.trans hR2) ?_
      exact ⟨_, _, _, _, rfl, ha1x, ha2x, qS⟩
    ·
     refine sL (Rd.blk 0 rfl) ?_
     refine lL 0 (Rd.blk 1 rfl) ?_
     refine zCE 3 1 ?_
     refine zCE 4 0 ?_
     refine tP 5 ?_
     refine tP 6 ?_
     refine WA.done qK ?_
     refine zU (zT ?_)
     refine WE.retF tab_ok [_, _, _, _] rfl ⟨⟨_, _, _, rfl, rfl, rfl, qB, rfl⟩, ⟨_, _, _, rfl, rfl, rfl, qB, rfl⟩, rfl, rfl, trivial⟩ (hR1.trans hR2) ?_
     exact ⟨_, _, _, _, rfl, ha1x, ha2x, qS⟩

theorem PBoth_C {R : Ro} {fa : Option Addr} {fc : Nat} {cf : Cv} (hvf : validB cf = true) (ha : RS R 1 encI fa cf.vals) {ga : Option Addr} {gc : Nat} {cg : Cv} (hvg : validB cg = true) (hb : RS R 1 encI ga cg.vals) (w0 : World) (E : List Ent) : K.Fn Tryz.prog 164 [.agg #[.slice fa cf.vals.length fc, .int .i64 cf.per, .int .i64 cf.inc], .agg #[.slice ga cg.vals.length gc, .int .i64 cg.per, .int .i64 cg.inc]] w0 R E (fun v R' E' => ∃ (a1 a2 : Option Addr) (c1 c2 : Nat) (x y : Cv) (l e : Int), v = .tuple #[.agg #[.slice a1 x.vals.length c1, .int .i64 x.per, .int .i64 x.inc], .agg #[.slice a2 y.vals.length c2, .int .i64 y.per, .int .i64 y.inc], .int .i64 l, .int .i64 e] ∧ RS R' 1 encI a1 x.vals ∧ RS R' 1 encI a2 y.vals ∧ ((120 < lcmC (normR cf) (normR cg) ∧ e = 3) ∨ (lcmC (normR cf) (normR cg) ≤ 120 ∧ x = normR cf ∧ y = normR cg ∧ l = (lcmC (normR cf) (normR cg) : Int) ∧ e = 0)) ∧ E.Sublist E') := by
 rcases Nat.lt_or_ge 120 (lcmC (normR cf) (normR cg)) with hl | hl
 ·refine (PBoth_lim hvf ha hvg hb hl w0 E).mono ?_
  rintro v R' E' hR ⟨rfl, hsub⟩
  exact ⟨none, none, 0, 0, zcv, zcv, 0, 3, rfl, rs_nil, rs_nil, .inl ⟨hl, rfl⟩, hsub⟩
 ·refine (PBoth_ok hvf ha hvg hb hl w0 E).mono ?_
  rintro v R' E' hR ⟨a1, a2, c1, c2, rfl, h1, h2, hsub⟩
  exact ⟨a1, a2, c1, c2, _, _, _, 0, rfl, h1, h2, .inr ⟨hl, rfl, rfl, rfl, rfl⟩, hsub⟩

theorem SumF_V {R : Ro} {fa : Option Addr} {fc : Nat} {cf : Cv} (hvf : validB cf = true) (ha : RS R 1 encI fa cf.vals) {ga : Option Addr} {gc : Nat} {cg : Cv} (hvg : validB cg = true) (hb : RS R 1 encI ga cg.vals) {b6 b7 : Nat} (h6 : R b6 = some [.slice fa cf.vals.length fc, .int .i64 cf.per, .int .i64 cf.inc]) (h7 : R b7 = some [.slice ga cg.vals.length gc, .int .i64 cg.per, .int .i64 cg.inc]) {t : Nat} (ht : t ≤ 1000000) : FnV Tryz.prog 165 [.int .i64 (t : Int), .pointer (some ⟨b6, 0, none⟩), .pointer (some ⟨b7, 0, none⟩)] R (.int .i64 (plusF cf cg t)) := by
 refine Fn.toV (fun w0 E => ?_)
 have hbf := cvF_bound hvf t
 have hbg := cvF_bound hvg t
 have i1 := isInf_iff hvf (t := t) (by omega)
 have i2 := isInf_iff hvg (t := t) (by omega)
 have hpl : plusF cf cg t = if cvF cf t = 4611686018427387904 ∨ cvF cg t = 4611686018427387904 then 4611686018427387904 else cvF cf t + cvF cg t := by
  unfold plusF
  by_cases h : isInf cf t ∨ isInf cg t
  ·rw [if_pos h]; exact (if_pos (h.imp i1.1 i2.1)).symm
  ·rw [if_neg h]; exact (if_neg (fun hh => h (hh.imp i1.2 i2.2))).symm
 unfold INF at hbf hbg
 refine fE 12 Tryz.func165 ?_
 refine zQ (zG (zR 1 rfl (zN (zU (zQ ?_)))))
 refine W.regionQ _ mixed qK ?_
 refine' WG.y rfl rfl qD (Yl.load1 tab_ok rfl rfl rfl (fun _ => rfl) ?r1 rfl ?h1) ?_
 case r1 => exact Rd.ro h6
 case h1 => rfl
 refine zR 1 rfl ?_
 refine WG.callV en90 rfl rfl qD (CallOp.mk' rfl rfl rfl rfl) (fun _ => rfl) (fun hg => WAtG_V hvf ha qO) ?_
 refine' WG.y rfl rfl qD (Yl.load1 tab_ok rfl rfl rfl (fun _ => rfl) ?r2 rfl ?h2) ?_
 case r2 => exact Rd.ro h7
 case h2 => rfl
 refine zR 1 rfl ?_
 refine WG.callV en90 rfl rfl qD (CallOp.mk' rfl rfl rfl rfl) (fun _ => rfl) (fun hg => WAtG_V hvg hb qO) ?_
 refine WG.callV en166 rfl rfl qD (CallOp.mk' rfl rfl rfl rfl) (fun _ => rfl) (fun hg => WPlus_V qO qO) ?_
 refine zR 1 rfl (zN (zU (zT ?_)))
 refine sE (E := E) ?_
 refine WE.retF tab_ok [_] rfl ⟨rfl, trivial⟩ (RLe.refl _) ?_
 exact ⟨by rw [hpl]; rfl, rfl⟩

set_option maxHeartbeats 1000000 in
theorem PSum_C {R : Ro} {fa : Option Addr} {fc : Nat} {cf : Cv} (hvf : validB cf = true) (ha : RS R 1 encI fa cf.vals) {ga : Option Addr} {gc : Nat} {cg : Cv} (hvg : validB cg = true) (hb : RS R 1 encI ga cg.vals) (w0 : World) (E : List Ent) : K.Fn Tryz.prog 150 [.agg #[.slice fa cf.vals.length fc, .int .i64 cf.per, .int .i64 cf.inc], .agg #[.slice ga cg.vals.length gc, .int .i64 cg.per, .int .i64 cg.inc]] w0 R E (fun r R' E' => ∃ (f : Option Addr) (fc : Nat), r = cvV f fc (sumC cf cg) ∧ RS R' 1 encI f (sumC cf cg).1.vals ∧ E.Sublist E') := by
 have hnf := norm_nrm hvf
 have hng := norm_nrm hvg
 obtain ⟨_, f1, f2, f3, f4, f5, f6, f7⟩ := valid_range hnf.valid
 obtain ⟨_, g1, g2, g3, g4, g5, g6, g7⟩ := valid_range hng.valid
 obtain ⟨P1, hP1⟩ := Int.eq_ofNat_of_zero_le (show 0 ≤ (normR cf).per by omega)
 obtain ⟨P2, hP2⟩ := Int.eq_ofNat_of_zero_le (show 0 ≤ (normR cg).per by omega)
 have hlc : lcmC (normR cf) (normR cg) = lcmN P1 P2 := by unfold lcmC; rw [hP1, hP2]; rfl
 have hlb : lcmN P1 P2 ≤ 14400 := Nat.le_trans (lcmN_facts (by omega) (by omega)).2.2.1 (Nat.mul_le_mul (show P1 ≤ 120 by omega) (show P2 ≤ 120 by omega))
 have hlp := (lcmN_facts (a := P1) (b := P2) (by omega) (by omega)).2.2.2
 have hs1 := stN_lt hnf.valid
 have hs2 := stN_lt hng.valid
 refine fE 41 Tryz.func150 ?_
 refine zQ (zG ?_)
 refine zO fun b2 => ?_
 refine zO fun b3 => ?_
 refine zA fun b4 => ?_
 refine zR 1 rfl (zN (zU (zQ (zG ?_))))
 refine yL (Rd.blk 2 rfl) ?_
 refine yL (Rd.blk 1 rfl) ?_
 refine WL.call en164 rfl rfl qD (CallOp.mkT rfl rfl rfl rfl) (PBoth_C hvf ha hvg hb w0 _) ?_
 rintro _ R1 _ hR1 ⟨a1, a2, c1, c2, x, y, l, e, rfl, hx1, hx2, hcase, hsub⟩
 refine WL.subE hsub ?_
 refine zR 5 rfl ?_
 refine zA fun b6 => ?_
 refine zA fun b7 => ?_
 refine zE 1 ?_
 refine zE 0 ?_
 refine zR 2 rfl (zN (zU (zQ (zQ (zG (zR 2 rfl (zN (zU ?_))))))))
 refine W.condN rfl (fun hc0 => ?_) (fun hc0 => ?_)
 ·try dsimp only at hc0
  obtain ⟨hl, rfl⟩ : 120 < lcmC (normR cf) (normR cg) ∧ e = 3 := by
   rcases hcase with h | h
   ·exact h
   ·exact absurd h.2.2.2.2 (by omega)
  have hd : sumC cf cg = (zcv, 3) := by unfold sumC; rw [if_neg (by rw [hvf, hvg]; simp), if_pos (by omega)]
  refine zQ (zG ?_)
  -- build
  refine WG.y rfl rfl qD (Yl.build (parts := []) tab_ok rfl rfl rfl rfl (fun _ => rfl) rfl rfl) ?_
  refine zR 1 rfl ?_
  refine zE 2 ?_
  refine zR 1 rfl (zN (zU (zT (wt ?_))))
  refine WE.retF tab_ok [_, _] rfl ⟨⟨_, _, _, rfl, rfl, rfl, qB, rfl⟩, rfl, trivial⟩ ((by first | exact hR1 | exact hR1.trans (hR2.trans (hR3.trans hR4)))) ?_
  exact ⟨none, 0, by rw [hd]; rfl, by rw [hd]; exact rs_nil, qS⟩
 ·try dsimp only at hc0
  obtain ⟨hl, rfl, rfl, rfl, rfl⟩ : lcmC (normR cf) (normR cg) ≤ 120 ∧ x = normR cf ∧ y = normR cg ∧ l = (lcmC (normR cf) (normR cg) : Int) ∧ e = 0 := by
   rcases hcase with h | h
   ·exact absurd h.2 (by omega)
   ·exact h
  rw [hlc] at hl ⊢
  have hd : sumC cf cg = mbuild (plusF (normR cf) (normR cg)) (max (stN (normR cf)) (stN (normR cg))) (lcmN P1 P2) (gainC (normR cf) (lcmN P1 P2) + gainC (normR cg) (lcmN P1 P2)) := by unfold sumC; rw [if_neg (by rw [hvf, hvg]; simp), if_neg (by omega), hlc]
  have hga : 0 ≤ gainC (normR cf) (lcmN P1 P2) ∧ gainC (normR cf) (lcmN P1 P2) ≤ 120 * 1073741824 := by
   unfold gainC
   have hd0 : 0 ≤ ((lcmN P1 P2) : Int) / (normR cf).per := Int.ediv_nonneg (by omega) (by omega)
   have hd1 : ((lcmN P1 P2) : Int) / (normR cf).per ≤ (lcmN P1 P2) := Int.ediv_le_self _ (by omega)
   exact mulB qO qO
  have hgb : 0 ≤ gainC (normR cg) (lcmN P1 P2) ∧ gainC (normR cg) (lcmN P1 P2) ≤ 120 * 1073741824 := by
   unfold gainC
   have hd0 : 0 ≤ ((lcmN P1 P2) : Int) / (normR cg).per := Int.ediv_nonneg (by omega) (by omega)
   have hd1 : ((lcmN P1 P2) : Int) / (normR cg).per ≤ (lcmN P1 P2) := Int.ediv_le_self _ (by omega)
   exact mulB qO qO
  have hmx : (if (stN (normR cf) : Int) < (stN (normR cg) : Int) then (stN (normR cg) : Int) else (stN (normR cf) : Int)) = ((max (stN (normR cf)) (stN (normR cg)) : Nat) : Int) := by split <;> omega
  have hpb : ∀ t : Nat, t ≤ 1000 → (plusF (normR cf) (normR cg)) t = INF ∨ (0 ≤ (plusF (normR cf) (normR cg)) t ∧ (plusF (normR cf) (normR cg)) t ≤ 1000000000000000) := fun t ht => by
   unfold plusF
   by_cases h : isInf (normR cf) t ∨ isInf (normR cg) t
   ·rw [if_pos h]; exact .inl rfl
   ·rw [if_neg h]
    have a1 := fin_part hnf.valid (fun x => h (.inl x)) (show t ≤ 1000000000 by omega)
    have a2 := fin_part hng.valid (fun x => h (.inr x)) (show t ≤ 1000000000 by omega)
    right; omega
  refine zK (zU (zQ (zG (zR 2 rfl (zN (zU ?_))))))
  refine W.freezeBlk 0 rfl ?_
  intro R2 hR2 h7
  refine W.freezeBlk 0 rfl ?_
  intro R3 hR3 h6
  have h7 := hR3 _ _ h7
  have hx1 := hx1.mono (hR2.trans hR3)
  have hx2 := hx2.mono (hR2.trans hR3)
  have hF : ∀ t : Nat, t < max (stN (normR cf)) (stN (normR cg)) + (lcmN P1 P2) → FnV Tryz.prog 165 ((#[] : Array Value).toList ++ [.int .i64 (t : Int)] ++ (#[.pointer (some ⟨b6, 0, none⟩), .pointer (some ⟨b7, 0, none⟩)] : Array Value).toList) R3 (.int .i64 ((plusF (normR cf) (normR cg)) t)) := fun t ht => SumF_V hnf.valid hx1 hng.valid hx2 h6 h7 (by omega)
  refine zQ ?_
  refine W.regionH _ (ES := []) mixed ?_
  refine tP 0 ?_
  refine' WA.take 1 rfl qK qK qK rfl rfl qD (Yl.load1 tab_ok rfl rfl rfl (fun _ => rfl) ?r3 rfl ?h3) qS qR ?_
  case r3 => (exact Rd.ro qU)
  case h3 => rfl
  refine' WA.take 3 rfl qK qK qK rfl rfl qD (Yl.load1 tab_ok rfl rfl rfl (fun _ => rfl) ?r4 rfl ?h4) qS qR ?_
  case r4 => (exact Rd.ro qU)
  case h4 => rfl
  refine tP 6 ?_
  refine' WA.take 7 rfl qK qK qK rfl rfl qD (Yl.load1 tab_ok rfl rfl rfl (fun _ => rfl) ?r5 rfl ?h5) qS qR ?_
  case r5 => (exact Rd.ro qU)
  case h5 => rfl
  refine tP 8 ?_
  refine' WA.take 10 rfl qK qK qK rfl rfl qD (Yl.load1 tab_ok rfl rfl rfl (fun _ => rfl) ?r6 rfl ?h6) qS qR ?_
  case r6 => (exact Rd.ro qU)
  case h6 => rfl
  refine tP 11 ?_
  refine WA.callG 2 rfl qK en146 rfl (by first | rfl | decide) rfl qD (CallOp.mkT rfl rfl rfl rfl) ((WStartG_V hnf.valid hx1).toFn) ?_
  rintro _ _ _ - ⟨rfl, rfl, rfl⟩
  refine ⟨qR, qS, ?_⟩
  refine WA.callG 4 rfl qK en146 rfl (by first | rfl | decide) rfl qD (CallOp.mkT rfl rfl rfl rfl) ((WStartG_V hng.valid hx2).toFn) ?_
  rintro _ _ _ - ⟨rfl, rfl, rfl⟩
  refine ⟨qR, qS, ?_⟩
  refine tP 5 ?_
  refine WA.callG 9 rfl qK en167 rfl (by first | rfl | decide) rfl qD (CallOp.mkT rfl rfl rfl rfl) ((PGainG_V hnf.valid hx1 qO).toFn) ?_
  rintro _ _ _ - ⟨rfl, rfl, rfl⟩
  refine ⟨qR, qS, ?_⟩
  refine WA.callG 12 rfl qK en167 rfl (by first | rfl | decide) rfl qD (CallOp.mkT rfl rfl rfl rfl) ((PGainG_V hng.valid hx2 qO).toFn) ?_
  rintro _ _ _ - ⟨rfl, rfl, rfl⟩
  refine ⟨qR, qS, ?_⟩
  refine tA 13 ?_
  refine WA.callG 14 rfl qK en82 rfl (by first | rfl | decide) rfl qD (CallOp.mkT rfl rfl rfl rfl) (hmx ▸ Build_C (S := max (stN (normR cf)) (stN (normR cg))) (P := (lcmN P1 P2)) (F := (plusF (normR cf) (normR cg))) en165 qO qO qO (fun t ht => hpb t qO) hF w0 _) ?_
  rintro _ R4 E4 hR4 ⟨fr, frc, rfl, hfr, hsub⟩
  refine ⟨hR4, List.nil_sublist _, ?_⟩
  refine WA.subE hsub ?_
  rw [← hd] at hfr ⊢
  unfold cvV
  refine tP 15 ?_
  refine tP 16 ?_
  refine zCE 17 0 ?_
  refine tP 18 ?_
  refine WA.done qK ?_
  refine zU (zT ?_)
  refine WE.retF tab_ok [_, _] rfl ⟨⟨_, _, _, rfl, rfl, rfl, qB, rfl⟩, rfl, trivial⟩ ((by first | exact hR1 | exact hR1.trans (hR2.trans (hR3.trans hR4)))) ?_
  exact ⟨fr, frc, rfl, hfr, qS⟩



theorem FlatF_V {R : Ro} {b1 : Nat} {k : Int} (h1 : R b1 = some [.int .i64 k]) (hk : 0 ≤ k ∧ k ≤ 1073741824) {t : Nat} (ht : t ≤ 1000000) : FnV Tryz.prog 163 [.int .i64 (t : Int), .pointer (some ⟨b1, 0, none⟩)] R (.int .i64 (flatF k t)) := by
 refine Fn.toV (fun w0 E => ?_)
 have hfl : k * (if (1 : Int) < (t : Int) then (1 : Int) else (t : Int)) = flatF k t := by
  unfold flatF
  by_cases h : t = 0
  ·subst h; simp
  ·rw [if_neg h, show (if (1 : Int) < (t : Int) then (1 : Int) else (t : Int)) = 1 by split <;> omega, Int.mul_one]
 have hfb : 0 ≤ flatF k t ∧ flatF k t ≤ 1073741824 := by unfold flatF; split <;> omega
 refine fE 8 Tryz.func163 ?_
 refine zQ (zG (zR 1 rfl (zN (zU (zQ (zG ?_))))))
 refine' WG.y rfl rfl qD (Yl.load1 tab_ok rfl rfl rfl (fun _ => rfl) ?r1 rfl ?h1) ?_
 case r1 => exact Rd.ro h1
 case h1 => rfl
 refine zR 2 rfl ?_
 refine WG.y rfl rfl qD (Yl.mul rfl rfl rfl (fun _ => rfl) qA) ?_
 refine zR 1 rfl (zN (zU (zT ?_)))
 refine sE (E := E) ?_
 refine WE.retF tab_ok [_] rfl ⟨rfl, trivial⟩ (RLe.refl _) ?_
 exact ⟨by rw [← hfl]; rfl, rfl⟩

theorem CFlat_C {R : Ro} {k : Int} (hk : 0 ≤ k ∧ k ≤ 1073741824) (w0 : World) (E : List Ent) : K.Fn Tryz.prog 149 [.int .i64 k] w0 R E (fun r R' E' => ∃ (f : Option Addr) (fc : Nat), r = cvV f fc (flatC k) ∧ RS R' 1 encI f (flatC k).1.vals ∧ E.Sublist E') := by
 have hd : flatC k = mbuild (flatF k) 1 1 0 := rfl
 refine fE 14 Tryz.func149 ?_
 refine zQ (zG ?_)
 refine zO fun b1 => ?_
 refine zA fun b2 => ?_
 refine zR 1 rfl (zN (zU (zQ (zQ (zG ?_)))))
 refine yL (Rd.blk 1 rfl) ?_
 refine zR 1 rfl (zN (zU ?_))
 refine W.condD rfl (fun hc0 => ?_) (fun hc0 => ?_)
 ·try dsimp only at hc0
  omega
 ·try dsimp only at hc0
  refine zK (zU (zQ (zQ (zG ?_))))
  refine yL (Rd.blk 1 rfl) ?_
  refine zR 1 rfl (zN (zU ?_))
  refine W.condD rfl (fun hc1 => ?_) (fun hc1 => ?_)
  ·try dsimp only at hc1
   omega
  ·try dsimp only at hc1
   refine zK (zU ?_)
   refine W.freezeBlk 1 rfl ?_
   intro R2 hR2 h1
   have hF : ∀ t : Nat, t < 1 + 1 → FnV Tryz.prog 163 ((#[] : Array Value).toList ++ [.int .i64 (t : Int)] ++ (#[.pointer (some ⟨b1, 0, none⟩)] : Array Value).toList) R2 (.int .i64 (flatF k t)) := fun t ht => FlatF_V h1 hk (by omega)
   refine zQ (zG (zR 1 rfl ?_))
   refine WL.call en82 rfl rfl qD (CallOp.mkT rfl rfl rfl rfl) (Build_C (S := 1) (P := 1) (F := flatF k) en163 qO qO qO (fun t ht => .inr (flatF_bound hk t)) hF w0 _) ?_
   rintro _ R4 E4 hR4 ⟨fr, frc, rfl, hfr, hsub⟩
   refine WL.subE hsub ?_
   rw [← hd] at hfr ⊢
   unfold cvV
   refine zR 2 rfl ?_
   refine zE 0 ?_
   refine zR 1 rfl (zN (zU (zT ?_)))
   refine WE.retF tab_ok [_, _] rfl ⟨⟨_, _, _, rfl, rfl, rfl, qB, rfl⟩, rfl, trivial⟩ (hR2.trans hR4) ?_
   exact ⟨fr, frc, rfl, hfr, qS⟩

set_option maxHeartbeats 1000000 in
theorem PTotal_C {R : Ro} {la : Option Addr} {lc : Nat} {ls : List CvS} (hla : RS R 3 encC la ls) (hls : ∀ x ∈ ls, RS R 1 encI x.a x.cv.vals ∧ validB x.cv = true) (w0 : World) (E : List Ent) : K.Fn Tryz.prog 91 [.slice la ls.length lc] w0 R E (fun r R' E' => ∃ (f : Option Addr) (fc : Nat), r = cvV f fc (totalC (ls.map CvS.cv)) ∧ RS R' 1 encI f (totalC (ls.map CvS.cv)).1.vals ∧ E.Sublist E') := by
 have hll := hla.len
 have hz0 : flatC 0 = (zeroC, 0) := flat_zero
 refine fE 31 Tryz.func91 ?_
 refine zQ (zG ?_)
 refine zA fun b2 => ?_
 refine zR 1 rfl (zN (zU (zQ (zG ?_))))
 refine WL.call en149 rfl rfl qD (CallOp.mkT rfl rfl rfl rfl) (CFlat_C (k := 0) qD w0 _) ?_
 rintro _ R1 _ hR1 ⟨fz, fzc, rfl, hfz, hsub⟩
 refine WL.subE hsub ?_
 rw [hz0] at hfz ⊢
 unfold cvV
 dsimp only at hfz ⊢
 refine zR 3 rfl ?_
 refine zA fun b4 => ?_
 refine zE 0 ?_
 refine zR 1 rfl (zN (zU (zQ (zQ (zG (zR 3 rfl (zN (zU (zB ?_)))))))))
 refine W.loopR (β := Nat × Cv × Option Addr × Nat × Ro) (fun (i, s, sa, sc, Rk) => i ≤ ls.length ∧ RLe R1 Rk ∧ Nrm s ∧ RS Rk 1 encI sa s.vals ∧ totalC (ls.map CvS.cv) = totalGo s ((ls.map CvS.cv).drop i)) (fun (i, s, sa, sc, Rk) => [(5, true, .int .i64 0), (14, true, .int .i64 (i : Int))]) [2, 4, 12, 13] [_, _, _, _] [] _ rfl (fun (i, s, sa, sc, Rk) => [(0, .blk b4 [.slice sa s.vals.length sc, .int .i64 s.per, .int .i64 s.inc])]) (fun (i, s, sa, sc, Rk) => Rk) (fun (i, s, sa, sc, Rk) => ls.length - i) ((0, zeroC, fz, fzc, R1)) (⟨Nat.zero_le _, RLe.refl _, zero_nrm, hfz, rfl⟩) ⟨rfl, rfl, rfl, rfl, rfl, rfl, rfl⟩ (RLe.refl _) qS ?_
 intro zz hst
 obtain ⟨i, s, sa, sc, Rk⟩ := zz
 dsimp only [zipE, setAll, List.cons_append, List.nil_append, List.set_cons_zero, List.set_cons_succ] at hst ⊢
 obtain ⟨hi, hRk, hns, hsa, htot⟩ := hst
 have hla := hla.mono (hR1.trans hRk)
 refine zQ (zG (zR 1 rfl (zN (zU (zQ ?_)))))
 refine W.condD rfl (fun hc0 => ?_) (fun hc0 => ?_)
 ·try dsimp only at hc0
  have hil : i < ls.length := by omega
  have hxi := hls _ (nth_mem hil)
  have hvx := hxi.2
  have hxa := hxi.1.mono (hR1.trans hRk)
  refine zK (zU (zQ (zB (zQ (zG ?_)))))
  refine WG.y rfl rfl qD (Yl.indexN tab_ok rfl rfl rfl rfl rfl rfl (fun _ => rfl) qN qH) ?_
  refine yR ?_
  refine zA fun b7 => ?_
  refine zE 0 ?_
  refine zN (zU (zQ (zG ?_)))
  refine yL (Rd.blk 1 rfl) ?_
  refine yL (Rd.blk 0 rfl) ?_
  refine WL.call en150 rfl rfl qD (CallOp.mkT rfl rfl rfl rfl) (PSum_C hns.valid hsa hvx hxa w0 _) ?_
  rintro _ R2 _ hR2 ⟨fr, frc, rfl, hfr, hsub⟩
  refine WL.subE hsub ?_
  unfold cvV
  have hgo : totalC (ls.map CvS.cv) = if (sumC s (nth ls i).cv).2 ≠ 0 then (zcv, (sumC s (nth ls i).cv).2) else totalGo (sumC s (nth ls i).cv).1 ((ls.map CvS.cv).drop (i + 1)) := by
   rw [htot, drop_map_cons hil]
   rfl
  have hsr := sum_res hns.valid hvx
  generalize sumC s (nth ls i).cv = sr at hfr hgo hsr ⊢
  obtain ⟨sv, se⟩ := sr
  dsimp only at hfr hgo hsr ⊢
  refine zR 3 rfl ?_
  refine zE 1 ?_
  refine zR 1 rfl (zN (zU (zQ (zG (zR 2 rfl (zN (zU ?_)))))))
  refine W.condN rfl (fun hc1 => ?_) (fun hc1 => ?_)
  ·try dsimp only at hc1
   have hd : totalC (ls.map CvS.cv) = (zcv, se) := by rw [hgo, if_pos hc1]
   refine zQ (zG ?_)
   -- build
   refine WG.y rfl rfl qD (Yl.build (parts := []) tab_ok rfl rfl rfl rfl (fun _ => rfl) rfl rfl) ?_
   refine zR 1 rfl ?_
   refine zE 2 ?_
   refine zR 1 rfl (zN (zU (zT (wb (wt (wt (wb (wt ?_))))))))
   refine WE.retF tab_ok [_, _] rfl ⟨⟨_, _, _, rfl, rfl, rfl, qB, rfl⟩, rfl, trivial⟩ ((by first | exact hR1.trans (hRk.trans hR2) | exact hR1.trans hRk)) ?_
   exact ⟨none, 0, by rw [hd]; rfl, by rw [hd]; exact rs_nil, qS⟩
  ·try dsimp only at hc1
   have hd2 : totalC (ls.map CvS.cv) = totalGo sv ((ls.map CvS.cv).drop (i + 1)) := by rw [hgo, if_neg (fun h => h hc1)]
   obtain ⟨rfl, hnsv⟩ : se = 0 ∧ Nrm sv := by
    rcases hsr with h | ⟨c, h1, h2, _⟩
    ·have := congrArg Prod.snd h; dsimp only at this; omega
    ·have e1 := congrArg Prod.fst h1
     have e2 := congrArg Prod.snd h1
     dsimp only at e1 e2
     exact ⟨e2, by rw [e1]; exact h2⟩
   refine zK (zL (zU (zG ?_)))
   refine yA ?_
   refine zR 1 rfl (zN ?_)
   refine WE.again ((i + 1, sv, fr, frc, R2)) (⟨by dsimp only; omega, hRk.trans hR2, hnsv, hfr, hd2⟩) (by (try dsimp only); omega) ⟨rfl, rfl, rfl, rfl, rfl, rfl, rfl⟩ (RLe.refl _) qS
 ·try dsimp only at hc0
  obtain rfl : i = ls.length := by omega
  have hd : totalC (ls.map CvS.cv) = (s, 0) := by rw [htot, List.drop_eq_nil_of_le (by simp)]; rfl
  refine zX ?_
  refine wx (wx (zY (zU (zQ (zG ?_)))))
  refine yL (Rd.blk 0 rfl) ?_
  refine zR 1 rfl ?_
  refine zE 1 ?_
  refine zR 1 rfl (zN (zU (zT ?_)))
  refine WE.retF tab_ok [_, _] rfl ⟨⟨_, _, _, rfl, rfl, rfl, qB, rfl⟩, rfl, trivial⟩ ((by first | exact hR1.trans (hRk.trans hR2) | exact hR1.trans hRk)) ?_
  exact ⟨sa, sc, by rw [hd]; rfl, by rw [hd]; exact hsa, qS⟩





theorem PTotal_len {R : Ro} {la : Option Addr} {lc l : Nat} {ls : List CvS} (hl : ls.length = l) (hla : RS R 3 encC la ls) (hls : ∀ x ∈ ls, RS R 1 encI x.a x.cv.vals ∧ validB x.cv = true) (w0 : World) (E : List Ent) : K.Fn Tryz.prog 91 [.slice la l lc] w0 R E (fun r R' E' => ∃ (f : Option Addr) (fc : Nat), r = cvV f fc (totalC (ls.map CvS.cv)) ∧ RS R' 1 encI f (totalC (ls.map CvS.cv)).1.vals ∧ E.Sublist E') := by
 subst hl; exact PTotal_C hla hls w0 E



theorem ReachF_V {R : Ro} {fa : Option Addr} {fc : Nat} {F : Nat → Int} {S P : Nat} {I : Int} (hf : FC F S P I) (ha : RS R 1 encI fa (fvals F (S + P))) {v : Int} (hv : 0 ≤ v ∧ v ≤ 1000000000000000) : FnV Tryz.prog 89 [.agg #[.slice fa (fvals F (S + P)).length fc, .int .i64 (P : Int), .int .i64 I], .int .i64 v] R (.tuple #[.int .i64 (reachF F S P I v).1, .bool (reachF F S P I v).2]) := by
 have hfl := fvals_len F (S + P)
 have hP := hf.hP
 have hn := hf.hn
 have hI := hf.hI
 refine Fn.toV (fun w0 E => ?_)
 refine fE 66 Tryz.func89 ?_
 refine zQ (zG ?_)
 refine zO fun b2 => ?_
 refine zR 2 rfl (zN (zU (zQ (zQ (zG (zR 1 rfl ?_))))))
 refine yL (Rd.add (Rd.blk 0 rfl) _) ?_
 refine zR 2 rfl (zN (zU (zB ?_)))
 refine W.loopK (β := Nat) (fun t => t ≤ S + P ∧ ∀ j, j < t → F j < v) (fun t => [(15, true, .int .i64 (t : Int))]) [1, 2, 13, 14] [_, _, _, _] [] _ rfl (fun t => []) (fun t => S + P - t) (0) (⟨Nat.zero_le _, fun j hj => by omega⟩) ⟨rfl, rfl, rfl, rfl, rfl, rfl⟩ qS ?_
 intro t hst
 dsimp only [zipE, setAll, List.cons_append, List.nil_append, List.set_cons_zero, List.set_cons_succ] at hst ⊢
 obtain ⟨ht, hno⟩ := hst
 refine zQ (zG (zR 1 rfl (zN (zU (zQ ?_)))))
 refine W.condD rfl (fun hc0 => ?_) (fun hc0 => ?_)
 ·try dsimp only at hc0
  have htl : t < S + P := by omega
  have hft := fvals_nth F htl
  refine zK (zU (zQ (zB (zQ (zG (zR 1 rfl ?_))))))
  refine WG.y rfl rfl qD (Yl.indexN tab_ok rfl rfl rfl rfl rfl rfl (fun _ => rfl) qN qH) ?_
  refine yR ?_
  refine zR 2 rfl (zN (zU (zQ (zG (zR 3 rfl (zN (zU ?_)))))))
  refine W.condD rfl (fun hc1 => ?_) (fun hc1 => ?_)
  ·try dsimp only at hc1
   have hff : findFrom (fun t => decide (F t ≥ v)) (S + P) 0 = t := findFrom_some (Nat.zero_le _) (by omega) (decide_eq_true (by rw [← hft]; exact hc1)) (fun j _ hj => decide_eq_false (by have := hno j hj; omega))
   have hr : reachF F S P I v = ((t : Int), true) := by unfold reachF; rw [hff, if_pos (by omega)]
   refine zQ (zG (zR 3 rfl (zN (zU (zT (wb (wt (wt (wb (wt ?_))))))))))
   refine sE (E := E) ?_
   refine WE.retF tab_ok [_, _] rfl ⟨rfl, rfl, trivial⟩ (RLe.refl _) ?_
   exact ⟨by rw [hr]; rfl, rfl⟩
  ·try dsimp only at hc1
   refine zK (zL (zU (zG ?_)))
   refine yA ?_
   refine zR 1 rfl (zN ?_)
   refine WE.again (t + 1) (⟨by omega, fun j hj => by
    by_cases e : j = t
    ·subst e; rw [← hft]; omega
    ·exact hno j (by omega)⟩) (by (try dsimp only); omega) ⟨rfl, rfl, rfl, rfl, rfl, rfl⟩ (RLe.refl _) qS
 ·try dsimp only at hc0
  obtain rfl : t = S + P := by omega
  have hff : findFrom (fun t => decide (F t ≥ v)) (S + P) 0 = -1 := findFrom_none (fun j _ hj => decide_eq_false (by have := hno j (by omega); omega))
  have hlast := hno (S + P - 1) (by omega)
  have hvl : nth (fvals F (S + P)) ((((fvals F (S + P)).length : Int) - 1).toNat) = F (S + P - 1) := by rw [show (((fvals F (S + P)).length : Int) - 1).toNat = S + P - 1 by omega, fvals_nth F (by omega)]
  have hlb := hf.hb (S + P - 1) (by omega)
  have hl0 := hf.nonneg (S + P - 1)
  refine zX ?_
  refine wx (wx (zY (zU (zQ ?_))))
  refine W.regionQ _ mixed qK ?_
  refine zR 1 rfl ?_
  refine yL (Rd.add (Rd.blk 0 rfl) _) ?_
  refine zR 2 rfl ?_
  refine yL (Rd.add (Rd.blk 0 rfl) _) ?_
  refine zR 2 rfl (zN (zU (zQ (zQ (zG (zR 3 rfl ?_))))))
  refine yP ?_
  refine yG (Rd.addC (Rd.blkC 0 rfl) _) ?_
  refine yP ?_
  refine yO ?_
  refine zN (zU ?_)
  refine W.cond rfl (fun hc2 => ?_) (fun hc2 => ?_)
  ·try simp only [zk] at hc2
   have hI0 : I = 0 := by rcases hc2 with h | h; omega; exact h
   have hr : reachF F S P I v = (0, false) := by unfold reachF; rw [hff, if_neg (fun hh => hh rfl), if_pos hI0]
   refine zQ (zG (zR 2 rfl (zN (zU (zT (wt ?_))))))
   refine sE (E := E) ?_
   refine WE.retF tab_ok [_, _] rfl ⟨rfl, rfl, trivial⟩ (RLe.refl _) ?_
   exact ⟨by rw [hr]; rfl, rfl⟩
  ·try simp only [zk] at hc2
   have hI0 : I ≠ 0 := by
    intro h
    apply Classical.byContradiction
    intro hn
    simp_all
   obtain ⟨g1, g2, g3, g4⟩ := reach_facts hf hI0 hlast
   obtain ⟨k, hk⟩ := Int.eq_ofNat_of_zero_le (show 0 ≤ (v - F (S + P - 1) + I - 1) / I by omega)
   have hkv : (k : Int) ≤ v + I := by
    have : (k : Int) * 1 ≤ (k : Int) * I := Int.mul_le_mul_of_nonneg_left (by omega) (by omega)
    rw [hk] at g2; omega
   have hr : reachF F S P I v = (findFrom (fun t => decide (F t ≥ v)) (P + 1) (S + P + (k - 1) * P), true) := by unfold reachF; rw [hff, if_neg (fun hh => hh rfl), if_neg hI0, hk, Int.toNat_natCast]
   rw [hk, Int.toNat_natCast] at g3
   rw [hk] at g1 g2 g4
   have hkP : ((k - 1) * P : Nat) ≤ 1100000000000000 * 120 := Nat.mul_le_mul (by omega) (by omega)
   have hkP2 : ((k : Int) - 1) * (P : Int) = (((k - 1) * P : Nat) : Int) := by rw [Int.natCast_mul, show ((k - 1 : Nat) : Int) = (k : Int) - 1 by omega]
   generalize ht0 : S + P + (k - 1) * P = t0 at hr g3
   refine zK (zU (zQ ?_))
   refine W.regionQ _ mixed qK ?_
   refine zR 2 rfl ?_
   refine yL (Rd.add (Rd.blk 0 rfl) _) ?_
   refine zR 1 rfl ?_
   refine yS ?_
   refine WG.y rfl rfl qD (Yl.index tab_ok rfl rfl rfl rfl rfl rfl (fun _ => rfl) qA qH) ?_
   refine yR ?_
   rw [hvl]
   refine yS ?_
   refine zR 1 rfl ?_
   refine yL (Rd.add (Rd.blk 0 rfl) _) ?_
   refine yA ?_
   refine yS ?_
   refine zR 1 rfl ?_
   refine yL (Rd.add (Rd.blk 0 rfl) _) ?_
   refine WG.y rfl rfl qD (Yl.quo rfl rfl rfl (fun _ => rfl) qA (by intro _; omega)) ?_
   refine zR 1 rfl (zN (zU ?_))
   rw [hk]
   refine zQ (zG (zR 2 rfl ?_))
   refine yS ?_
   refine zR 1 rfl ?_
   refine WG.y rfl rfl qD (Yl.mul rfl rfl rfl (fun _ => rfl) qA) ?_
   refine yA ?_
   rw [hkP2, show (((fvals F (S + P)).length : Int)) + (((k - 1) * P : Nat) : Int) = (t0 : Int) by omega]
   refine zR 1 rfl (zN (zU (zQ (zB ?_))))
   refine W.loopK (β := Nat) (fun t => t0 ≤ t ∧ t ≤ t0 + (P - 1) ∧ ∀ j, t0 ≤ j → j < t → F j < v) (fun t => [(11, true, .int .i64 (t : Int))]) [1, 2] [_, _] [] _ rfl (fun t => []) (fun t => t0 + P - t) (t0) (⟨Nat.le_refl _, by omega, fun j a b => by omega⟩) ⟨rfl, rfl, rfl, rfl⟩ qS ?_
   intro t hst
   dsimp only [zipE, setAll, List.cons_append, List.nil_append, List.set_cons_zero, List.set_cons_succ] at hst ⊢
   obtain ⟨ht1, ht2, hno2⟩ := hst
   have hmt := hf.mono ht2
   have hbt : F t ≤ v + 1073741824 := by omega
   refine zQ (zQ (zG ?_))
   refine yL (Rd.blk 0 rfl) ?_
   refine zR 1 rfl ?_
   refine WG.callV en90 rfl rfl qD (CallOp.mk' rfl rfl rfl rfl) (fun _ => rfl) (fun hg => WAt_V hf ha qO qO) ?_
   refine zR 2 rfl (zN (zU ?_))
   refine W.condD rfl (fun hc3 => ?_) (fun hc3 => ?_)
   ·try dsimp only at hc3
    refine zK (zU (zB (zG (zR 1 rfl ?_))))
    refine yA ?_
    refine zR 1 rfl (zN (zL ?_))
    refine WE.again (t + 1) (⟨by omega, by
     apply Classical.byContradiction
     intro hn
     have e : t = t0 + (P - 1) := by omega
     rw [e, g3] at hc3
     omega, fun j a b => by
     by_cases e : j = t
     ·subst e; exact hc3
     ·exact hno2 j a (by omega)⟩) (by (try dsimp only); omega) ⟨rfl, rfl, rfl, rfl⟩ (RLe.refl _) qS
   ·try dsimp only at hc3
    have hff2 : findFrom (fun t => decide (F t ≥ v)) (P + 1) t0 = t := findFrom_some ht1 (by omega) (decide_eq_true (by omega)) (fun j a b => decide_eq_false (by have := hno2 j a b; omega))
    rw [hff2] at hr
    refine zX ?_
    refine wx (wx (zY (zU (zQ (zG (zR 3 rfl (zN (zU (zT ?_)))))))))
    refine sE (E := E) ?_
    refine WE.retF tab_ok [_, _] rfl ⟨rfl, rfl, trivial⟩ (RLe.refl _) ?_
    exact ⟨by rw [hr]; rfl, rfl⟩

theorem Greatest_V {R : Ro} {g : FuncId} {fi ca : Array Value} {f : Nat → Int × Bool} {n : Nat} (hE : Enters Tryz.prog g) (hF : ∀ t : Nat, t < n → FnV Tryz.prog g (fi.toList ++ [.int .i64 (t : Int)] ++ ca.toList) R (.tuple #[.int .i64 (f t).1, .bool (f t).2])) (hn : n ≤ 1000000) : FnV Tryz.prog 87 [.int .i64 (n : Int), .func (.func g) fi ca] R (.agg #[.bool (greatW f n 0 0 0).1, .int .i64 (greatW f n 0 0 0).2.1, .int .i64 (greatW f n 0 0 0).2.2]) := by
 refine Fn.toVS (fun w0 E => ?_)
 refine fE 32 Tryz.func87 ?_
 refine zQ (zG ?_)
 refine zA fun b4 => ?_
 refine zN (zU (zQ (zG ?_)))
 refine zA fun b5 => ?_
 refine zN (zU (zQ (zQ (zG (zR 2 rfl (zN (zU (zB ?_))))))))
 refine W.loopK (β := Nat × Int × Int) (fun (t, v, a) => t ≤ n ∧ greatW f (n - t) t v a = greatW f n 0 0 0) (fun (t, v, a) => [(10, true, .int .i64 (t : Int))]) [1, 4, 5, 9] [_, _, _, _] [] _ rfl (fun (t, v, a) => [(0, .blk b5 [.bool false, .int .i64 v, .int .i64 a])]) (fun (t, v, a) => n - t) ((0, 0, 0)) (⟨Nat.zero_le _, by rfl⟩) ⟨rfl, rfl, rfl, rfl, rfl, rfl⟩ qS ?_
 intro st hst
 obtain ⟨t, v, a⟩ := st
 dsimp only [zipE, setAll, List.cons_append, List.nil_append, List.set_cons_zero, List.set_cons_succ] at hst ⊢
 obtain ⟨ht, hg⟩ := hst
 refine zQ (zG (zR 1 rfl (zN (zU (zQ ?_)))))
 refine W.condD rfl (fun hc0 => ?_) (fun hc0 => ?_)
 ·try dsimp only at hc0
  have htl : t < n := by omega
  obtain ⟨m, hm⟩ : ∃ m, n - t = m + 1 := ⟨n - t - 1, by omega⟩
  have hm2 : n - (t + 1) = m := by omega
  rw [hm, greatW] at hg
  refine zK (zU (zQ (zB (zQ (zG (zR 2 rfl (zN (zU (zQ (zG (zR 2 rfl ?_)))))))))))
  refine WG.callV (v := .tuple #[.int .i64 (f t).1, .bool (f t).2]) hE rfl rfl qD (CallOp.mk' rfl rfl rfl rfl) (fun _ => rfl) (fun hg => hF t htl) ?_
  refine zR 5 rfl (zN (zU (zQ (zQ (zG (zR 2 rfl (zN (zU ?_))))))))
  refine W.cond rfl (fun hc1 => ?_) (fun hc1 => ?_)
  ·try simp only [zk] at hc1
   have hok : (f t).2 = false := by simpa using hc1
   rw [if_pos hok] at hg
   refine zQ (zG ?_)
   -- build
   refine WG.y rfl rfl qD (Yl.build (parts := [(0, .const (.bool true))]) tab_ok rfl rfl rfl rfl (fun _ => rfl) rfl rfl) ?_
   refine zE 1 ?_
   refine zN (zU (zT (wt (wb (wt (wt (wb (wt ?_))))))))
   refine WE.retF tab_ok [_] rfl ⟨⟨_, _, _, rfl, rfl, rfl, qB, rfl⟩, trivial⟩ (RLe.refl _) ?_
   exact ⟨by rw [← hg]; rfl, qS⟩
  ·try simp only [zk] at hc1
   have hok : ¬ (f t).2 = false := by simpa using hc1
   rw [if_neg hok] at hg
   refine zK (zU (zQ (zG (zR 2 rfl ?_))))
   refine yL (Rd.add (Rd.blk 0 rfl) _) ?_
   refine zR 1 rfl (zN (zU ?_))
   refine W.condD rfl (fun hc2 => ?_) (fun hc2 => ?_)
   ·try dsimp only at hc2
    rw [if_pos hc2, ← hm2] at hg
    refine zG (zR 3 rfl ?_)
    refine zF 0 ?_
    refine zR 1 rfl ?_
    refine zF 0 ?_
    refine zN (zL (zU (zG ?_)))
    refine yA ?_
    refine zR 1 rfl (zN ?_)
    refine WE.again ((t + 1, (f t).1, t)) (⟨by dsimp only; omega, hg⟩) (by (try dsimp only); omega) ⟨rfl, rfl, rfl, rfl, rfl, rfl⟩ (RLe.refl _) qS
   ·try dsimp only at hc2
    rw [if_neg (by omega), ← hm2] at hg
    refine zK (zL (zU (zG ?_)))
    refine yA ?_
    refine zR 1 rfl (zN ?_)
    refine WE.again ((t + 1, v, a)) (⟨by dsimp only; omega, hg⟩) (by (try dsimp only); omega) ⟨rfl, rfl, rfl, rfl, rfl, rfl⟩ (RLe.refl _) qS
 ·try dsimp only at hc0
  obtain rfl : t = n := by omega
  rw [Nat.sub_self, greatW] at hg
  refine zX ?_
  refine wx (wx (zY (zU (zQ (zG ?_)))))
  refine yL (Rd.blk 0 rfl) ?_
  refine zE 1 ?_
  refine zN (zU (zT ?_))
  refine WE.retF tab_ok [_] rfl ⟨⟨_, _, _, rfl, rfl, rfl, qB, rfl⟩, trivial⟩ (RLe.refl _) ?_
  exact ⟨by rw [← hg]; rfl, qS⟩





theorem CommonC_V {R : Ro} {m1 m2 : Cv} (hv1 : validB m1 = true) (hv2 : validB m2 = true) : FnV Tryz.prog 145 [.int .i64 m1.per, .int .i64 m2.per] R (.int .i64 (lcmC m1 m2 : Int)) := by
 obtain ⟨_, _, _, p1, p2, _⟩ := valid_range hv1
 obtain ⟨_, _, _, q1, q2, _⟩ := valid_range hv2
 have h := Common_V (R := R) (a := m1.per.toNat) (b := m2.per.toNat) (by omega) (by omega)
 rw [Int.toNat_of_nonneg (by omega), Int.toNat_of_nonneg (by omega)] at h
 exact h
theorem lcmC_le {m1 m2 : Cv} (hv1 : validB m1 = true) (hv2 : validB m2 = true) : lcmC m1 m2 ≤ 14400 := by
 obtain ⟨_, _, _, p1, p2, _⟩ := valid_range hv1
 obtain ⟨_, _, _, q1, q2, _⟩ := valid_range hv2
 exact Nat.le_trans (lcmN_facts qO qO).2.2.1 (Nat.mul_le_mul (show m1.per.toNat ≤ 120 by omega) (show m2.per.toNat ≤ 120 by omega))


theorem ReachI_V {R : Ro} {fa : Option Addr} {fc : Nat} {c : Cv} (hv : validB c = true) (ha : RS R 1 encI fa c.vals) {v : Int} (hx : (v = 4611686018427387904 ∧ finB c = true) ∨ (finB c = false ∧ 0 ≤ v ∧ v ≤ 4611686018427387904)) : FnV Tryz.prog 89 [.agg #[.slice fa c.vals.length fc, .int .i64 c.per, .int .i64 c.inc], .int .i64 v] R (.tuple #[.int .i64 (reachG c v).1, .bool (reachG c v).2]) := by
 refine Fn.toV (fun w0 E => ?_)
 obtain ⟨hr1, hr2, hr3, hr4, hr5, hr6, hr7, hr8⟩ := valid_range hv
 refine fE 66 Tryz.func89 ?_
 refine zQ (zG ?_)
 refine zO fun b2 => ?_
 refine zR 2 rfl (zN (zU (zQ (zQ (zG (zR 1 rfl ?_))))))
 refine yL (Rd.add (Rd.blk 0 rfl) _) ?_
 refine zR 2 rfl (zN (zU (zB ?_)))
 refine W.loopK (β := Nat) (fun t => t ≤ c.vals.length ∧ ∀ j, j < t → cvF c j < v) (fun t => [(15, true, .int .i64 (t : Int))]) [1, 2, 13, 14] [_, _, _, _] [] _ rfl (fun t => []) (fun t => c.vals.length - t) (0) (⟨Nat.zero_le _, fun j hj => by omega⟩) ⟨rfl, rfl, rfl, rfl, rfl, rfl⟩ qS ?_
 intro t hst
 dsimp only [zipE, setAll, List.cons_append, List.nil_append, List.set_cons_zero, List.set_cons_succ] at hst ⊢
 obtain ⟨ht, hno⟩ := hst
 refine zQ (zG (zR 1 rfl (zN (zU (zQ ?_)))))
 refine W.condD rfl (fun hc0 => ?_) (fun hc0 => ?_)
 ·try dsimp only at hc0
  have htl : t < c.vals.length := by omega
  have hft := cvF_low htl
  refine zK (zU (zQ (zB (zQ (zG (zR 1 rfl ?_))))))
  refine WG.y rfl rfl qD (Yl.indexN tab_ok rfl rfl rfl rfl rfl rfl (fun _ => rfl) qN qH) ?_
  refine yR ?_
  refine zR 2 rfl (zN (zU (zQ (zG (zR 3 rfl (zN (zU ?_)))))))
  refine W.condD rfl (fun hc1 => ?_) (fun hc1 => ?_)
  ·try dsimp only at hc1
   have hff : findFrom (fun t => decide (cvF c t ≥ v)) c.vals.length 0 = t := findFrom_some (Nat.zero_le _) (by omega) (decide_eq_true (by rw [hft]; exact hc1)) (fun j _ hj => decide_eq_false (by have := hno j hj; omega))
   have hr : reachG c v = ((t : Int), true) := by unfold reachG; rw [hff, if_pos (by omega)]
   refine zQ (zG (zR 3 rfl (zN (zU (zT (wb (wt (wt (wb (wt ?_))))))))))
   refine sE (E := E) ?_
   refine WE.retF tab_ok [_, _] rfl ⟨rfl, rfl, trivial⟩ (RLe.refl _) ?_
   exact ⟨by rw [hr]; rfl, rfl⟩
  ·try dsimp only at hc1
   refine zK (zL (zU (zG ?_)))
   refine yA ?_
   refine zR 1 rfl (zN ?_)
   refine WE.again (t + 1) (⟨by omega, fun j hj => by
    by_cases e : j = t
    ·subst e; rw [hft]; omega
    ·exact hno j (by omega)⟩) (by (try dsimp only); omega) ⟨rfl, rfl, rfl, rfl, rfl, rfl⟩ (RLe.refl _) qS
 ·try dsimp only at hc0
  obtain rfl : t = c.vals.length := by omega
  have hff : findFrom (fun t => decide (cvF c t ≥ v)) c.vals.length 0 = -1 := findFrom_none (fun j _ hj => decide_eq_false (by have := hno j (by omega); omega))
  refine zX ?_
  refine wx (wx (zY (zU (zQ ?_))))
  refine W.regionQ _ mixed qK ?_
  refine zR 1 rfl ?_
  refine yL (Rd.add (Rd.blk 0 rfl) _) ?_
  refine zR 2 rfl ?_
  refine yL (Rd.add (Rd.blk 0 rfl) _) ?_
  refine zR 2 rfl (zN (zU (zQ (zQ (zG (zR 3 rfl ?_))))))
  refine yP ?_
  refine yG (Rd.addC (Rd.blkC 0 rfl) _) ?_
  refine yP ?_
  refine yO ?_
  refine zN (zU ?_)
  refine W.cond rfl (fun hc2 => ?_) (fun hc2 => ?_)
  ·try simp only [zk] at hc2
   have hr : reachG c v = (0, false) := by unfold reachG; rw [hff, if_neg (fun hh => hh rfl), if_pos (by unfold INF; omega)]
   refine zQ (zG (zR 2 rfl (zN (zU (zT (wt ?_))))))
   refine sE (E := E) ?_
   refine WE.retF tab_ok [_, _] rfl ⟨rfl, rfl, trivial⟩ (RLe.refl _) ?_
   exact ⟨by rw [hr]; rfl, rfl⟩
  ·try simp only [zk] at hc2
   exfalso
   rcases hx with ⟨h, _⟩ | ⟨h1, h2, h3⟩
   ·first | exact hc2 (.inl h) | exact hc2.1 h
   ·obtain ⟨n, n1, _, n3⟩ := inf_at hv h1
    have hs := stN_lt hv
    have h4 := hno n (by omega)
    rw [n3.hi n (Nat.le_refl _)] at h4
    unfold INF at h4; omega

theorem ReachG_V {R : Ro} {fa : Option Addr} {fc : Nat} {c : Cv} (hv : validB c = true) (ha : RS R 1 encI fa c.vals) {v : Int} (hvv : v = 4611686018427387904 ∨ (0 ≤ v ∧ v ≤ 1000000000000000)) : FnV Tryz.prog 89 [.agg #[.slice fa c.vals.length fc, .int .i64 c.per, .int .i64 c.inc], .int .i64 v] R (.tuple #[.int .i64 (reachG c v).1, .bool (reachG c v).2]) := by
 cases hf : finB c with
 | false => exact ReachI_V hv ha (.inr ⟨hf, by omega⟩)
 | true =>
  by_cases h : v = 4611686018427387904
  ·exact ReachI_V hv ha (.inl ⟨h, hf⟩)
  ·rcases valid_cases hv with ⟨S, P, e, hl, hp, hfc, _⟩ | ⟨_, _, _, _, _, _, _, f⟩
   ·have h2 := reachG_F hl hp (v := v) (by unfold INF; exact h)
    have e2 : c.vals = fvals (cvF c) (S + P) := by rw [← hl]; exact cvF_vals c
    rw [h2, hp, e2]
    rw [e2] at ha
    exact ReachF_V hfc ha qO
   ·rw [hf] at f; cases f

set_option maxHeartbeats 2000000 in
theorem DBothG_C {R : Ro} {fa : Option Addr} {fc : Nat} {cf : Cv} (hvf : validB cf = true) (ha : RS R 1 encI fa cf.vals) {ga : Option Addr} {gc : Nat} {cg : Cv} (hvg : validB cg = true) (hb : RS R 1 encI ga cg.vals) (w0 : World) (E : List Ent) : K.Fn Tryz.prog 86 [.agg #[.slice fa cf.vals.length fc, .int .i64 cf.per, .int .i64 cf.inc], .agg #[.slice ga cg.vals.length gc, .int .i64 cg.per, .int .i64 cg.inc]] w0 R E (fun v R' E' => ∃ (f1 : Option Addr) (n1 c1 : Nat) (p1 q1 : Int) (f2 : Option Addr) (n2 c2 : Nat) (p2 q2 tk : Int) (lo : Bool) (e : Int), v = .tuple #[.agg #[.slice f1 n1 c1, .int .i64 p1, .int .i64 q1, .slice f2 n2 c2, .int .i64 p2, .int .i64 q2, .int .i64 tk, .bool lo], .int .i64 e] ∧
   ((e = 3 ∧ 120 < lcmC (normR cf) (normR cg)) ∨ (e = 0 ∧ ¬ 120 < lcmC (normR cf) (normR cg) ∧ n1 = (normR cf).vals.length ∧ p1 = (normR cf).per ∧ q1 = (normR cf).inc ∧ n2 = (normR cg).vals.length ∧ p2 = (normR cg).per ∧ q2 = (normR cg).inc ∧ RS R' 1 encI f1 (normR cf).vals ∧ RS R' 1 encI f2 (normR cg).vals ∧ tk = ((max (stN (normR cf)) (stN (normR cg)) + lcmC (normR cf) (normR cg) : Nat) : Int) ∧ lo = decide (loose (normR cf) (normR cg)))) ∧ E.Sublist E') := by
 have hnf := norm_nrm hvf
 have hng := norm_nrm hvg
 refine fE 65 Tryz.func86 ?_
 refine zQ (zG ?_)
 refine zO fun b2 => ?_
 refine zO fun b3 => ?_
 refine zA fun b4 => ?_
 refine zR 1 rfl (zN (zU (zQ (zG ?_))))
 refine yL (Rd.blk 2 rfl) ?_
 refine WL.call en144 rfl rfl qD (CallOp.mkT rfl rfl rfl rfl) (CNormalV_C hvf ha w0 _) ?_
 rintro _ R1 _ hR1 ⟨fa1x, ca1x, rfl, ha1x, hsub⟩
 refine WL.subE hsub ?_
 unfold cvV
 dsimp only at ha1x ⊢
 have hb := hb.mono hR1
 refine zR 3 rfl ?_
 refine zA fun b6 => ?_
 refine zE 0 ?_
 refine zR 1 rfl (zN (zU (zQ (zQ (zG (zR 2 rfl (zN (zU ?_))))))))
 refine W.condN rfl (fun hc0 => ?_) (fun hc0 => ?_)
 ·try dsimp only at hc0
  exact absurd rfl hc0
 ·try dsimp only at hc0
  refine zK (zU (zQ (zG ?_)))
  refine yL (Rd.blk 2 rfl) ?_
  refine WL.call en144 rfl rfl qD (CallOp.mkT rfl rfl rfl rfl) (CNormalV_C hvg hb w0 _) ?_
  rintro _ R2 _ hR2 ⟨fa2x, ca2x, rfl, ha2x, hsub⟩
  refine WL.subE hsub ?_
  unfold cvV
  dsimp only at ha2x ⊢
  have ha1x := ha1x.mono hR2
  generalize normR cf = m1 at *
  generalize normR cg = m2 at *
  have hv1 := hnf.valid
  have hv2 := hng.valid
  have hlle := lcmC_le hv1 hv2
  have hlp := lcm_pos hv1 hv2
  have hs1 := stN_lt hv1
  have hs2 := stN_lt hv2
  refine zR 3 rfl ?_
  refine zA fun b8 => ?_
  refine zE 0 ?_
  refine zR 1 rfl (zN (zU (zQ (zQ (zG (zR 2 rfl (zN (zU ?_))))))))
  refine W.condN rfl (fun hc1 => ?_) (fun hc1 => ?_)
  ·try dsimp only at hc1
   exact absurd rfl hc1
  ·try dsimp only at hc1
   refine zK (zU (zQ (zG (zR 1 rfl ?_))))
   refine yL (Rd.add (Rd.blk 1 rfl) _) ?_
   refine zR 1 rfl ?_
   refine yL (Rd.add (Rd.blk 0 rfl) _) ?_
   refine WG.callV (v := .int .i64 (lcmC m1 m2 : Int)) en145 rfl rfl qD (CallOp.mk' rfl rfl rfl rfl) (fun _ => rfl) (fun hg => CommonC_V hv1 hv2) ?_
   refine zR 1 rfl (zN (zU (zQ (zQ (zG (zR 2 rfl (zN (zU ?_))))))))
   refine W.condD rfl (fun hc2 => ?_) (fun hc2 => ?_)
   ·try dsimp only at hc2
    refine zQ (zG ?_)
    -- build
    refine WG.y rfl rfl qD (Yl.build (parts := []) tab_ok rfl rfl rfl rfl (fun _ => rfl) rfl rfl) ?_
    refine zE 2 ?_
    refine zR 1 rfl (zN (zU (zT (wt ?_))))
    refine WE.retF tab_ok [_, _] rfl ⟨⟨_, _, _, rfl, rfl, rfl, qB, rfl⟩, rfl, trivial⟩ (hR1.trans hR2) ?_
    exact ⟨none, 0, 0, 0, 0, none, 0, 0, 0, 0, 0, false, _, rfl, .inl ⟨rfl, by omega⟩, qS⟩
   ·try dsimp only at hc2
    have hl1 : ¬ 120 < lcmC m1 m2 := by omega
    refine zK (zU ?_)
    refine W.seqCut (β := Nat × Int) (fun (b10, tk) => tk = ((max (stN m1) (stN m2) + lcmC m1 m2 : Nat) : Int)) (fun (b10, tk) => [(4, true, .pointer (some ⟨b4, 0, none⟩)), (6, true, .pointer (some ⟨b6, 0, none⟩)), (8, true, .pointer (some ⟨b8, 0, none⟩)), (9, true, .int .i64 (lcmC m1 m2 : Int)), (10, true, .pointer (some ⟨b10, 0, none⟩))]) (fun _ => R2) (fun (b10, tk) => .blk b10 [.slice fa1x m1.vals.length ca1x, .int .i64 m1.per, .int .i64 m1.inc, .slice fa2x m2.vals.length ca2x, .int .i64 m2.per, .int .i64 m2.inc, .int .i64 tk, .bool false] :: .blk b8 [.slice fa2x m2.vals.length ca2x, .int .i64 m2.per, .int .i64 m2.inc] :: .blk b6 [.slice fa1x m1.vals.length ca1x, .int .i64 m1.per, .int .i64 m1.inc] :: .blk b4 [.slice none 0 0, .int .i64 0, .int .i64 0, .slice none 0 0, .int .i64 0, .int .i64 0, .int .i64 0, .bool false] :: E) ?_ ?_
    ·
     intro st hst
     obtain ⟨b10, tk⟩ := st
     obtain rfl : tk = _ := hst
     dsimp only
     have hloq : (finB m2 && (!finB m1 || decide (gainC m1 (lcmC m1 m2) > gainC m2 (lcmC m1 m2)))) = decide (loose m1 m2) := by
      rw [Bool.eq_iff_iff, decide_eq_true_iff]
      unfold loose
      simp
     refine zQ ?_
     refine W.regionH _ (ES := [.blk b8 [.slice fa2x m2.vals.length ca2x, .int .i64 m2.per, .int .i64 m2.inc], .blk b6 [.slice fa1x m1.vals.length ca1x, .int .i64 m1.per, .int .i64 m1.inc]]) mixed ?_
     refine tL 0 (Rd.blk 0 rfl) ?_
     refine WA.callV 1 rfl qK en147 rfl rfl qD (CallOp.mk' rfl rfl rfl rfl) (fun _ => rfl) (fun hg => WFiniteG_V hv2 ha2x) qS qR ?_
     refine tP 2 ?_
     refine' WA.take 3 rfl qK qK qK rfl rfl qD (Yl.loadG tab_ok rfl rfl rfl qE ?r6 rfl ?h6 ?g6) qS qR ?_
     case r6 => (exact Rd.blkC 1 rfl)
     case h6 => rfl
     case g6 => exact fun _ => trivial
     refine WA.callV 4 rfl qK en147 rfl rfl qD (CallOp.mk' rfl rfl rfl rfl) qE (fun hg => WFiniteG_V hv1 ha1x) qS qR ?_
     refine WA.take 5 rfl qK qK qK rfl rfl qD (pureV_ok tab_ok rfl qE) qS qR ?_
     refine WA.take 6 rfl qK qK qK rfl rfl qD (pureV_ok tab_ok rfl qE) qS qR ?_
     refine' WA.take 7 rfl qK qK qK rfl rfl qD (Yl.loadG tab_ok rfl rfl rfl qE ?r7 rfl ?h7 ?g7) qS qR ?_
     case r7 => (exact Rd.blkC 1 rfl)
     case h7 => rfl
     case g7 => exact fun _ => trivial
     refine WA.take 8 rfl qK qK qK rfl rfl qD (pureV_ok tab_ok rfl qE) qS qR ?_
     refine' WA.take 10 rfl qK qK qK rfl rfl qD (Yl.loadG tab_ok rfl rfl rfl qE ?r8 rfl ?h8 ?g8) qS qR ?_
     case r8 => (exact Rd.blkC 0 rfl)
     case h8 => rfl
     case g8 => exact fun _ => trivial
     refine WA.take 11 rfl qK qK qK rfl rfl qD (pureV_ok tab_ok rfl qE) qS qR ?_
     refine WA.callV 9 (v := .int .i64 (gainC m1 (lcmC m1 m2))) rfl qK en148 rfl rfl qD (CallOp.mk' rfl rfl rfl rfl) qE (fun hg => WGainG_V hv1 ha1x (L := lcmC m1 m2) qO) qS qR ?_
     refine WA.callV 12 (v := .int .i64 (gainC m2 (lcmC m1 m2))) rfl qK en148 rfl rfl qD (CallOp.mk' rfl rfl rfl rfl) qE (fun hg => WGainG_V hv2 ha2x (L := lcmC m1 m2) qO) qS qR ?_
     refine WA.take 13 rfl qK qK qK rfl rfl qD (pureV_ok tab_ok rfl qE) qS qR ?_
     refine WA.take 14 rfl (by kernel_rfl) (by kernel_rfl) (by kernel_rfl) rfl rfl (by decide) (Yl.por rfl rfl rfl qE (by intro h1 h2; simp_all <;> omega)) qS (by first | exact RLe.refl _ | assumption) ?_
     refine WA.take 15 rfl (by kernel_rfl) (by kernel_rfl) (by kernel_rfl) rfl rfl (by decide) (Yl.pand rfl rfl rfl (fun _ => rfl) (by intro h1 h2; simp_all <;> omega)) qS (by first | exact RLe.refl _ | assumption) ?_
     refine tP 16 ?_
     refine zCF 17 0 ?_
     refine WA.done qK ?_
     refine zU (zQ (zG ?_))
     refine yL (Rd.blk 0 rfl) ?_
     refine zE 3 ?_
     refine zR 1 rfl (zN (zU (zT ?_)))
     refine WE.retF tab_ok [_, _] rfl ⟨⟨_, _, _, rfl, rfl, rfl, qB, rfl⟩, rfl, trivial⟩ (hR1.trans hR2) ?_
     refine ⟨fa1x, _, ca1x, _, _, fa2x, _, ca2x, _, _, _, _, _, rfl, .inr ⟨rfl, hl1, rfl, rfl, rfl, rfl, rfl, rfl, ha1x, ha2x, ?_, ?_⟩, qS⟩
     ·first | rfl | omega | (split <;> omega)
     ·first | exact hloq | (rw [← hloq]; rfl)
    ·
     refine W.regionH _ (ES := [.blk b8 [.slice fa2x m2.vals.length ca2x, .int .i64 m2.per, .int .i64 m2.inc], .blk b6 [.slice fa1x m1.vals.length ca1x, .int .i64 m1.per, .int .i64 m1.inc]]) mixed ?_
     refine tL 0 (Rd.blk 1 rfl) ?_
     refine tL 1 (Rd.blk 0 rfl) ?_
     refine tL 2 (Rd.blk 1 rfl) ?_
     refine tL 4 (Rd.blk 0 rfl) ?_
     refine tP 7 ?_
     refine WA.br2 (i := 3) (j := 10) qK ?_ ?_
     ·
      refine WS.callV rfl en146 rfl rfl qD (CallOp.mk' rfl rfl rfl rfl) (fun _ => rfl) (fun hg => WStartG_V hv1 ha1x) qS qR ?_
      refine WA.br2 (i := 5) (j := 10) qK ?_ ?_
      ·
       refine WS.callV rfl en146 rfl rfl qD (CallOp.mk' rfl rfl rfl rfl) (fun _ => rfl) (fun hg => WStartG_V hv2 ha2x) qS qR ?_
       refine tP 6 ?_
       refine tA 8 ?_
       -- build
       refine WA.take 9 rfl qK qK qK rfl rfl qD (Yl.build (parts := [(0, .tmp 37), (1, .tmp 38), (2, .tmp 45)]) tab_ok rfl rfl rfl rfl (fun _ => rfl) rfl rfl) qS qR ?_
       refine WA.eff 10 rfl qK rfl rfl qD (Ef.alloc tab_ok rfl rfl (fun b10 => ?_))
       refine ⟨qR, qS, ?_⟩
       refine zCE 11 0 ?_
       refine WA.done qK ?_
       refine WE.cut (b10, (if (stN m1 : Int) < (stN m2 : Int) then (stN m2 : Int) else (stN m1 : Int)) + (lcmC m1 m2 : Int)) (by first | rfl | omega | (split <;> omega)) ⟨rfl, rfl, rfl, rfl, rfl, rfl⟩ (RLe.refl _) qS
      ·
       refine WS.eff rfl rfl rfl qD (Ef.alloc tab_ok rfl rfl (fun b10 => ?_))
       refine ⟨qR, qS, ?_⟩
       refine WA.callV 5 rfl qK en146 rfl rfl qD (CallOp.mk' rfl rfl rfl rfl) (fun _ => rfl) (fun hg => WStartG_V hv2 ha2x) qS qR ?_
       refine tP 6 ?_
       refine tA 8 ?_
       -- build
       refine WA.take 9 rfl qK qK qK rfl rfl qD (Yl.build (parts := [(0, .tmp 37), (1, .tmp 38), (2, .tmp 45)]) tab_ok rfl rfl rfl rfl (fun _ => rfl) rfl rfl) qS qR ?_
       refine zCE 11 0 ?_
       refine WA.done qK ?_
       refine WE.cut (b10, (if (stN m1 : Int) < (stN m2 : Int) then (stN m2 : Int) else (stN m1 : Int)) + (lcmC m1 m2 : Int)) (by first | rfl | omega | (split <;> omega)) ⟨rfl, rfl, rfl, rfl, rfl, rfl⟩ (RLe.refl _) qS
     ·
      refine WS.eff rfl rfl rfl qD (Ef.alloc tab_ok rfl rfl (fun b10 => ?_))
      refine ⟨qR, qS, ?_⟩
      refine WA.callV 3 rfl qK en146 rfl rfl qD (CallOp.mk' rfl rfl rfl rfl) (fun _ => rfl) (fun hg => WStartG_V hv1 ha1x) qS qR ?_
      refine WA.callV 5 rfl qK en146 rfl rfl qD (CallOp.mk' rfl rfl rfl rfl) (fun _ => rfl) (fun hg => WStartG_V hv2 ha2x) qS qR ?_
      refine tP 6 ?_
      refine tA 8 ?_
      -- build
      refine WA.take 9 rfl qK qK qK rfl rfl qD (Yl.build (parts := [(0, .tmp 37), (1, .tmp 38), (2, .tmp 45)]) tab_ok rfl rfl rfl rfl (fun _ => rfl) rfl rfl) qS qR ?_
      refine zCE 11 0 ?_
      refine WA.done qK ?_
      refine WE.cut (b10, (if (stN m1 : Int) < (stN m2 : Int) then (stN m2 : Int) else (stN m1 : Int)) + (lcmC m1 m2 : Int)) (by first | rfl | omega | (split <;> omega)) ⟨rfl, rfl, rfl, rfl, rfl, rfl⟩ (RLe.refl _) qS

theorem DelayFG_V {R : Ro} {a1 : Option Addr} {c1 : Nat} {m1 : Cv} (hv1 : validB m1 = true) (hx1 : RS R 1 encI a1 m1.vals) {a2 : Option Addr} {c2 : Nat} {m2 : Cv} (hv2 : validB m2 = true) (hx2 : RS R 1 encI a2 m2.vals) {b6 : Nat} {tk : Int} {lo : Bool} (h6 : R b6 = some [.slice a1 m1.vals.length c1, .int .i64 m1.per, .int .i64 m1.inc, .slice a2 m2.vals.length c2, .int .i64 m2.per, .int .i64 m2.inc, .int .i64 tk, .bool lo]) {t : Nat} (ht : t ≤ 100000) : FnV Tryz.prog 88 [.int .i64 (t : Int), .pointer (some ⟨b6, 0, none⟩)] R (.tuple #[.int .i64 (gapD m1 m2 t).1, .bool (gapD m1 m2 t).2]) := by
 have hlow := cvF_low15 hv1 ht
 have hrb := reachG_bound hv2 hlow
 unfold INF at hlow
 refine Fn.toV (fun w0 E => ?_)
 refine fE 21 Tryz.func88 ?_
 refine zQ (zG (zR 2 rfl (zN (zU (zQ ?_)))))
 refine W.regionQ _ mixed qK ?_
 refine zR 1 rfl ?_
 refine' WG.y rfl rfl qD (Yl.load1 tab_ok rfl rfl rfl (fun _ => rfl) ?r1 rfl ?h1) ?_
 case r1 => apply Rd.add; (exact Rd.ro qU)
 case h1 => rfl
 refine zR 1 rfl ?_
 refine' WG.y rfl rfl qD (Yl.load1 tab_ok rfl rfl rfl (fun _ => rfl) ?r2 rfl ?h2) ?_
 case r2 => apply Rd.add; (exact Rd.ro qU)
 case h2 => rfl
 refine zR 1 rfl ?_
 refine WG.callV en90 rfl rfl qD (CallOp.mk' rfl rfl rfl rfl) (fun _ => rfl) (fun hg => WAtG_V hv1 hx1 qO) ?_
 refine WG.callV en89 rfl rfl qD (CallOp.mk' rfl rfl rfl rfl) (fun _ => rfl) (fun hg => ReachG_V hv2 hx2 hlow) ?_
 refine zR 5 rfl (zN (zU (zQ (zG (zR 2 rfl ?_)))))
 refine yS ?_
 refine zR 3 rfl (zN (zU (zT ?_)))
 refine sE (E := E) ?_
 refine WE.retF tab_ok [_, _] rfl ⟨rfl, rfl, trivial⟩ (RLe.refl _) ?_
 exact ⟨rfl, rfl⟩

theorem DelayG_C {R : Ro} {fa : Option Addr} {fc : Nat} {cf : Cv} (hvf : validB cf = true) (ha : RS R 1 encI fa cf.vals) {ga : Option Addr} {gc : Nat} {cg : Cv} (hvg : validB cg = true) (hb : RS R 1 encI ga cg.vals) (w0 : World) (E : List Ent) : K.Fn Tryz.prog 47 [.agg #[.slice fa cf.vals.length fc, .int .i64 cf.per, .int .i64 cf.inc], .agg #[.slice ga cg.vals.length gc, .int .i64 cg.per, .int .i64 cg.inc]] w0 R E (fun v R' E' => v = .tuple #[.agg #[.bool ((devN (normR cf) (normR cg) (gapD (normR cf) (normR cg)))).1.1, .int .i64 ((devN (normR cf) (normR cg) (gapD (normR cf) (normR cg)))).1.2.1, .int .i64 ((devN (normR cf) (normR cg) (gapD (normR cf) (normR cg)))).1.2.2], .int .i64 ((devN (normR cf) (normR cg) (gapD (normR cf) (normR cg)))).2] ∧ E.Sublist E') := by
 have hnf := norm_nrm hvf
 have hng := norm_nrm hvg
 refine fE 25 Tryz.func47 ?_
 refine zQ (zG ?_)
 refine zO fun b2 => ?_
 refine zO fun b3 => ?_
 refine zA fun b4 => ?_
 refine zR 1 rfl (zN (zU (zQ (zG ?_))))
 refine yL (Rd.blk 2 rfl) ?_
 refine yL (Rd.blk 1 rfl) ?_
 refine WL.call en86 rfl rfl qD (CallOp.mkT rfl rfl rfl rfl) (DBothG_C hvf ha hvg hb w0 _) ?_
 rintro _ R1 _ hR1 ⟨a1, n1, c1, p1, q1, a2, n2, c2, p2, q2, tk, lo, e, rfl, hpair, hsub⟩
 refine WL.subE hsub ?_
 refine zR 3 rfl ?_
 refine zA fun b6 => ?_
 refine zE 0 ?_
 refine zR 1 rfl (zN (zU (zQ (zQ (zG (zR 2 rfl (zN (zU ?_))))))))
 refine W.condN rfl (fun hc0 => ?_) (fun hc0 => ?_)
 ·try dsimp only at hc0
  obtain ⟨rfl, hl⟩ : e = 3 ∧ 120 < lcmC (normR cf) (normR cg) := by
   rcases hpair with h | h
   ·exact h
   ·exact absurd h.1 hc0
  have hd : (devN (normR cf) (normR cg) (gapD (normR cf) (normR cg))) = ((false, 0, 0), 3) := by unfold devN; rw [if_pos hl]
  refine zQ (zG ?_)
  -- build
  refine WG.y rfl rfl qD (Yl.build (parts := []) tab_ok rfl rfl rfl rfl (fun _ => rfl) rfl rfl) ?_
  refine zR 1 rfl ?_
  refine zE 1 ?_
  refine zR 1 rfl (zN (zU (zT (wt ?_))))
  refine WE.retF tab_ok [_, _] rfl ⟨⟨_, _, _, rfl, rfl, rfl, qB, rfl⟩, rfl, trivial⟩ ((by first | exact hR1.trans (hR2.trans hR3) | exact hR1.trans hR2 | exact hR1)) ?_
  exact ⟨by rw [hd]; rfl, qS⟩
 ·try dsimp only at hc0
  obtain ⟨rfl, hl, rfl, rfl, rfl, rfl, rfl, rfl, hx1, hx2, rfl, rfl⟩ := hpair.resolve_left (fun h => by omega)
  generalize normR cf = m1 at *
  generalize normR cg = m2 at *
  have hv1 := hnf.valid
  have hv2 := hng.valid
  have hs1 := stN_lt hv1
  have hs2 := stN_lt hv2
  refine zK (zU (zQ (zQ (zG (zR 1 rfl ?_)))))
  refine yL (Rd.add (Rd.blk 0 rfl) _) ?_
  refine zN (zU ?_)
  refine W.cond rfl (fun hc1 => ?_) (fun hc1 => ?_)
  ·try simp only [zk] at hc1
   have hlo : loose m1 m2 := by simpa using hc1
   have hd : devN m1 m2 (gapD m1 m2) = ((true, 0, 0), 0) := by unfold devN; rw [if_neg hl, if_pos hlo]
   refine zQ (zG ?_)
   -- build
   refine WG.y rfl rfl qD (Yl.build (parts := [(0, .const (.bool true))]) tab_ok rfl rfl rfl rfl (fun _ => rfl) rfl rfl) ?_
   refine zE 1 ?_
   refine zR 1 rfl (zN (zU (zT (wt ?_))))
   refine WE.retF tab_ok [_, _] rfl ⟨⟨_, _, _, rfl, rfl, rfl, qB, rfl⟩, rfl, trivial⟩ ((by first | exact hR1.trans (hR2.trans hR3) | exact hR1.trans hR2 | exact hR1)) ?_
   exact ⟨by rw [hd]; rfl, qS⟩
  ·try simp only [zk] at hc1
   have hlo : ¬ loose m1 m2 := by simpa using hc1
   have hd : devN m1 m2 (gapD m1 m2) = (greatW (gapD m1 m2) (max (stN m1) (stN m2) + lcmC m1 m2) 0 0 0, 0) := by unfold devN; rw [if_neg hl, if_neg hlo]
   refine zK (zU ?_)
   refine W.freezeBlk 0 rfl ?_
   intro R2 hR2 hb6
   have hF : ∀ t : Nat, t < max (stN m1) (stN m2) + lcmC m1 m2 → FnV Tryz.prog 88 ((#[] : Array Value).toList ++ [.int .i64 (t : Int)] ++ (#[.pointer (some ⟨b6, 0, none⟩)] : Array Value).toList) R2 (.tuple #[.int .i64 (gapD m1 m2 t).1, .bool (gapD m1 m2 t).2]) := fun t ht => DelayFG_V hv1 (hx1.mono hR2) hv2 (hx2.mono hR2) hb6 (by omega)
   refine zQ (zG (zR 1 rfl ?_))
   refine' WG.y rfl rfl qD (Yl.load1 tab_ok rfl rfl rfl (fun _ => rfl) ?r4 rfl ?h4) ?_
   case r4 => apply Rd.add; (exact Rd.ro qU)
   case h4 => rfl
   refine zR 1 rfl ?_
   refine WG.callV en87 rfl rfl qD (CallOp.mk' rfl rfl rfl rfl) (fun _ => rfl) (fun hg => Greatest_V (f := gapD m1 m2) (n := max (stN m1) (stN m2) + lcmC m1 m2) en88 hF qO) ?_
   refine zE 0 ?_
   refine zR 1 rfl (zN (zU (zT ?_)))
   refine WE.retF tab_ok [_, _] rfl ⟨⟨_, _, _, rfl, rfl, rfl, qB, rfl⟩, rfl, trivial⟩ ((by first | exact hR1.trans (hR2.trans hR3) | exact hR1.trans hR2 | exact hR1)) ?_
   exact ⟨by rw [hd]; rfl, qS⟩



theorem Wait_C {R : Ro} {v : Int} (w0 : World) (E : List Ent) : K.Fn Tryz.prog 188 [.int .i64 v] w0 R E (fun r R' E' => ∃ (f : Option Addr) (fc : Nat), r = cvV f fc (waitC v) ∧ RS R' 1 encI f (waitC v).1.vals ∧ E.Sublist E') := by
 refine fE 20 Tryz.func188 ?_
 refine zQ (zG ?_)
 refine zA fun b2 => ?_
 refine zR 1 rfl (zN (zU (zQ (zQ (zG (zR 2 rfl (zN (zU ?_))))))))
 refine W.condD rfl (fun hc0 => ?_) (fun hc0 => ?_)
 ·try dsimp only at hc0
  have e : waitC v = (zcv, 2) := if_pos hc0
  refine zQ (zG ?_)
  -- build
  refine WG.y rfl rfl qD (Yl.build (parts := []) tab_ok rfl rfl rfl rfl (fun _ => rfl) rfl rfl) ?_
  refine zE 0 ?_
  refine zR 1 rfl (zN (zU (zT (wt ?_))))
  refine WE.retF tab_ok [_, _] rfl ⟨⟨_, _, _, rfl, rfl, rfl, qB, rfl⟩, rfl, trivial⟩ (by first | exact RLe.refl _ | exact hR1) ?_
  rw [e]
  exact ⟨none, 0, rfl, rs_nil, qS⟩
 ·try dsimp only at hc0
  refine zK (zU (zQ (zQ (zG (zR 2 rfl (zN (zU ?_)))))))
  refine W.condD rfl (fun hc1 => ?_) (fun hc1 => ?_)
  ·try dsimp only at hc1
   have e : waitC v = (zcv, 3) := by unfold waitC; rw [if_neg (by omega), if_pos (by omega)]
   refine zQ (zG ?_)
   -- build
   refine WG.y rfl rfl qD (Yl.build (parts := []) tab_ok rfl rfl rfl rfl (fun _ => rfl) rfl rfl) ?_
   refine zE 0 ?_
   refine zR 1 rfl (zN (zU (zT (wt ?_))))
   refine WE.retF tab_ok [_, _] rfl ⟨⟨_, _, _, rfl, rfl, rfl, qB, rfl⟩, rfl, trivial⟩ (by first | exact RLe.refl _ | exact hR1) ?_
   rw [e]
   exact ⟨none, 0, rfl, rs_nil, qS⟩
  ·try dsimp only at hc1
   have e : waitC v = (⟨waitL v, 1, 0⟩, 0) := by unfold waitC; rw [if_neg (by omega), if_neg (by omega)]
   refine zK (zU (zQ (zG (zR 1 rfl ?_))))
   refine yA ?_
   refine WL.ef rfl rfl qD (Ef.makeSliceD (enc := encI) 0 tab_ok rfl rfl rfl rfl rfl rfl qX qX qX qX qD rfl rfl (fun a13 => ?_))
   refine zR 1 rfl (zN (zU (zQ (zG (zR 2 rfl ?_)))))
   refine yA ?_
   refine WG.y rfl rfl qD (Yl.index tab_ok rfl rfl rfl rfl rfl rfl (fun _ => rfl) qA qH) ?_
   refine WL.efN rfl rfl (Ef.storeD (enc := encI) (xs := List.replicate (v + 2).toNat 0) 4611686018427387904 0 tab_ok rfl rfl rfl rfl rfl (by rw [List.length_replicate]; omega) rfl rfl rfl rfl ?_)
   refine zN (zU ?_)
   refine W.freeze (enc := encI) (xs := waitL v) 0 rfl ?_
   intro R1 hR1 hwz
   refine zQ (zG (zR 1 rfl ?_))
   -- build
   refine WG.y rfl rfl qD (Yl.build (parts := [(0, .tmp 18), (1, .const (.int .i64 1))]) tab_ok rfl rfl rfl rfl (fun _ => rfl) rfl rfl) ?_
   refine zE 0 ?_
   refine zR 1 rfl (zN (zU (zT ?_)))
   refine WE.retF tab_ok [_, _] rfl ⟨⟨_, _, _, rfl, rfl, rfl, qB, rfl⟩, rfl, trivial⟩ (by first | exact RLe.refl _ | exact hR1) ?_
   rw [e]
   refine ⟨some ⟨a13, 0, none⟩, (v + 2).toNat, ?_, hwz, qS⟩
   unfold cvV waitL
   dsimp only
   rw [List.length_set, List.length_replicate]
   rfl

theorem AllSrv_C {R : Ro} {aw at_ : Option Addr} {lw cw lt ct : Nat} {L : Ln} (hw : RS R 1 encI aw L.w) (hlw : L.w.length = lw) (ht : RS R 1 encI at_ L.tb) (hlt : L.tb.length = lt) {la : Option Addr} {lc ll : Nat} {ls : List CvS} (hla : RS R 3 encC la ls) (hll : ls.length = ll) (hls : ∀ x ∈ ls, RS R 1 encI x.a x.cv.vals ∧ validB x.cv = true) (hc : 1 ≤ L.cap ∧ L.cap ≤ 4000) (w0 : World) (E : List Ent) : K.Fn Tryz.prog 48 [.agg #[.int .i64 L.kind, .int .i64 L.cap, .int .i64 L.n, .slice aw lw cw, .slice at_ lt ct], .slice la ll lc] w0 R E (fun r R' E' => r = devV (allC L.cap (ls.map CvS.cv)) ∧ E.Sublist E') := by
 have hvt := total_valid (ls := ls.map CvS.cv) (fun c hc => by obtain ⟨x, hx, rfl⟩ := List.mem_map.1 hc; exact (hls x hx).2)
 have eA : allC L.cap (ls.map CvS.cv) = if (totalC (ls.map CvS.cv)).2 ≠ 0 then ((false, 0, 0), (totalC (ls.map CvS.cv)).2) else delayC (totalC (ls.map CvS.cv)).1 (lineC L.cap) := rfl
 refine fE 33 Tryz.func48 ?_
 refine zQ (zG ?_)
 refine zO fun b2 => ?_
 refine zA fun b4 => ?_
 refine zR 1 rfl (zN (zU (zQ (zG (zR 1 rfl ?_)))))
 refine WL.call en91 rfl rfl qD (CallOp.mkT rfl rfl rfl rfl) (PTotal_len hll hla hls w0 _) ?_
 rintro _ R2 E2 hR2 ⟨f, fc, rfl, hf, hsub⟩
 refine WL.subE hsub ?_
 generalize hq : totalC (ls.map CvS.cv) = q at hf hvt eA ⊢
 unfold cvV
 refine zR 3 rfl ?_
 refine zA fun b6 => ?_
 refine zE 0 ?_
 refine zR 1 rfl (zN (zU (zQ (zQ (zG (zR 2 rfl (zN (zU ?_))))))))
 refine W.condN rfl (fun hc0 => ?_) (fun hc0 => ?_)
 ·try dsimp only at hc0
  rw [if_pos hc0] at eA
  refine zQ (zG ?_)
  -- build
  refine WG.y rfl rfl qD (Yl.build (parts := []) tab_ok rfl rfl rfl rfl (fun _ => rfl) rfl rfl) ?_
  refine zR 1 rfl ?_
  refine zE 1 ?_
  refine zR 1 rfl (zN (zU (zT (wt ?_))))
  refine WE.retF tab_ok [_, _] rfl ⟨⟨_, _, _, rfl, rfl, rfl, qB, rfl⟩, rfl, trivial⟩ (by first | exact hR2 | exact hR2.trans (hR3.trans hR4)) ?_
  exact ⟨by rw [eA]; rfl, qS⟩
 ·try dsimp only at hc0
  rw [if_neg (fun h => h hc0)] at eA
  refine zK (zU (zQ (zG (zR 1 rfl ?_))))
  refine yL (Rd.add (Rd.blk 2 rfl) _) ?_
  refine WL.call en92 rfl rfl qD (CallOp.mkT rfl rfl rfl rfl) (Serve_ok (cap := L.cap) w0 hc _) ?_
  rintro _ _ E3 - ⟨g, rfl, rfl, hsub3⟩
  refine WL.subE hsub3 ?_
  refine WL.freeze (enc := encI) (xs := [0]) 0 rfl ?_
  intro R3 hR3 hg0
  refine zR 3 rfl ?_
  refine zA fun b8 => ?_
  refine zE 0 ?_
  refine zR 1 rfl (zN (zU (zQ (zQ (zG (zR 2 rfl (zN (zU ?_))))))))
  refine W.condN rfl (fun hc1 => ?_) (fun hc1 => ?_)
  ·try dsimp only at hc1
   exact absurd rfl hc1
  ·try dsimp only at hc1
   refine zK (zU (zQ (zG ?_)))
   refine yL (Rd.blk 1 rfl) ?_
   refine yL (Rd.blk 0 rfl) ?_
   refine WL.call en47 rfl rfl qD (CallOp.mkT rfl rfl rfl rfl) (DelayG_C (cf := q.1) (cg := lineC L.cap) (hvt hc0) (hf.mono hR3) (line_facts (cap := L.cap) ⟨by omega, by omega⟩).1.valid hg0 w0 _) ?_
   rintro _ R4 E4 hR4 ⟨rfl, hsub4⟩
   refine WL.subE hsub4 ?_
   refine zR 2 rfl ?_
   refine zE 2 ?_
   refine zR 1 rfl (zN (zU (zT ?_)))
   refine WE.retF tab_ok [_, _] rfl ⟨⟨_, _, _, rfl, rfl, rfl, qB, rfl⟩, rfl, trivial⟩ (by first | exact hR2 | exact hR2.trans (hR3.trans hR4)) ?_
   exact ⟨by rw [eA]; rfl, qS⟩







end Go.Proofs.YthpblaoehlgpfaaGreat

/- Time slots: the table of the least counts, as the walk of the curve fills it. No condition. -/
namespace Go.Proofs.YthpblaoehlgpfaaGreat.M
open Go Go.Proofs.YthpblaoehlgpfaaGreat.K

def someN (tb : List Int) (cls : Int) : Nat → Bool
  | 0 => false
  | k + 1 => someN tb cls k || mineT tb cls k
def fillL (m k : Nat) : List Int := (List.range m).map fun j => if j < k then INF else 0
def tickL (C : Nat → Nat → Int) (m f k : Nat) : List Int := (List.range m).map fun j => if j < k then minTo (fun a => C a j) (f + 1) else minTo (fun a => C a j) f
/-- four copies of a table -/
def longT (tb : List Int) : List Int := ((tb ++ tb) ++ tb) ++ tb
end Go.Proofs.YthpblaoehlgpfaaGreat.M

/- append to a slice that is read only and full, and s[:n:n]. No condition. -/
namespace Go.Proofs.YthpblaoehlgpfaaGreat.K
open Go Go.RowKit

section
variable {P : Program} {T : Tab} {n : Nat} {env : Env} {w0 : World} {R : Ro} {E : List Ent} {o : Oper} {K : Value → Ro → List Ent → Prop} {p q pc : Bool}
end
end Go.Proofs.YthpblaoehlgpfaaGreat.K

/- Chapter 21: the curve, its parts. No condition. -/
set_option maxRecDepth 4000
set_option linter.unusedSimpArgs false
set_option linter.unusedVariables false
namespace Go.Proofs.YthpblaoehlgpfaaGreat
open Go Go.RowKit Go.Proofs.YthpblaoehlgpfaaGreat.K Go.Proofs.YthpblaoehlgpfaaGreat.M





theorem CurFifo_C {R : Ro} {aw at_ : Option Addr} {lw cw lt ct : Nat} {L : Ln} (hw : RS R 1 encI aw L.w) (hlw : L.w.length = lw) (ht : RS R 1 encI at_ L.tb) (hlt : L.tb.length = lt) {la : Option Addr} {lc ll : Nat} {ls : List CvS} (hla : RS R 3 encC la ls) (hll : ls.length = ll) (hlc : ll ≤ lc) (hls : ∀ x ∈ ls, RS R 1 encI x.a x.cv.vals ∧ x.cv.vals.length ≤ 100000) {za : Option Addr} {zc lz : Nat} {z : List Sz} (hzr : RS R 2 encZ za z) (hlz : z.length = lz) (hzc : lz ≤ zc) {cls : Int} (hc : 1 ≤ L.cap ∧ L.cap ≤ 4000) (hvl : ∀ x ∈ ls, validB x.cv = true) (w0 : World) (E : List Ent) : K.Fn Tryz.prog 185 [.agg #[], .agg #[.int .i64 L.kind, .int .i64 L.cap, .int .i64 L.n, .slice aw lw cw, .slice at_ lt ct], .int .i64 cls, .slice la ll lc, .slice za lz zc] w0 R E (fun r R' E' => ∃ (f : Option Addr) (fc : Nat), r = cvV f fc (fifoC L.cap (ls.map CvS.cv)) ∧ RS R' 1 encI f (fifoC L.cap (ls.map CvS.cv)).1.vals ∧ E.Sublist E') := by
 have eF : fifoC L.cap (ls.map CvS.cv) = if (allC L.cap (ls.map CvS.cv)).2 ≠ 0 then (zcv, (allC L.cap (ls.map CvS.cv)).2) else if (allC L.cap (ls.map CvS.cv)).1.1 = true then (zcv, 5) else waitC (allC L.cap (ls.map CvS.cv)).1.2.1 := rfl
 refine fE 32 Tryz.func185 ?_
 refine zQ (zG ?_)
 refine zO fun b5 => ?_
 refine zO fun b6 => ?_
 refine zA fun b10 => ?_
 refine zR 1 rfl (zN (zU (zQ (zG ?_))))
 refine yL (Rd.blk 1 rfl) ?_
 refine zR 1 rfl ?_
 refine WL.call en48 rfl rfl qD (CallOp.mkT rfl rfl rfl rfl) (AllSrv_C hw hlw ht hlt hla hll (fun x hx => ⟨(hls x hx).1, hvl x hx⟩) hc w0 _) ?_
 rintro _ R2 E2 hR2 ⟨rfl, hsub⟩
 refine WL.subE hsub ?_
 generalize allC L.cap (ls.map CvS.cv) = q at eF ⊢
 unfold devV
 refine zR 3 rfl ?_
 refine zA fun b12 => ?_
 refine zE 0 ?_
 refine zR 1 rfl (zN (zU (zQ (zQ (zG (zR 2 rfl (zN (zU ?_))))))))
 refine W.condN rfl (fun hc0 => ?_) (fun hc0 => ?_)
 ·try dsimp only at hc0
  rw [if_pos hc0] at eF
  refine zQ (zG ?_)
  -- build
  refine WG.y rfl rfl qD (Yl.build (parts := []) tab_ok rfl rfl rfl rfl (fun _ => rfl) rfl rfl) ?_
  refine zR 1 rfl ?_
  refine zE 1 ?_
  refine zR 1 rfl (zN (zU (zT (wt ?_))))
  refine WE.retF tab_ok [_, _] rfl ⟨⟨_, _, _, rfl, rfl, rfl, qB, rfl⟩, rfl, trivial⟩ (by first | exact hR2 | exact hR2.trans hR3) ?_
  rw [eF]
  exact ⟨none, 0, rfl, rs_nil, qS⟩
 ·try dsimp only at hc0
  rw [if_neg (fun h => h hc0)] at eF
  refine zK (zU (zQ (zQ (zG (zR 1 rfl ?_)))))
  refine yL (Rd.add (Rd.blk 0 rfl) _) ?_
  refine zN (zU ?_)
  refine W.cond rfl (fun hc1 => ?_) (fun hc1 => ?_)
  ·try simp only [zk] at hc1
   rw [if_pos hc1] at eF
   refine zQ (zG ?_)
   -- build
   refine WG.y rfl rfl qD (Yl.build (parts := []) tab_ok rfl rfl rfl rfl (fun _ => rfl) rfl rfl) ?_
   refine zE 1 ?_
   refine zR 1 rfl (zN (zU (zT (wt ?_))))
   refine WE.retF tab_ok [_, _] rfl ⟨⟨_, _, _, rfl, rfl, rfl, qB, rfl⟩, rfl, trivial⟩ (by first | exact hR2 | exact hR2.trans hR3) ?_
   rw [eF]
   exact ⟨none, 0, rfl, rs_nil, qS⟩
  ·try simp only [zk] at hc1
   rw [if_neg (by simp [hc1])] at eF
   refine zK (zU (zQ (zG (zR 1 rfl ?_))))
   refine yL (Rd.add (Rd.blk 0 rfl) _) ?_
   refine WL.call en188 rfl rfl qD (CallOp.mkT rfl rfl rfl rfl) (Wait_C (v := q.1.2.1) w0 _) ?_
   rintro _ R3 E3 hR3 ⟨f, fc, rfl, hf, hsub3⟩
   refine WL.subE hsub3 ?_
   rw [← eF] at hf ⊢
   unfold cvV
   refine zR 2 rfl ?_
   refine zE 1 ?_
   refine zR 1 rfl (zN (zU (zT ?_)))
   refine WE.retF tab_ok [_, _] rfl ⟨⟨_, _, _, rfl, rfl, rfl, qB, rfl⟩, rfl, trivial⟩ (by first | exact hR2 | exact hR2.trans hR3) ?_
   exact ⟨f, fc, rfl, hf, qS⟩

theorem ArgSrv_V {R : Ro} {aw at_ : Option Addr} {lw cw lt ct : Nat} {L : Ln} (hw : RS R 1 encI aw L.w) (hlw : L.w.length = lw) (ht : RS R 1 encI at_ L.tb) (hlt : L.tb.length = lt) {la : Option Addr} {lc ll : Nat} {ls : List CvS} (hla : RS R 3 encC la ls) (hll : ls.length = ll) (hlc : ll ≤ lc) (hls : ∀ x ∈ ls, RS R 1 encI x.a x.cv.vals ∧ x.cv.vals.length ≤ 100000) {za : Option Addr} {zc lz : Nat} {z : List Sz} (hzr : RS R 2 encZ za z) (hlz : z.length = lz) (hzc : lz ≤ zc) {cls : Int} : FnV Tryz.prog 45 [.agg #[.int .i64 L.kind, .int .i64 L.cap, .int .i64 L.n, .slice aw lw cw, .slice at_ lt ct], .int .i64 cls, .slice la ll lc, .slice za lz zc] R (.int .i64 (argE L cls (ls.map CvS.cv) z)) := by
 subst hll
 subst hlz
 have hl1 := hla.len
 have hl2 := hzr.len
 refine Fn.toV (fun w0 E => ?_)
 refine fE 58 Tryz.func45 ?_
 refine zQ (zG ?_)
 refine zO fun b4 => ?_
 refine zR 1 rfl (zN (zU (zQ (zQ (zG ?_)))))
 refine yL (Rd.blk 0 rfl) ?_
 refine WG.callV en27 rfl rfl qD (CallOp.mk' rfl rfl rfl rfl) (fun _ => rfl) (fun hg => ChkSrv_V hw hlw ht hlt) ?_
 refine zR 1 rfl (zN (zU (zQ (zG (zR 2 rfl (zN (zU ?_)))))))
 refine W.condN rfl (fun hc0 => ?_) (fun hc0 => ?_)
 ·try dsimp only at hc0
  have e : argE L cls (ls.map CvS.cv) z = chkL L := if_pos hc0
  refine zQ (zG (zR 2 rfl (zN (zU (zT (wt ?_))))))
  refine sE (E := E) ?_
  refine WE.retF tab_ok [_] rfl ⟨rfl, trivial⟩ (RLe.refl _) ?_
  exact ⟨by rw [e]; rfl, rfl⟩
 ·try dsimp only at hc0
  have hn := (chk_facts hc0).2.2.2
  refine zK (zU (zQ (zQ (zG (zR 3 rfl ?_)))))
  refine yP ?_
  refine yP ?_
  refine yG (Rd.addC (Rd.blkC 0 rfl) _) ?_
  refine yP ?_
  refine yO ?_
  refine zR 1 rfl ?_
  refine yP ?_
  refine yP ?_
  refine yP ?_
  refine yG (Rd.addC (Rd.blkC 0 rfl) _) ?_
  refine yP ?_
  refine yO ?_
  refine zR 1 rfl ?_
  refine yP ?_
  refine yP ?_
  refine yP ?_
  refine yG (Rd.addC (Rd.blkC 0 rfl) _) ?_
  refine yP ?_
  refine yO ?_
  refine zN (zU ?_)
  refine W.cond rfl (fun hc1 => ?_) (fun hc1 => ?_)
  ·try simp only [zk] at hc1
   have e : argE L cls (ls.map CvS.cv) z = 2 := by unfold argE; rw [if_neg (fun h => h hc0), if_pos (by rw [List.length_map]; omega)]
   refine zQ (zG (zR 1 rfl (zN (zU (zT (wt ?_))))))
   refine sE (E := E) ?_
   refine WE.retF tab_ok [_] rfl ⟨rfl, trivial⟩ (RLe.refl _) ?_
   exact ⟨by rw [e]; rfl, rfl⟩
  ·try simp only [zk] at hc1
   refine zK (zU (zQ (zQ (zG (zR 1 rfl ?_)))))
   refine yL (Rd.add (Rd.blk 0 rfl) _) ?_
   refine zR 2 rfl ?_
   refine WG.callV en83 rfl rfl qD (CallOp.mk' rfl rfl rfl rfl) (fun _ => rfl) (fun hg => CheckP_V hzr) ?_
   refine zR 1 rfl (zN (zU (zQ (zG (zR 2 rfl (zN (zU ?_)))))))
   refine W.condN rfl (fun hc2 => ?_) (fun hc2 => ?_)
   ·try dsimp only at hc2
    have e : argE L cls (ls.map CvS.cv) z = chk18 L.cap cls z := by unfold argE; rw [if_neg (fun h => h hc0), if_neg (by rw [List.length_map]; omega), if_pos hc2]
    refine zQ (zG (zR 2 rfl (zN (zU (zT (wt ?_))))))
    refine sE (E := E) ?_
    refine WE.retF tab_ok [_] rfl ⟨rfl, trivial⟩ (RLe.refl _) ?_
    exact ⟨by rw [e]; rfl, rfl⟩
   ·try dsimp only at hc2
    refine zK (zU (zQ (zQ (zG (zR 3 rfl (zN (zU (zB ?_))))))))
    refine W.loopK (β := Nat) (fun k => k ≤ ls.length ∧ ∀ i, i < k → validB (nth ls i).cv = true) (fun k => [(50, true, .int .i64 (k : Int))]) [48, 49] [_, _] [] _ rfl (fun k => []) (fun k => ls.length - k) (0) (⟨Nat.zero_le _, fun i hi => absurd hi (Nat.not_lt_zero i)⟩) ⟨rfl, rfl, rfl, rfl⟩ qS ?_
    intro k hst
    dsimp only [zipE, setAll, List.cons_append, List.nil_append, List.set_cons_zero, List.set_cons_succ] at hst ⊢
    obtain ⟨hk, hpre⟩ := hst
    refine zQ (zG (zR 1 rfl (zN (zU (zQ ?_)))))
    refine W.condD rfl (fun hc3 => ?_) (fun hc3 => ?_)
    ·try dsimp only at hc3
     refine zK (zU (zQ (zB (zQ (zG ?_)))))
     refine WG.y rfl rfl qD (Yl.indexN tab_ok rfl rfl rfl rfl rfl rfl (fun _ => rfl) qN qH) ?_
     refine yR ?_
     refine zA fun b12 => ?_
     refine zE 0 ?_
     refine zN (zU (zQ (zG ?_)))
     refine yL (Rd.blk 0 rfl) ?_
     refine WG.callV en84 rfl rfl qD (CallOp.mk' rfl rfl rfl rfl) (fun _ => rfl) (fun hg => CValidG_V (hls _ (nth_mem (xs := ls) (k := k) qO)).1 (hls _ (nth_mem (xs := ls) (k := k) qO)).2) ?_
     refine zR 1 rfl (zN (zU ?_))
     refine W.cond rfl (fun hc4 => ?_) (fun hc4 => ?_)
     ·try simp only [zk] at hc4
      have e : argE L cls (ls.map CvS.cv) z = 1 := by
       unfold argE
       rw [if_neg (fun h => h hc0), if_neg (by rw [List.length_map]; omega), if_neg (fun h => h hc2), if_neg]
       intro hh
       have := List.all_eq_true.1 hh _ (List.mem_map.2 ⟨_, nth_mem (xs := ls) (k := k) (by omega), rfl⟩)
       rw [this] at hc4; cases hc4
      refine zQ (zG (zR 1 rfl (zN (zU (zT (wb (wt (wt (wb (wt ?_))))))))))
      refine sE (E := E) ?_
      refine WE.retF tab_ok [_] rfl ⟨rfl, trivial⟩ (RLe.refl _) ?_
      exact ⟨by rw [e]; rfl, rfl⟩
     ·try simp only [zk] at hc4
      refine zK (zL (zU (zG ?_)))
      refine yA ?_
      refine zR 1 rfl (zN ?_)
      refine WE.again (k + 1) (⟨by omega, fun i hi => by rcases Nat.lt_or_ge i k with h | h; exact hpre i h; rw [show i = k by omega]; exact hc4⟩) (by (try dsimp only); omega) ⟨rfl, rfl, rfl, rfl⟩ (RLe.refl _) qS
    ·try dsimp only at hc3
     refine zX ?_
     refine wx (wx (zY (zU (zQ (zG (zR 1 rfl (zN (zU (zT ?_)))))))))
     refine sE (E := E) ?_
     refine WE.retF tab_ok [_] rfl ⟨rfl, trivial⟩ (RLe.refl _) ?_
     have e : argE L cls (ls.map CvS.cv) z = 0 := by
      unfold argE
      rw [if_neg (fun h => h hc0), if_neg (by rw [List.length_map]; omega), if_neg (fun h => h hc2), if_pos]
      rw [List.all_eq_true]
      intro x hx
      obtain ⟨y, hy, rfl⟩ := List.mem_map.1 hx
      obtain ⟨i, hi, rfl⟩ := List.getElem_of_mem hy
      have := hpre i (by omega)
      rw [show nth ls i = ls[i] by unfold nth List.getD; rw [List.getElem?_eq_getElem hi]; rfl] at this
      exact this
     exact ⟨by rw [e]; rfl, rfl⟩



theorem meth_curve1 (x y z u : Value) : Meth Tryz.prog 112 (.agg #[]) "netcalculus/server.curve" 185 [x, y, z, u] := fun w => by kernel_rfl
theorem arg_facts {L : Ln} {cls : Int} {l : List Cv} {z : List Sz} (h : argE L cls l z = 0) : chkL L = 0 ∧ (0 ≤ cls ∧ cls < L.n ∧ (l.length : Int) = L.n ∧ (z.length : Int) = L.n) ∧ chk18 L.cap cls z = 0 ∧ ∀ c ∈ l, validB c = true := by
 unfold argE at h
 split at h
 ·rename_i h1; exact absurd h h1
 ·rename_i h1
  split at h
  ·omega
  ·split at h
   ·rename_i h2; exact absurd h h2
   ·rename_i h2
    split at h
    ·rename_i h3
     exact ⟨by omega, by omega, by omega, fun c hc => List.all_eq_true.1 h3 c hc⟩
    ·omega

theorem CurveSrv1_C {R : Ro} {aw at_ : Option Addr} {lw cw lt ct : Nat} {L : Ln} (hw : RS R 1 encI aw L.w) (hlw : L.w.length = lw) (ht : RS R 1 encI at_ L.tb) (hlt : L.tb.length = lt) {la : Option Addr} {lc ll : Nat} {ls : List CvS} (hla : RS R 3 encC la ls) (hll : ls.length = ll) (hlc : ll ≤ lc) (hls : ∀ x ∈ ls, RS R 1 encI x.a x.cv.vals ∧ x.cv.vals.length ≤ 100000) {za : Option Addr} {zc lz : Nat} {z : List Sz} (hzr : RS R 2 encZ za z) (hlz : z.length = lz) (hzc : lz ≤ zc) {cls : Int} (hk1 : L.kind = 1) (w0 : World) (E : List Ent) : K.Fn Tryz.prog 15 [.agg #[.int .i64 L.kind, .int .i64 L.cap, .int .i64 L.n, .slice aw lw cw, .slice at_ lt ct], .int .i64 cls, .slice la ll lc, .slice za lz zc] w0 R E (fun r R' E' => ∃ (f : Option Addr) (fc : Nat), r = cvV f fc (curveL L cls (ls.map CvS.cv) z) ∧ RS R' 1 encI f (curveL L cls (ls.map CvS.cv) z).1.vals ∧ E.Sublist E') := by
 refine fE 36 Tryz.func15 ?_
 refine zQ (zG ?_)
 refine zO fun b4 => ?_
 refine zA fun b8 => ?_
 refine zR 1 rfl (zN (zU (zQ (zQ (zG ?_)))))
 refine yL (Rd.blk 1 rfl) ?_
 refine zR 3 rfl ?_
 refine WG.callV en45 rfl rfl qD (CallOp.mk' rfl rfl rfl rfl) (fun _ => rfl) (fun hg => ArgSrv_V hw hlw ht hlt hla hll hlc hls hzr hlz hzc) ?_
 refine zR 1 rfl (zN (zU (zQ (zG (zR 2 rfl (zN (zU ?_)))))))
 refine W.condN rfl (fun hc0 => ?_) (fun hc0 => ?_)
 ·try dsimp only at hc0
  have e : curveL L cls (ls.map CvS.cv) z = (zcv, argE L cls (ls.map CvS.cv) z) := if_pos hc0
  refine zQ (zG ?_)
  -- build
  refine WG.y rfl rfl qD (Yl.build (parts := []) tab_ok rfl rfl rfl rfl (fun _ => rfl) rfl rfl) ?_
  refine zR 1 rfl ?_
  refine zE 0 ?_
  refine zR 1 rfl (zN (zU (zT (wt ?_))))
  refine WE.retF tab_ok [_, _] rfl ⟨⟨_, _, _, rfl, rfl, rfl, qB, rfl⟩, rfl, trivial⟩ (by first | exact RLe.refl _ | exact hR2) ?_
  rw [e]
  exact ⟨none, 0, rfl, rs_nil, qS⟩
 ·try dsimp only at hc0
  have e : curveL L cls (ls.map CvS.cv) z = fifoC L.cap (ls.map CvS.cv) := (if_neg (fun h => h hc0)).trans (if_pos hk1)
  obtain ⟨hk0, -, -, hv⟩ := arg_facts hc0
  have hf := chk_facts hk0
  refine zK (zU (zQ (zG (zR 1 rfl ?_))))
  refine yL (Rd.add (Rd.blk 1 rfl) _) ?_
  refine WG.callV en44 rfl rfl qD (CallOp.mk' rfl rfl rfl rfl) (fun _ => rfl) (fun hg => Kind_V L.kind) ?_
  refine zR 5 rfl (zN (zU ?_))
  rw [show kindI L.kind = .iface 112 (.agg #[]) by rw [hk1]; rfl]
  refine zQ (zG (zR 1 rfl ?_))
  refine yL (Rd.blk 1 rfl) ?_
  refine zR 3 rfl ?_
  refine WL.callI (args := [.tmp 29, .tmp 30, .tmp 31, .tmp 32]) rfl rfl rfl qD rfl rfl (meth_curve1 _ _ _ _) (CurFifo_C hw hlw ht hlt hla hll hlc hls hzr hlz hzc ⟨hf.2.1, hf.2.2.1⟩ (fun x hx => hv _ (List.mem_map.2 ⟨x, hx, rfl⟩)) w0 _) ?_
  rintro _ R2 E2 hR2 ⟨f, fc, rfl, hf, hsub⟩
  refine WL.subE hsub ?_
  rw [← e] at hf ⊢
  unfold cvV
  refine zR 2 rfl ?_
  refine zE 0 ?_
  refine zR 1 rfl (zN (zU (zT ?_)))
  refine WE.retF tab_ok [_, _] rfl ⟨⟨_, _, _, rfl, rfl, rfl, qB, rfl⟩, rfl, trivial⟩ (by first | exact RLe.refl _ | exact hR2) ?_
  exact ⟨f, fc, rfl, hf, qS⟩




end Go.Proofs.YthpblaoehlgpfaaGreat
