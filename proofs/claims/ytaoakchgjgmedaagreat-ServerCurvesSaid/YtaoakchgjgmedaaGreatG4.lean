/- Rules and walks, joined from 23 texts: the first of them says: A trial. No condition. -/
import Derived.Test.YtaoakchgjgmedaaGreatG3
set_option maxRecDepth 4000
set_option linter.unusedSimpArgs false
set_option linter.unusedVariables false
namespace Go.Proofs.YtaoakchgjgmedaaGreat
open Go Go.RowKit Go.Proofs.YtaoakchgjgmedaaGreat.K Go.Proofs.YtaoakchgjgmedaaGreat.M
theorem First_C {R : Ro} {sb : Nat} {pa : Option Addr} {pc bg : Nat} {ps : List Pkt} {ms : MS} (w0 : World) (hp : RS R 3 encP pa ps) (hb : ms.begun.length = ps.length) (hbf : ms.before ≤ ps.length) (F : List Ent) :
  K.Fn Tryz.prog 146 [.pointer (some ⟨sb, 0, none⟩)] w0 R (stE sb pa ps.length pc bg ms :: .sl 4 1 (some ⟨bg, 0, none⟩) ps.length (ms.begun.map encB) :: F)
   (fun v R' E' => v = .int .i64 (firstR ps ms) ∧ R = R' ∧ E' = stE sb pa ps.length pc bg { ms with before := skipTo ms.begun ms.before } :: .sl 4 1 (some ⟨bg, 0, none⟩) ps.length (ms.begun.map encB) :: F) := by
 have hla := hp.len
 refine fE 64 Tryz.func146 ?_
 refine zQ (zG (zR 1 rfl (zN (zU (zQ (zB ?_))))))
 refine W.loop (β := Nat) (fun k => k ≤ ps.length ∧ skipTo ms.begun k = skipTo ms.begun ms.before) (fun k => [(0, true, .pointer (some ⟨sb, 0, none⟩))]) (fun _ => R) (fun k => stE sb pa ps.length pc bg { ms with before := k } :: .sl 4 1 (some ⟨bg, 0, none⟩) ps.length (ms.begun.map encB) :: F) (fun k => ps.length - k) (ms.before) (⟨hbf, rfl⟩) ⟨rfl, rfl⟩ (RLe.refl _) qS ?_
 intro st hst
 obtain ⟨hk, hsk⟩ := hst
 refine zQ (zQ ?_)
 refine W.regionQ _ mixed qK ?_
 refine zR 3 rfl ?_
 refine yM 0 ?_
 refine zR 3 rfl ?_
 refine yM 0 ?_
 refine zR 3 rfl ?_
 refine yP ?_
 refine yP ?_
 refine yP ?_
 refine yG (Rd.addC (Rd.blkC 0 rfl) _) ?_
 refine yP ?_
 refine yP ?_
 refine yP ?_
 refine yG (Rd.addC (Rd.blkC 0 rfl) _) ?_
 refine gI ?_
 refine yJ (r := by (exact Rd.slC 1 rfl)) (k := ?_)
 refine yN ?_
 refine zN (zU ?_)
 refine cC rfl ?_ ?_ <;> intro hc0
 ·try simp only [zk] at hc0
  obtain ⟨hc1, hc2⟩ := hc0
  have hs := skipTo_true (l := ms.begun) (b := st) (by omega) hc2
  refine zK (zU (zB (zG (zR 3 rfl ?_))))
  refine yM 0 ?_
  refine yA ?_
  refine zR 2 rfl ?_
  refine zF 0 ?_
  refine zN (zL ?_)
  refine WE.again (st + 1) (⟨by omega, by rw [hs, hsk]⟩) (by (try dsimp only); omega) ⟨rfl, rfl⟩ (RLe.refl _) qS
 ·try simp only [zk] at hc0
  have hs : skipTo ms.begun st = st := by
   by_cases hlt : st < ps.length
   ·exact skipTo_false (by omega) (hc0 (by omega))
   ·exact skipTo_end (by omega)
  rw [hs] at hsk
  have hfr : firstR ps ms = if st < ps.length ∧ (nth ps st).time ≤ ms.now then (st : Int) else -1 := by unfold firstR; rw [← hsk]
  refine zX ?_
  refine wx (wx (zY (zU (zQ (zQ ?_)))))
  refine W.regionQ _ mixed qK ?_
  refine zR 3 rfl ?_
  refine yM 0 ?_
  refine zR 3 rfl ?_
  refine yM 0 ?_
  refine zR 3 rfl ?_
  refine yP ?_
  refine yP ?_
  refine yP ?_
  refine yG (Rd.addC (Rd.blkC 0 rfl) _) ?_
  refine yP ?_
  refine yP ?_
  refine yP ?_
  refine yG (Rd.addC (Rd.blkC 0 rfl) _) ?_
  refine gI ?_
  refine yP ?_
  refine yJ (r := by apply Rd.addC; ((apply RS.rdC; assumption))) (k := ?_)
  refine yP ?_
  refine yP ?_
  refine yP ?_
  refine yG (Rd.addC (Rd.blkC 0 rfl) _) ?_
  refine yP ?_
  refine yN ?_
  refine zN (zU ?_)
  refine cC rfl ?_ ?_ <;> intro hc1
  ·try simp only [zk] at hc1
   refine zQ (zG (zR 3 rfl ?_))
   refine yM 0 ?_
   refine zR 1 rfl (zN (zU (zT (wt ?_))))
   refine zr1 ?_
   exact ⟨by rw [hfr, if_pos (by omega)]; rfl, rfl, by rw [← hsk]⟩
  ·try simp only [zk] at hc1
   refine zK (zU (zQ (zG (zR 1 rfl (zN (zU (zT ?_)))))))
   refine zr1 ?_
   exact ⟨by rw [hfr, if_neg (by omega)]; rfl, rfl, by rw [← hsk]⟩
theorem MRun_C {R : Ro} {pa : Option Addr} {pc : Nat} {ps : List Pkt} {cap : Int} {classes ticks : Nat} {g : FuncId} {first capd : Array Value} {σ : Type} {ch : MS → σ → Int × Nat × σ} {good : MS → σ → Prop} {X : σ → List Ent} {sg : σ} (w0 : World)
  (hp : RS R 3 encP pa ps) (hg : M.Good ps ch good) (hf : Fit ps classes) (h0 : good (M.start ps classes sg).ms sg) (hcap : 1 ≤ cap ∧ cap ≤ 1000000) (hcl : classes ≤ 1000) (htk : ticks ≤ 1000000) (hen : Enters Tryz.prog g)
  (hch : ∀ (sb bg : Nat) (ms : MS) (sg : σ) (F : List Ent), good ms sg → ms.begun.length = ps.length → 0 < ms.left → ms.left ≤ cap → 0 ≤ ms.now → ms.now < ticks →
   K.Fn Tryz.prog g (first.toList ++ [.pointer (some ⟨sb, 0, none⟩)] ++ capd.toList) w0 R (stE sb pa ps.length pc bg ms :: .sl 4 1 (some ⟨bg, 0, none⟩) ps.length (ms.begun.map encB) :: (X sg ++ F))
    (fun v R' E' => v = .int .i64 (ch ms sg).1 ∧ R = R' ∧ E' = stE sb pa ps.length pc bg { ms with before := (ch ms sg).2.1 } :: .sl 4 1 (some ⟨bg, 0, none⟩) ps.length (ms.begun.map encB) :: (X (ch ms sg).2.2 ++ F)))
  (F : List Ent) :
  K.Fn Tryz.prog 145 [.int .i64 cap, .int .i64 classes, .slice pa ps.length pc, .int .i64 ticks, .func (.func g) first capd] w0 R (X sg ++ F)
   (fun v R' E' => ∃ (rows : List Sl) (gd go : Nat) (s : M.RS σ), s = mrun ps ch cap classes ticks sg ∧ v = .agg #[.slice (some ⟨gd, 0, none⟩) ps.length ps.length, .slice (some ⟨go, 0, none⟩) classes classes] ∧ R = R' ∧ rows.map Sl.xs = s.sent ∧ (∀ r ∈ rows, r.a.isSome = true) ∧ Inv ps classes good (ticks + 1) (ticks * cap) s ∧
    (.sl 3 1 (some ⟨gd, 0, none⟩) ps.length (s.done.map encI) :: .sl 22 1 (some ⟨go, 0, none⟩) classes (rows.map encS) :: (rows.map (rowE 3) ++ (X s.sg ++ F))).Sublist E') := by
 have hlp := hf.len
 refine fE 160 Tryz.func145 ?_
 refine zQ (zG ?_)
 refine zA fun b10 => ?_
 refine zN (zU ?_)
 refine W.seqCut (β := Nat × Nat × Nat) (fun (b11, gd, go) => True) (fun (b11, gd, go) => [(0, true, .int .i64 cap), (1, true, .int .i64 classes), (2, true, .slice pa ps.length pc), (3, true, .int .i64 ticks), (4, true, .func (.func g) first capd), (10, true, .pointer (some ⟨b10, 0, none⟩)), (11, true, .pointer (some ⟨b11, 0, none⟩))]) (fun _ => R) (fun (b11, gd, go) => .blk b11 [.slice (some ⟨gd, 0, none⟩) ps.length ps.length, .slice (some ⟨go, 0, none⟩) classes classes] :: .sl 3 1 (some ⟨gd, 0, none⟩) ps.length ((List.replicate ps.length 0).map encI) :: .sl 22 1 (some ⟨go, 0, none⟩) classes ((List.replicate classes (⟨none, 0, []⟩ : Sl)).map encS) :: .blk b10 [.slice none 0 0, .slice none 0 0] :: (X sg ++ F)) ?_ ?_
 ·
  intro st hst
  obtain ⟨b11, gd, go⟩ := st
  dsimp only
  refine zQ (zQ (zG (zR 1 rfl ?_)))
  refine yM 0 ?_
  refine zR 2 rfl (zN (zU (zB ?_)))
  refine W.loop (β := Nat × List Int) (fun (k, l) => l.length = ps.length ∧ k ≤ ps.length ∧ ∀ j, j < k → nth l j = -1) (fun (k, l) => [(0, true, .int .i64 cap), (1, true, .int .i64 classes), (2, true, .slice pa ps.length pc), (3, true, .int .i64 ticks), (4, true, .func (.func g) first capd), (10, true, .pointer (some ⟨b10, 0, none⟩)), (11, true, .pointer (some ⟨b11, 0, none⟩)), (28, true, .int .i64 ps.length), (29, true, .int .i64 (k : Int))]) (fun _ => R) (fun (k, l) => .blk b11 [.slice (some ⟨gd, 0, none⟩) ps.length ps.length, .slice (some ⟨go, 0, none⟩) classes classes] :: .sl 3 1 (some ⟨gd, 0, none⟩) ps.length (l.map encI) :: .sl 22 1 (some ⟨go, 0, none⟩) classes ((List.replicate classes (⟨none, 0, []⟩ : Sl)).map encS) :: .blk b10 [.slice none 0 0, .slice none 0 0] :: (X sg ++ F)) (fun (k, l) => ps.length - k) ((0, List.replicate ps.length 0)) (⟨by simp, Nat.zero_le _, fun j hj => by omega⟩) ⟨rfl, rfl, rfl, rfl, rfl, rfl, rfl, rfl, rfl, rfl⟩ (RLe.refl _) qS ?_
  intro st hst
  obtain ⟨k, l⟩ := st
  obtain ⟨h1, h2, h3⟩ := hst
  dsimp only at h1 h2 h3 ⊢
  refine zQ (zG (zR 1 rfl (zN (zU (zQ ?_)))))
  refine cD rfl ?_ ?_ <;> intro hc0
  ·
   refine zK (zU (zQ (zB (zQ (zG (zR 2 rfl (zN (zU (zG (zR 1 rfl ?_))))))))))
   refine yM 0 ?_
   refine zR 1 rfl ?_
   refine yI ?_
   refine WL.efN rfl rfl (Ef.storeD _ 1 tab_ok rfl rfl rfl rfl rfl qX rfl rfl rfl rfl ?_)
   refine zN (zL (zU (zG ?_)))
   refine yA ?_
   refine zR 1 rfl (zN ?_)
   refine WE.again ((k + 1, l.set k (-1))) (⟨by simp [h1], by omega, fill_step (p := (· = -1)) (by omega) h3 rfl⟩) (by (try dsimp only); omega) ⟨rfl, rfl, rfl, rfl, rfl, rfl, rfl, rfl, rfl, rfl⟩ (RLe.refl _) qS
  ·
   have hk : k = ps.length := by omega
   subst k
   obtain rfl := replicate_of h1 h3
   refine zX ?_
   refine wx (wx (zY (zU (zQ (zQ (zG (zR 1 rfl ?_)))))))
   refine yM 0 ?_
   refine zR 2 rfl (zN (zU (zB ?_)))
   refine W.loop (β := Nat × List Sl) (fun (k, rows) => rows.length = classes ∧ k ≤ classes ∧ ∀ j, j < k → (nth (rows : List Sl) j).a.isSome = true ∧ (nth rows j).xs = [0]) (fun (k, rows) => [(0, true, .int .i64 cap), (1, true, .int .i64 classes), (2, true, .slice pa ps.length pc), (3, true, .int .i64 ticks), (4, true, .func (.func g) first capd), (10, true, .pointer (some ⟨b10, 0, none⟩)), (11, true, .pointer (some ⟨b11, 0, none⟩)), (39, true, .int .i64 classes), (40, true, .int .i64 (k : Int))]) (fun _ => R) (fun (k, rows) => .blk b11 [.slice (some ⟨gd, 0, none⟩) ps.length ps.length, .slice (some ⟨go, 0, none⟩) classes classes] :: .sl 3 1 (some ⟨gd, 0, none⟩) ps.length ((List.replicate ps.length (-1)).map encI) :: .sl 22 1 (some ⟨go, 0, none⟩) classes (rows.map encS) :: .blk b10 [.slice none 0 0, .slice none 0 0] :: ((rows.take k).map (rowE 3) ++ (X sg ++ F))) (fun (k, rows) => classes - k) ((0, List.replicate classes ⟨none, 0, []⟩)) (⟨by simp, Nat.zero_le _, fun j hj => by omega⟩) ⟨rfl, rfl, rfl, rfl, rfl, rfl, rfl, rfl, rfl, rfl⟩ (RLe.refl _) qS ?_
   intro st hst
   obtain ⟨k, rows⟩ := st
   obtain ⟨h1, h2, h3⟩ := hst
   dsimp only at h1 h2 h3 ⊢
   refine zQ (zG (zR 1 rfl (zN (zU (zQ ?_)))))
   refine cD rfl ?_ ?_ <;> intro hc1
   ·
    refine zK (zU (zQ (zB (zQ (zG (zR 2 rfl (zN (zU ?_))))))))
    refine W.regionH _ (ES := [.blk b11 [.slice (some ⟨gd, 0, none⟩) ps.length ps.length, .slice (some ⟨go, 0, none⟩) classes classes]]) mixed ?_
    refine tP 0 ?_
    refine tL 1 (Rd.add (Rd.blk 0 rfl) _) ?_
    refine tP 2 ?_
    refine tP 3 ?_
    refine tA 4 ?_
    refine WA.eff 5 rfl qK rfl rfl qD (Ef.makeSliceD (enc := encI) 0 tab_ok rfl rfl rfl rfl rfl rfl qX qX qX qX qD rfl rfl (fun a48 => ?_))
    refine ⟨qR, qS, ?_⟩
    refine tI 6 ?_
    refine WA.effN 7 rfl qK rfl rfl (Ef.storeD (⟨some ⟨a48, 0, none⟩, ticks + 1, [0]⟩ : Sl) 3 tab_ok rfl rfl rfl rfl rfl qO rfl rfl rfl rfl ?_)
    refine ⟨qR, qS, ?_⟩
    refine WA.done qK ?_
    refine zL (zU (zG ?_))
    refine yA ?_
    refine zR 1 rfl (zN ?_)
    refine WE.againP (k + 1, rows.set k ⟨some ⟨a48, 0, none⟩, ticks + 1, [0]⟩) ⟨by simp [h1], by omega, fill_step (p := fun r : Sl => r.a.isSome = true ∧ r.xs = [0]) (by omega) h3 ⟨rfl, rfl⟩⟩ (by dsimp only; omega) ⟨rfl, rfl, rfl, rfl, rfl, rfl, rfl, rfl, rfl, rfl⟩ (RLe.refl _) ⟨_, perm_row, by dsimp only; rw [← take_set_map (by omega)]; exact List.Sublist.refl _⟩
   ·
    have hk : k = classes := by omega
    subst k
    rw [List.take_of_length_le (by omega)]
    have hra : ∀ r ∈ rows, r.a.isSome = true := all_of_nth (fun j hj => (h3 j (by omega)).1)
    have hrx : rows.map Sl.xs = (M.start ps classes sg).sent := List.eq_replicate_iff.2 ⟨by simp [h1], fun x hx => by
     obtain ⟨r, hr, rfl⟩ := List.mem_map.1 hx
     exact all_of_nth (p := fun r => r.xs = [0]) (fun j hj => (h3 j qO).2) r hr⟩
    refine zX ?_
    refine wx (wx (zY (zU (zQ (zG (zR 3 rfl ?_))))))
    refine WL.ef rfl rfl qD (Ef.makeSliceD (enc := encB) false tab_ok rfl rfl rfl rfl rfl rfl qX qX qX qX qD rfl rfl (fun a54 => ?_))
    refine yW [(2, .tmp 51), (3, .tmp 54)] ?_
    refine zO fun b56 => ?_
    refine zR 1 rfl (zN (zU (zQ (zG (zR 2 rfl (zN (zU (zQ (zQ (zG (zR 2 rfl (zN (zU (zB ?_))))))))))))))
    refine W.loop (β := Nat × M.RS σ × List Sl) (fun (t, s, rows) => t ≤ ticks ∧ ticksFrom ps ch cap t (ticks - t) s = mrun ps ch cap classes ticks sg ∧ Inv ps classes good (t + 1) (t * cap) s ∧ rows.map Sl.xs = s.sent ∧ ∀ r ∈ rows, r.a.isSome = true) (fun (t, s, rows) => [(0, true, .int .i64 cap), (1, true, .int .i64 classes), (2, true, .slice pa ps.length pc), (3, true, .int .i64 ticks), (4, true, .func (.func g) first capd), (10, true, .pointer (some ⟨b10, 0, none⟩)), (11, true, .pointer (some ⟨b11, 0, none⟩)), (14, true, .pointer (some ⟨b56, 0, none⟩)), (15, true, .int .i64 s.cur), (16, true, .int .i64 s.rest), (57, true, .int .i64 ticks), (58, true, .int .i64 (t : Int))]) (fun _ => R) (fun (t, s, rows) => stE b56 pa ps.length pc a54 s.ms :: .sl 4 1 (some ⟨a54, 0, none⟩) ps.length (s.ms.begun.map encB) :: .blk b11 [.slice (some ⟨gd, 0, none⟩) ps.length ps.length, .slice (some ⟨go, 0, none⟩) classes classes] :: .sl 3 1 (some ⟨gd, 0, none⟩) ps.length (s.done.map encI) :: .sl 22 1 (some ⟨go, 0, none⟩) classes (rows.map encS) :: .blk b10 [.slice none 0 0, .slice none 0 0] :: (rows.map (rowE 3) ++ (X s.sg ++ F))) (fun (t, s, rows) => ticks - t) ((0, M.start ps classes sg, rows)) (⟨Nat.zero_le _, rfl, by simpa using Inv.start h0, hrx, hra⟩) ⟨rfl, rfl, rfl, rfl, rfl, rfl, rfl, rfl, rfl, rfl, rfl, rfl, rfl⟩ (RLe.refl _) qS ?_
    intro st hst
    obtain ⟨t, s, rows⟩ := st
    obtain ⟨h1, h2, h3, h4, h5⟩ := hst
    dsimp only at h1 h2 h3 h4 h5 ⊢
    refine zQ (zG (zR 1 rfl (zN (zU (zQ ?_)))))
    refine cD rfl ?_ ?_ <;> intro hc2
    ·
     have hbig : ((t : Int) + 1) * cap ≤ 1000000 * 1000000 := Int.mul_le_mul (by omega) hcap.2 (by omega) (by omega)
     refine zK (zU (zQ (zB (zQ (zG (zR 2 rfl (zN (zU (zQ (zG (zR 6 rfl ?_)))))))))))
     refine zF 0 ?_
     refine zR 2 rfl ?_
     refine zF 0 ?_
     refine zN (zU (zQ (zQ (zG (zR 1 rfl ?_)))))
     refine yM 2 ?_
     refine zR 2 rfl (zN (zU (zB ?_)))
     refine W.loop (β := Nat × List Sl) (fun (c, rws) => c ≤ classes ∧ rws.map Sl.xs = (s.sent.take c).map (fun l => l ++ [nth l t]) ++ s.sent.drop c ∧ ∀ r ∈ rws, r.a.isSome = true) (fun (c, rws) => [(0, true, .int .i64 cap), (1, true, .int .i64 classes), (2, true, .slice pa ps.length pc), (3, true, .int .i64 ticks), (4, true, .func (.func g) first capd), (10, true, .pointer (some ⟨b10, 0, none⟩)), (11, true, .pointer (some ⟨b11, 0, none⟩)), (14, true, .pointer (some ⟨b56, 0, none⟩)), (15, true, .int .i64 s.cur), (16, true, .int .i64 s.rest), (57, true, .int .i64 ticks), (58, true, .int .i64 (t : Int)), (17, true, .int .i64 (t : Int)), (71, true, .int .i64 classes), (72, true, .int .i64 (c : Int))]) (fun _ => R) (fun (c, rws) => stE b56 pa ps.length pc a54 { s.ms with now := (t : Int), left := cap } :: .sl 4 1 (some ⟨a54, 0, none⟩) ps.length (s.ms.begun.map encB) :: .blk b11 [.slice (some ⟨gd, 0, none⟩) ps.length ps.length, .slice (some ⟨go, 0, none⟩) classes classes] :: .sl 3 1 (some ⟨gd, 0, none⟩) ps.length (s.done.map encI) :: .sl 22 1 (some ⟨go, 0, none⟩) classes (rws.map encS) :: .blk b10 [.slice none 0 0, .slice none 0 0] :: (rws.map (rowE 3) ++ (X s.sg ++ F))) (fun (c, rws) => classes - c) ((0, rows)) (⟨Nat.zero_le _, by simpa using h4, h5⟩) ⟨rfl, rfl, rfl, rfl, rfl, rfl, rfl, rfl, rfl, rfl, rfl, rfl, rfl, rfl, rfl, rfl⟩ (RLe.refl _) qS ?_
     intro st hst
     obtain ⟨c, rws⟩ := st
     obtain ⟨g1, g2, g3⟩ := hst
     dsimp only at g1 g2 g3 ⊢
     have hsl := h3.sent
     have hlen : rws.length = classes := by
      have := congrArg List.length g2
      simp only [List.length_map, List.length_append, List.length_take, List.length_drop] at this
      omega
     refine zQ (zG (zR 1 rfl (zN (zU (zQ ?_)))))
     refine cD rfl ?_ ?_ <;> intro hc3
     ·
      have hxs : (nth rws c).xs = nth s.sent c := by rw [nth_map_xs g2 (by omega), ext_nth (by omega)]
      have hsome : (nth rws c).a.isSome = true := g3 _ (nth_mem (by omega))
      have hxl : (nth rws c).xs.length = t + 1 := by rw [hxs]; exact (h3.row (by omega)).1
      have hrow := rows_get (e := 3) (G := X s.sg ++ F) (rows := rws) (c := c) (by omega)
      refine zK (zU (zQ (zB (zQ (zG (zR 2 rfl (zN (zU ?_))))))))
      refine W.regionD _ [.blk b11 [.slice (some ⟨gd, 0, none⟩) ps.length ps.length, .slice (some ⟨go, 0, none⟩) classes classes]] [.blk b11 [.slice (some ⟨gd, 0, none⟩) ps.length ps.length, .slice (some ⟨go, 0, none⟩) classes classes], .sl 22 1 (some ⟨go, 0, none⟩) classes (rws.map encS)] [19] mixed ?_
      refine vP 0 ?_
      refine vD 1 (r := by apply Rd.add; (exact Rd.blk 0 rfl)) (k := ?_)
      refine vP 2 ?_
      refine vP 3 ?_
      refine vD 4 (r := by apply Rd.add; (exact Rd.blk 0 rfl)) (k := ?_)
      refine vP 5 ?_
      refine VA.take2 6 rfl qK qK qK rfl qK qK rfl rfl qD (Yl.indexN tab_ok rfl rfl rfl rfl rfl rfl (fun _ => rfl) qN qH) qS qR qS ?_
      refine vD 7 (r := by (exact Rd.slD 1 rfl qX)) (k := ?_)
      refine vP 8 ?_
      refine vD 9 (r := by apply Rd.add; (exact Rd.blk 0 rfl)) (k := ?_)
      refine vP 10 ?_
      refine VA.take2 11 rfl qK qK qK rfl qK qK rfl rfl qD (Yl.indexN tab_ok rfl rfl rfl rfl rfl rfl (fun _ => rfl) qN qH) qS qR qS ?_
      refine vD 12 (r := by (exact Rd.slD 1 rfl qX)) (k := ?_)
      refine vP 13 ?_
      refine VA.take2 14 rfl qK qK qK rfl qK qK rfl rfl qD (Yl.indexN tab_ok rfl rfl rfl rfl rfl rfl (fun _ => rfl) qN qH) qS qR qS ?_
      refine VA.one (i := 15) qK ?_
      refine' VS.yl rfl rfl rfl qD (Yl.load1 tab_ok rfl rfl rfl (fun _ => rfl) ?r11 rfl ?h11) qS qR (fun _ => qS) ?_
      case r11 => exact Rd.slD (c + 6) hrow qO
      case h11 => rfl
      refine VA.one (i := 16) qK ?_
      refine VS.eff rfl rfl rfl qD (Ef.buildSliceD (enc := encI) (parts := [.tmp 90]) [_] tab_ok rfl rfl rfl rfl rfl rfl rfl rfl qD qD (fun a91 => ?_))
      refine ⟨by first | exact RLe.refl _ | assumption, qS, (fun _ => qS), ?_⟩
      refine VA.one (i := 17) qK ?_
      refine VS.eff rfl rfl rfl (by decide) (Ef.appendD (c + 7) 0 tab_ok rfl rfl rfl rfl rfl rfl hrow rfl rfl rfl rfl (fun _ _ => rfl) (by simp only [List.length_cons, List.length_nil]; omega) (by simp only [List.length_cons, List.length_nil]; omega) (fun a92 c92 ha92 => ?_))
      refine ⟨by first | exact RLe.refl _ | assumption, qS, (fun _ => qS), ?_⟩
      refine VA.take2 18 rfl qK qK qK rfl qK qK rfl rfl qD (Yl.indexN tab_ok rfl rfl rfl rfl rfl rfl (fun _ => rfl) qN qH) qS qR qS ?_
      refine VA.one (i := 19) qK ?_
      refine VS.effN rfl rfl rfl (Ef.storeD (⟨a92, c92, (nth rws c).xs ++ [nth (nth rws c).xs t]⟩ : Sl) 5 tab_ok rfl rfl rfl rfl rfl qO rfl rfl rfl rfl ?_)
      refine ⟨by first | exact RLe.refl _ | assumption, qS, (noD qK), ?_⟩
      refine VA.done qK ?_
      refine zL (zU (zG ?_))
      refine yA ?_
      refine zR 1 rfl (zN ?_)
      refine WE.again (c + 1, rws.set c ⟨a92, c92, (nth rws c).xs ++ [nth (nth rws c).xs t]⟩) ⟨by dsimp only; omega, by dsimp only; rw [List.map_set, g2]; dsimp only; rw [hxs]; exact ext_step (by omega), all_set g3 (ha92 (by simp))⟩ (by dsimp only; omega) ⟨rfl, rfl, rfl, rfl, rfl, rfl, rfl, rfl, rfl, rfl, rfl, rfl, rfl, rfl, rfl, rfl⟩ (RLe.refl _) (by dsimp only; rw [← rows_set (by omega)]; exact List.Sublist.cons _ (List.Sublist.refl _))
     ·
      have hc : c = classes := by omega
      subst c
      have hrx1 : rws.map Sl.xs = s.sent.map (fun l => l ++ [nth l t]) := by rw [g2, List.take_of_length_le (by omega), List.drop_eq_nil_of_le (by omega), List.append_nil]
      refine zX ?_
      refine wx (wx (zY (zU (zB ?_))))
      refine W.loop (β := M.RS σ × List Sl) (fun (s1, rws) => (∃ k : Nat, inner ps ch t k s1 = tick ps ch cap t s ∧ s1.ms.left ≤ k) ∧ (∃ B, Inv ps classes good (t + 2) B s1 ∧ B + s1.ms.left ≤ (t + 1) * cap) ∧ 0 ≤ s1.ms.left ∧ s1.ms.left ≤ cap ∧ s1.ms.now = t ∧ rws.map Sl.xs = s1.sent ∧ ∀ r ∈ rws, r.a.isSome = true) (fun (s1, rws) => [(0, true, .int .i64 cap), (1, true, .int .i64 classes), (2, true, .slice pa ps.length pc), (3, true, .int .i64 ticks), (4, true, .func (.func g) first capd), (10, true, .pointer (some ⟨b10, 0, none⟩)), (11, true, .pointer (some ⟨b11, 0, none⟩)), (14, true, .pointer (some ⟨b56, 0, none⟩)), (15, true, .int .i64 s1.cur), (16, true, .int .i64 s1.rest), (57, true, .int .i64 ticks), (58, true, .int .i64 (t : Int)), (17, true, .int .i64 (t : Int))]) (fun _ => R) (fun (s1, rws) => stE b56 pa ps.length pc a54 s1.ms :: .sl 4 1 (some ⟨a54, 0, none⟩) ps.length (s1.ms.begun.map encB) :: .blk b11 [.slice (some ⟨gd, 0, none⟩) ps.length ps.length, .slice (some ⟨go, 0, none⟩) classes classes] :: .sl 3 1 (some ⟨gd, 0, none⟩) ps.length (s1.done.map encI) :: .sl 22 1 (some ⟨go, 0, none⟩) classes (rws.map encS) :: .blk b10 [.slice none 0 0, .slice none 0 0] :: (rws.map (rowE 3) ++ (X s1.sg ++ F))) (fun (s1, rws) => s1.ms.left.toNat) ((({ s with ms := { s.ms with now := (t : Int), left := cap }, sent := s.sent.map fun l => l ++ [nth l t] } : M.RS σ), rws)) (⟨⟨cap.toNat, rfl, by dsimp only; omega⟩, ⟨_, h3.open hg.free, by dsimp only; rw [Int.add_mul]; omega⟩, by dsimp only; omega, by dsimp only; omega, rfl, hrx1, g3⟩) ⟨rfl, rfl, rfl, rfl, rfl, rfl, rfl, rfl, rfl, rfl, rfl, rfl, rfl, rfl⟩ (RLe.refl _) qS ?_
      intro st hst
      obtain ⟨s1, rws⟩ := st
      obtain ⟨⟨k, hin, hkk⟩, ⟨B, hinv, hB⟩, hl0, hlc, hnow, hrx1, hra1⟩ := hst
      dsimp only at hin hkk hinv hB hl0 hlc hnow hrx1 hra1 ⊢
      refine zQ (zQ (zG (zR 3 rfl ?_)))
      refine yM 0 ?_
      refine zR 1 rfl (zN (zU ?_))
      refine cD rfl ?_ ?_ <;> intro hc4
      ·
       refine zK (zU (zB ?_))
       refine W.seqCut (β := M.RS σ) (fun s2 => s2 = pickup ps ch s1 ∧ 0 ≤ s2.cur) (fun s2 => [(0, true, .int .i64 cap), (1, true, .int .i64 classes), (2, true, .slice pa ps.length pc), (3, true, .int .i64 ticks), (4, true, .func (.func g) first capd), (10, true, .pointer (some ⟨b10, 0, none⟩)), (11, true, .pointer (some ⟨b11, 0, none⟩)), (14, true, .pointer (some ⟨b56, 0, none⟩)), (15, true, .int .i64 s2.cur), (16, true, .int .i64 s2.rest), (57, true, .int .i64 ticks), (58, true, .int .i64 (t : Int)), (17, true, .int .i64 (t : Int))]) (fun _ => R) (fun s2 => stE b56 pa ps.length pc a54 s2.ms :: .sl 4 1 (some ⟨a54, 0, none⟩) ps.length (s2.ms.begun.map encB) :: .blk b11 [.slice (some ⟨gd, 0, none⟩) ps.length ps.length, .slice (some ⟨go, 0, none⟩) classes classes] :: .sl 3 1 (some ⟨gd, 0, none⟩) ps.length (s2.done.map encI) :: .sl 22 1 (some ⟨go, 0, none⟩) classes (rws.map encS) :: .blk b10 [.slice none 0 0, .slice none 0 0] :: (rws.map (rowE 3) ++ (X s2.sg ++ F))) ?_ ?_
       ·
        intro s2 hst
        obtain ⟨hs2, hcur⟩ := hst
        obtain ⟨e1, e2, e3, e4⟩ := pickup_same ps ch s1
        have hI : Inv ps classes good (t + 2) B s2 := by rw [hs2]; exact hinv.pickup hg hf
        rw [← hs2] at e1 e2 e3 e4
        obtain ⟨c1, c2, c3⟩ := hI.cur hcur
        have hat := hf.at (i := s2.cur.toNat) (by omega)
        have hrx2 : rws.map Sl.xs = s2.sent := by rw [e3]; exact hrx1
        have hlen : rws.length = classes := by rw [← hI.sent, ← hrx2, List.length_map]
        have hf0 : (nth ps s2.cur.toNat).flow.toNat < rws.length := by omega
        have hxs := nth_map_xs hrx2 hf0
        have hsome : (nth rws (nth ps s2.cur.toNat).flow.toNat).a.isSome = true := hra1 _ (nth_mem hf0)
        have hrw := hI.row (i := (nth ps s2.cur.toNat).flow.toNat) (by omega)
        have hxl : (nth rws (nth ps s2.cur.toNat).flow.toNat).xs.length = t + 2 := by rw [hxs]; exact hrw.1
        have hcell : 0 ≤ nth (nth rws (nth ps s2.cur.toNat).flow.toNat).xs (t + 1) ∧ nth (nth rws (nth ps s2.cur.toNat).flow.toNat).xs (t + 1) ≤ B := by rw [hxs]; exact hrw.2 _ (nth_mem (by rw [hrw.1]; omega))
        have hrow := rows_get (e := 3) (G := X s2.sg ++ F) (rows := rws) (c := (nth ps s2.cur.toNat).flow.toNat) hf0
        have hn0 : 1 ≤ (if s2.ms.left < s2.rest then s2.ms.left else s2.rest) ∧ (if s2.ms.left < s2.rest then s2.ms.left else s2.rest) ≤ s2.rest ∧ (if s2.ms.left < s2.rest then s2.ms.left else s2.rest) ≤ s2.ms.left := by split <;> omega
        have hdl := hI.done
        refine zQ (zG (zR 4 rfl ?_))
        refine yM 0 ?_
        refine zR 2 rfl (zN (zU (zQ ?_)))
        refine W.regionH _ (ES := [.blk b11 [.slice (some ⟨gd, 0, none⟩) ps.length ps.length, .slice (some ⟨go, 0, none⟩) classes classes], .sl 22 1 (some ⟨go, 0, none⟩) classes (rws.map encS)]) mixed ?_
        refine tP 0 ?_
        refine tL 1 (Rd.add (Rd.blk 0 rfl) _) ?_
        refine tP 2 ?_
        refine tP 3 ?_
        refine tX 4 ?_
        refine tP 5 ?_
        refine tD 6 (r := by apply Rd.add; ((apply RS.rdD; assumption; ((try dsimp only) <;> omega)))) (k := ?_)
        refine tX 7 ?_
        refine tD 8 (r := by (exact Rd.slD 1 rfl qX)) (k := ?_)
        refine tP 9 ?_
        refine tA 10 ?_
        refine tX 11 ?_
        refine tP 13 ?_
        refine' WA.yl 12 rfl qK rfl rfl qD (Yl.load1 tab_ok rfl rfl rfl (fun _ => rfl) ?r17 rfl ?h17) qS qR ?_
        case r17 => exact Rd.slD ((nth ps s2.cur.toNat).flow.toNat + 6) hrow (show ((t : Int) + 1).toNat < _ by omega)
        case h17 => rfl
        refine WA.take 14 rfl (by kernel_rfl) (by kernel_rfl) (by kernel_rfl) rfl rfl (by decide) (Yl.add rfl rfl rfl (fun _ => rfl) (by intro _; have hq : ((t : Int) + 1).toNat = t + 1 := (by omega); constructor <;> (rw [hq]; omega))) qS (by first | exact RLe.refl _ | assumption) ?_
        refine tX 15 ?_
        refine WA.effN 16 rfl qK rfl rfl (Ef.storeD (enc := encI) (xs := (nth rws (nth ps s2.cur.toNat).flow.toNat).xs) (nth (nth rws (nth ps s2.cur.toNat).flow.toNat).xs (t + 1) + (if s2.ms.left < s2.rest then s2.ms.left else s2.rest)) ((nth ps s2.cur.toNat).flow.toNat + 6) tab_ok rfl rfl rfl rfl hrow (show ((t : Int) + 1).toNat < _ by omega) rfl rfl rfl rfl ?_)
        refine ⟨qR, qS, ?_⟩
        refine WA.done qK ?_
        refine zU ?_
        refine W.perm (E' := stE b56 pa ps.length pc a54 s2.ms :: .sl 4 1 (some ⟨a54, 0, none⟩) ps.length (s2.ms.begun.map encB) :: .blk b11 [.slice (some ⟨gd, 0, none⟩) ps.length ps.length, .slice (some ⟨go, 0, none⟩) classes classes] :: .sl 3 1 (some ⟨gd, 0, none⟩) ps.length (s2.done.map encI) :: .sl 22 1 (some ⟨go, 0, none⟩) classes ((rws.set (nth ps s2.cur.toNat).flow.toNat ⟨(nth rws (nth ps s2.cur.toNat).flow.toNat).a, (nth rws (nth ps s2.cur.toNat).flow.toNat).cap, (nth rws (nth ps s2.cur.toNat).flow.toNat).xs.set (t + 1) (nth (nth rws (nth ps s2.cur.toNat).flow.toNat).xs (t + 1) + (if s2.ms.left < s2.rest then s2.ms.left else s2.rest))⟩).map encS) :: .blk b10 [.slice none 0 0, .slice none 0 0] :: ((rws.set (nth ps s2.cur.toNat).flow.toNat ⟨(nth rws (nth ps s2.cur.toNat).flow.toNat).a, (nth rws (nth ps s2.cur.toNat).flow.toNat).cap, (nth rws (nth ps s2.cur.toNat).flow.toNat).xs.set (t + 1) (nth (nth rws (nth ps s2.cur.toNat).flow.toNat).xs (t + 1) + (if s2.ms.left < s2.rest then s2.ms.left else s2.rest))⟩).map (rowE 3) ++ (X s2.sg ++ F))) (by rw [← rows_set hf0, encS_set hf0 (by simp)] <;> exact List.Perm.refl _) ?_
        refine zQ (zG (zR 2 rfl ?_))
        refine yS ?_
        refine zR 1 rfl (zN (zU (zQ (zG (zR 3 rfl ?_)))))
        refine yM 0 ?_
        refine zR 1 rfl ?_
        refine yS ?_
        refine zR 2 rfl ?_
        refine zF 0 ?_
        refine zN (zU (zQ (zG (zR 2 rfl (zN (zU ?_))))))
        refine cE rfl ?_ ?_ <;> intro hc5
        ·
         refine zQ (zG (zR 1 rfl ?_))
         refine yM 2 ?_
         refine zR 2 rfl ?_
         refine yX ?_
         refine WL.efN rfl rfl (Ef.storeD _ 3 tab_ok rfl rfl rfl rfl rfl qX rfl rfl rfl rfl ?_)
         refine zN (zU (zG (zR 1 rfl (zN (zL ?_)))))
         have hsend : send ps t s2 = ({ s2 with sent := s2.sent.set (nth ps s2.cur.toNat).flow.toNat ((nth s2.sent (nth ps s2.cur.toNat).flow.toNat).set (t + 1) (nth (nth s2.sent (nth ps s2.cur.toNat).flow.toNat) (t + 1) + (if s2.ms.left < s2.rest then s2.ms.left else s2.rest))), rest := s2.rest - (if s2.ms.left < s2.rest then s2.ms.left else s2.rest), ms := { s2.ms with left := s2.ms.left - (if s2.ms.left < s2.rest then s2.ms.left else s2.rest) }, done := s2.done.set s2.cur.toNat t, cur := -1 } : M.RS σ) := by unfold M.send; dsimp only; simp only [if_pos hc5]
         refine WE.again (({ s2 with sent := s2.sent.set (nth ps s2.cur.toNat).flow.toNat ((nth s2.sent (nth ps s2.cur.toNat).flow.toNat).set (t + 1) (nth (nth s2.sent (nth ps s2.cur.toNat).flow.toNat) (t + 1) + (if s2.ms.left < s2.rest then s2.ms.left else s2.rest))), rest := s2.rest - (if s2.ms.left < s2.rest then s2.ms.left else s2.rest), ms := { s2.ms with left := s2.ms.left - (if s2.ms.left < s2.rest then s2.ms.left else s2.rest) }, done := s2.done.set s2.cur.toNat t, cur := -1 } : M.RS σ), (rws.set (nth ps s2.cur.toNat).flow.toNat ⟨(nth rws (nth ps s2.cur.toNat).flow.toNat).a, (nth rws (nth ps s2.cur.toNat).flow.toNat).cap, (nth rws (nth ps s2.cur.toNat).flow.toNat).xs.set (t + 1) (nth (nth rws (nth ps s2.cur.toNat).flow.toNat).xs (t + 1) + (if s2.ms.left < s2.rest then s2.ms.left else s2.rest))⟩)) ⟨⟨k - 1, by dsimp only; rw [← hsend, hs2, ← inner_some hkk hc4 (by rw [← hs2]; exact hcur)]; exact hin, by dsimp only; omega⟩, ⟨_, by dsimp only; rw [← hsend]; exact (hI.send hf hg.free (t := t) (by omega) hcur (by omega)).1, by dsimp only; rw [hsend]; dsimp only; omega⟩, by dsimp only; omega, by dsimp only; omega, by dsimp only; omega, by dsimp only; rw [List.map_set, hrx2, ← hxs], all_set hra1 hsome⟩ (by dsimp only; omega) ⟨rfl, rfl, rfl, rfl, rfl, rfl, rfl, rfl, rfl, rfl, rfl, rfl, rfl, rfl⟩ (RLe.refl _) qS
        ·
         refine zK (zL ?_)
         have hsend : send ps t s2 = ({ s2 with sent := s2.sent.set (nth ps s2.cur.toNat).flow.toNat ((nth s2.sent (nth ps s2.cur.toNat).flow.toNat).set (t + 1) (nth (nth s2.sent (nth ps s2.cur.toNat).flow.toNat) (t + 1) + (if s2.ms.left < s2.rest then s2.ms.left else s2.rest))), rest := s2.rest - (if s2.ms.left < s2.rest then s2.ms.left else s2.rest), ms := { s2.ms with left := s2.ms.left - (if s2.ms.left < s2.rest then s2.ms.left else s2.rest) }, done := s2.done, cur := s2.cur } : M.RS σ) := by unfold M.send; dsimp only; simp only [if_neg hc5]
         refine WE.again (({ s2 with sent := s2.sent.set (nth ps s2.cur.toNat).flow.toNat ((nth s2.sent (nth ps s2.cur.toNat).flow.toNat).set (t + 1) (nth (nth s2.sent (nth ps s2.cur.toNat).flow.toNat) (t + 1) + (if s2.ms.left < s2.rest then s2.ms.left else s2.rest))), rest := s2.rest - (if s2.ms.left < s2.rest then s2.ms.left else s2.rest), ms := { s2.ms with left := s2.ms.left - (if s2.ms.left < s2.rest then s2.ms.left else s2.rest) }, done := s2.done, cur := s2.cur } : M.RS σ), (rws.set (nth ps s2.cur.toNat).flow.toNat ⟨(nth rws (nth ps s2.cur.toNat).flow.toNat).a, (nth rws (nth ps s2.cur.toNat).flow.toNat).cap, (nth rws (nth ps s2.cur.toNat).flow.toNat).xs.set (t + 1) (nth (nth rws (nth ps s2.cur.toNat).flow.toNat).xs (t + 1) + (if s2.ms.left < s2.rest then s2.ms.left else s2.rest))⟩)) ⟨⟨k - 1, by dsimp only; rw [← hsend, hs2, ← inner_some hkk hc4 (by rw [← hs2]; exact hcur)]; exact hin, by dsimp only; omega⟩, ⟨_, by dsimp only; rw [← hsend]; exact (hI.send hf hg.free (t := t) (by omega) hcur (by omega)).1, by dsimp only; rw [hsend]; dsimp only; omega⟩, by dsimp only; omega, by dsimp only; omega, by dsimp only; omega, by dsimp only; rw [List.map_set, hrx2, ← hxs], all_set hra1 hsome⟩ (by dsimp only; omega) ⟨rfl, rfl, rfl, rfl, rfl, rfl, rfl, rfl, rfl, rfl, rfl, rfl, rfl, rfl⟩ (RLe.refl _) qS
       ·
        refine zQ (zG (zR 2 rfl (zN (zU ?_))))
        refine cD rfl ?_ ?_ <;> intro hc6
        ·
         refine zQ (zQ (zG (zR 2 rfl ?_)))
         refine WL.perm perm_choice ?_
         refine WL.call hen rfl rfl qD (CallOp.mkT rfl rfl rfl rfl) (hch _ _ s1.ms s1.sg _ hinv.good hinv.begun hc4 hlc qO qO) ?_
         rintro _ _ _ - ⟨rfl, rfl, rfl⟩
         refine WL.perm perm_choice.symm ?_
         refine zR 1 rfl (zN (zU (zQ (zG (zR 2 rfl (zN (zU ?_)))))))
         refine cD rfl ?_ ?_ <;> intro hc7
         ·
          have hpick : pickup ps ch s1 = ({ s1 with cur := (ch s1.ms s1.sg).1, ms := { s1.ms with before := (ch s1.ms s1.sg).2.1 }, sg := (ch s1.ms s1.sg).2.2 } : M.RS σ) := by unfold M.pickup; rw [if_neg (by omega)]; dsimp only; rw [if_pos hc7]
          have htk1 : tick ps ch cap t s = ({ s1 with cur := (ch s1.ms s1.sg).1, ms := { s1.ms with before := (ch s1.ms s1.sg).2.1 }, sg := (ch s1.ms s1.sg).2.2 } : M.RS σ) := by rw [← hpick, ← hin, inner_none hkk hc4 (by rw [hpick]; exact hc7)]
          refine zX ?_
          refine wx (wx ?_)
          refine WE.blk_other rfl ?_
          refine wx (zY (zL (zU (zG ?_))))
          refine yA ?_
          refine zR 1 rfl (zN ?_)
          have hI2 : Inv ps classes good (t + 2) ((t + 1) * cap) ({ s1 with cur := (ch s1.ms s1.sg).1, ms := { s1.ms with before := (ch s1.ms s1.sg).2.1 }, sg := (ch s1.ms s1.sg).2.2 } : M.RS σ) := by rw [← hpick]; exact (hinv.pickup hg hf).mono (by omega)
          refine WE.again (t + 1, ({ s1 with cur := (ch s1.ms s1.sg).1, ms := { s1.ms with before := (ch s1.ms s1.sg).2.1 }, sg := (ch s1.ms s1.sg).2.2 } : M.RS σ), rws) ⟨by dsimp only; omega, by dsimp only; rw [← htk1, ← h2, show ticks - t = (ticks - (t + 1)) + 1 by omega, ticksFrom], by dsimp only; simpa using hI2, hrx1, hra1⟩ (by dsimp only; omega) ⟨rfl, rfl, rfl, rfl, rfl, rfl, rfl, rfl, rfl, rfl, rfl, rfl, rfl⟩ (RLe.refl _) qS
         ·
          have hpick : pickup ps ch s1 = ({ s1 with cur := (ch s1.ms s1.sg).1, rest := (nth ps (ch s1.ms s1.sg).1.toNat).size, ms := { s1.ms with before := (ch s1.ms s1.sg).2.1, begun := s1.ms.begun.set (ch s1.ms s1.sg).1.toNat true }, sg := (ch s1.ms s1.sg).2.2 } : M.RS σ) := by unfold M.pickup; rw [if_neg (by omega)]; dsimp only; rw [if_neg hc7]
          have hidx := hg.idx _ _ hinv.good hinv.begun (by omega)
          have hbl := hinv.begun
          refine zK (zU ?_)
          refine W.regionH _ (ES := [stE b56 pa ps.length pc a54 { s1.ms with before := (ch s1.ms s1.sg).2.1 }]) mixed ?_
          refine tP 0 ?_
          refine tP 1 ?_
          refine tP 2 ?_
          refine tL 3 (Rd.add (Rd.blk 0 rfl) _) ?_
          refine tP 4 ?_
          refine tP 5 ?_
          refine tP 6 ?_
          refine tX 7 ?_
          refine tP 8 ?_
          refine tD 9 (r := by apply Rd.add; ((apply RS.rdD; assumption; ((try dsimp only) <;> omega)))) (k := ?_)
          refine tX 10 ?_
          refine WA.effN 11 rfl qK rfl rfl (Ef.storeD _ 1 tab_ok rfl rfl rfl rfl rfl qX rfl rfl rfl rfl ?_)
          refine ⟨qR, qS, ?_⟩
          refine tP 12 ?_
          refine WA.done qK ?_
          refine WE.cut ({ s1 with cur := (ch s1.ms s1.sg).1, rest := (nth ps (ch s1.ms s1.sg).1.toNat).size, ms := { s1.ms with before := (ch s1.ms s1.sg).2.1, begun := s1.ms.begun.set (ch s1.ms s1.sg).1.toNat true }, sg := (ch s1.ms s1.sg).2.2 } : M.RS σ) ⟨hpick.symm, by dsimp only; omega⟩ ⟨rfl, rfl, rfl, rfl, rfl, rfl, rfl, rfl, rfl, rfl, rfl, rfl, rfl, rfl⟩ (RLe.refl _) qS
        ·
         refine zK ?_
         refine WE.cut s1 ⟨by unfold M.pickup; rw [if_pos (by omega)], by omega⟩ ⟨rfl, rfl, rfl, rfl, rfl, rfl, rfl, rfl, rfl, rfl, rfl, rfl, rfl, rfl⟩ (RLe.refl _) qS
      ·
       have htk1 : tick ps ch cap t s = s1 := by rw [← hin, inner_stop (by omega)]
       refine zX ?_
       refine wx (wx (zY (zL (zU (zG ?_)))))
       refine yA ?_
       refine zR 1 rfl (zN ?_)
       have hI2 : Inv ps classes good (t + 2) ((t + 1) * cap) s1 := hinv.mono (by omega)
       refine WE.again (t + 1, s1, rws) ⟨by dsimp only; omega, by dsimp only; rw [← htk1, ← h2, show ticks - t = (ticks - (t + 1)) + 1 by omega, ticksFrom], by dsimp only; simpa using hI2, hrx1, hra1⟩ (by dsimp only; omega) ⟨rfl, rfl, rfl, rfl, rfl, rfl, rfl, rfl, rfl, rfl, rfl, rfl, rfl⟩ (RLe.refl _) qS
    ·
     have ht : t = ticks := by omega
     subst t
     rw [Nat.sub_self] at h2
     refine zX ?_
     refine wx (wx (zY (zU (zQ (zG ?_)))))
     refine yB 2 ?_
     refine zE 5 ?_
     refine zN (zU (zT ?_))
     refine WE.retF tab_ok [_] rfl ⟨⟨_, _, _, rfl, rfl, rfl, (Rd.blk 5 rfl), rfl⟩, trivial⟩ (RLe.refl _) ?_
     exact ⟨rows, gd, go, s, h2, rfl, rfl, h4, h5, h3, qS⟩
 ·
  refine W.regionH _ (ES := []) mixed ?_
  refine tP 0 ?_
  refine tP 1 ?_
  refine tP 3 ?_
  refine WA.br3 (i := 2) (j := 4) (k := 6) qK ?_ ?_ ?_
  ·
   refine WS.eff rfl rfl rfl qD (Ef.makeSliceD (enc := encI) 0 tab_ok rfl rfl rfl rfl rfl rfl qX qX qX qX qD rfl rfl (fun a22 => ?_))
   refine ⟨qR, qS, ?_⟩
   refine WA.br2 (i := 4) (j := 6) qK ?_ ?_
   ·
    refine WS.eff rfl rfl rfl qD (Ef.makeSliceD (enc := encS) ⟨none, 0, []⟩ tab_ok rfl rfl rfl rfl rfl rfl qX qX qX qX qD rfl rfl (fun a24 => ?_))
    refine ⟨qR, qS, ?_⟩
    refine WA.take 5 rfl qK qK qK rfl rfl qD (Yl.build (parts := [(0, .tmp 22), (1, .tmp 24)]) tab_ok rfl rfl rfl rfl (fun _ => rfl) rfl rfl) qS qR ?_
    refine WA.eff 6 rfl qK rfl rfl qD (Ef.alloc tab_ok rfl rfl (fun b11 => ?_))
    refine ⟨qR, qS, ?_⟩
    refine zCE 7 0 ?_
    refine WA.done qK ?_
    refine WE.cutP (b11, a22, a24) trivial ⟨rfl, rfl, rfl, rfl, rfl, rfl, rfl, rfl⟩ (RLe.refl _) (by first | exact List.Perm.refl _ | exact perm3a _ _ _ _ | exact perm3b _ _ _ _ | exact perm3c _ _ _ _ | exact perm3d _ _ _ _ | exact perm3e _ _ _ _)
   ·
    refine WS.eff rfl rfl rfl qD (Ef.alloc tab_ok rfl rfl (fun b11 => ?_))
    refine ⟨qR, qS, ?_⟩
    refine WA.eff 4 rfl qK rfl rfl qD (Ef.makeSliceD (enc := encS) ⟨none, 0, []⟩ tab_ok rfl rfl rfl rfl rfl rfl qX qX qX qX qD rfl rfl (fun a24 => ?_))
    refine ⟨qR, qS, ?_⟩
    refine WA.take 5 rfl qK qK qK rfl rfl qD (Yl.build (parts := [(0, .tmp 22), (1, .tmp 24)]) tab_ok rfl rfl rfl rfl (fun _ => rfl) rfl rfl) qS qR ?_
    refine zCE 7 1 ?_
    refine WA.done qK ?_
    refine WE.cutP (b11, a22, a24) trivial ⟨rfl, rfl, rfl, rfl, rfl, rfl, rfl, rfl⟩ (RLe.refl _) (by first | exact List.Perm.refl _ | exact perm3a _ _ _ _ | exact perm3b _ _ _ _ | exact perm3c _ _ _ _ | exact perm3d _ _ _ _ | exact perm3e _ _ _ _)
  ·
   refine WS.eff rfl rfl rfl qD (Ef.makeSliceD (enc := encS) ⟨none, 0, []⟩ tab_ok rfl rfl rfl rfl rfl rfl qX qX qX qX qD rfl rfl (fun a24 => ?_))
   refine ⟨qR, qS, ?_⟩
   refine WA.br2 (i := 2) (j := 6) qK ?_ ?_
   ·
    refine WS.eff rfl rfl rfl qD (Ef.makeSliceD (enc := encI) 0 tab_ok rfl rfl rfl rfl rfl rfl qX qX qX qX qD rfl rfl (fun a22 => ?_))
    refine ⟨qR, qS, ?_⟩
    refine WA.take 5 rfl qK qK qK rfl rfl qD (Yl.build (parts := [(0, .tmp 22), (1, .tmp 24)]) tab_ok rfl rfl rfl rfl (fun _ => rfl) rfl rfl) qS qR ?_
    refine WA.eff 6 rfl qK rfl rfl qD (Ef.alloc tab_ok rfl rfl (fun b11 => ?_))
    refine ⟨qR, qS, ?_⟩
    refine zCE 7 0 ?_
    refine WA.done qK ?_
    refine WE.cutP (b11, a22, a24) trivial ⟨rfl, rfl, rfl, rfl, rfl, rfl, rfl, rfl⟩ (RLe.refl _) (by first | exact List.Perm.refl _ | exact perm3a _ _ _ _ | exact perm3b _ _ _ _ | exact perm3c _ _ _ _ | exact perm3d _ _ _ _ | exact perm3e _ _ _ _)
   ·
    refine WS.eff rfl rfl rfl qD (Ef.alloc tab_ok rfl rfl (fun b11 => ?_))
    refine ⟨qR, qS, ?_⟩
    refine WA.eff 2 rfl qK rfl rfl qD (Ef.makeSliceD (enc := encI) 0 tab_ok rfl rfl rfl rfl rfl rfl qX qX qX qX qD rfl rfl (fun a22 => ?_))
    refine ⟨qR, qS, ?_⟩
    refine WA.take 5 rfl qK qK qK rfl rfl qD (Yl.build (parts := [(0, .tmp 22), (1, .tmp 24)]) tab_ok rfl rfl rfl rfl (fun _ => rfl) rfl rfl) qS qR ?_
    refine zCE 7 1 ?_
    refine WA.done qK ?_
    refine WE.cutP (b11, a22, a24) trivial ⟨rfl, rfl, rfl, rfl, rfl, rfl, rfl, rfl⟩ (RLe.refl _) (by first | exact List.Perm.refl _ | exact perm3a _ _ _ _ | exact perm3b _ _ _ _ | exact perm3c _ _ _ _ | exact perm3d _ _ _ _ | exact perm3e _ _ _ _)
  ·
   refine WS.eff rfl rfl rfl qD (Ef.alloc tab_ok rfl rfl (fun b11 => ?_))
   refine ⟨qR, qS, ?_⟩
   refine WA.br2 (i := 2) (j := 4) qK ?_ ?_
   ·
    refine WS.eff rfl rfl rfl qD (Ef.makeSliceD (enc := encI) 0 tab_ok rfl rfl rfl rfl rfl rfl qX qX qX qX qD rfl rfl (fun a22 => ?_))
    refine ⟨qR, qS, ?_⟩
    refine WA.eff 4 rfl qK rfl rfl qD (Ef.makeSliceD (enc := encS) ⟨none, 0, []⟩ tab_ok rfl rfl rfl rfl rfl rfl qX qX qX qX qD rfl rfl (fun a24 => ?_))
    refine ⟨qR, qS, ?_⟩
    refine WA.take 5 rfl qK qK qK rfl rfl qD (Yl.build (parts := [(0, .tmp 22), (1, .tmp 24)]) tab_ok rfl rfl rfl rfl (fun _ => rfl) rfl rfl) qS qR ?_
    refine zCE 7 2 ?_
    refine WA.done qK ?_
    refine WE.cutP (b11, a22, a24) trivial ⟨rfl, rfl, rfl, rfl, rfl, rfl, rfl, rfl⟩ (RLe.refl _) (by first | exact List.Perm.refl _ | exact perm3a _ _ _ _ | exact perm3b _ _ _ _ | exact perm3c _ _ _ _ | exact perm3d _ _ _ _ | exact perm3e _ _ _ _)
   ·
    refine WS.eff rfl rfl rfl qD (Ef.makeSliceD (enc := encS) ⟨none, 0, []⟩ tab_ok rfl rfl rfl rfl rfl rfl qX qX qX qX qD rfl rfl (fun a24 => ?_))
    refine ⟨qR, qS, ?_⟩
    refine WA.eff 2 rfl qK rfl rfl qD (Ef.makeSliceD (enc := encI) 0 tab_ok rfl rfl rfl rfl rfl rfl qX qX qX qX qD rfl rfl (fun a22 => ?_))
    refine ⟨qR, qS, ?_⟩
    refine WA.take 5 rfl qK qK qK rfl rfl qD (Yl.build (parts := [(0, .tmp 22), (1, .tmp 24)]) tab_ok rfl rfl rfl rfl (fun _ => rfl) rfl rfl) qS qR ?_
    refine zCE 7 2 ?_
    refine WA.done qK ?_
    refine WE.cutP (b11, a22, a24) trivial ⟨rfl, rfl, rfl, rfl, rfl, rfl, rfl, rfl⟩ (RLe.refl _) (by first | exact List.Perm.refl _ | exact perm3a _ _ _ _ | exact perm3b _ _ _ _ | exact perm3c _ _ _ _ | exact perm3d _ _ _ _ | exact perm3e _ _ _ _)


theorem Check_V {R : Ro} {pa : Option Addr} {pc : Nat} {ps : List Pkt} (hp : RS R 3 encP pa ps) {cap classes ticks : Int} : FnV Tryz.prog 144 [.int .i64 cap, .int .i64 classes, .slice pa ps.length pc, .int .i64 ticks] R (.int .i64 (checkE cap classes ticks ps)) := by
 have hla := hp.len
 refine Fn.toV (fun w0 E => ?_)
 refine fE 44 Tryz.func144 ?_
 refine zQ (zG (zR 1 rfl (zN (zU (zQ (zQ (zG (zR 3 rfl ?_))))))))
 refine yP ?_
 refine yP ?_
 refine yO ?_
 refine zR 1 rfl ?_
 refine yP ?_
 refine yP ?_
 refine yO ?_
 refine zR 1 rfl ?_
 refine yP ?_
 refine yP ?_
 refine yO ?_
 refine zR 1 rfl ?_
 refine yP ?_
 refine yP ?_
 refine yO ?_
 refine zR 1 rfl ?_
 refine yP ?_
 refine yP ?_
 refine yO ?_
 refine zN (zU ?_)
 refine cC rfl ?_ ?_ <;> intro hc0
 ·try simp only [zk] at hc0
  refine zQ (zG (zR 1 rfl (zN (zU (zT (wt ?_))))))
  refine sE (E := E) ?_
  refine zr1 ?_
  exact ⟨by unfold checkE; rw [if_pos (show BadC cap classes ticks by unfold BadC; omega)]; rfl, rfl⟩
 ·try simp only [zk] at hc0
  have hck : checkE cap classes ticks ps = flowGo classes ps := by unfold checkE; rw [if_neg (by unfold BadC; omega)]
  refine zK (zU (zQ (zQ (zG (zR 3 rfl (zN (zU (zB ?_))))))))
  refine W.loop (β := Nat) (fun k => k ≤ ps.length ∧ flowGo classes (ps.drop k) = checkE cap classes ticks ps) (fun k => [(1, true, .int .i64 classes), (33, true, .slice pa ps.length pc), (34, true, .int .i64 ps.length), (35, true, .int .i64 (k : Int))]) (fun _ => R) (fun _ => E) (fun k => ps.length - k) (0) (⟨Nat.zero_le _, by rw [List.drop_zero, hck]⟩) ⟨rfl, rfl, rfl, rfl, rfl⟩ (RLe.refl _) qS ?_
  intro st hst
  obtain ⟨hk, hv⟩ := hst
  refine zQ (zG (zR 1 rfl (zN (zU (zQ ?_)))))
  refine cD rfl ?_ ?_ <;> intro hc1
  ·
   have hd := drop_nth (xs := ps) (k := st) (by omega)
   rw [hd, flowGo] at hv
   refine zK (zU (zQ (zB (zQ (zG ?_)))))
   refine yI ?_
   refine yD (r := by ((apply RS.rdD; assumption; ((try dsimp only) <;> omega)))) (k := ?_)
   refine zA fun b10 => ?_
   refine zE 0 ?_
   refine zN (zU (zQ (zG (zR 1 rfl ?_))))
   refine yM 0 ?_
   refine zR 2 rfl (zN (zU ?_))
   refine cD rfl ?_ ?_ <;> intro hc2
   ·
    rw [if_pos (by omega)] at hv
    refine zQ (zG (zR 1 rfl (zN (zU (zT (wb (wt (wt (wb (wt ?_))))))))))
    refine sE (E := E) ?_
    refine zr1 ?_
    exact ⟨by rw [← hv]; rfl, rfl⟩
   ·
    rw [if_neg (by omega)] at hv
    refine zK (zL (zU (zG ?_)))
    refine yA ?_
    refine zR 1 rfl (zN ?_)
    refine WE.again (st + 1) (⟨by omega, hv⟩) (by (try dsimp only); omega) ⟨rfl, rfl, rfl, rfl, rfl⟩ (RLe.refl _) qS
  ·
   obtain rfl : st = ps.length := by omega
   rw [List.drop_length, flowGo] at hv
   refine zX ?_
   refine wx (wx (zY (zU (zQ (zG (zR 1 rfl (zN (zU (zT ?_)))))))))
   refine sE (E := E) ?_
   refine zr1 ?_
   exact ⟨by rw [← hv]; rfl, rfl⟩
theorem LRun_ok {R : Ro} {pa : Option Addr} {pc : Nat} {ps : List Pkt} (hp : RS R 3 encP pa ps) {cap : Int} {classes ticks : Nat} (w0 : World) (hv : Ok ps) (hc : checkE cap classes ticks ps = 0) (E : List Ent) :
  K.Fn Tryz.prog 142 [.int .i64 cap, .int .i64 classes, .slice pa ps.length pc, .int .i64 ticks] w0 R E
   (fun v R' E' => ∃ (rows : List Sl) (gd go : Nat) (s : M.RS Unit), s = mrun ps (fifo ps) cap classes ticks () ∧ v = .tuple #[.agg #[.slice (some ⟨gd, 0, none⟩) ps.length ps.length, .slice (some ⟨go, 0, none⟩) classes classes], .int .i64 0] ∧ R = R' ∧ rows.map Sl.xs = s.sent ∧ (∀ r ∈ rows, r.a.isSome = true) ∧ Inv ps classes (goodF ps) (ticks + 1) (ticks * cap) s ∧
    (.sl 3 1 (some ⟨gd, 0, none⟩) ps.length (s.done.map encI) :: .sl 22 1 (some ⟨go, 0, none⟩) classes (rows.map encS) :: (rows.map (rowE 3) ++ E)).Sublist E') := by
 have hla := hp.len
 have hvv := (validate_ok ps).2 hv
 obtain ⟨hb, hfl⟩ := checkE_ok hc
 unfold BadC at hb
 have hcap : 1 ≤ cap ∧ cap ≤ 1000000 := by omega
 have hcl : classes ≤ 1000 := by omega
 have htk : ticks ≤ 1000000 := by omega
 have hrun := fun F => MRun_C (pc := pc) (g := 146) (first := #[]) (capd := #[]) (ch := fifo ps) (X := fun _ => []) (sg := ()) w0 hp (goodF_good ps) (hv.fit hfl) (Nat.zero_le _) hcap hcl htk en146 (fun sb bg ms sg F hgd hbl _ _ _ _ => First_C w0 hp hbl hgd F) F
 refine fE 32 Tryz.func142 ?_
 refine zQ (zG ?_)
 refine zA fun b8 => ?_
 refine zR 1 rfl (zN (zU (zQ (zQ (zG (zR 1 rfl ?_))))))
 refine WG.callV en143 rfl rfl qD (CallOp.mk' rfl rfl rfl rfl) (fun _ => rfl) (fun hg => hvv ▸ Validate_V hp) ?_
 refine zR 1 rfl (zN (zU (zQ (zG (zR 2 rfl (zN (zU ?_)))))))
 refine cN rfl ?_ ?_ <;> intro hc0
 ·
  exact absurd rfl hc0
 ·
  refine zK (zU (zQ (zQ (zG (zR 4 rfl ?_)))))
  refine WG.callV en144 rfl rfl qD (CallOp.mk' rfl rfl rfl rfl) (fun _ => rfl) (fun hg => hc ▸ Check_V hp) ?_
  refine zR 1 rfl (zN (zU (zQ (zG (zR 2 rfl (zN (zU ?_)))))))
  refine cN rfl ?_ ?_ <;> intro hc1
  ·
   exact absurd rfl hc1
  ·
   refine zK (zU (zQ (zG (zR 4 rfl ?_))))
   refine WL.call en145 rfl rfl qD (CallOp.mkT rfl rfl rfl rfl) (hrun (.blk b8 [.slice none 0 0, .slice none 0 0] :: E)) ?_
   rintro _ _ E2 - ⟨rows, gd, go, s, hs, rfl, rfl, h1, h2, h3, hsub⟩
   refine WL.subE hsub ?_
   refine WL.perm (List.perm_middle (l₁ := _ :: _ :: rows.map (rowE 3))) ?_
   refine zE 0 ?_
   refine zR 1 rfl (zN (zU (zT ?_)))
   refine WE.retF tab_ok [_, _] rfl ⟨⟨_, _, _, rfl, rfl, rfl, (Rd.blk 0 rfl), rfl⟩, rfl, trivial⟩ (RLe.refl _) ?_
   exact ⟨rows, gd, go, s, hs, rfl, rfl, h1, h2, h3, List.Sublist.cons _ (List.Sublist.refl _)⟩
theorem CLine_C {R : Ro} {rate : Int} (w0 : World) (hr : 0 ≤ rate ∧ rate ≤ 1073741824) (E : List Ent) :
  K.Fn Tryz.prog 106 [.int .i64 rate] w0 R E (fun v R' E' => ∃ g : Nat, v = .tuple #[.agg #[.slice (some ⟨g, 0, none⟩) 1 1, .int .i64 1, .int .i64 rate], .int .i64 0] ∧ R = R' ∧ (.sl 3 1 (some ⟨g, 0, none⟩) 1 ([0].map encI) :: E).Sublist E') := by
 refine fE 13 Tryz.func106 ?_
 refine zQ (zG ?_)
 refine zA fun b2 => ?_
 refine zR 1 rfl (zN (zU (zQ (zQ (zG (zR 2 rfl (zN (zU ?_))))))))
 refine cD rfl ?_ ?_ <;> intro hc0
 ·
  omega
 ·
  refine zK (zU (zQ (zQ (zG (zR 2 rfl (zN (zU ?_)))))))
  refine cD rfl ?_ ?_ <;> intro hc1
  ·
   omega
  ·
   refine zK (zU (zQ (zG ?_)))
   refine WL.ef rfl rfl qD (Ef.buildSliceD (enc := encI) (parts := [.const (.int .i64 0)]) [_] tab_ok rfl rfl rfl rfl rfl rfl rfl rfl qD qD (fun a10 => ?_))
   refine zR 1 rfl ?_
   refine yW [(0, .tmp 10), (1, .const (.int .i64 1)), (2, .tmp 11)] ?_
   refine zE 1 ?_
   refine zR 1 rfl (zN (zU (zT ?_)))
   refine WE.retF tab_ok [_, _] rfl ⟨⟨_, _, _, rfl, rfl, rfl, (Rd.blk 1 rfl), rfl⟩, rfl, trivial⟩ (RLe.refl _) ?_
   exact ⟨a10, rfl, rfl, List.Sublist.cons_cons _ (List.Sublist.cons _ (List.Sublist.refl _))⟩
theorem Serve_ok {R : Ro} {cap : Int} (w0 : World) (hr : 1 ≤ cap ∧ cap ≤ 4000) (E : List Ent) :
  K.Fn Tryz.prog 77 [.int .i64 cap] w0 R E (fun v R' E' => ∃ g : Nat, v = .tuple #[.agg #[.slice (some ⟨g, 0, none⟩) 1 1, .int .i64 1, .int .i64 cap], .int .i64 0] ∧ R = R' ∧ (.sl 3 1 (some ⟨g, 0, none⟩) 1 ([0].map encI) :: E).Sublist E') := by
 refine fE 15 Tryz.func77 ?_
 refine zQ (zG ?_)
 refine zA fun b2 => ?_
 refine zR 1 rfl (zN (zU (zQ (zQ (zG (zR 3 rfl ?_))))))
 refine yP ?_
 refine yP ?_
 refine yO ?_
 refine zN (zU ?_)
 refine cC rfl ?_ ?_ <;> intro hc0
 ·try simp only [zk] at hc0
  omega
 ·try simp only [zk] at hc0
  refine zK (zU (zQ (zG (zR 1 rfl ?_))))
  refine WL.call en106 rfl rfl qD (CallOp.mkT rfl rfl rfl rfl) (CLine_C w0 qO _) ?_
  rintro _ _ E2 - ⟨g, rfl, rfl, hsub⟩
  refine WL.subE hsub ?_
  refine zR 2 rfl ?_
  refine zE 1 ?_
  refine zR 1 rfl (zN (zU (zT ?_)))
  refine WE.retF tab_ok [_, _] rfl ⟨⟨_, _, _, rfl, rfl, rfl, (Rd.blk 1 rfl), rfl⟩, rfl, trivial⟩ (RLe.refl _) ?_
  exact ⟨g, rfl, rfl, List.Sublist.cons_cons _ (List.Sublist.cons _ (List.Sublist.refl _))⟩
theorem Same02_V {R : Ro} {a b : Option Addr} {ca cb : Nat} {xs ys : List Int} {p1 i1 p2 i2 : Int} (ha : RS R 1 encI a xs) (hb : RS R 1 encI b ys) :
  FnV Tryz.prog 18 [.agg #[.slice a xs.length ca, .int .i64 p1, .int .i64 i1], .agg #[.slice b ys.length cb, .int .i64 p2, .int .i64 i2]] R (.bool (decide (xs = ys ∧ p1 = p2 ∧ i1 = i2))) := by
 have hla := ha.len
 have hlb := hb.len
 refine Fn.toV (fun w0 E => ?_)
 refine fE 45 Tryz.func18 ?_
 refine zQ (zG ?_)
 refine zO fun b2 => ?_
 refine zO fun b3 => ?_
 refine zR 1 rfl (zN (zU (zQ (zQ (zG (zR 1 rfl ?_))))))
 refine yM 1 ?_
 refine zR 2 rfl ?_
 refine yM 0 ?_
 refine zR 3 rfl ?_
 refine yP ?_
 refine yG (Rd.addC (Rd.blkC 1 rfl) _) ?_
 refine yP ?_
 refine yG (Rd.addC (Rd.blkC 0 rfl) _) ?_
 refine yP ?_
 refine yO ?_
 refine zR 1 rfl ?_
 refine yP ?_
 refine yG (Rd.addC (Rd.blkC 1 rfl) _) ?_
 refine yP ?_
 refine yG (Rd.addC (Rd.blkC 0 rfl) _) ?_
 refine yP ?_
 refine yO ?_
 refine zN (zU ?_)
 refine cC rfl ?_ ?_ <;> intro hc0
 ·try simp only [zk] at hc0
  refine zQ (zG (zR 1 rfl (zN (zU (zT (wt ?_))))))
  refine sE (E := E) ?_
  refine zr1 ?_
  exact ⟨congrArg Value.bool (decide_eq_false (by rintro ⟨rfl, rfl, rfl⟩; simp at hc0)).symm, rfl⟩
 ·try simp only [zk] at hc0
  refine zK (zU (zQ (zQ (zG (zR 1 rfl (zN (zU (zB ?_))))))))
  refine W.loop (β := Nat) (fun k => k ≤ xs.length ∧ ∀ j, j < k → nth xs j = nth ys j) (fun k => [(2, true, .pointer (some ⟨b2, 0, none⟩)), (3, true, .pointer (some ⟨b3, 0, none⟩)), (5, true, .int .i64 (k : Int))]) (fun _ => R) (fun _ => .blk b3 [.slice b ys.length cb, .int .i64 p2, .int .i64 i2] :: .blk b2 [.slice a xs.length ca, .int .i64 p1, .int .i64 i1] :: E) (fun k => xs.length - k) (0) (⟨Nat.zero_le _, fun j hj => by omega⟩) ⟨rfl, rfl, rfl, rfl⟩ (RLe.refl _) qS ?_
  intro st hst
  obtain ⟨hk, hpre⟩ := hst
  refine zQ (zQ (zG (zR 2 rfl ?_)))
  refine yM 1 ?_
  refine zR 2 rfl (zN (zU ?_))
  refine cD rfl ?_ ?_ <;> intro hc1
  ·
   refine zK (zU (zQ (zB (zQ ?_))))
   refine W.regionQ _ mixed qK ?_
   refine zR 1 rfl ?_
   refine yM 1 ?_
   refine zR 1 rfl ?_
   refine yI ?_
   refine yD (r := by ((apply RS.rdD; assumption; ((try dsimp only) <;> omega)))) (k := ?_)
   refine zR 1 rfl ?_
   refine yM 0 ?_
   refine zR 1 rfl ?_
   refine yI ?_
   refine yD (r := by ((apply RS.rdD; assumption; ((try dsimp only) <;> omega)))) (k := ?_)
   refine zR 1 rfl (zN (zU ?_))
   refine cN rfl ?_ ?_ <;> intro hc2
   ·
    refine zQ (zG (zR 1 rfl (zN (zU (zT (wb (wt (wt (wb (wt ?_))))))))))
    refine sE (E := E) ?_
    refine zr1 ?_
    exact ⟨congrArg Value.bool (decide_eq_false (by rintro ⟨rfl, _⟩; exact hc2 rfl)).symm, rfl⟩
   ·
    refine zK (zL (zU (zG (zR 1 rfl ?_))))
    refine yA ?_
    refine zR 1 rfl (zN ?_)
    refine WE.again (st + 1) (⟨by omega, fun j hj => by
     by_cases h : j = st
     ·subst h; exact hc2
     ·exact hpre j (by omega)⟩) (by (try dsimp only); omega) ⟨rfl, rfl, rfl, rfl⟩ (RLe.refl _) qS
  ·
   refine zX ?_
   refine wx (wx (zY (zU (zQ (zG (zR 1 rfl (zN (zU (zT ?_)))))))))
   refine sE (E := E) ?_
   refine zr1 ?_
   exact ⟨congrArg Value.bool (decide_eq_true ⟨nth_ext qO (fun i hi => hpre i qO), by omega, by omega⟩).symm, rfl⟩




theorem At_W {R : Ro} {a : Option Addr} {c : Nat} {xs : List Int} {per inc t : Int} (ha : RS R 1 encI a xs) (hper : InR per) (ht : InR t) (hinc : 0 ≤ inc) (hB : ∀ q : Int, 0 ≤ q → q ≤ t → (q + 1) * inc ≤ 4611686018427387904) (hv : ∀ x ∈ xs, -2305843009213693952 ≤ x ∧ x ≤ 4611686018427387904) :
  FnV Tryz.prog 83 [.agg #[.slice a xs.length c, .int .i64 per, .int .i64 inc], .int .i64 t] R (.int .i64 (atR xs per inc t)) := by
 have hla := ha.len
 refine Fn.toV (fun w0 E => ?_)
 refine fE 62 Tryz.func83 ?_
 refine zQ (zG ?_)
 refine zO fun b2 => ?_
 refine zR 1 rfl (zN (zU (zQ (zG (zR 1 rfl ?_)))))
 refine yM 0 ?_
 refine zR 2 rfl (zN (zU (zQ (zQ (zG (zR 3 rfl ?_))))))
 refine yP ?_
 refine yP ?_
 refine yP ?_
 refine yP ?_
 refine yP ?_
 refine yG (Rd.addC (Rd.blkC 0 rfl) _) ?_
 refine yP ?_
 refine yP ?_
 refine yP ?_
 refine yG (Rd.addC (Rd.blkC 0 rfl) _) ?_
 refine yP ?_
 refine yP ?_
 refine yO ?_
 refine yN ?_
 refine yO ?_
 refine zN (zU ?_)
 refine cC rfl ?_ ?_ <;> intro hc0
 ·try simp only [zk] at hc0
  have e : atR xs per inc t = -1 := by unfold atR; rw [if_pos (by omega)]
  refine zQ (zG (zR 1 rfl (zN (zU (zT (wt ?_))))))
  refine sE (E := E) ?_
  refine zr1 ?_
  exact ⟨by rw [e]; rfl, rfl⟩
 ·try simp only [zk] at hc0
  have hb : ¬ (t < 0 ∨ ((xs.length : Int) ≤ t ∧ (per < 1 ∨ (xs.length : Int) < per))) := by
   rintro (h1 | ⟨h1, h2 | h2⟩) <;> omega
  refine zK (zU (zQ (zQ (zG (zR 3 rfl (zN (zU ?_)))))))
  refine cD rfl ?_ ?_ <;> intro hc1
  ·
   have e : atR xs per inc t = nth xs t.toNat := by unfold atR; rw [if_neg hb, if_pos hc1]
   refine zQ (zG (zR 1 rfl ?_))
   refine yM 0 ?_
   refine zR 1 rfl ?_
   refine yX ?_
   refine yD (r := by ((apply RS.rdD; assumption; ((try dsimp only) <;> omega)))) (k := ?_)
   refine zR 1 rfl (zN (zU (zT (wt ?_))))
   refine sE (E := E) ?_
   refine zr1 ?_
   exact ⟨by rw [e]; rfl, rfl⟩
  ·
   obtain ⟨hp1, hp2⟩ : 1 ≤ per ∧ per ≤ (xs.length : Int) := by omega
   have q1 : 0 ≤ (t - (xs.length : Int)) / per := Int.ediv_nonneg (by omega) (by omega)
   have q2 : (t - (xs.length : Int)) / per * per ≤ t - xs.length := Int.ediv_mul_le _ (by omega)
   have q3 : t - (xs.length : Int) < ((t - (xs.length : Int)) / per + 1) * per := Int.lt_ediv_add_one_mul_self _ (by omega)
   have q4 : ((t - (xs.length : Int)) / per + 1) * per = (t - (xs.length : Int)) / per * per + per := by rw [Int.add_mul]; simp
   have q5 : (t - (xs.length : Int)) / per ≤ t - xs.length := Int.ediv_le_self _ (by omega)
   have q6 : ((t - (xs.length : Int)) / per + 1) * inc ≤ 4611686018427387904 := hB _ q1 (by omega)
   have q7 : 0 ≤ ((t - (xs.length : Int)) / per + 1) * inc := Int.mul_nonneg (by omega) hinc
   refine zK (zU (zQ (zG (zR 2 rfl ?_))))
   refine yS ?_
   refine zR 1 rfl ?_
   refine yM 0 ?_
   refine yV ?_
   refine yA ?_
   refine zR 1 rfl (zN (zU (zQ (zG (zR 1 rfl ?_)))))
   refine yM 0 ?_
   refine zR 3 rfl ?_
   refine yM 0 ?_
   refine yU ?_
   refine yS ?_
   refine yX ?_
   refine yD (r := by ((apply RS.rdD; assumption; ((try dsimp only) <;> omega)))) (k := ?_)
   refine zR 1 rfl (zN (zU (zQ (zQ (zG (zR 2 rfl (zN (zU ?_))))))))
   refine cE rfl ?_ ?_ <;> intro hc2
   ·
    have e : atR xs per inc t = 4611686018427387904 := by unfold atR; rw [if_neg hb, if_neg (by omega), if_pos hc2]
    refine zQ (zG (zR 1 rfl (zN (zU (zT (wt ?_))))))
    refine sE (E := E) ?_
    refine zr1 ?_
    exact ⟨by rw [e]; rfl, rfl⟩
   ·
    have e : atR xs per inc t = nth xs (t - ((t - xs.length) / per + 1) * per).toNat + ((t - xs.length) / per + 1) * inc := by unfold atR; rw [if_neg hb, if_neg (by omega), if_neg hc2]
    have hx := hv _ (nth_mem (xs := xs) (k := (t - ((t - xs.length) / per + 1) * per).toNat) (by omega))
    refine zK (zU (zQ (zG (zR 3 rfl ?_))))
    refine yM 0 ?_
    refine yU ?_
    refine yA ?_
    refine zR 1 rfl (zN (zU (zT ?_)))
    refine sE (E := E) ?_
    refine zr1 ?_
    exact ⟨by rw [e]; rfl, rfl⟩
theorem At_V {R : Ro} {a : Option Addr} {c : Nat} {xs : List Int} {per inc t : Int} (ha : RS R 1 encI a xs) (hper : InR per) (ht : InR t ∧ t ≤ 1000000000) (hinc : 0 ≤ inc ∧ inc ≤ 2147483648) (hv : ∀ x ∈ xs, -2305843009213693952 ≤ x ∧ x ≤ 4611686018427387904) :
  FnV Tryz.prog 83 [.agg #[.slice a xs.length c, .int .i64 per, .int .i64 inc], .int .i64 t] R (.int .i64 (atR xs per inc t)) :=
 At_W ha hper ht.1 hinc.1 (fun q q0 q1 => by
  have : (q + 1) * inc ≤ 1000000001 * 2147483648 := Int.mul_le_mul (by omega) hinc.2 hinc.1 (by omega)
  omega) hv
theorem At_L {R : Ro} {a : Option Addr} {c : Nat} {xs : List Int} {per inc t : Int} (ha : RS R 1 encI a xs) (hper : InR per) (ht : InR t ∧ t ≤ 1000000) (hinc : 0 ≤ inc ∧ inc ≤ 549755813888) (hv : ∀ x ∈ xs, -2305843009213693952 ≤ x ∧ x ≤ 4611686018427387904) :
  FnV Tryz.prog 83 [.agg #[.slice a xs.length c, .int .i64 per, .int .i64 inc], .int .i64 t] R (.int .i64 (atR xs per inc t)) :=
 At_W ha hper ht.1 hinc.1 (fun q q0 q1 => by
  have : (q + 1) * inc ≤ 1000001 * 549755813888 := Int.mul_le_mul (by omega) hinc.2 hinc.1 (by omega)
  omega) hv

theorem Weighed19_V {R : Ro} {a : Option Addr} {c : Nat} {w : List Int} (ha : RS R 1 encI a w) : FnV Tryz.prog 175 [.slice a w.length c] R (.bool (okW 20 w)) := by
 have hla := ha.len
 refine Fn.toV (fun w0 E => ?_)
 refine fE 18 Tryz.func175 ?_
 refine zQ (zG (zR 1 rfl (zN (zU (zQ (zQ (zG (zR 3 rfl (zN (zU (zB ?_)))))))))))
 refine W.loopK (β := Nat) (fun k => k ≤ w.length ∧ ∀ j, j < k → 1 ≤ nth w j ∧ nth w j ≤ 20) (fun k => [(7, true, .int .i64 (k : Int))]) [5, 6] [_, _] [] _ rfl (fun k => []) (fun k => w.length - k) (0) (⟨Nat.zero_le _, fun j hj => by omega⟩) ⟨rfl, rfl, rfl, rfl⟩ qS ?_
 intro k hst
 refine zQ (zG (zR 1 rfl (zN (zU (zQ ?_)))))
 refine cD rfl ?_ ?_ <;> intro hc0
 ·
  refine zK (zU (zQ (zB (zQ (zG ?_)))))
  refine yI ?_
  refine yD (r := by ((apply RS.rdD; assumption; ((try dsimp only) <;> omega)))) (k := ?_)
  refine zR 1 rfl (zN (zU (zQ (zG (zR 3 rfl ?_)))))
  refine yP ?_
  refine yP ?_
  refine yO ?_
  refine zN (zU ?_)
  refine cC rfl ?_ ?_ <;> intro hc1
  ·try simp only [zk] at hc1
   have hkl : k < w.length := by omega
   refine zQ (zG (zR 1 rfl (zN (zU (zT (wb (wt (wt (wb (wt ?_))))))))))
   refine sE (E := E) ?_
   refine zr1 ?_
   refine ⟨congrArg Value.bool ?_, rfl⟩
   symm
   rw [← Bool.not_eq_true]
   intro h
   have := okW_iff.1 h _ (nth_mem hkl)
   omega
  ·try simp only [zk] at hc1
   refine zK (zL (zU (zG ?_)))
   refine yA ?_
   refine zR 1 rfl (zN ?_)
   refine WE.again (k + 1) (⟨by omega, fun j hj => by
    by_cases e : j = k
    ·subst e; omega
    ·exact hst.2 j (by omega)⟩) (by (try dsimp only); omega) ⟨rfl, rfl, rfl, rfl⟩ (RLe.refl _) qS
 ·
  refine zX ?_
  refine wx (wx (zY (zU (zQ (zG (zR 1 rfl (zN (zU (zT ?_)))))))))
  refine sE (E := E) ?_
  refine zr1 ?_
  refine ⟨congrArg Value.bool ?_, rfl⟩
  symm
  exact okW_iff.2 (all_of_nth (fun j hj => hst.2 j qO))
theorem Right19_V {R : Ro} {a : Option Addr} {c : Nat} {w : List Int} (ha : RS R 1 encI a w) : FnV Tryz.prog 95 [.slice a w.length c] R (.bool (okW 20 w)) := by
 have hla := ha.len
 refine Fn.toV (fun w0 E => ?_)
 refine fE 22 Tryz.func95 ?_
 refine zQ (zG (zR 1 rfl (zN (zU (zQ (zQ (zG (zR 1 rfl (zN (zU (zB ?_)))))))))))
 refine W.loopK (β := Nat) (fun k => k ≤ w.length ∧ ∀ j, j < k → 1 ≤ nth w j ∧ nth w j ≤ 20) (fun k => [(3, true, .int .i64 (k : Int))]) [0] [_] [] _ rfl (fun k => []) (fun k => w.length - k) (0) (⟨Nat.zero_le _, fun j hj => by omega⟩) ⟨rfl, rfl, rfl⟩ qS ?_
 intro k hst
 refine zQ (zQ (zG (zR 4 rfl (zN (zU ?_)))))
 refine cD rfl ?_ ?_ <;> intro hc0
 ·
  refine zK (zU (zQ (zB (zQ (zG (zR 2 rfl ?_))))))
  refine yI ?_
  refine yD (r := by ((apply RS.rdD; assumption; ((try dsimp only) <;> omega)))) (k := ?_)
  refine zR 2 rfl ?_
  refine yP ?_
  refine yP ?_
  refine gI ?_
  refine yJ (r := by ((apply RS.rdC; assumption))) (k := ?_)
  refine yP ?_
  refine yO ?_
  refine zN (zU ?_)
  refine cC rfl ?_ ?_ <;> intro hc1
  ·try simp only [zk] at hc1
   have hkl : k < w.length := by omega
   refine zQ (zG (zR 1 rfl (zN (zU (zT (wb (wt (wt (wb (wt ?_))))))))))
   refine sE (E := E) ?_
   refine zr1 ?_
   refine ⟨congrArg Value.bool ?_, rfl⟩
   symm
   rw [← Bool.not_eq_true]
   intro h
   have := okW_iff.1 h _ (nth_mem hkl)
   omega
  ·try simp only [zk] at hc1
   refine zK (zL (zU (zG (zR 1 rfl ?_))))
   refine yA ?_
   refine zR 1 rfl (zN ?_)
   refine WE.again (k + 1) (⟨by omega, fun j hj => by
    by_cases e : j = k
    ·subst e; omega
    ·exact hst.2 j (by omega)⟩) (by (try dsimp only); omega) ⟨rfl, rfl, rfl⟩ (RLe.refl _) qS
 ·
  refine zX ?_
  refine wx (wx (zY (zU (zQ (zG (zR 1 rfl (zN (zU (zT ?_)))))))))
  refine sE (E := E) ?_
  refine zr1 ?_
  refine ⟨congrArg Value.bool ?_, rfl⟩
  symm
  exact okW_iff.2 (all_of_nth (fun j hj => hst.2 j qO))

theorem Gcd_V {R : Ro} {a b : Nat} : FnV Tryz.prog 63 [.int .i64 (a : Int), .int .i64 (b : Int)] R (.int .i64 (Nat.gcd a b : Int)) := by
 refine Fn.toV (fun w0 E => ?_)
 refine fE 12 Tryz.func63 ?_
 refine zQ (zG (zR 1 rfl (zN (zU (zQ (zB ?_))))))
 refine W.loopK (β := Nat × Nat) (fun (x, y) => Nat.gcd x y = Nat.gcd a b) (fun (x, y) => [(0, true, .int .i64 (x : Int)), (1, true, .int .i64 (y : Int))]) [] [] [] _ rfl (fun (x, y) => []) (fun (x, y) => y) ((a, b)) (rfl) ⟨rfl, rfl, rfl⟩ qS ?_
 intro st hst
 obtain ⟨x, y⟩ := st
 dsimp only [zipE, setAll, List.cons_append, List.nil_append, List.set_cons_zero, List.set_cons_succ] at hst ⊢
 refine zQ (zQ (zG (zR 2 rfl (zN (zU ?_)))))
 refine cN rfl ?_ ?_ <;> intro hc0
 ·
  refine zK (zU (zB ?_))
  refine W.regionQ _ mixed qK ?_
  refine zR 3 rfl ?_
  refine WG.y rfl rfl qD (Yl.rem rfl rfl rfl (fun _ => rfl) qN qN) ?_
  refine zR 2 rfl (zN (zL ?_))
  refine WE.again ((y, x % y)) ((gcd_step x y).trans hst) (by dsimp only; exact Nat.mod_lt _ qO) ⟨rfl, rfl, rfl⟩ (RLe.refl _) qS
 ·
  obtain rfl : y = 0 := by omega
  rw [Nat.gcd_zero_right] at hst
  subst hst
  refine zX ?_
  refine wx (wx (zY (zU (zQ (zG (zR 2 rfl (zN (zU (zT ?_)))))))))
  refine sE (E := E) ?_
  refine zr1 ?_
  exact ⟨rfl, rfl⟩
theorem Common_V {R : Ro} {a b : Nat} (ha : a ≤ 1000000000) (hb : 0 < b ∧ b ≤ 1000000) : FnV Tryz.prog 100 [.int .i64 (a : Int), .int .i64 (b : Int)] R (.int .i64 ((a / Nat.gcd a b * b : Nat) : Int)) := by
 refine Fn.toV (fun w0 E => ?_)
 have hg : 0 < Nat.gcd a b := Nat.gcd_pos_of_pos_right _ hb.1
 have hq : ((a : Int) / (Nat.gcd a b : Int) * (b : Int)) ≤ 1000000000 * 1000000 ∧ 0 ≤ ((a : Int) / (Nat.gcd a b : Int) * (b : Int)) := by
  have h1 : a / Nat.gcd a b * b ≤ 1000000000 * 1000000 := Nat.mul_le_mul (Nat.le_trans (Nat.div_le_self _ _) ha) hb.2
  have e : ((a : Int) / (Nat.gcd a b : Int) * (b : Int)) = ((a / Nat.gcd a b * b : Nat) : Int) := rfl
  omega
 refine fE 20 Tryz.func100 ?_
 refine zQ (zG (zR 1 rfl (zN (zU (zQ (zG (zR 4 rfl (zN (zU (zQ (zB ?_)))))))))))
 refine W.loopK (β := Nat × Nat) (fun (x, y) => Nat.gcd x y = Nat.gcd a b) (fun (x, y) => [(5, true, .int .i64 (x : Int)), (6, true, .int .i64 (y : Int))]) [0, 1] [_, _] [] _ rfl (fun (x, y) => []) (fun (x, y) => y) ((a, b)) (rfl) ⟨rfl, rfl, rfl, rfl, rfl⟩ qS ?_
 intro st hst
 obtain ⟨x, y⟩ := st
 dsimp only [zipE, setAll, List.cons_append, List.nil_append, List.set_cons_zero, List.set_cons_succ] at hst ⊢
 refine zQ (zQ (zG (zR 2 rfl (zN (zU ?_)))))
 refine cN rfl ?_ ?_ <;> intro hc0
 ·
  refine zK (zU (zB ?_))
  refine W.regionQ _ mixed qK ?_
  refine zR 3 rfl ?_
  refine WG.y rfl rfl qD (Yl.rem rfl rfl rfl (fun _ => rfl) qN qN) ?_
  refine zR 2 rfl (zN (zL ?_))
  refine WE.again ((y, x % y)) ((gcd_step x y).trans hst) (by dsimp only; exact Nat.mod_lt _ qO) ⟨rfl, rfl, rfl, rfl, rfl⟩ (RLe.refl _) qS
 ·
  obtain rfl : y = 0 := by omega
  rw [Nat.gcd_zero_right] at hst
  subst hst
  refine zX ?_
  refine wx (wx (zY (zU (zQ (zG (zR 2 rfl ?_))))))
  refine yV ?_
  refine zR 1 rfl ?_
  refine yU ?_
  refine zR 1 rfl (zN (zU (zT ?_)))
  refine sE (E := E) ?_
  refine zr1 ?_
  exact ⟨rfl, rfl⟩
theorem Rounds_V {R : Ro} {low cap : Nat} (hl : low ≤ 1000000) (hc : 0 < cap ∧ cap ≤ 4000) : FnV Tryz.prog 171 [.int .i64 (low : Int), .int .i64 (cap : Int)] R (rvR (shortN low cap) cap) := by
 refine Fn.toV (fun w0 E => ?_)
 refine fE 23 Tryz.func171 ?_
 refine zQ (zG (zR 3 rfl (zN (zU (zQ (zQ (zG (zR 2 rfl (zN (zU (zB ?_)))))))))))
 refine W.loopK (β := Nat) (fun s => low ≤ s ∧ s ≤ max low (120 * cap + 1) ∧ ∀ j, low ≤ j → j < s → ¬ j / Nat.gcd j cap ≤ 120) (fun s => [(4, true, .int .i64 (s : Int))]) [1] [_] [] _ rfl (fun s => []) (fun s => 120 * cap + 1 - s) (low) (⟨Nat.le_refl _, by omega, fun j a b => by omega⟩) ⟨rfl, rfl, rfl⟩ qS ?_
 intro s hst
 dsimp only [zipE, setAll, List.cons_append, List.nil_append, List.set_cons_zero, List.set_cons_succ] at hst ⊢
 obtain ⟨h1, h2, h3⟩ := hst
 refine zQ (zQ (zG (zR 2 rfl ?_)))
 refine yU ?_
 refine zR 1 rfl (zN (zU ?_))
 refine cD rfl ?_ ?_ <;> intro hc0
 ·
  have hq : s / Nat.gcd s cap * cap / cap = s / Nat.gcd s cap := Nat.mul_div_cancel _ (by omega)
  have hq0 : (0 : Int) ≤ ((s / Nat.gcd s cap * cap : Nat) : Int) := by omega
  have hq1 : s / Nat.gcd s cap * cap ≤ 1000000 * 4000 := Nat.mul_le_mul (Nat.le_trans (Nat.div_le_self _ _) (by omega)) (by omega)
  have eq2 : ((s / Nat.gcd s cap * cap : Nat) : Int) / (cap : Int) = ((s / Nat.gcd s cap : Nat) : Int) := (show ((s / Nat.gcd s cap * cap : Nat) : Int) / (cap : Int) = ((s / Nat.gcd s cap * cap / cap : Nat) : Int) from rfl).trans (congrArg _ hq)
  refine zK (zU (zQ (zB (zQ (zG (zR 2 rfl ?_))))))
  refine WG.callV en100 rfl rfl qD (CallOp.mk' rfl rfl rfl rfl) (fun _ => rfl) (fun hg => Common_V qO qO) ?_
  refine zR 1 rfl ?_
  refine yV ?_
  refine zR 1 rfl (zN (zU (zQ (zG (zR 2 rfl (zN (zU ?_)))))))
  refine cD rfl ?_ ?_ <;> intro hc1
  ·
   have hh : s / Nat.gcd s cap ≤ 120 := by rw [eq2] at hc1; omega
   refine zQ (zG (zR 5 rfl (zN (zU (zT (wb (wt (wt (wb (wt ?_))))))))))
   refine sE (E := E) ?_
   refine WE.retF tab_ok [_, _, _] rfl ⟨rfl, rfl, rfl, trivial⟩ (RLe.refl _) ?_
   exact ⟨by rw [shortN_some h1 (by omega) hh h3, rvR_some, eq2]; rfl, rfl⟩
  ·
   have hno : ¬ s / Nat.gcd s cap ≤ 120 := by rw [eq2] at hc1; omega
   refine zK (zL (zU (zG (zR 1 rfl ?_))))
   refine yA ?_
   refine zR 1 rfl (zN ?_)
   refine WE.again (s + 1) (⟨by omega, by omega, fun j a b => by
    by_cases e : j = s
    ·subst e; intro h; exact hno h
    ·exact h3 j a (by omega)⟩) (by (try dsimp only); omega) ⟨rfl, rfl, rfl⟩ (RLe.refl _) qS
 ·
  refine zX ?_
  refine wx (wx (zY (zU (zQ (zG (zR 3 rfl (zN (zU (zT ?_)))))))))
  refine sE (E := E) ?_
  refine WE.retF tab_ok [_, _, _] rfl ⟨rfl, rfl, rfl, trivial⟩ (RLe.refl _) ?_
  exact ⟨by rw [shortN_none (s := s) (by omega) h3]; rfl, rfl⟩
theorem Short_V {R : Ro} {low cap : Nat} (hl : low ≤ 1000000) (hc : 0 < cap ∧ cap ≤ 4000) : FnV Tryz.prog 61 [.int .i64 (low : Int), .int .i64 (cap : Int)] R (svR (shortN low cap)) := by
 refine Fn.toV (fun w0 E => ?_)
 refine fE 19 Tryz.func61 ?_
 refine zQ (zG (zR 2 rfl (zN (zU (zQ (zB ?_))))))
 refine W.loopK (β := Nat) (fun s => low ≤ s ∧ s ≤ max low (120 * cap + 1) ∧ ∀ j, low ≤ j → j < s → ¬ j / Nat.gcd j cap ≤ 120) (fun s => [(0, true, .int .i64 (s : Int))]) [1] [_] [] _ rfl (fun s => []) (fun s => 120 * cap + 1 - s) (low) (⟨Nat.le_refl _, by omega, fun j a b => by omega⟩) ⟨rfl, rfl, rfl⟩ qS ?_
 intro s hst
 dsimp only [zipE, setAll, List.cons_append, List.nil_append, List.set_cons_zero, List.set_cons_succ] at hst ⊢
 obtain ⟨h1, h2, h3⟩ := hst
 refine zQ (zQ (zG (zR 2 rfl ?_)))
 refine yU ?_
 refine zR 1 rfl (zN (zU ?_))
 refine cD rfl ?_ ?_ <;> intro hc0
 ·
  have hg : 0 < Nat.gcd s cap := Nat.gcd_pos_of_pos_right _ hc.1
  have eq2 : (s : Int) / (Nat.gcd s cap : Int) = ((s / Nat.gcd s cap : Nat) : Int) := rfl
  refine zK (zU (zB (zQ (zQ (zG (zR 3 rfl ?_))))))
  refine WG.callV en63 rfl rfl qD (CallOp.mk' rfl rfl rfl rfl) (fun _ => rfl) (fun hg => Gcd_V) ?_
  refine yV ?_
  refine zR 1 rfl (zN (zU ?_))
  refine cD rfl ?_ ?_ <;> intro hc1
  ·
   have hh : s / Nat.gcd s cap ≤ 120 := by omega
   refine zQ (zG (zR 3 rfl (zN (zU (zT (wt (wb (wt (wb (wt ?_))))))))))
   refine sE (E := E) ?_
   refine zr2 ?_
   exact ⟨by rw [shortN_some h1 (by omega) hh h3, svR_some]; rfl, rfl⟩
  ·
   have hno : ¬ s / Nat.gcd s cap ≤ 120 := by omega
   refine zK (zU (zG (zR 1 rfl ?_)))
   refine yA ?_
   refine zR 1 rfl (zN (zL ?_))
   refine WE.again (s + 1) (⟨by omega, by omega, fun j a b => by
    by_cases e : j = s
    ·subst e; intro h; exact hno h
    ·exact h3 j a (by omega)⟩) (by (try dsimp only); omega) ⟨rfl, rfl, rfl⟩ (RLe.refl _) qS
 ·
  refine zX ?_
  refine wx (wx (zY (zU (zQ (zG (zR 2 rfl (zN (zU (zT ?_)))))))))
  refine sE (E := E) ?_
  refine zr2 ?_
  exact ⟨by rw [shortN_none (s := s) (by omega) h3]; rfl, rfl⟩
theorem FirstH_V {R : Ro} {f : FuncId} {fi ca : Array Value} {H : Nat → Bool} {b : Nat} (hE : Enters Tryz.prog f) (hb : b ≤ 1000000000000000) (hHb : H b = true) (hm : ∀ y y', H y = true → y ≤ y' → H y' = true) (hF : ∀ y : Nat, y ≤ 2 * b + 1 → FnV Tryz.prog f (fi.toList ++ [.int .i64 (y : Int)] ++ ca.toList) R (.bool (H y))) :
  FnV Tryz.prog 173 [.func (.func f) fi ca] R (.int .i64 (leastY H b : Int)) := by
 refine Fn.toV (fun w0 E => ?_)
 refine fE 29 Tryz.func173 ?_
 refine zQ (zG (zR 1 rfl (zN (zU (zQ (zG (zR 1 rfl (zN (zU (zQ (zB ?_)))))))))))
 refine W.loopK (β := Nat) (fun h => 1 ≤ h ∧ (h = 1 ∨ h ≤ 2 * b) ∧ h ≤ 2 * b + 1) (fun h => [(3, true, .int .i64 (h : Int))]) [0] [_] [] _ rfl (fun h => []) (fun h => 2 * b + 2 - h) (1) (⟨by omega, .inl rfl, by omega⟩) ⟨rfl, rfl, rfl⟩ qS ?_
 intro h hst
 dsimp only [zipE, setAll, List.cons_append, List.nil_append, List.set_cons_zero, List.set_cons_succ] at hst ⊢
 have hcl : FnV Tryz.prog f (fi.toList ++ [.int .i64 ((h : Int) - 1)] ++ ca.toList) R (.bool (H (h - 1))) := by
  have := hF (h - 1) (by omega)
  rwa [show ((h - 1 : Nat) : Int) = (h : Int) - 1 by omega] at this
 refine zQ (zQ (zG (zR 2 rfl ?_)))
 refine yS ?_
 refine WG.callV (v := .bool (H (h - 1))) hE rfl rfl qD (CallOp.mk' rfl rfl rfl rfl) (fun _ => rfl) (fun hg => hcl) ?_
 refine zR 1 rfl (zN (zU ?_))
 refine cC rfl ?_ ?_ <;> intro hc0
 ·try simp only [zk] at hc0
  have hlt : h - 1 < b := by
   apply Classical.byContradiction
   intro hh
   rw [hm b (h - 1) hHb (by omega)] at hc0
   cases hc0
  refine zK (zU (zB (zG (zR 1 rfl ?_))))
  refine yU ?_
  refine zR 1 rfl (zN (zL ?_))
  refine WE.again (2 * h) (⟨by omega, .inr qO, by omega⟩) (by (try dsimp only); omega) ⟨vint qO, rfl, rfl⟩ (RLe.refl _) qS
 ·try simp only [zk] at hc0
  have hH : H (h - 1) = true := by simpa using hc0
  refine zX ?_
  refine wx (wx (zY (zU (zQ (zG (zR 1 rfl (zN (zU (zQ (zQ (zG (zR 1 rfl ?_))))))))))))
  refine yS ?_
  refine zR 1 rfl (zN (zU (zB ?_)))
  refine W.loopK (β := Nat × Nat) (fun (lo, hi) => lo ≤ hi ∧ hi ≤ 2 * b + 1 ∧ H hi = true ∧ ∀ j, j < lo → H j = false) (fun (lo, hi) => [(3, true, .int .i64 (hi : Int)), (4, true, .int .i64 (lo : Int))]) [0] [_] [] _ rfl (fun (lo, hi) => []) (fun (lo, hi) => hi - lo) ((0, h - 1)) (⟨Nat.zero_le _, by (try dsimp only); omega, hH, fun j hj => by omega⟩) ⟨vint (by (try dsimp only); omega), rfl, rfl, rfl⟩ qS ?_
  intro st hst
  obtain ⟨lo, hi⟩ := st
  dsimp only [zipE, setAll, List.cons_append, List.nil_append, List.set_cons_zero, List.set_cons_succ] at hst ⊢
  obtain ⟨h1, h2, h3, h4⟩ := hst
  refine zQ (zQ (zG (zR 3 rfl (zN (zU ?_)))))
  refine cD rfl ?_ ?_ <;> intro hc1
  ·
   refine zK (zU (zB (zQ (zG (zR 2 rfl ?_)))))
   refine yA ?_
   refine yV ?_
   refine zR 1 rfl (zN (zU (zQ (zG (zR 2 rfl ?_)))))
   refine WG.callV (v := .bool (H ((lo + hi) / 2))) hE rfl rfl qD (CallOp.mk' rfl rfl rfl rfl) (fun _ => rfl) (fun hg => hF ((lo + hi) / 2) qO) ?_
   refine zN (zU ?_)
   refine cC rfl ?_ ?_ <;> intro hc2
   ·try simp only [zk] at hc2
    refine zG (zR 2 rfl (zN (zL ?_)))
    refine WE.again ((lo, (lo + hi) / 2)) (⟨by dsimp only; omega, by dsimp only; omega, hc2, h4⟩) (by (try dsimp only); omega) ⟨rfl, rfl, rfl, rfl⟩ (RLe.refl _) qS
   ·try simp only [zk] at hc2
    have hno : H ((lo + hi) / 2) = false := by simpa using hc2
    refine zG (zR 1 rfl ?_)
    refine yA ?_
    refine zR 1 rfl (zN (zL ?_))
    refine WE.again (((lo + hi) / 2 + 1, hi)) (⟨by dsimp only; omega, h2, h3, fun j hj => by
     dsimp only at hj
     rw [← Bool.not_eq_true]
     intro hh
     rw [hm j _ hh (by omega)] at hno
     cases hno⟩) (by (try dsimp only); omega) ⟨rfl, rfl, rfl, rfl⟩ (RLe.refl _) qS
  ·
   obtain rfl : lo = hi := by omega
   refine zX ?_
   refine wx (wx (zY (zU (zQ (zG (zR 2 rfl (zN (zU (zT ?_)))))))))
   refine sE (E := E) ?_
   refine zr1 ?_
   exact ⟨by rw [leastY_eq hHb h3 h4]; rfl, rfl⟩
theorem LeastW_V {R : Ro} {a : Option Addr} {c : Nat} {v : List Int} {inc : Int} {l : Nat} (ha : RS R 1 encI a v) (hvl : v.length = l) (hl : 0 < l ∧ l ≤ 100000) (hi : 0 ≤ inc ∧ inc ≤ 1000000000000) (hv : ∀ x ∈ v, 0 ≤ x ∧ x ≤ 1000000000000000) : FnV Tryz.prog 119 [.slice a l c, .int .i64 inc] R (.int .i64 (leastL v inc : Int)) := by
 subst hvl
 refine Fn.toV (fun w0 E => ?_)
 refine fE 84 Tryz.func119 ?_
 refine zQ (zG (zR 1 rfl (zN (zU ?_))))
 refine W.scope ?_
 refine zQ (zG (zR 3 rfl (zN (zU (zQ (W.label (zU (zQ (zQ (zG (zR 1 rfl (zN (zU (zB ?_))))))))))))))
 refine W.loopK (β := Nat) (fun p => 1 ≤ p ∧ p ≤ max 1 v.length ∧ ∀ j, 1 ≤ j → j < p → leastOk v inc j = false) (fun p => [(6, true, .int .i64 (p : Int))]) [0, 1, 5] [_, _, _] [] _ rfl (fun p => []) (fun p => v.length - p) (1) (⟨Nat.le_refl _, by omega, fun j a b => by omega⟩) ⟨rfl, rfl, rfl, rfl, rfl⟩ qS ?_
 intro p hst
 dsimp only [zipE, setAll, List.cons_append, List.nil_append, List.set_cons_zero, List.set_cons_succ] at hst ⊢
 obtain ⟨h1, h2, h3⟩ := hst
 have hip : 0 ≤ inc * (p : Int) ∧ inc * (p : Int) ≤ 1000000000000 * 100000 := ⟨Int.mul_nonneg hi.1 (by omega), Int.mul_le_mul hi.2 (by omega) (by omega) (by omega)⟩
 have hiq : 0 ≤ inc * (p : Int) / (v.length : Int) ∧ inc * (p : Int) / (v.length : Int) ≤ 1000000000000 * 100000 := ⟨Int.ediv_nonneg hip.1 (by omega), Int.le_trans (Int.ediv_le_self _ hip.1) hip.2⟩
 refine zQ (zQ (zG (zR 3 rfl (zN (zU ?_)))))
 refine cD rfl ?_ ?_ <;> intro hc0
 ·
  refine zK (zU (zQ (zB (zQ (zQ (zG (zR 2 rfl ?_)))))))
  refine WG.y rfl rfl qD (Yl.rem rfl rfl rfl (fun _ => rfl) qN qN) ?_
  refine zR 2 rfl ?_
  refine yP ?_
  refine yP ?_
  refine WG.y rfl rfl (by decide) (Yl.mul rfl rfl rfl qE (by intro hg; (try simp only [zk] at hg); constructor <;> (try dsimp only) <;> omega)) ?_
  refine yP ?_
  refine WG.y rfl rfl (by decide) (Yl.rem rfl rfl rfl qE (by intro hg; (try simp only [zk] at hg); (try dsimp only) <;> omega) (by intro hg; (try simp only [zk] at hg); (try dsimp only) <;> omega)) ?_
  refine yP ?_
  refine yO ?_
  refine zN (zU ?_)
  refine cC rfl ?_ ?_ <;> intro hc1
  ·try simp only [zk] at hc1
   have hno : leastOk v inc p = false := leastOk_no1 (by rcases hc1 with h | h; exact .inl (by omega); exact .inr h)
   refine zX ?_
   refine wx (zY (zU (zG (zR 1 rfl ?_))))
   refine yA ?_
   refine zR 1 rfl (zN ?_)
   refine WE.again (p + 1) (⟨by omega, by omega, fun j a b => by
    by_cases e : j = p
    ·subst e; exact hno
    ·exact h3 j a (by omega)⟩) (by (try dsimp only); omega) ⟨rfl, rfl, rfl, rfl, rfl⟩ (RLe.refl _) qS
  ·try simp only [zk] at hc1
   have hy1 : v.length % p = 0 := by have := hc1.1; omega
   have hy2 : (inc * (p : Int)) % (v.length : Int) = 0 := hc1.2
   refine zK (zU (zQ (zG (zR 2 rfl ?_))))
   refine yU ?_
   refine zR 1 rfl ?_
   refine yV ?_
   refine zR 1 rfl (zN (zU (zQ (zQ (zG (zR 3 rfl (zN (zU (zB ?_)))))))))
   refine W.loopK (β := Nat) (fun i => i ≤ v.length ∧ ∀ j, j < i → leastC v inc p j = true) (fun i => [(36, true, .int .i64 (i : Int))]) [0, 1, 5, 6, 7, 35] [_, _, _, _, _, _] [] _ rfl (fun i => []) (fun i => v.length - i) (0) (⟨Nat.zero_le _, fun j hj => by omega⟩) ⟨rfl, rfl, rfl, rfl, rfl, rfl, rfl, rfl⟩ qS ?_
   intro i hst
   dsimp only [zipE, setAll, List.cons_append, List.nil_append, List.set_cons_zero, List.set_cons_succ] at hst ⊢
   refine zQ (zG (zR 1 rfl (zN (zU (zQ ?_)))))
   refine cD rfl ?_ ?_ <;> intro hc2
   ·
    have hil : i < v.length := by omega
    have hvi := hv _ (nth_mem hil)
    have e1 : ((i : Int) + (p : Int)).toNat = i + p := by omega
    have e2 : ((i : Int) + (p : Int) - (v.length : Int)).toNat = i + p - v.length := by omega
    have hvj : i + p < v.length → 0 ≤ nth v (i + p) ∧ nth v (i + p) ≤ 1000000000000000 := fun h => hv _ (nth_mem h)
    have hvk : v.length ≤ i + p → 0 ≤ nth v (i + p - v.length) ∧ nth v (i + p - v.length) ≤ 1000000000000000 := fun h => hv _ (nth_mem (by omega))
    have hvk2 : v.length ≤ i + p → 0 ≤ nth v ((i : Int) + (p : Int) - (v.length : Int)).toNat ∧ nth v ((i : Int) + (p : Int) - (v.length : Int)).toNat ≤ 1000000000000000 := fun h => by rw [e2]; exact hvk h
    refine zK (zU (zQ (zB (zQ (zG (zR 2 rfl (zN (zU (zQ (zG (zR 2 rfl ?_)))))))))))
    refine yI ?_
    refine yD (r := by ((apply RS.rdD; assumption; ((try dsimp only) <;> omega)))) (k := ?_)
    refine zR 1 rfl ?_
    refine yA ?_
    refine zR 1 rfl (zN (zU (zQ (zG (zR 2 rfl ?_)))))
    refine yA ?_
    refine zR 3 rfl ?_
    refine yP ?_
    refine yP ?_
    refine yP ?_
    refine WG.y rfl rfl (by decide) (Yl.add rfl rfl rfl qE (by intro hg; (try simp only [zk] at hg); constructor <;> (try dsimp only) <;> omega)) ?_
    refine gX ?_
    refine yJ (r := by ((apply RS.rdC; assumption))) (k := ?_)
    refine yP ?_
    refine yP ?_
    refine yN ?_
    refine zR 1 rfl ?_
    refine yP ?_
    refine yP ?_
    refine WG.y rfl rfl (by decide) (Yl.add rfl rfl rfl qE (by intro hg; (try simp only [zk] at hg); constructor <;> (try dsimp only) <;> omega)) ?_
    refine yP ?_
    refine yP ?_
    refine yP ?_
    refine yP ?_
    refine yP ?_
    refine yP ?_
    refine WG.y rfl rfl (by decide) (Yl.add rfl rfl rfl qE (by intro hg; (try simp only [zk] at hg); constructor <;> (try dsimp only) <;> omega)) ?_
    refine yP ?_
    refine WG.y rfl rfl (by decide) (Yl.sub rfl rfl rfl qE (by intro hg; (try simp only [zk] at hg); constructor <;> (try dsimp only) <;> omega)) ?_
    refine gX ?_
    refine yJ (r := by ((apply RS.rdC; assumption))) (k := ?_)
    refine yP ?_
    refine WG.y rfl rfl (by decide) (Yl.add rfl rfl rfl qE (by intro hg; (try simp only [zk] at hg); constructor <;> (try dsimp only) <;> omega)) ?_
    refine yP ?_
    refine yP ?_
    refine yN ?_
    refine yO ?_
    refine zN (zU ?_)
    refine cC rfl ?_ ?_ <;> intro hc3
    ·try simp only [zk] at hc3
     have hC : leastC v inc p i = false := by
      unfold leastC
      rw [← Bool.not_eq_true]
      intro h
      rw [beq_iff_eq] at h
      rw [e1, e2] at hc3
      rcases hc3 with ⟨x1, x2⟩ | ⟨x1, x2⟩
      ·rw [if_pos (by omega)] at h; exact x2 h
      ·rw [if_neg (by omega)] at h; exact x2 h
     have hno : leastOk v inc p = false := leastOk_no2 hil hC
     refine zX ?_
     refine WE.blk_other rfl ?_
     refine wx (wx ?_)
     refine WE.blk_other rfl ?_
     refine wx (zY (zU (zG (zR 1 rfl ?_))))
     refine yA ?_
     refine zR 1 rfl (zN ?_)
     refine WE.again (p + 1) (⟨by omega, by omega, fun j a b => by
      by_cases e : j = p
      ·subst e; exact hno
      ·exact h3 j a (by omega)⟩) (by (try dsimp only); omega) ⟨rfl, rfl, rfl, rfl, rfl⟩ (RLe.refl _) qS
    ·try simp only [zk] at hc3
     have hC : leastC v inc p i = true := by
      unfold leastC
      rw [beq_iff_eq]
      rw [e1, e2] at hc3
      by_cases h : i + p < v.length
      ·rw [if_pos h]; exact hc3.1 (by omega)
      ·rw [if_neg h]; exact hc3.2 (by omega)
     refine zK (zL (zU (zG ?_)))
     refine yA ?_
     refine zR 1 rfl (zN ?_)
     refine WE.again (i + 1) (⟨by omega, fun j hj => by
      by_cases e : j = i
      ·subst e; exact hC
      ·exact hst.2 j (by omega)⟩) (by (try dsimp only); omega) ⟨rfl, rfl, rfl, rfl, rfl, rfl, rfl, rfl⟩ (RLe.refl _) qS
   ·
    obtain rfl : i = v.length := by omega
    have hok : leastOk v inc p = true := leastOk_yes hy1 hy2 hst.2
    refine zX ?_
    refine wx (wx (zY (zU (zQ (zG (zR 2 rfl (zN (zU (zT (wb (wt (wt (wb (wt ?_))))))))))))))
    refine WE.scope_ret ?_
    refine sE (E := E) ?_
    refine zr1 ?_
    exact ⟨by rw [leastL_some h1 (by omega) hok h3]; rfl, rfl⟩
 ·
  refine zX ?_
  refine wx (wx (zY (zU (zQ (zG (zR 2 rfl (zN (zU (zT ?_)))))))))
  refine WE.scope_ret ?_
  refine sE (E := E) ?_
  refine zr1 ?_
  exact ⟨by rw [leastL_none (fun j a b => h3 j a (by omega))]; rfl, rfl⟩
theorem Checked_C {R : Ro} {a : Option Addr} {c : Nat} {v : List Int} {p q : Int} {l : Nat} (ha : RS R 1 encI a v) (hvl : v.length = l) (w0 : World) (E : List Ent) : K.Fn Tryz.prog 120 [.slice a l c, .int .i64 p, .int .i64 q] w0 R E (fun r R' E' => ∃ (f : Option Addr) (fc : Nat), r = cvV f fc (checkedL v p q) ∧ RS R' 1 encI f (checkedL v p q).1.vals ∧ E.Sublist E') := by
 subst hvl
 have hla := ha.len
 refine fE 33 Tryz.func120 ?_
 refine zQ (zG ?_)
 refine zA fun b6 => ?_
 refine zR 1 rfl (zN (zU (zQ (zQ (zG (zR 3 rfl (zN (zU ?_))))))))
 refine cD rfl ?_ ?_ <;> intro hc0
 ·
  have hb : checkedE v = 3 := checkedE_big (by omega)
  refine zQ (zG ?_)
  refine yW [] ?_
  refine zE 0 ?_
  refine zR 1 rfl (zN (zU (zT (wt ?_))))
  refine zq4 (by first | exact hR1 | exact RLe.refl _) ?_
  exact ⟨none, 0, by rw [checkedL_bad hb]; rfl, by rw [checkedL_bad hb]; exact rs_nil, qS⟩
 ·
  refine zK (zU (zQ (zQ (zG (zR 3 rfl (zN (zU (zB ?_))))))))
  refine W.loopK (β := Nat) (fun i => i ≤ v.length ∧ ∀ j, j < i → nth v j = INF ∨ nth v j ≤ MAXV) (fun i => [(16, true, .int .i64 (i : Int))]) [0, 1, 2, 6, 14, 15] [_, _, _, _, _, _] [] _ rfl (fun i => []) (fun i => v.length - i) (0) (⟨Nat.zero_le _, fun j hj => by omega⟩) ⟨rfl, rfl, rfl, rfl, rfl, rfl, rfl, rfl⟩ qS ?_
  intro i hst
  dsimp only [zipE, setAll, List.cons_append, List.nil_append, List.set_cons_zero, List.set_cons_succ] at hst ⊢
  refine zQ (zG (zR 1 rfl (zN (zU (zQ ?_)))))
  refine cD rfl ?_ ?_ <;> intro hc1
  ·
   refine zK (zU (zQ (zB (zQ (zG ?_)))))
   refine yI ?_
   refine yD (r := by ((apply RS.rdD; assumption; ((try dsimp only) <;> omega)))) (k := ?_)
   refine zR 1 rfl (zN (zU (zQ (zG (zR 3 rfl ?_)))))
   refine yP ?_
   refine yP ?_
   refine yN ?_
   refine zN (zU ?_)
   refine cC rfl ?_ ?_ <;> intro hc2
   ·try simp only [zk] at hc2
    have hb : checkedE v = 3 := checkedE_one (i := i) (by omega) hc2.1 hc2.2
    refine zQ (zG ?_)
    refine yW [] ?_
    refine zE 0 ?_
    refine zR 1 rfl (zN (zU (zT (wb (wt (wt (wb (wt ?_))))))))
    refine zq4 (by first | exact hR1 | exact RLe.refl _) ?_
    exact ⟨none, 0, by rw [checkedL_bad hb]; rfl, by rw [checkedL_bad hb]; exact rs_nil, qS⟩
   ·try simp only [zk] at hc2
    have hy : nth v i = INF ∨ nth v i ≤ MAXV := by unfold INF MAXV; omega
    refine zK (zL (zU (zG ?_)))
    refine yA ?_
    refine zR 1 rfl (zN ?_)
    refine WE.again (i + 1) (⟨by omega, fun j hj => by
     by_cases e : j = i
     ·subst e; exact hy
     ·exact hst.2 j (by omega)⟩) (by (try dsimp only); omega) ⟨rfl, rfl, rfl, rfl, rfl, rfl, rfl, rfl⟩ (RLe.refl _) qS
  ·
   obtain rfl : i = v.length := by omega
   have hg : checkedE v ≠ 3 := checkedE_fine (by omega) hst.2
   refine zX ?_
   refine wx (wx (zY (zU ?_)))
   refine W.nil 3 1 qD ?_
   refine zQ (zG (zR 1 rfl ?_))
   refine WL.ef rfl rfl qD (Ef.cloneR (enc := encI) 0 tab_ok rfl rfl rfl rfl rfl rfl rfl rfl rfl rfl ha (fun _ _ => rfl) (by dsimp only; omega) qO (fun a29 c29 ha29 => ?_))
   refine zR 2 rfl ?_
   refine yW [(0, .tmp 29), (1, .tmp 30), (2, .tmp 31)] ?_
   refine zE 1 ?_
   refine zR 1 rfl ?_
   refine WL.freeze (enc := encI) (xs := v) 0 rfl ?_
   intro R1 hR1 hz
   refine zN (zU (zT ?_))
   refine zq4 (by first | exact hR1 | exact RLe.refl _) ?_
   exact ⟨a29, c29, by rw [checkedL_good hg]; rfl, by rw [checkedL_good hg]; exact hz, qS⟩
theorem Ending_C {R : Ro} {a : Option Addr} {c : Nat} {v : List Int} {l : Nat} (ha : RS R 1 encI a v) (hvl : v.length = l) (w0 : World) (E : List Ent) : K.Fn Tryz.prog 118 [.slice a l c] w0 R E (fun r R' E' => ∃ (f : Option Addr) (fc : Nat), r = cvV f fc (checkedL v 1 0) ∧ RS R' 1 encI f (checkedL v 1 0).1.vals ∧ E.Sublist E') := by
 refine fE 8 Tryz.func118 ?_
 refine zQ (zG ?_)
 refine zA fun b2 => ?_
 refine zR 1 rfl (zN (zU (zQ (zG (zR 1 rfl ?_)))))
 refine WL.call en120 rfl rfl qD (CallOp.mkT rfl rfl rfl rfl) (Checked_C ha hvl w0 _) ?_
 rintro _ R1 E1 hR1 ⟨f, fc, rfl, hf, hsub⟩
 refine WL.subE hsub ?_
 unfold cvV
 refine zR 2 rfl ?_
 refine zE 0 ?_
 refine zR 1 rfl (zN (zU (zT ?_)))
 refine zq4 (hR1) ?_
 exact ⟨f, fc, rfl, hf, qS⟩
theorem Build_C {R : Ro} {g : FuncId} {fi ca : Array Value} {F : Nat → Int} {S P : Nat} {I : Int} (hE : Enters Tryz.prog g) (hS : S ≤ 10000) (hP : 0 < P ∧ P ≤ 10000) (hI : 0 ≤ I ∧ I ≤ 1000000000000) (hFb : ∀ t, t < S + P → F t = INF ∨ (0 ≤ F t ∧ F t ≤ 1000000000000000)) (hF : ∀ t : Nat, t < S + P → FnV Tryz.prog g (fi.toList ++ [.int .i64 (t : Int)] ++ ca.toList) R (.int .i64 (F t))) (w0 : World) (E : List Ent) :
  K.Fn Tryz.prog 111 [.func (.func g) fi ca, .int .i64 (S : Int), .int .i64 (P : Int), .int .i64 I] w0 R E (fun r R' E' => ∃ (f : Option Addr) (fc : Nat), r = cvV f fc (mbuild F S P I) ∧ RS R' 1 encI f (mbuild F S P I).1.vals ∧ E.Sublist E') := by
 have hsp : ((S : Int) + (P : Int)).toNat = S + P := by omega
 refine fE 90 Tryz.func111 ?_
 refine zQ (zG ?_)
 refine zA fun b8 => ?_
 refine zR 1 rfl (zN (zU (zQ (zG (zR 2 rfl ?_)))))
 refine yA ?_
 refine WL.ef rfl rfl qD (Ef.makeSliceD (enc := encI) 0 tab_ok rfl rfl rfl rfl rfl rfl qX qX qX qX qD rfl rfl (fun a17 => ?_))
 refine zR 1 rfl (zN (zU (zQ (zQ (zG (zR 3 rfl (zN (zU (zB ?_)))))))))
 refine W.loopK (β := Nat) (fun t => t ≤ S + P ∧ ∀ j, j < t → F j ≠ INF) (fun t => [(20, true, .int .i64 (t : Int))]) [0, 1, 2, 3, 8, 10, 19] [_, _, _, _, _, _, _] [] _ rfl (fun t => [(0, .sl 3 1 (some ⟨a17, 0, none⟩) (S + P) ((partV F t (S + P)).map encI))]) (fun t => S + P - t) (0) (⟨Nat.zero_le _, fun j hj => by omega⟩) ⟨rfl, rfl, rfl, rfl, rfl, rfl, rfl, rfl, rfl⟩ qS ?_
 intro t hst
 dsimp only [zipE, setAll, List.cons_append, List.nil_append, List.set_cons_zero, List.set_cons_succ] at hst ⊢
 have hpl := partV_len F (t := t) (n := S + P) (by omega)
 obtain ⟨ht, hni⟩ := hst
 refine zQ (zG (zR 1 rfl (zN (zU (zQ ?_)))))
 refine cD rfl ?_ ?_ <;> intro hc0
 ·
  have htl : t < S + P := by omega
  have hset := partV_set F htl
  have hnt := partV_nth F (t := t) (k := t + 1) (n := S + P) (by omega)
  have hbt := hFb t htl
  refine zK (zU (zQ (zB (zQ (zG (zR 2 rfl (zN (zU (zQ (zG (zR 4 rfl ?_)))))))))))
  refine WG.callV hE rfl rfl qD (CallOp.mk' rfl rfl rfl rfl) (fun _ => rfl) (fun hg => hF t qO) ?_
  refine yI ?_
  refine WL.efN rfl rfl (Ef.storeD _ 0 tab_ok rfl rfl rfl rfl rfl qX rfl rfl rfl rfl ?_)
  refine zN (zU ?_)
  have hnt2 : nth ((partV F t (S + P)).set t (F t)) t = F t := by rw [hset]; exact hnt
  refine zQ (zG (zR 2 rfl ?_))
  refine yI ?_
  refine yD (r := by exact Rd.slD 0 rfl (by rw [List.length_set]; omega)) (k := ?_)
  refine zR 1 rfl (zN (zU ?_))
  refine cE rfl ?_ ?_ <;> intro hc1
  ·
   have hinf : F t = INF := by rw [← hnt, ← hset]; exact hc1
   have hmb : mbuild F S P I = checkedL (fvals F (t + 1)) 1 0 := by unfold mbuild; rw [infAt_some htl hinf hni, if_neg (by omega), Int.toNat_natCast]
   refine W.freeze (enc := encI) (xs := partV F (t + 1) (S + P)) 0 (by rw [← hset]; rfl) ?_
   intro R1 hR1 hz
   refine zQ (zG (zR 2 rfl ?_))
   refine yA ?_
   refine WG.y rfl rfl qD (Yl.sliceH tab_ok rfl rfl rfl rfl rfl (fun _ => rfl) (by intro _; omega) rfl) ?_
   refine WL.call en118 rfl rfl (by decide) (CallOp.mkT rfl rfl rfl rfl) (Ending_C (by have := hz.take (t + 1); rwa [partV_take] at this) (by rw [fvals_len]; omega) w0 _) ?_
   rintro _ R2 E2 hR2 ⟨f, fc, rfl, hf, hsub⟩
   refine WL.subE hsub ?_
   unfold cvV
   refine zR 2 rfl ?_
   refine zE 0 ?_
   refine zR 1 rfl (zN (zU (zT (wb (wt (wt (wb (wt ?_))))))))
   refine zq4 (by first | exact hR1 | exact hR1.trans hR2) ?_
   exact ⟨f, fc, by rw [hmb]; rfl, by rw [hmb]; exact hf, qS⟩
  ·
   have hinf : F t ≠ INF := by rw [← hnt, ← hset]; exact hc1
   refine zK (zL (zU (zG ?_)))
   refine yA ?_
   refine zR 1 rfl (zN ?_)
   refine WE.again (t + 1) (⟨by omega, fun j hj => by
    by_cases e : j = t
    ·subst e; exact hinf
    ·exact hni j (by omega)⟩) (by (try dsimp only); omega) ⟨rfl, rfl, rfl, rfl, rfl, rfl, rfl, rfl, rfl⟩ (RLe.refl _) (by dsimp only [setAll, List.set_cons_zero, List.set_cons_succ]; rw [← hset]; exact qS)
 ·
  obtain rfl : t = S + P := by omega
  refine zX ?_
  refine wx (wx (zY (zU ?_)))
  rw [partV_all]
  refine W.freeze (enc := encI) (xs := fvals F (S + P)) 0 rfl ?_
  intro R1 hR1 hz
  have hmi := infAt_none (F := F) (n := S + P) hni
  have hlp : 1 ≤ (leastL ((fvals F (S + P)).drop S) I) ∧ (leastL ((fvals F (S + P)).drop S) I) ≤ P := by
   have := leastL_pos (v := (fvals F (S + P)).drop S) (inc := I) (by simp [fvals_len]; omega)
   simp only [List.length_drop, fvals_len] at this
   omega
  have hvb : ∀ x ∈ fvals F (S + P), 0 ≤ x ∧ x ≤ 1000000000000000 := all_of_nth (fun j hj => by
   rw [fvals_len] at hj
   rw [fvals_nth F hj]
   exact (hFb j hj).resolve_left (hni j hj))
  have hvn : ∀ j, j < S + P → 0 ≤ nth (fvals F (S + P)) j ∧ nth (fvals F (S + P)) j ≤ 1000000000000000 := fun j hj => hvb _ (nth_mem (by rw [fvals_len]; exact hj))
  have hIp : 0 ≤ I * ((leastL ((fvals F (S + P)).drop S) I) : Int) ∧ I * ((leastL ((fvals F (S + P)).drop S) I) : Int) ≤ 1000000000000 * 10000 := ⟨Int.mul_nonneg hI.1 (by omega), Int.mul_le_mul hI.2 (by omega) (by omega) (by omega)⟩
  have hIq : 0 ≤ (I * ((leastL ((fvals F (S + P)).drop S) I) : Int) / (P : Int)) ∧ (I * ((leastL ((fvals F (S + P)).drop S) I) : Int) / (P : Int)) ≤ 1000000000000 * 10000 := ⟨Int.ediv_nonneg hIp.1 (by omega), Int.le_trans (Int.ediv_le_self _ hIp.1) hIp.2⟩
  have hfl := fvals_len F (S + P)
  refine zQ (zG (zR 2 rfl ?_))
  refine WG.y rfl rfl qD (Yl.sliceL tab_ok rfl rfl rfl rfl rfl rfl (fun _ => rfl) (by intro _; omega)) ?_
  refine zR 1 rfl ?_
  refine WG.callV en119 rfl rfl (by decide) (CallOp.mk' rfl rfl rfl rfl) (fun _ => rfl) (fun hg => LeastW_V (hz.subL (l := S) (cap := S + P) (by rw [fvals_len]; omega) (by rw [fvals_len]; omega)) (by simp [fvals_len]; omega) (by omega) hI (fun x hx => hvb x (List.mem_of_mem_drop hx))) ?_
  refine zR 1 rfl (zN (zU (zQ (zG (zR 2 rfl ?_)))))
  refine yU ?_
  refine zR 1 rfl ?_
  refine yV ?_
  refine zR 1 rfl (zN (zU (zQ (zB ?_))))
  refine W.loopK (β := Nat) (fun s => s ≤ S ∧ downL (fvals F (S + P)) (leastL ((fvals F (S + P)).drop S) I) (I * (leastL ((fvals F (S + P)).drop S) I : Int) / (P : Int)) s = downL (fvals F (S + P)) (leastL ((fvals F (S + P)).drop S) I) (I * (leastL ((fvals F (S + P)).drop S) I : Int) / (P : Int)) S) (fun s => [(1, true, .int .i64 (s : Int))]) [8, 10, 12, 13] [_, _, _, _] [] _ rfl (fun s => []) (fun s => s) (S) (⟨Nat.le_refl _, rfl⟩) ⟨rfl, rfl, rfl, rfl, rfl, rfl⟩ qS ?_
  intro s hst
  dsimp only [zipE, setAll, List.cons_append, List.nil_append, List.set_cons_zero, List.set_cons_succ] at hst ⊢
  obtain ⟨hs, hd⟩ := hst
  have hs1 : 0 < s → ((s : Int) - 1).toNat = s - 1 := fun _ => by omega
  have hs2 : 0 < s → ((s : Int) - 1 + ((leastL ((fvals F (S + P)).drop S) I) : Int)).toNat = s - 1 + (leastL ((fvals F (S + P)).drop S) I) := fun _ => by omega
  have hb1 : 0 < s → 0 ≤ nth (fvals F (S + P)) ((s : Int) - 1).toNat ∧ nth (fvals F (S + P)) ((s : Int) - 1).toNat ≤ 1000000000000000 := fun h => hvn _ (by omega)
  refine zQ (zQ ?_)
  refine W.regionQ _ mixed qK ?_
  refine zR 3 rfl ?_
  refine yP ?_
  refine yP ?_
  refine WG.y rfl rfl (by decide) (Yl.sub rfl rfl rfl qE (by intro hg; (try simp only [zk] at hg); constructor <;> (try dsimp only) <;> omega)) ?_
  refine gX ?_
  refine yJ (r := by ((apply RS.rdC; assumption))) (k := ?_)
  refine yP ?_
  refine WG.y rfl rfl (by decide) (Yl.add rfl rfl rfl qE (by intro hg; (try simp only [zk] at hg); constructor <;> (try dsimp only) <;> omega)) ?_
  refine yP ?_
  refine yP ?_
  refine WG.y rfl rfl (by decide) (Yl.sub rfl rfl rfl qE (by intro hg; (try simp only [zk] at hg); constructor <;> (try dsimp only) <;> omega)) ?_
  refine yP ?_
  refine WG.y rfl rfl (by decide) (Yl.add rfl rfl rfl qE (by intro hg; (try simp only [zk] at hg); constructor <;> (try dsimp only) <;> omega)) ?_
  refine gX ?_
  refine yJ (r := by ((apply RS.rdC; assumption))) (k := ?_)
  refine yP ?_
  refine yN ?_
  refine zN (zU ?_)
  refine cC rfl ?_ ?_ <;> intro hc2
  ·try simp only [zk] at hc2
   obtain ⟨hc3, hc4⟩ := hc2
   rw [hs1 (by omega), hs2 (by omega)] at hc4
   have hdn : downL (fvals F (S + P)) (leastL ((fvals F (S + P)).drop S) I) (I * ((leastL ((fvals F (S + P)).drop S) I) : Int) / (P : Int)) (s - 1) = downL (fvals F (S + P)) (leastL ((fvals F (S + P)).drop S) I) (I * ((leastL ((fvals F (S + P)).drop S) I) : Int) / (P : Int)) s := by
    conv => rhs; rw [show s = (s - 1) + 1 by omega]
    simp only [downL]
    rw [if_pos hc4]
   refine zK (zU (zB (zG (zR 1 rfl ?_))))
   refine yS ?_
   refine zR 1 rfl (zN (zL ?_))
   refine WE.again (s - 1) (⟨by omega, by rw [← hd]; exact hdn⟩) (by (try dsimp only); omega) ⟨vint (by omega), rfl, rfl, rfl, rfl, rfl⟩ (RLe.refl _) qS
  ·try simp only [zk] at hc2
   have hsd : s = downL (fvals F (S + P)) (leastL ((fvals F (S + P)).drop S) I) (I * ((leastL ((fvals F (S + P)).drop S) I) : Int) / (P : Int)) S := by
    rw [← hd]
    by_cases h : 0 < s
    ·have h2 := hc2 (by omega)
     rw [hs1 h, hs2 h] at h2
     obtain ⟨s', rfl⟩ : ∃ m, s = m + 1 := ⟨s - 1, by omega⟩
     simp only [downL]
     rw [if_neg (by simpa using h2)]
    ·obtain rfl : s = 0 := by omega
     rfl
   refine zX ?_
   refine wx (wx (zY (zU (zQ (zQ (zG (zR 3 rfl ?_)))))))
   refine yP ?_
   refine yP ?_
   refine yO ?_
   refine zN (zU ?_)
   refine cC rfl ?_ ?_ <;> intro hc3
   ·try simp only [zk] at hc3
    have hmb : mbuild F S P I = (zcv, 3) := by
     unfold mbuild finL; rw [if_pos hmi]; dsimp only
     rw [if_pos (by rcases hc3 with h | h; exact .inl (by omega); exact .inr h)]
    refine zQ (zG ?_)
    refine yW [] ?_
    refine zE 0 ?_
    refine zR 1 rfl (zN (zU (zT (wt ?_))))
    refine zq4 (by first | exact hR1 | exact hR1.trans hR2) ?_
    exact ⟨none, 0, by rw [hmb]; rfl, by rw [hmb]; exact rs_nil, qS⟩
   ·try simp only [zk] at hc3
    have hmb : mbuild F S P I = checkedL ((fvals F (S + P)).take (s + (leastL ((fvals F (S + P)).drop S) I))) (leastL ((fvals F (S + P)).drop S) I) (I * ((leastL ((fvals F (S + P)).drop S) I) : Int) / (P : Int)) := by
     unfold mbuild finL; rw [if_pos hmi]; dsimp only
     rw [if_neg (by rintro (h | h); have := hc3.1; omega; have := hc3.2; unfold MAXV at h; omega), ← hsd]
    refine zK (zU (zQ (zG (zR 3 rfl ?_))))
    refine yA ?_
    refine WG.y rfl rfl qD (Yl.sliceH tab_ok rfl rfl rfl rfl rfl (fun _ => rfl) (by intro _; omega) rfl) ?_
    refine zR 2 rfl ?_
    refine WL.call en120 rfl rfl (by decide) (CallOp.mkT rfl rfl rfl rfl) (Checked_C (by have := hz.take (s + leastL ((fvals F (S + P)).drop S) I); exact this) (by rw [List.length_take, fvals_len]; omega) w0 _) ?_
    rintro _ R2 E2 hR2 ⟨f, fc, rfl, hf, hsub⟩
    refine WL.subE hsub ?_
    unfold cvV
    refine zR 2 rfl ?_
    refine zE 0 ?_
    refine zR 1 rfl (zN (zU (zT ?_)))
    refine zq4 (by first | exact hR1 | exact hR1.trans hR2) ?_
    exact ⟨f, fc, by rw [hmb]; rfl, by rw [hmb]; exact hf, qS⟩

theorem Periodic_V {R : Ro} {a : Option Addr} {c : Nat} {v : List Int} {per inc : Int} {start p : Int} (ha : RS R 1 encI a v) (hper : 1 ≤ per ∧ per ≤ 100000) (hinc : 0 ≤ inc ∧ inc ≤ 549755813888) (hv : ∀ x ∈ v, -2305843009213693952 ≤ x ∧ x ≤ 4611686018427387904) (hs : 0 ≤ start ∧ start ≤ 100000) (hp : 1 ≤ p ∧ p ≤ 100000) (hat : ∀ t, 0 ≤ t → t ≤ start + per + p → 0 ≤ atR v per inc t ∧ atR v per inc t ≤ 1000000000000000) : FnV Tryz.prog 109 [.agg #[.slice a v.length c, .int .i64 per, .int .i64 inc], .int .i64 start, .int .i64 p] R (.bool (perR ⟨v, per, inc⟩ start p)) := by
 refine Fn.toV (fun w0 E => ?_)
 have hip : 0 ≤ inc * p ∧ inc * p ≤ 549755813888 * 100000 := ⟨Int.mul_nonneg hinc.1 (by omega), Int.mul_le_mul hinc.2 (by omega) (by omega) (by omega)⟩
 have hiq : 0 ≤ inc * p / per ∧ inc * p / per ≤ 549755813888 * 100000 := ⟨Int.ediv_nonneg hip.1 (by omega), Int.le_trans (Int.ediv_le_self _ hip.1) hip.2⟩
 refine fE 49 Tryz.func109 ?_
 refine zQ (zG ?_)
 refine zO fun b3 => ?_
 refine zR 1 rfl (zN (zU (zQ (zQ (zG (zR 1 rfl ?_))))))
 refine yM 0 ?_
 refine zR 1 rfl ?_
 refine WG.y rfl rfl qD (Yl.tmod rfl rfl rfl (fun _ => rfl) (by intro _; omega)) ?_
 refine zR 2 rfl ?_
 refine yP ?_
 refine yG (Rd.addC (Rd.blkC 0 rfl) _) ?_
 refine yP ?_
 refine WG.y rfl rfl (by decide) (Yl.mul rfl rfl rfl qE (by intro hg; (try simp only [zk] at hg); constructor <;> (try dsimp only) <;> omega)) ?_
 refine yP ?_
 refine yG (Rd.addC (Rd.blkC 0 rfl) _) ?_
 refine WG.y rfl rfl (by decide) (Yl.tmod rfl rfl rfl qE (by intro hg; (try simp only [zk] at hg); omega)) ?_
 refine yP ?_
 refine yO ?_
 refine zN (zU ?_)
 refine cC rfl ?_ ?_ <;> intro hc0
 ·try simp only [zk] at hc0
  have hno : perR ⟨v, per, inc⟩ start p = false := by
   unfold perR
   rw [← Bool.not_eq_true]
   intro h
   simp only [Bool.and_eq_true, beq_iff_eq] at h
   rcases hc0 with h1 | h1
   ·exact h1 h.1.1
   ·exact h1 h.1.2
  refine zQ (zG (zR 1 rfl (zN (zU (zT (wt ?_))))))
  refine sE (E := E) ?_
  refine zr1 ?_
  exact ⟨by rw [hno]; rfl, rfl⟩
 ·try simp only [zk] at hc0
  refine zK (zU (zQ (zQ (zG (zR 2 rfl (zN (zU (zB ?_))))))))
  refine W.loopK (β := Nat) (fun i => i ≤ per.toNat ∧ ∀ j, j < i → (atR v per inc (start + (j : Int) + p) == atR v per inc (start + (j : Int)) + inc * p / per) = true) (fun i => [(7, true, .int .i64 (start + (i : Int)))]) [1, 2, 3] [_, _, _] [] _ rfl (fun i => []) (fun i => per.toNat - i) (0) (⟨Nat.zero_le _, fun j hj => by omega⟩) ⟨vint qO, rfl, rfl, rfl, rfl⟩ qS ?_
  intro i hst
  refine zQ (zQ (zG (zR 3 rfl ?_)))
  refine yM 0 ?_
  refine yA ?_
  refine zR 1 rfl (zN (zU ?_))
  refine cD rfl ?_ ?_ <;> intro hc1
  ·
   have ha1 := hat (start + (i : Int)) (by omega) (by omega)
   have ha2 := hat (start + (i : Int) + p) (by omega) (by omega)
   refine zK (zU (zQ (zB (zQ ?_))))
   refine W.regionQ _ mixed qK ?_
   refine yB 0 ?_
   refine zR 2 rfl ?_
   refine yA ?_
   refine WG.callV en83 rfl rfl qD (CallOp.mk' rfl rfl rfl rfl) (fun _ => rfl) (fun hg => At_L ha (by constructor <;> omega) ⟨by constructor <;> omega, by omega⟩ hinc hv) ?_
   refine yB 0 ?_
   refine zR 1 rfl ?_
   refine WG.callV en83 rfl rfl qD (CallOp.mk' rfl rfl rfl rfl) (fun _ => rfl) (fun hg => At_L ha (by constructor <;> omega) ⟨by constructor <;> omega, by omega⟩ hinc hv) ?_
   refine zR 1 rfl ?_
   refine yM 0 ?_
   refine zR 1 rfl ?_
   refine yU ?_
   refine zR 1 rfl ?_
   refine yM 0 ?_
   refine yV ?_
   refine yA ?_
   refine zR 1 rfl (zN (zU ?_))
   refine cN rfl ?_ ?_ <;> intro hc2
   ·
    have hno : perR ⟨v, per, inc⟩ start p = false := by
     unfold perR
     rw [← Bool.not_eq_true]
     intro h
     simp only [Bool.and_eq_true, beq_iff_eq, List.all_eq_true, List.mem_range] at h
     exact hc2 (h.2 i qO)
    refine zQ (zG (zR 1 rfl (zN (zU (zT (wb (wt (wt (wb (wt ?_))))))))))
    refine sE (E := E) ?_
    refine zr1 ?_
    exact ⟨by rw [hno]; rfl, rfl⟩
   ·
    have hy : (atR v per inc (start + (i : Int) + p) == atR v per inc (start + (i : Int)) + inc * p / per) = true := by rw [beq_iff_eq]; exact hc2
    refine zK (zL (zU (zG (zR 1 rfl ?_))))
    refine yA ?_
    refine zR 1 rfl (zN ?_)
    refine WE.again (i + 1) (⟨by omega, fun j hj => by
     by_cases e : j = i
     ·subst e; exact hy
     ·exact hst.2 j (by omega)⟩) (by (try dsimp only); omega) ⟨vint (by omega), rfl, rfl, rfl, rfl⟩ (RLe.refl _) qS
  ·
   have hyes : perR ⟨v, per, inc⟩ start p = true := by
    unfold perR
    simp only [Bool.and_eq_true, beq_iff_eq, List.all_eq_true, List.mem_range]
    exact ⟨⟨hc0.1, hc0.2⟩, fun x hx => by have := hst.2 x qO; rwa [beq_iff_eq] at this⟩
   refine zX ?_
   refine wx (wx (zY (zU (zQ (zG (zR 1 rfl (zN (zU (zT ?_)))))))))
   refine sE (E := E) ?_
   refine zr1 ?_
   exact ⟨by rw [hyes]; rfl, rfl⟩
theorem Valid_V {R : Ro} {a : Option Addr} {c : Nat} {v : List Int} {per inc : Int} (ha : RS R 1 encI a v) (hper : InR per) (hinc : InR inc) (hv : ∀ x ∈ v, -2305843009213693952 ≤ x ∧ x ≤ 4611686018427387904) : FnV Tryz.prog 88 [.agg #[.slice a v.length c, .int .i64 per, .int .i64 inc]] R (.bool (validB ⟨v, per, inc⟩)) := by
 have hla := ha.len
 refine Fn.toV (fun w0 E => ?_)
 have hvn : ∀ j, j < v.length → -2305843009213693952 ≤ nth v j ∧ nth v j ≤ 4611686018427387904 := fun j hj => hv _ (nth_mem hj)
 refine fE 118 Tryz.func88 ?_
 refine zQ (zG ?_)
 refine zO fun b1 => ?_
 refine zR 1 rfl (zN (zU (zQ (zG (zR 1 rfl ?_)))))
 refine yM 0 ?_
 refine zR 2 rfl (zN (zU (zQ (zQ (zG (zR 3 rfl ?_))))))
 refine yP ?_
 refine yP ?_
 refine yO ?_
 refine zR 1 rfl ?_
 refine yP ?_
 refine yG (Rd.addC (Rd.blkC 0 rfl) _) ?_
 refine yP ?_
 refine yO ?_
 refine zR 1 rfl ?_
 refine yP ?_
 refine yG (Rd.addC (Rd.blkC 0 rfl) _) ?_
 refine yP ?_
 refine yO ?_
 refine zR 1 rfl ?_
 refine yP ?_
 refine yG (Rd.addC (Rd.blkC 0 rfl) _) ?_
 refine yP ?_
 refine yP ?_
 refine yO ?_
 refine zR 1 rfl ?_
 refine yP ?_
 refine yG (Rd.addC (Rd.blkC 0 rfl) _) ?_
 refine yP ?_
 refine yO ?_
 refine zR 1 rfl ?_
 refine yP ?_
 refine yG (Rd.addC (Rd.blkC 0 rfl) _) ?_
 refine yP ?_
 refine yO ?_
 refine zN (zU ?_)
 refine cC rfl ?_ ?_ <;> intro hc0
 ·try simp only [zk] at hc0
  have hno : validB ⟨v, per, inc⟩ = false := validB_false (fun h => by obtain ⟨⟨a1, a2, a3, a4, a5, a6, a7⟩, _⟩ := h; dsimp only at a1 a2 a3 a4 a5 a6 a7; unfold MAXV at a7; omega)
  refine zQ (zG (zR 1 rfl (zN (zU (zT (wt ?_))))))
  refine sE (E := E) ?_
  refine zr1 ?_
  exact ⟨by rw [hno]; rfl, rfl⟩
 ·try simp only [zk] at hc0
  have hall : 1 ≤ v.length ∧ v.length ≤ 400 ∧ 1 ≤ per ∧ per ≤ 120 ∧ per ≤ v.length ∧ 0 ≤ inc ∧ inc ≤ MAXV := by unfold MAXV; omega
  refine zK (zU (zQ (zQ (zG (zR 1 rfl (zN (zU (zB ?_))))))))
  refine W.loopK (β := Nat) (fun i => i ≤ v.length ∧ ∀ j, j < i → (nth v j = INF ∨ (0 ≤ nth v j ∧ nth v j ≤ MAXV)) ∧ (j = 0 ∨ nth v (j - 1) ≤ nth v j)) (fun i => [(4, true, .int .i64 (i : Int))]) [1, 3] [_, _] [] _ rfl (fun i => []) (fun i => v.length - i) (0) (⟨Nat.zero_le _, fun j hj => by omega⟩) ⟨rfl, rfl, rfl, rfl⟩ qS ?_
  intro i hst
  refine zQ (zQ (zG (zR 3 rfl (zN (zU ?_)))))
  refine cD rfl ?_ ?_ <;> intro hc1
  ·
   have hil : i < v.length := by omega
   have hvi := hvn i hil
   have e1 : 0 < i → ((i : Int) - 1).toNat = i - 1 := fun _ => by omega
   have hv1 : 0 < i → -2305843009213693952 ≤ nth v ((i : Int) - 1).toNat ∧ nth v ((i : Int) - 1).toNat ≤ 4611686018427387904 := fun h => hvn _ (by omega)
   refine zK (zU (zQ (zB (zQ ?_))))
   refine W.regionQ _ mixed qK ?_
   refine zR 1 rfl ?_
   refine yM 0 ?_
   refine zR 1 rfl ?_
   refine yI ?_
   refine yD (r := by ((apply RS.rdD; assumption; ((try dsimp only) <;> omega)))) (k := ?_)
   refine zR 2 rfl ?_
   refine yP ?_
   refine yG (Rd.addC (Rd.blkC 0 rfl) _) ?_
   refine yP ?_
   refine gI ?_
   refine yJ (r := by ((apply RS.rdC; assumption))) (k := ?_)
   refine yP ?_
   refine yP ?_
   refine yP ?_
   refine yG (Rd.addC (Rd.blkC 0 rfl) _) ?_
   refine yP ?_
   refine gI ?_
   refine yJ (r := by ((apply RS.rdC; assumption))) (k := ?_)
   refine yP ?_
   refine yO ?_
   refine yN ?_
   refine zR 1 rfl ?_
   refine yP ?_
   refine yP ?_
   refine yP ?_
   refine yP ?_
   refine yG (Rd.addC (Rd.blkC 0 rfl) _) ?_
   refine yP ?_
   refine gI ?_
   refine yJ (r := by ((apply RS.rdC; assumption))) (k := ?_)
   refine yP ?_
   refine yG (Rd.addC (Rd.blkC 0 rfl) _) ?_
   refine yP ?_
   refine WG.y rfl rfl (by decide) (Yl.sub rfl rfl rfl qE (by intro hg; (try simp only [zk] at hg); constructor <;> (try dsimp only) <;> omega)) ?_
   refine gX ?_
   refine yJ (r := by ((apply RS.rdC; assumption))) (k := ?_)
   refine yP ?_
   refine yN ?_
   refine yO ?_
   refine zN (zU ?_)
   refine cC rfl ?_ ?_ <;> intro hc2
   ·try simp only [zk] at hc2
    have hno : validB ⟨v, per, inc⟩ = false := validB_false (fun h => by
     obtain ⟨_, h2, _⟩ := h
     have h2 := h2 i hil
     dsimp only at h2
     unfold INF MAXV at h2
     rcases hc2 with ⟨x1, x2⟩ | ⟨x1, x2⟩
     ·omega
     ·rw [e1 (by omega)] at x2; omega)
    refine zQ (zG (zR 1 rfl (zN (zU (zT (wb (wt (wt (wb (wt ?_))))))))))
    refine sE (E := E) ?_
    refine zr1 ?_
    exact ⟨by rw [hno]; rfl, rfl⟩
   ·try simp only [zk] at hc2
    have hy : (nth v i = INF ∨ (0 ≤ nth v i ∧ nth v i ≤ MAXV)) ∧ (i = 0 ∨ nth v (i - 1) ≤ nth v i) := by
     obtain ⟨x1, x2⟩ := hc2
     unfold INF MAXV
     refine ⟨by omega, ?_⟩
     by_cases h : i = 0
     ·exact .inl h
     ·have := x2 (by omega)
      rw [e1 (by omega)] at this
      right; omega
    refine zK (zL (zU (zG (zR 1 rfl ?_))))
    refine yA ?_
    refine zR 1 rfl (zN ?_)
    refine WE.again (i + 1) (⟨by omega, fun j hj => by
     by_cases e : j = i
     ·subst e; exact hy
     ·exact hst.2 j (by omega)⟩) (by (try dsimp only); omega) ⟨rfl, rfl, rfl, rfl⟩ (RLe.refl _) qS
  ·
   obtain rfl : i = v.length := by omega
   have e2 : ((v.length : Int) - 1).toNat = v.length - 1 := by omega
   have e3 : ((v.length : Int) - per).toNat = v.length - per.toNat := by omega
   have hx1 := hvn (((v.length : Int) - 1).toNat) (by omega)
   have hx2 := hvn (((v.length : Int) - per).toNat) (by omega)
   refine zX ?_
   refine wx (wx (zY (zU (zQ (zQ (zG (zR 1 rfl ?_)))))))
   refine yM 0 ?_
   refine zR 1 rfl ?_
   refine yS ?_
   refine yX ?_
   refine yD (r := by exact RS.rdD ha qO) (k := ?_)
   refine zR 1 rfl (zN (zU ?_))
   refine cE rfl ?_ ?_ <;> intro hc3
   ·
    have hif : (if nth v (v.length - 1) = INF then per = 1 ∧ inc = 0 else nth v (v.length - 1) ≤ nth v (v.length - per.toNat) + inc) ↔ (per = 1 ∧ inc = 0) := by rw [if_pos (by rw [← e2]; exact hc3)]
    refine zQ (zG (zR 1 rfl ?_))
    refine yM 0 ?_
    refine zR 2 rfl ?_
    refine yP ?_
    refine yG (Rd.addC (Rd.blkC 0 rfl) _) ?_
    refine yP ?_
    refine yN ?_
    refine zR 1 rfl (zN (zU (zT (wt ?_))))
    refine sE (E := E) ?_
    refine zr1 ?_
    refine ⟨congrArg Value.bool ?_, rfl⟩
    rw [Bool.eq_iff_iff, validB_iff]
    dsimp only
    rw [hif]
    simp only [Bool.and_eq_true, beq_iff_eq]
    exact ⟨fun h => ⟨hall, fun j hj => hst.2 j hj, h⟩, fun h => h.2.2⟩
   ·
    have hif : (if nth v (v.length - 1) = INF then per = 1 ∧ inc = 0 else nth v (v.length - 1) ≤ nth v (v.length - per.toNat) + inc) ↔ (nth v (v.length - 1) ≤ nth v (v.length - per.toNat) + inc) := by rw [if_neg (by rw [← e2]; exact hc3)]
    refine zK (zU (zQ ?_))
    refine W.regionQ _ mixed qK ?_
    refine zR 1 rfl ?_
    refine yM 0 ?_
    refine zR 2 rfl ?_
    refine yM 0 ?_
    refine yS ?_
    refine yX ?_
    refine yD (r := by exact RS.rdD ha qO) (k := ?_)
    refine zR 1 rfl ?_
    refine yM 0 ?_
    refine yA ?_
    refine zR 1 rfl ?_
    refine yM 0 ?_
    refine zR 1 rfl ?_
    refine yS ?_
    refine yX ?_
    refine yD (r := by exact RS.rdD ha qO) (k := ?_)
    refine zR 2 rfl (zN (zU (zT ?_)))
    refine sE (E := E) ?_
    refine zr1 ?_
    refine ⟨congrArg Value.bool ?_, rfl⟩
    rw [Bool.eq_iff_iff, validB_iff]
    dsimp only
    rw [hif, e2, e3]
    simp only [decide_eq_true_eq]
    exact ⟨fun h => ⟨hall, fun j hj => hst.2 j hj, h⟩, fun h => h.2.2⟩
theorem Least02K_C {R : Ro} {a : Option Addr} {c : Nat} {v : List Int} {per inc : Int} (ha : RS R 1 encI a v) (hvl : v.length ≤ 100000 ∧ per ≤ v.length) (hac : infL v ≠ -1 → v.length ≤ c) (hper : 1 ≤ per ∧ per ≤ 100000) (hinc : 0 ≤ inc ∧ inc ≤ 549755813888) (hv : ∀ x ∈ v, -2305843009213693952 ≤ x ∧ x ≤ 4611686018427387904) (hself : infL v = -1 → perR ⟨v, per, inc⟩ ((v.length : Int) - per) per = true) (hat : ∀ t, 0 ≤ t → t ≤ (v.length : Int) + per → infL v = -1 → 0 ≤ atR v per inc t ∧ atR v per inc t ≤ 1000000000000000) (w0 : World) (E : List Ent) : K.Fn Tryz.prog 96 [.agg #[.slice a v.length c, .int .i64 per, .int .i64 inc]] w0 R E (fun r R' E' => ∃ (f : Option Addr) (fc : Nat), r = cuV f fc (normR ⟨v, per, inc⟩) ∧ RS R' 1 encI f (normR ⟨v, per, inc⟩).vals ∧ (normR ⟨v, per, inc⟩).vals.length ≤ fc ∧ E.Sublist E') := by
 have hla := ha.len
 have hn1 : ∀ (k : Nat) (h : nth v k = INF) (hk : k < v.length) (hn : ∀ j, j < k → nth v j ≠ INF), infL v = k := fun k h hk hn => findFrom_some (Nat.zero_le _) (by omega) (by simp [h]) (fun j _ h2 => by simp [hn j h2])
 refine fE 88 Tryz.func96 ?_
 refine zQ (zG ?_)
 refine zO fun b1 => ?_
 refine zA fun b2 => ?_
 refine zN (zU (zQ (zQ (zG (zR 1 rfl (zN (zU (zB ?_))))))))
 refine W.loopK (β := Nat) (fun i => i ≤ v.length ∧ ∀ j, j < i → nth v j ≠ INF) (fun i => [(3, true, .int .i64 (i : Int))]) [1, 2] [_, _] [] _ rfl (fun i => []) (fun i => v.length - i) (0) (⟨Nat.zero_le _, fun j hj => by omega⟩) ⟨rfl, rfl, rfl, rfl⟩ qS ?_
 intro i hst
 refine zQ (zQ (zG (zR 2 rfl ?_)))
 refine yM 1 ?_
 refine zR 2 rfl (zN (zU ?_))
 refine cD rfl ?_ ?_ <;> intro hc0
 ·
  have hil : i < v.length := by omega
  have hvi := hv _ (nth_mem hil)
  refine zK (zU (zQ (zB (zQ (zG (zR 1 rfl ?_))))))
  refine yM 1 ?_
  refine zR 1 rfl ?_
  refine yI ?_
  refine yD (r := by ((apply RS.rdD; assumption; ((try dsimp only) <;> omega)))) (k := ?_)
  refine zR 1 rfl (zN (zU ?_))
  refine cE rfl ?_ ?_ <;> intro hc1
  ·
   have hi1 := hn1 i hc1 hil hst.2
   have hac := hac (by rw [hi1]; omega)
   have hnr : normR ⟨v, per, inc⟩ = ⟨v.take (i + 1), 1, 0⟩ := by unfold normR; dsimp only; rw [hi1, if_neg (by omega), Int.toNat_natCast]
   have hti := ha.take (i + 1)
   have htl : (v.take (i + 1)).length = i + 1 := by rw [List.length_take]; omega
   refine zQ (zG ?_)
   refine WL.ef rfl rfl qD (Ef.buildSliceD (enc := encI) (parts := []) [] tab_ok rfl rfl rfl rfl rfl rfl rfl rfl qD qD (fun a22 => ?_))
   refine zR 1 rfl ?_
   refine yM 2 ?_
   refine zR 1 rfl ?_
   refine yA ?_
   refine WG.y rfl rfl qD (Yl.sliceH tab_ok rfl rfl rfl rfl rfl (fun _ => rfl) (by intro _; omega) rfl) ?_
   refine WL.ef rfl rfl (by decide) (Ef.cloneL (enc := encI) 0 tab_ok rfl rfl rfl rfl rfl rfl rfl rfl rfl (show ((i : Int) + 1).toNat = (v.take (i + 1)).length by rw [htl]; omega) hti (fun _ _ => rfl) (by rw [htl]; dsimp only; omega) (by omega) (fun a28 c28 ha28 => ?_))
   refine yW [(0, .tmp 28), (1, .const (.int .i64 1))] ?_
   refine WL.cap 0 rfl ?_
   intro hcp28
   rw [List.length_map] at hcp28
   refine WL.freeze (enc := encI) (xs := v.take (i + 1)) 0 rfl ?_
   intro R1 hR1 hz
   refine zE 0 ?_
   refine zN (zU (zT (wb (wt (wt (wb (wt ?_)))))))
   refine zq3 (hR1) ?_
   exact ⟨a28, c28, by rw [hnr]; unfold cuV; rw [htl, show ((i : Int) + 1).toNat = i + 1 by omega]; rfl, by rw [hnr]; exact hz, by rw [hnr]; exact hcp28, qS⟩
  ·
   refine zK (zL (zU (zG (zR 1 rfl ?_))))
   refine yA ?_
   refine zR 1 rfl (zN ?_)
   refine WE.again (i + 1) (⟨by omega, fun j hj => by
    by_cases e : j = i
    ·subst e; exact hc1
    ·exact hst.2 j (by omega)⟩) (by (try dsimp only); omega) ⟨rfl, rfl, rfl, rfl⟩ (RLe.refl _) qS
 ·
  obtain rfl : i = v.length := by omega
  have hi0 : infL v = -1 := findFrom_none (fun j _ hj => by simp [hst.2 j (by omega)])
  refine zX ?_
  refine wx (wx (zY (zU (zQ (zG (zR 1 rfl ?_))))))
  refine yM 1 ?_
  refine zR 2 rfl ?_
  refine yM 1 ?_
  refine yS ?_
  refine zR 2 rfl (zN (zU (zQ (zB ?_))))
  refine W.loopK (β := Nat) (fun p => 1 ≤ p ∧ p ≤ per.toNat ∧ ∀ j : Nat, 1 ≤ j → j < p → perR ⟨v, per, inc⟩ ((v.length : Int) - per) (j : Int) = false) (fun p => [(5, true, .int .i64 (p : Int))]) [1, 2, 4] [_, _, _] [] _ rfl (fun p => []) (fun p => per.toNat - p) (1) (⟨Nat.le_refl _, by omega, fun j a b => by omega⟩) ⟨rfl, rfl, rfl, rfl, rfl⟩ qS ?_
  intro p hst
  obtain ⟨h1, h2, h3⟩ := hst
  refine zQ (zQ (zG ?_))
  refine yB 1 ?_
  refine zR 2 rfl ?_
  refine WG.callV en109 rfl rfl qD (CallOp.mk' rfl rfl rfl rfl) (fun _ => rfl) (fun hg => Periodic_V ha hper hinc hv qO qO (fun t h1 h2 => hat t h1 qO hi0)) ?_
  refine zR 1 rfl (zN (zU ?_))
  refine cC rfl ?_ ?_ <;> intro hc2
  ·try simp only [zk] at hc2
   have hno : perR ⟨v, per, inc⟩ ((v.length : Int) - per) (p : Int) = false := by simpa using hc2
   have hlt : p < per.toNat := by
    apply Classical.byContradiction
    intro hh
    rw [show (p : Int) = per by omega, hself hi0] at hno
    cases hno
   refine zK (zU (zB (zG (zR 1 rfl ?_))))
   refine yA ?_
   refine zR 1 rfl (zN (zL ?_))
   refine WE.again (p + 1) (⟨by omega, by omega, fun j a b => by
    by_cases e : j = p
    ·subst e; exact hno
    ·exact h3 j a (by omega)⟩) (by (try dsimp only); omega) ⟨rfl, rfl, rfl, rfl, rfl⟩ (RLe.refl _) qS
  ·try simp only [zk] at hc2
   have hyes : perR ⟨v, per, inc⟩ ((v.length : Int) - per) (p : Int) = true := by simpa using hc2
   obtain rfl : p = (leastR ⟨v, per, inc⟩) := by
    unfold leastR
    dsimp only
    rw [findFrom_some (P := fun p => perR ⟨v, per, inc⟩ ((v.length : Int) - per) p) h1 (by omega) hyes h3, Int.toNat_natCast]
   have hip : 0 ≤ inc * ((leastR ⟨v, per, inc⟩) : Int) ∧ inc * ((leastR ⟨v, per, inc⟩) : Int) ≤ 549755813888 * 100000 := ⟨Int.mul_nonneg hinc.1 (by omega), Int.mul_le_mul hinc.2 (by omega) (by omega) (by omega)⟩
   have hiq : 0 ≤ (inc * ((leastR ⟨v, per, inc⟩) : Int) / per) ∧ (inc * ((leastR ⟨v, per, inc⟩) : Int) / per) ≤ 549755813888 * 100000 := ⟨Int.ediv_nonneg hip.1 (by omega), Int.le_trans (Int.ediv_le_self _ hip.1) hip.2⟩
   refine zX ?_
   refine wx (wx (zY (zU (zQ (zG (zR 1 rfl ?_))))))
   refine yM 1 ?_
   refine zR 1 rfl ?_
   refine yU ?_
   refine zR 1 rfl ?_
   refine yM 1 ?_
   refine yV ?_
   refine zR 1 rfl (zN (zU (zQ (zB ?_))))
   refine W.loopK (β := Nat) (fun s => s ≤ ((v.length : Int) - per).toNat ∧ downR ⟨v, per, inc⟩ ((leastR ⟨v, per, inc⟩) : Int) (inc * ((leastR ⟨v, per, inc⟩) : Int) / per) s = (downR ⟨v, per, inc⟩ ((leastR ⟨v, per, inc⟩) : Int) (inc * ((leastR ⟨v, per, inc⟩) : Int) / per) ((v.length : Int) - per).toNat)) (fun s => [(4, true, .int .i64 (s : Int))]) [1, 2, 5, 6] [_, _, _, _] [] _ rfl (fun s => []) (fun s => s) (((v.length : Int) - per).toNat) (⟨Nat.le_refl _, rfl⟩) ⟨vint qO, rfl, rfl, rfl, rfl, rfl⟩ qS ?_
   intro s hst
   obtain ⟨hs, hd⟩ := hst
   have hb1 : 0 < s → 0 ≤ atR v per inc ((s : Int) - 1) ∧ atR v per inc ((s : Int) - 1) ≤ 1000000000000000 := fun h => hat _ (by omega) (by omega) hi0
   refine zQ (zQ ?_)
   refine W.regionQ _ mixed qK ?_
   refine zR 3 rfl ?_
   refine yG (Rd.blkC 1 rfl) ?_
   refine yP ?_
   refine WG.y rfl rfl (by decide) (Yl.sub rfl rfl rfl qE (by intro hg; (try simp only [zk] at hg); constructor <;> (try dsimp only) <;> omega)) ?_
   refine yP ?_
   refine WG.y rfl rfl (by decide) (Yl.add rfl rfl rfl qE (by intro hg; (try simp only [zk] at hg); constructor <;> (try dsimp only) <;> omega)) ?_
   refine WG.callV en83 rfl rfl qD (CallOp.mk' rfl rfl rfl rfl) qE (fun hg => At_L ha (by constructor <;> omega) ⟨by constructor <;> omega, by omega⟩ hinc hv) ?_
   refine yG (Rd.blkC 1 rfl) ?_
   refine yP ?_
   refine WG.y rfl rfl (by decide) (Yl.sub rfl rfl rfl qE (by intro hg; (try simp only [zk] at hg); constructor <;> (try dsimp only) <;> omega)) ?_
   refine WG.callV en83 rfl rfl qD (CallOp.mk' rfl rfl rfl rfl) qE (fun hg => At_L ha (by constructor <;> omega) ⟨by constructor <;> omega, by omega⟩ hinc hv) ?_
   refine yP ?_
   refine WG.y rfl rfl (by decide) (Yl.add rfl rfl rfl qE (by intro hg; (try simp only [zk] at hg); constructor <;> (try dsimp only) <;> omega)) ?_
   refine yP ?_
   refine yN ?_
   refine zN (zU ?_)
   refine cC rfl ?_ ?_ <;> intro hc3
   ·try simp only [zk] at hc3
    obtain ⟨hc3, hc4⟩ := hc3
    have hdn : downR ⟨v, per, inc⟩ ((leastR ⟨v, per, inc⟩) : Int) (inc * ((leastR ⟨v, per, inc⟩) : Int) / per) (s - 1) = downR ⟨v, per, inc⟩ ((leastR ⟨v, per, inc⟩) : Int) (inc * ((leastR ⟨v, per, inc⟩) : Int) / per) s := by
     conv => rhs; rw [show s = (s - 1) + 1 by omega]
     simp only [downR]
     rw [if_pos (by rw [show ((s - 1 : Nat) : Int) = (s : Int) - 1 by omega]; exact hc4)]
    refine zK (zU (zB (zG (zR 1 rfl ?_))))
    refine yS ?_
    refine zR 1 rfl (zN (zL ?_))
    refine WE.again (s - 1) (⟨by omega, by rw [← hd]; exact hdn⟩) (by (try dsimp only); omega) ⟨vint (by omega), rfl, rfl, rfl, rfl, rfl⟩ (RLe.refl _) qS
   ·try simp only [zk] at hc3
    have hsd : s = (downR ⟨v, per, inc⟩ ((leastR ⟨v, per, inc⟩) : Int) (inc * ((leastR ⟨v, per, inc⟩) : Int) / per) ((v.length : Int) - per).toNat) := by
     rw [← hd]
     by_cases h : 0 < s
     ·have h2 := hc3 (by omega)
      obtain ⟨s', rfl⟩ : ∃ m, s = m + 1 := ⟨s - 1, by omega⟩
      simp only [downR]
      rw [if_neg (by rw [show (s' : Int) = ((s' + 1 : Nat) : Int) - 1 by omega]; exact h2)]
     ·obtain rfl : s = 0 := by omega
      rfl
    have hnr : normR ⟨v, per, inc⟩ = ⟨(List.range (s + (leastR ⟨v, per, inc⟩))).map fun (t : Nat) => atR v per inc (t : Int), (leastR ⟨v, per, inc⟩), (inc * ((leastR ⟨v, per, inc⟩) : Int) / per)⟩ := by
     unfold normR; dsimp only; rw [hi0, if_pos rfl, ← hsd]
    refine zX ?_
    refine wx (wx (zY (zU (zQ (zG (zR 2 rfl ?_))))))
    refine yW [(1, .tmp 69), (2, .tmp 70)] ?_
    refine zA fun b7 => ?_
    refine zE 0 ?_
    refine zN (zU (zQ ?_))
    refine W.nil 3 1 qD ?_
    refine zQ (zG (zR 1 rfl (zN (zU (zB ?_)))))
    refine W.loopK (β := Nat × Option Addr × Nat) (fun (k, a8, c8) => k ≤ s + (leastR ⟨v, per, inc⟩)) (fun (k, a8, c8) => [(8, true, .int .i64 (k : Int))]) [1, 2, 4, 5, 7] [_, _, _, _, _] [] _ rfl (fun (k, a8, c8) => [(0, .sl 3 1 a8 c8 (((List.range k).map fun (t : Nat) => atR v per inc (t : Int)).map encI)), (1, .blk b7 [.slice a8 ((List.range k).map fun (t : Nat) => atR v per inc (t : Int)).length c8, .int .i64 ((leastR ⟨v, per, inc⟩) : Int), .int .i64 (inc * ((leastR ⟨v, per, inc⟩) : Int) / per)])]) (fun (k, a8, c8) => s + (leastR ⟨v, per, inc⟩) - k) ((0, none, 0)) (Nat.zero_le _) ⟨rfl, rfl, rfl, rfl, rfl, rfl, rfl⟩ qS ?_
    intro st hst
    obtain ⟨k, a8, c8⟩ := st
    have hnl : ((List.range k).map fun (t : Nat) => atR v per inc (t : Int)).length = k := by simp
    refine zQ (zQ (zG (zR 3 rfl ?_)))
    refine yA ?_
    refine zR 1 rfl (zN (zU ?_))
    refine cD rfl ?_ ?_ <;> intro hc4
    ·
     have e1 : (List.range (k + 1)).map (fun (t : Nat) => atR v per inc (t : Int)) = ((List.range k).map fun (t : Nat) => atR v per inc (t : Int)) ++ [atR v per inc (k : Int)] := range_map_snoc _ _
     refine zK (zU (zQ (zB ?_)))
     refine W.regionH _ (ES := [.blk b1 [.slice a v.length c, .int .i64 per, .int .i64 inc]]) mixed ?_
     refine tP 0 ?_
     refine tL 2 (Rd.blk 0 rfl) ?_
     refine tP 3 ?_
     refine WA.br2 (i := 1) (j := 4) qK ?_ ?_
     ·
      refine sL (Rd.add (Rd.blk 1 rfl) _) ?_
      refine WA.callG 4 rfl qK en83 rfl (by first | rfl | decide) rfl qD (CallOp.mkT rfl rfl rfl rfl) ((At_L ha (by constructor <;> omega) ⟨by constructor <;> omega, by omega⟩ hinc hv).toFn) ?_
      rintro _ _ _ - ⟨rfl, rfl, rfl⟩
      refine ⟨RLe.refl _, qS, ?_⟩
      refine WA.eff 5 rfl qK rfl rfl qD (Ef.buildSliceD (enc := encI) (parts := [.tmp 83]) [_] tab_ok rfl rfl rfl rfl rfl rfl rfl rfl qD qD (fun a84 => ?_))
      refine ⟨qR, qS, ?_⟩
      refine WA.eff 6 rfl (by kernel_rfl) rfl rfl (by decide) (Ef.appendD (enc := encI) (xs := ((List.range k).map fun (t : Nat) => atR v per inc (t : Int))) (ys := [atR v per inc (k : Int)]) 1 0 tab_ok rfl rfl rfl rfl rfl rfl rfl rfl rfl rfl rfl (fun _ _ => rfl) (by simp only [List.length_cons, List.length_nil]; omega) (by simp only [List.length_cons, List.length_nil]; omega) (fun a85 c85 ha85 => ?_))
      refine ⟨qR, qS, ?_⟩
      refine tP 7 ?_
      refine zCF 8 2 ?_
      refine WA.done qK ?_
      refine zL (zU (zG (zR 1 rfl ?_)))
      refine yA ?_
      refine zR 1 rfl (zN ?_)
      refine WE.again ((k + 1, a85, c85)) (by dsimp only; omega) (by (try dsimp only); omega) ⟨rfl, rfl, rfl, rfl, rfl, rfl, rfl⟩ (RLe.refl _) (by dsimp only [setAll, List.set_cons_zero, List.set_cons_succ]; rw [e1]; exact List.Sublist.cons _ (List.Sublist.refl _))
     ·
      refine WS.callG rfl en83 rfl (by first | rfl | decide) rfl qD (CallOp.mkT rfl rfl rfl rfl) ((At_L ha (by constructor <;> omega) ⟨by constructor <;> omega, by omega⟩ hinc hv).toFn) ?_
      rintro _ _ _ - ⟨rfl, rfl, rfl⟩
      refine ⟨RLe.refl _, qS, ?_⟩
      refine WA.br2 (i := 1) (j := 5) qK ?_ ?_
      ·
       refine sL (Rd.add (Rd.blk 1 rfl) _) ?_
       refine WA.eff 5 rfl qK rfl rfl qD (Ef.buildSliceD (enc := encI) (parts := [.tmp 83]) [_] tab_ok rfl rfl rfl rfl rfl rfl rfl rfl qD qD (fun a84 => ?_))
       refine ⟨qR, qS, ?_⟩
       refine WA.eff 6 rfl (by kernel_rfl) rfl rfl (by decide) (Ef.appendD (enc := encI) (xs := ((List.range k).map fun (t : Nat) => atR v per inc (t : Int))) (ys := [atR v per inc (k : Int)]) 1 0 tab_ok rfl rfl rfl rfl rfl rfl rfl rfl rfl rfl rfl (fun _ _ => rfl) (by simp only [List.length_cons, List.length_nil]; omega) (by simp only [List.length_cons, List.length_nil]; omega) (fun a85 c85 ha85 => ?_))
       refine ⟨qR, qS, ?_⟩
       refine tP 7 ?_
       refine zCF 8 2 ?_
       refine WA.done qK ?_
       refine zL (zU (zG (zR 1 rfl ?_)))
       refine yA ?_
       refine zR 1 rfl (zN ?_)
       refine WE.again ((k + 1, a85, c85)) (by dsimp only; omega) (by (try dsimp only); omega) ⟨rfl, rfl, rfl, rfl, rfl, rfl, rfl⟩ (RLe.refl _) (by dsimp only [setAll, List.set_cons_zero, List.set_cons_succ]; rw [e1]; exact List.Sublist.cons _ (List.Sublist.refl _))
      ·
       refine WS.eff rfl rfl rfl qD (Ef.buildSliceD (enc := encI) (parts := [.tmp 83]) [_] tab_ok rfl rfl rfl rfl rfl rfl rfl rfl qD qD (fun a84 => ?_))
       refine ⟨qR, qS, ?_⟩
       refine lL 1 (Rd.add (Rd.blk 2 rfl) _) ?_
       refine WA.eff 6 rfl (by kernel_rfl) rfl rfl (by decide) (Ef.appendD (enc := encI) (xs := ((List.range k).map fun (t : Nat) => atR v per inc (t : Int))) (ys := [atR v per inc (k : Int)]) 1 0 tab_ok rfl rfl rfl rfl rfl rfl rfl rfl rfl rfl rfl (fun _ _ => rfl) (by simp only [List.length_cons, List.length_nil]; omega) (by simp only [List.length_cons, List.length_nil]; omega) (fun a85 c85 ha85 => ?_))
       refine ⟨qR, qS, ?_⟩
       refine tP 7 ?_
       refine zCF 8 2 ?_
       refine WA.done qK ?_
       refine zL (zU (zG (zR 1 rfl ?_)))
       refine yA ?_
       refine zR 1 rfl (zN ?_)
       refine WE.again ((k + 1, a85, c85)) (by dsimp only; omega) (by (try dsimp only); omega) ⟨rfl, rfl, rfl, rfl, rfl, rfl, rfl⟩ (RLe.refl _) (by dsimp only [setAll, List.set_cons_zero, List.set_cons_succ]; rw [e1]; exact List.Sublist.cons _ (List.Sublist.refl _))
    ·
     obtain rfl : k = s + (leastR ⟨v, per, inc⟩) := by omega
     refine zX ?_
     refine wx (wx (zY (zU ?_)))
     refine W.cap 0 rfl ?_
     intro hcp8
     rw [List.length_map] at hcp8
     refine W.freeze (enc := encI) (xs := (List.range (s + (leastR ⟨v, per, inc⟩))).map fun (t : Nat) => atR v per inc (t : Int)) 0 rfl ?_
     intro R1 hR1 hz
     refine zQ (zG ?_)
     refine yB 0 ?_
     refine zE 1 ?_
     refine zN (zU (zT ?_))
     refine zq3 (hR1) ?_
     exact ⟨a8, c8, by rw [hnr]; unfold cuV; rw [hnl]; rfl, by rw [hnr]; exact hz, by rw [hnr]; exact hcp8, qS⟩
theorem Least02_C {R : Ro} {a : Option Addr} {c : Nat} {v : List Int} {per inc : Int} (ha : RS R 1 encI a v) (hvl : v.length ≤ 100000 ∧ per ≤ v.length) (hac : infL v ≠ -1 → v.length ≤ c) (hper : 1 ≤ per ∧ per ≤ 100000) (hinc : 0 ≤ inc ∧ inc ≤ 549755813888) (hv : ∀ x ∈ v, -2305843009213693952 ≤ x ∧ x ≤ 4611686018427387904) (hself : infL v = -1 → perR ⟨v, per, inc⟩ ((v.length : Int) - per) per = true) (hat : ∀ t, 0 ≤ t → t ≤ (v.length : Int) + per → infL v = -1 → 0 ≤ atR v per inc t ∧ atR v per inc t ≤ 1000000000000000) (w0 : World) (E : List Ent) : K.Fn Tryz.prog 96 [.agg #[.slice a v.length c, .int .i64 per, .int .i64 inc]] w0 R E (fun r R' E' => ∃ (f : Option Addr) (fc : Nat), r = cuV f fc (normR ⟨v, per, inc⟩) ∧ RS R' 1 encI f (normR ⟨v, per, inc⟩).vals ∧ E.Sublist E') := by
 refine (Least02K_C ha hvl hac hper hinc hv hself hat w0 E).mono ?_
 rintro _ R' E' - ⟨f, fc, rfl, hf, _, hsub⟩
 exact ⟨f, fc, rfl, hf, hsub⟩
theorem MadeK_C {R : Ro} {a : Option Addr} {c : Nat} {v : List Int} {per inc : Int} (ha : RS R 1 encI a v) (hvl : v.length ≤ 100000 ∧ per ≤ v.length) (hac : infL v ≠ -1 → v.length ≤ c) (hper : 1 ≤ per ∧ per ≤ 100000) (hinc : 0 ≤ inc ∧ inc ≤ 549755813888) (hv : ∀ x ∈ v, -2305843009213693952 ≤ x ∧ x ≤ 4611686018427387904) (hself : infL v = -1 → perR ⟨v, per, inc⟩ ((v.length : Int) - per) per = true) (hat : ∀ t, 0 ≤ t → t ≤ (v.length : Int) + per → infL v = -1 → 0 ≤ atR v per inc t ∧ atR v per inc t ≤ 1000000000000000) (hnb : (∀ x ∈ (normR ⟨v, per, inc⟩).vals, -2305843009213693952 ≤ x ∧ x ≤ 4611686018427387904) ∧ InR (normR ⟨v, per, inc⟩).per ∧ InR (normR ⟨v, per, inc⟩).inc) (w0 : World) (E : List Ent) : K.Fn Tryz.prog 64 [.agg #[.slice a v.length c, .int .i64 per, .int .i64 inc]] w0 R E (fun r R' E' => ∃ (f : Option Addr) (fc : Nat), r = cvV f fc (madeR ⟨v, per, inc⟩) ∧ RS R' 1 encI f (madeR ⟨v, per, inc⟩).1.vals ∧ (madeR ⟨v, per, inc⟩).1.vals.length ≤ fc ∧ E.Sublist E') := by
 refine fE 12 Tryz.func64 ?_
 refine zQ (zG ?_)
 refine zO fun b1 => ?_
 refine zA fun b2 => ?_
 refine zR 1 rfl (zN (zU (zQ (zG ?_))))
 refine yB 1 ?_
 refine WL.call en96 rfl rfl qD (CallOp.mkT rfl rfl rfl rfl) (Least02K_C ha hvl hac hper hinc hv hself hat w0 _) ?_
 rintro _ R1 E1 hR1 ⟨f, fc, rfl, hf, hcp, hsub⟩
 refine WL.subE hsub ?_
 unfold cuV
 refine zA fun b4 => ?_
 refine zE 0 ?_
 refine zN (zU (zQ (zQ (zG ?_))))
 refine yB 0 ?_
 refine WG.callV en88 rfl rfl qD (CallOp.mk' rfl rfl rfl rfl) (fun _ => rfl) (fun hg => Valid_V hf hnb.2.1 hnb.2.2 hnb.1) ?_
 refine zR 1 rfl (zN (zU ?_))
 refine cC rfl ?_ ?_ <;> intro hc0
 ·try simp only [zk] at hc0
  have hm : madeR ⟨v, per, inc⟩ = (zcv, 3) := if_neg (by simpa using hc0)
  refine zQ (zG ?_)
  refine yW [] ?_
  refine zE 1 ?_
  refine zR 1 rfl (zN (zU (zT (wt ?_))))
  refine zq4 (hR1) ?_
  exact ⟨none, 0, by rw [hm]; rfl, by rw [hm]; exact rs_nil, by rw [hm]; exact Nat.le_refl _, qS⟩
 ·try simp only [zk] at hc0
  have hm : madeR ⟨v, per, inc⟩ = (normR ⟨v, per, inc⟩, 0) := if_pos (by simpa using hc0)
  refine zK (zU (zQ (zG ?_)))
  refine yB 0 ?_
  refine zE 1 ?_
  refine zR 1 rfl (zN (zU (zT ?_)))
  refine zq4 (hR1) ?_
  exact ⟨f, fc, by rw [hm]; rfl, by rw [hm]; exact hf, by rw [hm]; exact hcp, qS⟩

theorem RightP_V {R : Ro} {za : Option Addr} {zc : Nat} {z : List Sz} (hzr : RS R 2 encZ za z) : FnV Tryz.prog 86 [.slice za z.length zc] R (.bool (zOk z)) := by
 have hla := hzr.len
 refine Fn.toV (fun w0 E => ?_)
 refine fE 27 Tryz.func86 ?_
 refine zQ (zG (zR 1 rfl (zN (zU (zQ (zQ (zG (zR 3 rfl (zN (zU (zB ?_)))))))))))
 refine W.loopK (β := Nat) (fun i => i ≤ z.length ∧ ∀ j, j < i → 0 ≤ (nth z j).least ∧ (nth z j).least ≤ (nth z j).most ∧ (nth z j).most ≤ 1500) (fun i => [(7, true, .int .i64 (i : Int))]) [5, 6] [_, _] [] _ rfl (fun i => []) (fun i => z.length - i) (0) (⟨Nat.zero_le _, fun j hj => by omega⟩) ⟨rfl, rfl, rfl, rfl⟩ qS ?_
 intro i hst
 dsimp only [zipE, setAll, List.cons_append, List.nil_append, List.set_cons_zero, List.set_cons_succ]
 refine zQ (zG (zR 1 rfl (zN (zU (zQ ?_)))))
 refine cD rfl ?_ ?_ <;> intro hc0
 ·
  have hil : i < z.length := by omega
  refine zK (zU (zQ (zB (zQ (zG ?_)))))
  refine yI ?_
  refine yD (r := by ((apply RS.rdD; assumption; ((try dsimp only) <;> omega)))) (k := ?_)
  refine zA fun b4 => ?_
  refine zE 0 ?_
  refine zN (zU (zQ (zG (zR 1 rfl ?_))))
  refine yM 0 ?_
  refine zR 2 rfl ?_
  refine yP ?_
  refine yG (Rd.addC (Rd.blkC 0 rfl) _) ?_
  refine yP ?_
  refine yG (Rd.addC (Rd.blkC 0 rfl) _) ?_
  refine yP ?_
  refine yO ?_
  refine zR 1 rfl ?_
  refine yP ?_
  refine yG (Rd.addC (Rd.blkC 0 rfl) _) ?_
  refine yP ?_
  refine yO ?_
  refine zN (zU ?_)
  refine cC rfl ?_ ?_ <;> intro hc1
  ·try simp only [zk] at hc1
   have hno : zOk z = false := by
    rw [← Bool.not_eq_true]
    intro h
    have := zOk_iff.1 h _ (nth_mem hil)
    omega
   refine zQ (zG (zR 1 rfl (zN (zU (zT (wb (wt (wt (wb (wt ?_))))))))))
   refine sE (E := E) ?_
   refine zr1 ?_
   exact ⟨by rw [hno]; rfl, rfl⟩
  ·try simp only [zk] at hc1
   have hy : 0 ≤ (nth z i).least ∧ (nth z i).least ≤ (nth z i).most ∧ (nth z i).most ≤ 1500 := by omega
   refine zK (zL (zU (zG ?_)))
   refine yA ?_
   refine zR 1 rfl (zN ?_)
   refine WE.again (i + 1) (⟨by omega, fun j hj => by
    by_cases e : j = i
    ·subst e; exact hy
    ·exact hst.2 j (by omega)⟩) (by (try dsimp only); omega) ⟨rfl, rfl, rfl, rfl⟩ (RLe.refl _) qS
 ·
  refine zX ?_
  refine wx (wx (zY (zU (zQ (zG (zR 1 rfl (zN (zU (zT ?_)))))))))
  refine sE (E := E) ?_
  refine zr1 ?_
  exact ⟨by rw [zOk_iff.2 (all_of_nth (fun j hj => hst.2 j (by omega)))]; rfl, rfl⟩
theorem Right18_V {R : Ro} {za : Option Addr} {zc : Nat} {z : List Sz} (hzr : RS R 2 encZ za z) : FnV Tryz.prog 52 [.slice za z.length zc] R (.bool (zOk z)) := by
 have hla := hzr.len
 refine Fn.toV (fun w0 E => ?_)
 refine fE 37 Tryz.func52 ?_
 refine zQ (zG (zR 1 rfl (zN (zU (zQ (zQ (zG (zR 1 rfl (zN (zU (zB ?_)))))))))))
 refine W.loopK (β := Nat) (fun i => i ≤ z.length ∧ ∀ j, j < i → 0 ≤ (nth z j).least ∧ (nth z j).least ≤ (nth z j).most ∧ (nth z j).most ≤ 1500) (fun i => [(3, true, .int .i64 (i : Int))]) [0] [_] [] _ rfl (fun i => []) (fun i => z.length - i) (0) (⟨Nat.zero_le _, fun j hj => by omega⟩) ⟨rfl, rfl, rfl⟩ qS ?_
 intro i hst
 dsimp only [zipE, setAll, List.cons_append, List.nil_append, List.set_cons_zero, List.set_cons_succ]
 refine zQ (zQ (zG (zR 4 rfl (zN (zU ?_)))))
 refine cD rfl ?_ ?_ <;> intro hc0
 ·
  have hil : i < z.length := by omega
  refine zK (zU (zQ (zB (zQ ?_))))
  refine W.regionQ _ mixed qK ?_
  refine zR 2 rfl ?_
  refine yI ?_
  refine zR 1 rfl ?_
  refine yD (r := by apply Rd.add; ((apply RS.rdD; assumption; ((try dsimp only) <;> omega)))) (k := ?_)
  refine zR 2 rfl ?_
  refine yP ?_
  refine yP ?_
  refine gI ?_
  refine yP ?_
  refine yJ (r := by apply Rd.addC; ((apply RS.rdC; assumption))) (k := ?_)
  refine yP ?_
  refine yP ?_
  refine gI ?_
  refine yP ?_
  refine yJ (r := by apply Rd.addC; ((apply RS.rdC; assumption))) (k := ?_)
  refine yP ?_
  refine yO ?_
  refine zR 1 rfl ?_
  refine yP ?_
  refine yP ?_
  refine gI ?_
  refine yP ?_
  refine yJ (r := by apply Rd.addC; ((apply RS.rdC; assumption))) (k := ?_)
  refine yP ?_
  refine yO ?_
  refine zN (zU ?_)
  refine cC rfl ?_ ?_ <;> intro hc1
  ·try simp only [zk] at hc1
   have hno : zOk z = false := by
    rw [← Bool.not_eq_true]
    intro h
    have := zOk_iff.1 h _ (nth_mem hil)
    omega
   refine zQ (zG (zR 1 rfl (zN (zU (zT (wb (wt (wt (wb (wt ?_))))))))))
   refine sE (E := E) ?_
   refine zr1 ?_
   exact ⟨by rw [hno]; rfl, rfl⟩
  ·try simp only [zk] at hc1
   have hy : 0 ≤ (nth z i).least ∧ (nth z i).least ≤ (nth z i).most ∧ (nth z i).most ≤ 1500 := by omega
   refine zK (zL (zU (zG (zR 1 rfl ?_))))
   refine yA ?_
   refine zR 1 rfl (zN ?_)
   refine WE.again (i + 1) (⟨by omega, fun j hj => by
    by_cases e : j = i
    ·subst e; exact hy
    ·exact hst.2 j (by omega)⟩) (by (try dsimp only); omega) ⟨rfl, rfl, rfl⟩ (RLe.refl _) qS
 ·
  refine zX ?_
  refine wx (wx (zY (zU (zQ (zG (zR 1 rfl (zN (zU (zT ?_)))))))))
  refine sE (E := E) ?_
  refine zr1 ?_
  exact ⟨by rw [zOk_iff.2 (all_of_nth (fun j hj => hst.2 j (by omega)))]; rfl, rfl⟩
theorem CheckP_V {R : Ro} {za : Option Addr} {zc : Nat} {z : List Sz} {cap cls : Int} (hzr : RS R 2 encZ za z) : FnV Tryz.prog 49 [.int .i64 cap, .int .i64 cls, .slice za z.length zc] R (.int .i64 (chk18 cap cls z)) := by
 have hla := hzr.len
 refine Fn.toV (fun w0 E => ?_)
 refine fE 38 Tryz.func49 ?_
 refine zQ (zG (zR 1 rfl (zN (zU (zQ (zQ (zG (zR 3 rfl ?_))))))))
 refine yP ?_
 refine yP ?_
 refine yO ?_
 refine zR 1 rfl ?_
 refine yP ?_
 refine yP ?_
 refine yP ?_
 refine yO ?_
 refine zR 1 rfl ?_
 refine yP ?_
 refine yP ?_
 refine yP ?_
 refine yO ?_
 refine zR 1 rfl ?_
 refine yP ?_
 refine WG.callV en86 rfl rfl qD (CallOp.mk' rfl rfl rfl rfl) qE (fun hg => RightP_V hzr) ?_
 refine yP ?_
 refine yO ?_
 refine zR 1 rfl ?_
 refine yP ?_
 refine yP ?_
 refine yO ?_
 refine zR 1 rfl ?_
 refine yP ?_
 refine yP ?_
 refine yP ?_
 refine yP ?_
 refine yO ?_
 refine zN (zU ?_)
 refine cC rfl ?_ ?_ <;> intro hc0
 ·try simp only [zk] at hc0
  have e : chk18 cap cls z = 2 := if_pos (by
   rcases hc0 with (((((h|h)|h)|h)|h)|h)|h
   ·exact .inl h
   ·exact .inr (.inl h)
   ·exact .inr (.inr (.inl h))
   ·exact .inr (.inr (.inr (.inl h)))
   ·exact .inr (.inr (.inr (.inr (.inl h))))
   ·exact .inr (.inr (.inr (.inr (.inr (.inl h)))))
   ·exact .inr (.inr (.inr (.inr (.inr (.inr h))))))
  refine zQ (zG (zR 1 rfl (zN (zU (zT (wt ?_))))))
  refine sE (E := E) ?_
  refine zr1 ?_
  exact ⟨by rw [e]; rfl, rfl⟩
 ·try simp only [zk] at hc0
  have e : chk18 cap cls z = 0 := if_neg (by
   rintro (h|h|h|h|h|h|h) <;> first | omega | (simp_all; done))
  refine zK (zU (zQ (zG (zR 1 rfl (zN (zU (zT ?_)))))))
  refine sE (E := E) ?_
  refine zr1 ?_
  exact ⟨by rw [e]; rfl, rfl⟩
theorem Check18_V {R : Ro} {za : Option Addr} {zc : Nat} {z : List Sz} {cap cls : Int} (hzr : RS R 2 encZ za z) : FnV Tryz.prog 54 [.int .i64 cap, .int .i64 cls, .slice za z.length zc] R (.int .i64 (chk18 cap cls z)) := by
 have hla := hzr.len
 refine Fn.toV (fun w0 E => ?_)
 refine fE 38 Tryz.func54 ?_
 refine zQ (zG (zR 1 rfl (zN (zU (zQ (zQ (zG (zR 3 rfl ?_))))))))
 refine yP ?_
 refine yP ?_
 refine yO ?_
 refine zR 1 rfl ?_
 refine yP ?_
 refine yP ?_
 refine yP ?_
 refine yO ?_
 refine zR 1 rfl ?_
 refine yP ?_
 refine yP ?_
 refine yP ?_
 refine yO ?_
 refine zR 1 rfl ?_
 refine yP ?_
 refine WG.callV en52 rfl rfl qD (CallOp.mk' rfl rfl rfl rfl) qE (fun hg => Right18_V hzr) ?_
 refine yP ?_
 refine yO ?_
 refine zR 1 rfl ?_
 refine yP ?_
 refine yP ?_
 refine yO ?_
 refine zR 1 rfl ?_
 refine yP ?_
 refine yP ?_
 refine yP ?_
 refine yP ?_
 refine yO ?_
 refine zN (zU ?_)
 refine cC rfl ?_ ?_ <;> intro hc0
 ·try simp only [zk] at hc0
  have e : chk18 cap cls z = 2 := if_pos (by
   rcases hc0 with (((((h|h)|h)|h)|h)|h)|h
   ·exact .inl h
   ·exact .inr (.inl h)
   ·exact .inr (.inr (.inl h))
   ·exact .inr (.inr (.inr (.inl h)))
   ·exact .inr (.inr (.inr (.inr (.inl h))))
   ·exact .inr (.inr (.inr (.inr (.inr (.inl h)))))
   ·exact .inr (.inr (.inr (.inr (.inr (.inr h))))))
  refine zQ (zG (zR 1 rfl (zN (zU (zT (wt ?_))))))
  refine sE (E := E) ?_
  refine zr1 ?_
  exact ⟨by rw [e]; rfl, rfl⟩
 ·try simp only [zk] at hc0
  have e : chk18 cap cls z = 0 := if_neg (by
   rintro (h|h|h|h|h|h|h) <;> first | omega | (simp_all; done))
  refine zK (zU (zQ (zG (zR 1 rfl (zN (zU (zT ?_)))))))
  refine sE (E := E) ?_
  refine zr1 ?_
  exact ⟨by rw [e]; rfl, rfl⟩
theorem CheckRob_V {R : Ro} {wa za : Option Addr} {wc zc : Nat} {w : List Int} {z : List Sz} (hwr : RS R 1 encI wa w) (hzr : RS R 2 encZ za z) {cap cls : Int} : FnV Tryz.prog 169 [.int .i64 cap, .int .i64 cls, .slice wa w.length wc, .slice za z.length zc] R (.int .i64 (chkW 20 cap cls w z)) := by
 have hla := hzr.len
 have hlw := hwr.len
 refine Fn.toV (fun w0 E => ?_)
 have h18 := chk18_vals cap cls z
 refine fE 27 Tryz.func169 ?_
 refine zQ (zG (zR 1 rfl (zN (zU (zQ (zQ (zG (zR 3 rfl ?_))))))))
 refine WG.callV en49 rfl rfl qD (CallOp.mk' rfl rfl rfl rfl) (fun _ => rfl) (fun hg => CheckP_V hzr) ?_
 refine zR 1 rfl (zN (zU (zQ (zG (zR 2 rfl (zN (zU ?_)))))))
 refine cN rfl ?_ ?_ <;> intro hc0
 ·
  have e : chkW 20 cap cls w z = 2 := if_pos hc0
  refine zQ (zG (zR 2 rfl (zN (zU (zT (wt ?_))))))
  refine sE (E := E) ?_
  refine zr1 ?_
  exact ⟨by rw [e, show chk18 cap cls z = 2 by omega]; rfl, rfl⟩
 ·
  refine zK (zU (zQ (zQ (zG (zR 6 rfl ?_)))))
  refine yP ?_
  refine WG.callV en175 rfl rfl qD (CallOp.mk' rfl rfl rfl rfl) qE (fun hg => Weighed19_V hwr) ?_
  refine yP ?_
  refine yO ?_
  refine zN (zU ?_)
  refine cC rfl ?_ ?_ <;> intro hc1
  ·try simp only [zk] at hc1
   have e : chkW 20 cap cls w z = 2 := by unfold chkW; rw [if_neg (fun h => h hc0), if_pos (by rcases hc1 with h | h; exact .inl (by omega); exact .inr h)]
   refine zQ (zG (zR 1 rfl (zN (zU (zT (wt ?_))))))
   refine sE (E := E) ?_
   refine zr1 ?_
   exact ⟨by rw [e]; rfl, rfl⟩
  ·try simp only [zk] at hc1
   have e : chkW 20 cap cls w z = 0 := by unfold chkW; rw [if_neg (fun h => h hc0), if_neg (by rintro (h | h) <;> first | omega | (simp_all; done))]
   refine zK (zU (zQ (zG (zR 1 rfl (zN (zU (zT ?_)))))))
   refine sE (E := E) ?_
   refine zr1 ?_
   exact ⟨by rw [e]; rfl, rfl⟩
theorem Check19_V {R : Ro} {wa za : Option Addr} {wc zc : Nat} {w : List Int} {z : List Sz} (hwr : RS R 1 encI wa w) (hzr : RS R 2 encZ za z) {cap cls : Int} : FnV Tryz.prog 60 [.int .i64 cap, .int .i64 cls, .slice wa w.length wc, .slice za z.length zc] R (.int .i64 (chkW 20 cap cls w z)) := by
 have hla := hzr.len
 have hlw := hwr.len
 refine Fn.toV (fun w0 E => ?_)
 have h18 := chk18_vals cap cls z
 refine fE 26 Tryz.func60 ?_
 refine zQ (zG (zR 1 rfl (zN (zU (zQ (zQ (zG (zR 3 rfl ?_))))))))
 refine WG.callV en54 rfl rfl qD (CallOp.mk' rfl rfl rfl rfl) (fun _ => rfl) (fun hg => Check18_V hzr) ?_
 refine zR 2 rfl ?_
 refine yP ?_
 refine yP ?_
 refine yP ?_
 refine yP ?_
 refine yP ?_
 refine yO ?_
 refine zR 1 rfl ?_
 refine yP ?_
 refine WG.callV en95 rfl rfl qD (CallOp.mk' rfl rfl rfl rfl) qE (fun hg => Right19_V hwr) ?_
 refine yP ?_
 refine yO ?_
 refine zN (zU ?_)
 refine cC rfl ?_ ?_ <;> intro hc0
 ·try simp only [zk] at hc0
  have e : chkW 20 cap cls w z = 2 := by
   unfold chkW
   rcases hc0 with (h | h) | h
   ·rw [if_pos h]
   ·split
    ·rfl
    ·rw [if_pos (.inl (by omega))]
   ·split
    ·rfl
    ·rw [if_pos (.inr h)]
  refine zQ (zG (zR 1 rfl (zN (zU (zT (wt ?_))))))
  refine sE (E := E) ?_
  refine zr1 ?_
  exact ⟨by rw [e]; rfl, rfl⟩
 ·try simp only [zk] at hc0
  have e : chkW 20 cap cls w z = 0 := by unfold chkW; rw [if_neg (fun h => h hc0.1.1), if_neg (by rintro (h | h) <;> first | omega | (simp_all; done))]
  refine zK (zU (zQ (zG (zR 1 rfl (zN (zU (zT ?_)))))))
  refine sE (E := E) ?_
  refine zr1 ?_
  exact ⟨by rw [e]; rfl, rfl⟩
theorem Sum19_V {R : Ro} {wa za : Option Addr} {wc zc : Nat} {w : List Int} {z : List Sz} (hwr : RS R 1 encI wa w) (hzr : RS R 2 encZ za z) {cls : Int} (hw : ∀ x ∈ w, 1 ≤ x ∧ x ≤ 20) (hz : ∀ s ∈ z, 0 ≤ s.least ∧ s.least ≤ s.most ∧ s.most ≤ 1500) (hwz : w.length = z.length) (hwl : z.length ≤ 6) : FnV Tryz.prog 62 [.int .i64 cls, .slice wa w.length wc, .slice za z.length zc] R (.int .i64 (qSum cls w z w.length)) := by
 have hla := hzr.len
 have hlw := hwr.len
 refine Fn.toV (fun w0 E => ?_)
 refine fE 31 Tryz.func62 ?_
 refine zQ (zG (zR 1 rfl (zN (zU (zQ (zG (zR 1 rfl (zN (zU (zQ (zQ (zG (zR 1 rfl (zN (zU (zB ?_))))))))))))))))
 refine W.loopK (β := Nat × Int) (fun (i, q) => i ≤ w.length ∧ q = qSum cls w z i) (fun (i, q) => [(7, true, .int .i64 q), (8, true, .int .i64 (i : Int))]) [0, 1, 2] [_, _, _] [] _ rfl (fun (i, q) => []) (fun (i, q) => w.length - i) ((0, 0)) (⟨Nat.zero_le _, rfl⟩) ⟨rfl, rfl, rfl, rfl, rfl, rfl⟩ qS ?_
 intro st hst
 obtain ⟨i, q⟩ := st
 dsimp only [zipE, setAll, List.cons_append, List.nil_append, List.set_cons_zero, List.set_cons_succ]
 obtain ⟨hi, rfl⟩ := hst
 have hqb := qSum_bound (k := cls) hw hz i (by omega) (by omega)
 refine zQ (zQ (zG (zR 4 rfl (zN (zU ?_)))))
 refine cD rfl ?_ ?_ <;> intro hc0
 ·
  have hil : i < w.length := by omega
  have hwi := hw _ (nth_mem hil)
  have hzi := hz _ (nth_mem (xs := z) (k := i) (by omega))
  have hpb := mulB (a := nth w i) (b := (nth z i).most) (A := 20) (B := 1500) (by omega) (by omega)
  refine zK (zU (zQ (zB (zQ (zG (zR 3 rfl (zN (zU ?_))))))))
  refine cN rfl ?_ ?_ <;> intro hc1
  ·
   have hq1 : qSum cls w z (i + 1) = qSum cls w z i + nth w i * (nth z i).most := by simp only [qSum]; rw [if_pos hc1]
   refine W.regionQ _ mixed qK ?_
   refine zR 3 rfl ?_
   refine yI ?_
   refine yD (r := by ((apply RS.rdD; assumption; ((try dsimp only) <;> omega)))) (k := ?_)
   refine zR 2 rfl ?_
   refine yI ?_
   refine zR 1 rfl ?_
   refine yD (r := by apply Rd.add; ((apply RS.rdD; assumption; ((try dsimp only) <;> omega)))) (k := ?_)
   refine yU ?_
   refine yA ?_
   refine zR 1 rfl (zN (zL (zU (zG (zR 1 rfl ?_)))))
   refine yA ?_
   refine zR 1 rfl (zN ?_)
   refine WE.again ((i + 1, qSum cls w z i + nth w i * (nth z i).most)) (⟨by dsimp only; omega, by dsimp only; rw [hq1]⟩) (by (try dsimp only); omega) ⟨rfl, rfl, rfl, rfl, rfl, rfl⟩ (RLe.refl _) qS
  ·
   have hq1 : qSum cls w z (i + 1) = qSum cls w z i := by simp only [qSum]; rw [if_neg (by omega)]; omega
   refine zK (zL (zU (zG (zR 1 rfl ?_))))
   refine yA ?_
   refine zR 1 rfl (zN ?_)
   refine WE.again ((i + 1, qSum cls w z i)) (⟨by dsimp only; omega, by dsimp only; rw [hq1]⟩) (by (try dsimp only); omega) ⟨rfl, rfl, rfl, rfl, rfl, rfl⟩ (RLe.refl _) qS
 ·
  obtain rfl : i = w.length := by omega
  refine zX ?_
  refine wx (wx (zY (zU (zQ (zG (zR 2 rfl (zN (zU (zT ?_)))))))))
  refine sE (E := E) ?_
  refine zr1 ?_
  exact ⟨rfl, rfl⟩
theorem Round19_V {R : Ro} {wa za : Option Addr} {wc zc : Nat} {w : List Int} {z : List Sz} (hwr : RS R 1 encI wa w) (hzr : RS R 2 encZ za z) {cls : Int} (hw : ∀ x ∈ w, 1 ≤ x ∧ x ≤ 20) (hz : ∀ s ∈ z, 0 ≤ s.least ∧ s.least ≤ s.most ∧ s.most ≤ 1500) (hwz : w.length = z.length) (hwl : z.length ≤ 6) (hc : 0 ≤ cls ∧ cls < z.length) : FnV Tryz.prog 170 [.int .i64 cls, .slice wa w.length wc, .slice za z.length zc] R (.tuple #[.int .i64 (nth w cls.toNat * (nth z cls.toNat).least), .int .i64 (qSum cls w z w.length)]) := by
 have hla := hzr.len
 have hlw := hwr.len
 refine Fn.toV (fun w0 E => ?_)
 have hwk := hw _ (nth_mem (xs := w) (k := cls.toNat) (by omega))
 have hzk := hz _ (nth_mem (xs := z) (k := cls.toNat) (by omega))
 have hrb := mulB (a := nth w cls.toNat) (b := (nth z cls.toNat).least) (A := 20) (B := 1500) (by omega) (by omega)
 refine fE 41 Tryz.func170 ?_
 refine zQ (zG (zR 2 rfl (zN (zU (zQ (zQ (zG (zR 3 rfl (zN (zU (zB ?_)))))))))))
 refine W.loopK (β := Nat × Int) (fun (i, q) => i ≤ w.length ∧ q = qSum cls w z i) (fun (i, q) => [(7, true, .int .i64 q), (12, true, .int .i64 (i : Int))]) [0, 1, 2, 10, 11] [_, _, _, _, _] [] _ rfl (fun (i, q) => []) (fun (i, q) => w.length - i) ((0, 0)) (⟨Nat.zero_le _, rfl⟩) ⟨rfl, rfl, rfl, rfl, rfl, rfl, rfl, rfl⟩ qS ?_
 intro st hst
 obtain ⟨i, q⟩ := st
 dsimp only [zipE, setAll, List.cons_append, List.nil_append, List.set_cons_zero, List.set_cons_succ]
 obtain ⟨hi, rfl⟩ := hst
 have hqb := qSum_bound (k := cls) hw hz i (by omega) (by omega)
 refine zQ (zG (zR 1 rfl (zN (zU (zQ ?_)))))
 refine cD rfl ?_ ?_ <;> intro hc0
 ·
  have hil : i < w.length := by omega
  have hwi := hw _ (nth_mem hil)
  have hzi := hz _ (nth_mem (xs := z) (k := i) (by omega))
  have hpb := mulB (a := nth w i) (b := (nth z i).most) (A := 20) (B := 1500) (by omega) (by omega)
  refine zK (zU (zQ (zB (zQ (zG (zR 1 rfl ?_))))))
  refine yI ?_
  refine yD (r := by ((apply RS.rdD; assumption; ((try dsimp only) <;> omega)))) (k := ?_)
  refine zR 2 rfl (zN (zU (zQ (zG (zR 3 rfl (zN (zU ?_)))))))
  refine cN rfl ?_ ?_ <;> intro hc1
  ·
   have hq1 : qSum cls w z (i + 1) = qSum cls w z i + nth w i * (nth z i).most := by simp only [qSum]; rw [if_pos hc1]
   refine zG (zR 4 rfl ?_)
   refine yI ?_
   refine zR 1 rfl ?_
   refine yD (r := by apply Rd.add; ((apply RS.rdD; assumption; ((try dsimp only) <;> omega)))) (k := ?_)
   refine yU ?_
   refine yA ?_
   refine zR 1 rfl (zN (zL (zU (zG ?_))))
   refine yA ?_
   refine zR 1 rfl (zN ?_)
   refine WE.again ((i + 1, qSum cls w z i + nth w i * (nth z i).most)) (⟨by dsimp only; omega, by dsimp only; rw [hq1]⟩) (by (try dsimp only); omega) ⟨rfl, rfl, rfl, rfl, rfl, rfl, rfl, rfl⟩ (RLe.refl _) qS
  ·
   have hq1 : qSum cls w z (i + 1) = qSum cls w z i := by simp only [qSum]; rw [if_neg (by omega)]; omega
   refine zK (zL (zU (zG ?_)))
   refine yA ?_
   refine zR 1 rfl (zN ?_)
   refine WE.again ((i + 1, qSum cls w z i)) (⟨by dsimp only; omega, by dsimp only; rw [hq1]⟩) (by (try dsimp only); omega) ⟨rfl, rfl, rfl, rfl, rfl, rfl, rfl, rfl⟩ (RLe.refl _) qS
 ·
  obtain rfl : i = w.length := by omega
  refine zX ?_
  refine wx (wx (zY (zU (zQ ?_))))
  refine W.regionQ _ mixed qK ?_
  refine zR 2 rfl ?_
  refine yX ?_
  refine yD (r := by ((apply RS.rdD; assumption; ((try dsimp only) <;> omega)))) (k := ?_)
  refine zR 2 rfl ?_
  refine yX ?_
  refine zR 1 rfl ?_
  refine yD (r := by apply Rd.add; ((apply RS.rdD; assumption; ((try dsimp only) <;> omega)))) (k := ?_)
  refine yU ?_
  refine zR 3 rfl (zN (zU (zT ?_)))
  refine sE (E := E) ?_
  refine zr2 ?_
  exact ⟨rfl, rfl⟩
theorem CurveH_V {R : Ro} {b1 b2 b3 b4 : Nat} {s r cap : Int} {t y : Nat} (h1 : R b1 = some [.int .i64 s]) (h2 : R b2 = some [.int .i64 r]) (h3 : R b3 = some [.int .i64 cap]) (h4 : R b4 = some [.int .i64 (t : Int)]) (hc : 0 ≤ cap ∧ cap ≤ 4000) (hr : 1 ≤ r ∧ r ≤ s) (hs : s ≤ 480000) (ht : t ≤ 1000) (hy : y ≤ 100000000) : FnV Tryz.prog 174 [.int .i64 (y : Int), .pointer (some ⟨b1, 0, none⟩), .pointer (some ⟨b2, 0, none⟩), .pointer (some ⟨b3, 0, none⟩), .pointer (some ⟨b4, 0, none⟩)] R (.bool (robinH cap s r t y)) := by
 refine Fn.toV (fun w0 E => ?_)
 have hq0 : 0 ≤ (y : Int) / r := Int.ediv_nonneg (by omega) (by omega)
 have hq1 : (y : Int) / r ≤ y := Int.ediv_le_self _ (by omega)
 have hp1 := mulB (a := s - r) (b := (y : Int) / r + 1) (A := 480000) (B := 100000001) (by omega) (by omega)
 have hp2 := mulB (a := cap) (b := (t : Int)) (A := 4000) (B := 1000) (by omega) (by omega)
 refine fE 21 Tryz.func174 ?_
 refine zQ (zG (zR 1 rfl (zN (zU (zQ ?_)))))
 refine W.regionQ _ mixed qK ?_
 refine zR 1 rfl ?_
 refine yD (r := by (exact Rd.ro qU)) (k := ?_)
 refine yD (r := by (exact Rd.ro qU)) (k := ?_)
 refine yS ?_
 refine zR 1 rfl ?_
 refine yD (r := by (exact Rd.ro qU)) (k := ?_)
 refine yV ?_
 refine yA ?_
 refine yU ?_
 refine yA ?_
 refine yD (r := by (exact Rd.ro qU)) (k := ?_)
 refine yD (r := by (exact Rd.ro qU)) (k := ?_)
 refine yU ?_
 refine zR 2 rfl (zN (zU (zT ?_)))
 refine sE (E := E) ?_
 refine zr1 ?_
 exact ⟨rfl, rfl⟩
theorem CurveG_V {R : Ro} {b1 b2 b3 : Nat} {s r cap : Int} {t : Nat} (h1 : R b1 = some [.int .i64 s]) (h2 : R b2 = some [.int .i64 r]) (h3 : R b3 = some [.int .i64 cap]) (hc : 0 ≤ cap ∧ cap ≤ 4000) (hr : 1 ≤ r ∧ r ≤ s) (hs : s ≤ 480000) (ht : t ≤ 1000) : FnV Tryz.prog 172 [.int .i64 (t : Int), .pointer (some ⟨b1, 0, none⟩), .pointer (some ⟨b2, 0, none⟩), .pointer (some ⟨b3, 0, none⟩)] R (.int .i64 (robinF cap s r t)) := by
 refine Fn.toVS (fun w0 E => ?_)
 have hp2 := mulB (a := cap) (b := (t : Int)) (A := 4000) (B := 1000) (by omega) (by omega)
 refine fE 8 Tryz.func172 ?_
 refine zQ (zG ?_)
 refine zO fun b4 => ?_
 refine zR 1 rfl ?_
 refine WL.freezeBlk 0 rfl ?_
 intro R1 hR1 hb4
 have h1 := hR1 _ _ h1
 have h2 := hR1 _ _ h2
 have h3 := hR1 _ _ h3
 generalize hbd : (cap * (t : Int)).toNat = bd
 have hbd4 : bd ≤ 4000000 := by omega
 have hHb : robinH cap s r t bd = true := by rw [← hbd]; exact robinH_bound (by omega) hr.2 t hc.1
 have hF : ∀ y : Nat, y ≤ 2 * bd + 1 → FnV Tryz.prog 174 ((#[] : Array Value).toList ++ [.int .i64 (y : Int)] ++ (#[.pointer (some ⟨b1, 0, none⟩), .pointer (some ⟨b2, 0, none⟩), .pointer (some ⟨b3, 0, none⟩), .pointer (some ⟨b4, 0, none⟩)] : Array Value).toList) R1 (.bool (robinH cap s r t y)) := fun y hy => CurveH_V h1 h2 h3 hb4 hc hr hs ht (by omega)
 refine zN (zU (zQ (zG ?_)))
 refine WG.y rfl rfl qD (Yl.makeFunc (fi := []) (ca := [.tmp 1, .tmp 2, .tmp 3, .tmp 4]) rfl rfl rfl (fun _ => rfl)) ?_
 refine WG.callV en173 rfl rfl qD (CallOp.mk' rfl rfl rfl rfl) (fun _ => rfl) (fun hg => FirstH_V (H := robinH cap s r t) (b := bd) en174 qO hHb (fun y y' h hy => robinH_mono qO hr.2 h hy) hF) ?_
 refine zR 1 rfl (zN (zU (zT ?_)))
 refine zq1 (hR1) ?_
 exact ⟨by subst hbd; rfl, qS⟩




theorem LRun_err {R : Ro} {pa : Option Addr} {pc : Nat} {ps : List Pkt} (hp : RS R 3 encP pa ps) {cap classes ticks : Int} (w0 : World) (hbad : lrunE cap classes ticks ps ≠ 0) (E : List Ent) :
  K.Fn Tryz.prog 142 [.int .i64 cap, .int .i64 classes, .slice pa ps.length pc, .int .i64 ticks] w0 R E (fun v R' E' => v = .tuple #[.agg #[.slice none 0 0, .slice none 0 0], .int .i64 (lrunE cap classes ticks ps)] ∧ R = R' ∧ E.Sublist E') := by
 have hla := hp.len
 refine fE 32 Tryz.func142 ?_
 refine zQ (zG ?_)
 refine zA fun b8 => ?_
 refine zR 1 rfl (zN (zU (zQ (zQ (zG (zR 1 rfl ?_))))))
 refine WG.callV en143 rfl rfl qD (CallOp.mk' rfl rfl rfl rfl) (fun _ => rfl) (fun hg => Validate_V hp) ?_
 refine zR 1 rfl (zN (zU (zQ (zG (zR 2 rfl (zN (zU ?_)))))))
 refine cN rfl ?_ ?_ <;> intro hc0
 ·
  have e : lrunE cap classes ticks ps = validate ps := if_pos hc0
  refine zQ (zG ?_)
  refine yW [] ?_
  refine zR 1 rfl ?_
  refine zE 0 ?_
  refine zR 1 rfl (zN (zU (zT (wt ?_))))
  refine zr4 ?_
  exact ⟨by rw [e]; rfl, rfl, qS⟩
 ·
  have e : lrunE cap classes ticks ps = checkE cap classes ticks ps := if_neg (fun h => h hc0)
  refine zK (zU (zQ (zQ (zG (zR 4 rfl ?_)))))
  refine WG.callV en144 rfl rfl qD (CallOp.mk' rfl rfl rfl rfl) (fun _ => rfl) (fun hg => Check_V hp) ?_
  refine zR 1 rfl (zN (zU (zQ (zG (zR 2 rfl (zN (zU ?_)))))))
  refine cN rfl ?_ ?_ <;> intro hc1
  ·
   refine zQ (zG ?_)
   refine yW [] ?_
   refine zR 1 rfl ?_
   refine zE 0 ?_
   refine zR 1 rfl (zN (zU (zT (wt ?_))))
   refine zr4 ?_
   exact ⟨by rw [e]; rfl, rfl, qS⟩
  ·
   exact absurd (e.trans hc1) hbad


theorem CurveRob_C {R : Ro} {wa za : Option Addr} {wc zc : Nat} {w : List Int} {z : List Sz} (hwr : RS R 1 encI wa w) (hzr : RS R 2 encZ za z) {cap cls : Int} (w0 : World) (E : List Ent) : K.Fn Tryz.prog 165 [.int .i64 cap, .int .i64 cls, .slice wa w.length wc, .slice za z.length zc] w0 R E (fun r R' E' => ∃ (f : Option Addr) (fc : Nat), r = cvV f fc (robinC cap cls w z) ∧ RS R' 1 encI f (robinC cap cls w z).1.vals ∧ E.Sublist E') := by
 have hla := hzr.len
 have hlw := hwr.len
 refine fE 65 Tryz.func165 ?_
 refine zQ (zG ?_)
 refine zO fun b4 => ?_
 refine zA fun b8 => ?_
 refine zR 1 rfl (zN (zU (zQ (zQ (zG ?_)))))
 refine yB 1 ?_
 refine zR 3 rfl ?_
 refine WG.callV en169 rfl rfl qD (CallOp.mk' rfl rfl rfl rfl) (fun _ => rfl) (fun hg => CheckRob_V hwr hzr) ?_
 refine zR 1 rfl (zN (zU (zQ (zG (zR 2 rfl (zN (zU ?_)))))))
 refine cN rfl ?_ ?_ <;> intro hc0
 ·
  have hrob : robinC cap cls w z = (zcv, chkW 20 cap cls w z) := if_pos hc0
  refine zQ (zG ?_)
  refine yW [] ?_
  refine zR 1 rfl ?_
  refine zE 0 ?_
  refine zR 1 rfl (zN (zU (zT (wt ?_))))
  refine zq4 (by first | exact hRa.trans (hRb.trans (hRc.trans hR4)) | exact RLe.refl _) ?_
  exact ⟨none, 0, by rw [hrob]; rfl, by rw [hrob]; exact rs_nil, qS⟩
 ·
  obtain ⟨_, _, hk1, hk2, _, hk4, _⟩ := chkW_ok hc0
  refine zK (zU (zQ (zQ (zG (zR 2 rfl ?_)))))
  refine yX ?_
  refine zR 1 rfl ?_
  refine yD (r := by apply Rd.add; ((apply RS.rdD; assumption; ((try dsimp only) <;> omega)))) (k := ?_)
  refine zR 1 rfl (zN (zU ?_))
  refine cD rfl ?_ ?_ <;> intro hc1
  ·
   have hrob : robinC cap cls w z = (zcv, 5) := by unfold robinC; rw [if_neg (fun h => h hc0), if_pos hc1]
   refine zQ (zG ?_)
   refine yW [] ?_
   refine zE 0 ?_
   refine zR 1 rfl (zN (zU (zT (wt ?_))))
   refine zq4 (by first | exact hRa.trans (hRb.trans (hRc.trans hR4)) | exact RLe.refl _) ?_
   exact ⟨none, 0, by rw [hrob]; rfl, by rw [hrob]; exact rs_nil, qS⟩
  ·
   obtain ⟨cn, kn, m, r, rfl, rfl, c1, k1, zl, hwl, hw, hz, hr, r1, hm, m1, hcase⟩ := rob_cases hc0 (by omega)
   have hqb := qSum_bound (k := (kn : Int)) hw hz w.length (Nat.le_refl _) (by omega)
   refine zK (zU (zQ (zG (zR 3 rfl ?_))))
   refine WG.callV (v := .tuple #[.int .i64 r, .int .i64 (qSum (kn : Int) w z w.length)]) en170 rfl rfl (by decide) (CallOp.mk' rfl rfl rfl rfl) (fun _ => rfl) (fun hg => by rw [hr]; exact Round19_V hwr hzr hw hz hwl (by omega) (by omega)) ?_
   refine zR 3 rfl ?_
   refine zA fun b11 => ?_
   refine zE 0 ?_
   refine zR 1 rfl (zN (zU (zQ (zG ?_))))
   refine yB 0 ?_
   refine zR 1 rfl ?_
   refine yA ?_
   refine yB 2 ?_
   refine WG.callV (v := rvR (shortN m cn) cn) en171 rfl rfl (by decide) (CallOp.mk' rfl rfl rfl rfl) (fun _ => rfl) (fun hg => by rw [← hm]; exact Rounds_V (by omega) (by omega)) ?_
   refine zR 4 rfl ?_
   refine zA fun b13 => ?_
   refine zE 0 ?_
   refine zR 2 rfl (zN (zU (zQ (zQ (zG (zR 2 rfl (zN (zU ?_))))))))
   refine cC rfl ?_ ?_ <;> intro hc2
   ·try simp only [zk] at hc2
    have hrob : robinC cn kn w z = (zcv, 3) := by
     rcases hcase with ⟨_, h⟩ | ⟨s, p, mm, hro, _⟩
     ·exact h
     ·rw [hro.hs] at hc2; omega
    refine zQ (zG ?_)
    refine yW [] ?_
    refine zE 2 ?_
    refine zR 1 rfl (zN (zU (zT (wt ?_))))
    refine zq4 (by first | exact hRa.trans (hRb.trans (hRc.trans hR4)) | exact RLe.refl _) ?_
    exact ⟨none, 0, by rw [hrob]; rfl, by rw [hrob]; exact rs_nil, qS⟩
   ·try simp only [zk] at hc2
    refine zK (zU ?_)
    obtain ⟨s, p, mm, hro, hrob⟩ : ∃ s p mm, RobOk cn kn w z cn kn m s p mm r ∧ robinC cn kn w z = mbuild (robinF cn s r) 0 p ((cn : Int) * p / s * r) := by
     rcases hcase with ⟨h, _⟩ | h
     ·exact absurd h hc2
     ·exact h
    have hsn := hro.hs
    have hne : ¬ ((s : Int) = -1) := by omega
    have hs1 := hro.s1
    have hp1 := hro.p1
    obtain ⟨hgr, hinc, hFb, hmade⟩ := hro.facts
    rw [hsn, if_neg hne, if_neg hne, Int.toNat_natCast, ← hro.hp]
    have hcp := mulB (a := (cn : Int)) (b := (p : Int)) (A := 4000) (B := 120) (by omega) (by omega)
    refine W.freezeBlk 0 rfl ?_
    intro Ra hRa hb13
    refine W.freezeBlk 0 rfl ?_
    intro Rb hRb hb11
    refine W.freezeBlk 1 rfl ?_
    intro Rc hRc hb4
    have hb13 := hRc _ _ (hRb _ _ hb13)
    have hb11 := hRc _ _ hb11
    have hF : ∀ t : Nat, t < 0 + p → FnV Tryz.prog 172 ((#[] : Array Value).toList ++ [.int .i64 (t : Int)] ++ (#[.pointer (some ⟨b13, 0, none⟩), .pointer (some ⟨b11, 0, none⟩), .pointer (some ⟨b4, 0, none⟩)] : Array Value).toList) Rc (.int .i64 (robinF cn s r t)) := fun t ht => CurveG_V hb13 hb11 hb4 (by omega) (by omega) (by omega) (by omega)
    refine zQ (zG (zR 2 rfl (zN (zU (zQ ?_)))))
    refine W.regionH _ (ES := []) mixed ?_
    refine tP 0 ?_
    refine tP 1 ?_
    refine tD 2 (r := by (exact Rd.ro qU)) (k := ?_)
    refine tP 3 ?_
    refine WA.take 4 rfl qK qK qK rfl rfl qD (Yl.mul rfl rfl rfl (fun _ => rfl) qA) qS qR ?_
    refine tD 5 (r := by (exact Rd.ro qU)) (k := ?_)
    refine WA.take 6 rfl qK qK qK rfl rfl qD (Yl.quo rfl rfl rfl (fun _ => rfl) qA (by intro _; omega)) qS qR ?_
    refine tD 7 (r := by (exact Rd.ro qU)) (k := ?_)
    refine WA.take 8 rfl qK qK qK rfl rfl qD (Yl.mul rfl rfl rfl (fun _ => rfl) qA) qS qR ?_
    refine WA.callG 9 rfl qK en111 rfl (by first | rfl | decide) rfl qD (CallOp.mkT rfl rfl rfl rfl) (Build_C (S := 0) (P := p) (F := robinF cn s r) en172 qO qO qO (fun t ht => .inr (by have := hFb t qO; omega)) hF w0 _) ?_
    rintro _ R4 E4 hR4 ⟨f, fc, rfl, hf, hsub⟩
    refine ⟨hR4, List.nil_sublist _, ?_⟩
    refine WA.subE hsub ?_
    unfold cvV
    refine tP 10 ?_
    refine tP 11 ?_
    refine zCE 12 0 ?_
    refine tP 13 ?_
    refine WA.done qK ?_
    refine zU (zT ?_)
    refine zq4 (by first | exact hRa.trans (hRb.trans (hRc.trans hR4)) | exact RLe.refl _) ?_
    exact ⟨f, fc, by rw [hrob]; rfl, by rw [hrob]; exact hf, qS⟩

theorem PickM_C {R : Ro} {b : Nat} {a : Option Addr} {cp : Nat} {xs : List Int} {c : Nat} (w0 : World) {n : Nat} {a2 : Option Addr} {c2 : Nat} {j : Nat} {F : List Ent} (ys : List Int) (hn : ys.length = n) (hn0 : 0 < n) (hn1 : n ≤ 1000000) (ha : RS R 1 encI a xs) (hy : F[j]? = some (.sl 3 1 a2 c2 (ys.map encI))) :
  K.Fn Tryz.prog 15 [.pointer (some ⟨b, 0, none⟩), .slice a2 n c2] w0 R (srcE b a cp xs c :: F) (fun v R' E' => ∃ e' N, E' = N ++ e' :: F ∧ RdPost (.int .i64 (nth ys (mod (nth xs c) n).toNat)) R (srcE b a cp xs (c + 1)) v R' e' N) := by
 subst hn; exact Pick_C w0 ha hy hn0 hn1

def szPre (z : List Sz) (p : Pkt) : List Sz := if (nth z p.flow.toNat).most = 0 then z.set p.flow.toNat ⟨p.size, p.size⟩ else z
def szPut (z1 : List Sz) (p : Pkt) : List Sz := z1.set p.flow.toNat ⟨(if p.size < (nth z1 p.flow.toNat).least then p.size else (nth z1 p.flow.toNat).least), (if (nth z1 p.flow.toNat).most < p.size then p.size else (nth z1 p.flow.toNat).most)⟩
def szAdd (n : Nat) (z : List Sz) (p : Pkt) : List Sz := if p.flow < 0 ∨ p.flow ≥ (n : Int) then z else szPut (szPre z p) p
def sizesL (n : Nat) (ps : List Pkt) : List Sz := ps.foldl (szAdd n) (List.replicate n ⟨0, 0⟩)
theorem szPre_len (z : List Sz) (p : Pkt) : (szPre z p).length = z.length := by unfold szPre; split <;> simp
theorem szPut_len (z : List Sz) (p : Pkt) : (szPut z p).length = z.length := by simp [szPut]
theorem szAdd_len (n : Nat) (z : List Sz) (p : Pkt) : (szAdd n z p).length = z.length := by unfold szAdd; split; rfl; rw [szPut_len, szPre_len]
theorem Sizes_C {R : Ro} {pa : Option Addr} {pc pl : Nat} {ps : List Pkt} (hp : RS R 3 encP pa ps) (hpl : ps.length = pl) {n : Nat} (hn : n ≤ 1000) (w0 : World) (E : List Ent) :
  K.Fn Tryz.prog 9 [.slice pa pl pc, .int .i64 (n : Int)] w0 R E (fun v R' E' => ∃ (a2 : Option Addr) (c2 : Nat), v = .slice a2 (sizesL n ps).length c2 ∧ R = R' ∧ (.sl 56 2 a2 c2 ((sizesL n ps).map encZ) :: E).Sublist E') := by
 subst hpl
 have hla := hp.len
 have hen : ((n : Int)).toNat = n := by omega
 refine fE 64 Tryz.func9 ?_
 refine zQ (zG (zR 1 rfl (zN (zU (zQ (zG (zR 1 rfl ?_)))))))
 refine WL.ef rfl rfl qD (Ef.makeSliceD (enc := encZ) ⟨0, 0⟩ tab_ok rfl rfl rfl rfl rfl rfl qX qX qX qX qD rfl rfl (fun a10 => ?_))
 refine zR 1 rfl (zN (zU (zQ (zQ (zG (zR 3 rfl (zN (zU (zB ?_)))))))))
 refine W.loopK (β := Nat × List Sz) (fun (i, z) => i ≤ ps.length ∧ z = (ps.take i).foldl (szAdd n) (List.replicate n (⟨0, 0⟩ : Sz)) ∧ z.length = n) (fun (i, z) => [(13, true, .int .i64 (i : Int))]) [1, 5, 11, 12] [_, _, _, _] [] _ rfl (fun (i, z) => [(0, .sl 56 2 (some ⟨a10, 0, none⟩) n (z.map encZ))]) (fun (i, z) => ps.length - i) ((0, (List.replicate n (⟨0, 0⟩ : Sz)))) (⟨Nat.zero_le _, rfl, by simp⟩) ⟨rfl, rfl, rfl, rfl, rfl, rfl⟩ qS ?_
 intro st hst
 obtain ⟨i, z⟩ := st
 dsimp only [zipE, setAll, List.cons_append, List.nil_append, List.set_cons_zero, List.set_cons_succ]
 obtain ⟨hi, hz, hzl⟩ := hst
 refine zQ (zG (zR 1 rfl (zN (zU (zQ ?_)))))
 refine cD rfl ?_ ?_ <;> intro hc0
 ·
  have hil : i < ps.length := by omega
  have hnx : szAdd n z (nth ps i) = (ps.take (i + 1)).foldl (szAdd n) (List.replicate n (⟨0, 0⟩ : Sz)) := by rw [take_nth hil, List.foldl_append, ← hz]; rfl
  have hnl : (szAdd n z (nth ps i)).length = n := by rw [szAdd_len]; exact hzl
  refine zK (zU (zQ (zB (zQ (zG ?_)))))
  refine yI ?_
  refine yD (r := by ((apply RS.rdD; assumption; ((try dsimp only) <;> omega)))) (k := ?_)
  refine zA fun b7 => ?_
  refine zE 0 ?_
  refine zN (zU (zQ (zQ (zG (zR 1 rfl ?_)))))
  refine yM 0 ?_
  refine zR 2 rfl ?_
  refine yP ?_
  refine yG (Rd.addC (Rd.blkC 0 rfl) _) ?_
  refine yP ?_
  refine yP ?_
  refine yO ?_
  refine zN (zU ?_)
  refine cC rfl ?_ ?_ <;> intro hc1
  ·try simp only [zk] at hc1
   have hsame : szAdd n z (nth ps i) = z := if_pos hc1
   refine zX ?_
   refine wx (zY (zU (zG ?_)))
   refine yA ?_
   refine zR 1 rfl (zN ?_)
   refine WE.again ((i + 1, szAdd n z (nth ps i))) (⟨by dsimp only; omega, hnx, hnl⟩) (by (try dsimp only); omega) ⟨rfl, rfl, rfl, rfl, rfl, rfl⟩ (RLe.refl _) (by dsimp only [setAll, List.set_cons_zero, List.set_cons_succ]; first | (rw [hsame]; exact qS) | (rw [← hfin]; exact qS))
  ·try simp only [zk] at hc1
   have hadd : szAdd n z (nth ps i) = szPut (szPre z (nth ps i)) (nth ps i) := if_neg (by omega)
   have hf0 : 0 ≤ (nth ps i).flow ∧ (nth ps i).flow < n := by omega
   have hfz : (nth ps i).flow.toNat < z.length := by omega
   refine zK (zU (zQ (zG (zR 2 rfl ?_))))
   refine yM 0 ?_
   refine yX ?_
   refine zR 1 rfl (zN (zU ?_))
   refine W.seqCut (β := List Sz) (fun z1 => z1 = szPre z (nth ps i)) (fun z1 => [(1, true, .int .i64 (n : Int)), (5, true, .slice (some ⟨a10, 0, none⟩) n n), (7, true, .pointer (some ⟨b7, 0, none⟩)), (8, true, .pointer (some (eaddr (some ⟨a10, 0, none⟩) 2 (nth ps i).flow.toNat))), (11, true, .slice pa ps.length pc), (12, true, .int .i64 (ps.length : Int)), (13, true, .int .i64 (i : Int))]) (fun _ => R) (fun z1 => .blk b7 (encP (nth ps i)) :: .sl 56 2 (some ⟨a10, 0, none⟩) n (z1.map encZ) :: E) ?_ ?_
   ·
    intro z1 hst
    have hst : z1 = szPre z (nth ps i) := hst
    have hl1 : z1.length = n := by rw [hst, szPre_len]; exact hzl
    have hns : nth (z1.set (nth ps i).flow.toNat (⟨(if (nth ps i).size < (nth z1 (nth ps i).flow.toNat).least then (nth ps i).size else (nth z1 (nth ps i).flow.toNat).least), (nth z1 (nth ps i).flow.toNat).most⟩ : Sz)) (nth ps i).flow.toNat = (⟨(if (nth ps i).size < (nth z1 (nth ps i).flow.toNat).least then (nth ps i).size else (nth z1 (nth ps i).flow.toNat).least), (nth z1 (nth ps i).flow.toNat).most⟩ : Sz) := nth_set_self (by omega)
    have hfin : (z1.set (nth ps i).flow.toNat (⟨(if (nth ps i).size < (nth z1 (nth ps i).flow.toNat).least then (nth ps i).size else (nth z1 (nth ps i).flow.toNat).least), (nth z1 (nth ps i).flow.toNat).most⟩ : Sz)).set (nth ps i).flow.toNat (⟨(if (nth ps i).size < (nth z1 (nth ps i).flow.toNat).least then (nth ps i).size else (nth z1 (nth ps i).flow.toNat).least), (if (nth z1 (nth ps i).flow.toNat).most < (nth ps i).size then (nth ps i).size else (nth z1 (nth ps i).flow.toNat).most)⟩ : Sz) = szAdd n z (nth ps i) := by rw [hadd, ← hst, List.set_set]; rfl
    refine W.regionH _ (ES := [.blk b7 (encP (nth ps i))]) mixed ?_
    refine tP 0 ?_
    refine tP 1 ?_
    refine tP 2 ?_
    refine tP 3 ?_
    refine tP 4 ?_
    refine tP 6 ?_
    refine tL 7 (Rd.add (Rd.blk 0 rfl) _) ?_
    refine tP 9 ?_
    refine tP 10 ?_
    refine tP 11 ?_
    refine tP 13 ?_
    refine tL 14 (Rd.add (Rd.blk 0 rfl) _) ?_
    refine WA.br2 (i := 5) (j := 12) qK ?_ ?_
    ·
     refine' WS.yl rfl rfl rfl qD (Yl.load1 tab_ok rfl rfl rfl (fun _ => rfl) ?r7 rfl ?h7) qS qR ?_
     case r7 => apply Rd.add; exact Rd.slD 1 rfl qO
     case h7 => rfl
     refine tP 8 ?_
     refine' WA.yl 12 rfl qK rfl rfl qD (Yl.load1 tab_ok rfl rfl rfl (fun _ => rfl) ?r8 rfl ?h8) qS qR ?_
     case r8 => apply Rd.add; exact Rd.slD 1 rfl (by (try rw [List.length_set]); omega)
     case h8 => rfl
     refine tP 15 ?_
     refine tP 16 ?_
     refine tP 17 ?_
     refine WA.effN 18 rfl qK rfl rfl (Ef.storeF (enc := encZ) (xs := z1) (⟨(if (nth ps i).size < (nth z1 (nth ps i).flow.toNat).least then (nth ps i).size else (nth z1 (nth ps i).flow.toNat).least), (nth z1 (nth ps i).flow.toNat).most⟩ : Sz) 1 tab_ok rfl rfl rfl rfl rfl qO rfl rfl qD rfl ?_)
     refine ⟨qR, qS, ?_⟩
     refine tP 19 ?_
     refine tP 20 ?_
     refine WA.effN 21 rfl (by kernel_rfl) rfl rfl (Ef.storeF (enc := encZ) (xs := z1.set (nth ps i).flow.toNat (⟨(if (nth ps i).size < (nth z1 (nth ps i).flow.toNat).least then (nth ps i).size else (nth z1 (nth ps i).flow.toNat).least), (nth z1 (nth ps i).flow.toNat).most⟩ : Sz)) (⟨(if (nth ps i).size < (nth z1 (nth ps i).flow.toNat).least then (nth ps i).size else (nth z1 (nth ps i).flow.toNat).least), (if (nth z1 (nth ps i).flow.toNat).most < (nth ps i).size then (nth ps i).size else (nth z1 (nth ps i).flow.toNat).most)⟩ : Sz) 1 tab_ok rfl rfl rfl rfl rfl (by rw [List.length_set]; omega) (by rw [hns]; rfl) rfl (by decide) rfl ?_)
     refine ⟨qR, qS, ?_⟩
     refine WA.done qK ?_
     refine zL (zU (zG ?_))
     refine yA ?_
     refine zR 1 rfl (zN ?_)
     refine WE.again ((i + 1, szAdd n z (nth ps i))) (⟨by dsimp only; omega, hnx, hnl⟩) (by (try dsimp only); omega) ⟨rfl, rfl, rfl, rfl, rfl, rfl⟩ (RLe.refl _) (by dsimp only [setAll, List.set_cons_zero, List.set_cons_succ]; first | (rw [hsame]; exact qS) | (rw [← hfin]; exact qS))
    ·
     refine' WS.yl rfl rfl rfl qD (Yl.load1 tab_ok rfl rfl rfl (fun _ => rfl) ?r9 rfl ?h9) qS qR ?_
     case r9 => apply Rd.add; exact Rd.slD 1 rfl (by (try rw [List.length_set]); omega)
     case h9 => rfl
     refine tP 15 ?_
     refine' WA.yl 5 rfl qK rfl rfl qD (Yl.load1 tab_ok rfl rfl rfl (fun _ => rfl) ?r10 rfl ?h10) qS qR ?_
     case r10 => apply Rd.add; exact Rd.slD 1 rfl qO
     case h10 => rfl
     refine tP 8 ?_
     refine tP 16 ?_
     refine tP 17 ?_
     refine WA.effN 18 rfl qK rfl rfl (Ef.storeF (enc := encZ) (xs := z1) (⟨(if (nth ps i).size < (nth z1 (nth ps i).flow.toNat).least then (nth ps i).size else (nth z1 (nth ps i).flow.toNat).least), (nth z1 (nth ps i).flow.toNat).most⟩ : Sz) 1 tab_ok rfl rfl rfl rfl rfl qO rfl rfl qD rfl ?_)
     refine ⟨qR, qS, ?_⟩
     refine tP 19 ?_
     refine tP 20 ?_
     refine WA.effN 21 rfl (by kernel_rfl) rfl rfl (Ef.storeF (enc := encZ) (xs := z1.set (nth ps i).flow.toNat (⟨(if (nth ps i).size < (nth z1 (nth ps i).flow.toNat).least then (nth ps i).size else (nth z1 (nth ps i).flow.toNat).least), (nth z1 (nth ps i).flow.toNat).most⟩ : Sz)) (⟨(if (nth ps i).size < (nth z1 (nth ps i).flow.toNat).least then (nth ps i).size else (nth z1 (nth ps i).flow.toNat).least), (if (nth z1 (nth ps i).flow.toNat).most < (nth ps i).size then (nth ps i).size else (nth z1 (nth ps i).flow.toNat).most)⟩ : Sz) 1 tab_ok rfl rfl rfl rfl rfl (by rw [List.length_set]; omega) (by rw [hns]; rfl) rfl (by decide) rfl ?_)
     refine ⟨qR, qS, ?_⟩
     refine WA.done qK ?_
     refine zL (zU (zG ?_))
     refine yA ?_
     refine zR 1 rfl (zN ?_)
     refine WE.again ((i + 1, szAdd n z (nth ps i))) (⟨by dsimp only; omega, hnx, hnl⟩) (by (try dsimp only); omega) ⟨rfl, rfl, rfl, rfl, rfl, rfl⟩ (RLe.refl _) (by dsimp only [setAll, List.set_cons_zero, List.set_cons_succ]; first | (rw [hsame]; exact qS) | (rw [← hfin]; exact qS))
   ·
    refine zQ (zG (zR 3 rfl ?_))
    refine yD (r := by apply Rd.add; exact Rd.slD 1 rfl qO) (k := ?_)
    refine zR 1 rfl (zN (zU ?_))
    refine cE rfl ?_ ?_ <;> intro hc2
    ·
     refine zG (zR 2 rfl ?_)
     refine yM 0 ?_
     refine zR 1 rfl ?_
     refine yM 0 ?_
     refine yW [(0, .tmp 37), (1, .tmp 39)] ?_
     refine zR 1 rfl ?_
     refine WL.efN rfl rfl (Ef.storeD (enc := encZ) (xs := z) (⟨(nth ps i).size, (nth ps i).size⟩ : Sz) 1 tab_ok rfl rfl rfl rfl rfl qO rfl rfl rfl rfl ?_)
     refine zN ?_
     refine WE.cut (z.set (nth ps i).flow.toNat ⟨(nth ps i).size, (nth ps i).size⟩) (show _ = szPre z (nth ps i) from by unfold szPre; rw [if_pos hc2]) ⟨rfl, rfl, rfl, rfl, rfl, rfl, rfl, rfl⟩ (RLe.refl _) qS
    ·
     refine zK ?_
     refine WE.cut z (show _ = szPre z (nth ps i) from by unfold szPre; rw [if_neg hc2]) ⟨rfl, rfl, rfl, rfl, rfl, rfl, rfl, rfl⟩ (RLe.refl _) qS
 ·
  obtain rfl : i = ps.length := by omega
  rw [List.take_length] at hz
  have hz2 : z = sizesL n ps := hz
  subst hz2
  refine zX ?_
  refine wx (wx (zY (zU (zQ (zG (zR 2 rfl (zN (zU (zT ?_)))))))))
  refine zr1 ?_
  exact ⟨some ⟨a10, 0, none⟩, n, by rw [hzl]; rfl, rfl, qS⟩

theorem Longer_C {R : Ro} {fa : Option Addr} {fc : Nat} {F : Nat → Int} {S P : Nat} {I : Int} (hf : FC F S P I) (ha : RS R 1 encI fa (fvals F (S + P))) {more times : Nat} (hmo : more ≤ 100) (hti : 1 ≤ times ∧ times ≤ 10) (w0 : World) (E : List Ent) : K.Fn Tryz.prog 48 [.agg #[.slice fa (fvals F (S + P)).length fc, .int .i64 (P : Int), .int .i64 I], .int .i64 (more : Int), .int .i64 (times : Int)] w0 R E (fun v R' E' => ∃ (f : Option Addr) (c : Nat), v = .agg #[.slice f (fvals F (S + more + P * times)).length c, .int .i64 ((P * times : Nat) : Int), .int .i64 (I * (times : Int))] ∧ RS R' 1 encI f (fvals F (S + more + P * times)) ∧ (fvals F (S + more + P * times)).length ≤ c ∧ E.Sublist E') := by
 have hfl := fvals_len F (S + P)
 have hP := hf.hP
 have hn := hf.hn
 have hI := hf.hI
 have hkb : (times - 1) * P ≤ 9 * 120 := Nat.mul_le_mul (by omega) (by omega)
 have hkb2 : P * times ≤ 120 * 10 := Nat.mul_le_mul (by omega) (by omega)
 have hkb3 : ((times : Int) - 1) * (P : Int) = (((times - 1) * P : Nat) : Int) := by rw [Int.natCast_mul, show ((times - 1 : Nat) : Int) = (times : Int) - 1 by omega]
 have hkb4 : (P : Int) * (times : Int) = ((P * times : Nat) : Int) := by rw [Int.natCast_mul]
 have hkb5 : S + P + (more + (times - 1) * P) = S + more + P * times := by
  obtain ⟨t', rfl⟩ : ∃ t', times = t' + 1 := ⟨times - 1, by omega⟩
  rw [Nat.add_sub_cancel, Nat.mul_add, Nat.mul_comm P t']; omega
 have hIt : 0 ≤ I * (times : Int) ∧ I * (times : Int) ≤ 1073741824 * 10 := ⟨Int.mul_nonneg (by omega) (by omega), Int.mul_le_mul (by omega) (by omega) (by omega) (by omega)⟩
 have hlast := hf.hb (S + P - 1) (by omega)
 have hbd := hf.bound
 have g1 : (((fvals F (S + P)).length : Int) == 0) = false := by rw [beq_eq_false_iff_ne]; omega
 have g2 : (nth (fvals F (S + P)) (((fvals F (S + P)).length : Int) - 1).toNat == 4611686018427387904) = false := by
  rw [show (((fvals F (S + P)).length : Int) - 1).toNat = S + P - 1 by omega, fvals_nth F (by omega), beq_eq_false_iff_ne]; omega
 have g3 : decide ((P : Int) < 1) = false := decide_eq_false (by omega)
 have g4 : decide ((P : Int) > ((fvals F (S + P)).length : Int)) = false := decide_eq_false (by omega)
 refine fE 87 Tryz.func48 ?_
 refine zQ (zG ?_)
 refine zO fun b3 => ?_
 refine zA fun b6 => ?_
 refine zN (zU ?_)
 refine W.seqCut (β := Nat × Option Addr × Nat) (fun (b7, a12, c12) => True) (fun (b7, a12, c12) => [(1, true, .int .i64 (more : Int)), (2, true, .int .i64 (times : Int)), (3, true, .pointer (some ⟨b3, 0, none⟩)), (6, true, .pointer (some ⟨b6, 0, none⟩)), (7, true, .pointer (some ⟨b7, 0, none⟩))]) (fun _ => R) (fun (b7, a12, c12) => .blk b7 [.slice a12 (fvals F (S + P)).length c12, .int .i64 (P : Int), .int .i64 I] :: .sl 3 1 a12 c12 ((fvals F (S + P)).map encI) :: .blk b6 [.slice none 0 0, .int .i64 0, .int .i64 0] :: .blk b3 [.slice fa (fvals F (S + P)).length fc, .int .i64 (P : Int), .int .i64 I] :: E) ?_ ?_
 ·
  intro st hst
  obtain ⟨b7, a12, c12⟩ := st
  dsimp only
  refine zQ (zQ (zG (zR 1 rfl ?_)))
  refine yM 3 ?_
  refine zR 3 rfl ?_
  refine WL.guardT rfl (by first | rfl | (simp only [g1, g2, g3]; done) | (simp only [g1, g2, g3]; rfl)) ?_
  refine yP ?_
  refine WL.guardT rfl (by first | rfl | (simp only [g1, g2, g3]; done) | (simp only [g1, g2, g3]; rfl)) ?_
  refine yM 3 ?_
  refine WL.guardT rfl (by first | rfl | (simp only [g1, g2, g3]; done) | (simp only [g1, g2, g3]; rfl)) ?_
  refine yP ?_
  refine WL.guardT rfl (by first | rfl | (simp only [g1, g2, g3]; done) | (simp only [g1, g2, g3]; rfl)) ?_
  refine yM 3 ?_
  refine WL.guardT rfl (by first | rfl | (simp only [g1, g2, g3]; done) | (simp only [g1, g2, g3]; rfl)) ?_
  refine yP ?_
  refine WL.guardT rfl (by first | rfl | (simp only [g1, g2, g3]; done) | (simp only [g1, g2, g3]; rfl)) ?_
  refine yS ?_
  refine WL.guardT rfl (by first | rfl | (simp only [g1, g2, g3]; done) | (simp only [g1, g2, g3]; rfl)) ?_
  refine yX ?_
  refine WL.guardT rfl (by first | rfl | (simp only [g1, g2, g3]; done) | (simp only [g1, g2, g3]; rfl)) ?_
  refine yD (r := by ((apply RS.rdD; assumption; ((try dsimp only) <;> omega)))) (k := ?_)
  refine WL.guardT rfl (by first | rfl | (simp only [g1, g2, g3]; done) | (simp only [g1, g2, g3]; rfl)) ?_
  refine yP ?_
  refine yO ?_
  refine zR 1 rfl ?_
  refine WL.guardT rfl (by first | rfl | (simp only [g1, g2, g3]; done) | (simp only [g1, g2, g3]; rfl)) ?_
  refine yP ?_
  refine WL.guardT rfl (by first | rfl | (simp only [g1, g2, g3]; done) | (simp only [g1, g2, g3]; rfl)) ?_
  refine yM 3 ?_
  refine WL.guardT rfl (by first | rfl | (simp only [g1, g2, g3]; done) | (simp only [g1, g2, g3]; rfl)) ?_
  refine yP ?_
  refine yO ?_
  refine zR 1 rfl ?_
  refine WL.guardT rfl (by first | rfl | (simp only [g1, g2, g3]; done) | (simp only [g1, g2, g3]; rfl)) ?_
  refine yP ?_
  refine WL.guardT rfl (by first | rfl | (simp only [g1, g2, g3]; done) | (simp only [g1, g2, g3]; rfl)) ?_
  refine yM 3 ?_
  refine WL.guardT rfl (by first | rfl | (simp only [g1, g2, g3]; done) | (simp only [g1, g2, g3]; rfl)) ?_
  refine yP ?_
  refine WL.guardT rfl (by first | rfl | (simp only [g1, g2, g3]; done) | (simp only [g1, g2, g3]; rfl)) ?_
  refine yM 3 ?_
  refine WL.guardT rfl (by first | rfl | (simp only [g1, g2, g3]; done) | (simp only [g1, g2, g3]; rfl)) ?_
  refine yP ?_
  refine WL.guardT rfl (by first | rfl | (simp only [g1, g2, g3]; done) | (simp only [g1, g2, g3]; rfl)) ?_
  refine yP ?_
  refine yO ?_
  refine zN (zU ?_)
  refine cC rfl ?_ ?_ <;> intro hc0
  ·try simp only [zk] at hc0
   rw [beq_eq_false_iff_ne] at g2
   rcases hc0 with ((h | h) | h) | h
   ·omega
   ·exact absurd h g2
   ·omega
   ·omega
  ·try simp only [zk] at hc0
   refine zK (zU (zQ (zQ (zG (zR 2 rfl ?_)))))
   refine yS ?_
   refine zR 1 rfl ?_
   refine yM 3 ?_
   refine yU ?_
   rw [hkb3]
   refine yA ?_
   rw [show (more : Int) + (((times - 1) * P : Nat) : Int) = (((more + (times - 1) * P) - 0 : Nat) : Int) by omega]
   refine zR 1 rfl (zN (zU (zB ?_)))
   refine W.loopK (β := Nat × Option Addr × Nat) (fun (i, a12, c12) => i ≤ (more + (times - 1) * P)) (fun (i, a12, c12) => [(8, true, .int .i64 (((more + (times - 1) * P) - i : Nat) : Int))]) [2, 3, 6, 7] [_, _, _, _] [] _ rfl (fun (i, a12, c12) => [(0, .blk b7 [.slice a12 (fvals F (S + P + i)).length c12, .int .i64 (P : Int), .int .i64 I]), (1, .sl 3 1 a12 c12 ((fvals F (S + P + i)).map encI))]) (fun (i, a12, c12) => (more + (times - 1) * P) - i) ((0, a12, c12)) (Nat.zero_le _) ⟨rfl, rfl, rfl, rfl, rfl, rfl⟩ qS ?_
   intro st hst
   obtain ⟨i, a12, c12⟩ := st
   dsimp only [zipE, setAll, List.cons_append, List.nil_append, List.set_cons_zero, List.set_cons_succ]
   refine zQ (zQ (zG (zR 2 rfl (zN (zU ?_)))))
   refine cD rfl ?_ ?_ <;> intro hc1
   ·
    have hil : i < more + (times - 1) * P := by omega
    have hvl : (fvals F (S + P + i)).length = S + P + i := fvals_len F _
    have hnx : nth (fvals F (S + P + i)) ((((fvals F (S + P + i)).length : Int) - (P : Int)).toNat) + I = F (S + P + i) := by
     rw [show (((fvals F (S + P + i)).length : Int) - (P : Int)).toNat = S + i by omega, fvals_nth F (by omega), ← hf.hg (S + i) (by omega)]
     congr 1; omega
    have hb9 := hbd (S + P + i)
    have hb8 := hbd (S + i)
    have hn8 := hf.nonneg (S + i)
    have hv8 : nth (fvals F (S + P + i)) ((((fvals F (S + P + i)).length : Int) - (P : Int)).toNat) = F (S + i) := by
     rw [show (((fvals F (S + P + i)).length : Int) - (P : Int)).toNat = S + i by omega, fvals_nth F (by omega)]
    have e1 : fvals F (S + P + (i + 1)) = fvals F (S + P + i) ++ [nth (fvals F (S + P + i)) ((((fvals F (S + P + i)).length : Int) - (P : Int)).toNat) + I] := by rw [hnx]; exact fvals_snoc F _
    refine zK (zU (zQ (zB ?_)))
    refine W.regionD _ [.blk b3 [.slice fa (fvals F (S + P)).length fc, .int .i64 (P : Int), .int .i64 I]] [.blk b7 [.slice a12 (fvals F (S + P + i)).length c12, .int .i64 (P : Int), .int .i64 I], .blk b3 [.slice fa (fvals F (S + P)).length fc, .int .i64 (P : Int), .int .i64 I]] [18] mixed ?_
    refine vP 0 ?_
    refine vD 1 (r := by apply Rd.add; (exact Rd.blk 0 rfl)) (k := ?_)
    refine vP 2 ?_
    refine vD 3 (r := by apply Rd.add; (exact Rd.blk 0 rfl)) (k := ?_)
    refine vP 4 ?_
    refine vD 5 (r := by apply Rd.add; (exact Rd.blk 0 rfl)) (k := ?_)
    refine vP 6 ?_
    refine vP 7 ?_
    refine vD 8 (r := by apply Rd.add; (exact Rd.blk 1 rfl)) (k := ?_)
    refine VA.take2 9 rfl qK qK qK rfl qK qK rfl rfl qD (Yl.sub rfl rfl rfl (fun _ => rfl) qA) qS qR qS ?_
    refine vP 12 ?_
    refine vD 13 (r := by apply Rd.add; (exact Rd.blk 1 rfl)) (k := ?_)
    refine VA.one (i := 10) qK ?_
    refine VS.yl rfl rfl rfl qD (Yl.index tab_ok rfl rfl rfl rfl rfl rfl (fun _ => rfl) qA qH) qS qR (fun _ => qS) ?_
    refine VA.one (i := 11) qK ?_
    refine' VS.yl rfl rfl rfl qD (Yl.load1 tab_ok rfl rfl rfl (fun _ => rfl) ?r14 rfl ?h14) qS qR (fun _ => qS) ?_
    case r14 => (exact Rd.slD 1 rfl qX)
    case h14 => rfl
    refine VA.take2 14 rfl qK qK qK rfl qK qK rfl rfl qD (Yl.add rfl rfl rfl (fun _ => rfl) qA) qS qR qS ?_
    refine VA.one (i := 15) qK ?_
    refine VS.eff rfl rfl rfl qD (Ef.buildSliceD (enc := encI) (parts := [.tmp 72]) [_] tab_ok rfl rfl rfl rfl rfl rfl rfl rfl qD qD (fun a73 => ?_))
    refine ⟨by first | exact RLe.refl _ | assumption, qS, (fun _ => qS), ?_⟩
    refine VA.one (i := 16) qK ?_
    refine VS.eff rfl rfl rfl (by decide) (Ef.appendD 2 0 tab_ok rfl rfl rfl rfl rfl rfl rfl rfl rfl rfl rfl (fun _ _ => rfl) (by simp only [List.length_cons, List.length_nil]; omega) (by simp only [List.length_cons, List.length_nil]; omega) (fun a74 c74 ha74 => ?_))
    refine ⟨by first | exact RLe.refl _ | assumption, qS, (fun _ => qS), ?_⟩
    refine vP 17 ?_
    refine VA.one (i := 18) qK ?_
    refine VS.effN rfl rfl rfl (Ef.store 1 tab_ok rfl rfl rfl rfl rfl rfl rfl rfl ?_)
    refine ⟨by first | exact RLe.refl _ | assumption, qS, (noD qK), ?_⟩
    refine VA.done qK ?_
    refine zL (zU (zG (zR 1 rfl ?_)))
    refine yS ?_
    rw [show (((more + (times - 1) * P) - i : Nat) : Int) - 1 = (((more + (times - 1) * P) - (i + 1) : Nat) : Int) by omega]
    refine zR 1 rfl (zN ?_)
    refine WE.again ((i + 1, a74, c74)) (by dsimp only; omega) (by (try dsimp only); omega) ⟨rfl, rfl, rfl, rfl, rfl, rfl⟩ (RLe.refl _) (by dsimp only [setAll, List.set_cons_zero, List.set_cons_succ]; rw [e1, List.length_append]; exact qS)
   ·
    obtain rfl : i = more + (times - 1) * P := by omega
    rw [hkb5]
    refine W.cap 1 rfl ?_
    intro hcp
    rw [List.length_map] at hcp
    refine W.freeze (enc := encI) (xs := fvals F (S + more + P * times)) 1 rfl ?_
    intro R1 hR1 hff
    refine zX ?_
    refine wx (wx (zY (zU (zQ ?_))))
    refine W.regionH _ (ES := [.blk b3 [.slice fa (fvals F (S + P)).length fc, .int .i64 (P : Int), .int .i64 I]]) mixed ?_
    refine tP 0 ?_
    refine tL 1 (Rd.add (Rd.blk 0 rfl) _) ?_
    refine tP 2 ?_
    refine WA.take 3 rfl qK qK qK rfl rfl qD (Yl.mul rfl rfl rfl (fun _ => rfl) qA) qS qR ?_
    refine tP 4 ?_
    refine tL 5 (Rd.add (Rd.blk 0 rfl) _) ?_
    refine tP 6 ?_
    refine WA.take 7 rfl qK qK qK rfl rfl qD (Yl.mul rfl rfl rfl (fun _ => rfl) qA) qS qR ?_
    refine tP 8 ?_
    refine zCF 9 0 ?_
    refine tP 10 ?_
    refine zCF 11 0 ?_
    refine WA.done qK ?_
    refine zU (zQ (zG ?_))
    refine yB 0 ?_
    refine zE 1 ?_
    refine zN (zU (zT ?_))
    refine zq3 (by first | exact hR1 | exact RLe.refl _) ?_
    exact ⟨a12, c12, by rw [← hkb4]; rfl, hff, hcp, qS⟩
 ·
  refine W.regionH _ (ES := [.blk b3 [.slice fa (fvals F (S + P)).length fc, .int .i64 (P : Int), .int .i64 I]]) mixed ?_
  refine tP 1 ?_
  refine tL 2 (Rd.add (Rd.blk 0 rfl) _) ?_
  refine tP 4 ?_
  refine tL 5 (Rd.add (Rd.blk 0 rfl) _) ?_
  refine tP 6 ?_
  refine tL 7 (Rd.add (Rd.blk 0 rfl) _) ?_
  refine WA.br2 (i := 0) (j := 9) qK ?_ ?_
  ·
   refine WS.eff rfl rfl rfl qD (Ef.buildSliceD (enc := encI) (parts := []) [] tab_ok rfl rfl rfl rfl rfl rfl rfl rfl qD qD (fun a9 => ?_))
   refine ⟨qR, qS, ?_⟩
   refine WA.br2 (i := 3) (j := 9) qK ?_ ?_
   ·
    refine WS.eff rfl rfl rfl qD (Ef.cloneL (enc := encI) 0 tab_ok rfl rfl rfl rfl rfl rfl rfl rfl rfl rfl ha (fun _ _ => rfl) (by dsimp only; omega) qO (fun a12 c12 ha12 => ?_))
    refine ⟨qR, qS, ?_⟩
    refine WA.take 8 rfl qK qK qK rfl rfl qD (Yl.build (parts := [(0, .tmp 12), (1, .tmp 14), (2, .tmp 16)]) tab_ok rfl rfl rfl rfl (fun _ => rfl) rfl rfl) qS qR ?_
    refine WA.eff 9 rfl qK rfl rfl qD (Ef.alloc tab_ok rfl rfl (fun b7 => ?_))
    refine ⟨qR, qS, ?_⟩
    refine zCE 10 0 ?_
    refine WA.done qK ?_
    refine WE.cutP (b7, a12, c12) trivial ⟨rfl, rfl, rfl, rfl, rfl, rfl⟩ (RLe.refl _) (by dsimp only; first | exact List.Perm.refl _ | exact List.Perm.swap _ _ _)
   ·
    refine WS.eff rfl rfl rfl qD (Ef.alloc tab_ok rfl rfl (fun b7 => ?_))
    refine ⟨qR, qS, ?_⟩
    refine WA.eff 3 rfl qK rfl rfl qD (Ef.cloneL (enc := encI) 1 tab_ok rfl rfl rfl rfl rfl rfl rfl rfl rfl rfl ha (fun _ _ => rfl) (by dsimp only; omega) qO (fun a12 c12 ha12 => ?_))
    refine ⟨qR, qS, ?_⟩
    refine WA.take 8 rfl qK qK qK rfl rfl qD (Yl.build (parts := [(0, .tmp 12), (1, .tmp 14), (2, .tmp 16)]) tab_ok rfl rfl rfl rfl (fun _ => rfl) rfl rfl) qS qR ?_
    refine zCE 10 0 ?_
    refine WA.done qK ?_
    refine WE.cutP (b7, a12, c12) trivial ⟨rfl, rfl, rfl, rfl, rfl, rfl⟩ (RLe.refl _) (by dsimp only; first | exact List.Perm.refl _ | exact List.Perm.swap _ _ _)
  ·
   refine WS.eff rfl rfl rfl qD (Ef.alloc tab_ok rfl rfl (fun b7 => ?_))
   refine ⟨qR, qS, ?_⟩
   refine WA.eff 0 rfl qK rfl rfl qD (Ef.buildSliceD (enc := encI) (parts := []) [] tab_ok rfl rfl rfl rfl rfl rfl rfl rfl qD qD (fun a9 => ?_))
   refine ⟨qR, qS, ?_⟩
   refine WA.eff 3 rfl qK rfl rfl qD (Ef.cloneL (enc := encI) 0 tab_ok rfl rfl rfl rfl rfl rfl rfl rfl rfl rfl ha (fun _ _ => rfl) (by dsimp only; omega) qO (fun a12 c12 ha12 => ?_))
   refine ⟨qR, qS, ?_⟩
   refine WA.take 8 rfl qK qK qK rfl rfl qD (Yl.build (parts := [(0, .tmp 12), (1, .tmp 14), (2, .tmp 16)]) tab_ok rfl rfl rfl rfl (fun _ => rfl) rfl rfl) qS qR ?_
   refine zCE 10 1 ?_
   refine WA.done qK ?_
   refine WE.cutP (b7, a12, c12) trivial ⟨rfl, rfl, rfl, rfl, rfl, rfl⟩ (RLe.refl _) (by dsimp only; first | exact List.Perm.refl _ | exact List.Perm.swap _ _ _)
theorem LongerV_C {R : Ro} {fa : Option Addr} {fc : Nat} {c : Cv} (hs : SmallC c) (hfin : finB c = true) (h1 : c.vals.length ≤ 20) (h2 : c.per ≤ 4) (h3 : c.inc ≤ 50) (h4 : ∀ x ∈ c.vals, x ≤ 200) (ha : RS R 1 encI fa c.vals) {mi ti : Int} (hm : 0 ≤ mi ∧ mi ≤ 3) (ht : 1 ≤ ti ∧ ti ≤ 2) (w0 : World) (E : List Ent) : K.Fn Tryz.prog 48 [.agg #[.slice fa c.vals.length fc, .int .i64 c.per, .int .i64 c.inc], .int .i64 mi, .int .i64 ti] w0 R E (fun v R' E' => ∃ (f : Option Addr) (fc : Nat) (cv : Cv), v = .agg #[.slice f cv.vals.length fc, .int .i64 cv.per, .int .i64 cv.inc] ∧ RS R' 1 encI f cv.vals ∧ SmallC cv ∧ finB cv = true ∧ cv.vals.length ≤ fc ∧ E.Sublist E') := by
 obtain ⟨more, rfl⟩ := Int.eq_ofNat_of_zero_le hm.1
 obtain ⟨times, rfl⟩ := Int.eq_ofNat_of_zero_le (show 0 ≤ ti by omega)
 rcases valid_cases hs.valid with ⟨S, P, e, hl, hp, hfc, _⟩ | ⟨_, _, _, _, _, _, _, hf⟩
 ·generalize cvF c = G at e hfc
  have hP := hfc.hP
  have hb : ∀ t, t < S + P → G t ≤ 200 := fun t htl => by
   have := h4 (nth c.vals t) (nth_mem (by omega))
   rw [e, fvals_nth G htl] at this
   exact this
  have hsl := small_longer hfc (by omega) (by omega) (by omega) hb (show more ≤ 3 by omega) (show 1 ≤ times ∧ times ≤ 2 by omega)
  have hfl : finB ⟨fvals G (S + more + P * times), ((P * times : Nat) : Int), c.inc * (times : Int)⟩ = true := by
   unfold finB
   have e0 : P ≤ P * times := by have := Nat.mul_le_mul_left P (show 1 ≤ times by omega); omega
   have e1 : P * times ≤ 2 * P := by have := Nat.mul_le_mul_left P (show times ≤ 2 by omega); omega
   dsimp only
   rw [fvals_len, fvals_nth G (by omega), bne_iff_ne]
   have := hfc.bound (S + more + P * times - 1)
   have := hfc.hn
   unfold INF
   omega
  have ev : c.vals = fvals G (S + P) := congrArg Cv.vals e
  rw [ev] at ha
  rw [ev, hp]
  refine K.Fn.mono (Longer_C hfc ha (more := more) (times := times) qO qO w0 E) ?_
  rintro v R' E' - ⟨f, fc', rfl, hff, hcp, hsub⟩
  exact ⟨f, fc', _, rfl, hff, hsl, hfl, hcp, hsub⟩
 ·rw [hfin] at hf; cases hf

set_option maxHeartbeats 4000000 in
theorem KCurve_C {R : Ro} {b : Nat} {a : Option Addr} {cp : Nat} {xs : List Int} {c : Nat} (w0 : World) (ha : RS R 1 encI a xs) {most : Nat} (hmo : 1 ≤ most ∧ most ≤ 20) : FnAt Tryz.prog 28 [.pointer (some ⟨b, 0, none⟩), .int .i64 (most : Int)] w0 R (srcE b a cp xs c) (fun v R' e' N => ∃ (f : Option Addr) (fc cn : Nat) (cv : Cv), v = .agg #[.slice f cv.vals.length fc, .int .i64 cv.per, .int .i64 cv.inc] ∧ RS R' 1 encI f cv.vals ∧ SmallC cv ∧ cv.vals.length ≤ fc ∧ e' = srcE b a cp xs cn ∧ N = []) := by
 intro F
 have hm0 := mod_range (nth xs c) (show (1 : Int) ≤ (most : Int) by omega)
 obtain ⟨n, hn⟩ := Int.eq_ofNat_of_zero_le (show 0 ≤ 1 + mod (nth xs c) (most : Int) by omega)
 have hn20 : 1 ≤ n ∧ n ≤ 20 := by omega
 refine fE 77 Tryz.func28 ?_
 refine zQ (zG ?_)
 refine zA fun b4 => ?_
 refine zN (zU (zQ (zG (zR 2 rfl ?_))))
 refine WL.callAt 1 en13 rfl rfl qD (CallOp.mkT rfl rfl rfl rfl) rfl (N_C w0 ha (by constructor <;> omega) _) ?_
 rintro _ _ _ _ - ⟨rfl, rfl, rfl, rfl⟩
 refine yA ?_
 rw [hn]
 refine zR 1 rfl (zN (zU (zQ (zG (zR 3 rfl ?_)))))
 refine WL.callAt 1 en13 rfl rfl qD (CallOp.mkT rfl rfl rfl rfl) rfl (N_C w0 ha (by constructor <;> split <;> omega) _) ?_
 rintro _ _ _ _ - ⟨rfl, rfl, rfl, rfl⟩
 have hm1 := mod_range (nth xs (c + 1)) (show (1 : Int) ≤ (if (4 : Int) < (n : Int) then 4 else (n : Int)) by split <;> omega)
 obtain ⟨P, hP⟩ := Int.eq_ofNat_of_zero_le (show 0 ≤ 1 + mod (nth xs (c + 1)) (if (4 : Int) < (n : Int) then 4 else (n : Int)) by omega)
 have hP4 : 1 ≤ P ∧ P ≤ 4 ∧ P ≤ n := by generalize mod (nth xs (c + 1)) (if (4 : Int) < (n : Int) then 4 else (n : Int)) = q at hm1 hP; split at hm1 <;> omega
 refine yA ?_
 rw [hP]
 refine yW [(1, .tmp 17)] ?_
 refine zA fun b6 => ?_
 refine zE 0 ?_
 refine zN (zU (zQ (zG (zR 1 rfl ?_))))
 refine WL.ef rfl rfl qD (Ef.buildSliceD (enc := encI) (parts := [.const (.int .i64 0), .const (.int .i64 0), .const (.int .i64 0), .const (.int .i64 3)]) [_, _, _, _] tab_ok rfl rfl rfl rfl rfl rfl rfl rfl qD qD (fun a20 => ?_))
 refine WL.callAt 3 en15 rfl rfl qD (CallOp.mkT rfl rfl rfl rfl) rfl (PickM_C (j := 0) w0 ([0, 0, 0, 3] : List Int) rfl qD qD ha rfl) ?_
 rintro _ _ _ _ - ⟨rfl, rfl, rfl, rfl⟩
 obtain ⟨v0, hv0⟩ : ∃ v, nth ([0, 0, 0, 3] : List Int) (mod (nth xs (c + 1 + 1)) ((4 : Nat) : Int)).toNat = v := ⟨_, rfl⟩
 have hv03 : 0 ≤ v0 ∧ v0 ≤ 3 := by
  have hm2 := mod_range (nth xs (c + 1 + 1)) (show (1 : Int) ≤ ((4 : Nat) : Int) by decide)
  rw [← hv0]
  exact nth_in (by decide) (by simp only [List.length_cons, List.length_nil]; omega)
 rw [hv0]
 refine zR 1 rfl (zN (zU (zQ ?_)))
 refine W.nil 3 1 qD ?_
 refine zQ (zG (zR 1 rfl (zN (zU (zB ?_)))))
 refine W.loopK (β := Nat × Option Addr × Nat) (fun (i, a8, c8) => i ≤ n) (fun (i, a8, c8) => [(7, true, .int .i64 ((upV xs (c + 3) v0) i)), (8, true, .int .i64 (i : Int))]) [0, 4, 5, 6] [_, _, _, _] [] _ rfl (fun (i, a8, c8) => [(0, .sl 3 1 a8 c8 ((fvals (upV xs (c + 3) v0) i).map encI)), (2, .blk b6 [.slice a8 (fvals (upV xs (c + 3) v0) i).length c8, .int .i64 (P : Int), .int .i64 0]), (4, srcE b a cp xs (c + 3 + i))]) (fun (i, a8, c8) => n - i) ((0, none, 0)) (Nat.zero_le _) ⟨rfl, rfl, rfl, rfl, rfl, rfl, rfl⟩ qS ?_
 intro st hst
 obtain ⟨i, a8, c8⟩ := st
 have hUb := upV_bound xs (c + 3) v0 i
 have hUl := fvals_len (upV xs (c + 3) v0) i
 refine zQ (zQ (zG (zR 3 rfl (zN (zU ?_)))))
 refine cD rfl ?_ ?_ <;> intro hc0
 ·
  have hil : i < n := by omega
  have hpk : 0 ≤ nth ([0, 0, 1, 2, 5, 9] : List Int) (mod (nth xs (c + 3 + i)) ((6 : Nat) : Int)).toNat ∧ nth ([0, 0, 1, 2, 5, 9] : List Int) (mod (nth xs (c + 3 + i)) ((6 : Nat) : Int)).toNat ≤ 9 := by
   have hm2 := mod_range (nth xs (c + 3 + i)) (show (1 : Int) ≤ ((6 : Nat) : Int) by decide)
   exact nth_in (by decide) (by simp only [List.length_cons, List.length_nil]; omega)
  refine zK (zU (zQ (zB (zQ (zG (zR 1 rfl ?_))))))
  refine yM 2 ?_
  refine zR 1 rfl ?_
  refine WL.ef rfl rfl qD (Ef.buildSliceD (enc := encI) (parts := [.tmp 29]) [_] tab_ok rfl rfl rfl rfl rfl rfl rfl rfl qD qD (fun a30 => ?_))
  refine WL.ef rfl rfl (by decide) (Ef.appendD 1 0 tab_ok rfl rfl rfl rfl rfl rfl rfl rfl rfl rfl rfl (fun _ _ => rfl) (by simp only [List.length_cons, List.length_nil]; omega) (by simp only [List.length_cons, List.length_nil]; omega) (fun a31 c31 ha31 => ?_))
  refine zR 1 rfl ?_
  refine zF 3 ?_
  refine zN (zU (zG (zR 2 rfl ?_)))
  refine WL.ef rfl rfl qD (Ef.buildSliceD (enc := encI) (parts := [.const (.int .i64 0), .const (.int .i64 0), .const (.int .i64 1), .const (.int .i64 2), .const (.int .i64 5), .const (.int .i64 9)]) [_, _, _, _, _, _] tab_ok rfl rfl rfl rfl rfl rfl rfl rfl qD qD (fun a35 => ?_))
  refine WL.callAt 6 en15 rfl rfl qD (CallOp.mkT rfl rfl rfl rfl) rfl (PickM_C (j := 0) w0 ([0, 0, 1, 2, 5, 9] : List Int) rfl qD qD ha rfl) ?_
  rintro _ _ _ _ - ⟨rfl, rfl, rfl, rfl⟩
  refine yA ?_
  refine zR 1 rfl (zN (zL (zU (zG (zR 1 rfl ?_)))))
  refine yA ?_
  refine zR 1 rfl (zN ?_)
  refine WE.again ((i + 1, a31, c31)) (by dsimp only; omega) (by (try dsimp only); omega) ⟨rfl, rfl, rfl, rfl, rfl, rfl, rfl⟩ (RLe.refl _) (by dsimp only [setAll, List.set_cons_zero, List.set_cons_succ]; rw [fvals_snoc, List.length_append]; exact qS)
 ·
  obtain hin : i = n := by omega
  rw [hin] at hUb hUl ⊢
  have hVl : (fvals (upV xs (c + 3) v0) n).length = n := hUl
  have hx1 : nth (fvals (upV xs (c + 3) v0) n) ((n : Int) - 1).toNat = (upV xs (c + 3) v0) (n - 1) := by rw [show ((n : Int) - 1).toNat = n - 1 by omega, fvals_nth _ (by omega)]
  have hx2 : nth (fvals (upV xs (c + 3) v0) n) ((n : Int) - (P : Int)).toNat = (upV xs (c + 3) v0) (n - P) := by rw [show ((n : Int) - (P : Int)).toNat = n - P by omega, fvals_nth _ (by omega)]
  have hgap := upV_gap xs (c + 3) v0 (n - P) (P - 1)
  rw [show n - P + (P - 1) = n - 1 by omega] at hgap
  have hmo2 := upV_mono xs (c + 3) v0 (show n - P ≤ n - 1 by omega)
  have hb1 := upV_bound xs (c + 3) v0 (n - 1)
  have hb2 := upV_bound xs (c + 3) v0 (n - P)
  have hpi : 0 ≤ nth ([0, 0, 1, 3, 4, 8] : List Int) (mod (nth xs (c + 3 + n)) ((6 : Nat) : Int)).toNat ∧ nth ([0, 0, 1, 3, 4, 8] : List Int) (mod (nth xs (c + 3 + n)) ((6 : Nat) : Int)).toNat ≤ 8 := by
   have hm2 := mod_range (nth xs (c + 3 + n)) (show (1 : Int) ≤ ((6 : Nat) : Int) by decide)
   exact nth_in (by decide) (by simp only [List.length_cons, List.length_nil]; omega)
  refine zX ?_
  refine wx (wx (zY (zU ?_)))
  refine W.seqCut (β := Int) (fun I => 0 ≤ I ∧ (upV xs (c + 3) v0) (n - 1) - (upV xs (c + 3) v0) (n - P) ≤ I ∧ I ≤ 50) (fun I => [(0, true, .pointer (some ⟨b, 0, none⟩)), (4, true, .pointer (some ⟨b4, 0, none⟩)), (6, true, .pointer (some ⟨b6, 0, none⟩))]) (fun _ => R) (fun I => .sl 3 1 a8 c8 ((fvals (upV xs (c + 3) v0) n).map encI) :: .blk b6 [.slice a8 (fvals (upV xs (c + 3) v0) n).length c8, .int .i64 (P : Int), .int .i64 I] :: .blk b4 [.slice none 0 0, .int .i64 0, .int .i64 0] :: srcE b a cp xs (c + 3 + n + 1) :: F) ?_ ?_
  ·
   intro I hst
   obtain ⟨hI0, hI1, hI2⟩ := hst
   refine zQ (zQ (zG (zR 1 rfl ?_)))
   refine WL.callAt 3 en13 rfl rfl qD (CallOp.mkT rfl rfl rfl rfl) rfl (N_C w0 ha (by constructor <;> omega) _) ?_
   rintro _ _ _ _ - ⟨rfl, rfl, rfl, rfl⟩
   refine zN (zU (zB (zQ (zG (zR 2 rfl (zN (zU ?_)))))))
   refine cE rfl ?_ ?_ <;> intro hc1
   ·
    refine zG (zR 1 rfl ?_)
    refine yM 1 ?_
    refine WL.ef rfl rfl qD (Ef.buildSliceD (enc := encI) (parts := [.const (.int .i64 4611686018427387904)]) [_] tab_ok rfl rfl rfl rfl rfl rfl rfl rfl qD qD (fun a64 => ?_))
    refine WL.ef rfl rfl (by decide) (Ef.appendD 1 0 tab_ok rfl rfl rfl rfl rfl rfl rfl rfl rfl rfl rfl (fun _ _ => rfl) (by simp only [List.length_cons, List.length_nil]; omega) (by simp only [List.length_cons, List.length_nil]; omega) (fun a65 c65 ha65 => ?_))
    refine yW [(0, .tmp 65), (1, .const (.int .i64 1))] ?_
    refine zE 2 ?_
    refine WL.cap 1 rfl ?_
    intro hcp
    rw [List.length_map] at hcp
    refine WL.freeze (enc := encI) (xs := (fvals (upV xs (c + 3) v0) n) ++ [4611686018427387904]) 1 rfl ?_
    intro R1 hR1 hfz
    have hsm := small_inf (F := (upV xs (c + 3) v0)) (n := n) (by omega) (by have := upV_bound xs (c + 3) v0 0; omega) (fun t => (upV_step xs (c + 3) v0 t).1) (fun t ht => by have := upV_bound xs (c + 3) v0 t; omega)
    refine zN (zL (zU (zQ (zG ?_))))
    refine yB 1 ?_
    refine zE 2 ?_
    refine zN (zU (zT ?_))
    refine WE.retFS (E' := srcE b a cp xs (c + 3 + n + 1 + 1) :: F) qS tab_ok [_] rfl ⟨⟨_, _, _, rfl, rfl, rfl, qB, rfl⟩, trivial⟩ ((by first | exact hR1 | exact hR1.trans hRL)) ?_
    exact ⟨_, [], rfl, _, _, _, ⟨(fvals (upV xs (c + 3) v0) n) ++ [4611686018427387904], 1, 0⟩, rfl, hfz, hsm, hcp, rfl, rfl⟩
   ·
    refine zQ (zG (zR 2 rfl (zN (zU ?_))))
    refine cE rfl ?_ ?_ <;> intro hc2
    ·
     refine W.cap 0 rfl ?_
     intro hcp
     rw [List.length_map] at hcp
     refine W.freeze (enc := encI) (xs := (fvals (upV xs (c + 3) v0) n)) 0 rfl ?_
     intro R1 hR1 hfz
     have hsm := small_fin (F := (upV xs (c + 3) v0)) (n := n) (P := (P : Int)) (I := I) hn20 (by omega) (by omega) (by have := upV_bound xs (c + 3) v0 0; omega) (fun t => (upV_step xs (c + 3) v0 t).1) (fun t ht => by have := upV_bound xs (c + 3) v0 t; omega) (by rw [Int.toNat_natCast]; omega)
     have ha1 := ha.mono hR1
     have hmm1 := mod_range (nth xs (c + 3 + n + 1 + 1)) (show (1 : Int) ≤ 4 by decide)
     have hmm2 := mod_range (nth xs (c + 3 + n + 1 + 1 + 1)) (show (1 : Int) ≤ 2 by decide)
     have hfb : finB (⟨(fvals (upV xs (c + 3) v0) n), (P : Int), I⟩ : Cv) = true := by
      unfold finB
      have := upV_bound xs (c + 3) v0 (n - 1)
      dsimp only
      rw [fvals_len, fvals_nth _ (by omega), bne_iff_ne]
      unfold INF; omega
     have hv200 : ∀ x ∈ (⟨(fvals (upV xs (c + 3) v0) n), (P : Int), I⟩ : Cv).vals, x ≤ 200 := all_of_nth (fun j hj => by
      have hj2 : j < n := by rw [hVl] at hj; exact hj
      have := upV_bound xs (c + 3) v0 j
      show nth (fvals (upV xs (c + 3) v0) n) j ≤ 200
      rw [fvals_nth _ hj2]; omega)
     refine W.regionH _ (ES := []) mixed ?_
     refine tP 1 ?_
     refine tP 3 ?_
     refine WA.br2 (i := 0) (j := 2) qK ?_ ?_
     ·
      refine sL (Rd.blk 0 rfl) ?_
      refine WA.callAt 2 2 rfl qK en13 rfl rfl qD (CallOp.mkT rfl rfl rfl rfl) rfl (N_C w0 ha1 (by constructor <;> omega) _) ?_
      rintro _ _ _ _ - ⟨rfl, rfl, rfl, rfl⟩
      refine ⟨RLe.refl _, qS, ?_⟩
      refine WA.callAt 2 4 rfl qK en13 rfl rfl qD (CallOp.mkT rfl rfl rfl rfl) rfl (N_C w0 ha1 (by constructor <;> omega) _) ?_
      rintro _ _ _ _ - ⟨rfl, rfl, rfl, rfl⟩
      refine ⟨RLe.refl _, qS, ?_⟩
      refine tA 5 ?_
      refine WA.callG 6 rfl qK en48 rfl (by first | rfl | decide) rfl qD (CallOp.mkT rfl rfl rfl rfl) (LongerV_C (c := (⟨(fvals (upV xs (c + 3) v0) n), (P : Int), I⟩ : Cv)) hsm hfb (by show (fvals (upV xs (c + 3) v0) n).length ≤ 20; omega) (by show (P : Int) ≤ 4; omega) (by show I ≤ 50; omega) hv200 hfz qO qO w0 _) ?_
      rintro _ RL EL hRL ⟨fl, flc, cl, rfl, hfl, hsl, hfl2, hcl, hsubL⟩
      refine ⟨hRL, List.nil_sublist _, ?_⟩
      refine WA.subE hsubL ?_
      refine zCE 7 0 ?_
      refine WA.done qK ?_
      refine zL (zU (zQ (zG ?_)))
      refine yB 0 ?_
      refine zE 1 ?_
      refine zN (zU (zT ?_))
      refine WE.retFS (E' := srcE b a cp xs (c + 3 + n + 1 + 1 + 1 + 1) :: F) qS tab_ok [_] rfl ⟨⟨_, _, _, rfl, rfl, rfl, qB, rfl⟩, trivial⟩ ((by first | exact hR1 | exact hR1.trans hRL)) ?_
      exact ⟨_, [], rfl, fl, flc, _, cl, rfl, hfl, hsl, hcl, rfl, rfl⟩
     ·
      refine WS.callAt 2 rfl en13 rfl rfl qD (CallOp.mkT rfl rfl rfl rfl) rfl (N_C w0 ha1 (by constructor <;> omega) _) ?_
      rintro _ _ _ _ - ⟨rfl, rfl, rfl, rfl⟩
      refine ⟨qR, qS, ?_⟩
      refine WA.br2 (i := 0) (j := 4) qK ?_ ?_
      ·
       refine sL (Rd.blk 0 rfl) ?_
       refine WA.callAt 2 4 rfl qK en13 rfl rfl qD (CallOp.mkT rfl rfl rfl rfl) rfl (N_C w0 ha1 (by constructor <;> omega) _) ?_
       rintro _ _ _ _ - ⟨rfl, rfl, rfl, rfl⟩
       refine ⟨RLe.refl _, qS, ?_⟩
       refine tA 5 ?_
       refine WA.callG 6 rfl qK en48 rfl (by first | rfl | decide) rfl qD (CallOp.mkT rfl rfl rfl rfl) (LongerV_C (c := (⟨(fvals (upV xs (c + 3) v0) n), (P : Int), I⟩ : Cv)) hsm hfb (by show (fvals (upV xs (c + 3) v0) n).length ≤ 20; omega) (by show (P : Int) ≤ 4; omega) (by show I ≤ 50; omega) hv200 hfz qO qO w0 _) ?_
       rintro _ RL EL hRL ⟨fl, flc, cl, rfl, hfl, hsl, hfl2, hcl, hsubL⟩
       refine ⟨hRL, List.nil_sublist _, ?_⟩
       refine WA.subE hsubL ?_
       refine zCE 7 0 ?_
       refine WA.done qK ?_
       refine zL (zU (zQ (zG ?_)))
       refine yB 0 ?_
       refine zE 1 ?_
       refine zN (zU (zT ?_))
       refine WE.retFS (E' := srcE b a cp xs (c + 3 + n + 1 + 1 + 1 + 1) :: F) qS tab_ok [_] rfl ⟨⟨_, _, _, rfl, rfl, rfl, qB, rfl⟩, trivial⟩ ((by first | exact hR1 | exact hR1.trans hRL)) ?_
       exact ⟨_, [], rfl, fl, flc, _, cl, rfl, hfl, hsl, hcl, rfl, rfl⟩
      ·
       refine WS.callAt 2 rfl en13 rfl rfl qD (CallOp.mkT rfl rfl rfl rfl) rfl (N_C w0 ha1 (by constructor <;> omega) _) ?_
       rintro _ _ _ _ - ⟨rfl, rfl, rfl, rfl⟩
       refine ⟨qR, qS, ?_⟩
       refine tA 5 ?_
       refine lL 0 (Rd.blk 0 rfl) ?_
       refine WA.callG 6 rfl qK en48 rfl (by first | rfl | decide) rfl qD (CallOp.mkT rfl rfl rfl rfl) (LongerV_C (c := (⟨(fvals (upV xs (c + 3) v0) n), (P : Int), I⟩ : Cv)) hsm hfb (by show (fvals (upV xs (c + 3) v0) n).length ≤ 20; omega) (by show (P : Int) ≤ 4; omega) (by show I ≤ 50; omega) hv200 hfz qO qO w0 _) ?_
       rintro _ RL EL hRL ⟨fl, flc, cl, rfl, hfl, hsl, hfl2, hcl, hsubL⟩
       refine ⟨hRL, List.nil_sublist _, ?_⟩
       refine WA.subE hsubL ?_
       refine zCE 7 0 ?_
       refine WA.done qK ?_
       refine zL (zU (zQ (zG ?_)))
       refine yB 0 ?_
       refine zE 1 ?_
       refine zN (zU (zT ?_))
       refine WE.retFS (E' := srcE b a cp xs (c + 3 + n + 1 + 1 + 1 + 1) :: F) qS tab_ok [_] rfl ⟨⟨_, _, _, rfl, rfl, rfl, qB, rfl⟩, trivial⟩ ((by first | exact hR1 | exact hR1.trans hRL)) ?_
       exact ⟨_, [], rfl, fl, flc, _, cl, rfl, hfl, hsl, hcl, rfl, rfl⟩
    ·
     refine W.cap 0 rfl ?_
     intro hcp
     rw [List.length_map] at hcp
     refine W.freeze (enc := encI) (xs := (fvals (upV xs (c + 3) v0) n)) 0 rfl ?_
     intro R1 hR1 hfz
     have hsm := small_fin (F := (upV xs (c + 3) v0)) (n := n) (P := (P : Int)) (I := I) hn20 (by omega) (by omega) (by have := upV_bound xs (c + 3) v0 0; omega) (fun t => (upV_step xs (c + 3) v0 t).1) (fun t ht => by have := upV_bound xs (c + 3) v0 t; omega) (by rw [Int.toNat_natCast]; omega)
     refine zK (zL (zU (zQ (zG ?_))))
     refine yB 0 ?_
     refine zE 1 ?_
     refine zN (zU (zT ?_))
     refine WE.retFS (E' := srcE b a cp xs (c + 3 + n + 1 + 1) :: F) qS tab_ok [_] rfl ⟨⟨_, _, _, rfl, rfl, rfl, qB, rfl⟩, trivial⟩ ((by first | exact hR1 | exact hR1.trans hRL)) ?_
     exact ⟨_, [], rfl, a8, c8, _, (⟨(fvals (upV xs (c + 3) v0) n), (P : Int), I⟩ : Cv), rfl, hfz, hsm, hcp, rfl, rfl⟩
  ·
   refine W.regionD _ [.sl 3 1 a8 c8 ((fvals (upV xs (c + 3) v0) n).map encI)] [.sl 3 1 a8 c8 ((fvals (upV xs (c + 3) v0) n).map encI), .blk b6 [.slice a8 (fvals (upV xs (c + 3) v0) n).length c8, .int .i64 (P : Int), .int .i64 0]] [20] mixed ?_
   refine vP 0 ?_
   refine vD 1 (r := by apply Rd.add; (exact Rd.blk 1 rfl)) (k := ?_)
   refine vP 2 ?_
   refine VA.take2 3 rfl qK qK qK rfl qK qK rfl rfl qD (Yl.sub rfl rfl rfl (fun _ => rfl) qA) qS qR qS ?_
   refine VA.take2 4 rfl qK qK qK rfl qK qK rfl rfl qD (Yl.index tab_ok rfl rfl rfl rfl rfl rfl (fun _ => rfl) qA qH) qS qR qS ?_
   refine vD 5 (r := by (exact Rd.slD 0 rfl qX)) (k := ?_)
   refine vP 6 ?_
   refine vD 7 (r := by apply Rd.add; (exact Rd.blk 1 rfl)) (k := ?_)
   refine vP 8 ?_
   refine vP 9 ?_
   refine vD 10 (r := by apply Rd.add; (exact Rd.blk 1 rfl)) (k := ?_)
   refine VA.take2 11 rfl qK qK qK rfl qK qK rfl rfl qD (Yl.sub rfl rfl rfl (fun _ => rfl) qA) qS qR qS ?_
   refine VA.take2 12 rfl qK qK qK rfl qK qK rfl rfl qD (Yl.index tab_ok rfl rfl rfl rfl rfl rfl (fun _ => rfl) qA qH) qS qR qS ?_
   refine vD 13 (r := by (exact Rd.slD 0 rfl qX)) (k := ?_)
   refine VA.take2 14 rfl qK qK qK rfl qK qK rfl rfl qD (Yl.sub rfl rfl rfl (fun _ => rfl) qA) qS qR qS ?_
   refine vP 15 ?_
   refine VA.one (i := 16) qK ?_
   refine VS.eff rfl rfl rfl qD (Ef.buildSliceD (enc := encI) (parts := [.const (.int .i64 0), .const (.int .i64 0), .const (.int .i64 1), .const (.int .i64 3), .const (.int .i64 4), .const (.int .i64 8)]) [_, _, _, _, _, _] tab_ok rfl rfl rfl rfl rfl rfl rfl rfl qD qD (fun a54 => ?_))
   refine ⟨by first | exact RLe.refl _ | assumption, qS, (fun _ => qS), ?_⟩
   refine VA.one (i := 17) qK ?_
   refine VS.callAt 5 rfl en15 rfl rfl qD (CallOp.mkT rfl rfl rfl rfl) rfl (PickM_C (j := 0) w0 ([0, 0, 1, 3, 4, 8] : List Int) rfl qD qD ha rfl) ?_
   rintro _ _ _ _ - ⟨rfl, rfl, rfl, rfl⟩
   refine ⟨RLe.refl _, qS, (fun _ => qS), ?_⟩
   refine VA.take2 18 rfl qK qK qK rfl qK qK rfl rfl qD (Yl.add rfl rfl rfl (fun _ => rfl) qA) qS qR qS ?_
   refine vP 19 ?_
   refine VA.one (i := 20) qK ?_
   refine VS.effN rfl rfl rfl (Ef.store 3 tab_ok rfl rfl rfl rfl rfl rfl rfl rfl ?_)
   refine ⟨by first | exact RLe.refl _ | assumption, qS, (noD qK), ?_⟩
   refine VA.done qK ?_
   refine WE.cut (nth (fvals (upV xs (c + 3) v0) n) ((n : Int) - 1).toNat - nth (fvals (upV xs (c + 3) v0) n) ((n : Int) - (P : Int)).toNat + nth ([0, 0, 1, 3, 4, 8] : List Int) (mod (nth xs (c + 3 + n)) ((6 : Nat) : Int)).toNat) ⟨by omega, by omega, by omega⟩ ⟨rfl, rfl, rfl, rfl⟩ (RLe.refl _) qS

theorem Zero_C {R : Ro} {b : Nat} {a : Option Addr} {cp : Nat} {xs : List Int} {c : Nat} (w0 : World) (ha : RS R 1 encI a xs) {most : Nat} (hmo : 1 ≤ most ∧ most ≤ 20) : FnAt Tryz.prog 8 [.pointer (some ⟨b, 0, none⟩), .int .i64 (most : Int)] w0 R (srcE b a cp xs c) (fun v R' e' N => ∃ (f : Option Addr) (fc cn : Nat) (cv : Cv), v = .agg #[.slice f cv.vals.length fc, .int .i64 cv.per, .int .i64 cv.inc] ∧ RS R' 1 encI f cv.vals ∧ SmallC cv ∧ finB cv = true ∧ nth cv.vals 0 = 0 ∧ cv.vals.length ≤ fc ∧ e' = srcE b a cp xs cn ∧ N = []) := by
 intro F
 refine fE 58 Tryz.func8 ?_
 refine zQ (zG ?_)
 refine zA fun b4 => ?_
 refine zN (zU (zQ (zG (zR 2 rfl ?_))))
 refine WL.callAt 1 en28 rfl rfl qD (CallOp.mkT rfl rfl rfl rfl) rfl (KCurve_C w0 ha hmo _) ?_
 rintro _ RC _ _ hRC ⟨fa, fc, c1, cv, rfl, hfa, hsc, hcc, rfl, rfl⟩
 have ha := ha.mono hRC
 refine zA fun b5 => ?_
 refine zE 0 ?_
 refine zN (zU (zQ (zB ?_)))
 refine W.loopR (β := Cv × Option Addr × Nat × Nat × Ro) (fun (ck, fk, gk, cn, Rk) => RLe RC Rk ∧ RS Rk 1 encI fk ck.vals ∧ SmallC ck ∧ ck.vals.length ≤ gk) (fun (ck, fk, gk, cn, Rk) => []) [0, 4, 5] [_, _, _] [] _ rfl (fun (ck, fk, gk, cn, Rk) => [(0, .blk b5 [.slice fk ck.vals.length gk, .int .i64 ck.per, .int .i64 ck.inc]), (2, srcE b a cp xs cn)]) (fun (ck, fk, gk, cn, Rk) => Rk) (fun (ck, fk, gk, cn, Rk) => (if finB ck = true then 0 else 1)) ((cv, fa, fc, c1, RC)) (⟨RLe.refl _, hfa, hsc, hcc⟩) ⟨rfl, rfl, rfl, rfl⟩ (RLe.refl _) qS ?_
 intro zz hst
 obtain ⟨ck, fk, gk, cn, Rk⟩ := zz
 dsimp only [zipE, setAll, List.cons_append, List.nil_append, List.set_cons_zero, List.set_cons_succ]
 obtain ⟨hRk, hfk, hsk, hgk⟩ := hst
 have ha := ha.mono hRk
 have hvr := valid_range hsk.valid
 refine zQ (zQ (zG (zR 1 rfl ?_)))
 refine yM 0 ?_
 refine zR 1 rfl ?_
 refine yM 0 ?_
 refine zR 1 rfl ?_
 refine yS ?_
 refine WG.y rfl rfl qD (Yl.index tab_ok rfl rfl rfl rfl rfl rfl (fun _ => rfl) qA (by intro _; first | exact fun _ _ _ _ => ha40 qO | exact qI)) ?_
 refine yD (r := by ((apply RS.rdD; assumption; ((try dsimp only) <;> omega)))) (k := ?_)
 refine zR 1 rfl (zN (zU ?_))
 refine cE rfl ?_ ?_ <;> intro hc0
 ·
  have hfF : finB ck = false := by unfold finB; rw [bne_eq_false_iff_eq, show ck.vals.length - 1 = ((ck.vals.length : Int) - 1).toNat by omega]; exact hc0
  refine zK (zU (zB (zG (zR 1 rfl ?_))))
  refine WL.callAt 2 en13 rfl rfl qD (CallOp.mkT rfl rfl rfl rfl) rfl (N_C w0 ha (by constructor <;> omega) _) ?_
  rintro _ _ _ _ - ⟨rfl, rfl, rfl, rfl⟩
  have hq1 := mod_range (nth xs cn) (show (1 : Int) ≤ 5 by decide)
  refine yA ?_
  refine WL.ef rfl rfl qD (Ef.buildSliceD (enc := encI) (parts := [.const (.int .i64 0), .const (.int .i64 4), .tmp 22]) [_, _, _] tab_ok rfl rfl rfl rfl rfl rfl rfl rfl qD qD (fun a23 => ?_))
  refine zR 1 rfl ?_
  refine WL.callAt 3 en13 rfl rfl qD (CallOp.mkT rfl rfl rfl rfl) rfl (N_C w0 ha (by constructor <;> omega) _) ?_
  rintro _ _ _ _ - ⟨rfl, rfl, rfl, rfl⟩
  have hq2 := mod_range (nth xs (cn + 1)) (show (1 : Int) ≤ 2 by decide)
  refine yA ?_
  refine yW [(0, .tmp 23), (1, .tmp 26), (2, .const (.int .i64 8))] ?_
  refine zE 1 ?_
  refine WL.freeze (enc := encI) (xs := [0, 4, 4 + mod (nth xs cn) 5]) 0 rfl ?_
  intro R1 hR1 hfz
  refine zN (zL ?_)
  refine WE.again ((⟨[0, 4, 4 + mod (nth xs cn) 5], 1 + mod (nth xs (cn + 1)) 2, 8⟩, some ⟨a23, 0, none⟩, 3, cn + 1 + 1, R1)) (⟨hRk.trans hR1, hfz, (small_lit hq1 hq2).1, Nat.le_refl _⟩) (by dsimp only; rw [hfF, (small_lit hq1 hq2).2]; decide) ⟨rfl, rfl, rfl, rfl⟩ (RLe.refl _) qS
 ·
  have hfT : finB ck = true := by unfold finB; rw [bne_iff_ne, show ck.vals.length - 1 = ((ck.vals.length : Int) - 1).toNat by omega]; exact hc0
  refine zX ?_
  refine wx (wx (zY (zU (zQ (zQ (zG (zR 1 rfl ?_)))))))
  refine yM 0 ?_
  refine WG.y rfl rfl qD (Yl.indexN tab_ok rfl rfl rfl rfl rfl rfl (fun _ => rfl) qN (by intro _; first | exact fun _ _ _ _ => ha40 qO | exact qI)) ?_
  refine yD (r := by ((apply RS.rdD; assumption; ((try dsimp only) <;> omega)))) (k := ?_)
  refine zR 1 rfl (zN (zU ?_))
  refine cD rfl ?_ ?_ <;> intro hc1
  ·dsimp only at hc1
   refine zQ (zG (zR 1 rfl ?_))
   refine yM 0 ?_
   refine WG.y rfl rfl qD (Yl.indexN tab_ok rfl rfl rfl rfl rfl rfl (fun _ => rfl) qN (by intro _; first | exact fun _ _ _ _ => ha40 qO | exact qI)) ?_
   refine yD (r := by ((apply RS.rdD; assumption; ((try dsimp only) <;> omega)))) (k := ?_)
   refine zR 1 rfl (zN (zU (zQ (zG ?_))))
   refine WL.ef rfl rfl qD (Ef.buildSliceD (enc := encI) (parts := []) [] tab_ok rfl rfl rfl rfl rfl rfl rfl rfl qD qD (fun a37 => ?_))
   refine zR 1 rfl ?_
   refine yM 1 ?_
   refine WL.ef rfl rfl qD (Ef.cloneL (enc := encI) 0 tab_ok rfl rfl rfl rfl rfl rfl rfl rfl rfl rfl hfk (fun _ _ => rfl) (by dsimp only; omega) qO (fun a40 c40 ha40 => ?_))
   refine zR 1 rfl ?_
   refine zF 1 ?_
   refine zN (zU (zQ (zG (zR 1 rfl ?_))))
   refine yM 1 ?_
   refine zR 2 rfl (zN (zU (zB ?_)))
   refine W.loopK (β := Nat × List Int) (fun (i, zs) => i ≤ zs.length ∧ zs.length = ck.vals.length ∧ ∀ j, j < ck.vals.length → nth zs j = (if j < i then nth ck.vals j - nth ck.vals 0 else nth ck.vals j)) (fun (i, zs) => [(45, true, .int .i64 (i : Int))]) [4, 5, 6, 44] [_, _, _, _] [] _ rfl (fun (i, zs) => [(0, .sl 3 1 a40 c40 (zs.map encI))]) (fun (i, zs) => zs.length - i) ((0, ck.vals)) (⟨Nat.zero_le _, rfl, fun j hj => by rw [if_neg (by omega)]⟩) ⟨rfl, rfl, rfl, rfl, rfl, rfl⟩ qS ?_
   intro st hst
   obtain ⟨i, zs⟩ := st
   dsimp only [zipE, setAll, List.cons_append, List.nil_append, List.set_cons_zero, List.set_cons_succ]
   obtain ⟨hi, hzl, hz⟩ := hst
   refine zQ (zG (zR 1 rfl (zN (zU (zQ ?_)))))
   refine cD rfl ?_ ?_ <;> intro hc2
   ·
    have hil : i < zs.length := by omega
    have hzi := hz i (by omega)
    rw [if_neg (by omega)] at hzi
    have hb1 := hvr.1 _ (nth_mem (xs := ck.vals) (k := i) (by omega))
    have hb0 := hvr.1 _ (nth_mem (xs := ck.vals) (k := 0) (by omega))
    refine zK (zU (zQ (zB (zQ (zG (zR 2 rfl (zN (zU (zG (zR 1 rfl ?_))))))))))
    refine yM 1 ?_
    refine zR 1 rfl ?_
    refine WG.y rfl rfl qD (Yl.indexN tab_ok rfl rfl rfl rfl rfl rfl (fun _ => rfl) qN (by intro _; first | exact fun _ _ _ _ => ha40 qO | exact qI)) ?_
    refine yD (r := by (exact Rd.slD 0 rfl qX)) (k := ?_)
    refine zR 1 rfl ?_
    refine yS ?_
    refine WG.y rfl rfl qD (Yl.indexN tab_ok rfl rfl rfl rfl rfl rfl (fun _ => rfl) qN (by intro _; first | exact fun _ _ _ _ => ha40 qO | exact qI)) ?_
    refine WL.efN rfl rfl (Ef.storeD _ 0 tab_ok rfl rfl rfl rfl rfl qX rfl rfl rfl rfl ?_)
    refine zN (zL (zU (zG ?_)))
    refine yA ?_
    refine zR 1 rfl (zN ?_)
    refine WE.again ((i + 1, zs.set i (nth zs i - nth ck.vals 0))) (⟨by dsimp only; rw [List.length_set]; omega, by dsimp only; rw [List.length_set]; exact hzl, fun j hj => by
     by_cases e : i = j
     ·subst e; rw [nth_set_self (by omega), if_pos (by omega), hzi]
     ·rw [nth_set_ne e, hz j hj]
      by_cases h2 : j < i
      ·rw [if_pos h2, if_pos (by omega)]
      ·rw [if_neg h2, if_neg (by omega)]⟩) (by dsimp only; rw [List.length_set]; omega) ⟨rfl, rfl, rfl, rfl, rfl, rfl⟩ (RLe.refl _) qS
   ·
    obtain hiE : i = zs.length := by omega
    refine W.cap 0 rfl ?_
    intro hcp
    rw [List.length_map] at hcp
    refine W.freeze (enc := encI) (xs := zs) 0 rfl ?_
    intro R2 hR2 hfz
    obtain ⟨hsz, hfz2, hz0⟩ := small_sub hsk hfT hzl (fun j hj => by rw [hz j hj, if_pos (by omega)])
    refine zX ?_
    refine wx (wx (zY (zU (zQ (zG ?_)))))
    refine yB 0 ?_
    refine zE 1 ?_
    refine zN (zU (zT ?_))
    refine WE.retFS (E' := srcE b a cp xs (cn) :: F) qS tab_ok [_] rfl ⟨⟨_, _, _, rfl, rfl, rfl, qB, rfl⟩, trivial⟩ ((by first | exact hRC.trans (hRk.trans hR2) | exact hRC.trans hRk)) ?_
    exact ⟨_, [], rfl, a40, c40, cn, ⟨zs, ck.per, ck.inc⟩, by dsimp only; rw [hzl]; rfl, hfz, hsz, hfz2, hz0, hcp, rfl, rfl⟩
  ·dsimp only at hc1
   have h00 : nth ck.vals 0 = 0 := by have := valid_each hsk.valid 0 (by omega); unfold INF at this; omega
   refine zK (zU (zQ (zG ?_)))
   refine yB 0 ?_
   refine zE 1 ?_
   refine zN (zU (zT ?_))
   refine WE.retFS (E' := srcE b a cp xs (cn) :: F) qS tab_ok [_] rfl ⟨⟨_, _, _, rfl, rfl, rfl, qB, rfl⟩, trivial⟩ ((by first | exact hRC.trans (hRk.trans hR2) | exact hRC.trans hRk)) ?_
   exact ⟨_, [], rfl, fk, gk, cn, ck, rfl, hfk, hsk, hfT, h00, hgk, rfl, rfl⟩

def kindI (k : Int) : Value := if k = 1 then .iface 85 (.agg #[]) else if k = 2 then .iface 86 (.agg #[]) else if k = 3 then .iface 87 (.agg #[]) else if k = 4 then .iface 88 (.agg #[]) else if k = 5 then .iface 89 (.agg #[]) else .nilIface
def kindB (k : Int) : Bool := decide (1 ≤ k) && decide (k ≤ 5)
def kindR (k : Int) : Option (Nat × Value) := if k = 1 then some (0, .iface 85 (.agg #[])) else if k = 2 then some (1, .iface 86 (.agg #[])) else if k = 3 then some (2, .iface 87 (.agg #[])) else if k = 4 then some (3, .iface 88 (.agg #[])) else if k = 5 then some (4, .iface 89 (.agg #[])) else none
theorem kind_find (k : Int) : Instr.findNow (.int .i64) (.int .i64 k) [{ key := .int .i64 1, val := .iface 85 (.agg #[]), born := 0 }, { key := .int .i64 2, val := .iface 86 (.agg #[]), born := 1 }, { key := .int .i64 3, val := .iface 87 (.agg #[]), born := 2 }, { key := .int .i64 4, val := .iface 88 (.agg #[]), born := 3 }, { key := .int .i64 5, val := .iface 89 (.agg #[]), born := 4 }] 0 = some (kindR k) := by
 unfold kindR
 by_cases h1 : k = 1
 ·subst h1; rfl
 ·by_cases h2 : k = 2
  ·subst h2; rfl
  ·by_cases h3 : k = 3
   ·subst h3; rfl
   ·by_cases h4 : k = 4
    ·subst h4; rfl
    ·by_cases h5 : k = 5
     ·subst h5; rfl
     ·have e1 : (k == 1) = false := by simpa using h1
      have e2 : (k == 2) = false := by simpa using h2
      have e3 : (k == 3) = false := by simpa using h3
      have e4 : (k == 4) = false := by simpa using h4
      have e5 : (k == 5) = false := by simpa using h5
      simp [Instr.findNow, Instr.sameNow, h1, h2, h3, h4, h5, e1, e2, e3, e4, e5]
theorem kind_hit (k : Int) : foundV .nilIface (kindR k) = .tuple #[kindI k, .bool (kindB k)] := by
 unfold kindR kindI kindB
 by_cases h1 : k = 1
 ·subst h1; rfl
 ·by_cases h2 : k = 2
  ·subst h2; rfl
  ·by_cases h3 : k = 3
   ·subst h3; rfl
   ·by_cases h4 : k = 4
    ·subst h4; rfl
    ·by_cases h5 : k = 5
     ·subst h5; rfl
     ·have : (decide (1 ≤ k) && decide (k ≤ 5)) = false := by simp only [Bool.and_eq_false_iff, decide_eq_false_iff_not]; omega
      simp [h1, h2, h3, h4, h5, this, foundV]
theorem Kind_V {R : Ro} (k : Int) : FnV Tryz.prog 32 [.int .i64 k] R (.tuple #[kindI k, .bool (kindB k)]) := by
 refine Fn.toV (fun w0 E => ?_)
 refine fE 25 Tryz.func32 ?_
 refine zQ (zG (zR 2 rfl (zN (zU (zQ (zG ?_))))))
 refine WL.ef rfl rfl qD (Ef.makeMap rfl (fun b7 => ?_))
 refine yW [] ?_
 refine WG.y rfl rfl qD (Yl.toIface tab_ok rfl rfl rfl rfl (fun _ => rfl)) ?_
 refine WL.efN rfl rfl (Ef.insert tab_ok rfl rfl rfl rfl rfl rfl rfl rfl rfl ?_)
 refine yW [] ?_
 refine WG.y rfl rfl qD (Yl.toIface tab_ok rfl rfl rfl rfl (fun _ => rfl)) ?_
 refine WL.efN rfl rfl (Ef.insert tab_ok rfl rfl rfl rfl rfl rfl rfl rfl rfl ?_)
 refine yW [] ?_
 refine WG.y rfl rfl qD (Yl.toIface tab_ok rfl rfl rfl rfl (fun _ => rfl)) ?_
 refine WL.efN rfl rfl (Ef.insert tab_ok rfl rfl rfl rfl rfl rfl rfl rfl rfl ?_)
 refine yW [] ?_
 refine WG.y rfl rfl qD (Yl.toIface tab_ok rfl rfl rfl rfl (fun _ => rfl)) ?_
 refine WL.efN rfl rfl (Ef.insert tab_ok rfl rfl rfl rfl rfl rfl rfl rfl rfl ?_)
 refine yW [] ?_
 refine WG.y rfl rfl qD (Yl.toIface tab_ok rfl rfl rfl rfl (fun _ => rfl)) ?_
 refine WL.efN rfl rfl (Ef.insert tab_ok rfl rfl rfl rfl rfl rfl rfl rfl rfl ?_)
 refine zR 2 rfl ?_
 refine WG.y rfl rfl qD (Yl.lookup (r := kindR k) (v := .tuple #[kindI k, .bool (kindB k)]) tab_ok rfl rfl rfl rfl rfl rfl rfl rfl (fun _ => rfl) (kind_find k) (kind_hit k)) ?_
 refine zR 5 rfl (zN (zU (zQ (zG (zR 4 rfl (zN (zU (zT ?_))))))))
 refine sE (E := E) ?_
 refine zr2 ?_
 exact ⟨rfl, rfl⟩
theorem IndexI_V {R : Ro} {a : Option Addr} {c : Nat} {xs : List Int} {g : FuncId} {first capd : Array Value} {p : Int → Bool} (ha : RS R 1 encI a xs) (heg : Enters Tryz.prog g) (hp : ∀ i, i < xs.length → FnV Tryz.prog g (first.toList ++ [.int .i64 (nth xs i)] ++ capd.toList) R (.bool (p (nth xs i)))) :
  FnV Tryz.prog 177 [.slice a xs.length c, .func (.func g) first capd] R (.int .i64 (findN (fun i => p (nth xs i)) xs.length)) := by
 have hla := ha.len
 refine Fn.toV (fun w0 E => ?_)
 refine fE 19 Tryz.func177 ?_
 refine zQ (zG (zR 1 rfl (zN (zU (zQ (zQ (zG (zR 3 rfl (zN (zU (zB ?_)))))))))))
 refine W.loopK (β := Nat) (fun k => k ≤ xs.length ∧ ∀ i, i < k → p (nth xs i) = false) (fun k => [(8, true, .int .i64 (k : Int))]) [0, 1, 7] [_, _, _] [] _ rfl (fun k => []) (fun k => xs.length - k) (0) (⟨Nat.zero_le _, fun i hi => absurd hi (Nat.not_lt_zero i)⟩) ⟨rfl, rfl, rfl, rfl, rfl⟩ qS ?_
 intro k hst
 obtain ⟨hk, hpre⟩ := hst
 refine zQ (zG (zR 1 rfl (zN (zU (zQ ?_)))))
 refine cD rfl ?_ ?_ <;> intro hc0
 ·
  refine zK (zU (zQ (zB (zQ (zG (zR 2 rfl (zN (zU (zQ (zG (zR 3 rfl ?_)))))))))))
  refine yI ?_
  refine yD (r := by ((apply RS.rdD; assumption; ((try dsimp only) <;> omega)))) (k := ?_)
  refine WG.callV (v := .bool (p (nth xs k))) heg rfl rfl qD (CallOp.mk' rfl rfl rfl rfl) (fun _ => rfl) (fun hg => hp k qO) ?_
  refine zN (zU ?_)
  refine cC rfl ?_ ?_ <;> intro hc1
  ·try simp only [zk] at hc1
   refine zQ (zG (zR 2 rfl (zN (zU (zT (wb (wt (wt (wb (wt ?_))))))))))
   refine sE (E := E) ?_
   refine zr1 ?_
   exact ⟨congrArg (Value.int IntKind.i64) (findN_some qO hc1 hpre).symm, rfl⟩
  ·try simp only [zk] at hc1
   refine zK (zL (zU (zG ?_)))
   refine yA ?_
   refine zR 1 rfl (zN ?_)
   refine WE.again (k + 1) (⟨by omega, fun i hi => by rcases Nat.lt_or_ge i k with h | h; exact hpre i h; rw [show i = k by omega]; simpa using hc1⟩) (by (try dsimp only); omega) ⟨rfl, rfl, rfl, rfl, rfl⟩ (RLe.refl _) qS
 ·
  refine zX ?_
  refine wx (wx (zY (zU (zQ (zG (zR 1 rfl (zN (zU (zT ?_)))))))))
  refine sE (E := E) ?_
  refine zr1 ?_
  exact ⟨congrArg (Value.int IntKind.i64) (findN_none (fun j hj => hpre j qO)).symm, rfl⟩
theorem ContainsI_V {R : Ro} {a : Option Addr} {c : Nat} {xs : List Int} {g : FuncId} {first capd : Array Value} {p : Int → Bool} (ha : RS R 1 encI a xs) (heg : Enters Tryz.prog g) (hp : ∀ i, i < xs.length → FnV Tryz.prog g (first.toList ++ [.int .i64 (nth xs i)] ++ capd.toList) R (.bool (p (nth xs i)))) :
  FnV Tryz.prog 167 [.slice a xs.length c, .func (.func g) first capd] R (.bool (decide (0 ≤ findN (fun i => p (nth xs i)) xs.length))) := by
 refine Fn.toV (fun w0 E => ?_)
 refine fE 9 Tryz.func167 ?_
 refine zQ (zG (zR 1 rfl (zN (zU (zQ (zG (zR 2 rfl ?_)))))))
 refine WG.callV en177 rfl rfl qD (CallOp.mk' rfl rfl rfl rfl) (fun _ => rfl) (fun hg => IndexI_V ha heg hp) ?_
 refine zR 2 rfl (zN (zU (zT ?_)))
 refine sE (E := E) ?_
 refine zr1 ?_
 exact ⟨rfl, rfl⟩
theorem Within1_V {R : Ro} {b4 b5 : Nat} {lo hi x : Int} (h4 : R b4 = some [.int .i64 lo]) (h5 : R b5 = some [.int .i64 hi]) :
  FnV Tryz.prog 168 [.int .i64 x, .pointer (some ⟨b4, 0, none⟩), .pointer (some ⟨b5, 0, none⟩)] R (.bool (outB lo hi x)) := by
 refine Fn.toV (fun w0 E => ?_)
 refine fE 13 Tryz.func168 ?_
 refine zQ (zG (zR 1 rfl (zN (zU (zQ (zG (zR 1 rfl ?_)))))))
 refine yD (r := by exact Rd.ro h4) (k := ?_)
 refine zR 2 rfl ?_
 refine yP ?_
 refine yJ (r := by exact fun (_ : True) => Rd.ro h5) (k := ?_)
 refine yP ?_
 refine yO ?_
 refine zR 1 rfl (zN (zU (zT ?_)))
 refine sE (E := E) ?_
 refine zr1 ?_
 exact ⟨by unfold outB; rfl, rfl⟩
theorem Within_V {R : Ro} {a : Option Addr} {c l : Nat} {xs : List Int} {lo hi : Int} (ha : RS R 1 encI a xs) (hl : xs.length = l) :
  FnV Tryz.prog 164 [.slice a l c, .int .i64 lo, .int .i64 hi] R (.bool (withinB xs lo hi)) := by
 subst hl
 refine Fn.toV (fun w0 E => ?_)
 refine fE 11 Tryz.func164 ?_
 refine zQ (zG ?_)
 refine zO fun b4 => ?_
 refine zO fun b5 => ?_
 refine zR 1 rfl (zN (zU ?_))
 refine W.freezeBlk (b := b4) 1 rfl (fun R1 hR1 hb1 => ?_)
 refine W.freezeBlk (b := b5) 0 rfl (fun R2 hR2 hb2 => ?_)
 refine zQ (zG (zR 2 rfl ?_))
 refine WG.callV en167 rfl rfl qD (CallOp.mk' rfl rfl rfl rfl) (fun _ => rfl) (fun hg => ContainsI_V (ha.mono (hR1.trans hR2)) en168 (fun i hi => Within1_V (hR2 _ _ hb1) hb2)) ?_
 refine zR 2 rfl (zN (zU (zT ?_)))
 refine sE (E := E) ?_
 refine zq1 (hR1.trans hR2) ?_
 exact ⟨congrArg Value.bool within_find, rfl⟩
theorem Lists_V {R : Ro} {a : Option Addr} {c : Nat} {rows : List Sl} {b : Bool} (ha : RS R 1 encS a rows) :
  FnV Tryz.prog 140 [.bool b, .slice a rows.length c] R (.int .i64 (listsE b (rows.map Sl.xs))) := by
 have hla := ha.len
 refine Fn.toV (fun w0 E => ?_)
 refine fE 19 Tryz.func140 ?_
 refine zQ (zG (zR 1 rfl (zN (zU (zQ (zQ (zG (zR 2 rfl (zN (zU ?_))))))))))
 refine cC rfl ?_ ?_ <;> intro hc0
 ·try simp only [zk] at hc0
  refine zQ (zG (zR 1 rfl (zN (zU (zT (wt ?_))))))
  refine sE (E := E) ?_
  refine zr1 ?_
  exact ⟨by rw [show listsE b (rows.map Sl.xs) = 2 by simp [hc0, listsE]]; rfl, rfl⟩
 ·try simp only [zk] at hc0
  refine zK (zU (zQ (zQ (zG (zR 3 rfl (zN (zU (zB ?_))))))))
  refine W.loopK (β := Nat) (fun k => k ≤ rows.length ∧ ∀ i, i < k → (nth rows i).xs.length = 0) (fun k => [(11, true, .int .i64 (k : Int))]) [9, 10] [_, _] [] _ rfl (fun k => []) (fun k => rows.length - k) (0) (⟨Nat.zero_le _, fun i hi => absurd hi (Nat.not_lt_zero i)⟩) ⟨rfl, rfl, rfl, rfl⟩ qS ?_
  intro k hst
  obtain ⟨hk, hpre⟩ := hst
  refine zQ (zG (zR 1 rfl (zN (zU (zQ ?_)))))
  refine cD rfl ?_ ?_ <;> intro hc1
  ·
   refine zK (zU (zQ (zB (zQ (zG ?_)))))
   refine yI ?_
   refine yD (r := by ((apply RS.rdD; assumption; ((try dsimp only) <;> omega)))) (k := ?_)
   refine zR 1 rfl (zN (zU (zQ (zG (zR 3 rfl (zN (zU ?_)))))))
   refine cD rfl ?_ ?_ <;> intro hc2
   ·
    refine zQ (zG (zR 1 rfl (zN (zU (zT (wb (wt (wt (wb (wt ?_))))))))))
    refine sE (E := E) ?_
    refine zr1 ?_
    have hb : b = true := by simpa using hc0
    exact ⟨by unfold listsE; rw [if_neg (by simp [hb]), if_pos (List.any_eq_true.2 ⟨(nth rows k).xs, List.mem_map.2 ⟨_, nth_mem (xs := rows) (k := k) (by omega), rfl⟩, by simp; omega⟩)]; rfl, rfl⟩
   ·
    refine zK (zL (zU (zG ?_)))
    refine yA ?_
    refine zR 1 rfl (zN ?_)
    refine WE.again (k + 1) (⟨by omega, fun i hi => by rcases Nat.lt_or_ge i k with h | h; exact hpre i h; rw [show i = k by omega]; omega⟩) (by (try dsimp only); omega) ⟨rfl, rfl, rfl, rfl⟩ (RLe.refl _) qS
  ·
   refine zX ?_
   refine wx (wx (zY (zU (zQ (zG (zR 1 rfl (zN (zU (zT ?_)))))))))
   refine sE (E := E) ?_
   refine zr1 ?_
   have hb : b = true := by simpa using hc0
   have hno : ((rows.map Sl.xs).any fun r => decide (0 < r.length)) = false := by
    rw [List.any_eq_false]
    intro r hr
    obtain ⟨x, hx, rfl⟩ := List.mem_map.1 hr
    obtain ⟨i, hi, rfl⟩ := List.getElem_of_mem hx
    have := hpre i (by omega)
    rw [show nth rows i = rows[i] by unfold nth List.getD; rw [List.getElem?_eq_getElem hi]; rfl] at this
    simp [this]
   exact ⟨by unfold listsE; rw [if_neg (by simp [hb]), hno]; rfl, rfl⟩
end Go.Proofs.YtaoakchgjgmedaaGreat