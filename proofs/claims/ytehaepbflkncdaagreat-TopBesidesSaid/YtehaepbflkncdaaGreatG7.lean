/- TopBesides: for every input the law returns true, and the input reads afterwards as it read before. No condition. -/
import Derived.Test.YtehaepbflkncdaaGreatG6
set_option linter.unusedSimpArgs false
set_option linter.unusedVariables false
set_option linter.unnecessarySimpa false
set_option maxRecDepth 4000
set_option linter.unusedSimpArgs false
set_option linter.unusedVariables false
namespace Go.Proofs.YtehaepbflkncdaaGreat
open Go Go.RowKit Go.Proofs.YtehaepbflkncdaaGreat.K Go.Proofs.YtehaepbflkncdaaGreat.M
theorem ReachI_V {R:Ro} {fa:Option Addr} {fc:Nat} {c:Cv} (hv:validB c=true) (ha:RS R 1 encI fa c.vals) {v:Int} (hx:(v=4611686018427387904∧finB c=true)∨(finB c=false∧0≤v∧v≤4611686018427387904)):FnV Tryz.prog 136 [.agg #[.slice fa c.vals.length fc,.int .i64 c.per,.int .i64 c.inc],.int .i64 v] R (.tuple #[.int .i64 (reachG c v).1,.bool (reachG c v).2]):=by
 refine Fn.toV (fun w0 E=>?_)
 obtain⟨hr1,hr2,hr3,hr4,hr5,hr6,hr7,hr8⟩:=valid_range hv
 refine fE 66 Tryz.func136 ?_
 refine zQ (zG ?_)
 refine zO fun b2=>?_
 refine zR 2 rfl (zN (zU (zQ (zQ (zG (zR 1 rfl ?_))))))
 refine yM 0 ?_
 refine zR 2 rfl (zN (zU (zB ?_)))
 refine W.loopK (β:=Nat) (fun t=>t≤c.vals.length∧∀ j,j<t→cvF c j<v) (fun t=>[(15,true,.int .i64 (t:Int))]) [1,2,13,14] [_,_,_,_] [] _ rfl (fun t=>[]) (fun t=>c.vals.length - t) (0) (⟨Nat.zero_le _,fun j hj=>by omega⟩) ⟨rfl,rfl,rfl,rfl,rfl,rfl⟩ qS ?_
 intro t hst
 obtain⟨ht,hno⟩:=hst
 refine zQ (zG (zR 1 rfl (zN (zU (zQ ?_)))))
 refine cD rfl ?_ ?_<;>intro hc0
 ·
  have htl:t<c.vals.length:=by omega
  have hft:=cvF_low htl
  refine zK (zU (zQ (zB (zQ (zG (zR 1 rfl ?_))))))
  refine yI ?_
  refine yD (r:=by((apply RS.rdD;assumption;((try dsimp only)<;>omega)))) (k:=?_)
  refine zR 2 rfl (zN (zU (zQ (zG (zR 3 rfl (zN (zU ?_)))))))
  refine cD rfl ?_ ?_<;>intro hc1
  ·
   have hff:findFrom (fun t=>decide (cvF c t≥v)) c.vals.length 0=t:=findFrom_some (Nat.zero_le _) (by omega) (decide_eq_true (by rw[hft];exact hc1)) (fun j _ hj=>decide_eq_false (by have:=hno j hj;omega))
   have hr:reachG c v=((t:Int),true):=by unfold reachG;rw[hff,if_pos (by omega)]
   refine zQ (zG (zR 3 rfl (zN (zU (zT (wb (wt (wt (wb (wt ?_))))))))))
   refine sE (E:=E) ?_
   refine zr2 ?_
   exact⟨by rw[hr];rfl,rfl⟩
  ·
   refine zK (zL (zU (zG ?_)))
   refine yA ?_
   refine zR 1 rfl (zN ?_)
   refine WE.again (t+1) (⟨by omega,fun j hj=>by
    by_cases e:j=t
    ·subst e;rw[hft];omega
    ·exact hno j (by omega)⟩) (by(try dsimp only);omega) ⟨rfl,rfl,rfl,rfl,rfl,rfl⟩ (RLe.refl _) qS
 ·
  obtain rfl:t=c.vals.length:=by omega
  have hff:findFrom (fun t=>decide (cvF c t≥v)) c.vals.length 0=-1:=findFrom_none (fun j _ hj=>decide_eq_false (by have:=hno j (by omega);omega))
  refine zX ?_
  refine wx (wx (zY (zU (zQ ?_))))
  refine W.regionQ _ mixed qK ?_
  refine zR 1 rfl ?_
  refine yM 0 ?_
  refine zR 2 rfl ?_
  refine yM 0 ?_
  refine zR 2 rfl (zN (zU (zQ (zQ (zG (zR 3 rfl ?_))))))
  refine yP ?_
  refine yG (Rd.addC (Rd.blkC 0 rfl) _) ?_
  refine yP ?_
  refine yO ?_
  refine zN (zU ?_)
  refine cC rfl ?_ ?_<;>intro hc2
  ·try simp only[zk] at hc2
   have hr:reachG c v=(0,false):=by unfold reachG;rw[hff,if_neg (fun hh=>hh rfl),if_pos (by unfold INF;omega)]
   refine zQ (zG (zR 2 rfl (zN (zU (zT (wt ?_))))))
   refine sE (E:=E) ?_
   refine zr2 ?_
   exact⟨by rw[hr];rfl,rfl⟩
  ·try simp only[zk] at hc2
   exfalso
   rcases hx with ⟨h,_⟩|⟨h1,h2,h3⟩
   ·first|exact hc2 (.inl h)|exact hc2.1 h
   ·obtain⟨n,n1,_,n3⟩:=inf_at hv h1
    have hs:=stN_lt hv
    have h4:=hno n (by omega)
    rw[n3.hi n (Nat.le_refl _)] at h4
    unfold INF at h4;omega
theorem ReachG_V {R:Ro} {fa:Option Addr} {fc:Nat} {c:Cv} (hv:validB c=true) (ha:RS R 1 encI fa c.vals) {v:Int} (hvv:v=4611686018427387904∨(0≤v∧v≤1000000000000000)):FnV Tryz.prog 136 [.agg #[.slice fa c.vals.length fc,.int .i64 c.per,.int .i64 c.inc],.int .i64 v] R (.tuple #[.int .i64 (reachG c v).1,.bool (reachG c v).2]):=by
 cases hf:finB c with
 | false=>exact ReachI_V hv ha (.inr ⟨hf,by omega⟩)
 | true =>
  by_cases h:v=4611686018427387904
  ·exact ReachI_V hv ha (.inl ⟨h,hf⟩)
  ·rcases valid_cases hv with ⟨S,P,e,hl,hp,hfc,_⟩|⟨_,_,_,_,_,_,_,f⟩
   ·have h2:=reachG_F hl hp (v:=v) (by unfold INF;exact h)
    have e2:c.vals=fvals (cvF c) (S+P):=by rw[← hl];exact cvF_vals c
    rw[h2,hp,e2]
    rw[e2] at ha
    exact ReachF_V hfc ha qO
   ·rw[hf] at f;cases f
set_option maxHeartbeats 2000000 in
theorem DBothG_C {R:Ro} {fa:Option Addr} {fc:Nat} {cf:Cv} (hvf:validB cf=true) (ha:RS R 1 encI fa cf.vals) {ga:Option Addr} {gc:Nat} {cg:Cv} (hvg:validB cg=true) (hb:RS R 1 encI ga cg.vals) (w0:World) (E:List Ent):K.Fn Tryz.prog 133 [.agg #[.slice fa cf.vals.length fc,.int .i64 cf.per,.int .i64 cf.inc],.agg #[.slice ga cg.vals.length gc,.int .i64 cg.per,.int .i64 cg.inc]] w0 R E (fun v R' E'=>∃ (f1:Option Addr) (n1 c1:Nat) (p1 q1:Int) (f2:Option Addr) (n2 c2:Nat) (p2 q2 tk:Int) (lo:Bool) (e:Int),v=.tuple #[.agg #[.slice f1 n1 c1,.int .i64 p1,.int .i64 q1,.slice f2 n2 c2,.int .i64 p2,.int .i64 q2,.int .i64 tk,.bool lo],.int .i64 e] ∧
   ((e=3∧120<lcmC (normR cf) (normR cg))∨(e=0∧¬ 120<lcmC (normR cf) (normR cg)∧n1=(normR cf).vals.length∧p1=(normR cf).per∧q1=(normR cf).inc∧n2=(normR cg).vals.length∧p2=(normR cg).per∧q2=(normR cg).inc∧RS R' 1 encI f1 (normR cf).vals∧RS R' 1 encI f2 (normR cg).vals∧tk=((max (stN (normR cf)) (stN (normR cg))+lcmC (normR cf) (normR cg):Nat):Int)∧lo=decide (loose (normR cf) (normR cg))))∧E.Sublist E'):=by
 have hnf:=norm_nrm hvf
 have hng:=norm_nrm hvg
 refine fE 65 Tryz.func133 ?_
 refine zQ (zG ?_)
 refine zO fun b2=>?_
 refine zO fun b3=>?_
 refine zA fun b4=>?_
 refine zR 1 rfl (zN (zU (zQ (zG ?_))))
 refine yB 2 ?_
 refine WL.call en141 rfl rfl qD (CallOp.mkT rfl rfl rfl rfl) (CNormalV_C hvf ha w0 _) ?_
 rintro _ R1 _ hR1 ⟨fa1x,ca1x,rfl,ha1x,hsub⟩
 refine WL.subE hsub ?_
 unfold cvV
 dsimp only at ha1x ⊢
 have hb:=hb.mono hR1
 refine zR 3 rfl ?_
 refine zA fun b6=>?_
 refine zE 0 ?_
 refine zR 1 rfl (zN (zU (zQ (zQ (zG (zR 2 rfl (zN (zU ?_))))))))
 refine cN rfl ?_ ?_<;>intro hc0
 ·
  exact absurd rfl hc0
 ·
  refine zK (zU (zQ (zG ?_)))
  refine yB 2 ?_
  refine WL.call en141 rfl rfl qD (CallOp.mkT rfl rfl rfl rfl) (CNormalV_C hvg hb w0 _) ?_
  rintro _ R2 _ hR2 ⟨fa2x,ca2x,rfl,ha2x,hsub⟩
  refine WL.subE hsub ?_
  unfold cvV
  dsimp only at ha2x ⊢
  have ha1x:=ha1x.mono hR2
  generalize normR cf=m1 at *
  generalize normR cg=m2 at *
  have hv1:=hnf.valid
  have hv2:=hng.valid
  have hlle:=lcmC_le hv1 hv2
  have hlp:=lcm_pos hv1 hv2
  have hs1:=stN_lt hv1
  have hs2:=stN_lt hv2
  refine zR 3 rfl ?_
  refine zA fun b8=>?_
  refine zE 0 ?_
  refine zR 1 rfl (zN (zU (zQ (zQ (zG (zR 2 rfl (zN (zU ?_))))))))
  refine cN rfl ?_ ?_<;>intro hc1
  ·
   exact absurd rfl hc1
  ·
   refine zK (zU (zQ (zG (zR 1 rfl ?_))))
   refine yM 1 ?_
   refine zR 1 rfl ?_
   refine yM 0 ?_
   refine WG.callV (v:=.int .i64 (lcmC m1 m2:Int)) en179 rfl rfl qD (CallOp.mk' rfl rfl rfl rfl) (fun _=>rfl) (fun hg=>CommonC_V hv1 hv2) ?_
   refine zR 1 rfl (zN (zU (zQ (zQ (zG (zR 2 rfl (zN (zU ?_))))))))
   refine cD rfl ?_ ?_<;>intro hc2
   ·
    refine zQ (zG ?_)
    refine yW [] ?_
    refine zE 2 ?_
    refine zR 1 rfl (zN (zU (zT (wt ?_))))
    refine zq4 (hR1.trans hR2) ?_
    exact⟨none,0,0,0,0,none,0,0,0,0,0,false,_,rfl,.inl ⟨rfl,by omega⟩,qS⟩
   ·
    have hl1:¬ 120<lcmC m1 m2:=by omega
    refine zK (zU ?_)
    refine W.seqCut (β:=Nat × Int) (fun (b10,tk)=>tk=((max (stN m1) (stN m2)+lcmC m1 m2:Nat):Int)) (fun (b10,tk)=>[(4,true,.pointer (some ⟨b4,0,none⟩)),(6,true,.pointer (some ⟨b6,0,none⟩)),(8,true,.pointer (some ⟨b8,0,none⟩)),(9,true,.int .i64 (lcmC m1 m2:Int)),(10,true,.pointer (some ⟨b10,0,none⟩))]) (fun _=>R2) (fun (b10,tk)=>.blk b10 [.slice fa1x m1.vals.length ca1x,.int .i64 m1.per,.int .i64 m1.inc,.slice fa2x m2.vals.length ca2x,.int .i64 m2.per,.int .i64 m2.inc,.int .i64 tk,.bool false]::.blk b8 [.slice fa2x m2.vals.length ca2x,.int .i64 m2.per,.int .i64 m2.inc]::.blk b6 [.slice fa1x m1.vals.length ca1x,.int .i64 m1.per,.int .i64 m1.inc]::.blk b4 [.slice none 0 0,.int .i64 0,.int .i64 0,.slice none 0 0,.int .i64 0,.int .i64 0,.int .i64 0,.bool false]::E) ?_ ?_
    ·
     intro st hst
     obtain⟨b10,tk⟩:=st
     obtain rfl:tk=_:=hst
     dsimp only
     have hloq:(finB m2 && (!finB m1 || decide (gainC m1 (lcmC m1 m2) > gainC m2 (lcmC m1 m2))))=decide (loose m1 m2):=by
      rw[Bool.eq_iff_iff,decide_eq_true_iff]
      unfold loose
      simp
     refine zQ ?_
     refine W.regionH _ (ES:=[.blk b8 [.slice fa2x m2.vals.length ca2x,.int .i64 m2.per,.int .i64 m2.inc],.blk b6 [.slice fa1x m1.vals.length ca1x,.int .i64 m1.per,.int .i64 m1.inc]]) mixed ?_
     refine tL 0 (Rd.blk 0 rfl) ?_
     refine WA.callV 1 rfl qK en103 rfl rfl qD (CallOp.mk' rfl rfl rfl rfl) (fun _=>rfl) (fun hg=>WFiniteG_V hv2 ha2x) qS qR ?_
     refine tP 2 ?_
     refine' WA.take 3 rfl qK qK qK rfl rfl qD (Yl.loadG tab_ok rfl rfl rfl qE ?r6 rfl ?h6 ?g6) qS qR ?_
     case r6=>(exact Rd.blkC 1 rfl)
     case h6=>rfl
     case g6=>exact fun _=>trivial
     refine WA.callV 4 rfl qK en103 rfl rfl qD (CallOp.mk' rfl rfl rfl rfl) qE (fun hg=>WFiniteG_V hv1 ha1x) qS qR ?_
     refine WA.take 5 rfl qK qK qK rfl rfl qD (pureV_ok tab_ok rfl qE) qS qR ?_
     refine WA.take 6 rfl qK qK qK rfl rfl qD (pureV_ok tab_ok rfl qE) qS qR ?_
     refine' WA.take 7 rfl qK qK qK rfl rfl qD (Yl.loadG tab_ok rfl rfl rfl qE ?r7 rfl ?h7 ?g7) qS qR ?_
     case r7=>(exact Rd.blkC 1 rfl)
     case h7=>rfl
     case g7=>exact fun _=>trivial
     refine WA.take 8 rfl qK qK qK rfl rfl qD (pureV_ok tab_ok rfl qE) qS qR ?_
     refine' WA.take 10 rfl qK qK qK rfl rfl qD (Yl.loadG tab_ok rfl rfl rfl qE ?r8 rfl ?h8 ?g8) qS qR ?_
     case r8=>(exact Rd.blkC 0 rfl)
     case h8=>rfl
     case g8=>exact fun _=>trivial
     refine WA.take 11 rfl qK qK qK rfl rfl qD (pureV_ok tab_ok rfl qE) qS qR ?_
     refine WA.callV 9 (v:=.int .i64 (gainC m1 (lcmC m1 m2))) rfl qK en180 rfl rfl qD (CallOp.mk' rfl rfl rfl rfl) qE (fun hg=>WGainG_V hv1 ha1x (L:=lcmC m1 m2) qO) qS qR ?_
     refine WA.callV 12 (v:=.int .i64 (gainC m2 (lcmC m1 m2))) rfl qK en180 rfl rfl qD (CallOp.mk' rfl rfl rfl rfl) qE (fun hg=>WGainG_V hv2 ha2x (L:=lcmC m1 m2) qO) qS qR ?_
     refine WA.take 13 rfl qK qK qK rfl rfl qD (pureV_ok tab_ok rfl qE) qS qR ?_
     refine WA.take 14 rfl (by kernel_rfl) (by kernel_rfl) (by kernel_rfl) rfl rfl (by decide) (Yl.por rfl rfl rfl qE (by intro h1 h2;simp_all<;>omega)) qS (by first|exact RLe.refl _|assumption) ?_
     refine WA.take 15 rfl (by kernel_rfl) (by kernel_rfl) (by kernel_rfl) rfl rfl (by decide) (Yl.pand rfl rfl rfl (fun _=>rfl) (by intro h1 h2;simp_all<;>omega)) qS (by first|exact RLe.refl _|assumption) ?_
     refine tP 16 ?_
     refine zCF 17 0 ?_
     refine WA.done qK ?_
     refine zU (zQ (zG ?_))
     refine yB 0 ?_
     refine zE 3 ?_
     refine zR 1 rfl (zN (zU (zT ?_)))
     refine zq4 (hR1.trans hR2) ?_
     refine⟨fa1x,_,ca1x,_,_,fa2x,_,ca2x,_,_,_,_,_,rfl,.inr ⟨rfl,hl1,rfl,rfl,rfl,rfl,rfl,rfl,ha1x,ha2x,?_,?_⟩,qS⟩
     ·first|rfl|omega|(split<;>omega)
     ·first|exact hloq|(rw[← hloq];rfl)
    ·
     refine W.regionH _ (ES:=[.blk b8 [.slice fa2x m2.vals.length ca2x,.int .i64 m2.per,.int .i64 m2.inc],.blk b6 [.slice fa1x m1.vals.length ca1x,.int .i64 m1.per,.int .i64 m1.inc]]) mixed ?_
     refine tL 0 (Rd.blk 1 rfl) ?_
     refine tL 1 (Rd.blk 0 rfl) ?_
     refine tL 2 (Rd.blk 1 rfl) ?_
     refine tL 4 (Rd.blk 0 rfl) ?_
     refine tP 7 ?_
     refine WA.br2 (i:=3) (j:=10) qK ?_ ?_
     ·
      refine WS.callV rfl en143 rfl rfl qD (CallOp.mk' rfl rfl rfl rfl) (fun _=>rfl) (fun hg=>WStartG_V hv1 ha1x) qS qR ?_
      refine WA.br2 (i:=5) (j:=10) qK ?_ ?_
      ·
       refine WS.callV rfl en143 rfl rfl qD (CallOp.mk' rfl rfl rfl rfl) (fun _=>rfl) (fun hg=>WStartG_V hv2 ha2x) qS qR ?_
       refine tP 6 ?_
       refine tA 8 ?_
       refine WA.take 9 rfl qK qK qK rfl rfl qD (Yl.build (parts:=[(0,.tmp 37),(1,.tmp 38),(2,.tmp 45)]) tab_ok rfl rfl rfl rfl (fun _=>rfl) rfl rfl) qS qR ?_
       refine WA.eff 10 rfl qK rfl rfl qD (Ef.alloc tab_ok rfl rfl (fun b10=>?_))
       refine⟨qR,qS,?_⟩
       refine zCE 11 0 ?_
       refine WA.done qK ?_
       refine WE.cut (b10,(if (stN m1:Int)<(stN m2:Int) then (stN m2:Int) else (stN m1:Int))+(lcmC m1 m2:Int)) (by first|rfl|omega|(split<;>omega)) ⟨rfl,rfl,rfl,rfl,rfl,rfl⟩ (RLe.refl _) qS
      ·
       refine WS.eff rfl rfl rfl qD (Ef.alloc tab_ok rfl rfl (fun b10=>?_))
       refine⟨qR,qS,?_⟩
       refine WA.callV 5 rfl qK en143 rfl rfl qD (CallOp.mk' rfl rfl rfl rfl) (fun _=>rfl) (fun hg=>WStartG_V hv2 ha2x) qS qR ?_
       refine tP 6 ?_
       refine tA 8 ?_
       refine WA.take 9 rfl qK qK qK rfl rfl qD (Yl.build (parts:=[(0,.tmp 37),(1,.tmp 38),(2,.tmp 45)]) tab_ok rfl rfl rfl rfl (fun _=>rfl) rfl rfl) qS qR ?_
       refine zCE 11 0 ?_
       refine WA.done qK ?_
       refine WE.cut (b10,(if (stN m1:Int)<(stN m2:Int) then (stN m2:Int) else (stN m1:Int))+(lcmC m1 m2:Int)) (by first|rfl|omega|(split<;>omega)) ⟨rfl,rfl,rfl,rfl,rfl,rfl⟩ (RLe.refl _) qS
     ·
      refine WS.eff rfl rfl rfl qD (Ef.alloc tab_ok rfl rfl (fun b10=>?_))
      refine⟨qR,qS,?_⟩
      refine WA.callV 3 rfl qK en143 rfl rfl qD (CallOp.mk' rfl rfl rfl rfl) (fun _=>rfl) (fun hg=>WStartG_V hv1 ha1x) qS qR ?_
      refine WA.callV 5 rfl qK en143 rfl rfl qD (CallOp.mk' rfl rfl rfl rfl) (fun _=>rfl) (fun hg=>WStartG_V hv2 ha2x) qS qR ?_
      refine tP 6 ?_
      refine tA 8 ?_
      refine WA.take 9 rfl qK qK qK rfl rfl qD (Yl.build (parts:=[(0,.tmp 37),(1,.tmp 38),(2,.tmp 45)]) tab_ok rfl rfl rfl rfl (fun _=>rfl) rfl rfl) qS qR ?_
      refine zCE 11 0 ?_
      refine WA.done qK ?_
      refine WE.cut (b10,(if (stN m1:Int)<(stN m2:Int) then (stN m2:Int) else (stN m1:Int))+(lcmC m1 m2:Int)) (by first|rfl|omega|(split<;>omega)) ⟨rfl,rfl,rfl,rfl,rfl,rfl⟩ (RLe.refl _) qS
theorem DelayFG_V {R:Ro} {a1:Option Addr} {c1:Nat} {m1:Cv} (hv1:validB m1=true) (hx1:RS R 1 encI a1 m1.vals) {a2:Option Addr} {c2:Nat} {m2:Cv} (hv2:validB m2=true) (hx2:RS R 1 encI a2 m2.vals) {b6:Nat} {tk:Int} {lo:Bool} (h6:R b6=some [.slice a1 m1.vals.length c1,.int .i64 m1.per,.int .i64 m1.inc,.slice a2 m2.vals.length c2,.int .i64 m2.per,.int .i64 m2.inc,.int .i64 tk,.bool lo]) {t:Nat} (ht:t≤100000):FnV Tryz.prog 135 [.int .i64 (t:Int),.pointer (some ⟨b6,0,none⟩)] R (.tuple #[.int .i64 (gapD m1 m2 t).1,.bool (gapD m1 m2 t).2]):=by
 have hlow:=cvF_low15 hv1 ht
 have hrb:=reachG_bound hv2 hlow
 unfold INF at hlow
 refine Fn.toV (fun w0 E=>?_)
 refine fE 21 Tryz.func135 ?_
 refine zQ (zG (zR 2 rfl (zN (zU (zQ ?_)))))
 refine W.regionQ _ mixed qK ?_
 refine zR 1 rfl ?_
 refine yD (r:=by apply Rd.add;(exact Rd.ro qU)) (k:=?_)
 refine zR 1 rfl ?_
 refine yD (r:=by apply Rd.add;(exact Rd.ro qU)) (k:=?_)
 refine zR 1 rfl ?_
 refine WG.callV en109 rfl rfl qD (CallOp.mk' rfl rfl rfl rfl) (fun _=>rfl) (fun hg=>WAtG_V hv1 hx1 qO) ?_
 refine WG.callV en136 rfl rfl qD (CallOp.mk' rfl rfl rfl rfl) (fun _=>rfl) (fun hg=>ReachG_V hv2 hx2 hlow) ?_
 refine zR 5 rfl (zN (zU (zQ (zG (zR 2 rfl ?_)))))
 refine yS ?_
 refine zR 3 rfl (zN (zU (zT ?_)))
 refine sE (E:=E) ?_
 refine zr2 ?_
 exact⟨rfl,rfl⟩
theorem DelayG_C {R:Ro} {fa:Option Addr} {fc:Nat} {cf:Cv} (hvf:validB cf=true) (ha:RS R 1 encI fa cf.vals) {ga:Option Addr} {gc:Nat} {cg:Cv} (hvg:validB cg=true) (hb:RS R 1 encI ga cg.vals) (w0:World) (E:List Ent):K.Fn Tryz.prog 110 [.agg #[.slice fa cf.vals.length fc,.int .i64 cf.per,.int .i64 cf.inc],.agg #[.slice ga cg.vals.length gc,.int .i64 cg.per,.int .i64 cg.inc]] w0 R E (fun v R' E'=>v=.tuple #[.agg #[.bool ((devN (normR cf) (normR cg) (gapD (normR cf) (normR cg)))).1.1,.int .i64 ((devN (normR cf) (normR cg) (gapD (normR cf) (normR cg)))).1.2.1,.int .i64 ((devN (normR cf) (normR cg) (gapD (normR cf) (normR cg)))).1.2.2],.int .i64 ((devN (normR cf) (normR cg) (gapD (normR cf) (normR cg)))).2]∧E.Sublist E'):=by
 have hnf:=norm_nrm hvf
 have hng:=norm_nrm hvg
 refine fE 25 Tryz.func110 ?_
 refine zQ (zG ?_)
 refine zO fun b2=>?_
 refine zO fun b3=>?_
 refine zA fun b4=>?_
 refine zR 1 rfl (zN (zU (zQ (zG ?_))))
 refine yB 2 ?_
 refine yB 1 ?_
 refine WL.call en133 rfl rfl qD (CallOp.mkT rfl rfl rfl rfl) (DBothG_C hvf ha hvg hb w0 _) ?_
 rintro _ R1 _ hR1 ⟨a1,n1,c1,p1,q1,a2,n2,c2,p2,q2,tk,lo,e,rfl,hpair,hsub⟩
 refine WL.subE hsub ?_
 refine zR 3 rfl ?_
 refine zA fun b6=>?_
 refine zE 0 ?_
 refine zR 1 rfl (zN (zU (zQ (zQ (zG (zR 2 rfl (zN (zU ?_))))))))
 refine cN rfl ?_ ?_<;>intro hc0
 ·
  obtain⟨rfl,hl⟩:e=3∧120<lcmC (normR cf) (normR cg):=by
   rcases hpair with h|h
   ·exact h
   ·exact absurd h.1 hc0
  have hd:(devN (normR cf) (normR cg) (gapD (normR cf) (normR cg)))=((false,0,0),3):=by unfold devN;rw[if_pos hl]
  refine zQ (zG ?_)
  refine yW [] ?_
  refine zR 1 rfl ?_
  refine zE 1 ?_
  refine zR 1 rfl (zN (zU (zT (wt ?_))))
  refine zq4 (by first|exact hR1.trans (hR2.trans hR3)|exact hR1.trans hR2|exact hR1) ?_
  exact⟨by rw[hd];rfl,qS⟩
 ·
  obtain⟨rfl,hl,rfl,rfl,rfl,rfl,rfl,rfl,hx1,hx2,rfl,rfl⟩:=hpair.resolve_left (fun h=>by omega)
  generalize normR cf=m1 at *
  generalize normR cg=m2 at *
  have hv1:=hnf.valid
  have hv2:=hng.valid
  have hs1:=stN_lt hv1
  have hs2:=stN_lt hv2
  refine zK (zU (zQ (zQ (zG (zR 1 rfl ?_)))))
  refine yM 0 ?_
  refine zN (zU ?_)
  refine cC rfl ?_ ?_<;>intro hc1
  ·try simp only[zk] at hc1
   have hlo:loose m1 m2:=by simpa using hc1
   have hd:devN m1 m2 (gapD m1 m2)=((true,0,0),0):=by unfold devN;rw[if_neg hl,if_pos hlo]
   refine zQ (zG ?_)
   refine yW [(0,.const (.bool true))] ?_
   refine zE 1 ?_
   refine zR 1 rfl (zN (zU (zT (wt ?_))))
   refine zq4 (by first|exact hR1.trans (hR2.trans hR3)|exact hR1.trans hR2|exact hR1) ?_
   exact⟨by rw[hd];rfl,qS⟩
  ·try simp only[zk] at hc1
   have hlo:¬ loose m1 m2:=by simpa using hc1
   have hd:devN m1 m2 (gapD m1 m2)=(greatW (gapD m1 m2) (max (stN m1) (stN m2)+lcmC m1 m2) 0 0 0,0):=by unfold devN;rw[if_neg hl,if_neg hlo]
   refine zK (zU ?_)
   refine W.freezeBlk 0 rfl ?_
   intro R2 hR2 hb6
   have hF:∀ t:Nat,t<max (stN m1) (stN m2)+lcmC m1 m2→FnV Tryz.prog 135 ((#[]:Array Value).toList++[.int .i64 (t:Int)]++(#[.pointer (some ⟨b6,0,none⟩)]:Array Value).toList) R2 (.tuple #[.int .i64 (gapD m1 m2 t).1,.bool (gapD m1 m2 t).2]):=fun t ht=>DelayFG_V hv1 (hx1.mono hR2) hv2 (hx2.mono hR2) hb6 (by omega)
   refine zQ (zG (zR 1 rfl ?_))
   refine yD (r:=by apply Rd.add;(exact Rd.ro qU)) (k:=?_)
   refine zR 1 rfl ?_
   refine WG.callV en134 rfl rfl qD (CallOp.mk' rfl rfl rfl rfl) (fun _=>rfl) (fun hg=>Greatest_V (f:=gapD m1 m2) (n:=max (stN m1) (stN m2)+lcmC m1 m2) en135 hF qO) ?_
   refine zE 0 ?_
   refine zR 1 rfl (zN (zU (zT ?_)))
   refine zq4 (by first|exact hR1.trans (hR2.trans hR3)|exact hR1.trans hR2|exact hR1) ?_
   exact⟨by rw[hd];rfl,qS⟩

theorem AllSrv_C {R:Ro} {aw at_:Option Addr} {lw cw lt ct:Nat} {L:Ln} (hw:RS R 1 encI aw L.w) (hlw:L.w.length=lw) (ht:RS R 1 encI at_ L.tb) (hlt:L.tb.length=lt) {la:Option Addr} {lc ll:Nat} {ls:List CvS} (hla:RS R 3 encC la ls) (hll:ls.length=ll) (hls:∀ x∈ls,RS R 1 encI x.a x.cv.vals∧validB x.cv=true) (hc:1≤L.cap∧L.cap≤4000) (w0:World) (E:List Ent):K.Fn Tryz.prog 123 [.agg #[.int .i64 L.kind,.int .i64 L.cap,.int .i64 L.n,.slice aw lw cw,.slice at_ lt ct],.slice la ll lc] w0 R E (fun r R' E'=>r=devV (allC L.cap (ls.map CvS.cv))∧E.Sublist E'):=by
 have hvt:=total_valid (ls:=ls.map CvS.cv) (fun c hc=>by obtain⟨x,hx,rfl⟩:=List.mem_map.1 hc;exact(hls x hx).2)
 have eA:allC L.cap (ls.map CvS.cv)=if (totalC (ls.map CvS.cv)).2≠0 then ((false,0,0),(totalC (ls.map CvS.cv)).2) else delayC (totalC (ls.map CvS.cv)).1 (lineC L.cap):=rfl
 refine fE 33 Tryz.func123 ?_
 refine zQ (zG ?_)
 refine zO fun b2=>?_
 refine zA fun b4=>?_
 refine zR 1 rfl (zN (zU (zQ (zG (zR 1 rfl ?_)))))
 refine WL.call en159 rfl rfl qD (CallOp.mkT rfl rfl rfl rfl) (PTotal_len hll hla hls w0 _) ?_
 rintro _ R2 E2 hR2 ⟨f,fc,rfl,hf,hsub⟩
 refine WL.subE hsub ?_
 generalize hq:totalC (ls.map CvS.cv)=q at hf hvt eA ⊢
 unfold cvV
 refine zR 3 rfl ?_
 refine zA fun b6=>?_
 refine zE 0 ?_
 refine zR 1 rfl (zN (zU (zQ (zQ (zG (zR 2 rfl (zN (zU ?_))))))))
 refine cN rfl ?_ ?_<;>intro hc0
 ·
  rw[if_pos hc0] at eA
  refine zQ (zG ?_)
  refine yW [] ?_
  refine zR 1 rfl ?_
  refine zE 1 ?_
  refine zR 1 rfl (zN (zU (zT (wt ?_))))
  refine zq4 (by first|exact hR2|exact hR2.trans (hR3.trans hR4)) ?_
  exact⟨by rw[eA];rfl,qS⟩
 ·
  rw[if_neg (fun h=>h hc0)] at eA
  refine zK (zU (zQ (zG (zR 1 rfl ?_))))
  refine yM 2 ?_
  refine WL.call en160 rfl rfl qD (CallOp.mkT rfl rfl rfl rfl) (Serve_ok (cap:=L.cap) w0 hc _) ?_
  rintro _ _ E3 - ⟨g,rfl,rfl,hsub3⟩
  refine WL.subE hsub3 ?_
  refine WL.freeze (enc:=encI) (xs:=[0]) 0 rfl ?_
  intro R3 hR3 hg0
  refine zR 3 rfl ?_
  refine zA fun b8=>?_
  refine zE 0 ?_
  refine zR 1 rfl (zN (zU (zQ (zQ (zG (zR 2 rfl (zN (zU ?_))))))))
  refine cN rfl ?_ ?_<;>intro hc1
  ·
   exact absurd rfl hc1
  ·
   refine zK (zU (zQ (zG ?_)))
   refine yB 1 ?_
   refine yB 0 ?_
   refine WL.call en110 rfl rfl qD (CallOp.mkT rfl rfl rfl rfl) (DelayG_C (cf:=q.1) (cg:=lineC L.cap) (hvt hc0) (hf.mono hR3) (line_facts (cap:=L.cap) ⟨by omega,by omega⟩).1.valid hg0 w0 _) ?_
   rintro _ R4 E4 hR4 ⟨rfl,hsub4⟩
   refine WL.subE hsub4 ?_
   refine zR 2 rfl ?_
   refine zE 2 ?_
   refine zR 1 rfl (zN (zU (zT ?_)))
   refine zq4 (by first|exact hR2|exact hR2.trans (hR3.trans hR4)) ?_
   exact⟨by rw[eA];rfl,qS⟩




























theorem ArgSrv_V {R:Ro} {aw at_:Option Addr} {lw cw lt ct:Nat} {L:Ln} (hw:RS R 1 encI aw L.w) (hlw:L.w.length=lw) (ht:RS R 1 encI at_ L.tb) (hlt:L.tb.length=lt) {la:Option Addr} {lc ll:Nat} {ls:List CvS} (hla:RS R 3 encC la ls) (hll:ls.length=ll) (hlc:ll≤lc) (hls:∀ x∈ls,RS R 1 encI x.a x.cv.vals∧x.cv.vals.length≤100000) {za:Option Addr} {zc lz:Nat} {z:List Sz} (hzr:RS R 2 encZ za z) (hlz:z.length=lz) (hzc:lz≤zc) {cls:Int}:FnV Tryz.prog 122 [.agg #[.int .i64 L.kind,.int .i64 L.cap,.int .i64 L.n,.slice aw lw cw,.slice at_ lt ct],.int .i64 cls,.slice la ll lc,.slice za lz zc] R (.int .i64 (argE L cls (ls.map CvS.cv) z)):=by
 subst hll
 subst hlz
 have hl1:=hla.len
 have hl2:=hzr.len
 refine Fn.toV (fun w0 E=>?_)
 refine fE 58 Tryz.func122 ?_
 refine zQ (zG ?_)
 refine zO fun b4=>?_
 refine zR 1 rfl (zN (zU (zQ (zQ (zG ?_)))))
 refine yB 0 ?_
 refine WG.callV en42 rfl rfl qD (CallOp.mk' rfl rfl rfl rfl) (fun _=>rfl) (fun hg=>ChkSrv_V hw hlw ht hlt) ?_
 refine zR 1 rfl (zN (zU (zQ (zG (zR 2 rfl (zN (zU ?_)))))))
 refine cN rfl ?_ ?_<;>intro hc0
 ·
  have e:argE L cls (ls.map CvS.cv) z=chkL L:=if_pos hc0
  refine zQ (zG (zR 2 rfl (zN (zU (zT (wt ?_))))))
  refine sE (E:=E) ?_
  refine zr1 ?_
  exact⟨by rw[e];rfl,rfl⟩
 ·
  have hn:=(chk_facts hc0).2.2.2
  refine zK (zU (zQ (zQ (zG (zR 3 rfl ?_)))))
  refine yP ?_
  refine yP ?_
  refine yG (Rd.addC (Rd.blkC 0 rfl) _) ?_
  refine yP ?_
  refine yO ?_
  refine zR 1 rfl ?_
  refine yP ?_
  refine yP ?_
  refine yP ?_
  refine yG (Rd.addC (Rd.blkC 0 rfl) _) ?_
  refine yP ?_
  refine yO ?_
  refine zR 1 rfl ?_
  refine yP ?_
  refine yP ?_
  refine yP ?_
  refine yG (Rd.addC (Rd.blkC 0 rfl) _) ?_
  refine yP ?_
  refine yO ?_
  refine zN (zU ?_)
  refine cC rfl ?_ ?_<;>intro hc1
  ·try simp only[zk] at hc1
   have e:argE L cls (ls.map CvS.cv) z=2:=by unfold argE;rw[if_neg (fun h=>h hc0),if_pos (by rw[List.length_map];omega)]
   refine zQ (zG (zR 1 rfl (zN (zU (zT (wt ?_))))))
   refine sE (E:=E) ?_
   refine zr1 ?_
   exact⟨by rw[e];rfl,rfl⟩
  ·try simp only [zk] at hc1
   refine zK (zU (zQ (zQ (zG (zR 1 rfl ?_)))))
   refine yM 0 ?_
   refine zR 2 rfl ?_
   refine WG.callV en158 rfl rfl qD (CallOp.mk' rfl rfl rfl rfl) (fun _=>rfl) (fun hg=>CheckP_V hzr) ?_
   refine zR 1 rfl (zN (zU (zQ (zG (zR 2 rfl (zN (zU ?_)))))))
   refine cN rfl ?_ ?_<;>intro hc2
   ·
    have e:argE L cls (ls.map CvS.cv) z=chk18 L.cap cls z:=by unfold argE;rw[if_neg (fun h=>h hc0),if_neg (by rw[List.length_map];omega),if_pos hc2]
    refine zQ (zG (zR 2 rfl (zN (zU (zT (wt ?_))))))
    refine sE (E:=E) ?_
    refine zr1 ?_
    exact⟨by rw[e];rfl,rfl⟩
   ·
    refine zK (zU (zQ (zQ (zG (zR 3 rfl (zN (zU (zB ?_))))))))
    refine W.loopK (β:=Nat) (fun k=>k≤ls.length∧∀ i,i<k→validB (nth ls i).cv=true) (fun k=>[(50,true,.int .i64 (k:Int))]) [48,49] [_,_] [] _ rfl (fun k=>[]) (fun k=>ls.length - k) (0) (⟨Nat.zero_le _,fun i hi=>absurd hi (Nat.not_lt_zero i)⟩) ⟨rfl,rfl,rfl,rfl⟩ qS ?_
    intro k hst
    obtain⟨hk,hpre⟩:=hst
    refine zQ (zG (zR 1 rfl (zN (zU (zQ ?_)))))
    refine cD rfl ?_ ?_<;>intro hc3
    ·
     refine zK (zU (zQ (zB (zQ (zG ?_)))))
     refine yI ?_
     refine yD (r:=by((apply RS.rdD;assumption;((try dsimp only)<;>omega)))) (k:=?_)
     refine zA fun b12=>?_
     refine zE 0 ?_
     refine zN (zU (zQ (zG ?_)))
     refine yB 0 ?_
     refine WG.callV en71 rfl rfl qD (CallOp.mk' rfl rfl rfl rfl) (fun _=>rfl) (fun hg=>CValidG_V (hls _ (nth_mem (xs:=ls) (k:=k) qO)).1 (hls _ (nth_mem (xs:=ls) (k:=k) qO)).2) ?_
     refine zR 1 rfl (zN (zU ?_))
     refine cC rfl ?_ ?_<;>intro hc4
     ·try simp only[zk] at hc4
      have e:argE L cls (ls.map CvS.cv) z=1:=by
       unfold argE
       rw[if_neg (fun h=>h hc0),if_neg (by rw[List.length_map];omega),if_neg (fun h=>h hc2),if_neg]
       intro hh
       have:=List.all_eq_true.1 hh _ (List.mem_map.2 ⟨_,nth_mem (xs:=ls) (k:=k) (by omega),rfl⟩)
       rw[this] at hc4;cases hc4
      refine zQ (zG (zR 1 rfl (zN (zU (zT (wb (wt (wt (wb (wt ?_))))))))))
      refine sE (E:=E) ?_
      refine zr1 ?_
      exact⟨by rw[e];rfl,rfl⟩
     ·try simp only[zk] at hc4
      refine zK (zL (zU (zG ?_)))
      refine yA ?_
      refine zR 1 rfl (zN ?_)
      refine WE.again (k+1) (⟨by omega,fun i hi=>by rcases Nat.lt_or_ge i k with h|h;exact hpre i h;rw[show i=k by omega];exact hc4⟩) (by(try dsimp only);omega) ⟨rfl,rfl,rfl,rfl⟩ (RLe.refl _) qS
    ·
     refine zX ?_
     refine wx (wx (zY (zU (zQ (zG (zR 1 rfl (zN (zU (zT ?_)))))))))
     refine sE (E:=E) ?_
     refine zr1 ?_
     have e:argE L cls (ls.map CvS.cv) z=0:=by
      unfold argE
      rw[if_neg (fun h=>h hc0),if_neg (by rw[List.length_map];omega),if_neg (fun h=>h hc2),if_pos]
      rw[List.all_eq_true]
      intro x hx
      obtain⟨y,hy,rfl⟩:=List.mem_map.1 hx
      obtain⟨i,hi,rfl⟩:=List.getElem_of_mem hy
      have:=hpre i (by omega)
      rw[show nth ls i=ls[i] by unfold nth List.getD;rw[List.getElem?_eq_getElem hi];rfl] at this
      exact this
     exact⟨by rw[e];rfl,rfl⟩

theorem arg_facts {L:Ln} {cls:Int} {l:List Cv} {z:List Sz} (h:argE L cls l z=0):chkL L=0∧(0≤cls∧cls<L.n∧(l.length:Int)=L.n∧(z.length:Int)=L.n)∧chk18 L.cap cls z=0∧∀ c∈l,validB c=true:=by
 unfold argE at h
 split at h
 ·rename_i h1;exact absurd h h1
 ·rename_i h1
  split at h
  ·omega
  ·split at h
   ·rename_i h2;exact absurd h h2
   ·rename_i h2
    split at h
    ·rename_i h3
     exact⟨by omega,by omega,by omega,fun c hc=>List.all_eq_true.1 h3 c hc⟩
    ·omega

theorem DelaySrv1_C {R:Ro} {aw at_:Option Addr} {lw cw lt ct:Nat} {L:Ln} (hw:RS R 1 encI aw L.w) (hlw:L.w.length=lw) (ht:RS R 1 encI at_ L.tb) (hlt:L.tb.length=lt) {la:Option Addr} {lc ll:Nat} {ls:List CvS} (hla:RS R 3 encC la ls) (hll:ls.length=ll) (hlc:ll≤lc) (hls:∀ x∈ls,RS R 1 encI x.a x.cv.vals∧x.cv.vals.length≤100000) {za:Option Addr} {zc lz:Nat} {z:List Sz} (hzr:RS R 2 encZ za z) (hlz:z.length=lz) (hzc:lz≤zc) {cls:Int} (htc:lt≤ct) (hk1:L.kind=1) (w0:World) (E:List Ent):K.Fn Tryz.prog 88 [.agg #[.int .i64 L.kind,.int .i64 L.cap,.int .i64 L.n,.slice aw lw cw,.slice at_ lt ct],.int .i64 cls,.slice la ll lc,.slice za lz zc] w0 R E (fun r R' E'=>r=devV (delayL L cls (ls.map CvS.cv) z)∧E.Sublist E'):=by
 refine fE 36 Tryz.func88 ?_
 refine zQ (zG ?_)
 refine zO fun b4=>?_
 refine zA fun b8=>?_
 refine zR 1 rfl (zN (zU (zQ (zQ (zG (zR 1 rfl ?_))))))
 refine yM 1 ?_
 refine zR 1 rfl (zN (zU ?_))
 refine cN rfl ?_ ?_<;>intro hc0
 ·
  exact absurd hk1 hc0
 ·
  refine zK (zU (zQ (zQ (zG ?_))))
  refine yB 1 ?_
  refine zR 3 rfl ?_
  refine WG.callV en122 rfl rfl qD (CallOp.mk' rfl rfl rfl rfl) (fun _=>rfl) (fun hg=>ArgSrv_V hw hlw ht hlt hla hll hlc hls hzr hlz hzc) ?_
  refine zR 1 rfl (zN (zU (zQ (zG (zR 2 rfl (zN (zU ?_)))))))
  refine cN rfl ?_ ?_<;>intro hc1
  ·
   have e:delayL L cls (ls.map CvS.cv) z=((false,0,0),argE L cls (ls.map CvS.cv) z):=(if_neg (fun h=>h hc0)).trans (if_pos hc1)
   refine zQ (zG ?_)
   refine yW [] ?_
   refine zR 1 rfl ?_
   refine zE 0 ?_
   refine zR 1 rfl (zN (zU (zT (wt ?_))))
   refine zq4 (by first|exact RLe.refl _|exact hR3) ?_
   rw[e]
   exact⟨rfl,qS⟩
  ·
   have e:delayL L cls (ls.map CvS.cv) z=allC L.cap (ls.map CvS.cv):=(if_neg (fun h=>h hc0)).trans (if_neg (fun h=>h hc1))
   refine zK (zU (zQ (zG ?_)))
   refine yB 1 ?_
   refine zR 1 rfl ?_
   refine WL.call en123 rfl rfl qD (CallOp.mkT rfl rfl rfl rfl) (AllSrv_C hw hlw ht hlt hla hll (fun x hx=>⟨(hls x hx).1,(arg_facts hc1).2.2.2 _ (List.mem_map.2 ⟨x,hx,rfl⟩)⟩) ⟨(chk_facts (arg_facts hc1).1).2.1,(chk_facts (arg_facts hc1).1).2.2.1⟩ w0 _) ?_
   rintro _ R3 E3 hR3 ⟨rfl,hsub3⟩
   refine WL.subE hsub3 ?_
   unfold devV
   refine zR 2 rfl ?_
   refine zE 0 ?_
   refine zR 1 rfl (zN (zU (zT ?_)))
   refine zq4 (by first|exact RLe.refl _|exact hR3) ?_
   rw[e]
   exact⟨rfl,qS⟩

set_option maxHeartbeats 2000000 in
theorem MeasD_C {R:Ro} {na la fa:Option Addr} {nc lc fc:Nat} {names:List (List UInt8)} {ms:List LnM} {fs:List FlM} (hna:K.RS R 1 encT na names) (hla:K.RS R 5 encLn la ms) (hfa:K.RS R 8 encFl fa fs) (hokn:∀ m∈ms,OkLn R m) (hof:∀ m∈fs,OkFl R m) (hnl:∀ x∈names,x.length≤9223372036854775807) (hck:chkNet names (ms.map (·.L)) (fs.map (·.f))=0) {da:Option Addr} {dc:Nat} {ds:List Sl} (hd:RS R 1 encS da ds) (hrd:∀ r∈ds,RS R 1 encI r.a r.xs) (hsh:ShD ds ms) (hdb:∀ r∈ds,∀ x∈r.xs,0≤x∧x≤400) (hl4:∀ m∈fs,m.f.route.length≤4∧m.f.route.length≤m.c1∧validB m.f.cv=true) (hro:∀ m∈fs,∀ l∈m.f.route,0≤l∧l<ds.length) (hcl:∀ m∈fs,∀ r∈ds,0≤m.f.cls∧m.f.cls<r.xs.length) (hff:∀ m∈fs,finB m.f.cv=true) (h8:fs.length≤100) (hkd:∀ m∈ms,m.L.kind=1∧m.L.n=1∧m.L.tb.length≤m.c2) {l:Nat} (hl:l<ms.length) (w0:World) (E:List Ent):K.Fn Tryz.prog 104 [.agg #[.slice na names.length nc,.slice la ms.length lc,.slice fa fs.length fc],.slice da ds.length dc,.int .i64 (l:Int),.int .i64 0,.func (.func 88) #[] #[]] w0 R E (fun r R' E'=>r=devV (measD ms fs ds l)∧E.Sublist E'):=by
 have hlm:=hla.len
 have hlf:=hfa.len
 have hkl:=hkd _ (nth_mem hl)
 have hokl:=hokn _ (nth_mem hl)
 have hmd:measD ms fs ds l=if (membL fs 0 (usersL fs (l:Int) fs.length))=[] then ((false,0,0),0) else if (clsGo fs ds (l:Int) zeroC (membL fs 0 (usersL fs (l:Int) fs.length))).2≠0 then ((false,0,0),(clsGo fs ds (l:Int) zeroC (membL fs 0 (usersL fs (l:Int) fs.length))).2) else delayL (nth ms l).L 0 [(clsGo fs ds (l:Int) zeroC (membL fs 0 (usersL fs (l:Int) fs.length))).1] [szL fs (membL fs 0 (usersL fs (l:Int) fs.length))]:=rfl
 obtain⟨us,hus⟩:∃ us,us=(membL fs 0 (usersL fs (l:Int) fs.length)):=⟨_,rfl⟩
 have hgv:(clsGo fs ds (l:Int) zeroC (membL fs 0 (usersL fs (l:Int) fs.length))).2=0→validB (clsGo fs ds (l:Int) zeroC (membL fs 0 (usersL fs (l:Int) fs.length))).1=true:=clsGo_valid (fun u hu=>⟨(hl4 _ (nth_mem hu)).2.2,hff _ (nth_mem hu)⟩) (fun u hu=>by have:=befS_bound (h:=(hopL (l:Int) (nth fs u).f.route).toNat) (hro _ (nth_mem hu)) hdb (hcl _ (nth_mem hu)) (by have:=hl4 _ (nth_mem hu);omega);omega) _ _ (fun x hx=>by
  obtain⟨u,rfl,hu,_⟩:=membL_mem hx
  omega) zero_nrm.valid
 refine fE 75 Tryz.func104 ?_
 refine zQ (zG ?_)
 refine zO fun b5=>?_
 refine zA fun b10=>?_
 refine zR 1 rfl (zN (zU (zQ (zQ (zG ?_)))))
 refine yB 1 ?_
 refine zR 1 rfl ?_
 refine WG.callV en73 rfl rfl qD (CallOp.mk' rfl rfl rfl rfl) (fun _=>rfl) (fun hg=>Shape_V (nc:=nc) (lc:=lc) (fc:=fc) hna hla hfa hokn hof hnl hck hd hrd hsh (fun r hr x hx=>by have:=hdb r hr x hx;omega)) ?_
 refine zR 1 rfl (zN (zU ?_))
 refine cC rfl ?_ ?_<;>intro hc0
 ·try simp only[zk] at hc0
  (simp at hc0;done)
 ·try simp only [zk] at hc0
  refine zK (zU (zQ (zQ (zG (zR 3 rfl ?_)))))
  refine yP ?_
  refine yP ?_
  refine yG (Rd.addC (Rd.blkC 1 rfl) _) ?_
  refine yP ?_
  refine yP ?_
  refine yO ?_
  refine zR 1 rfl ?_
  refine yP ?_
  refine yP ?_
  refine yO ?_
  refine zR 1 rfl ?_
  refine yP ?_
  refine yP ?_
  refine yG (Rd.addC (Rd.blkC 1 rfl) _) ?_
  refine yP ?_
  refine gI ?_
  refine yP ?_
  refine yJ (r:=by apply Rd.addC;((apply RS.rdC;assumption))) (k:=?_)
  refine yP ?_
  refine yO ?_
  refine zN (zU ?_)
  refine cC rfl ?_ ?_<;>intro hc1
  ·try simp only[zk] at hc1
   exfalso;omega
  ·try simp only[zk] at hc1
   refine zK (zU (zQ (zQ (zG ?_))))
   refine yB 1 ?_
   refine zR 2 rfl ?_
   refine WL.call en50 rfl rfl qD (CallOp.mkT rfl rfl rfl rfl) (Memb_C (nc:=nc) (lc:=lc) (fc:=fc) hfa hof h8 (line:=(l:Int)) (cls:=0) w0 _) ?_
   rintro _ R1 E1 hR1 ⟨ua,uc,rfl,hua,hsub1⟩
   refine WL.subE hsub1 ?_
   refine zR 2 rfl (zN (zU ?_))
   refine cE rfl ?_ ?_<;>intro hc2
   ·
    have he:(membL fs 0 (usersL fs (l:Int) fs.length))=[]:=by rw[← List.length_eq_zero_iff];omega
    rw[if_pos he] at hmd
    refine zQ (zG ?_)
    refine yW [] ?_
    refine zE 0 ?_
    refine zR 1 rfl (zN (zU (zT (wt ?_))))
    refine zq4 (by first|exact hR14|exact hR12|exact hR1) ?_
    rw[hmd]
    exact⟨rfl,qS⟩
   ·
    have he:¬ (membL fs 0 (usersL fs (l:Int) fs.length))=[]:=fun h=>hc2 (by rw[h];rfl)
    rw[if_neg he] at hmd
    refine zK (zU (zQ (zG ?_)))
    refine yB 1 ?_
    refine zR 2 rfl ?_
    refine WL.call en131 rfl rfl qD (CallOp.mkT rfl rfl rfl rfl) (Contr1_C (nc:=nc) (lc:=lc) (fc:=fc) (hna.mono hR1) (hla.mono hR1) (hfa.mono hR1) (fun m hm=>(hokn m hm).mono hR1) (fun x hx=>(hof x hx).mono hR1) hnl hck (hd.mono hR1) (fun x hx=>(hrd x hx).mono hR1) hsh hdb hl4 hro hcl hff h8 hl hkl.2.1 w0 _) ?_
    rintro v2 R2 E2 hR2 ⟨hvE,hvO,hsub2⟩
    refine WL.subE hsub2 ?_
    have hR12:=hR1.trans hR2
    have hla2:=hla.mono hR12
    obtain⟨cva,cvk,er,rfl,hcs⟩:∃ (cva:Value) (cvk:Nat) (er:Int),v2=.tuple #[cva,.int .i64 er]∧((er≠0∧er=(clsGo fs ds (l:Int) zeroC (membL fs 0 (usersL fs (l:Int) fs.length))).2)∨(er=0∧(clsGo fs ds (l:Int) zeroC (membL fs 0 (usersL fs (l:Int) fs.length))).2=0∧∃ (a:Option Addr) (y:CvS),1≤cvk∧cva=.slice a [y].length cvk∧RS R2 3 encC a [y]∧RS R2 1 encI y.a y.cv.vals∧y.cv=(clsGo fs ds (l:Int) zeroC (membL fs 0 (usersL fs (l:Int) fs.length))).1)):=by
     by_cases h:(clsGo fs ds (l:Int) zeroC (membL fs 0 (usersL fs (l:Int) fs.length))).2=0
     ·obtain⟨a,k,y,hk,hv,h1,h2,h3⟩:=hvO h
      exact⟨_,k,0,hv,.inr ⟨rfl,h,a,y,hk,rfl,h1,h2,h3⟩⟩
     ·exact⟨_,0,_,hvE h,.inl ⟨h,rfl⟩⟩
    refine zR 5 rfl (zN (zU (zQ (zQ (zG (zR 2 rfl (zN (zU ?_))))))))
    refine cN rfl ?_ ?_<;>intro hc3
    ·
     obtain⟨hne,rfl⟩:er≠0∧er=(clsGo fs ds (l:Int) zeroC (membL fs 0 (usersL fs (l:Int) fs.length))).2:=by
      rcases hcs with h|h
      ·exact h
      ·exact absurd h.1 hc3
     rw[if_pos hne] at hmd
     refine zQ (zG ?_)
     refine yW [] ?_
     refine zR 1 rfl ?_
     refine zE 0 ?_
     refine zR 1 rfl (zN (zU (zT (wt ?_))))
     refine zq4 (by first|exact hR14|exact hR12|exact hR1) ?_
     rw[hmd]
     exact⟨rfl,qS⟩
    ·
     obtain⟨he0,hz0,ya,y,hyk,rfl,hy1,hy2,hy3⟩:er=0∧(clsGo fs ds (l:Int) zeroC (membL fs 0 (usersL fs (l:Int) fs.length))).2=0∧∃ (a:Option Addr) (y:CvS),1≤cvk∧cva=.slice a [y].length cvk∧RS R2 3 encC a [y]∧RS R2 1 encI y.a y.cv.vals∧y.cv=(clsGo fs ds (l:Int) zeroC (membL fs 0 (usersL fs (l:Int) fs.length))).1:=by
      rcases hcs with h|h
      ·exact absurd h.1 (by omega)
      ·exact h
     rw[if_neg (fun h=>h hz0)] at hmd
     have hyv:=hgv hz0
     rw[← hy3] at hyv hmd
     refine zK (zU (zQ ?_))
     refine W.regionH _ (ES:=[.blk b5 [.slice na names.length nc,.slice la ms.length lc,.slice fa fs.length fc]]) mixed ?_
     refine tP 0 ?_
     refine tP 1 ?_
     refine tL 2 (Rd.add (Rd.blk 0 rfl) _) ?_
     refine tP 3 ?_
     refine tI 4 ?_
     refine tD 5 (r:=by((apply RS.rdD;assumption;((try dsimp only)<;>omega)))) (k:=?_)
     refine tP 6 ?_
     refine tP 7 ?_
     refine tL 8 (Rd.blk 0 rfl) ?_
     refine tP 9 ?_
     refine WA.callG 10 rfl qK en89 rfl (by first|rfl|decide) rfl qD (CallOp.mkT rfl rfl rfl rfl) (Sizes1_C (nc:=nc) (lc:=lc) (fc:=fc) (hna.mono hR12) (hla.mono hR12) (hfa.mono hR12) (fun m hm=>(hokn m hm).mono hR12) (fun x hx=>(hof x hx).mono hR12) hnl hck h8 hl hkl.2.1 w0 _) ?_
     rintro _ R3 E3 hR3 ⟨sa,sk,hsk,rfl,hsz,hsub3⟩
     have hR13:=hR12.trans hR3
     refine⟨hR3,List.Sublist.trans qS hsub3,?_⟩
     refine WA.subE hsub3 ?_
     refine WA.callG 11 rfl qK en88 rfl (by first|rfl|decide) rfl qD (CallOp.mkT rfl rfl rfl rfl) (DelaySrv1_C (ls:=[y]) (L:=(nth ms l).L) (hokl.1.mono hR13) rfl (hokl.2.mono hR13) rfl (hy1.mono hR3) rfl hyk (fun x hx=>by
      rw[List.mem_singleton] at hx
      subst hx
      exact⟨hy2.mono hR3,by have:=(stN_lt hyv).2.2;omega⟩) hsz rfl hsk hkl.2.2 hkl.1 w0 _) ?_
     rintro _ R4 E4 hR4 ⟨rfl,hsub4⟩
     have hR34:=hR3.trans hR4
     have hR14:=hR13.trans hR4
     refine⟨hR34,List.Sublist.trans qS hsub4,?_⟩
     refine WA.subE hsub4 ?_
     rw[show delayL (nth ms l).L 0 ([y].map CvS.cv) [szL fs (membL fs 0 (usersL fs (l:Int) fs.length))]=measD ms fs ds l from hmd.symm]
     unfold devV
     refine tP 12 ?_
     refine tP 13 ?_
     refine zCE 14 0 ?_
     refine tP 15 ?_
     refine WA.done qK ?_
     refine zU (zT ?_)
     refine zq4 (by first|exact hR14|exact hR12|exact hR1) ?_
     rw[hmd]
     exact⟨rfl,qS⟩

set_option maxHeartbeats 1000000 in
theorem HDelay_C {R:Ro} {na la fa:Option Addr} {nc lc fc:Nat} {names:List (List UInt8)} {ms:List LnM} {fs:List FlM} (hna:K.RS R 1 encT na names) (hla:K.RS R 5 encLn la ms) (hfa:K.RS R 8 encFl fa fs) (hokn:∀ m∈ms,OkLn R m) (hof:∀ m∈fs,OkFl R m) (hnl:∀ x∈names,x.length≤9223372036854775807) (hck:chkNet names (ms.map (·.L)) (fs.map (·.f))=0) {da:Option Addr} {dc:Nat} {ds:List Sl} (hd:RS R 1 encS da ds) (hrd:∀ r∈ds,RS R 1 encI r.a r.xs) (hsh:ShD ds ms) (hdb:∀ r∈ds,∀ x∈r.xs,0≤x∧x≤400) (hl4:∀ m∈fs,m.f.route.length≤4∧m.f.route.length≤m.c1∧validB m.f.cv=true) (hro:∀ m∈fs,∀ l∈m.f.route,0≤l∧l<ds.length) (hcl:∀ m∈fs,∀ r∈ds,0≤m.f.cls∧m.f.cls<r.xs.length) (hff:∀ m∈fs,finB m.f.cv=true) (h8:fs.length≤100) (hkd:∀ m∈ms,m.L.kind=1∧m.L.n=1∧m.L.tb.length≤m.c2) {l:Nat} (hl:l<ms.length) (w0:World) (E:List Ent):K.Fn Tryz.prog 75 [.agg #[.slice na names.length nc,.slice la ms.length lc,.slice fa fs.length fc],.slice da ds.length dc,.int .i64 (l:Int),.int .i64 0] w0 R E (fun r R' E'=>(∃ x e:Int,r=.tuple #[.int .i64 x,.int .i64 e]∧(if e≠0 then -1 else x)=hopD ms fs ds l)∧E.Sublist E'):=by
 have hme:=hopD_meas ms fs ds l
 refine fE 32 Tryz.func75 ?_
 refine zQ (zG ?_)
 refine zO fun b4=>?_
 refine zR 2 rfl (zN (zU (zQ (zG ?_))))
 refine yB 0 ?_
 refine zR 3 rfl ?_
 refine WL.call en104 rfl rfl qD (CallOp.mkT rfl rfl rfl rfl) (MeasD_C (nc:=nc) (lc:=lc) (fc:=fc) hna hla hfa hokn hof hnl hck hd hrd hsh hdb hl4 hro hcl hff h8 hkd hl w0 _) ?_
 rintro _ R1 E1 hR1 ⟨rfl,hsub1⟩
 refine WL.subE hsub1 ?_
 obtain⟨q,hq⟩:∃ q,q=measD ms fs ds l:=⟨_,rfl⟩
 rw[← hq] at hme ⊢
 unfold devV
 refine zR 3 rfl ?_
 refine zA fun b10=>?_
 refine zE 0 ?_
 refine zR 1 rfl (zN (zU (zQ (zQ (zG (zR 2 rfl (zN (zU ?_))))))))
 refine cN rfl ?_ ?_<;>intro hc0
 ·
  rw[if_pos hc0] at hme
  refine zQ (zG (zR 3 rfl (zN (zU (zT (wt ?_))))))
  refine zq2 (hR1) ?_
  exact⟨⟨_,_,rfl,by rw[if_pos hc0,hme]⟩,qS⟩
 ·
  rw[if_neg (by omega)] at hme
  refine zK (zU (zQ (zQ (zG (zR 1 rfl ?_)))))
  refine yM 0 ?_
  refine zR 1 rfl ?_
  refine yP ?_
  refine yG (Rd.addC (Rd.blkC 0 rfl) _) ?_
  refine yP ?_
  refine yO ?_
  refine zN (zU ?_)
  refine cC rfl ?_ ?_<;>intro hc1
  ·try simp only[zk] at hc1
   rw[if_pos hc1] at hme
   refine zQ (zG (zR 2 rfl (zN (zU (zT (wt ?_))))))
   refine zq2 (hR1) ?_
   exact⟨⟨_,_,rfl,by rw[if_pos (by decide),hme]⟩,qS⟩
  ·try simp only[zk] at hc1
   have hn:¬ (q.1.1=true∨400<q.1.2.1):=fun h=>by
    rcases h with h|h
    ·rw[hc1.1] at h;cases h
    ·omega
   rw[if_neg hn] at hme
   refine zK (zU (zQ (zG (zR 1 rfl ?_))))
   refine yM 0 ?_
   refine zR 2 rfl (zN (zU (zT ?_)))
   refine zq2 (hR1) ?_
   exact⟨⟨_,_,rfl,by rw[if_neg (by decide),hme]⟩,qS⟩

set_option maxHeartbeats 1000000 in
theorem StepF_C {R:Ro} {na la fa:Option Addr} {nc lc fc:Nat} {names:List (List UInt8)} {ms:List LnM} {fs:List FlM} (hna:K.RS R 1 encT na names) (hla:K.RS R 5 encLn la ms) (hfa:K.RS R 8 encFl fa fs) (hokn:∀ m∈ms,OkLn R m) (hof:∀ m∈fs,OkFl R m) (hnl:∀ x∈names,x.length≤9223372036854775807) (hck:chkNet names (ms.map (·.L)) (fs.map (·.f))=0) {da:Option Addr} {dc:Nat} {ds:List Sl} (hd:RS R 1 encS da ds) (hrd:∀ r∈ds,RS R 1 encI r.a r.xs) (hsh:ShD ds ms) (hdb:∀ r∈ds,∀ x∈r.xs,0≤x∧x≤400) (hl4:∀ m∈fs,m.f.route.length≤4∧m.f.route.length≤m.c1∧validB m.f.cv=true) (hro:∀ m∈fs,∀ l∈m.f.route,0≤l∧l<ds.length) (hcl:∀ m∈fs,∀ r∈ds,0≤m.f.cls∧m.f.cls<r.xs.length) (hff:∀ m∈fs,finB m.f.cv=true) (h8:fs.length≤100) (hkd:∀ m∈ms,m.L.kind=1∧m.L.n=1∧m.L.tb.length≤m.c2) {b2 b3:Nat} (h2:R b2=some [.slice na names.length nc,.slice la ms.length lc,.slice fa fs.length fc]) (h3:R b3=some [.slice da ds.length dc]) {l:Nat} (hl:l<ms.length) (w0:World) (E:List Ent):K.Fn Tryz.prog 74 [.int .i64 (l:Int),.int .i64 0,.pointer (some ⟨b2,0,none⟩),.pointer (some ⟨b3,0,none⟩)] w0 R E (fun r R' E'=>r=.int .i64 (hopD ms fs ds l)∧E.Sublist E'):=by
 refine fE 20 Tryz.func74 ?_
 refine zQ (zG (zR 1 rfl (zN (zU (zQ (zG ?_))))))
 refine yD (r:=by exact Rd.ro h2) (k:=?_)
 refine yD (r:=by exact Rd.ro h3) (k:=?_)
 refine zR 2 rfl ?_
 refine WL.call en75 rfl rfl qD (CallOp.mkT rfl rfl rfl rfl) (HDelay_C (nc:=nc) (lc:=lc) (fc:=fc) hna hla hfa hokn hof hnl hck hd hrd hsh hdb hl4 hro hcl hff h8 hkd hl w0 _) ?_
 rintro _ R1 E1 hR1 ⟨⟨x,e,rfl,hxe⟩,hsub1⟩
 refine WL.subE hsub1 ?_
 refine zR 5 rfl (zN (zU (zQ (zQ (zG (zR 2 rfl (zN (zU ?_))))))))
 refine cN rfl ?_ ?_<;>intro hc0
 ·
  rw[if_pos hc0] at hxe
  refine zQ (zG (zR 1 rfl (zN (zU (zT (wt ?_))))))
  refine zq1 (hR1) ?_
  exact⟨by rw[← hxe];rfl,qS⟩
 ·
  rw[if_neg (by omega)] at hxe
  refine zK (zU (zQ (zG (zR 2 rfl (zN (zU (zT ?_)))))))
  refine zq1 (hR1) ?_
  exact⟨by rw[← hxe];rfl,qS⟩
theorem ZeroF_C {R:Ro} {x y:Int} (w0:World) (E:List Ent):K.Fn Tryz.prog 46 [.int .i64 x,.int .i64 y] w0 R E (fun r R' E'=>r=.int .i64 0∧E.Sublist E'):=by
 refine fE 5 Tryz.func46 ?_
 refine zQ (zG (zR 1 rfl (zN (zU (zQ (zG (zR 1 rfl (zN (zU (zT ?_))))))))))
 refine zr1 ?_
 exact⟨rfl,qS⟩

set_option maxHeartbeats 2000000 in
theorem Fill_C {R:Ro} {na la fa:Option Addr} {nc lc fc nn fn:Nat} {ms:List LnM} (hla:K.RS R 5 encLn la ms) (hn1:∀ m∈ms,m.L.n=1) (h8:ms.length≤100) {g:FuncId} {fi ca:Array Value} {G:Nat→Int} (heg:Enters Tryz.prog g) (hF:∀ {R1:Ro},RLe R R1→∀ i,i<ms.length→∀ (w0:World) (E:List Ent),K.Fn Tryz.prog g (fi.toList++[.int .i64 (i:Int),.int .i64 0]++ca.toList) w0 R1 E (fun r R' E'=>r=.int .i64 (G i)∧E.Sublist E')) (w0:World) (E:List Ent):K.Fn Tryz.prog 45 [.agg #[.slice na nn nc,.slice la ms.length lc,.slice fa fn fc],.func (.func g) fi ca] w0 R E (fun v R' E'=>(∃ (a:Option Addr) (k:Nat) (rows:List Sl),v=.slice a rows.length k∧RS R' 1 encS a rows∧(∀ r∈rows,RS R' 1 encI r.a r.xs)∧rows.length=ms.length∧∀ i,i<ms.length→(nth rows i).xs=[G i])∧E.Sublist E'):=by
 have hlm:=hla.len
 refine fE 48 Tryz.func45 ?_
 refine zQ (zG ?_)
 refine zO fun b2=>?_
 refine zR 1 rfl (zN (zU (zQ (zG (zR 1 rfl ?_)))))
 refine yM 0 ?_
 refine zR 1 rfl ?_
 refine WL.ef rfl rfl qD (Ef.makeSliceD (enc:=encS) (⟨none,0,[]⟩:Sl) tab_ok rfl rfl rfl rfl rfl rfl qX qX qX qX qD rfl rfl (fun a12=>?_))
 refine zR 1 rfl (zN (zU (zQ (zQ (zG (zR 1 rfl ?_))))))
 refine yM 1 ?_
 refine zR 2 rfl (zN (zU (zB ?_)))
 refine W.loopR (β:=Nat × List Sl × Ro) (fun (i,rows,Rk)=>i≤ms.length∧RLe R Rk∧rows.length=ms.length∧∀ j,j<i→(nth rows j).xs=[G j]∧RS Rk 1 encI (nth rows j).a (nth rows j).xs) (fun (i,rows,Rk)=>[(16,true,.int .i64 (i:Int))]) [1,5,14,15] [_,_,_,_] [] _ rfl (fun (i,rows,Rk)=>[(0,.sl 22 1 (some ⟨a12,0,none⟩) ms.length (rows.map encS))]) (fun (i,rows,Rk)=>Rk) (fun (i,rows,Rk)=>ms.length - i) ((0,List.replicate ms.length ⟨none,0,[]⟩,R)) (⟨Nat.zero_le _,RLe.refl _,List.length_replicate,fun j hj=>absurd hj (Nat.not_lt_zero j)⟩) ⟨rfl,rfl,rfl,rfl,rfl,rfl⟩ (RLe.refl _) qS ?_
 intro zz hst
 obtain⟨i,rows,Rk⟩:=zz
 obtain⟨hi,hRk,hrl,hrw⟩:=hst
 have hla:=hla.mono hRk
 refine zQ (zG (zR 1 rfl (zN (zU (zQ ?_)))))
 refine cD rfl ?_ ?_<;>intro hc0
 ·
  have hil:i<ms.length:=by omega
  have hli:=hn1 _ (nth_mem hil)
  refine zK (zU (zQ (zB (zQ (zG (zR 1 rfl ?_))))))
  refine yI ?_
  refine yD (r:=by((apply RS.rdD;assumption;((try dsimp only)<;>omega)))) (k:=?_)
  refine zA fun b7=>?_
  refine zR 1 rfl ?_
  refine zE 0 ?_
  refine zN (zU (zQ (zG (zR 3 rfl ?_))))
  refine yM 0 ?_
  refine WL.ef rfl rfl qD (Ef.makeSliceD (enc:=encI) 0 tab_ok rfl rfl rfl rfl rfl rfl qX qX qX qX qD rfl rfl (fun a25=>?_))
  rw[hli]
  refine yI ?_
  refine WL.efN rfl rfl (Ef.storeD (enc:=encS) (xs:=rows) (⟨some ⟨a25,0,none⟩,1,[0]⟩:Sl) 2 tab_ok rfl rfl rfl rfl rfl (by(try dsimp only);omega) rfl rfl rfl rfl ?_)
  have hsl:(rows.set i (⟨some ⟨a25,0,none⟩,1,[0]⟩:Sl)).length=ms.length:=by rw[List.length_set];exact hrl
  refine zN (zU (zQ (zG (zR 2 rfl ?_))))
  refine yI ?_
  refine yD (r:=by(exact Rd.slD 2 rfl qX)) (k:=?_)
  rw[nth_set_self (by omega),show (⟨some ⟨a25,0,none⟩,1,[0]⟩:Sl).xs.length=1 from rfl]
  refine zR 2 rfl (zN (zU (zB ?_)))
  refine W.loopR (β:=Nat × Int × Ro) (fun (c,x,Rm)=>c≤1∧RLe Rk Rm∧(c=1→x=G i)) (fun (c,x,Rm)=>[(32,true,.int .i64 (c:Int))]) [1,5,6,14,15,16,31] [_,_,_,_,_,_,_] [] _ rfl (fun (c,x,Rm)=>[(0,.sl 3 1 (some ⟨a25,0,none⟩) 1 ([x].map encI))]) (fun (c,x,Rm)=>Rm) (fun (c,x,Rm)=>1 - c) ((0,0,Rk)) (⟨by omega,RLe.refl _,fun h=>absurd h qD⟩) ⟨rfl,rfl,rfl,rfl,rfl,rfl,rfl,rfl,rfl⟩ (RLe.refl _) qS ?_
  intro zz2 hst
  obtain⟨c,x,Rm⟩:=zz2
  obtain⟨hc,hRm,hx⟩:=hst
  refine zQ (zG (zR 1 rfl (zN (zU (zQ ?_)))))
  refine cD rfl ?_ ?_<;>intro hc1
  ·
   obtain rfl:c=0:=by omega
   refine zK (zU (zQ (zB (zQ (zG (zR 2 rfl (zN (zU ?_))))))))
   refine W.regionH _ (ES:=[.sl 22 1 (some ⟨a12,0,none⟩) ms.length ((rows.set i ⟨some ⟨a25,0,none⟩,1,[0]⟩).map encS)]) mixed ?_
   refine tP 0 ?_
   refine tP 1 ?_
   refine tI 2 ?_
   refine tD 3 (r:=by(exact Rd.slD 0 rfl qX)) (k:=?_)
   refine tP 4 ?_
   refine tP 5 ?_
   refine tP 6 ?_
   refine tP 7 ?_
   refine WA.callG 8 rfl qK heg rfl (by first|rfl|decide) rfl qD (CallOp.mkT rfl rfl rfl rfl) (hF (hRk.trans hRm) i hil w0 _) ?_
   rintro _ R4 E4 hR4 ⟨rfl,hsub4⟩
   refine⟨hR4,List.Sublist.trans qS hsub4,?_⟩
   refine WA.subE hsub4 ?_
   rw[nth_set_self (by omega),show (⟨some ⟨a25,0,none⟩,1,[0]⟩:Sl).xs.length=1 from rfl]
   refine WA.yl 9 rfl qK rfl rfl qD (Yl.indexN tab_ok rfl rfl rfl rfl rfl rfl (fun _=>rfl) qN qH) qS qR ?_
   refine WA.effN 10 rfl (by kernel_rfl) rfl rfl (Ef.storeD (enc:=encI) (xs:=[x]) (G i) 0 tab_ok rfl rfl rfl rfl rfl (by simp) rfl rfl rfl rfl ?_)
   refine⟨qR,qS,?_⟩
   refine WA.done qK ?_
   refine zL (zU (zG ?_))
   refine yA ?_
   refine zR 1 rfl (zN ?_)
   refine WE.again ((1,G i,R4)) (⟨by(try dsimp only);omega,hRm.trans hR4,fun _=>rfl⟩) (by(try dsimp only);omega) ⟨rfl,rfl,rfl,rfl,rfl,rfl,rfl,rfl,rfl⟩ (RLe.refl _) qS
  ·
   obtain rfl:c=1:=by omega
   obtain rfl:=hx rfl
   refine W.freeze (enc:=encI) (xs:=[G i]) 0 rfl ?_
   intro R3 hR3 hq3
   refine zX ?_
   refine wx (wx (zY (zL (zU (zG ?_)))))
   refine yA ?_
   refine zR 1 rfl (zN ?_)
   rw[show (rows.set i (⟨some ⟨a25,0,none⟩,1,[0]⟩:Sl)).map encS=(rows.set i (⟨some ⟨a25,0,none⟩,1,[G i]⟩:Sl)).map encS from by rw[List.map_set,List.map_set];rfl]
   refine WE.again ((i+1,rows.set i ⟨some ⟨a25,0,none⟩,1,[G i]⟩,R3)) (⟨by(try dsimp only);omega,hRk.trans (hRm.trans hR3),by rw[List.length_set];exact hrl,fun j hj=>by
    by_cases e:i=j
    ·subst e;rw[nth_set_self (by omega)];exact⟨rfl,hq3⟩
    ·rw[nth_set_ne e];have h:=hrw j (by omega);exact⟨h.1,h.2.mono (hRm.trans hR3)⟩⟩) (by(try dsimp only);omega) ⟨rfl,rfl,rfl,rfl,rfl,rfl⟩ (RLe.refl _) qS
 ·
  obtain rfl:i=ms.length:=by omega
  refine W.freeze (enc:=encS) (xs:=rows) 0 rfl ?_
  intro R2 hR2 hqs
  refine zX ?_
  refine wx (wx (zY (zU (zQ (zG (zR 2 rfl (zN (zU (zT ?_)))))))))
  refine zq1 (by first|exact hRk.trans hR2) ?_
  exact⟨⟨_,_,rows,by rw[hrl];rfl,hqs,fun r hr=>by
   obtain⟨j,hj,rfl⟩:=List.getElem_of_mem hr
   rw[← nth_eq hj]
   exact(hrw j qO).2.mono hR2,hrl,fun j hj=>(hrw j hj).1⟩,qS⟩

set_option maxHeartbeats 1000000 in
theorem Step_C {R:Ro} {na la fa:Option Addr} {nc lc fc:Nat} {names:List (List UInt8)} {ms:List LnM} {fs:List FlM} (hna:K.RS R 1 encT na names) (hla:K.RS R 5 encLn la ms) (hfa:K.RS R 8 encFl fa fs) (hokn:∀ m∈ms,OkLn R m) (hof:∀ m∈fs,OkFl R m) (hnl:∀ x∈names,x.length≤9223372036854775807) (hck:chkNet names (ms.map (·.L)) (fs.map (·.f))=0) {da:Option Addr} {dc:Nat} {ds:List Sl} (hd:RS R 1 encS da ds) (hrd:∀ r∈ds,RS R 1 encI r.a r.xs) (hsh:ShD ds ms) (hdb:∀ r∈ds,∀ x∈r.xs,0≤x∧x≤400) (hl4:∀ m∈fs,m.f.route.length≤4∧m.f.route.length≤m.c1∧validB m.f.cv=true) (hro:∀ m∈fs,∀ l∈m.f.route,0≤l∧l<ds.length) (hcl:∀ m∈fs,∀ r∈ds,0≤m.f.cls∧m.f.cls<r.xs.length) (hff:∀ m∈fs,finB m.f.cv=true) (h8:fs.length≤100) (hkd:∀ m∈ms,m.L.kind=1∧m.L.n=1∧m.L.tb.length≤m.c2) (hm8:ms.length≤100) (w0:World) (E:List Ent):K.Fn Tryz.prog 48 [.agg #[.slice na names.length nc,.slice la ms.length lc,.slice fa fs.length fc],.slice da ds.length dc] w0 R E (fun v R' E'=>(∃ (a:Option Addr) (k:Nat) (rows:List Sl),v=.tuple #[.slice a rows.length k,.int .i64 0]∧RS R' 1 encS a rows∧(∀ r∈rows,RS R' 1 encI r.a r.xs)∧rows.length=ms.length∧∀ i,i<ms.length→(nth rows i).xs=[hopD ms fs ds i])∧E.Sublist E'):=by
 have hlm:=hla.len
 refine fE 13 Tryz.func48 ?_
 refine zQ (zG ?_)
 refine zO fun b2=>?_
 refine zO fun b3=>?_
 refine zR 2 rfl (zN (zU (zQ (zQ (zG ?_)))))
 refine yB 1 ?_
 refine yB 0 ?_
 refine WG.callV en73 rfl rfl qD (CallOp.mk' rfl rfl rfl rfl) (fun _=>rfl) (fun hg=>Shape_V (nc:=nc) (lc:=lc) (fc:=fc) hna hla hfa hokn hof hnl hck hd hrd hsh (fun r hr x hx=>by have:=hdb r hr x hx;omega)) ?_
 refine zR 1 rfl (zN (zU ?_))
 refine cC rfl ?_ ?_<;>intro hc0
 ·try simp only[zk] at hc0
  (simp at hc0;done)
 ·try simp only[zk] at hc0
  refine zK (zU ?_)
  refine W.freezeBlk 1 rfl ?_
  intro R1 hR1 h2
  refine W.freezeBlk 0 rfl ?_
  intro R2 hR2 h3
  have h2:=hR2 _ _ h2
  have hR12:=hR1.trans hR2
  refine zQ (zG ?_)
  refine yD (r:=by exact Rd.ro h2) (k:=?_)
  refine zR 1 rfl ?_
  refine WL.call en45 rfl rfl qD (CallOp.mkT rfl rfl rfl rfl) (Fill_C (fi:=#[]) (ca:=#[.pointer (some ⟨b2,0,none⟩),.pointer (some ⟨b3,0,none⟩)]) (G:=fun i=>hopD ms fs ds i) (hla.mono hR12) (fun m hm=>(hkd m hm).2.1) hm8 en74 (fun {R3} h23 i hi w0 E=>StepF_C (nc:=nc) (lc:=lc) (fc:=fc) (hna.mono (hR12.trans h23)) (hla.mono (hR12.trans h23)) (hfa.mono (hR12.trans h23)) (fun m hm=>(hokn m hm).mono (hR12.trans h23)) (fun x hx=>(hof x hx).mono (hR12.trans h23)) hnl hck (hd.mono (hR12.trans h23)) (fun x hx=>(hrd x hx).mono (hR12.trans h23)) hsh hdb hl4 hro hcl hff h8 hkd (h23 _ _ h2) (h23 _ _ h3) hi w0 E) w0 _) ?_
  rintro _ R4 E4 hR4 ⟨⟨a,k,rows,rfl,q1,q2,q3,q4⟩,hsub4⟩
  refine WL.subE hsub4 ?_
  refine zR 2 rfl (zN (zU (zT ?_)))
  refine zq2 (hR12.trans hR4) ?_
  exact⟨⟨a,k,rows,rfl,q1,q2,q3,q4⟩,qS⟩
set_option maxHeartbeats 1000000 in
theorem HZero_C {R:Ro} {na la fa:Option Addr} {nc lc fc:Nat} {names:List (List UInt8)} {ms:List LnM} {fs:List FlM} (hna:K.RS R 1 encT na names) (hla:K.RS R 5 encLn la ms) (hfa:K.RS R 8 encFl fa fs) (hokn:∀ m∈ms,OkLn R m) (hof:∀ m∈fs,OkFl R m) (hnl:∀ x∈names,x.length≤9223372036854775807) (hck:chkNet names (ms.map (·.L)) (fs.map (·.f))=0) (hn1:∀ m∈ms,m.L.n=1) (hm8:ms.length≤100) (w0:World) (E:List Ent):K.Fn Tryz.prog 23 [.agg #[.slice na names.length nc,.slice la ms.length lc,.slice fa fs.length fc]] w0 R E (fun v R' E'=>(∃ (a:Option Addr) (k:Nat) (rows:List Sl),v=.slice a rows.length k∧RS R' 1 encS a rows∧(∀ r∈rows,RS R' 1 encI r.a r.xs)∧rows.length=ms.length∧∀ i,i<ms.length→(nth rows i).xs=[0])∧E.Sublist E'):=by
 have hlm:=hla.len
 refine fE 8 Tryz.func23 ?_
 refine zQ (zG ?_)
 refine zO fun b1=>?_
 refine zR 1 rfl (zN (zU (zQ (zQ (zG ?_)))))
 refine yB 0 ?_
 refine WG.callV (v:=.int .i64 0) en22 rfl rfl qD (CallOp.mk' rfl rfl rfl rfl) (fun _=>rfl) (fun hg=>by
  have h:=NCheck_V (nc:=nc) (lc:=lc) (fc:=fc) hna hla hfa hokn hof hnl
  rw[hck] at h
  exact h) ?_
 refine zR 1 rfl (zN (zU ?_))
 refine cN rfl ?_ ?_<;>intro hc0
 ·
  exact absurd rfl hc0
 ·
  refine zK (zU (zQ (zG ?_)))
  refine yB 0 ?_
  refine WL.call en45 rfl rfl qD (CallOp.mkT rfl rfl rfl rfl) (Fill_C (fi:=#[]) (ca:=#[]) (G:=fun _=>0) hla hn1 hm8 en46 (fun {R3} h23 i hi w0 E=>ZeroF_C w0 E) w0 _) ?_
  rintro _ R4 E4 hR4 ⟨⟨a,k,rows,rfl,q1,q2,q3,q4⟩,hsub4⟩
  refine WL.subE hsub4 ?_
  refine zR 1 rfl (zN (zU (zT ?_)))
  refine zq1 (hR4) ?_
  exact⟨⟨a,k,rows,rfl,q1,q2,q3,q4⟩,qS⟩

theorem SameD_V {R:Ro} {aa ba:Option Addr} {ac bc:Nat} {r1 r2:List Sl} {xs ys:List Int} (ha:RS R 1 encS aa r1) (hb:RS R 1 encS ba r2) (hra:∀ r∈r1,RS R 1 encI r.a r.xs) (hrb:∀ r∈r2,RS R 1 encI r.a r.xs) (hl1:r1.length=xs.length) (hl2:r2.length=xs.length) (hl3:ys.length=xs.length) (hx:∀ i,i<xs.length→(nth r1 i).xs=[nth xs i]) (hy:∀ i,i<xs.length→(nth r2 i).xs=[nth ys i]):FnV Tryz.prog 26 [.slice aa r1.length ac,.slice ba r2.length bc] R (.bool (decide (xs=ys))):=by
 have hal:=ha.len
 have hbl:=hb.len
 refine FnV.ofOwn (fun w0 hb0=>?_)
 refine fE 37 Tryz.func26 ?_
 refine zQ (zG (zR 1 rfl (zN (zU (zQ (zQ (zG (zR 3 rfl (zN (zU (zB ?_)))))))))))
 refine W.loopK (β:=Nat) (fun i=>i≤xs.length∧∀ j,j<i→nth xs j=nth ys j) (fun i=>[(9,true,.int .i64 (i:Int))]) [0,1,8] [_,_,_] [] _ rfl (fun i=>[]) (fun i=>xs.length - i) (0) (⟨Nat.zero_le _,fun j hj=>absurd hj (Nat.not_lt_zero j)⟩) ⟨rfl,rfl,rfl,rfl,rfl⟩ qS ?_
 intro i hst
 obtain⟨hi,hpre⟩:=hst
 refine zQ (zG (zR 1 rfl (zN (zU (zQ ?_)))))
 refine cD rfl ?_ ?_<;>intro hc0
 ·
  have hil:i<xs.length:=by omega
  have h1:=hra _ (nth_mem (xs:=r1) (k:=i) (by omega))
  have h2:=hrb _ (nth_mem (xs:=r2) (k:=i) (by omega))
  have e1:=hx i hil
  have e2:=hy i hil
  have n1:(nth r1 i).xs.length=1:=by rw[e1];rfl
  have n2:(nth r2 i).xs.length=1:=by rw[e2];rfl
  refine zK (zU (zQ (zB (zQ (zG (zR 2 rfl (zN (zU (zQ (zG (zR 2 rfl ?_)))))))))))
  refine yI ?_
  refine yD (r:=by((apply RS.rdD;assumption;((try dsimp only)<;>omega)))) (k:=?_)
  refine zR 2 rfl (zN (zU (zB ?_)))
  refine W.loopK (β:=Nat) (fun c=>c≤1∧(c=1→nth xs i=nth ys i)) (fun c=>[(17,true,.int .i64 (c:Int))]) [0,1,5,8,9,16] [_,_,_,_,_,_] [] _ rfl (fun c=>[]) (fun c=>1 - c) (0) (⟨by omega,fun h=>absurd h qD⟩) ⟨rfl,rfl,rfl,rfl,rfl,rfl,rfl,rfl⟩ qS ?_
  intro c hst
  obtain⟨hc,hq⟩:=hst
  refine zQ (zG (zR 1 rfl (zN (zU (zQ ?_)))))
  refine cD rfl ?_ ?_<;>intro hc1
  ·
   obtain rfl:c=0:=by omega
   refine zK (zU (zQ (zB (zQ (zG (zR 2 rfl (zN (zU (zQ ?_)))))))))
   refine W.regionQ _ mixed qK ?_
   refine zR 2 rfl ?_
   refine yI ?_
   refine yD (r:=by((apply RS.rdD;assumption;((try dsimp only)<;>omega)))) (k:=?_)
   refine zR 1 rfl ?_
   refine yI ?_
   refine yD (r:=by((apply RS.rdD;assumption;((try dsimp only)<;>omega)))) (k:=?_)
   refine zR 2 rfl ?_
   refine yI ?_
   refine yD (r:=by((apply RS.rdD;assumption;((try dsimp only)<;>omega)))) (k:=?_)
   refine zR 1 rfl ?_
   refine yI ?_
   refine yD (r:=by((apply RS.rdD;assumption;((try dsimp only)<;>omega)))) (k:=?_)
   rw[show nth (nth r1 i).xs 0=nth xs i by rw[e1];rfl,show nth (nth r2 i).xs 0=nth ys i by rw[e2];rfl]
   refine zR 1 rfl (zN (zU ?_))
   refine cN rfl ?_ ?_<;>intro hc2
   ·
    have hne:xs≠ys:=fun h=>hc2 (by rw[h])
    refine zQ (zG (zR 1 rfl (zN (zU (zT (wb (wt (wt (wb (wb (wt (wt (wb (wt ?_))))))))))))))
    refine zr1 ?_
    rw[decide_eq_false hne]
    rfl
   ·
    refine zK (zL (zU (zG ?_)))
    refine yA ?_
    refine zR 1 rfl (zN ?_)
    refine WE.again (1) (⟨Nat.le_refl _,fun _=>hc2⟩) (by(try dsimp only);omega) ⟨rfl,rfl,rfl,rfl,rfl,rfl,rfl,rfl⟩ (RLe.refl _) qS
  ·
   obtain rfl:c=1:=by omega
   have hqi:=hq rfl
   refine zX ?_
   refine wx (wx (zY (zL (zU (zG ?_)))))
   refine yA ?_
   refine zR 1 rfl (zN ?_)
   refine WE.again (i+1) (⟨by omega,fun j hj=>by
    by_cases e:j=i
    ·subst e;exact hqi
    ·exact hpre j (by omega)⟩) (by(try dsimp only);omega) ⟨rfl,rfl,rfl,rfl,rfl⟩ (RLe.refl _) qS
 ·
  have heq:xs=ys:=by
   refine List.ext_getElem qO (fun j h1 h2=>?_)
   rw[← nth_eq h1,← nth_eq h2]
   exact hpre j qO
  refine zX ?_
  refine wx (wx (zY (zU (zQ (zG (zR 1 rfl (zN (zU (zT ?_)))))))))
  refine zr1 ?_
  rw[decide_eq_true heq]
  rfl

theorem Used_C {R:Ro} {na la fa:Option Addr} {nn nc ln lc fn fc:Nat} (w0:World) (E:List Ent):K.Fn Tryz.prog 25 [.agg #[.slice na nn nc,.slice la ln lc,.slice fa fn fc]] w0 R E (fun v R' E'=>∃ b1:Nat,v=.func (.func 49) #[] #[.pointer (some ⟨b1,0,none⟩)]∧R' b1=some [.slice na nn nc,.slice la ln lc,.slice fa fn fc]∧E'=E):=by
 refine fE 4 Tryz.func25 ?_
 refine zQ (zG ?_)
 refine zO fun b1=>?_
 refine zR 1 rfl (zN (zU ?_))
 refine W.freezeBlk 0 rfl ?_
 intro R1 hR1 h1
 refine zQ (zG (zR 2 rfl (zN (zU (zT ?_)))))
 refine zq1 (hR1) ?_
 exact⟨b1,rfl,h1,rfl⟩
theorem Steps_C {R:Ro} {na la fa da:Option Addr} {nn nc ln lc fn fc dn dc:Nat} (w0:World) (E:List Ent):K.Fn Tryz.prog 24 [.agg #[.slice na nn nc,.slice la ln lc,.slice fa fn fc],.slice da dn dc] w0 R E (fun v R' E'=>∃ b2 b3:Nat,v=.func (.func 47) #[] #[.pointer (some ⟨b2,0,none⟩),.pointer (some ⟨b3,0,none⟩)]∧R' b2=some [.slice na nn nc,.slice la ln lc,.slice fa fn fc]∧E'=.blk b3 [.slice da dn dc]::E):=by
 refine fE 6 Tryz.func24 ?_
 refine zQ (zG ?_)
 refine zO fun b2=>?_
 refine zO fun b3=>?_
 refine zR 1 rfl (zN (zU ?_))
 refine W.freezeBlk 1 rfl ?_
 intro R1 hR1 h1
 refine zQ (zG (zR 2 rfl (zN (zU (zT ?_)))))
 refine zq1 (hR1) ?_
 exact⟨b2,b3,rfl,h1,rfl⟩

set_option maxHeartbeats 1000000 in
theorem Used_It {R:Ro} {na la fa:Option Addr} {nn nc lc fc:Nat} {ms:List LnM} {fs:List FlM} (hla:K.RS R 5 encLn la ms) (hfa:K.RS R 8 encFl fa fs) (hof:∀ m∈fs,OkFl R m) (hn1:∀ m∈ms,m.L.n=1) (h8:fs.length≤100) {b1:Nat} (h1:R b1=some [.slice na nn nc,.slice la ms.length lc,.slice fa fs.length fc]) :
  IterG Tryz.prog 49 [.pointer (some ⟨b1,0,none⟩)] (fun x:Nat=>[.int .i64 (x:Int),.int .i64 0]) (fun _ x _=>x<ms.length) (fun xs=>∀ l,l<ms.length→membL fs 0 (usersL fs (l:Int) fs.length)≠[]→l∈xs) (fun _=>True) R []:=by
 intro w0 lp J JX hlim hmono hY R1 E1 F hR1 hJ
 have hlm:=hla.len
 have hla:=hla.mono hR1
 have h1:=hR1 _ _ h1
 refine fE 34 Tryz.func49 ?_
 refine zQ (zG (zR 1 rfl ?_))
 refine yD (r:=by exact Rd.add (Rd.ro h1) _) (k:=?_)
 refine zR 2 rfl (zN (zU (zB ?_)))
 refine W.loop (β:=Nat × List Nat × Ro × List Ent) (fun (k,pre,Rk,Ek)=>k≤ms.length∧RLe R1 Rk∧J pre Rk Ek∧∀ l,l<k→membL fs 0 (usersL fs (l:Int) fs.length)≠[]→l∈pre) (fun (k,pre,Rk,Ek)=>[(0,true,.func (.yield lp) #[] #[]),(1,true,.pointer (some ⟨b1,0,none⟩)),(7,true,.slice la ms.length lc),(8,true,.int .i64 (ms.length:Int)),(9,true,.int .i64 (k:Int))]) (fun (k,pre,Rk,Ek)=>Rk) (fun (k,pre,Rk,Ek)=>Ek++F) (fun (k,pre,Rk,Ek)=>ms.length - k) ((0,[],R1,E1)) (⟨Nat.zero_le _,RLe.refl _,hJ,fun l hl=>absurd hl (Nat.not_lt_zero l)⟩) ⟨rfl,rfl,rfl,rfl,rfl,rfl⟩ (RLe.refl _) (List.Sublist.refl _) ?_
 intro st hst
 obtain⟨k,pre,Rk,Ek⟩:=st
 obtain⟨hk,hRk,hJk,hpre⟩:=hst
 dsimp only at hk hRk hJk hpre ⊢
 have hlk:=hla.mono hRk
 refine zQ (zG (zR 1 rfl (zN (zU (zQ ?_)))))
 refine cD rfl ?_ ?_<;>intro hc0
 ·
  have hkl:k<ms.length:=by omega
  have hli:=hn1 _ (nth_mem hkl)
  refine zK (zU (zQ (zB (zQ (zG (zR 1 rfl ?_))))))
  refine yI ?_
  refine yD (r:=by((apply RS.rdD;assumption;((try dsimp only)<;>omega)))) (k:=?_)
  refine zA fun b4=>?_
  refine zR 1 rfl ?_
  refine zE 0 ?_
  refine zN (zU (zQ (zG (zR 1 rfl ?_))))
  refine yM 0 ?_
  rw[hli]
  refine zR 1 rfl (zN (zU (zB ?_)))
  refine W.loop (β:=Nat × List Nat × Ro × List Ent) (fun (c,pre2,Rm,Em)=>c≤1∧RLe Rk Rm∧J pre2 Rm Em∧(∀ l,l<k→membL fs 0 (usersL fs (l:Int) fs.length)≠[]→l∈pre2)∧(c=1→membL fs 0 (usersL fs (k:Int) fs.length)≠[]→k∈pre2)) (fun (c,pre2,Rm,Em)=>[(0,true,.func (.yield lp) #[] #[]),(1,true,.pointer (some ⟨b1,0,none⟩)),(7,true,.slice la ms.length lc),(8,true,.int .i64 (ms.length:Int)),(3,true,.int .i64 (k:Int)),(9,true,.int .i64 (k:Int)),(15,true,.int .i64 1),(16,true,.int .i64 (c:Int))]) (fun (c,pre2,Rm,Em)=>Rm) (fun (c,pre2,Rm,Em)=>Em++F) (fun (c,pre2,Rm,Em)=>1 - c) ((0,pre,Rk,Ek)) (⟨by(try dsimp only);omega,RLe.refl _,hJk,hpre,fun h=>absurd h qD⟩) ⟨rfl,rfl,rfl,rfl,rfl,rfl,rfl,rfl,rfl⟩ (RLe.refl _) (List.sublist_cons_self _ _) ?_
  intro st hst
  obtain⟨c,pre2,Rm,Em⟩:=st
  obtain⟨hc,hRm,hJm,hpre2,hq⟩:=hst
  dsimp only at hc hRm hJm hpre2 hq ⊢
  have hR1m:=hRk.trans hRm
  refine zQ (zG (zR 1 rfl (zN (zU (zQ ?_)))))
  refine cD rfl ?_ ?_<;>intro hc1
  ·
   obtain rfl:c=0:=by omega
   refine zK (zU (zQ (zB (zQ (zG (zR 2 rfl (zN (zU (zQ ?_)))))))))
   refine W.regionY _ ?_
   refine' WQ.yv rfl rfl qD rfl (Yl.load1 tab_ok rfl rfl rfl (fun _=>rfl) ?r4 rfl ?h4) ?_
   case r4=>exact Rd.ro (hR1m _ _ h1)
   case h4=>rfl
   refine WQ.yv rfl rfl qD rfl (pureV_ok tab_ok rfl (fun _=>rfl)) ?_
   refine WQ.yv rfl rfl qD rfl (pureV_ok tab_ok rfl (fun _=>rfl)) ?_
   refine WQ.call en50 rfl rfl qD rfl (CallOp.mkT rfl rfl rfl rfl) (Memb_C (nn:=nn) (nl:=ms.length) (lc:=lc) ((hfa.mono hR1).mono hR1m) (fun x hx=>((hof x hx).mono hR1).mono hR1m) h8 (line:=(k:Int)) (cls:=0) w0 _) ?_
   rintro _ R5 E5 hR5 ⟨ua,uc,rfl,hua,hsub⟩
   refine WQ.subE hsub ?_
   have hul:=hua.len
   refine WQ.yv rfl rfl qD rfl (pureV_ok tab_ok rfl (fun _=>rfl)) ?_
   refine WQ.yv rfl rfl qD rfl (pureV_ok tab_ok rfl (fun _=>rfl)) ?_
   refine WQ.yv rfl rfl qD rfl (pureV_ok tab_ok rfl (fun _=>rfl)) ?_
   refine WQ.yv rfl rfl qD rfl (pureV_ok tab_ok rfl qE) ?_
   refine WQ.yv rfl rfl qD rfl (pureV_ok tab_ok rfl qE) ?_
   refine WQ.yv rfl rfl qD rfl (pureV_ok tab_ok rfl qE) ?_
   refine WQ.yieldG (vs:=[.int .i64 (k:Int),.int .i64 0]) (E1:=Em++F) rfl rfl qD (CallY.mk' rfl rfl rfl) qE rfl (List.Perm.refl _) (fun hpc=>hY pre2 k R5 Em F (hR1.trans (hR1m.trans hR5)) hkl (hmono _ _ _ _ hR5 hJm)) (fun hpc b R6 E6 hR6 hK=>?_) (fun hpc=>?_)
   ·
    obtain⟨G,rfl,hK⟩:=hK
    refine WQ.yv rfl rfl qD rfl (pureV_ok tab_ok rfl qE) ?_
    refine WQ.yv rfl rfl (by decide) rfl (Yl.pand rfl rfl rfl (fun _=>rfl) (by intro h1 h2;simp_all<;>omega)) ?_
    refine WQ.nil ?_
    refine zU ?_
    refine cC rfl ?_ ?_<;>intro hc2
    ·try simp only[zk] at hc2
     refine zT (wb (wt (wt (wb (wb (wt (wt (wb ?_))))))))
     refine WE.retF tab_ok [] rfl trivial ((by first|exact hRk|exact hR1m.trans (hR5.trans hR6))) ?_
     have hb:b=false:=by simp_all
     rcases hK with ⟨h,_⟩|⟨_,h⟩
     ·rw[hb] at h;cases h
     ·exact⟨_,_,List.Sublist.refl _,.inr h⟩
    ·try simp only[zk] at hc2
     have hb:b=true:=by simp_all
     have hK1:J (pre2++[k]) R6 G:=by
      rcases hK with ⟨_,h⟩|⟨h,_⟩
      ·exact h
      ·rw[hb] at h;cases h
     refine zK (zL (zU (zG ?_)))
     refine yA ?_
     refine zR 1 rfl (zN ?_)
     refine WE.again (1,pre2++[k],R6,G) ⟨by(try dsimp only);omega,hRm.trans (hR5.trans hR6),hK1,fun l hl hm=>List.mem_append_left _ (hpre2 l hl hm),fun _ _=>List.mem_append_right _ (List.mem_singleton.2 rfl)⟩ (by(try dsimp only);omega) ⟨rfl,rfl,rfl,rfl,rfl,rfl,rfl,rfl,rfl⟩ (RLe.refl _) (List.Sublist.refl _)
   ·
    have hme:membL fs 0 (usersL fs (k:Int) fs.length)=[]:=by
     apply Classical.byContradiction
     intro hne
     have:=List.length_pos_iff.2 hne
     simp at hpc
     exact hne hpc
    refine WQ.yv rfl rfl qD rfl (pureV_ok tab_ok rfl qE) ?_
    refine WQ.yv rfl rfl (by decide) rfl (Yl.pand rfl rfl rfl (fun _=>rfl) (by intro h1 h2;simp_all<;>omega)) ?_
    refine WQ.nil ?_
    refine zU ?_
    refine cC rfl ?_ ?_<;>intro hc3
    ·try simp only[zk] at hc3
     simp_all
    ·try simp only[zk] at hc3
     refine zK (zL (zU (zG ?_)))
     refine yA ?_
     refine zR 1 rfl (zN ?_)
     refine WE.again (1,pre2,R5,Em) ⟨by(try dsimp only);omega,hRm.trans hR5,hmono _ _ _ _ hR5 hJm,hpre2,fun _ h=>absurd hme h⟩ (by(try dsimp only);omega) ⟨rfl,rfl,rfl,rfl,rfl,rfl,rfl,rfl,rfl⟩ (RLe.refl _) (List.Sublist.refl _)
  ·
   obtain rfl:c=1:=by omega
   have hq1:=hq rfl
   refine zX ?_
   refine wx (wx (zY (zL (zU (zG ?_)))))
   refine yA ?_
   refine zR 1 rfl (zN ?_)
   refine WE.again (k+1,pre2,Rm,Em) ⟨by(try dsimp only);omega,hR1m,hJm,fun l hl hm=>by
    by_cases e:l=k
    ·subst e;exact hq1 hm
    ·exact hpre2 l (by omega) hm⟩ (by(try dsimp only);omega) ⟨rfl,rfl,rfl,rfl,rfl,rfl⟩ (RLe.refl _) (List.Sublist.refl _)
 ·
  obtain rfl:k=ms.length:=by omega
  refine zX ?_
  refine wx (wx (zY ?_))
  refine WE.endF tab_ok [] rfl trivial ((by first|exact hRk|exact hR1m.trans (hR5.trans hR6))) ?_
  exact⟨pre,Ek,List.Sublist.refl _,.inl ⟨fun l hl hm=>hpre l qO hm,hJk⟩⟩

set_option maxHeartbeats 1000000 in
theorem Steps_It {R:Ro} {na la fa:Option Addr} {nc lc fc:Nat} {names:List (List UInt8)} {ms:List LnM} {fs:List FlM} (hna:K.RS R 1 encT na names) (hla:K.RS R 5 encLn la ms) (hfa:K.RS R 8 encFl fa fs) (hokn:∀ m∈ms,OkLn R m) (hof:∀ m∈fs,OkFl R m) (hnl:∀ x∈names,x.length≤9223372036854775807) (hck:chkNet names (ms.map (·.L)) (fs.map (·.f))=0) (hG:BnG ms fs) {b2 b3:Nat} (h2:R b2=some [.slice na names.length nc,.slice la ms.length lc,.slice fa fs.length fc]) {x0:Sl × List Sl} (hx0:RS R 1 encS x0.1.a x0.2∧(∀ r∈x0.2,RS R 1 encI r.a r.xs)∧IsD ms fs (0) x0.2) :
  IterG Tryz.prog 47 [.pointer (some ⟨b2,0,none⟩),.pointer (some ⟨b3,0,none⟩)] (fun x:Sl × List Sl=>[.slice x.1.a x.2.length x.1.cap,.int .i64 0]) (fun pre x R1=>RS R1 1 encS x.1.a x.2∧(∀ r∈x.2,RS R1 1 encI r.a r.xs)∧IsD ms fs (pre.length+1) x.2) (fun _=>False) (fun pre=>pre.length<60∧∀ j,j≤pre.length→∀ v∈itD ms fs j,0≤v) R [.blk b3 [.slice x0.1.a x0.2.length x0.1.cap]]:=by
 intro w0 lp J JX hlim hmono hY R1 E1 F hR1 hJ
 have hlm:=hla.len
 have h2:=hR1 _ _ h2
 have hna:=hna.mono hR1
 have hla:=hla.mono hR1
 have hfa:=hfa.mono hR1
 have hokn:=fun m hm=>(hokn m hm).mono hR1
 have hof:=fun m hm=>(hof m hm).mono hR1
 refine fE 22 Tryz.func47 ?_
 refine W.perm (E':=.blk b3 [.slice x0.1.a x0.2.length x0.1.cap]::(E1++F)) List.perm_middle ?_
 refine zB ?_
 refine W.loop (β:=List (Sl × List Sl) × (Sl × List Sl) × Ro × List Ent) (fun (pre,x,Rk,Ek)=>RLe R1 Rk∧J pre Rk Ek∧RS Rk 1 encS x.1.a x.2∧(∀ r∈x.2,RS Rk 1 encI r.a r.xs)∧IsD ms fs (pre.length) x.2) (fun (pre,x,Rk,Ek)=>[(0,true,.func (.yield lp) #[] #[]),(1,true,.pointer (some ⟨b2,0,none⟩)),(2,true,.pointer (some ⟨b3,0,none⟩))]) (fun (pre,x,Rk,Ek)=>Rk) (fun (pre,x,Rk,Ek)=>.blk b3 [.slice x.1.a x.2.length x.1.cap]::(Ek++F)) (fun (pre,x,Rk,Ek)=>60 - pre.length) (([],x0,R1,E1)) (⟨RLe.refl _,hJ,hx0.1.mono hR1,fun r hr=>(hx0.2.1 r hr).mono hR1,hx0.2.2⟩) ⟨rfl,rfl,rfl,rfl⟩ (RLe.refl _) (List.Sublist.refl _) ?_
 intro st hst
 obtain⟨pre,x,Rk,Ek⟩:=st
 obtain⟨hRk,hJk,hx1,hx2,hx3⟩:=hst
 dsimp only at hRk hJk hx1 hx2 hx3 ⊢
 obtain⟨hp60,hpos⟩:=hlim _ _ _ hJk
 obtain⟨y1,y2,y3,y4,y5,y6⟩:=hx3.hy hG (hpos _ (Nat.le_refl _))
 refine zB (zQ (zG ?_))
 refine yD (r:=by exact Rd.ro (hRk _ _ h2)) (k:=?_)
 refine yB 0 ?_
 refine WL.call en48 rfl rfl qD (CallOp.mkT rfl rfl rfl rfl) (Step_C (nc:=nc) (lc:=lc) (fc:=fc) (hna.mono hRk) (hla.mono hRk) (hfa.mono hRk) (fun m hm=>(hokn m hm).mono hRk) (fun m hm=>(hof m hm).mono hRk) hnl hck hx1 hx2 y1 y2 y3 y4 y5 y6 hG.f8 hG.ln hG.m8 w0 _) ?_
 rintro _ R5 E5 hR5 ⟨⟨a,k,rows,rfl,q1,q2,q3,q4⟩,hsub⟩
 refine WL.subE hsub ?_
 obtain⟨nx,hnx⟩:∃ nx:Sl × List Sl,nx=(⟨a,k,[]⟩,rows):=⟨_,rfl⟩
 have hI:=hx3.step q3 q4
 refine zR 5 rfl (zN (zU (zQ (zQ ?_))))
 refine W.regionY _ ?_
 refine WQ.yv rfl rfl qD rfl (pureV_ok tab_ok rfl (fun _=>rfl)) ?_
 refine WQ.yv rfl rfl qD rfl (pureV_ok tab_ok rfl (fun _=>rfl)) ?_
 refine WQ.yv rfl rfl qD rfl (pureV_ok tab_ok rfl (fun _=>rfl)) ?_
 refine WQ.yieldG (vs:=[.slice a rows.length k,.int .i64 0]) (E1:=Ek++(.blk b3 [.slice x.1.a x.2.length x.1.cap]::F)) rfl rfl qD (CallY.mk' rfl rfl rfl) (fun _=>rfl) rfl List.perm_middle.symm (fun hpc=>hY pre (⟨a,k,[]⟩,rows) R5 Ek _ (hR1.trans (hRk.trans hR5)) ⟨q1,q2,hI⟩ (hmono _ _ _ _ hR5 hJk)) (fun hpc b R6 E6 hR6 hK=>?_) (fun hpc=>?_)
 ·
  obtain⟨G,rfl,hK⟩:=hK
  refine WQ.yv rfl rfl qD rfl (pureV_ok tab_ok rfl (fun _=>rfl)) ?_
  refine WQ.yv rfl rfl qD rfl (pureV_ok tab_ok rfl (fun _=>rfl)) ?_
  refine WQ.yv rfl rfl qD rfl (pureV_ok tab_ok rfl qE) ?_
  refine WQ.yv rfl rfl qD rfl (pureV_ok tab_ok rfl qE) ?_
  refine WQ.yv rfl rfl (by decide) rfl (Yl.por rfl rfl rfl (fun _=>rfl) (by intro h1 h2;simp_all<;>omega)) ?_
  refine WQ.nil ?_
  refine zU ?_
  refine cC rfl ?_ ?_<;>intro hc0
  ·try simp only[zk] at hc0
   refine zT (wt (wb (wt (wb ?_))))
   refine WE.retF tab_ok [] rfl trivial (hRk.trans (hR5.trans hR6)) ?_
   have hb:b=false:=by simp_all
   rcases hK with ⟨h,_⟩|⟨_,h⟩
   ·rw[hb] at h;cases h
   ·refine⟨_,G,?_,.inr h⟩
    exact(List.Sublist.refl G).append (List.sublist_cons_self _ _)
  ·try simp only[zk] at hc0
   have hb:b=true:=by simp_all
   have hK1:J (pre++[((⟨a,k,[]⟩:Sl),rows)]) R6 G:=by
    rcases hK with ⟨_,h⟩|⟨h,_⟩
    ·exact h
    ·rw[hb] at h;cases h
   refine W.perm (E':=.blk b3 [.slice x.1.a x.2.length x.1.cap]::(G++F)) List.perm_middle ?_
   refine zK (zU (zG (zR 1 rfl ?_)))
   refine zE 0 ?_
   refine zN (zL ?_)
   refine WE.again (pre++[((⟨a,k,[]⟩:Sl),rows)],(⟨a,k,[]⟩,rows),R6,G) ⟨hRk.trans (hR5.trans hR6),hK1,q1.mono hR6,fun r hr=>(q2 r hr).mono hR6,by rw[List.length_append];exact hI⟩ (by(try dsimp only);rw[List.length_append,List.length_cons,List.length_nil];omega) ⟨rfl,rfl,rfl,rfl⟩ (RLe.refl _) (List.Sublist.refl _)
 ·
  cases hpc

set_option maxHeartbeats 4000000 in
theorem Least_C {R : Ro} {na la fa : Option Addr} {nc lc fc : Nat} {names : List (List UInt8)} {ms : List LnM} {fs : List FlM} (hna : K.RS R 1 encT na names) (hla : K.RS R 5 encLn la ms) (hfa : K.RS R 8 encFl fa fs) (hokn : ∀ m ∈ ms, OkLn R m) (hof : ∀ m ∈ fs, OkFl R m) (hnl : ∀ x ∈ names, x.length ≤ 9223372036854775807) (hck : chkNet names (ms.map (·.L)) (fs.map (·.f)) = 0) (hG : BnG ms fs) (w0 : World) (E : List Ent) : K.Fn Tryz.prog 8 [.agg #[.slice na names.length nc, .slice la ms.length lc, .slice fa fs.length fc], .int .i64 40] w0 R E (fun v R' E' => ∃ (sl : Value) (cnt e : Int), v = .tuple #[sl, .int .i64 cnt, .int .i64 e] ∧ (e = 0 → LeastOk ms fs R' sl) ∧ E.Sublist E') := by
 have hlm:=hla.len
 refine Fn.enterM (n:=55) Tryz.func8 rfl rfl (Nat.le_of_ble_eq_true rfl) rfl ?_
 refine zQ (zG ?_)
 refine zO fun b2=>?_
 refine zO fun b3=>?_
 refine zA fun b4=>?_
 refine zA fun b5=>?_
 refine zA fun b6=>?_
 refine zN (zU (zQ ?_))
 refine W.freezeBlk 4 rfl ?_
 intro R1 hR1 h2
 refine W.freezeBlk 3 rfl ?_
 intro R2 hR2 h3
 have h2:=hR2 _ _ h2
 have hR12:=hR1.trans hR2
 refine zQ (zG ?_)
 refine yD (r:=by exact Rd.ro h2) (k:=?_)
 refine WG.callV (v:=.int .i64 0) en22 rfl rfl qD (CallOp.mk' rfl rfl rfl rfl) (fun _=>rfl) (fun hg=>by
  have h:=NCheck_V (nc:=nc) (lc:=lc) (fc:=fc) (hna.mono hR12) (hla.mono hR12) (hfa.mono hR12) (fun m hm=>(hokn m hm).mono hR12) (fun m hm=>(hof m hm).mono hR12) hnl
  rw[hck] at h
  exact h) ?_
 refine zR 1 rfl (zN (zU ?_))
 refine cN rfl ?_ ?_<;>intro hc0
 ·
  exact absurd rfl hc0
 ·
  refine zK (zU (zQ (zQ (zG ?_))))
  refine yD (r:=by exact Rd.ro h3) (k:=?_)
  refine zR 2 rfl ?_
  refine yJ (r:=by exact fun _=>Rd.ro h3) (k:=?_)
  refine yP ?_
  refine yO ?_
  refine zN (zU ?_)
  refine cC rfl ?_ ?_<;>intro hc1
  ·try simp only[zk] at hc1
   (simp at hc1;done)
  ·try simp only [zk] at hc1
   refine zK (zU (zQ (zG ?_)))
   refine yD (r:=by exact Rd.ro (h2)) (k:=?_)
   refine WL.call en23 rfl rfl qD (CallOp.mkT rfl rfl rfl rfl) (HZero_C (nc:=nc) (lc:=lc) (fc:=fc) (hna.mono hR12) (hla.mono hR12) (hfa.mono hR12) (fun m hm=>(hokn m hm).mono hR12) (fun m hm=>(hof m hm).mono hR12) hnl hck (fun m hm=>(hG.ln m hm).2.1) hG.m8 w0 _) ?_
   rintro _ R3 E3 hR3 ⟨⟨za,zk,zrows,rfl,z1,z2,z3,z4⟩,hsub3⟩
   refine WL.subE hsub3 ?_
   have hI0:IsD ms fs 0 zrows:=⟨z3,fun i hi=>by
    rw[z4 i hi]
    show [(0:Int)]=[nth (List.replicate ms.length 0) i]
    rw[nth_replicate hi]⟩
   refine zA fun b7=>?_
   refine zA fun b8=>?_
   refine zE 1 ?_
   refine zE 0 ?_
   refine zN (zU (zQ (zQ (zG ?_))))
   refine yD (r:=by exact Rd.ro (hR3 _ _ h2)) (k:=?_)
   refine yB 1 ?_
   refine WL.call en24 rfl rfl qD (CallOp.mkT rfl rfl rfl rfl) (Steps_C w0 _) ?_
   rintro _ R4 E4 hR4 ⟨c2,c3,rfl,hc2,rfl⟩
   have h2:=hR4 _ _ (hR3 _ _ h2)
   have h3:=hR4 _ _ (hR3 _ _ h3)
   have hR04:=(hR12.trans hR3).trans hR4
   refine zN (zU (zB ?_))
   refine W.rangeFuncG (α:=Sl × List Sl) (σ:=Sl × List Sl) (τ:=Value × Int × Int) (β:=Nat) (ps:=[27,28]) (Rest:=E) (fun pre s R5=>pre.length<40∧(∀ j,j≤pre.length→∀ v∈itD ms fs j,0≤v)∧RS R5 1 encS s.1.a s.2∧(∀ r∈s.2,RS R5 1 encI r.a r.xs)∧IsD ms fs (pre.length) s.2) (fun pre s=>[.blk b8 [.int .i64 (pre.length:Int)],.blk b7 [.slice s.1.a s.2.length s.1.cap],.blk b6 [.int .i64 0],.blk b5 [.int .i64 0],.blk b4 [.slice none 0 0]]) (fun c _ t R5=>(c=.ret∧(t.2.2=0→LeastOk ms fs R5 t.1))∨c=.exit 0) (fun c _ t=>[.blk b6 [.int .i64 t.2.2],.blk b5 [.int .i64 t.2.1],.blk b4 [t.1]])
    (fun pre x s b9 R5=>(pre.length<40∧(∀ j,j≤pre.length→∀ v∈itD ms fs j,0≤v)∧RS R5 1 encS s.1.a s.2∧(∀ r∈s.2,RS R5 1 encI r.a r.xs)∧IsD ms fs (pre.length) s.2)∧RS R5 1 encS x.1.a x.2∧(∀ r∈x.2,RS R5 1 encI r.a r.xs)∧IsD ms fs (pre.length+1) x.2) (fun pre x s b9=>[(2,true,.pointer (some ⟨b2,0,none⟩)),(3,true,.pointer (some ⟨b3,0,none⟩)),(4,true,.pointer (some ⟨b4,0,none⟩)),(5,true,.pointer (some ⟨b5,0,none⟩)),(6,true,.pointer (some ⟨b6,0,none⟩)),(7,true,.pointer (some ⟨b7,0,none⟩)),(8,true,.pointer (some ⟨b8,0,none⟩)),(9,true,.pointer (some ⟨b9,0,none⟩)),(10,true,.int .i64 0)]) (fun pre x s b9=>.blk b9 [.slice x.1.a x.2.length x.1.cap]::[.blk b8 [.int .i64 (pre.length:Int)],.blk b7 [.slice s.1.a s.2.length s.1.cap],.blk b6 [.int .i64 0],.blk b5 [.int .i64 0],.blk b4 [.slice none 0 0]]) (⟨za,zk,[]⟩,zrows) rfl en47
    (Steps_It (nc := nc) (lc := lc) (fc := fc) (x0 := (⟨za, zk, []⟩, zrows)) (hna.mono hR04) (hla.mono hR04) (hfa.mono hR04) (fun m hm => (hokn m hm).mono hR04) (fun m hm => (hof m hm).mono hR04) hnl hck hG (hc2) ⟨z1.mono hR4, fun r hr => (z2 r hr).mono hR4, hI0⟩) (RLe.refl _) (fun _ => rfl) (by decide) rfl (List.perm_append_comm_assoc [_] [_, _, _, _, _] _) ⟨by decide, fun j hj v hv => by
     have:j=0:=by simp at hj;omega
     subst this
     have:v=0:=List.eq_of_mem_replicate hv
     omega,z1.mono hR4,fun r hr=>(z2 r hr).mono hR4,hI0⟩ (fun pre s R1 h=>⟨by omega,h.2.1⟩) (fun pre s R1 R2 h12 h=>⟨h.1,h.2.1,h.2.2.1.mono h12,fun r hr=>(h.2.2.2.1 r hr).mono h12,h.2.2.2.2⟩) ?_ ?_ ?_ ?_
   ·
    intro l pre s x Ra F hRa hNx hI
    refine WR.seq ?_
    refine WR.region _ ?_
    refine WQ.ef rfl rfl qD rfl (Ef.alloc tab_ok rfl rfl (fun b9=>?_))
    refine WQ.efN rfl rfl rfl (Ef.store0 0 tab_ok rfl rfl rfl rfl rfl rfl rfl rfl ?_)
    refine WQ.nil ?_
    refine WE.nxtR ?_
    refine WR.region _ ?_
    refine WQ.yv rfl rfl qD rfl (pureV_ok tab_ok rfl (fun _=>rfl)) ?_
    refine WQ.nil ?_
    refine WE.asgG b9 (RLe.refl _) ⟨hI,hNx⟩ ⟨rfl,rfl,rfl,rfl,rfl,rfl,rfl,rfl,rfl,rfl⟩ (List.Sublist.refl _)
   ·
    intro l rc pre s x b9 Rb F hRb hinv
    obtain⟨⟨h40,hpos,s1,s2,s3⟩,x1,x2,x3⟩:=hinv
    have h2:=hRb _ _ h2
    have h3:=hRb _ _ h3
    have hcn:(0:Int)≤(pre.length:Int)∧(pre.length:Int)<40:=by omega
    dsimp only[List.cons_append,List.nil_append]
    refine WR.block ?_
    refine WR.seq ?_
    refine WR.region _ ?_
    refine' WQ.yv rfl rfl qD rfl (Yl.load1 tab_ok rfl rfl rfl (fun _=>rfl) ?r7 rfl ?h7) ?_
    case r7=>(exact Rd.blk 1 rfl)
    case h7=>rfl
    refine WQ.yv rfl rfl qD rfl (Yl.add rfl rfl rfl (fun _=>rfl) qA) ?_
    refine WQ.efN rfl rfl rfl (Ef.store0 1 tab_ok rfl rfl rfl rfl rfl rfl rfl rfl ?_)
    refine WQ.nil ?_
    refine WE.nxtR ?_
    refine WR.seq ?_
    refine WR.seq ?_
    refine WR.region _ ?_
    refine WQ.yv rfl rfl qD rfl (pureV_ok tab_ok rfl (fun _=>rfl)) ?_
    refine WQ.yv rfl rfl qD rfl (pureV_ok tab_ok rfl (fun _=>rfl)) ?_
    refine WQ.nil ?_
    refine WE.nxtR ?_
    refine WR.condN rfl (fun hc2=>?_) (fun hc2=>?_)
    ·
     exact absurd rfl hc2
    ·
     refine WR.skip ?_
     refine WE.nxtR ?_
     refine WR.seq ?_
     refine WR.seq ?_
     refine WR.region _ ?_
     refine' WQ.yv rfl rfl qD rfl (Yl.load1 tab_ok rfl rfl rfl (fun _=>rfl) ?r8 rfl ?h8) ?_
     case r8=>exact Rd.ro h2
     case h8=>rfl
     refine WQ.call en25 rfl rfl qD rfl (CallOp.mkT rfl rfl rfl rfl) (Used_C w0 _) ?_
     rintro _ Rc _ hRc ⟨u1,rfl,hu1,rfl⟩
     have hRu:=(hR04.trans hRb).trans hRc
     refine WQ.nil ?_
     refine WE.nxtR ?_
     refine WR.block ?_
     refine WR.rangeFuncG (α:=Nat) (σ:=Unit) (τ:=Unit) (β:=Nat) (ps:=[36,37]) (rc:=rc) (Rest:=.blk b8 [.int .i64 ((pre.length:Int)+1)]::.blk b7 [.slice s.1.a s.2.length s.1.cap]::.obj l (.loop rc)::F) 6 (fun pr _ _=>∀ y∈pr,0≤nth (itD ms fs (pre.length+1)) y) (fun _ _=>[.blk b9 [.slice x.1.a x.2.length x.1.cap],.blk b6 [.int .i64 0],.blk b5 [.int .i64 0],.blk b4 [.slice none 0 0]]) (fun c _ _ _=>c=.ret) (fun _ _ _=>[.blk b9 [.slice x.1.a x.2.length x.1.cap],.blk b6 [.int .i64 5],.blk b5 [.int .i64 0],.blk b4 [.slice none 0 0]])
      (fun pr y _ _ _=>(∀ z∈pr,0≤nth (itD ms fs (pre.length+1)) z)∧y<ms.length) (fun _ y _ _=>[(2,true,.pointer (some ⟨b2,0,none⟩)),(3,true,.pointer (some ⟨b3,0,none⟩)),(4,true,.pointer (some ⟨b4,0,none⟩)),(5,true,.pointer (some ⟨b5,0,none⟩)),(6,true,.pointer (some ⟨b6,0,none⟩)),(7,true,.pointer (some ⟨b7,0,none⟩)),(8,true,.pointer (some ⟨b8,0,none⟩)),(9,true,.pointer (some ⟨b9,0,none⟩)),(10,true,.int .i64 0),(11,true,.int .i64 (y:Int)),(12,true,.int .i64 0)]) (fun _ y _ _=>[.blk b9 [.slice x.1.a x.2.length x.1.cap],.blk b6 [.int .i64 0],.blk b5 [.int .i64 0],.blk b4 [.slice none 0 0]]) () rfl en49
      (Used_It (nn:=names.length) (nc:=nc) (lc:=lc) (fc:=fc) (hla.mono hRu) (hfa.mono hRu) (fun m hm=>(hof m hm).mono hRu) (fun m hm=>(hG.ln m hm).2.1) hG.f8 hu1) (RLe.refl _) (fun _=>rfl) (by decide) rfl rfl (List.Perm.cons _ (List.perm_append_comm_assoc [_,_] [_,_,_] _)) (fun y hy=>by cases hy) (fun _ _ _ _=>trivial) (fun _ _ _ _ _ h=>h) ?_ ?_ ?_ ?_
     ·
      intro l2 pr _ y Ra F2 hRa hNx hI
      dsimp only[List.cons_append,List.nil_append]
      refine WR.seq ?_
      refine WR.region _ ?_
      refine WQ.yv rfl rfl qD rfl (pureV_ok tab_ok rfl (fun _=>rfl)) ?_
      refine WQ.nil ?_
      refine WE.nxtR ?_
      refine WR.region _ ?_
      refine WQ.yv rfl rfl qD rfl (pureV_ok tab_ok rfl (fun _=>rfl)) ?_
      refine WQ.nil ?_
      exact fun _ _ hk hm=>⟨0,_,RLe.refl _,⟨hI,hNx⟩,hk.sub ⟨rfl,rfl,rfl,rfl,rfl,rfl,rfl,rfl,rfl,rfl,rfl,rfl⟩,hm.sub (RLe.refl _) (List.Sublist.refl _)⟩
     ·
      intro l2 rc2 pr _ y _ R6 F2 hR6 hinv
      obtain⟨hI,hym⟩:=hinv
      have x1:=x1.mono (hRc.trans hR6)
      have hyx:y<x.2.length:=by have:=x3.1;omega
      have hrw:=((x2 _ (nth_mem hyx)).mono (hRc.trans hR6))
      have hry:=x3.2 y hym
      have hrn:(nth x.2 y).xs.length=1:=by rw[hry];rfl
      dsimp only[List.cons_append,List.nil_append]
      refine WR.block ?_
      refine WR.seq ?_
      refine WR.region _ ?_
      refine' WQ.yv rfl rfl qD rfl (Yl.load1 tab_ok rfl rfl rfl (fun _=>rfl) ?r9 rfl ?h9) ?_
      case r9=>(exact Rd.blk 0 rfl)
      case h9=>rfl
      refine WQ.yv rfl rfl qD rfl (pureV_ok tab_ok rfl (fun _=>rfl)) ?_
      refine WQ.yv rfl rfl qD rfl (Yl.indexN tab_ok rfl rfl rfl rfl rfl rfl (fun _=>rfl) qN qH) ?_
      refine' WQ.yv rfl rfl qD rfl (Yl.load1 tab_ok rfl rfl rfl (fun _=>rfl) ?r10 rfl ?h10) ?_
      case r10=>((apply RS.rdD;assumption;((try dsimp only)<;>omega)))
      case h10=>rfl
      refine WQ.yv rfl rfl qD rfl (pureV_ok tab_ok rfl (fun _=>rfl)) ?_
      refine WQ.yv rfl rfl qD rfl (Yl.indexN tab_ok rfl rfl rfl rfl rfl rfl (fun _=>rfl) qN qH) ?_
      refine' WQ.yv rfl rfl qD rfl (Yl.load1 tab_ok rfl rfl rfl (fun _=>rfl) ?r11 rfl ?h11) ?_
      case r11=>((apply RS.rdD;assumption;((try dsimp only)<;>omega)))
      case h11=>rfl
      rw[show nth (nth x.2 y).xs 0=nth (itD ms fs (pre.length+1)) y by rw[hry];rfl]
      refine WQ.yv rfl rfl qD rfl (pureV_ok tab_ok rfl (fun _=>rfl)) ?_
      refine WQ.nil ?_
      refine WE.nxtR ?_
      refine WR.condD rfl (fun hc3=>?_) (fun hc3=>?_)
      ·
       have hc3:=hc3
       refine WR.seq ?_
       refine WR.region _ ?_
       refine WQ.efN rfl rfl rfl (Ef.store0 3 tab_ok rfl rfl rfl rfl rfl rfl rfl rfl ?_)
       refine WQ.efN rfl rfl rfl (Ef.store0 2 tab_ok rfl rfl rfl rfl rfl rfl rfl rfl ?_)
       refine WQ.efN rfl rfl rfl (Ef.store0 1 tab_ok rfl rfl rfl rfl rfl rfl rfl rfl ?_)
       refine WQ.nil ?_
       refine WE.nxtR ?_
       refine WR.ret ?_
       refine wb ?_
       exact WE.rret (RLe.refl _) ⟨_,List.Perm.refl _,List.Sublist.refl _⟩ (RK.out (c:=.ret) () rfl)
      ·
       have hc3:0≤nth (itD ms fs (pre.length+1)) y:=by omega
       refine WR.skip ?_
       refine zL ?_
       refine WE.rnorm (RLe.refl _) ⟨_,List.Perm.refl _,List.Sublist.refl _⟩ (RK.go () (fun z hz=>?_))
       rcases List.mem_append.1 hz with h|h
       ·exact hI z h
       ·rw[List.mem_singleton.1 h];exact hc3
     ·
      intro prs _ R6 hR6 hF hI
      have hall:=used_all hF hI
      have hpos2:∀ j,j≤pre.length+1→∀ v∈itD ms fs j,0≤v:=fun j hj=>by
       by_cases e:j=pre.length+1
       ·subst e;exact hall
       ·exact hpos j (by omega)
      have hRbc:=hRc.trans hR6
      have s1:=s1.mono hRbc
      have x1:=x1.mono hRbc
      have s2:=fun r hr=>(s2 r hr).mono hRbc
      have x2:=fun r hr=>(x2 r hr).mono hRbc
      have h3:=hRbc _ _ h3
      dsimp only[List.cons_append,List.nil_append]
      refine zL ?_
      refine WE.nxtR ?_
      refine WR.seq ?_
      refine WR.seq ?_
      refine WR.region _ ?_
      refine' WQ.yv rfl rfl qD rfl (Yl.load1 tab_ok rfl rfl rfl (fun _=>rfl) ?r12 rfl ?h12) ?_
      case r12=>(exact Rd.blk 5 rfl)
      case h12=>rfl
      refine' WQ.yv rfl rfl qD rfl (Yl.load1 tab_ok rfl rfl rfl (fun _=>rfl) ?r13 rfl ?h13) ?_
      case r13=>(exact Rd.blk 0 rfl)
      case h13=>rfl
      refine WQ.call en26 rfl rfl (by decide) rfl (CallOp.mkT rfl rfl rfl rfl) ((SameD_V (xs:=itD ms fs pre.length) (ys:=itD ms fs (pre.length+1)) s1 x1 s2 x2 (by rw[itD_len];exact s3.1) (by rw[itD_len];exact x3.1) (by rw[itD_len,itD_len]) (fun i hi=>s3.2 i (by rw[itD_len] at hi;exact hi)) (fun i hi=>x3.2 i (by rw[itD_len] at hi;exact hi))).toFn) ?_
      rintro _ _ _ - ⟨rfl,rfl,rfl⟩
      refine WQ.nil ?_
      refine WE.nxtR ?_
      refine WR.cond rfl (fun hc4=>?_) (fun hc4=>?_)
      ·try simp only[zk] at hc4
       have hc5:itD ms fs pre.length=itD ms fs (pre.length+1):=by first|exact hc4|exact of_decide_eq_true hc4
       refine WR.seq ?_
       refine WR.regionZ _ mixed ?_
       refine WZ.br2 qK (i:=0) (j:=1) ?_ ?_
       ·
        refine' WZS.yl rfl rfl rfl qD rfl (Yl.load1 tab_ok rfl rfl rfl (fun _=>rfl) ?r14 rfl ?h14) ?_
        case r14=>(exact Rd.blk 0 rfl)
        case h14=>rfl
        refine WZ.br2 qK (i:=1) (j:=2) ?_ ?_
        ·
         refine' WZS.yl rfl rfl rfl qD rfl (Yl.load1 tab_ok rfl rfl rfl (fun _=>rfl) ?r15 rfl ?h15) ?_
         case r15=>(exact Rd.blk 4 rfl)
         case h15=>rfl
         refine WZ.one (i:=2) qK ?_
         refine WZS.effN rfl rfl rfl rfl (Ef.store0 3 tab_ok rfl rfl rfl rfl rfl rfl rfl rfl ?_)
         refine WZ.one (i:=3) qK ?_
         refine WZS.effN rfl rfl rfl rfl (Ef.store0 2 tab_ok rfl rfl rfl rfl rfl rfl rfl rfl ?_)
         refine WZ.one (i:=4) qK ?_
         refine WZS.effN rfl rfl rfl rfl (Ef.store0 1 tab_ok rfl rfl rfl rfl rfl rfl rfl rfl ?_)
         refine WZ.done qK ?_
         refine WE.nxtR ?_
         refine WR.ret ?_
         refine wt (wb ?_)
         refine WE.rret hRbc ⟨_,List.Perm.refl _,?_⟩ (RK.out (c:=.ret) (.slice x.1.a x.2.length x.1.cap,(pre.length:Int)+1,0) (.inl ⟨rfl,fun _=>⟨x,pre.length,rfl,x1,x2,x3,hc5.symm,hpos2⟩⟩))
         exact qS
        ·
         refine WZS.effN rfl rfl rfl rfl (Ef.store0 3 tab_ok rfl rfl rfl rfl rfl rfl rfl rfl ?_)
         refine WZ.one (i:=1) qK ?_
         refine' WZS.yl rfl rfl rfl qD rfl (Yl.load1 tab_ok rfl rfl rfl (fun _=>rfl) ?r16 rfl ?h16) ?_
         case r16=>(exact Rd.blk 4 rfl)
         case h16=>rfl
         refine WZ.one (i:=3) qK ?_
         refine WZS.effN rfl rfl rfl rfl (Ef.store0 2 tab_ok rfl rfl rfl rfl rfl rfl rfl rfl ?_)
         refine WZ.one (i:=4) qK ?_
         refine WZS.effN rfl rfl rfl rfl (Ef.store0 1 tab_ok rfl rfl rfl rfl rfl rfl rfl rfl ?_)
         refine WZ.done qK ?_
         refine WE.nxtR ?_
         refine WR.ret ?_
         refine wt (wb ?_)
         refine WE.rret hRbc ⟨_,List.Perm.refl _,?_⟩ (RK.out (c:=.ret) (.slice x.1.a x.2.length x.1.cap,(pre.length:Int)+1,0) (.inl ⟨rfl,fun _=>⟨x,pre.length,rfl,x1,x2,x3,hc5.symm,hpos2⟩⟩))
         exact qS
       ·
        refine' WZS.yl rfl rfl rfl qD rfl (Yl.load1 tab_ok rfl rfl rfl (fun _=>rfl) ?r17 rfl ?h17) ?_
        case r17=>(exact Rd.blk 4 rfl)
        case h17=>rfl
        refine WZ.one (i:=0) qK ?_
        refine' WZS.yl rfl rfl rfl qD rfl (Yl.load1 tab_ok rfl rfl rfl (fun _=>rfl) ?r18 rfl ?h18) ?_
        case r18=>(exact Rd.blk 0 rfl)
        case h18=>rfl
        refine WZ.one (i:=2) qK ?_
        refine WZS.effN rfl rfl rfl rfl (Ef.store0 3 tab_ok rfl rfl rfl rfl rfl rfl rfl rfl ?_)
        refine WZ.one (i:=3) qK ?_
        refine WZS.effN rfl rfl rfl rfl (Ef.store0 2 tab_ok rfl rfl rfl rfl rfl rfl rfl rfl ?_)
        refine WZ.one (i:=4) qK ?_
        refine WZS.effN rfl rfl rfl rfl (Ef.store0 1 tab_ok rfl rfl rfl rfl rfl rfl rfl rfl ?_)
        refine WZ.done qK ?_
        refine WE.nxtR ?_
        refine WR.ret ?_
        refine wt (wb ?_)
        refine WE.rret hRbc ⟨_,List.Perm.refl _,?_⟩ (RK.out (c:=.ret) (.slice x.1.a x.2.length x.1.cap,(pre.length:Int)+1,0) (.inl ⟨rfl,fun _=>⟨x,pre.length,rfl,x1,x2,x3,hc5.symm,hpos2⟩⟩))
        exact qS
      ·try simp only[zk] at hc4
       refine WR.skip ?_
       refine WE.nxtR ?_
       refine WR.seq ?_
       refine WR.seq ?_
       refine WR.region _ ?_
       refine' WQ.yv rfl rfl qD rfl (Yl.load1 tab_ok rfl rfl rfl (fun _=>rfl) ?r19 rfl ?h19) ?_
       case r19=>(exact Rd.blk 4 rfl)
       case h19=>rfl
       refine' WQ.yv rfl rfl qD rfl (Yl.load1 tab_ok rfl rfl rfl (fun _=>rfl) ?r20 rfl ?h20) ?_
       case r20=>exact Rd.ro h3
       case h20=>rfl
       refine WQ.yv rfl rfl qD rfl (pureV_ok tab_ok rfl (fun _=>rfl)) ?_
       refine WQ.nil ?_
       refine WE.nxtR ?_
       refine WR.condE rfl (fun hc5=>?_) (fun hc5=>?_)
       ·
        refine WR.exit ?_
        refine wx ?_
        refine WE.blk_other rfl ?_
        refine WE.rexit hRbc ⟨_,List.Perm.refl _,?_⟩ (RK.out (c:=.exit 0) (.slice none 0 0,0,0) (.inr rfl))
        exact qS
       ·
        refine WR.skip ?_
        refine WE.nxtR ?_
        refine WR.region _ ?_
        refine' WQ.yv rfl rfl qD rfl (Yl.load1 tab_ok rfl rfl rfl (fun _=>rfl) ?r21 rfl ?h21) ?_
        case r21=>(exact Rd.blk 0 rfl)
        case h21=>rfl
        refine WQ.efN rfl rfl rfl (Ef.store0 5 tab_ok rfl rfl rfl rfl rfl rfl rfl rfl ?_)
        refine WQ.nil ?_
        refine zL ?_
        rw[show ((pre.length:Int)+1)=(((pre++[x]).length:Nat):Int) by simp]
        have hlx:(pre++[x]).length=pre.length+1:=by simp
        exact WE.rnorm hRbc ⟨_,List.Perm.cons _ (List.perm_append_comm_assoc [_,_,_] [_,_] _),List.sublist_cons_self _ _⟩ (RK.go x ⟨by omega,fun j hj=>hpos2 j (by omega),x1,x2,by rw[hlx];exact x3⟩)
     ·
      rintro c prs _ R6 hR6 rfl
      ·
       have hRbc:=hRc.trans hR6
       dsimp only[List.cons_append,List.nil_append]
       refine WR.ret ?_
       refine wb (wt (wb ?_))
       refine WE.rret hRbc ⟨_,List.Perm.refl _,?_⟩ (RK.out (c:=.ret) (.slice none 0 0,0,5) (.inl ⟨rfl,fun h=>absurd h qD⟩))
       exact qS
   ·
    intro D xs s R5 hR5 hF
    exact hF.elim
   ·
    rintro D c xs ⟨sl,cnt,e⟩ R5 hR5 (⟨rfl,hok⟩|rfl)
    ·
     have hR05:=hR04.trans hR5
     dsimp only[List.cons_append,List.nil_append] at hok ⊢
     refine zT (wb (wt ?_))
     refine WE.retFM tab_ok 0 [_,_,_] rfl rfl rfl ⟨⟨_,_,_,rfl,rfl,rfl,qB,rfl⟩,⟨_,_,_,rfl,rfl,rfl,qB,rfl⟩,⟨_,_,_,rfl,rfl,rfl,qB,rfl⟩,trivial⟩ (hR05) ?_
     exact⟨_,_,_,rfl,hok,qS⟩
    ·
     have hR05:=hR04.trans hR5
     dsimp only[List.cons_append,List.nil_append]
     refine zX ?_
     refine zY (zU (zQ (zG ?_)))
     refine zE 3 ?_
     refine zE 2 ?_
     refine zE 1 ?_
     refine zN (zU (zT ?_))
     refine WE.retFM tab_ok 0 [_,_,_] rfl rfl rfl ⟨⟨_,_,_,rfl,rfl,rfl,qB,rfl⟩,⟨_,_,_,rfl,rfl,rfl,qB,rfl⟩,⟨_,_,_,rfl,rfl,rfl,qB,rfl⟩,trivial⟩ (hR05) ?_
     exact⟨_,_,_,rfl,fun h=>absurd h qD,qS⟩

theorem Range_C {R:Ro} {b:Nat} {a:Option Addr} {cp:Nat} {xs:List Int} {c:Nat} (w0:World) {lo hi:Int} (ha:K.RS R 1 encI a xs) (hlo:-1000000≤lo∧lo≤hi) (hhi:hi≤1000000):FnAt Tryz.prog 19 [.pointer (some ⟨b,0,none⟩),.int .i64 lo,.int .i64 hi] w0 R (srcE b a cp xs c) (RdPost (.int .i64 (lo+mod (nth xs c) (hi - lo+1))) R (srcE b a cp xs (c+1))):=by
 intro F
 have hmr:=mod_range (nth xs c) (show (1:Int)≤hi - lo+1 by omega)
 refine fE 15 Tryz.func19 ?_
 refine zQ (zG (zR 1 rfl (zN (zU (zQ (zG (zR 4 rfl ?_)))))))
 refine yS ?_
 refine yA ?_
 refine WL.callAt 0 en29 rfl rfl qD (CallOp.mkT rfl rfl rfl rfl) rfl (N_C w0 ha (by constructor<;>omega) _) ?_
 rintro _ _ _ _ - ⟨rfl,rfl,rfl,rfl⟩
 refine yA ?_
 refine zR 1 rfl (zN (zU (zT ?_)))
 refine zr1 ?_
 exact⟨_,[],rfl,rfl,rfl,rfl,rfl⟩

set_option maxHeartbeats 4000000 in
theorem Port2_C {R:Ro} {b:Nat} {a:Option Addr} {cp:Nat} {xs:List Int} {c:Nat} (w0:World) (ha:K.RS R 1 encI a xs):FnAt Tryz.prog 20 [.pointer (some ⟨b,0,none⟩),.int .i64 2] w0 R (srcE b a cp xs c) (fun v R' e' N=>∃ (L:Ln) (aw at_:Option Addr) (cw ct cn:Nat),v=.agg #[.int .i64 L.kind,.int .i64 L.cap,.int .i64 L.n,.slice aw L.w.length cw,.slice at_ L.tb.length ct]∧K.RS R' 1 encI aw L.w∧K.RS R' 1 encI at_ L.tb∧DrawP 2 L∧e'=srcE b a cp xs cn∧N=[]):=by
 intro F
 refine fE 85 Tryz.func20 ?_
 refine zQ (zG ?_)
 refine zA fun b4=>?_
 refine zN (zU (zQ (zG (zR 1 rfl ?_))))
 refine WL.callAt 1 en19 rfl rfl qD (CallOp.mkT rfl rfl rfl rfl) rfl (Range_C (lo:=4) (hi:=24) w0 ha qO qO _) ?_
 rintro _ _ _ _ - ⟨rfl,rfl,rfl,rfl⟩
 have hm0:=mod_range (nth xs (c)) (show (1:Int)≤24 - 4+1 by omega)
 refine zR 1 rfl ?_
 refine yW [(0,.const (.int .i64 1)),(1,.tmp 11),(2,.tmp 12)] ?_
 refine zA fun b5=>?_
 refine zE 0 ?_
 refine zN (zU (zQ (zQ (zG (zR 3 rfl ?_)))))
 refine yP ?_
 refine WG.callV (v:=.int .i64 0) (vs:=[.pointer (some ⟨b,0,none⟩),.int .i64 3]) en29 rfl rfl qD (CallOp.mk' rfl rfl rfl rfl) (by intro h;cases h) (fun h=>by cases h) ?_
 refine yP ?_
 refine yN ?_
 refine zN (zU ?_)
 refine cC rfl ?_ ?_<;>intro hc0
 ·try simp only[zk] at hc0
  exact absurd hc0.1 qD
 ·try simp only [zk] at hc0
  refine zK (zU (zQ (zQ (zG (zR 1 rfl ?_)))))
  refine WL.callAt 2 en29 rfl rfl qD (CallOp.mkT rfl rfl rfl rfl) rfl (N_C w0 ha (by constructor<;>decide) _) ?_
  rintro _ _ _ _ - ⟨rfl,rfl,rfl,rfl⟩
  have hm1:=mod_range (nth xs (c+1)) (show (1:Int)≤4 by decide)
  refine zN (zU (zB (zQ (zG (zR 2 rfl (zN (zU ?_)))))))
  refine cE rfl ?_ ?_<;>intro hc1
  ·
   refine zG (zR 1 rfl ?_)
   refine zF 0 ?_
   refine zN (zL (zU (zQ (zG ?_))))
   refine yB 0 ?_
   refine zE 1 ?_
   refine zN (zU (zT ?_))
   refine WE.retFS (E':=srcE b a cp xs (c+1+1)::F) qS tab_ok [_] rfl ⟨⟨_,_,_,rfl,rfl,rfl,qB,rfl⟩,trivial⟩ (by first|assumption|exact RLe.refl _) ?_
   exact⟨_,[],rfl,⟨2,(4+mod (nth xs c) (24 - 4+1)),2,[],[]⟩,none,none,0,0,_,rfl,rs_nil,rs_nil,⟨by dsimp only;omega,rfl,by dsimp only;omega,fun _=>⟨rfl,rfl⟩,fun h=>by dsimp only at h;omega,fun h=>by dsimp only at h;omega,fun h=>by dsimp only at h;omega,fun h=>by dsimp only at h;omega⟩,rfl,rfl⟩
  ·
   refine zQ (zG (zR 2 rfl (zN (zU ?_))))
   refine cE rfl ?_ ?_<;>intro hc2
   ·
    refine zQ (zG (zR 1 rfl ?_))
    refine zF 0 ?_
    refine zN (zU ?_)
    refine W.nil 3 1 qD ?_
    refine zQ (zG (zR 1 rfl (zN (zU (zB ?_)))))
    refine W.loopK (β:=Nat × List Int × Nat × Option Addr × Nat) (fun (i,ys,cn,a9,c9)=>ys.length=i∧i≤2∧∀ y∈ys,1≤y∧y≤3) (fun (i,ys,cn,a9,c9)=>[(6,true,.int .i64 (i:Int))]) [0,1,4,5] [_,_,_,_] [] _ rfl (fun (i,ys,cn,a9,c9)=>[(0,.sl 3 1 a9 c9 (ys.map encI)),(1,.blk b5 [.int .i64 3,.int .i64 (4+mod (nth xs c) (24 - 4+1)),.int .i64 2,.slice a9 ys.length c9,.slice none 0 0]),(3,srcE b a cp xs cn)]) (fun (i,ys,cn,a9,c9)=>2 - i) ((0,[],c+1+1,none,0)) (⟨rfl,Nat.zero_le _,fun y h=>(by cases h)⟩) ⟨rfl,rfl,rfl,rfl,rfl,rfl⟩ qS ?_
    intro zz hst
    obtain⟨i,ys,cn,a9,c9⟩:=zz
    obtain⟨hy1,hy2,hy3⟩:=hst
    refine zQ (zQ (zG (zR 3 rfl (zN (zU ?_)))))
    refine cD rfl ?_ ?_<;>intro hc3
    ·
     refine zK (zU (zQ (zB ?_)))
     refine W.regionD _ (.blk b4 [.int .i64 0,.int .i64 0,.int .i64 0,.slice none 0 0,.slice none 0 0]::F) (.blk b5 [.int .i64 3,.int .i64 (4+mod (nth xs c) (24 - 4+1)),.int .i64 2,.slice a9 ys.length c9,.slice none 0 0]::.blk b4 [.int .i64 0,.int .i64 0,.int .i64 0,.slice none 0 0,.slice none 0 0]::F) [7] mixed ?_
     refine vP 0 ?_
     refine vD 1 (r:=by apply Rd.add;(exact Rd.blk 0 rfl)) (k:=?_)
     refine vP 2 ?_
     refine VA.one (i:=3) qK ?_
     refine VS.callAt 3 rfl en19 rfl rfl qD (CallOp.mkT rfl rfl rfl rfl) rfl (Range_C (lo:=1) (hi:=3) w0 ha qO qO _) ?_
     rintro _ _ _ _ - ⟨rfl,rfl,rfl,rfl⟩
     refine⟨RLe.refl _,qS,(fun _=>qS),?_⟩
     have hm9:=mod_range (nth xs cn) (show (1:Int)≤3 - 1+1 by omega)
     refine VA.one (i:=4) qK ?_
     refine VS.eff rfl rfl rfl qD (Ef.buildSliceD (enc:=encI) (parts:=[.tmp 65]) [_] tab_ok rfl rfl rfl rfl rfl rfl rfl rfl qD qD (fun a66=>?_))
     refine⟨by first|exact RLe.refl _|assumption,qS,(fun _=>qS),?_⟩
     refine VA.one (i:=5) qK ?_
     refine VS.eff rfl rfl rfl (by decide) (Ef.appendD 1 0 tab_ok rfl rfl rfl rfl rfl rfl rfl rfl rfl rfl rfl (fun _ _=>rfl) (by simp only[List.length_cons,List.length_nil];omega) (by simp only[List.length_cons,List.length_nil];omega) (fun a67 c67 ha67=>?_))
     refine⟨by first|exact RLe.refl _|assumption,qS,(fun _=>qS),?_⟩
     refine vP 6 ?_
     refine VA.one (i:=7) qK ?_
     refine VS.effN rfl rfl rfl (Ef.store 2 tab_ok rfl rfl rfl rfl rfl rfl rfl rfl ?_)
     refine⟨by first|exact RLe.refl _|assumption,qS,(noD qK),?_⟩
     refine VA.done qK ?_
     refine zL (zU (zG (zR 1 rfl ?_)))
     refine yA ?_
     refine zR 1 rfl (zN ?_)
     refine WE.again ((i+1,ys++[1+mod (nth xs cn) (3 - 1+1)],cn+1,a67,c67)) (⟨by simp only[List.length_append,List.length_cons,List.length_nil];omega,by omega,fun y hy=>by rcases List.mem_append.1 hy with h|h;exact hy3 y h;have:=List.mem_singleton.1 h;omega⟩) (by(try dsimp only);omega) ⟨rfl,rfl,rfl,rfl,rfl,rfl⟩ (RLe.refl _) qS
    ·
     refine W.freeze (enc:=encI) (xs:=ys) 0 rfl ?_
     intro R1 hR1 hwz
     refine zX ?_
     refine wx (wx (zY (zL (zU (zQ (zG ?_))))))
     refine yB 0 ?_
     refine zE 1 ?_
     refine zN (zU (zT ?_))
     refine WE.retFS (E':=srcE b a cp xs (cn)::F) qS tab_ok [_] rfl ⟨⟨_,_,_,rfl,rfl,rfl,qB,rfl⟩,trivial⟩ (by first|assumption|exact RLe.refl _) ?_
     exact⟨_,[],rfl,⟨3,(4+mod (nth xs c) (24 - 4+1)),2,ys,[]⟩,_,none,_,0,_,rfl,hwz,rs_nil,⟨by dsimp only;omega,rfl,by dsimp only;omega,fun h=>by dsimp only at h;omega,fun h=>by dsimp only at h;omega,fun _=>⟨by dsimp only;omega,hy3,rfl⟩,fun h=>by dsimp only at h;omega,fun h=>by dsimp only at h;omega⟩,rfl,rfl⟩
   ·
    refine zQ (zG (zR 2 rfl (zN (zU ?_))))
    refine cE rfl ?_ ?_<;>intro hc4
    ·
     refine zQ (zG (zR 1 rfl ?_))
     refine zF 0 ?_
     refine zN (zU ?_)
     refine W.nil 3 1 qD ?_
     refine zQ (zG (zR 1 rfl (zN (zU (zB ?_)))))
     refine W.loopK (β:=Nat × List Int × Nat × Option Addr × Nat) (fun (i,ys,cn,a9,c9)=>ys.length=i∧i≤2∧∀ y∈ys,8≤y∧y≤20) (fun (i,ys,cn,a9,c9)=>[(7,true,.int .i64 (i:Int))]) [0,1,4,5] [_,_,_,_] [] _ rfl (fun (i,ys,cn,a9,c9)=>[(0,.sl 3 1 a9 c9 (ys.map encI)),(1,.blk b5 [.int .i64 4,.int .i64 (4+mod (nth xs c) (24 - 4+1)),.int .i64 2,.slice a9 ys.length c9,.slice none 0 0]),(3,srcE b a cp xs cn)]) (fun (i,ys,cn,a9,c9)=>2 - i) ((0,[],c+1+1,none,0)) (⟨rfl,Nat.zero_le _,fun y h=>(by cases h)⟩) ⟨rfl,rfl,rfl,rfl,rfl,rfl⟩ qS ?_
     intro zz hst
     obtain⟨i,ys,cn,a9,c9⟩:=zz
     obtain⟨hy1,hy2,hy3⟩:=hst
     refine zQ (zQ (zG (zR 3 rfl (zN (zU ?_)))))
     refine cD rfl ?_ ?_<;>intro hc5
     ·
      refine zK (zU (zQ (zB ?_)))
      refine W.regionD _ (.blk b4 [.int .i64 0,.int .i64 0,.int .i64 0,.slice none 0 0,.slice none 0 0]::F) (.blk b5 [.int .i64 4,.int .i64 (4+mod (nth xs c) (24 - 4+1)),.int .i64 2,.slice a9 ys.length c9,.slice none 0 0]::.blk b4 [.int .i64 0,.int .i64 0,.int .i64 0,.slice none 0 0,.slice none 0 0]::F) [7] mixed ?_
      refine vP 0 ?_
      refine vD 1 (r:=by apply Rd.add;(exact Rd.blk 0 rfl)) (k:=?_)
      refine vP 2 ?_
      refine VA.one (i:=3) qK ?_
      refine VS.callAt 3 rfl en19 rfl rfl qD (CallOp.mkT rfl rfl rfl rfl) rfl (Range_C (lo:=8) (hi:=20) w0 ha qO qO _) ?_
      rintro _ _ _ _ - ⟨rfl,rfl,rfl,rfl⟩
      refine⟨RLe.refl _,qS,(fun _=>qS),?_⟩
      have hm9:=mod_range (nth xs cn) (show (1:Int)≤20 - 8+1 by omega)
      refine VA.one (i:=4) qK ?_
      refine VS.eff rfl rfl rfl qD (Ef.buildSliceD (enc:=encI) (parts:=[.tmp 80]) [_] tab_ok rfl rfl rfl rfl rfl rfl rfl rfl qD qD (fun a81=>?_))
      refine⟨by first|exact RLe.refl _|assumption,qS,(fun _=>qS),?_⟩
      refine VA.one (i:=5) qK ?_
      refine VS.eff rfl rfl rfl (by decide) (Ef.appendD 1 0 tab_ok rfl rfl rfl rfl rfl rfl rfl rfl rfl rfl rfl (fun _ _=>rfl) (by simp only[List.length_cons,List.length_nil];omega) (by simp only[List.length_cons,List.length_nil];omega) (fun a82 c82 ha82=>?_))
      refine⟨by first|exact RLe.refl _|assumption,qS,(fun _=>qS),?_⟩
      refine vP 6 ?_
      refine VA.one (i:=7) qK ?_
      refine VS.effN rfl rfl rfl (Ef.store 2 tab_ok rfl rfl rfl rfl rfl rfl rfl rfl ?_)
      refine⟨by first|exact RLe.refl _|assumption,qS,(noD qK),?_⟩
      refine VA.done qK ?_
      refine zL (zU (zG (zR 1 rfl ?_)))
      refine yA ?_
      refine zR 1 rfl (zN ?_)
      refine WE.again ((i+1,ys++[8+mod (nth xs cn) (20 - 8+1)],cn+1,a82,c82)) (⟨by simp only[List.length_append,List.length_cons,List.length_nil];omega,by omega,fun y hy=>by rcases List.mem_append.1 hy with h|h;exact hy3 y h;have:=List.mem_singleton.1 h;omega⟩) (by(try dsimp only);omega) ⟨rfl,rfl,rfl,rfl,rfl,rfl⟩ (RLe.refl _) qS
     ·
      refine W.freeze (enc:=encI) (xs:=ys) 0 rfl ?_
      intro R1 hR1 hwz
      refine zX ?_
      refine wx (wx (zY (zL (zU (zQ (zG ?_))))))
      refine yB 0 ?_
      refine zE 1 ?_
      refine zN (zU (zT ?_))
      refine WE.retFS (E':=srcE b a cp xs (cn)::F) qS tab_ok [_] rfl ⟨⟨_,_,_,rfl,rfl,rfl,qB,rfl⟩,trivial⟩ (by first|assumption|exact RLe.refl _) ?_
      exact⟨_,[],rfl,⟨4,(4+mod (nth xs c) (24 - 4+1)),2,ys,[]⟩,_,none,_,0,_,rfl,hwz,rs_nil,⟨by dsimp only;omega,rfl,by dsimp only;omega,fun h=>by dsimp only at h;omega,fun h=>by dsimp only at h;omega,fun h=>by dsimp only at h;omega,fun _=>⟨by dsimp only;omega,hy3,rfl⟩,fun h=>by dsimp only at h;omega⟩,rfl,rfl⟩
    ·
     refine zQ (zG (zR 1 rfl ?_))
     refine zF 0 ?_
     refine zN (zU (zQ ?_))
     refine W.nil 3 1 qD ?_
     refine zQ (zG (zR 1 rfl (zN (zU (zB ?_)))))
     refine W.loopK (β:=Nat × List Int × Option Addr × Nat) (fun (i,ys,a9,c9)=>ys.length=i∧i≤2∧∀ y∈ys,-1≤y∧y≤(2:Int) - 1) (fun (i,ys,a9,c9)=>[(8,true,.int .i64 (i:Int))]) [0,1,4,5] [_,_,_,_] [] _ rfl (fun (i,ys,a9,c9)=>[(0,.sl 3 1 a9 c9 (ys.map encI)),(1,.blk b5 [.int .i64 5,.int .i64 (4+mod (nth xs c) (24 - 4+1)),.int .i64 2,.slice none 0 0,.slice a9 ys.length c9])]) (fun (i,ys,a9,c9)=>2 - i) ((0,[],none,0)) (⟨rfl,Nat.zero_le _,fun y h=>(by cases h)⟩) ⟨rfl,rfl,rfl,rfl,rfl,rfl⟩ qS ?_
     intro zz hst
     obtain⟨i,ys,a9,c9⟩:=zz
     obtain⟨hy1,hy2,hy3⟩:=hst
     refine zQ (zQ (zG (zR 3 rfl (zN (zU ?_)))))
     refine cD rfl ?_ ?_<;>intro hc6
     ·
      refine zK (zU (zQ (zB (zG (zR 1 rfl ?_)))))
      refine yM 1 ?_
      refine zR 1 rfl ?_
      refine WL.ef rfl rfl qD (Ef.buildSliceD (enc:=encI) (parts:=[.tmp 32]) [_] tab_ok rfl rfl rfl rfl rfl rfl rfl rfl qD qD (fun a33=>?_))
      refine WL.ef rfl rfl (by decide) (Ef.appendD 1 0 tab_ok rfl rfl rfl rfl rfl rfl rfl rfl rfl rfl rfl (fun _ _=>rfl) (by simp only[List.length_cons,List.length_nil];omega) (by simp only[List.length_cons,List.length_nil];omega) (fun a34 c34 ha34=>?_))
      refine zR 1 rfl ?_
      refine zF 2 ?_
      refine zN (zL (zU (zG (zR 1 rfl ?_))))
      refine yA ?_
      refine zR 1 rfl (zN ?_)
      refine WE.again ((i+1,ys++[(i:Int)],a34,c34)) (⟨by simp only[List.length_append,List.length_cons,List.length_nil];omega,by omega,fun y hy=>by rcases List.mem_append.1 hy with h|h;exact hy3 y h;have:=List.mem_singleton.1 h;omega⟩) (by(try dsimp only);omega) ⟨rfl,rfl,rfl,rfl,rfl,rfl⟩ (RLe.refl _) qS
     ·
      refine zX ?_
      refine wx (wx (zY (zU (zQ (zG (zR 1 rfl ?_))))))
      refine WL.callAt 3 en29 rfl rfl qD (CallOp.mkT rfl rfl rfl rfl) rfl (N_C w0 ha (by constructor<;>decide) _) ?_
      rintro _ _ _ _ - ⟨rfl,rfl,rfl,rfl⟩
      have hm8:=mod_range (nth xs (c+1+1)) (show (1:Int)≤3 by decide)
      obtain⟨k8,hk8⟩:=Int.eq_ofNat_of_zero_le hm8.1
      rw[hk8]
      refine zR 1 rfl (zN (zU (zB ?_)))
      refine W.loopK (β:=Nat × List Int × Nat × Option Addr × Nat) (fun (j,ys,cn,a9,c9)=>2≤ys.length∧ys.length+j≤4∧∀ y∈ys,-1≤y∧y≤(2:Int) - 1) (fun (j,ys,cn,a9,c9)=>[(9,true,.int .i64 (j:Int))]) [0,1,4,5] [_,_,_,_] [] _ rfl (fun (j,ys,cn,a9,c9)=>[(0,.sl 3 1 a9 c9 (ys.map encI)),(1,.blk b5 [.int .i64 5,.int .i64 (4+mod (nth xs c) (24 - 4+1)),.int .i64 2,.slice none 0 0,.slice a9 ys.length c9]),(3,srcE b a cp xs cn)]) (fun (j,ys,cn,a9,c9)=>j) ((k8,ys,c+1+1+1,a9,c9)) (⟨by(try dsimp only);omega,by(try dsimp only);omega,hy3⟩) ⟨rfl,rfl,rfl,rfl,rfl,rfl⟩ qS ?_
      intro zz hst
      obtain⟨j,ys,cn,a9,c9⟩:=zz
      obtain⟨hy1,hy2,hy3⟩:=hst
      refine zQ (zQ (zG (zR 2 rfl (zN (zU ?_)))))
      refine cD rfl ?_ ?_<;>intro hc7
      ·
       obtain⟨j,rfl⟩:∃ m,j=m+1:=⟨j - 1,by omega⟩
       refine zK (zU (zQ (zB ?_)))
       refine W.regionD _ (.blk b4 [.int .i64 0,.int .i64 0,.int .i64 0,.slice none 0 0,.slice none 0 0]::F) (.blk b5 [.int .i64 5,.int .i64 (4+mod (nth xs c) (24 - 4+1)),.int .i64 2,.slice none 0 0,.slice a9 ys.length c9]::.blk b4 [.int .i64 0,.int .i64 0,.int .i64 0,.slice none 0 0,.slice none 0 0]::F) [9] mixed ?_
       refine vP 0 ?_
       refine vD 1 (r:=by apply Rd.add;(exact Rd.blk 0 rfl)) (k:=?_)
       refine vP 2 ?_
       refine vP 3 ?_
       refine VA.take2 4 rfl qK qK qK rfl qK qK rfl rfl qD (Yl.sub rfl rfl rfl (fun _=>rfl) qA) qS qR qS ?_
       refine VA.one (i:=5) qK ?_
       refine VS.callAt 3 rfl en19 rfl rfl qD (CallOp.mkT rfl rfl rfl rfl) rfl (Range_C (lo:=(-1)) (hi:=(2 - 1)) w0 ha qO qO _) ?_
       rintro _ _ _ _ - ⟨rfl,rfl,rfl,rfl⟩
       refine⟨RLe.refl _,qS,(fun _=>qS),?_⟩
       have hm9:=mod_range (nth xs cn) (show (1:Int)≤(2 - 1) - (-1)+1 by omega)
       refine VA.one (i:=6) qK ?_
       refine VS.eff rfl rfl rfl qD (Ef.buildSliceD (enc:=encI) (parts:=[.tmp 47]) [_] tab_ok rfl rfl rfl rfl rfl rfl rfl rfl qD qD (fun a48=>?_))
       refine⟨by first|exact RLe.refl _|assumption,qS,(fun _=>qS),?_⟩
       refine VA.one (i:=7) qK ?_
       refine VS.eff rfl rfl rfl (by decide) (Ef.appendD 1 0 tab_ok rfl rfl rfl rfl rfl rfl rfl rfl rfl rfl rfl (fun _ _=>rfl) (by simp only[List.length_cons,List.length_nil];omega) (by simp only[List.length_cons,List.length_nil];omega) (fun a49 c49 ha49=>?_))
       refine⟨by first|exact RLe.refl _|assumption,qS,(fun _=>qS),?_⟩
       refine vP 8 ?_
       refine VA.one (i:=9) qK ?_
       refine VS.effN rfl rfl rfl (Ef.store 2 tab_ok rfl rfl rfl rfl rfl rfl rfl rfl ?_)
       refine⟨by first|exact RLe.refl _|assumption,qS,(noD qK),?_⟩
       refine VA.done qK ?_
       refine zL (zU (zG (zR 1 rfl ?_)))
       refine yS ?_
       refine zR 1 rfl (zN ?_)
       refine WE.again ((j,ys++[-1+mod (nth xs cn) ((2 - 1) - -1+1)],cn+1,a49,c49)) (⟨by simp only[List.length_append,List.length_cons,List.length_nil];omega,by simp only[List.length_append,List.length_cons,List.length_nil];omega,fun y hy=>by rcases List.mem_append.1 hy with h|h;exact hy3 y h;have:=List.mem_singleton.1 h;omega⟩) (by(try dsimp only);omega) ⟨vint (by omega),rfl,rfl,rfl,rfl,rfl⟩ (RLe.refl _) qS
      ·
       refine W.freeze (enc:=encI) (xs:=ys) 0 rfl ?_
       intro R1 hR1 hwz
       refine zX ?_
       refine wx (wx (zY (zL (zU (zQ (zG ?_))))))
       refine yB 0 ?_
       refine zE 1 ?_
       refine zN (zU (zT ?_))
       refine WE.retFS (E':=srcE b a cp xs (cn)::F) qS tab_ok [_] rfl ⟨⟨_,_,_,rfl,rfl,rfl,qB,rfl⟩,trivial⟩ (by first|assumption|exact RLe.refl _) ?_
       exact⟨_,[],rfl,⟨5,(4+mod (nth xs c) (24 - 4+1)),2,[],ys⟩,none,_,0,_,_,rfl,rs_nil,hwz,⟨by dsimp only;omega,rfl,by dsimp only;omega,fun h=>by dsimp only at h;omega,fun h=>by dsimp only at h;omega,fun h=>by dsimp only at h;omega,fun h=>by dsimp only at h;omega,fun _=>⟨rfl,by dsimp only;omega,by dsimp only;omega,hy3⟩⟩,rfl,rfl⟩
set_option maxHeartbeats 4000000 in
theorem Port1_C {R:Ro} {b:Nat} {a:Option Addr} {cp:Nat} {xs:List Int} {c:Nat} (w0:World) (ha:K.RS R 1 encI a xs):FnAt Tryz.prog 20 [.pointer (some ⟨b,0,none⟩),.int .i64 1] w0 R (srcE b a cp xs c) (fun v R' e' N=>∃ (L:Ln) (aw at_:Option Addr) (cw ct cn:Nat),v=.agg #[.int .i64 L.kind,.int .i64 L.cap,.int .i64 L.n,.slice aw L.w.length cw,.slice at_ L.tb.length ct]∧K.RS R' 1 encI aw L.w∧K.RS R' 1 encI at_ L.tb∧DrawP 1 L∧e'=srcE b a cp xs cn∧N=[]):=by
 intro F
 refine fE 85 Tryz.func20 ?_
 refine zQ (zG ?_)
 refine zA fun b4=>?_
 refine zN (zU (zQ (zG (zR 1 rfl ?_))))
 refine WL.callAt 1 en19 rfl rfl qD (CallOp.mkT rfl rfl rfl rfl) rfl (Range_C (lo:=4) (hi:=24) w0 ha qO qO _) ?_
 rintro _ _ _ _ - ⟨rfl,rfl,rfl,rfl⟩
 have hm0:=mod_range (nth xs (c)) (show (1:Int)≤24 - 4+1 by omega)
 refine zR 1 rfl ?_
 refine yW [(0,.const (.int .i64 1)),(1,.tmp 11),(2,.tmp 12)] ?_
 refine zA fun b5=>?_
 refine zE 0 ?_
 refine zN (zU (zQ (zQ (zG (zR 3 rfl ?_)))))
 refine yP ?_
 refine WL.callAtT 2 en29 rfl rfl (by rfl) qD (CallOp.mk' rfl rfl rfl rfl) rfl rfl (N_C (n:=3) w0 ha (by constructor<;>decide) _) ?_
 rintro _ _ _ _ - ⟨rfl,rfl,rfl,rfl⟩
 have hm2:=mod_range (nth xs (c+1)) (show (1:Int)≤3 by decide)
 refine yP ?_
 refine yN ?_
 refine zN (zU ?_)
 refine cC rfl ?_ ?_<;>intro hc0
 ·try simp only[zk] at hc0
  refine zQ (zG ?_)
  refine yB 0 ?_
  refine zE 1 ?_
  refine zN (zU (zT (wt ?_)))
  refine WE.retFS (E':=srcE b a cp xs (c+1+1)::F) qS tab_ok [_] rfl ⟨⟨_,_,_,rfl,rfl,rfl,qB,rfl⟩,trivial⟩ (by first|assumption|exact RLe.refl _) ?_
  exact⟨_,[],rfl,⟨1,(4+mod (nth xs c) (24 - 4+1)),1,[],[]⟩,none,none,0,0,_,rfl,rs_nil,rs_nil,⟨by dsimp only;omega,rfl,by dsimp only;omega,fun _=>⟨rfl,rfl⟩,fun _=>rfl,fun h=>by dsimp only at h;omega,fun h=>by dsimp only at h;omega,fun h=>by dsimp only at h;omega⟩,rfl,rfl⟩
 ·try simp only [zk] at hc0
  refine zK (zU (zQ (zQ (zG (zR 1 rfl ?_)))))
  refine WL.callAt 2 en29 rfl rfl qD (CallOp.mkT rfl rfl rfl rfl) rfl (N_C w0 ha (by constructor<;>decide) _) ?_
  rintro _ _ _ _ - ⟨rfl,rfl,rfl,rfl⟩
  have hm1:=mod_range (nth xs (c+1+1)) (show (1:Int)≤4 by decide)
  refine zN (zU (zB (zQ (zG (zR 2 rfl (zN (zU ?_)))))))
  refine cE rfl ?_ ?_<;>intro hc1
  ·
   refine zG (zR 1 rfl ?_)
   refine zF 0 ?_
   refine zN (zL (zU (zQ (zG ?_))))
   refine yB 0 ?_
   refine zE 1 ?_
   refine zN (zU (zT ?_))
   refine WE.retFS (E':=srcE b a cp xs (c+1+1+1)::F) qS tab_ok [_] rfl ⟨⟨_,_,_,rfl,rfl,rfl,qB,rfl⟩,trivial⟩ (by first|assumption|exact RLe.refl _) ?_
   exact⟨_,[],rfl,⟨2,(4+mod (nth xs c) (24 - 4+1)),1,[],[]⟩,none,none,0,0,_,rfl,rs_nil,rs_nil,⟨by dsimp only;omega,rfl,by dsimp only;omega,fun _=>⟨rfl,rfl⟩,fun h=>by dsimp only at h;omega,fun h=>by dsimp only at h;omega,fun h=>by dsimp only at h;omega,fun h=>by dsimp only at h;omega⟩,rfl,rfl⟩
  ·
   refine zQ (zG (zR 2 rfl (zN (zU ?_))))
   refine cE rfl ?_ ?_<;>intro hc2
   ·
    refine zQ (zG (zR 1 rfl ?_))
    refine zF 0 ?_
    refine zN (zU ?_)
    refine W.nil 3 1 qD ?_
    refine zQ (zG (zR 1 rfl (zN (zU (zB ?_)))))
    refine W.loopK (β:=Nat × List Int × Nat × Option Addr × Nat) (fun (i,ys,cn,a9,c9)=>ys.length=i∧i≤1∧∀ y∈ys,1≤y∧y≤3) (fun (i,ys,cn,a9,c9)=>[(6,true,.int .i64 (i:Int))]) [0,1,4,5] [_,_,_,_] [] _ rfl (fun (i,ys,cn,a9,c9)=>[(0,.sl 3 1 a9 c9 (ys.map encI)),(1,.blk b5 [.int .i64 3,.int .i64 (4+mod (nth xs c) (24 - 4+1)),.int .i64 1,.slice a9 ys.length c9,.slice none 0 0]),(3,srcE b a cp xs cn)]) (fun (i,ys,cn,a9,c9)=>1 - i) ((0,[],c+1+1+1,none,0)) (⟨rfl,Nat.zero_le _,fun y h=>(by cases h)⟩) ⟨rfl,rfl,rfl,rfl,rfl,rfl⟩ qS ?_
    intro zz hst
    obtain⟨i,ys,cn,a9,c9⟩:=zz
    obtain⟨hy1,hy2,hy3⟩:=hst
    refine zQ (zQ (zG (zR 3 rfl (zN (zU ?_)))))
    refine cD rfl ?_ ?_<;>intro hc3
    ·
     refine zK (zU (zQ (zB ?_)))
     refine W.regionD _ (.blk b4 [.int .i64 0,.int .i64 0,.int .i64 0,.slice none 0 0,.slice none 0 0]::F) (.blk b5 [.int .i64 3,.int .i64 (4+mod (nth xs c) (24 - 4+1)),.int .i64 1,.slice a9 ys.length c9,.slice none 0 0]::.blk b4 [.int .i64 0,.int .i64 0,.int .i64 0,.slice none 0 0,.slice none 0 0]::F) [7] mixed ?_
     refine vP 0 ?_
     refine vD 1 (r:=by apply Rd.add;(exact Rd.blk 0 rfl)) (k:=?_)
     refine vP 2 ?_
     refine VA.one (i:=3) qK ?_
     refine VS.callAt 3 rfl en19 rfl rfl qD (CallOp.mkT rfl rfl rfl rfl) rfl (Range_C (lo:=1) (hi:=3) w0 ha qO qO _) ?_
     rintro _ _ _ _ - ⟨rfl,rfl,rfl,rfl⟩
     refine⟨RLe.refl _,qS,(fun _=>qS),?_⟩
     have hm9:=mod_range (nth xs cn) (show (1:Int)≤3 - 1+1 by omega)
     refine VA.one (i:=4) qK ?_
     refine VS.eff rfl rfl rfl qD (Ef.buildSliceD (enc:=encI) (parts:=[.tmp 65]) [_] tab_ok rfl rfl rfl rfl rfl rfl rfl rfl qD qD (fun a66=>?_))
     refine⟨by first|exact RLe.refl _|assumption,qS,(fun _=>qS),?_⟩
     refine VA.one (i:=5) qK ?_
     refine VS.eff rfl rfl rfl (by decide) (Ef.appendD 1 0 tab_ok rfl rfl rfl rfl rfl rfl rfl rfl rfl rfl rfl (fun _ _=>rfl) (by simp only[List.length_cons,List.length_nil];omega) (by simp only[List.length_cons,List.length_nil];omega) (fun a67 c67 ha67=>?_))
     refine⟨by first|exact RLe.refl _|assumption,qS,(fun _=>qS),?_⟩
     refine vP 6 ?_
     refine VA.one (i:=7) qK ?_
     refine VS.effN rfl rfl rfl (Ef.store 2 tab_ok rfl rfl rfl rfl rfl rfl rfl rfl ?_)
     refine⟨by first|exact RLe.refl _|assumption,qS,(noD qK),?_⟩
     refine VA.done qK ?_
     refine zL (zU (zG (zR 1 rfl ?_)))
     refine yA ?_
     refine zR 1 rfl (zN ?_)
     refine WE.again ((i+1,ys++[1+mod (nth xs cn) (3 - 1+1)],cn+1,a67,c67)) (⟨by simp only[List.length_append,List.length_cons,List.length_nil];omega,by omega,fun y hy=>by rcases List.mem_append.1 hy with h|h;exact hy3 y h;have:=List.mem_singleton.1 h;omega⟩) (by(try dsimp only);omega) ⟨rfl,rfl,rfl,rfl,rfl,rfl⟩ (RLe.refl _) qS
    ·
     refine W.freeze (enc:=encI) (xs:=ys) 0 rfl ?_
     intro R1 hR1 hwz
     refine zX ?_
     refine wx (wx (zY (zL (zU (zQ (zG ?_))))))
     refine yB 0 ?_
     refine zE 1 ?_
     refine zN (zU (zT ?_))
     refine WE.retFS (E':=srcE b a cp xs (cn)::F) qS tab_ok [_] rfl ⟨⟨_,_,_,rfl,rfl,rfl,qB,rfl⟩,trivial⟩ (by first|assumption|exact RLe.refl _) ?_
     exact⟨_,[],rfl,⟨3,(4+mod (nth xs c) (24 - 4+1)),1,ys,[]⟩,_,none,_,0,_,rfl,hwz,rs_nil,⟨by dsimp only;omega,rfl,by dsimp only;omega,fun h=>by dsimp only at h;omega,fun h=>by dsimp only at h;omega,fun _=>⟨by dsimp only;omega,hy3,rfl⟩,fun h=>by dsimp only at h;omega,fun h=>by dsimp only at h;omega⟩,rfl,rfl⟩
   ·
    refine zQ (zG (zR 2 rfl (zN (zU ?_))))
    refine cE rfl ?_ ?_<;>intro hc4
    ·
     refine zQ (zG (zR 1 rfl ?_))
     refine zF 0 ?_
     refine zN (zU ?_)
     refine W.nil 3 1 qD ?_
     refine zQ (zG (zR 1 rfl (zN (zU (zB ?_)))))
     refine W.loopK (β:=Nat × List Int × Nat × Option Addr × Nat) (fun (i,ys,cn,a9,c9)=>ys.length=i∧i≤1∧∀ y∈ys,8≤y∧y≤20) (fun (i,ys,cn,a9,c9)=>[(7,true,.int .i64 (i:Int))]) [0,1,4,5] [_,_,_,_] [] _ rfl (fun (i,ys,cn,a9,c9)=>[(0,.sl 3 1 a9 c9 (ys.map encI)),(1,.blk b5 [.int .i64 4,.int .i64 (4+mod (nth xs c) (24 - 4+1)),.int .i64 1,.slice a9 ys.length c9,.slice none 0 0]),(3,srcE b a cp xs cn)]) (fun (i,ys,cn,a9,c9)=>1 - i) ((0,[],c+1+1+1,none,0)) (⟨rfl,Nat.zero_le _,fun y h=>(by cases h)⟩) ⟨rfl,rfl,rfl,rfl,rfl,rfl⟩ qS ?_
     intro zz hst
     obtain⟨i,ys,cn,a9,c9⟩:=zz
     obtain⟨hy1,hy2,hy3⟩:=hst
     refine zQ (zQ (zG (zR 3 rfl (zN (zU ?_)))))
     refine cD rfl ?_ ?_<;>intro hc5
     ·
      refine zK (zU (zQ (zB ?_)))
      refine W.regionD _ (.blk b4 [.int .i64 0,.int .i64 0,.int .i64 0,.slice none 0 0,.slice none 0 0]::F) (.blk b5 [.int .i64 4,.int .i64 (4+mod (nth xs c) (24 - 4+1)),.int .i64 1,.slice a9 ys.length c9,.slice none 0 0]::.blk b4 [.int .i64 0,.int .i64 0,.int .i64 0,.slice none 0 0,.slice none 0 0]::F) [7] mixed ?_
      refine vP 0 ?_
      refine vD 1 (r:=by apply Rd.add;(exact Rd.blk 0 rfl)) (k:=?_)
      refine vP 2 ?_
      refine VA.one (i:=3) qK ?_
      refine VS.callAt 3 rfl en19 rfl rfl qD (CallOp.mkT rfl rfl rfl rfl) rfl (Range_C (lo:=8) (hi:=20) w0 ha qO qO _) ?_
      rintro _ _ _ _ - ⟨rfl,rfl,rfl,rfl⟩
      refine⟨RLe.refl _,qS,(fun _=>qS),?_⟩
      have hm9:=mod_range (nth xs cn) (show (1:Int)≤20 - 8+1 by omega)
      refine VA.one (i:=4) qK ?_
      refine VS.eff rfl rfl rfl qD (Ef.buildSliceD (enc:=encI) (parts:=[.tmp 80]) [_] tab_ok rfl rfl rfl rfl rfl rfl rfl rfl qD qD (fun a81=>?_))
      refine⟨by first|exact RLe.refl _|assumption,qS,(fun _=>qS),?_⟩
      refine VA.one (i:=5) qK ?_
      refine VS.eff rfl rfl rfl (by decide) (Ef.appendD 1 0 tab_ok rfl rfl rfl rfl rfl rfl rfl rfl rfl rfl rfl (fun _ _=>rfl) (by simp only[List.length_cons,List.length_nil];omega) (by simp only[List.length_cons,List.length_nil];omega) (fun a82 c82 ha82=>?_))
      refine⟨by first|exact RLe.refl _|assumption,qS,(fun _=>qS),?_⟩
      refine vP 6 ?_
      refine VA.one (i:=7) qK ?_
      refine VS.effN rfl rfl rfl (Ef.store 2 tab_ok rfl rfl rfl rfl rfl rfl rfl rfl ?_)
      refine⟨by first|exact RLe.refl _|assumption,qS,(noD qK),?_⟩
      refine VA.done qK ?_
      refine zL (zU (zG (zR 1 rfl ?_)))
      refine yA ?_
      refine zR 1 rfl (zN ?_)
      refine WE.again ((i+1,ys++[8+mod (nth xs cn) (20 - 8+1)],cn+1,a82,c82)) (⟨by simp only[List.length_append,List.length_cons,List.length_nil];omega,by omega,fun y hy=>by rcases List.mem_append.1 hy with h|h;exact hy3 y h;have:=List.mem_singleton.1 h;omega⟩) (by(try dsimp only);omega) ⟨rfl,rfl,rfl,rfl,rfl,rfl⟩ (RLe.refl _) qS
     ·
      refine W.freeze (enc:=encI) (xs:=ys) 0 rfl ?_
      intro R1 hR1 hwz
      refine zX ?_
      refine wx (wx (zY (zL (zU (zQ (zG ?_))))))
      refine yB 0 ?_
      refine zE 1 ?_
      refine zN (zU (zT ?_))
      refine WE.retFS (E':=srcE b a cp xs (cn)::F) qS tab_ok [_] rfl ⟨⟨_,_,_,rfl,rfl,rfl,qB,rfl⟩,trivial⟩ (by first|assumption|exact RLe.refl _) ?_
      exact⟨_,[],rfl,⟨4,(4+mod (nth xs c) (24 - 4+1)),1,ys,[]⟩,_,none,_,0,_,rfl,hwz,rs_nil,⟨by dsimp only;omega,rfl,by dsimp only;omega,fun h=>by dsimp only at h;omega,fun h=>by dsimp only at h;omega,fun h=>by dsimp only at h;omega,fun _=>⟨by dsimp only;omega,hy3,rfl⟩,fun h=>by dsimp only at h;omega⟩,rfl,rfl⟩
    ·
     refine zQ (zG (zR 1 rfl ?_))
     refine zF 0 ?_
     refine zN (zU (zQ ?_))
     refine W.nil 3 1 qD ?_
     refine zQ (zG (zR 1 rfl (zN (zU (zB ?_)))))
     refine W.loopK (β:=Nat × List Int × Option Addr × Nat) (fun (i,ys,a9,c9)=>ys.length=i∧i≤1∧∀ y∈ys,-1≤y∧y≤(1:Int) - 1) (fun (i,ys,a9,c9)=>[(8,true,.int .i64 (i:Int))]) [0,1,4,5] [_,_,_,_] [] _ rfl (fun (i,ys,a9,c9)=>[(0,.sl 3 1 a9 c9 (ys.map encI)),(1,.blk b5 [.int .i64 5,.int .i64 (4+mod (nth xs c) (24 - 4+1)),.int .i64 1,.slice none 0 0,.slice a9 ys.length c9])]) (fun (i,ys,a9,c9)=>1 - i) ((0,[],none,0)) (⟨rfl,Nat.zero_le _,fun y h=>(by cases h)⟩) ⟨rfl,rfl,rfl,rfl,rfl,rfl⟩ qS ?_
     intro zz hst
     obtain⟨i,ys,a9,c9⟩:=zz
     obtain⟨hy1,hy2,hy3⟩:=hst
     refine zQ (zQ (zG (zR 3 rfl (zN (zU ?_)))))
     refine cD rfl ?_ ?_<;>intro hc6
     ·
      refine zK (zU (zQ (zB (zG (zR 1 rfl ?_)))))
      refine yM 1 ?_
      refine zR 1 rfl ?_
      refine WL.ef rfl rfl qD (Ef.buildSliceD (enc:=encI) (parts:=[.tmp 32]) [_] tab_ok rfl rfl rfl rfl rfl rfl rfl rfl qD qD (fun a33=>?_))
      refine WL.ef rfl rfl (by decide) (Ef.appendD 1 0 tab_ok rfl rfl rfl rfl rfl rfl rfl rfl rfl rfl rfl (fun _ _=>rfl) (by simp only[List.length_cons,List.length_nil];omega) (by simp only[List.length_cons,List.length_nil];omega) (fun a34 c34 ha34=>?_))
      refine zR 1 rfl ?_
      refine zF 2 ?_
      refine zN (zL (zU (zG (zR 1 rfl ?_))))
      refine yA ?_
      refine zR 1 rfl (zN ?_)
      refine WE.again ((i+1,ys++[(i:Int)],a34,c34)) (⟨by simp only[List.length_append,List.length_cons,List.length_nil];omega,by omega,fun y hy=>by rcases List.mem_append.1 hy with h|h;exact hy3 y h;have:=List.mem_singleton.1 h;omega⟩) (by(try dsimp only);omega) ⟨rfl,rfl,rfl,rfl,rfl,rfl⟩ (RLe.refl _) qS
     ·
      refine zX ?_
      refine wx (wx (zY (zU (zQ (zG (zR 1 rfl ?_))))))
      refine WL.callAt 3 en29 rfl rfl qD (CallOp.mkT rfl rfl rfl rfl) rfl (N_C w0 ha (by constructor<;>decide) _) ?_
      rintro _ _ _ _ - ⟨rfl,rfl,rfl,rfl⟩
      have hm8:=mod_range (nth xs (c+1+1+1)) (show (1:Int)≤3 by decide)
      obtain⟨k8,hk8⟩:=Int.eq_ofNat_of_zero_le hm8.1
      rw[hk8]
      refine zR 1 rfl (zN (zU (zB ?_)))
      refine W.loopK (β:=Nat × List Int × Nat × Option Addr × Nat) (fun (j,ys,cn,a9,c9)=>1≤ys.length∧ys.length+j≤3∧∀ y∈ys,-1≤y∧y≤(1:Int) - 1) (fun (j,ys,cn,a9,c9)=>[(9,true,.int .i64 (j:Int))]) [0,1,4,5] [_,_,_,_] [] _ rfl (fun (j,ys,cn,a9,c9)=>[(0,.sl 3 1 a9 c9 (ys.map encI)),(1,.blk b5 [.int .i64 5,.int .i64 (4+mod (nth xs c) (24 - 4+1)),.int .i64 1,.slice none 0 0,.slice a9 ys.length c9]),(3,srcE b a cp xs cn)]) (fun (j,ys,cn,a9,c9)=>j) ((k8,ys,c+1+1+1+1,a9,c9)) (⟨by(try dsimp only);omega,by(try dsimp only);omega,hy3⟩) ⟨rfl,rfl,rfl,rfl,rfl,rfl⟩ qS ?_
      intro zz hst
      obtain⟨j,ys,cn,a9,c9⟩:=zz
      obtain⟨hy1,hy2,hy3⟩:=hst
      refine zQ (zQ (zG (zR 2 rfl (zN (zU ?_)))))
      refine cD rfl ?_ ?_<;>intro hc7
      ·
       obtain⟨j,rfl⟩:∃ m,j=m+1:=⟨j - 1,by omega⟩
       refine zK (zU (zQ (zB ?_)))
       refine W.regionD _ (.blk b4 [.int .i64 0,.int .i64 0,.int .i64 0,.slice none 0 0,.slice none 0 0]::F) (.blk b5 [.int .i64 5,.int .i64 (4+mod (nth xs c) (24 - 4+1)),.int .i64 1,.slice none 0 0,.slice a9 ys.length c9]::.blk b4 [.int .i64 0,.int .i64 0,.int .i64 0,.slice none 0 0,.slice none 0 0]::F) [9] mixed ?_
       refine vP 0 ?_
       refine vD 1 (r:=by apply Rd.add;(exact Rd.blk 0 rfl)) (k:=?_)
       refine vP 2 ?_
       refine vP 3 ?_
       refine VA.take2 4 rfl qK qK qK rfl qK qK rfl rfl qD (Yl.sub rfl rfl rfl (fun _=>rfl) qA) qS qR qS ?_
       refine VA.one (i:=5) qK ?_
       refine VS.callAt 3 rfl en19 rfl rfl qD (CallOp.mkT rfl rfl rfl rfl) rfl (Range_C (lo:=(-1)) (hi:=(1 - 1)) w0 ha qO qO _) ?_
       rintro _ _ _ _ - ⟨rfl,rfl,rfl,rfl⟩
       refine⟨RLe.refl _,qS,(fun _=>qS),?_⟩
       have hm9:=mod_range (nth xs cn) (show (1:Int)≤(1 - 1) - (-1)+1 by omega)
       refine VA.one (i:=6) qK ?_
       refine VS.eff rfl rfl rfl qD (Ef.buildSliceD (enc:=encI) (parts:=[.tmp 47]) [_] tab_ok rfl rfl rfl rfl rfl rfl rfl rfl qD qD (fun a48=>?_))
       refine⟨by first|exact RLe.refl _|assumption,qS,(fun _=>qS),?_⟩
       refine VA.one (i:=7) qK ?_
       refine VS.eff rfl rfl rfl (by decide) (Ef.appendD 1 0 tab_ok rfl rfl rfl rfl rfl rfl rfl rfl rfl rfl rfl (fun _ _=>rfl) (by simp only[List.length_cons,List.length_nil];omega) (by simp only[List.length_cons,List.length_nil];omega) (fun a49 c49 ha49=>?_))
       refine⟨by first|exact RLe.refl _|assumption,qS,(fun _=>qS),?_⟩
       refine vP 8 ?_
       refine VA.one (i:=9) qK ?_
       refine VS.effN rfl rfl rfl (Ef.store 2 tab_ok rfl rfl rfl rfl rfl rfl rfl rfl ?_)
       refine⟨by first|exact RLe.refl _|assumption,qS,(noD qK),?_⟩
       refine VA.done qK ?_
       refine zL (zU (zG (zR 1 rfl ?_)))
       refine yS ?_
       refine zR 1 rfl (zN ?_)
       refine WE.again ((j,ys++[-1+mod (nth xs cn) ((1 - 1) - -1+1)],cn+1,a49,c49)) (⟨by simp only[List.length_append,List.length_cons,List.length_nil];omega,by simp only[List.length_append,List.length_cons,List.length_nil];omega,fun y hy=>by rcases List.mem_append.1 hy with h|h;exact hy3 y h;have:=List.mem_singleton.1 h;omega⟩) (by(try dsimp only);omega) ⟨vint (by omega),rfl,rfl,rfl,rfl,rfl⟩ (RLe.refl _) qS
      ·
       refine W.freeze (enc:=encI) (xs:=ys) 0 rfl ?_
       intro R1 hR1 hwz
       refine zX ?_
       refine wx (wx (zY (zL (zU (zQ (zG ?_))))))
       refine yB 0 ?_
       refine zE 1 ?_
       refine zN (zU (zT ?_))
       refine WE.retFS (E':=srcE b a cp xs (cn)::F) qS tab_ok [_] rfl ⟨⟨_,_,_,rfl,rfl,rfl,qB,rfl⟩,trivial⟩ (by first|assumption|exact RLe.refl _) ?_
       exact⟨_,[],rfl,⟨5,(4+mod (nth xs c) (24 - 4+1)),1,[],ys⟩,none,_,0,_,_,rfl,rs_nil,hwz,⟨by dsimp only;omega,rfl,by dsimp only;omega,fun h=>by dsimp only at h;omega,fun h=>by dsimp only at h;omega,fun h=>by dsimp only at h;omega,fun h=>by dsimp only at h;omega,fun _=>⟨rfl,by dsimp only;omega,by dsimp only;omega,hy3⟩⟩,rfl,rfl⟩

theorem PickF_C {R:Ro} {b:Nat} {a:Option Addr} {cp:Nat} {xs:List Int} {c:Nat} (w0:World) {n:Nat} {a2:Option Addr} {c2:Nat} {j:Nat} {F:List Ent} (ys:List Int) (hn:ys.length=n) (hn0:0<n) (hn1:n≤1000000) (ha:RS R 1 encI a xs) (hy:F[j]?=some (.sl 3 1 a2 c2 (ys.map encI))) :
  K.Fn Tryz.prog 39 [.pointer (some ⟨b,0,none⟩),.slice a2 n c2] w0 R (srcE b a cp xs c::F) (fun v R' E'=>∃ e' N,E'=N++e'::F∧RdPost (.int .i64 (nth ys (mod (nth xs c) n).toNat)) R (srcE b a cp xs (c+1)) v R' e' N):=by
 subst hn;exact Pick_C w0 ha hy hn0 hn1
theorem Stair_C {R:Ro} {burst more:Int} {p:Nat} (hp:p≤1000) (w0:World) (E:List Ent):K.Fn Tryz.prog 33 [.int .i64 burst,.int .i64 (p:Int),.int .i64 more] w0 R E (fun v R' E'=>∃ (f:Option Addr) (fc:Nat),v=.agg #[.slice f (stairC burst p more).vals.length fc,.int .i64 (p:Int),.int .i64 more]∧RS R' 1 encI f (stairC burst p more).vals∧(stairC burst p more).vals.length≤fc∧E'=E):=by
 refine fE 25 Tryz.func33 ?_
 refine zQ (zG ?_)
 refine zA fun b6=>?_
 refine zN (zU (zQ (zG ?_)))
 refine WL.ef rfl rfl qD (Ef.buildSliceD (enc:=encI) (parts:=[.const (.int .i64 0)]) [0] tab_ok rfl rfl rfl rfl rfl rfl rfl rfl qD qD (fun a9=>?_))
 refine zR 2 rfl ?_
 refine yW [(0,.tmp 9),(1,.tmp 10),(2,.tmp 11)] ?_
 refine zA fun b7=>?_
 refine zE 0 ?_
 refine zN (zU (zQ (zQ (zG (zR 1 rfl (zN (zU (zB ?_))))))))
 refine W.loopK (β:=Nat × Option Addr × Nat) (fun (i,a1,c1)=>i≤p) (fun (i,a1,c1)=>[(8,true,.int .i64 (i:Int))]) [0,1,6,7] [_,_,_,_] [] _ rfl (fun (i,a1,c1)=>[(0,.blk b7 [.slice a1 (0::List.replicate i burst).length c1,.int .i64 (p:Int),.int .i64 more]),(1,.sl 3 1 a1 c1 ((0::List.replicate i burst).map encI))]) (fun (i,a1,c1)=>p - i) ((0,some ⟨a9,0,none⟩,1)) (Nat.zero_le _) ⟨rfl,rfl,rfl,rfl,rfl,rfl⟩ qS ?_
 intro zz hst
 obtain⟨i,a1,c1⟩:=zz
 have hi:=hst
 have hrl:(0::List.replicate i burst).length=i+1:=by rw[List.length_cons,List.length_replicate]
 have hrl2:(List.replicate i burst).length=i:=List.length_replicate ..
 refine zQ (zQ (zG (zR 3 rfl (zN (zU ?_)))))
 refine cD rfl ?_ ?_<;>intro hc0
 ·
  have hip:i<p:=by omega
  have hrs:(0::List.replicate (i+1) burst)=(0::List.replicate i burst)++[burst]:=by rw[List.replicate_succ',List.cons_append]
  refine zK (zU (zQ (zB (zG (zR 1 rfl ?_)))))
  refine yM 0 ?_
  refine zR 1 rfl ?_
  refine WL.ef rfl rfl qD (Ef.buildSliceD (enc:=encI) (parts:=[.tmp 20]) [_] tab_ok rfl rfl rfl rfl rfl rfl rfl rfl qD qD (fun a21=>?_))
  refine WL.ef rfl rfl (by decide) (Ef.appendD 2 0 tab_ok rfl rfl rfl rfl rfl rfl rfl rfl rfl rfl rfl (fun _ _=>rfl) (by simp only[List.length_cons,List.length_nil];omega) (by simp only[List.length_cons,List.length_nil];omega) (fun a22 c22 ha22=>?_))
  refine zR 1 rfl ?_
  refine zF 1 ?_
  refine zN (zL (zU (zG (zR 1 rfl ?_))))
  refine yA ?_
  refine zR 1 rfl (zN ?_)
  refine WE.again ((i+1,a22,c22)) (by show i+1≤p;omega) (by(try dsimp only);omega) ⟨rfl,rfl,rfl,rfl,rfl,rfl⟩ (RLe.refl _) (by dsimp only[setAll,List.set_cons_zero,List.set_cons_succ];rw[hrs];exact qS)
 ·
  obtain rfl:i=p:=by omega
  refine W.cap 1 rfl ?_
  intro hcap
  rw[List.length_map] at hcap
  refine W.freeze (enc:=encI) (xs:=(0::List.replicate i burst)) 1 rfl ?_
  intro R1 hR1 hf1
  refine zX ?_
  refine wx (wx (zY (zU (zQ (zG ?_)))))
  refine yB 0 ?_
  refine zE 1 ?_
  refine zN (zU (zT ?_))
  refine WE.retFS (E':=E) qS tab_ok [_] rfl ⟨⟨_,_,_,rfl,rfl,rfl,qB,rfl⟩,trivial⟩ qR ?_
  exact⟨a1,c1,rfl,hf1,hcap,rfl⟩
theorem Contr24_C {R:Ro} {b:Nat} {a:Option Addr} {cp:Nat} {xs:List Int} {c:Nat} (w0:World) (ha:K.RS R 1 encI a xs):FnAt Tryz.prog 38 [.pointer (some ⟨b,0,none⟩)] w0 R (srcE b a cp xs c) (fun v R' e' N=>∃ (f:Option Addr) (fc cn:Nat) (cv:Cv),v=.agg #[.slice f cv.vals.length fc,.int .i64 cv.per,.int .i64 cv.inc]∧RS R' 1 encI f cv.vals∧cv.vals.length≤fc∧StairP cv∧e'=srcE b a cp xs cn∧N=[]):=by
 intro F
 refine fE 11 Tryz.func38 ?_
 refine zQ (zG ?_)
 refine zA fun b2=>?_
 refine zN (zU (zQ (zG (zR 1 rfl ?_))))
 refine WL.callAt 1 en19 rfl rfl qD (CallOp.mkT rfl rfl rfl rfl) rfl (Range_C (lo:=4) (hi:=16) w0 ha qO qO _) ?_
 rintro _ _ _ _ - ⟨rfl,rfl,rfl,rfl⟩
 have hm0:=mod_range (nth xs (c)) (show (1:Int)≤16 - 4+1 by omega)
 refine zR 1 rfl ?_
 refine WL.ef rfl rfl qD (Ef.buildSliceD (enc:=encI) (parts:=[.const (.int .i64 1),.const (.int .i64 2),.const (.int .i64 3),.const (.int .i64 4),.const (.int .i64 6),.const (.int .i64 12)]) [1,2,3,4,6,12] tab_ok rfl rfl rfl rfl rfl rfl rfl rfl qD qD (fun a6=>?_))
 refine WL.callAt 2 en39 rfl rfl qD (CallOp.mkT rfl rfl rfl rfl) rfl (PickF_C (j:=0) w0 ([1,2,3,4,6,12]:List Int) rfl qD qD ha rfl) ?_
 rintro _ _ _ _ - ⟨rfl,rfl,rfl,rfl⟩
 have hm1:=mod_range (nth xs (c+1)) (show (1:Int)≤((6:Nat):Int) by decide)
 have hp6:=pick6 (mod (nth xs (c+1)) ((6:Nat):Int)).toNat (by omega)
 obtain⟨p,hp⟩:=Int.eq_ofNat_of_zero_le (show 0≤nth ([1,2,3,4,6,12]:List Int) (mod (nth xs (c+1)) ((6:Nat):Int)).toNat by omega)
 rw[hp] at hp6 ⊢
 refine zR 1 rfl ?_
 refine WL.callAt 2 en29 rfl rfl qD (CallOp.mkT rfl rfl rfl rfl) rfl (N_C (n:=4) w0 ha (by constructor<;>decide) _) ?_
 rintro _ _ _ _ - ⟨rfl,rfl,rfl,rfl⟩
 have hm2:=mod_range (nth xs (c+1+1)) (show (1:Int)≤4 by decide)
 refine WL.call en33 rfl rfl qD (CallOp.mkT rfl rfl rfl rfl) (Stair_C (p:=p) qO w0 _) ?_
 rintro _ R1 _ hR1 ⟨f1,k1,rfl,hf1,hk1,rfl⟩
 refine zE 1 ?_
 refine zN (zU (zT ?_))
 refine WE.retFS (E':=(srcE b a cp xs (c+1+1+1)::F)) qS tab_ok [_] rfl ⟨⟨_,_,_,rfl,rfl,rfl,qB,rfl⟩,trivial⟩ qR ?_
 exact⟨_,[],rfl,f1,k1,_,stairC (4+mod (nth xs c) (16 - 4+1)) p (mod (nth xs (c+1+1)) 4),rfl,hf1,hk1,⟨_,p,_,rfl,by omega,by omega,by omega⟩,rfl,rfl⟩

set_option maxHeartbeats 4000000 in
theorem Flow24_C {R:Ro} {b:Nat} {a:Option Addr} {cp:Nat} {xs:List Int} {c:Nat} (w0:World) (ha:K.RS R 1 encI a xs) {na la fa:Option Addr} {nn nc lc nf fc m k:Nat} {name:List UInt8} (hk:k=1∨k=2) (hm:1≤m∧m≤4) (hnm:name.length≤100):FnAt Tryz.prog 21 [.pointer (some ⟨b,0,none⟩),.agg #[.slice na nn nc,.slice la m lc,.slice fa nf fc],.string (str name),.int .i64 (k:Int)] w0 R (srcE b a cp xs c) (fun v R' e' N=>∃ (x:FlM) (cn:Nat),v=.agg #[.string (str x.f.name),.slice x.a1 x.f.route.length x.c1,.int .i64 x.f.cls,.int .i64 x.f.lo,.int .i64 x.f.hi,.slice x.a2 x.f.cv.vals.length x.c2,.int .i64 x.f.cv.per,.int .i64 x.f.cv.inc]∧OkFl R' x∧x.f.route.length≤x.c1∧x.f.cv.vals.length≤x.c2∧x.f.name=name∧DrawF k m x.f∧e'=srcE b a cp xs cn∧N=[]):=by
 intro F
 refine fE 87 Tryz.func21 ?_
 refine zQ (zG ?_)
 refine zO fun b5=>?_
 refine zA fun b8=>?_
 refine zN (zU (zQ (zG (zR 3 rfl ?_))))
 refine WL.callAt 2 en29 rfl rfl qD (CallOp.mkT rfl rfl rfl rfl) rfl (N_C (n:=(k:Int)) w0 ha (by constructor<;>omega) _) ?_
 rintro _ _ _ _ - ⟨rfl,rfl,rfl,rfl⟩
 have hmk:=mod_range (nth xs c) (show (1:Int)≤(k:Int) by omega)
 refine zR 1 rfl ?_
 refine WL.callAt 2 en38 rfl rfl qD (CallOp.mkT rfl rfl rfl rfl) rfl (Contr24_C w0 ha _) ?_
 rintro _ R1 _ _ hR1 ⟨f1,fc1,c4,cv,rfl,hf1,hcf1,hstp,rfl,rfl⟩
 have ha:=ha.mono hR1
 refine yW [(0,.tmp 13),(2,.tmp 16),(4,.tmp 18)] ?_
 refine zA fun b9=>?_
 refine zE 0 ?_
 refine zN (zU (zQ (zG (zR 1 rfl ?_))))
 refine WL.callAt 3 en19 rfl rfl qD (CallOp.mkT rfl rfl rfl rfl) rfl (Range_C (lo:=1) (hi:=3) w0 ha qO qO _) ?_
 rintro _ _ _ _ - ⟨rfl,rfl,rfl,rfl⟩
 have hml:=mod_range (nth xs c4) (show (1:Int)≤3 - 1+1 by omega)
 refine zR 2 rfl ?_
 refine WL.efN rfl rfl (Ef.store2 0 tab_ok rfl rfl rfl rfl rfl rfl rfl rfl ?_)
 refine zN (zU ?_)
 refine W.seqCut (β:=Unit) (fun _u=>True) (fun _u=>[(0,true,.pointer (some ⟨b,0,none⟩)),(5,true,.pointer (some ⟨b5,0,none⟩)),(8,true,.pointer (some ⟨b8,0,none⟩)),(9,true,.pointer (some ⟨b9,0,none⟩))]) (fun _=>R1) (fun _=>.blk b9 [.string (str name),.slice none 0 0,.int .i64 (mod (nth xs c) (k:Int)),.int .i64 (1+mod (nth xs c4) (3 - 1+1)),.int .i64 ((1+mod (nth xs c4) (3 - 1+1))+mod (nth xs (c4+1)) 5),.slice f1 cv.vals.length fc1,.int .i64 cv.per,.int .i64 cv.inc]::.blk b8 [.string (str []),.slice none 0 0,.int .i64 0,.int .i64 0,.int .i64 0,.slice none 0 0,.int .i64 0,.int .i64 0]::.blk b5 [.slice na nn nc,.slice la m lc,.slice fa nf fc]::srcE b a cp xs (c4+1+1)::F) ?_ ?_
 ·
  intro _u hst
  have hm5:=mod_range (nth xs (c4+1)) (show (1:Int)≤5 by decide)
  refine zQ (zG (zR 2 rfl ?_))
  refine yM 2 ?_
  refine zR 1 rfl ?_
  refine WL.callAt 3 en29 rfl rfl qD (CallOp.mkT rfl rfl rfl rfl) rfl (N_C (n:=(m:Int)) w0 ha (by constructor<;>omega) _) ?_
  rintro _ _ _ _ - ⟨rfl,rfl,rfl,rfl⟩
  obtain⟨a0,ha0,ha0m⟩:∃ a0:Nat,mod (nth xs (c4+1+1)) (m:Int)=(a0:Int)∧a0<m:=by
   have:=mod_range (nth xs (c4+1+1)) (show (1:Int)≤(m:Int) by omega)
   exact⟨(mod (nth xs (c4+1+1)) (m:Int)).toNat,by omega,by omega⟩
  rw[ha0]
  refine zR 1 rfl (zN (zU (zQ (zG (zR 2 rfl ?_)))))
  refine yM 2 ?_
  refine zR 1 rfl ?_
  refine yS ?_
  refine WL.ef rfl rfl qD (Ef.buildSliceD (enc:=encI) (parts:=[.const (.int .i64 1),.tmp 41]) [1,(m:Int) - 1] tab_ok rfl rfl rfl rfl rfl rfl rfl rfl qD qD (fun a42=>?_))
  refine WL.callAt 4 en39 rfl rfl qD (CallOp.mkT rfl rfl rfl rfl) rfl (PickF_C (j:=0) w0 ([1,(m:Int) - 1]:List Int) rfl qD qD ha rfl) ?_
  rintro _ _ _ _ - ⟨rfl,rfl,rfl,rfl⟩
  obtain⟨s,hs,hs1⟩:∃ s:Int,nth ([1,(m:Int) - 1]:List Int) (mod (nth xs (c4+1+1+1)) ((2:Nat):Int)).toNat=s∧(s=1∨s=(m:Int) - 1):=by
   have:=mod_range (nth xs (c4+1+1+1)) (show (1:Int)≤((2:Nat):Int) by decide)
   refine⟨_,rfl,?_⟩
   rcases(show (mod (nth xs (c4+1+1+1)) ((2:Nat):Int)).toNat=0∨(mod (nth xs (c4+1+1+1)) ((2:Nat):Int)).toNat=1 by omega) with h|h<;>rw[h]
   ·exact .inl rfl
   ·exact .inr rfl
  rw[hs]
  refine zR 1 rfl (zN (zU (zQ ?_)))
  refine W.nil 3 1 qD ?_
  refine zQ (zG (zR 2 rfl ?_))
  refine yM 4 ?_
  refine zR 2 rfl ?_
  refine WL.callAt 5 en19 rfl rfl qD (CallOp.mkT rfl rfl rfl rfl) rfl (Range_C (lo:=1) (hi:=(if (m:Int)<(3:Int) then (m:Int) else 3)) w0 ha (by split<;>omega) (by split<;>omega) _) ?_
  rintro _ _ _ _ - ⟨rfl,rfl,rfl,rfl⟩
  obtain⟨q,hq,hq1,hq3,hqm⟩:∃ q:Nat,1+mod (nth xs (c4+1+1+1+1)) ((if (m:Int)<(3:Int) then (m:Int) else 3) - 1+1)=(q:Int)∧1≤q∧q<4∧q≤m:=by
   have:=mod_range (nth xs (c4+1+1+1+1)) (show (1:Int)≤(if (m:Int)<(3:Int) then (m:Int) else 3) - 1+1 by split<;>omega)
   refine⟨(1+mod (nth xs (c4+1+1+1+1)) ((if (m:Int)<(3:Int) then (m:Int) else 3) - 1+1)).toNat,?_⟩
   split at this<;>rename_i h<;>simp only[h,if_true,if_false]<;>omega
  rw[hq]
  have hwn:(wayR (a0:Int) s m q).Nodup:=by
   obtain⟨n1,n2⟩:=way_nodup m (by omega) a0 ha0m q hq3 hqm
   rcases hs1 with rfl|rfl
   ·exact n1
   ·exact n2
  refine zR 1 rfl (zN (zU (zB ?_)))
  refine W.loopK (β:=Nat × Nat × Option Addr × Nat) (fun (i,j,a1,c1)=>i+j=q) (fun (i,j,a1,c1)=>[(10,true,.int .i64 (mod ((a0:Int)+(i:Int)*s) (m:Int))),(12,true,.int .i64 (j:Int))]) [5,8,9,11] [_,_,_,_] [] _ rfl (fun (i,j,a1,c1)=>[(0,.sl 3 1 a1 c1 ((wayR (a0:Int) s m i).map encI)),(2,.blk b9 [.string (str name),.slice a1 (wayR (a0:Int) s m i).length c1,.int .i64 (mod (nth xs c) (k:Int)),.int .i64 (1+mod (nth xs c4) (3 - 1+1)),.int .i64 ((1+mod (nth xs c4) (3 - 1+1))+mod (nth xs (c4+1)) 5),.slice f1 cv.vals.length fc1,.int .i64 cv.per,.int .i64 cv.inc])]) (fun (i,j,a1,c1)=>j) ((0,q,none,0)) (by show 0+q=q;omega) ⟨vint (by show (a0:Int)=mod ((a0:Int)+((0:Nat):Int)*s) (m:Int);rw[Int.natCast_zero,Int.zero_mul,Int.add_zero];unfold mod;rw[if_neg (by omega),Int.emod_eq_of_lt (by omega) (by omega)]),rfl,rfl,rfl,rfl,rfl,rfl⟩ qS ?_
  intro zz hst
  obtain⟨i,j,a1,c1⟩:=zz
  have hij:=hst
  have hwl:=wayR_len (a0:Int) s m i
  have hmm:=mod_range ((a0:Int)+(i:Int)*s) (show (1:Int)≤(m:Int) by omega)
  refine zQ (zQ (zG (zR 2 rfl (zN (zU ?_)))))
  refine cD rfl ?_ ?_<;>intro hc0
  ·
   refine zK (zU (zQ (zB (zQ (zG (zR 1 rfl ?_))))))
   refine yM 2 ?_
   refine zR 1 rfl ?_
   refine WL.ef rfl rfl qD (Ef.buildSliceD (enc:=encI) (parts:=[.tmp 56]) [_] tab_ok rfl rfl rfl rfl rfl rfl rfl rfl qD qD (fun a57=>?_))
   refine WL.ef rfl rfl (by decide) (Ef.appendD 1 0 tab_ok rfl rfl rfl rfl rfl rfl rfl rfl rfl rfl rfl (fun _ _=>rfl) (by simp only[List.length_cons,List.length_nil];omega) (by simp only[List.length_cons,List.length_nil];omega) (fun a58 c58 ha58=>?_))
   refine zR 1 rfl ?_
   refine zF 3 ?_
   refine zN (zU (zG (zR 2 rfl ?_)))
   refine yA ?_
   refine zR 1 rfl ?_
   refine yM 5 ?_
   refine zR 1 rfl ?_
   refine WG.callV (v:=.int .i64 (mod (mod ((a0:Int)+(i:Int)*s) (m:Int)+s) (m:Int))) en40 rfl rfl qD (CallOp.mk' rfl rfl rfl rfl) (fun _=>rfl) (fun hg=>Mod_V (by constructor<;>omega)) ?_
   refine zR 1 rfl (zN (zL (zU (zG (zR 1 rfl ?_)))))
   refine yS ?_
   refine zR 1 rfl (zN ?_)
   rw[way_step _ _ _ _ hm.1]
   refine WE.again ((i+1,j - 1,a58,c58)) (by show i+1+(j - 1)=q;omega) (by show j - 1<j;omega) ⟨rfl,vint (by show (j:Int) - 1=((j - 1:Nat):Int);omega),rfl,rfl,rfl,rfl,rfl⟩ (RLe.refl _) (by dsimp only[setAll,List.set_cons_zero,List.set_cons_succ];rw[wayR_snoc];exact qS)
  ·
   obtain rfl:j=0:=by omega
   obtain rfl:i=q:=by omega
   refine zX ?_
   refine wx (wx (zY (zU (zQ (zQ ?_)))))
   refine W.regionQ _ mixed qK ?_
   refine zR 1 rfl ?_
   refine yM 2 ?_
   refine zR 3 rfl ?_
   refine yP ?_
   refine yG (Rd.addC (Rd.blkC 2 rfl) _) ?_
   refine gI ?_
   refine yJ (r:=by(exact Rd.slC 0 rfl)) (k:=?_)
   refine yP ?_
   refine yG (Rd.addC (Rd.blkC 2 rfl) _) ?_
   refine gI ?_
   refine yJ (r:=by(exact Rd.slC 0 rfl)) (k:=?_)
   refine yP ?_
   refine yN ?_
   refine zN (zU ?_)
   refine cC rfl ?_ ?_<;>intro hc1
   ·try simp only[zk] at hc1
    exfalso
    obtain⟨h1,h2⟩:=hc1
    have hl:1<(wayR (a0:Int) s m i).length:=by omega
    have h3:nth (wayR (a0:Int) s m i) 0=nth (wayR (a0:Int) s m i) 1:=h2
    rw[nth_eq (by omega),nth_eq hl] at h3
    exact(List.pairwise_iff_getElem.1 hwn 0 1 qO hl qD) h3
   ·try simp only[zk] at hc1
    refine zK (zU ?_)
    refine W.cap 0 rfl ?_
    intro hcap
    refine W.freeze (enc:=encI) (xs:=wayR (a0:Int) s m i) 0 rfl ?_
    intro R2 hR2 hrt
    have hf1:=hf1.mono hR2
    refine zQ (zG ?_)
    refine yB 1 ?_
    refine zE 2 ?_
    refine zN (zU (zT ?_))
    refine WE.retFS (E':=(srcE b a cp xs (c4+1+1+1+1+1)::F)) qS tab_ok [_] rfl ⟨⟨_,_,_,rfl,rfl,rfl,qB,rfl⟩,trivial⟩ (by first|exact RLe.refl _|assumption|exact hR1.trans hR2) ?_
    exact⟨_,[],rfl,⟨a1,c1,f1,fc1,⟨name,wayR (a0:Int) s m i,mod (nth xs c) (k:Int),(1+mod (nth xs c4) (3 - 1+1)),(1+mod (nth xs c4) (3 - 1+1))+mod (nth xs (c4+1)) 5,cv⟩⟩,_,rfl,⟨hrt,hf1,by have:=(stair_valid hstp).2.2.2;show cv.vals.length≤_;omega,by show name.length≤_;omega⟩,by simpa using hcap,hcf1,rfl,⟨by show 0≤mod _ _∧_;omega,by dsimp only;omega,by dsimp only;omega,way_in hm.1,hwn,hstp⟩,rfl,rfl⟩
 ·
  refine W.regionH _ (ES:=(.blk b8 [.string (str []),.slice none 0 0,.int .i64 0,.int .i64 0,.int .i64 0,.slice none 0 0,.int .i64 0,.int .i64 0]::.blk b5 [.slice na nn nc,.slice la m lc,.slice fa nf fc]::F)) mixed ?_
  refine tP 0 ?_
  refine tP 1 ?_
  refine tP 3 ?_
  refine WA.br2 (i:=2) (j:=4) qK ?_ ?_
  ·
   refine sL (Rd.add (Rd.add (Rd.blk 0 rfl) _) _) ?_
   refine WA.callAt 3 4 rfl qK en29 rfl rfl qD (CallOp.mkT rfl rfl rfl rfl) rfl (N_C (n:=5) w0 ha (by constructor<;>decide) _) ?_
   rintro _ _ _ _ - ⟨rfl,rfl,rfl,rfl⟩
   refine⟨RLe.refl _,qS,?_⟩
   have hm5:=mod_range (nth xs (c4+1)) (show (1:Int)≤5 by decide)
   refine tA 5 ?_
   refine tP 6 ?_
   refine tP 7 ?_
   refine WA.effN 8 rfl qK rfl rfl (Ef.store2 0 tab_ok rfl rfl rfl rfl rfl rfl rfl rfl ?_)
   refine⟨qR,qS,?_⟩
   refine WA.done qK ?_
   refine WE.cut () trivial ⟨rfl,rfl,rfl,rfl,rfl⟩ (RLe.refl _) qS
  ·
   refine WS.callAt 3 rfl en29 rfl rfl qD (CallOp.mkT rfl rfl rfl rfl) rfl (N_C (n:=5) w0 ha (by constructor<;>decide) _) ?_
   rintro _ _ _ _ - ⟨rfl,rfl,rfl,rfl⟩
   refine⟨RLe.refl _,qS,?_⟩
   have hm5:=mod_range (nth xs (c4+1)) (show (1:Int)≤5 by decide)
   refine lL 2 (Rd.add (Rd.add (Rd.blk 0 rfl) _) _) ?_
   refine tA 5 ?_
   refine tP 6 ?_
   refine tP 7 ?_
   refine WA.effN 8 rfl qK rfl rfl (Ef.store2 0 tab_ok rfl rfl rfl rfl rfl rfl rfl rfl ?_)
   refine⟨qR,qS,?_⟩
   refine WA.done qK ?_
   refine WE.cut () trivial ⟨rfl,rfl,rfl,rfl,rfl⟩ (RLe.refl _) qS

theorem PortK_C {k:Nat} (hk:k=1∨k=2) {R:Ro} {b:Nat} {a:Option Addr} {cp:Nat} {xs:List Int} {c:Nat} (w0:World) (ha:K.RS R 1 encI a xs):FnAt Tryz.prog 20 [.pointer (some ⟨b,0,none⟩),.int .i64 (k:Int)] w0 R (srcE b a cp xs c) (fun v R' e' N=>∃ (L:Ln) (aw at_:Option Addr) (cw ct cn:Nat),v=.agg #[.int .i64 L.kind,.int .i64 L.cap,.int .i64 L.n,.slice aw L.w.length cw,.slice at_ L.tb.length ct]∧K.RS R' 1 encI aw L.w∧K.RS R' 1 encI at_ L.tb∧DrawP k L∧e'=srcE b a cp xs cn∧N=[]):=by
 rcases hk with rfl|rfl
 ·exact Port1_C w0 ha
 ·exact Port2_C w0 ha

set_option maxHeartbeats 8000000 in
theorem Net24O_C {R:Ro} {b:Nat} {a:Option Addr} {cp:Nat} {xs:List Int} {c:Nat} (w0:World) (ha:K.RS R 1 encI a xs) {nl nf:Nat} (hnl4:1≤nl∧nl≤4) (hnf4:nf≤4):FnAt Tryz.prog 7 [.pointer (some ⟨b,0,none⟩),.int .i64 (nl:Int),.int .i64 (nf:Int)] w0 R (srcE b a cp xs c) (fun v R' e' N=>∃ (k:Nat) (ms:List LnM) (fs:List FlM) (na la fa:Option Addr) (nc lc fc cn:Nat),v=.agg #[.slice na (nm4.take ms.length).length nc,.slice la ms.length lc,.slice fa fs.length fc]∧(k=1∨k=2)∧(1≤ms.length∧ms.length≤nl)∧fs.length≤nf∧K.RS R' 1 encT na (nm4.take ms.length)∧(∀ m∈ms,DrawP k m.L)∧(∀ x∈fs,OkFl R' x∧(x.f.route.length≤x.c1∧x.f.cv.vals.length≤x.c2)∧DrawF k ms.length x.f)∧fs.map FlM.nm=nf5.take fs.length∧(ms.length≤lc∧fs.length≤fc)∧e'=srcE b a cp xs cn∧N=[.sl 39 8 fa fc (fs.map encFl),.sl 33 5 la lc (ms.map encLn)]):=by
 intro F
 refine fE 64 Tryz.func7 ?_
 refine zQ (zG ?_)
 refine zA fun b6=>?_
 refine zN (zU (zQ (zG ?_)))
 refine zA fun b7=>?_
 refine zN (zU (zQ (zG (zR 1 rfl ?_))))
 refine WL.callAt 2 en19 rfl rfl qD (CallOp.mkT rfl rfl rfl rfl) rfl (Range_C (lo:=1) (hi:=2) w0 ha qO qO _) ?_
 rintro _ _ _ _ - ⟨rfl,rfl,rfl,rfl⟩
 obtain⟨k,hkv,hk⟩:∃ k:Nat,1+mod (nth xs c) (2 - 1+1)=(k:Int)∧(k=1∨k=2):=by
  have:=mod_range (nth xs c) (show (1:Int)≤2 - 1+1 by omega)
  exact⟨(1+mod (nth xs c) (2 - 1+1)).toNat,by omega,by omega⟩
 rw[hkv]
 refine zR 1 rfl (zN (zU (zQ ?_)))
 refine W.nil 33 5 qD ?_
 refine W.nil 9 1 qD ?_
 refine zQ (zG (zR 2 rfl ?_))
 refine WL.callAt 4 en19 rfl rfl qD (CallOp.mkT rfl rfl rfl rfl) rfl (Range_C (lo:=1) (hi:=(nl:Int)) w0 ha qO qO _) ?_
 rintro _ _ _ _ - ⟨rfl,rfl,rfl,rfl⟩
 obtain⟨n,hnv,hn⟩:∃ n:Nat,1+mod (nth xs (c+1)) ((nl:Int) - 1+1)=(n:Int)∧1≤n∧n≤nl:=by
  have:=mod_range (nth xs (c+1)) (show (1:Int)≤(nl:Int) - 1+1 by omega)
  exact⟨(1+mod (nth xs (c+1)) ((nl:Int) - 1+1)).toNat,by omega,by omega⟩
 rw[hnv]
 refine zR 1 rfl (zN (zU (zB ?_)))
 refine W.loopR (β:=Nat × List (List UInt8) × List LnM × Option Addr × Nat × Option Addr × Nat × Nat × Ro) (fun (j,ns,ms,a1,c1,a2,c2,cn,Rk)=>j+ms.length=n∧ns=nm4.take ms.length∧RLe R Rk∧∀ m∈ms,OkLn Rk m∧DrawP k m.L) (fun (j,ns,ms,a1,c1,a2,c2,cn,Rk)=>[(9,true,.int .i64 (j:Int))]) [0,2,6,7,8] [_,_,_,_,_] [] _ rfl (fun (j,ns,ms,a1,c1,a2,c2,cn,Rk)=>[(0,.sl 9 1 a1 c1 (ns.map encT)),(1,.sl 33 5 a2 c2 (ms.map encLn)),(2,.blk b7 [.slice a1 ns.length c1,.slice a2 ms.length c2,.slice none 0 0]),(4,srcE b a cp xs cn)]) (fun (j,ns,ms,a1,c1,a2,c2,cn,Rk)=>Rk) (fun (j,ns,ms,a1,c1,a2,c2,cn,Rk)=>j) ((n,[],[],none,0,none,0,c+1+1,R)) (⟨by simp,rfl,RLe.refl _,fun m h=>(by cases h)⟩) ⟨rfl,rfl,rfl,rfl,rfl,rfl,rfl⟩ (RLe.refl _) qS ?_
 intro zz hst
 obtain⟨j,ns,ms,a1,c1,a2,c2,cn,Rk⟩:=zz
 obtain⟨hj,hns,hRk,hom⟩:=hst
 have ha:=ha.mono hRk
 have hnl:ns.length=ms.length:=by rw[hns,List.length_take];show min _ 4=_;omega
 refine zQ (zQ (zG (zR 2 rfl (zN (zU ?_)))))
 refine cD rfl ?_ ?_<;>intro hc0
 ·
  have htk:ns++[nth nm4 (ns.length % 4)]=nm4.take (ms.length+1):=by
   rw[hnl,Nat.mod_eq_of_lt (by omega),hns]
   exact(take_nth (show ms.length<nm4.length by show _<4;omega)).symm
  refine zK (zU (zQ (zB (zQ ?_))))
  refine W.regionD _ (.blk b6 [.slice none 0 0,.slice none 0 0,.slice none 0 0]::F) (.blk b7 [.slice a1 ns.length c1,.slice a2 ms.length c2,.slice none 0 0]::.blk b6 [.slice none 0 0,.slice none 0 0,.slice none 0 0]::F) [12] mixed ?_
  refine vP 0 ?_
  refine vD 1 (r:=by apply Rd.add;(exact Rd.blk 0 rfl)) (k:=?_)
  refine vP 3 ?_
  refine vD 4 (r:=by apply Rd.add;(exact Rd.blk 0 rfl)) (k:=?_)
  refine vP 5 ?_
  refine VA.take2 6 rfl qK qK qK rfl qK qK rfl rfl qD (Yl.rem rfl rfl rfl (fun _=>rfl) qN qN) qS qR qS ?_
  refine VA.one (i:=2) qK ?_
  refine VS.eff rfl rfl rfl qD (Ef.buildSliceD (enc:=encT) (parts:=[.const (.string ⟨#[97]⟩),.const (.string ⟨#[98]⟩),.const (.string ⟨#[99]⟩),.const (.string ⟨#[100]⟩)]) nm4 tab_ok rfl rfl rfl rfl rfl rfl rfl rfl qD qD (fun a22=>?_))
  refine⟨by first|exact RLe.refl _|assumption,qS,(fun _=>qS),?_⟩
  refine VA.take2 7 rfl qK qK qK rfl qK qK rfl rfl qD (Yl.indexN tab_ok rfl rfl rfl rfl rfl rfl (fun _=>rfl) (by intro _;(show _<4;exact Nat.mod_lt _ qD)) qH) qS qR qS ?_
  refine VA.one (i:=8) qK ?_
  refine' VS.yl rfl rfl rfl qD (Yl.load1 tab_ok rfl rfl rfl (fun _=>rfl) ?r3 rfl ?h3) qS qR (fun _=>qS) ?_
  case r3=>exact Rd.slD 0 rfl (by show _<4;exact Nat.mod_lt _ qD)
  case h3=>rfl
  refine VA.one (i:=9) qK ?_
  refine VS.eff rfl rfl rfl qD (Ef.buildSliceD (enc:=encT) (parts:=[.tmp 28]) [nth nm4 (ns.length % 4)] tab_ok rfl rfl rfl rfl rfl rfl rfl rfl qD qD (fun a29=>?_))
  refine⟨by first|exact RLe.refl _|assumption,qS,(fun _=>qS),?_⟩
  refine VA.one (i:=10) qK ?_
  refine VS.eff rfl rfl rfl (by decide) (Ef.appendD 2 0 tab_ok rfl rfl rfl rfl rfl rfl rfl rfl rfl rfl rfl (fun _ _=>rfl) (by simp only[List.length_cons,List.length_nil];omega) (by simp only[List.length_cons,List.length_nil];omega) (fun a30 c30 ha30=>?_))
  refine⟨by first|exact RLe.refl _|assumption,qS,(fun _=>qS),?_⟩
  refine vP 11 ?_
  refine VA.one (i:=12) qK ?_
  refine VS.effN rfl rfl rfl (Ef.store 4 tab_ok rfl rfl rfl rfl rfl rfl rfl rfl ?_)
  refine⟨by first|exact RLe.refl _|assumption,qS,(noD qK),?_⟩
  refine VA.done qK ?_
  refine zU ?_
  refine W.regionD _ (.blk b6 [.slice none 0 0,.slice none 0 0,.slice none 0 0]::F) (.blk b7 [.slice a30 (ns++[nth nm4 (ns.length % 4)]).length c30,.slice a2 ms.length c2,.slice none 0 0]::.blk b6 [.slice none 0 0,.slice none 0 0,.slice none 0 0]::F) [8] mixed ?_
  refine vP 0 ?_
  refine vD 1 (r:=by apply Rd.add;(exact Rd.blk 0 rfl)) (k:=?_)
  refine vP 2 ?_
  refine vP 3 ?_
  refine VA.one (i:=4) qK ?_
  refine VS.callAt 6 rfl en20 rfl rfl qD (CallOp.mkT rfl rfl rfl rfl) rfl (PortK_C hk w0 ha _) ?_
  rintro _ R2 _ _ hR2 ⟨L,aw,at_,cw,ct,cq,rfl,hf1,hf2,hdp,rfl,rfl⟩
  refine⟨by first|exact hR2|assumption,qS,(fun _=>qS),?_⟩
  refine VA.one (i:=5) qK ?_
  refine VS.eff rfl rfl rfl qD (Ef.buildSliceD (enc:=encLn) (parts:=[.tmp 36]) [⟨aw,cw,at_,ct,L⟩] tab_ok rfl rfl rfl rfl rfl rfl rfl rfl qD qD (fun a37=>?_))
  refine⟨by first|exact RLe.refl _|assumption,qS,(fun _=>qS),?_⟩
  refine VA.one (i:=6) qK ?_
  refine VS.eff rfl rfl rfl (by decide) (Ef.appendD 4 0 tab_ok rfl rfl rfl rfl rfl rfl rfl rfl rfl rfl rfl (fun _ _=>rfl) (by simp only[List.length_cons,List.length_nil];omega) (by simp only[List.length_cons,List.length_nil];omega) (fun a38 c38 ha38=>?_))
  refine⟨by first|exact RLe.refl _|assumption,qS,(fun _=>qS),?_⟩
  refine vP 7 ?_
  refine VA.one (i:=8) qK ?_
  refine VS.effN rfl rfl rfl (Ef.store 5 tab_ok rfl rfl rfl rfl rfl rfl rfl rfl ?_)
  refine⟨by first|exact RLe.refl _|assumption,qS,(noD qK),?_⟩
  refine VA.done qK ?_
  refine zL (zU (zG (zR 1 rfl ?_)))
  refine yS ?_
  refine zR 1 rfl (zN ?_)
  refine WE.again ((j - 1,ns++[nth nm4 (ns.length % 4)],ms++[⟨aw,cw,at_,ct,L⟩],a30,c30,a38,c38,cq,R2)) (⟨by rw[List.length_append];show j - 1+(ms.length+1)=n;omega,by rw[List.length_append];exact htk,hRk.trans hR2,fun m hm=>by
   rcases List.mem_append.1 hm with h|h
   ·exact⟨(hom m h).1.mono hR2,(hom m h).2⟩
   ·rw[List.mem_singleton.1 h];exact⟨⟨hf1,hf2⟩,hdp⟩⟩) (by show j - 1<j;omega) ⟨vint (by show (j:Int) - 1=((j - 1:Nat):Int);omega),rfl,rfl,rfl,rfl,rfl,rfl⟩ (RLe.refl _) qS
 ·
  obtain rfl:j=0:=by omega
  subst hns
  refine zX ?_
  refine wx (wx (zY (zU (zQ ?_))))
  refine W.cap 0 rfl ?_
  intro hcl1
  refine W.cap 1 rfl ?_
  intro hcl2
  refine W.freeze (enc:=encT) (xs:=nm4.take ms.length) 0 rfl ?_
  intro R4 hR4 hna
  have ha:=ha.mono hR4
  have hRR:=hRk.trans hR4
  refine W.nil 39 8 qD ?_
  refine zQ (zG (zR 2 rfl ?_))
  refine WL.callAt 4 en19 rfl rfl qD (CallOp.mkT rfl rfl rfl rfl) rfl (Range_C (lo:=0) (hi:=(nf:Int)) w0 ha qO qO _) ?_
  rintro _ _ _ _ - ⟨rfl,rfl,rfl,rfl⟩
  obtain⟨nq,hqv,hnq⟩:∃ n:Nat,0+mod (nth xs cn) ((nf:Int) - 0+1)=(n:Int)∧n≤nf:=by
   have:=mod_range (nth xs cn) (show (1:Int)≤(nf:Int) - 0+1 by omega)
   exact⟨(0+mod (nth xs cn) ((nf:Int) - 0+1)).toNat,by omega,by omega⟩
  rw[hqv]
  refine zR 1 rfl (zN (zU (zB ?_)))
  refine W.loopR (β:=Nat × List FlM × Option Addr × Nat × Nat × Ro) (fun (j,fs,a3,c3,cn,Rj)=>j+fs.length=nq∧RLe R4 Rj∧fs.map FlM.nm=nf5.take fs.length∧∀ x∈fs,OkFl Rj x∧(x.f.route.length≤x.c1∧x.f.cv.vals.length≤x.c2)∧DrawF k ms.length x.f) (fun (j,fs,a3,c3,cn,Rj)=>[(10,true,.int .i64 (j:Int))]) [0,6,7,8] [_,_,_,_] [] _ rfl (fun (j,fs,a3,c3,cn,Rj)=>[(0,.sl 39 8 a3 c3 (fs.map encFl)),(2,.blk b7 [.slice a1 (nm4.take ms.length).length c1,.slice a2 ms.length c2,.slice a3 fs.length c3]),(4,srcE b a cp xs cn)]) (fun (j,fs,a3,c3,cn,Rj)=>Rj) (fun (j,fs,a3,c3,cn,Rj)=>j) ((nq,[],none,0,cn+1,R4)) (⟨by simp,RLe.refl _,rfl,fun x h=>(by cases h)⟩) ⟨rfl,rfl,rfl,rfl,rfl,rfl⟩ (RLe.refl _) qS ?_
  intro zz hst
  obtain⟨j,fs,a3,c3,cn,Rj⟩:=zz
  obtain⟨hj,hRj,hfn,hof⟩:=hst
  have ha:=ha.mono hRj
  have hfl5:(fs.map FlM.nm).length=fs.length:=List.length_map ..
  refine zQ (zQ (zG (zR 2 rfl (zN (zU ?_)))))
  refine cD rfl ?_ ?_<;>intro hc1
  ·
   have htf:nf5.take fs.length++[nth nf5 (fs.length % 5)]=nf5.take (fs.length+1):=by
    rw[Nat.mod_eq_of_lt (by omega)]
    exact(take_nth (show fs.length<nf5.length by show _<5;omega)).symm
   refine zK (zU (zQ (zB ?_)))
   refine W.regionD _ (.blk b6 [.slice none 0 0,.slice none 0 0,.slice none 0 0]::F) (.blk b7 [.slice a1 (nm4.take ms.length).length c1,.slice a2 ms.length c2,.slice a3 fs.length c3]::.blk b6 [.slice none 0 0,.slice none 0 0,.slice none 0 0]::F) [16] mixed ?_
   refine vP 0 ?_
   refine vD 1 (r:=by apply Rd.add;(exact Rd.blk 0 rfl)) (k:=?_)
   refine vP 2 ?_
   refine vD 3 (r:=by(exact Rd.blk 0 rfl)) (k:=?_)
   refine vP 5 ?_
   refine vD 6 (r:=by apply Rd.add;(exact Rd.blk 0 rfl)) (k:=?_)
   refine vP 7 ?_
   refine VA.take2 8 rfl qK qK qK rfl qK qK rfl rfl qD (Yl.rem rfl rfl rfl (fun _=>rfl) qN qN) qS qR qS ?_
   refine vP 11 ?_
   refine VA.one (i:=4) qK ?_
   refine VS.eff rfl rfl rfl qD (Ef.buildSliceD (enc:=encT) (parts:=[.const (.string ⟨#[102]⟩),.const (.string ⟨#[103]⟩),.const (.string ⟨#[104]⟩),.const (.string ⟨#[105]⟩),.const (.string ⟨#[106]⟩)]) nf5 tab_ok rfl rfl rfl rfl rfl rfl rfl rfl qD qD (fun a51=>?_))
   refine⟨by first|exact RLe.refl _|assumption,qS,(fun _=>qS),?_⟩
   refine VA.take2 9 rfl qK qK qK rfl qK qK rfl rfl qD (Yl.indexN tab_ok rfl rfl rfl rfl rfl rfl (fun _=>rfl) (by intro _;(show _<5;exact Nat.mod_lt _ qD)) qH) qS qR qS ?_
   refine VA.one (i:=10) qK ?_
   refine' VS.yl rfl rfl rfl qD (Yl.load1 tab_ok rfl rfl rfl (fun _=>rfl) ?r8 rfl ?h8) qS qR (fun _=>qS) ?_
   case r8=>exact Rd.slD 0 rfl (by show _<5;exact Nat.mod_lt _ qD)
   case h8=>rfl
   refine VA.one (i:=12) qK ?_
   refine VS.callAt 5 rfl en21 rfl rfl qD (CallOp.mkT rfl rfl rfl rfl) rfl (Flow24_C (m:=ms.length) (k:=k) w0 ha hk ⟨by omega,by omega⟩ (nf5_len (fs.length % 5)) _) ?_
   rintro _ R2 _ _ hR2 ⟨x,cq,rfl,hxo,hx1,hx2,hxn,hxd,rfl,rfl⟩
   refine⟨by first|exact hR2|assumption,qS,(fun _=>qS),?_⟩
   refine VA.one (i:=13) qK ?_
   refine VS.eff rfl rfl rfl qD (Ef.buildSliceD (enc:=encFl) (parts:=[.tmp 59]) [x] tab_ok rfl rfl rfl rfl rfl rfl rfl rfl qD qD (fun a60=>?_))
   refine⟨by first|exact RLe.refl _|assumption,qS,(fun _=>qS),?_⟩
   refine VA.one (i:=14) qK ?_
   refine VS.eff rfl rfl rfl (by decide) (Ef.appendD 2 0 tab_ok rfl rfl rfl rfl rfl rfl rfl rfl rfl rfl rfl (fun _ _=>rfl) (by simp only[List.length_cons,List.length_nil];omega) (by simp only[List.length_cons,List.length_nil];omega) (fun a61 c61 ha61=>?_))
   refine⟨by first|exact RLe.refl _|assumption,qS,(fun _=>qS),?_⟩
   refine vP 15 ?_
   refine VA.one (i:=16) qK ?_
   refine VS.effN rfl rfl rfl (Ef.store 4 tab_ok rfl rfl rfl rfl rfl rfl rfl rfl ?_)
   refine⟨by first|exact RLe.refl _|assumption,qS,(noD qK),?_⟩
   refine VA.done qK ?_
   refine zL (zU (zG (zR 1 rfl ?_)))
   refine yS ?_
   refine zR 1 rfl (zN ?_)
   refine WE.again ((j - 1,fs++[x],a61,c61,cq,R2)) (⟨by rw[List.length_append];show j - 1+(fs.length+1)=nq;omega,hRj.trans hR2,by rw[List.map_append,hfn,List.length_append,List.map_singleton,show FlM.nm x=nth nf5 (fs.length % 5) from hxn];exact htf,fun y hy=>by
    rcases List.mem_append.1 hy with h|h
    ·exact⟨(hof y h).1.mono hR2,(hof y h).2⟩
    ·rw[List.mem_singleton.1 h];exact⟨hxo,⟨hx1,hx2⟩,hxd⟩⟩) (by show j - 1<j;omega) ⟨vint (by show (j:Int) - 1=((j - 1:Nat):Int);omega),rfl,rfl,rfl,rfl,rfl⟩ (RLe.refl _) qS
  ·
   obtain rfl:j=0:=by omega
   refine zX ?_
   refine wx (wx (zY (zU ?_)))
   refine W.cap 0 rfl ?_
   intro hcl3
   have hRR:=hRR.trans hRj
   have hna:=hna.mono hRj
   refine zQ (zG ?_)
   refine yB 2 ?_
   refine zE 3 ?_
   refine zN (zU (zT ?_))
   refine WE.retFS (E':=(.sl 39 8 a3 c3 (fs.map encFl)::.sl 33 5 a2 c2 (ms.map encLn)::srcE b a cp xs cn::F)) qS tab_ok [_] rfl ⟨⟨_,_,_,rfl,rfl,rfl,qB,rfl⟩,trivial⟩ (by first|assumption|exact RLe.refl _) ?_
   exact⟨_,[.sl 39 8 a3 c3 (fs.map encFl),.sl 33 5 a2 c2 (ms.map encLn)],rfl,k,ms,fs,_,_,_,_,_,_,_,rfl,hk,⟨by omega,by omega⟩,by omega,hna,fun m hm=>(hom m hm).2,fun x hx=>⟨(hof x hx).1,(hof x hx).2⟩,hfn,⟨by simpa using hcl2,by simpa using hcl3⟩,rfl,rfl⟩

theorem LessOk_V {R:Ro} {ms ms':List LnM} {fs ext:List FlM} {sA sB:Value} (hA:BnG ms (fs++ext)) (hB:BnG ms' fs) (hll:ms'.length=ms.length) (hcap:∀ l,l<ms.length→(nth ms l).L.cap≤(nth ms' l).L.cap) (oA:LeastOk ms (fs++ext) R sA) (oB:LeastOk ms' fs R sB):FnV Tryz.prog 9 [sB,sA] R (.bool true):=by
 obtain⟨xa,ja,rfl,a1,a2,a3,a4,a5⟩:=oA
 obtain⟨xb,jb,rfl,b1,b2,b3,_,b5⟩:=oB
 obtain⟨l1,l2,l3⟩:=least_less hA hB hll hcap a3 a4 a5 b3 b5
 exact LessD_V b1 a1 b2 a2 l1 l2 l3
set_option maxHeartbeats 2000000 in
theorem TopBesides_F {R:Ro} {z1 z2:Int} {a:Option Addr} {c:Nat} {xs:List Int} (ha:RS R 1 encI a xs) (hz1:0≤z1∧z1≤255) (hz2:0≤z2∧z2≤255) (hc:xs.length≤c) (w0:World):K.Fn Tryz.prog 3 [.slice a xs.length c,.int .u8 z1,.int .u8 z2] w0 R [] (fun v _ _=>v=.bool true):=by
 refine fE 136 Tryz.func3 ?_
 refine zQ (zG (zR 1 rfl (zN (zU (zQ (zQ (zG (zR 3 rfl (zN (zU ?_))))))))))
 refine cD rfl ?_ ?_<;>intro hc0
 ·
  refine zQ (zG ?_)
  refine WG.callV (v:=.bool true) en5 rfl rfl qD (CallOp.mk' rfl rfl rfl rfl) (fun _=>rfl) (fun hg=>I.Made_V) ?_
  refine zR 1 rfl (zN (zU (zT (wt ?_))))
  refine zq1 (by first|exact RLe.refl _|exact hT) ?_
  exact rfl
 ·
  refine zK (zU (zQ (zG (zR 1 rfl ?_))))
  refine WL.call en6 rfl rfl qD (CallOp.mkT rfl rfl rfl rfl) (New_C w0 _ hc) ?_
  rintro _ _ _ - ⟨b,rfl,rfl,rfl⟩
  have hz:=ha.take 2000
  refine zR 1 rfl (zN (zU (zQ (zG (zR 1 rfl ?_)))))
  refine WL.callAt 0 en7 rfl rfl qD (CallOp.mkT rfl rfl rfl rfl) rfl (Net24O_C (nl:=3) (nf:=4) w0 hz qD qD _) ?_
  rintro _ R1 _ _ hR1 ⟨k,ms,fs,na,la,fa,nc,lc,fc,cn,rfl,hk,hml,hfl,hna,hmd,hfd,hfn,hcaps,rfl,rfl⟩
  have hD:DrawN k ms fs:=⟨hk,⟨hml.1,by omega⟩,by omega,hmd,fun x hx=>(hfd x hx).2.2,hfn⟩
  have hFl:=flat_of hD (fun x hx=>(hfd x hx).2.1.1)
  have hof:=gFl_ok (fun x hx=>(hfd x hx).1)
  have hnl:∀ x∈nm4.take ms.length,x.length≤9223372036854775807:=fun x hx=>by have:=(nm4_len hx).1;omega
  have hT:=hR1
  dsimp only[List.cons_append,List.nil_append,List.set_cons_zero]
  refine zA fun b8=>?_
  refine zE 0 ?_
  refine zN (zU (zQ (zQ (zG (zR 1 rfl ?_)))))
  refine yM 0 ?_
  refine zR 2 rfl (zN (zU (zB ?_)))
  refine W.loopK (β:=Nat) (fun i=>i≤ms.length) (fun i=>[(33,true,.int .i64 (i:Int))]) [1,2,8,32] [_,_,_,_] [] _ rfl (fun i=>[(2,.sl 33 5 la lc ((mixL fLn i ms).map encLn))]) (fun i=>ms.length - i) (0) (Nat.zero_le _) ⟨rfl,rfl,rfl,rfl,rfl,rfl⟩ qS ?_
  intro i hst
  have hi:=hst
  refine zQ (zG (zR 1 rfl (zN (zU (zQ ?_)))))
  refine cD rfl ?_ ?_<;>intro hc1
  ·
   have hil:i<ms.length:=by omega
   have hmx:=mix_len (f:=fLn) (xs:=ms) (i:=i) (by omega)
   have hmn:=mix_nth (f:=fLn) hil
   have hcp:=(hmd _ (nth_mem hil)).cap
   refine zK (zU (zQ (zB (zQ (zG (zR 2 rfl (zN (zU ?_))))))))
   refine W.regionD _ [.blk b8 [.slice na (nm4.take ms.length).length nc,.slice la ms.length lc,.slice fa fs.length fc]] [.blk b8 [.slice na (nm4.take ms.length).length nc,.slice la ms.length lc,.slice fa fs.length fc],.sl 33 5 la lc ((mixL fLn i ms).map encLn)] [11] mixed ?_
   refine vP 0 ?_
   refine vD 1 (r:=by apply Rd.add;(exact Rd.blk 0 rfl)) (k:=?_)
   refine vP 2 ?_
   refine vP 3 ?_
   refine vD 4 (r:=by apply Rd.add;(exact Rd.blk 0 rfl)) (k:=?_)
   refine vP 5 ?_
   refine VA.take2 6 rfl (by kernel_rfl) (by kernel_rfl) (by kernel_rfl) rfl (by kernel_rfl) (by kernel_rfl) rfl rfl (by decide) (Yl.indexN tab_ok rfl rfl rfl rfl rfl rfl (fun _=>rfl) (by intro _;(try dsimp only)<;>omega) (by intro _;first|(rw[← hmx];exact HasMem.ownD 1 rfl)|(rw[← hmx];exact HasMem.ownD 2 rfl)|(rw[← hMl];exact HasMem.ownD 0 rfl)|exact qI)) qS (by first|exact RLe.refl _|assumption) qS ?_
   refine vP 7 ?_
   refine vD 8 (r:=by apply Rd.add;(exact Rd.slD 1 rfl qX)) (k:=?_)
   refine VA.take2 9 rfl qK qK qK rfl qK qK rfl rfl qD (Yl.build (parts:=[(0,.const (.int .i64 1)),(1,.tmp 44),(2,.const (.int .i64 1))]) tab_ok rfl rfl rfl rfl (fun _=>rfl) rfl rfl) qS qR qS ?_
   refine VA.take2 10 rfl (by kernel_rfl) (by kernel_rfl) (by kernel_rfl) rfl (by kernel_rfl) (by kernel_rfl) rfl rfl (by decide) (Yl.indexN tab_ok rfl rfl rfl rfl rfl rfl (fun _=>rfl) (by intro _;(try dsimp only)<;>omega) (by intro _;first|(rw[← hmx];exact HasMem.ownD 1 rfl)|(rw[← hmx];exact HasMem.ownD 2 rfl)|(rw[← hMl];exact HasMem.ownD 0 rfl)|exact qI)) qS (by first|exact RLe.refl _|assumption) qS ?_
   refine VA.one (i:=11) qK ?_
   refine VS.effN rfl rfl rfl (Ef.storeD (enc:=encLn) (xs:=mixL fLn i ms) (fLn (nth (mixL fLn i ms) i)) 2 tab_ok rfl rfl rfl rfl rfl qO rfl rfl rfl rfl ?_)
   refine⟨by first|exact RLe.refl _|assumption,qS,(noD qK),?_⟩
   refine VA.done qK ?_
   refine zL (zU (zG ?_))
   refine yA ?_
   refine zR 1 rfl (zN ?_)
   rw[hmn,mix_set hil]
   refine WE.again (i+1) qO (by(try dsimp only);omega) ⟨rfl,rfl,rfl,rfl,rfl,rfl⟩ (RLe.refl _) qS
  ·
   obtain rfl:i=ms.length:=by omega
   rw[mix_all]
   refine zX ?_
   refine wx (wx (zY (zU (zQ (zQ (zG (zR 1 rfl ?_)))))))
   refine yM 0 ?_
   refine zR 2 rfl (zN (zU (zB ?_)))
   refine W.loopK (β:=Nat) (fun j=>j≤fs.length) (fun j=>[(51,true,.int .i64 (j:Int))]) [1,2,8,50] [_,_,_,_] [] _ rfl (fun j=>[(1,.sl 39 8 fa fc ((mixL gFl j fs).map encFl))]) (fun j=>fs.length - j) (0) (Nat.zero_le _) ⟨rfl,rfl,rfl,rfl,rfl,rfl⟩ qS ?_
   intro j hst
   have hj:=hst
   refine zQ (zG (zR 1 rfl (zN (zU (zQ ?_)))))
   refine cD rfl ?_ ?_<;>intro hc2
   ·
    have hjl:j<fs.length:=by omega
    have hmx:=mix_len (f:=gFl) (xs:=fs) (i:=j) (by omega)
    have hmn:=mix_nth (f:=gFl) hjl
    refine zK (zU (zQ (zB (zQ (zG (zR 2 rfl (zN (zU (zG (zR 1 rfl ?_))))))))))
    refine yM 0 ?_
    refine zR 1 rfl ?_
    refine WG.y rfl rfl (by decide) (Yl.indexN tab_ok rfl rfl rfl rfl rfl rfl (fun _=>rfl) (by intro _;(try dsimp only)<;>omega) (by intro _;first|(rw[← hmx];exact HasMem.ownD 1 rfl)|(rw[← hmx];exact HasMem.ownD 2 rfl)|(rw[← hMl];exact HasMem.ownD 0 rfl)|exact qI)) ?_
    refine zR 1 rfl ?_
    refine WL.efN rfl rfl (Ef.storeF (enc:=encFl) (xs:=mixL gFl j fs) (gFl (nth (mixL gFl j fs) j)) 1 tab_ok rfl rfl rfl rfl rfl qO rfl rfl qD rfl ?_)
    refine zN (zL (zU (zG ?_)))
    refine yA ?_
    refine zR 1 rfl (zN ?_)
    rw[hmn,mix_set hjl]
    refine WE.again (j+1) qO (by(try dsimp only);omega) ⟨rfl,rfl,rfl,rfl,rfl,rfl⟩ (RLe.refl _) qS
   ·
    obtain rfl:j=fs.length:=by omega
    rw[mix_all]
    refine zX ?_
    refine wx (wx (zY (zU (zQ (zQ (zG (zR 1 rfl ?_)))))))
    refine yM 0 ?_
    refine zR 2 rfl (zN (zU ?_))
    refine cE rfl ?_ ?_<;>intro hc3
    ·
     refine zQ (zG ?_)
     refine WG.callV (v:=.bool true) en5 rfl rfl qD (CallOp.mk' rfl rfl rfl rfl) (fun _=>rfl) (fun hg=>I.Made_V) ?_
     refine zR 1 rfl (zN (zU (zT (wt ?_))))
     refine zq1 (by first|exact RLe.refl _|exact hT) ?_
     exact rfl
    ·
     have hf0:0<fs.length:=by omega
     refine zK (zU ?_)
     refine W.freeze (enc:=encFl) (xs:=fs.map gFl) 1 rfl ?_
     intro R2 hR2 hfa
     refine W.freeze (enc:=encLn) (xs:=ms.map fLn) 1 rfl ?_
     intro R3 hR3 hla
     refine W.freezeBlk 0 rfl ?_
     intro R4 hR4 h8
     obtain⟨M,hM⟩:∃ M,M=ms.map fLn:=⟨_,rfl⟩
     obtain⟨G,hG⟩:∃ G,G=fs.map gFl:=⟨_,rfl⟩
     have hMl:M.length=ms.length:=by rw[hM,List.length_map]
     have hGl:G.length=fs.length:=by rw[hG,List.length_map]
     rw[← hM] at hla hFl
     rw[← hG] at hfa hFl hof
     have hF1:=hFl
     have hF2:=hFl.take (fs.length - 1)
     have hTl:(G.take (fs.length - 1)).length=fs.length - 1:=by rw[List.length_take,hGl];omega
     have hR24:=hR2.trans (hR3.trans hR4)
     have hT:=hT.trans hR24
     have hna:=hna.mono hR24
     have hfa:=hfa.mono (hR3.trans hR4)
     have hla:=hla.mono hR4
     have hof:=fun x hx=>(hof x hx).mono hR24
     have hzm:0≤z1 % (ms.length:Int)∧z1 % (ms.length:Int)<ms.length:=⟨Int.emod_nonneg z1 (by omega),Int.emod_lt_of_pos z1 (by omega)⟩
     have hql:(z1 % (ms.length:Int)).toNat<ms.length:=by omega
     have hMq:nth M (z1 % (ms.length:Int)).toNat=fLn (nth ms (z1 % (ms.length:Int)).toNat):=by rw[hM];exact nth_map_lt _ hql
     have hcq:4≤(nth M (z1 % (ms.length:Int)).toNat).L.cap∧(nth M (z1 % (ms.length:Int)).toNat).L.cap≤24:=by rw[hMq];exact(hmd _ (nth_mem hql)).cap
     have hz30:0≤z2 % 30∧z2 % 30<30:=⟨Int.emod_nonneg _ (by decide),Int.emod_lt_of_pos _ (by decide)⟩
     refine W.dropE (List.nil_sublist _) ?_
     refine W.seqCut (β:=Nat × Nat) (fun (b11,b12)=>True) (fun (b11,b12)=>[(1,true,.int .u8 z1),(2,true,.int .u8 z2),(8,true,.pointer (some ⟨b8,0,none⟩)),(11,true,.pointer (some ⟨b11,0,none⟩)),(12,true,.pointer (some ⟨b12,0,none⟩))]) (fun _=>R4) (fun (b11,b12)=>[.blk b12 [.slice na (nm4.take ms.length).length nc,.slice la ms.length lc,.slice fa fs.length fc],.blk b11 [.slice na (nm4.take ms.length).length nc,.slice la ms.length lc,.slice fa fs.length fc]]) ?_ ?_
     ·
      intro _zz hst
      obtain⟨b11,b12⟩:=_zz
      dsimp only
      refine zQ (zG (zR 1 rfl ?_))
      refine yD (r:=by apply Rd.add;(exact Rd.ro qU)) (k:=?_)
      refine zR 1 rfl ?_
      refine yD (r:=by apply Rd.add;(exact Rd.ro qU)) (k:=?_)
      refine zR 1 rfl ?_
      refine yS ?_
      refine WG.y rfl rfl qD (Yl.sliceH tab_ok rfl rfl rfl rfl rfl (fun _=>rfl) (by intro _;omega) rfl) ?_
      rw[show ((fs.length:Int) - 1).toNat=fs.length - 1 by omega]
      refine zR 1 rfl ?_
      refine zF 1 ?_
      refine zN (zU ?_)
      refine W.nil 33 5 qD ?_
      refine zQ (zG (zR 1 rfl ?_))
      refine yD (r:=by apply Rd.add;(exact Rd.ro qU)) (k:=?_)
      refine WL.ef rfl rfl qD (Ef.cloneR (enc:=encLn) 0 tab_ok rfl rfl rfl rfl rfl rfl rfl rfl rfl hMl.symm hla (fun _ _=>rfl) (by(try dsimp only);omega) qO (fun a77 c77 ha77=>?_))
      refine zR 1 rfl ?_
      refine zF 1 ?_
      refine zN (zU (zQ ?_))
      refine W.regionD _ [.blk b12 [.slice na (nm4.take ms.length).length nc,.slice a77 ms.length c77,.slice fa fs.length fc]] [.sl 33 5 a77 c77 (M.map encLn),.blk b12 [.slice na (nm4.take ms.length).length nc,.slice a77 ms.length c77,.slice fa fs.length fc]] [17] mixed ?_
      refine vP 0 ?_
      refine vD 1 (r:=by apply Rd.add;(exact Rd.blk 1 rfl)) (k:=?_)
      refine vP 2 ?_
      refine VA.take2 3 rfl qK qK qK rfl qK qK rfl rfl qD (Yl.convId tab_ok rfl rfl rfl rfl rfl rfl (fun _=>rfl) (by intro _;(try dsimp only);first|exact u64_id ⟨by omega,by omega⟩|exact i64_wrap ⟨by omega,by omega⟩|exact u8_id ⟨by omega,by omega⟩)) qS qR qS ?_
      refine vP 4 ?_
      refine vD 5 (r:=by apply Rd.add;(exact Rd.ro qU)) (k:=?_)
      refine vP 6 ?_
      refine VA.take2 7 rfl qK qK qK rfl qK qK rfl rfl qD (Yl.rem rfl rfl rfl (fun _=>rfl) qN qN) qS qR qS ?_
      refine VA.take2 8 rfl (by kernel_rfl) (by kernel_rfl) (by kernel_rfl) rfl (by kernel_rfl) (by kernel_rfl) rfl rfl (by decide) (Yl.index tab_ok rfl rfl rfl rfl rfl rfl (fun _=>rfl) (by intro _;constructor<;>(try dsimp only)<;>omega) (by intro _;first|(rw[← hmx];exact HasMem.ownD 1 rfl)|(rw[← hmx];exact HasMem.ownD 2 rfl)|(rw[← hMl];exact HasMem.ownD 0 rfl)|exact qI)) qS (by first|exact RLe.refl _|assumption) qS ?_
      refine vP 9 ?_
      refine vD 10 (r:=by apply Rd.add;(exact Rd.slD 0 rfl qX)) (k:=?_)
      refine vP 11 ?_
      refine VA.take2 12 rfl qK qK qK rfl qK qK rfl rfl qD (Yl.remK rfl rfl rfl (fun _=>rfl) qN qN) qS qR qS ?_
      refine VA.take2 13 rfl qK qK qK rfl qK qK rfl rfl qD (Yl.convId tab_ok rfl rfl rfl rfl rfl rfl (fun _=>rfl) (by intro _;(try dsimp only);first|exact u64_id ⟨by omega,by omega⟩|exact i64_wrap ⟨by omega,by omega⟩|exact u8_id ⟨by omega,by omega⟩)) qS qR qS ?_
      refine VA.take2 14 rfl qK qK qK rfl qK qK rfl rfl qD (Yl.add rfl rfl rfl (fun _=>rfl) qA) qS qR qS ?_
      refine VA.one (i:=15) qK ?_
      refine VS.yl rfl rfl rfl (by decide) (Yl.index tab_ok rfl rfl rfl rfl rfl rfl (fun _=>rfl) (by intro _;constructor<;>(try dsimp only)<;>omega) (by intro _;first|(rw[← hmx];exact HasMem.ownD 1 rfl)|(rw[← hmx];exact HasMem.ownD 2 rfl)|(rw[← hMl];exact HasMem.ownD 0 rfl)|exact qI)) qS (by first|exact RLe.refl _|assumption) (fun _=>qS) ?_
      refine vP 16 ?_
      refine VA.one (i:=17) qK ?_
      refine VS.effN rfl rfl rfl (Ef.storeF (enc:=encLn) (xs:=M) (⟨none,0,none,0,⟨1,(nth M (z1 % (ms.length:Int)).toNat).L.cap+z2 % 30,1,[],[]⟩⟩:LnM) 0 tab_ok rfl rfl rfl rfl rfl (by omega) (by rw[hMq];rfl) rfl (by decide) rfl ?_)
      refine⟨by first|exact RLe.refl _|assumption,qS,(noD qK),?_⟩
      refine VA.done qK ?_
      refine zU ?_
      obtain⟨M2,hM2⟩:∃ M2:List LnM,M2=M.set (z1 % (ms.length:Int)).toNat ⟨none,0,none,0,⟨1,(nth M (z1 % (ms.length:Int)).toNat).L.cap+z2 % 30,1,[],[]⟩⟩:=⟨_,rfl⟩
      have hM2l:M2.length=ms.length:=by rw[hM2,List.length_set,hMl]
      have hF3:FlatN M2 G:=by rw[hM2];exact hF1.set ⟨by omega,by omega⟩
      have hcle:∀ l,l<M.length→(nth M l).L.cap≤(nth M2 l).L.cap:=fun l hl=>by
       rw[hM2]
       by_cases e:(z1 % (ms.length:Int)).toNat=l
       ·subst e;rw[nth_set_self (by omega)];dsimp only;omega
       ·rw[nth_set_ne e];exact Int.le_refl _
      rw[← hM2]
      refine W.freeze (enc:=encLn) (xs:=M2) 0 rfl ?_
      intro R5 hR5 hl2
      refine W.freezeBlk 0 rfl ?_
      intro R6 hR6 h12
      refine W.freezeBlk 0 rfl ?_
      intro R7 hR7 h11
      have h12:=hR7 _ _ h12
      have hl2:=hl2.mono (hR6.trans hR7)
      have hR57:=hR5.trans (hR6.trans hR7)
      have hT:=hT.trans hR57
      have hna:=hna.mono hR57
      have hfa:=hfa.mono hR57
      have hla:=hla.mono hR57
      have hof:=fun x hx=>(hof x hx).mono hR57
      have h8:=hR57 _ _ h8
      refine zQ (zG ?_)
      refine yD (r:=by(exact Rd.ro qU)) (k:=?_)
      refine WL.call en8 rfl rfl qD (CallOp.mkT rfl rfl rfl rfl) (by
       have hk:=hF1.chk
       rw[hMl] at hk
       have h:=Least_C (nc:=nc) (lc:=lc) (fc:=fc) hna hla hfa (hF1.okLn _) hof hnl hk hF1.bn w0 []
       rw[hMl,hGl] at h
       exact h) ?_
      rintro _ RnA _ hRnA ⟨slA,cnA,eA,rfl,hA,-⟩
      refine WL.subE (List.nil_sublist _) ?_
      have hT:=hT.trans hRnA
      have hna:=hna.mono hRnA
      have hla:=hla.mono hRnA
      have hl2:=hl2.mono hRnA
      have hfa:=hfa.mono hRnA
      have hof:=fun x hx=>(hof x hx).mono hRnA
      have h8:=hRnA _ _ h8
      have h11:=hRnA _ _ h11
      have h12:=hRnA _ _ h12
      refine zR 7 rfl (zN (zU (zQ (zG ?_))))
      refine yD (r:=by(exact Rd.ro qU)) (k:=?_)
      refine WL.call en8 rfl rfl qD (CallOp.mkT rfl rfl rfl rfl) (by
       have hk:=hF2.chk
       rw[hMl] at hk
       have h:=Least_C (nc:=nc) (lc:=lc) (fc:=fc) hna hla (hfa.take _) (hF2.okLn _) (fun x hx=>hof x (List.mem_of_mem_take hx)) hnl hk hF2.bn w0 []
       rw[hMl,hTl] at h
       exact h) ?_
      rintro _ RnB _ hRnB ⟨slB,cnB,eB,rfl,hB,-⟩
      refine WL.subE (List.nil_sublist _) ?_
      have hT:=hT.trans hRnB
      have hna:=hna.mono hRnB
      have hla:=hla.mono hRnB
      have hl2:=hl2.mono hRnB
      have hfa:=hfa.mono hRnB
      have hof:=fun x hx=>(hof x hx).mono hRnB
      have h8:=hRnB _ _ h8
      have h11:=hRnB _ _ h11
      have h12:=hRnB _ _ h12
      refine zR 7 rfl (zN (zU (zQ (zG ?_))))
      refine yD (r:=by(exact Rd.ro qU)) (k:=?_)
      refine WL.call en8 rfl rfl qD (CallOp.mkT rfl rfl rfl rfl) (by
       have hk:=hF3.chk
       rw[hM2l] at hk
       have h:=Least_C (nc:=nc) (lc:=c77) (fc:=fc) hna hl2 hfa (hF3.okLn _) hof hnl hk hF3.bn w0 []
       rw[hM2l,hGl] at h
       exact h) ?_
      rintro _ RnC _ hRnC ⟨slC,cnC,eC,rfl,hC,-⟩
      refine WL.subE (List.nil_sublist _) ?_
      have hT:=hT.trans hRnC
      have hna:=hna.mono hRnC
      have hla:=hla.mono hRnC
      have hl2:=hl2.mono hRnC
      have hfa:=hfa.mono hRnC
      have hof:=fun x hx=>(hof x hx).mono hRnC
      have h8:=hRnC _ _ h8
      have h11:=hRnC _ _ h11
      have h12:=hRnC _ _ h12
      refine zR 7 rfl (zN (zU (zQ (zQ (zG (zR 2 rfl (zN (zU ?_))))))))
      refine cN rfl ?_ ?_<;>intro hc4
      ·
       refine zQ (zG ?_)
       refine WG.callV (v:=.bool true) en5 rfl rfl qD (CallOp.mk' rfl rfl rfl rfl) (fun _=>rfl) (fun hg=>I.Made_V) ?_
       refine zR 1 rfl (zN (zU (zT (wt ?_))))
       refine zq1 (by first|exact RLe.refl _|exact hT) ?_
       exact rfl
      ·
       refine zK (zU (zQ (zG (zR 3 rfl ?_))))
       refine yP ?_
       refine yP ?_
       refine WG.callV (v:=.bool true) en9 rfl rfl (by decide) (CallOp.mk' rfl rfl rfl rfl) qE (fun hg=>LessOk_V (fs:=G.take (fs.length - 1)) (ext:=G.drop (fs.length - 1)) (by rw[List.take_append_drop];exact hF1.bn) hF2.bn rfl (fun l _=>Int.le_refl _) (by rw[List.take_append_drop];exact(hA hc4).mono (hRnB.trans hRnC)) ((hB (by simpa using hg)).mono hRnC)) ?_
       refine yO ?_
       refine zR 1 rfl ?_
       refine yP ?_
       refine yP ?_
       refine yP ?_
       refine yP ?_
       refine yP ?_
       refine WG.callV (v:=.bool true) en9 rfl rfl (by decide) (CallOp.mk' rfl rfl rfl rfl) qE (fun hg=>LessOk_V (fs:=G) (ext:=[]) (by rw[List.append_nil];exact hF1.bn) hF3.bn (by rw[hM2l,hMl]) hcle (by rw[List.append_nil];exact(hA hc4).mono (hRnB.trans hRnC)) (hC (by simp at hg;first|exact hg|exact hg.2))) ?_
       refine yO ?_
       refine yN ?_
       refine zR 1 rfl ?_
       refine WG.callV (v:=.bool true) en5 rfl rfl qD (CallOp.mk' rfl rfl rfl rfl) qE (fun hg=>I.Made_V) ?_
       refine yN ?_
       refine zR 1 rfl (zN (zU (zT ?_)))
       refine zq1 (by first|exact RLe.refl _|exact hT) ?_
       (show Value.bool _=Value.bool true;simp)
     ·
      refine W.regionH _ (ES:=[]) mixed ?_
      refine tD 0 (r:=by(exact Rd.ro qU)) (k:=?_)
      refine tD 1 (r:=by(exact Rd.ro qU)) (k:=?_)
      refine WA.br2 (i:=2) (j:=3) qK ?_ ?_
      ·
       refine WS.eff rfl rfl rfl qD (Ef.alloc tab_ok rfl rfl (fun b11=>?_))
       refine⟨qR,qS,?_⟩
       refine WA.eff 3 rfl qK rfl rfl qD (Ef.alloc tab_ok rfl rfl (fun b12=>?_))
       refine⟨qR,qS,?_⟩
       refine zCE 4 1 ?_
       refine zCE 5 0 ?_
       refine WA.done qK ?_
       refine WE.cutP (b11,b12) trivial ⟨rfl,rfl,rfl,rfl,rfl,rfl⟩ (RLe.refl _) (by dsimp only;first|exact List.Perm.refl _|exact List.Perm.swap _ _ _)
      ·
       refine WS.eff rfl rfl rfl qD (Ef.alloc tab_ok rfl rfl (fun b12=>?_))
       refine⟨qR,qS,?_⟩
       refine WA.eff 2 rfl qK rfl rfl qD (Ef.alloc tab_ok rfl rfl (fun b11=>?_))
       refine⟨qR,qS,?_⟩
       refine zCE 4 0 ?_
       refine zCE 5 1 ?_
       refine WA.done qK ?_
       refine WE.cutP (b11,b12) trivial ⟨rfl,rfl,rfl,rfl,rfl,rfl⟩ (RLe.refl _) (by dsimp only;first|exact List.Perm.refl _|exact List.Perm.swap _ _ _)
end Go.Proofs.YtehaepbflkncdaaGreat
namespace Go.Proofs.YtehaepbflkncdaaGreat
open Go Go.RowKit Go.ChangeShapes Go.WideShapes Go.ChangeAt Go.WideElems Go.Maps Go.Proofs.YtehaepbflkncdaaGreat.K Go.Proofs.YtehaepbflkncdaaGreat.M
namespace topBesides
theorem own:ownKnob Tryz.prog.godebug=none:=by kernel_rfl
theorem laidOut:laidOutB Tryz.prog=true:=by kernel_rfl
theorem readable:(Tryz.f3.params.toList).all (fun t=>Tryz.prog.readableRec t && decide (t<Tryz.prog.types.size))=true:=by kernel_rfl
theorem cellsI:Tryz.prog.cellsOf 3=1:=by kernel_rfl
section
variable {H:Type} {enc:TypeId × Value→H}
theorem flat_ints:Flat enc Tryz.prog 3 1:=flat_int Tryz.underlying3
theorem cells_ints:Tryz.prog.cellsOf 3=1:=by kernel_rfl
end
set_option maxRecDepth 100000 in
theorem lifted (os:Os) (started:os.Started) (H:Type) (enc:TypeId × Value→H) :
  ReturnsInHanded {} Tryz.checked os 3 .any (Rows.topBesidesSpec.pre6 enc Tryz.prog Tryz.f3 Rows.topBesidesRow.domain false) (Rows.topBesidesSpec.post enc Tryz.prog Tryz.f3 false true false false):=by
 refine returnsInHanded_of_change (C:=Tryz.checked) own started (by kernel_rfl) Tryz.func3
  (ChangeSpec.witness6 (enc:=enc) (C:=Tryz.checked) false ⟨#[],#[.slice none 0 0,.int .u8 0,.int .u8 0],[]⟩ 8 (by kernel_rfl) (by kernel_rfl) (by kernel_rfl) (by kernel_rfl)) ?_
 intro W base args ds gs before hval0 hW _ _
 have hval:∀ (j:Nat) t v,Tryz.f3.params[j]?=some t→args[j]?=some v→Value.okWide Tryz.prog W .any base t v:=hval0
 have hW':=hW
 obtain⟨p,q,hA0,hV,rfl,_,_⟩:=hW
 have hA:DataW.TrodAll enc Tryz.prog W 0 (fun _=>true) true Tryz.f3.params.toList args.toList ds p:=hA0
 have hA1:=hA
 obtain⟨rfl,rfl⟩:=trodVars_none hV
 simp only[List.append_nil] at hW'
 have hlt:∀ x∈p,x.block<W.heap.size:=fun x hx=>by simpa using hW'.lt x hx
 have hcarry:∀ W',Below W.heap.size W W'→DataW.TrodAll enc Tryz.prog W' 0 (fun b=>decide (b<W.heap.size)) true Tryz.f3.params.toList args.toList ds p:=fun W' hb=>carryAll laidOut readable hA1 hb hlt
 clear hA0 hval0 hA1
 rw[Tryz.params3] at hA
 obtain⟨v0,vs0,d0,ds0,p0,q0,e0,rfl,e20,h0,t0⟩:=trodAll_cons hA
 obtain⟨v1,vs1,d1,ds1,p1,q1,rfl,rfl,e21,h1,t1⟩:=trodAll_cons t0
 obtain⟨v2,vs2,d2,ds2,p2,q2,rfl,rfl,e22,h2,t2⟩:=trodAll_cons t1
 obtain⟨rfl,rfl,_⟩:=trodAll_nil t2
 have hargs:args=#[v0,v1,v2]:=by rw[← Array.toArray_toList (xs:=args),e0]
 subst hargs
 obtain⟨a0,cp0,zs0,rfl,c0,l0,m0,r0⟩:=open_flat Tryz.underlying22 (by decide) cells_ints flat_ints (hval 0 22 _ rfl rfl) h0
 have g0:RS (roOf W) 1 encI a0 (zs0.map decI):=RS.ofFlat m0 l0 decI_enc
 have n0:(zs0.map decI).length=zs0.length:=by simp
 rw[← n0] at c0
 obtain⟨z1,rfl,_,_,w1⟩:=open_int Tryz.underlying5 (hval 1 5 _ rfl rfl) h1
 have r1:=bounds_u8 w1
 obtain⟨z2,rfl,_,_,w2⟩:=open_int Tryz.underlying5 (hval 2 5 _ rfl rfl) h2
 have r2:=bounds_u8 w2
 have hcall:=lift_calls (P:=Tryz.prog) (f:=3) (args:=[.slice a0 (zs0.map decI).length cp0,.int .u8 z1,.int .u8 z2]) (W:=W) (TopBesides_F g0 r1 r2 c0 W)
 simp only[List.length_map] at hcall
 refine hcall.mono fun e W' ⟨he,hb⟩=>?_
 subst he
 exact⟨_,rfl,⟨_,_,_,[],_,[],hW',trodAll_mk1 (shut_bool Tryz.underlying4 _),hcarry W' hb,rfl,hb.frame _,fun h=>by cases h⟩⟩
end topBesides
theorem topBesides_holds:Rows.TopBesidesSaid :=
 OpenClaim.holds_of_wide 3 Tryz.f3 rfl rfl rfl rfl rfl rfl rfl ⟨rfl,rfl,rfl,rfl,rfl⟩ rfl rfl rfl rfl rfl (by kernel_rfl) Tryz.func3 (by kernel_rfl)
  (of_decide_eq_true (by kernel_rfl)) (by unfold Func.isWrapper;first|(rw[if_pos (by decide +kernel)];kernel_rfl)|(rw[if_neg (by decide +kernel)];exact⟨rfl,rfl⟩))
  (fun os started H enc _=>topBesides.lifted os started H enc)
end Go.Proofs.YtehaepbflkncdaaGreat